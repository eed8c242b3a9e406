/-
  Parts of one proof, one behind the other: XT1, XApD, XApP, XApM, XApC, XAp4, XAp5, XAp6, XJn1, XHn1.
-/
import Derived.Test.YthcnfflhejogfaaDoorBApplyTells7
import Derived.BigRegion
import Derived.WalkMore
import Derived.Handy
import Derived.Laws.NewBlocks
import Derived.Deep.WholeRow
import Derived.Deep.MidRow
set_option linter.unusedVariables false
set_option linter.unusedSimpArgs false
set_option maxRecDepth 100000
set_option maxHeartbeats 8000000
namespace Go.Proofs.YthcnfflhejogfaaDoor.X.T20
open Go.RowKit Go.Proofs.YthcnfflhejogfaaDoorW.PrintWords Go.Proofs.YthcnfflhejogfaaDoorW.PrintLast Go.Proofs.YthcnfflhejogfaaDoorW.PrintMore
section InternMath_sec
def place (s:ByteArray):List ByteArray→Nat
  | []=>0
  | x :: xs=>if x=s then 0 else place s xs+1
def addT (t:List ByteArray) (s:ByteArray):List ByteArray:=if place s t < t.length then t else t ++ [s]
theorem place_get (s:ByteArray) : ∀ {t:List ByteArray} (h:place s t < t.length),t[place s t]=s
 | [],h=>by simp[place] at h
 | x :: xs,h=>by
  by_cases e:x=s
  (· simp[place,e]);(· (have h':place s xs < xs.length:=by simpa [place,e] using h);simp only[place,e,if_false,List.getElem_cons_succ];exact place_get s h')
theorem place_mem (s:ByteArray) : ∀ {t:List ByteArray},s ∈ t↔place s t < t.length
 | []=>by simp[place]
 | x :: xs=>by
  by_cases e:x=s
  (· simp[place,e]);(· (have e' : ¬ s=x:=fun h=>e h.symm);simp[place,e,e',place_mem s (t:=xs)])
def idsOne:List ByteArray→List ByteArray→List ByteArray × List Int
  | t,[]=>(t,[])
  | t,s :: l=>((idsOne (addT t s) l).1,(place s t:Int) :: (idsOne (addT t s) l).2)
def idsMany:List ByteArray→List (List ByteArray)→List (List Int)
  | _,[]=>[]
  | t,l :: ls=>(idsOne t l).2 :: idsMany (idsOne t l).1 ls
def idsAll (files:List (List ByteArray)):List (List Int):=idsMany [] files
theorem idsOne_length : ∀ (t l:List ByteArray),(idsOne t l).2.length=l.length
 | t,[]=>rfl
 | t,s :: l=>by simp[idsOne,idsOne_length (addT t s) l]
end InternMath_sec
section LcsMath_sec
def lcsL:List Int→List Int→Nat
  | [],_=>0
  | _ :: _,[]=>0
  | x :: xs,y :: ys=>if x=y then lcsL xs ys+1 else max (lcsL xs (y :: ys)) (lcsL (x :: xs) ys)
  termination_by a b=>a.length+b.length
@[simp] theorem lcsL_nil_left (b:List Int):lcsL [] b=0:=by unfold lcsL;rfl
@[simp] theorem lcsL_nil_right (a:List Int):lcsL a []=0:=by cases a <;> (unfold lcsL;rfl)
theorem lcsL_cons (x y:Int) (xs ys:List Int):lcsL (x :: xs) (y :: ys)=if x=y then lcsL xs ys+1 else max (lcsL xs (y :: ys)) (lcsL (x :: xs) ys):=by
 rw[lcsL]
def matchFrom:List Int→List Int→Nat→List Int
  | [],_,_=>[]
  | _ :: xs,[],j => -1 :: matchFrom xs [] j
  | x :: xs,y :: ys,j=>if x=y then (j:Int) :: matchFrom xs ys (j+1) else if lcsL (x :: xs) ys≤lcsL xs (y :: ys) then -1 :: matchFrom xs (y :: ys) j else matchFrom (x :: xs) ys (j+1)
  termination_by a b _=>a.length+b.length
def matchOf (a b:List Int):List Int:=matchFrom a b 0
theorem matchFrom_nil (b:List Int) (j:Nat):matchFrom [] b j=[]:=by unfold matchFrom;rfl
theorem matchFrom_none (x:Int) (xs:List Int) (j:Nat):matchFrom (x :: xs) [] j = -1 :: matchFrom xs [] j:=by rw[matchFrom]
theorem matchFrom_cons (x y:Int) (xs ys:List Int) (j:Nat):matchFrom (x :: xs) (y :: ys) j=if x=y then (j:Int) :: matchFrom xs ys (j+1) else if lcsL (x :: xs) ys≤lcsL xs (y :: ys) then -1 :: matchFrom xs (y :: ys) j else matchFrom (x :: xs) ys (j+1):=by rw[matchFrom]
theorem matchFrom_rest (a:List Int) (j:Nat):matchFrom a [] j=List.replicate a.length (-1):=by
 induction a with
 | nil=>rw[matchFrom_nil];rfl
 | cons x a ih=>rw[matchFrom_none,ih];rfl
theorem matchFrom_length (a b:List Int) (j:Nat):(matchFrom a b j).length=a.length:=by
 match a,b with
 | [],b=>simp[matchFrom_nil]
 | x :: xs,[]=>simp[matchFrom_rest]
 | x :: xs,y :: ys =>
  rw[matchFrom_cons];split;(· simp[matchFrom_length xs ys])
  ·
   split;(· simp[matchFrom_length xs (y :: ys)]);(· exact matchFrom_length (x :: xs) ys _)
 termination_by a.length+b.length
def Rises (a b:List Int) (j:Nat):List Int→Nat→Prop
  | [],n=>n=0∧True
  | m :: ms,n=>(m = -1∧Rises a.tail b j ms n)∨(∃ k n',m=((j+k:Nat):Int)∧n=n'+1∧b[k]? = a.head? ∧ a≠[]∧Rises a.tail (b.drop (k+1)) (j+k+1) ms n')
theorem rises_shift {a b:List Int} {j:Nat} {y:Int} : ∀ {ms:List Int} {n:Nat},ms.length=a.length→Rises a b (j+1) ms n→Rises a (y :: b) j ms n:=by
 intro ms
 induction ms generalizing a with
 | nil=>intro n _ h;exact h
 | cons m ms ih =>
  intro n hl h
  rcases h with ⟨h1,h2⟩|⟨k,n',h1,h2,h3,h4,h5⟩
  (· exact .inl ⟨h1,ih (by simp at hl ⊢;omega) h2⟩);(· exact .inr ⟨k+1,n',by rw[h1];congr 1;omega,h2,by simpa using h3,h4,by rw[show j+(k+1)+1=j+1+k+1 from by omega];simpa using h5⟩)
theorem matchFrom_rises (a b:List Int) (j:Nat):Rises a b j (matchFrom a b j) (lcsL a b):=by
 match a,b with
 | [],b=>rw[matchFrom_nil,lcsL_nil_left];exact⟨rfl,trivial⟩
 | x :: xs,[] =>
  rw[matchFrom_none,lcsL_nil_right];have:=matchFrom_rises xs [] j;(rw[lcsL_nil_right] at this);exact .inl ⟨rfl,this⟩
 | x :: xs,y :: ys =>
  rw[matchFrom_cons,lcsL_cons]
  by_cases e:x=y
  (· subst e;rw[if_pos rfl,if_pos rfl];exact .inr ⟨0,lcsL xs ys,by simp,rfl,by simp,by simp,by simpa using matchFrom_rises xs ys (j+1)⟩)
  ·
   rw[if_neg e,if_neg e]
   by_cases h:lcsL (x :: xs) ys≤lcsL xs (y :: ys)
   (· rw[if_pos h,Nat.max_eq_left h];exact .inl ⟨rfl,matchFrom_rises xs (y :: ys) j⟩);(· rw[if_neg h,Nat.max_eq_right (by omega)];exact rises_shift (matchFrom_length _ _ _) (matchFrom_rises (x :: xs) ys (j+1)))
 termination_by a.length+b.length
end LcsMath_sec
section Lcs4_sec
open Go.RowKit Go.Proofs.YthcnfflhejogfaaDoorW.PrintWords Go.Proofs.YthcnfflhejogfaaDoorW.PrintLast Go.Proofs.YthcnfflhejogfaaDoorW.PrintMore
section
variable {w W:World} {g g3 g0 g1 gs:Nat} {sa sb x2 x3 x4:Value} {nm m:Nat} {L0 L1 S:List Int}
end
theorem place_div {m i j:Nat} (hj:j < m):(i * m+j) / m=i∧(i * m+j) % m=j:=by
 constructor;(· rw[Nat.mul_comm,Nat.mul_add_div (by omega),Nat.div_eq_of_lt hj,Nat.add_zero]);(· rw[Nat.mul_comm,Nat.mul_add_mod,Nat.mod_eq_of_lt hj])
theorem place_lt {n m i j:Nat} (hi:i < n) (hj:j < m):i * m+j < n * m:=by
 have:(i+1) * m≤n * m:=Nat.mul_le_mul_right _ hi;(rw[Nat.succ_mul] at this);omega
section
variable {a b L0 L1 S:List Int} {i j:Nat} {x y:Int}
end
end Lcs4_sec
section Gap1_sec
open Go.RowKit Go.Proofs.YthcnfflhejogfaaDoorW.PrintWords Go.Proofs.YthcnfflhejogfaaDoorW.PrintLast Go.Proofs.YthcnfflhejogfaaDoorW.PrintMore
abbrev RowG:=List Int × ByteArray
end Gap1_sec
section Gap2_sec
open Go.RowKit Go.Proofs.YthcnfflhejogfaaDoorW.PrintWords Go.Proofs.YthcnfflhejogfaaDoorW.PrintLast Go.Proofs.YthcnfflhejogfaaDoorW.PrintMore
def noMarks:List Int:=List.replicate 16 0
def oneRow (col:Nat) (s:ByteArray):RowG:=(noMarks.set col 1,s)
end Gap2_sec
section GapMath_sec
def Up (hi:Nat):Nat→List Int→Prop
  | lo,[]=>lo≤hi
  | lo,m :: ms=>(m = -1∧Up hi lo ms)∨(∃ k:Nat,m=(k:Int)∧lo≤k∧k < hi∧Up hi (k+1) ms)
theorem up_of_rises {a b:List Int} : ∀ {ms:List Int} {a b:List Int} {j n:Nat},Rises a b j ms n→Up (j+b.length) j ms
 | [],a,b,j,n,h=>by simp[Up]
 | m :: ms,a,b,j,n,h=>by
  rcases h with ⟨h1,h2⟩|⟨k,n',h1,_,h3,h4,h5⟩
  (· exact .inl ⟨h1,up_of_rises (a:=[]) (b:=[]) h2⟩)
  ·
   have hk:k < b.length:=by
    rcases Nat.lt_or_ge k b.length with h|h
    (· exact h)
    ·
     (rw[List.getElem?_eq_none h] at h3)
     cases a with
     | nil=>exact absurd rfl h4
     | cons x xs=>cases h3
   have:=up_of_rises (a:=[]) (b:=[]) h5;(rw[List.length_drop] at this);refine .inr ⟨j+k,h1,by omega,by omega,?_⟩
   rwa [show j+k+1+(b.length - (k+1))=j+b.length by omega] at this
theorem match_up (a b:List Int):Up b.length 0 (matchOf a b):=by
 have:=up_of_rises (a:=[]) (b:=[]) (matchFrom_rises a b 0)
 rwa [Nat.zero_add] at this
def comeGo (col:Nat) (list:List ByteArray):List Int→List RowG→Nat→List RowG
  | m :: ms,x :: rs,at_=>if 0≤m then ((list.take m.toNat).drop at_).map (oneRow col) ++ (x.1.set col 1,x.2) :: comeGo col list ms rs (m.toNat+1) else x :: comeGo col list ms rs at_
  | _,_,at_=>(list.drop at_).map (oneRow col)
def idsOf2 (rs:List RowG) (list:List ByteArray):List (List Int):=idsAll [rs.map (·.2),list]
def matchG (rs:List RowG) (list:List ByteArray):List Int:=matchOf ((idsOf2 rs list).getD 0 []) ((idsOf2 rs list).getD 1 [])
def comeF (col:Nat) (list:List ByteArray) (rs:List RowG):List RowG:=comeGo col list (matchG rs list) rs 0
theorem ids2_len (rs:List RowG) (list:List ByteArray):((idsOf2 rs list).getD 0 []).length=rs.length∧((idsOf2 rs list).getD 1 []).length=list.length:=by
 constructor;(· show (idsOne [] (rs.map (·.2))).2.length=_;rw[idsOne_length,List.length_map]);(· show (idsOne _ list).2.length=_;rw[idsOne_length])
theorem matchG_len (rs:List RowG) (list:List ByteArray):(matchG rs list).length=rs.length:=by
 rw[matchG,matchOf,matchFrom_length,(ids2_len rs list).1]
theorem matchG_up (rs:List RowG) (list:List ByteArray):Up list.length 0 (matchG rs list):=by
 have:=match_up ((idsOf2 rs list).getD 0 []) ((idsOf2 rs list).getD 1 [])
 rwa [(ids2_len rs list).2] at this
theorem comeGo_nil (col:Nat) (list:List ByteArray) (rs:List RowG) (a:Nat):comeGo col list [] rs a=(list.drop a).map (oneRow col):=by cases rs <;> rfl
theorem comeGo_no (col:Nat) (list:List ByteArray) (ms:List Int) (x:RowG) (rs:List RowG) (a:Nat):comeGo col list (-1 :: ms) (x :: rs) a=x :: comeGo col list ms rs a:=by
 rw[comeGo,if_neg (by decide)]
theorem comeGo_yes (col:Nat) (list:List ByteArray) (k:Nat) (ms:List Int) (x:RowG) (rs:List RowG) (a:Nat):comeGo col list ((k:Int) :: ms) (x :: rs) a=((list.take k).drop a).map (oneRow col) ++ (x.1.set col 1,x.2) :: comeGo col list ms rs (k+1):=by
 rw[comeGo,if_pos (by omega),Int.toNat_natCast]
theorem comeGo_len (col:Nat) (list:List ByteArray) : ∀ (ms:List Int) (rs:List RowG) (a:Nat),ms.length=rs.length→Up list.length a ms→(comeGo col list ms rs a).length≤rs.length+(list.length - a)
 | [],rs,a,h,_=>by
  (rw[comeGo_nil];simp)
 | m :: ms,[],a,h,_=>by simp at h
 | m :: ms,y :: rs,a,h,hu=>by
  (have h':ms.length=rs.length:=by simpa using h)
  rcases hu with ⟨rfl,hu⟩|⟨k,rfl,h1,h2,hu⟩
  (· have:=comeGo_len col list ms rs a h' hu;(rw[comeGo_no,List.length_cons,List.length_cons];omega));(· have:=comeGo_len col list ms rs (k+1) h' hu;rw[comeGo_yes];simp only[List.length_append,List.length_map,List.length_drop,List.length_take,List.length_cons];omega)
theorem comeF_len (col:Nat) (list:List ByteArray) (rs:List RowG):(comeF col list rs).length≤rs.length+list.length:=by
 have:=comeGo_len col list _ rs 0 (matchG_len rs list) (matchG_up rs list);(rw[comeF];omega)
end GapMath_sec
section Gap5_sec
open Go.RowKit Go.Proofs.YthcnfflhejogfaaDoorW.PrintWords Go.Proofs.YthcnfflhejogfaaDoorW.PrintLast Go.Proofs.YthcnfflhejogfaaDoorW.PrintMore
def markB (m:Int):UInt8:=if m=0 then 32 else 45
def rowOut (n:Nat) (x:RowG):S57:=⟨⟨((x.1.map markB).take n).toArray⟩,x.2⟩
end Gap5_sec
section PairMath_sec
theorem place_inj {t:List ByteArray} {s s':ByteArray} (h:s ∈ t) (e:place s t=place s' t):s=s':=by
 have h1:=(place_mem s).1 h;(have h2:place s' t < t.length:=by omega);have e1:=place_get s h1;have e2:=place_get s' h2;rw[← e1,← e2]
 congr 1
def num (t:List ByteArray) (s:ByteArray):Int:=(place s t:Int)
theorem num_inj {t:List ByteArray} {s s':ByteArray} (h:s ∈ t) (e:num t s=num t s'):s=s':=place_inj h (by unfold num at e;omega)
def matchS (a b:List ByteArray):List Int:=matchOf (a.map (num (a ++ b))) (b.map (num (a ++ b)))
def lcsS (a b:List ByteArray):Nat:=lcsL (a.map (num (a ++ b))) (b.map (num (a ++ b)))
theorem matchS_length (a b:List ByteArray):(matchS a b).length=a.length:=by rw[matchS,matchOf,matchFrom_length,List.length_map]
def Fits (list:List ByteArray):List Int→List ByteArray→Nat→Prop
  | [],[],lo=>lo≤list.length
  | m :: ms,s :: ss,lo=>(m = -1∧Fits list ms ss lo)∨(∃ k:Nat,m=(k:Int)∧lo≤k∧list[k]? = some s∧Fits list ms ss (k+1))
  | _,_,_=>False
theorem fits_of_rises {f:ByteArray→Int} {list:List ByteArray} : ∀ {ms:List Int} {a b:List ByteArray} {j n:Nat},list.drop j=b→j≤list.length→ms.length=a.length→(∀ x ∈ a,∀ y ∈ b,f x=f y→x=y)→Rises (a.map f) (b.map f) j ms n→Fits list ms a j
 | [],[],b,j,n,hb,hj,hl,hf,h=>hj
 | [],_ :: _,b,j,n,hb,hj,hl,hf,h=>by simp at hl
 | _ :: _,[],b,j,n,hb,hj,hl,hf,h=>by simp at hl
 | m :: ms,x :: a,b,j,n,hb,hj,hl,hf,h=>by
  (have hl':ms.length=a.length:=by simpa using hl)
  rcases h with ⟨h1,h2⟩|⟨k,n',h1,h2,h3,h4,h5⟩
  (· exact .inl ⟨h1,fits_of_rises hb hj hl' (fun u hu=>hf u (by simp[hu])) h2⟩)
  ·
   (simp only[List.map_cons,List.head?_cons,List.getElem?_map,Option.map_eq_some_iff] at h3);obtain⟨y,hy,e⟩:=h3;have hym:y ∈ b:=List.mem_of_getElem? hy;have:=hf x (by simp) y hym e.symm;subst this;(rw[← hb,List.getElem?_drop] at hy);have hlt:=(List.getElem?_eq_some_iff.1 hy).1;refine .inr ⟨j+k,h1,by omega,hy,fits_of_rises (b:=b.drop (k+1)) (n:=n') ?_ (by omega) hl' (fun u hu v hv=>hf u (by simp[hu]) v (List.mem_of_mem_drop hv)) ?_⟩;(· (rw[← hb,List.drop_drop];rfl));(· (rw[List.map_drop];exact h5))
theorem matchS_fits (a b:List ByteArray):Fits b (matchS a b) a 0 :=
  fits_of_rises (f:=num (a ++ b)) (n:=lcsS a b) (List.drop_zero ..) (Nat.zero_le _) (matchS_length a b) (fun x hx y _ e=>num_inj (by simp[hx]) e) (matchFrom_rises _ _ 0)
end PairMath_sec
section GapLaw_sec
def rowsFrom:Nat→List (List ByteArray)→List RowG→List RowG
  | _,[],rs=>rs
  | i,l :: ls,rs=>rowsFrom (i+1) ls (comeF i l rs)
theorem rowsFrom_snoc : ∀ (ls:List (List ByteArray)) (i:Nat) (l:List ByteArray) (rs:List RowG),rowsFrom i (ls ++ [l]) rs=comeF (i+ls.length) l (rowsFrom i ls rs)
 | [],i,l,rs=>rfl
 | x :: ls,i,l,rs=>by
  simp only[List.cons_append,rowsFrom,List.length_cons];rw[rowsFrom_snoc ls (i+1) l _,show i+1+ls.length=i+(ls.length+1) by omega]
def rowsOf (ls:List (List ByteArray)):List RowG:=rowsFrom 0 ls []
theorem rowsOf_snoc (ls:List (List ByteArray)) (l:List ByteArray):rowsOf (ls ++ [l])=comeF ls.length l (rowsOf ls):=by
 (rw[rowsOf,rowsFrom_snoc,Nat.zero_add];rfl)
theorem snoc_induct {α:Type} {P:List α→Prop} (h0:P []) (h1 : ∀ l x,P l→P (l ++ [x])) : ∀ l,P l:=by
 intro l;rw[← l.reverse_reverse]
 induction l.reverse with
 | nil=>exact h0
 | cons x l ih=>rw[List.reverse_cons];exact h1 _ _ ih
def sumLen (ls:List (List ByteArray)):Nat:=(ls.map List.length).sum
theorem rowsOf_le : ∀ ls:List (List ByteArray),(rowsOf ls).length≤sumLen ls:=by
 (refine snoc_induct (Nat.zero_le _) fun ls l ih=>?_);rw[rowsOf_snoc];have:=comeF_len ls.length l (rowsOf ls);(simp only[sumLen,List.map_append,List.sum_append,List.map_cons,List.map_nil,List.sum_cons,List.sum_nil] at ih ⊢);omega
end GapLaw_sec
section Ref02_sec
open Go.RowKit Go.Proofs.YthcnfflhejogfaaDoorW.PrintWords Go.Proofs.YthcnfflhejogfaaDoorW.PrintLast Go.Proofs.YthcnfflhejogfaaDoorW.PrintMore
def fewB (l:List ByteArray) (n:Nat):Bool:=decide (l.length≤n ∧ ∀ s ∈ l,s.size≤100)
theorem ref_few01_l0 (l:List ByteArray) (n:Nat) (hn:n≤1000000) : ∀ (r i k:Nat),i+r=n+1→2 * r+2≤k→sennitref01_Few.l0 k l (n:Int) (i:Int)=some (decide (l.length≤n ∧ ∀ s ∈ l.drop i,s.size≤100))
 | 0,i,k+2,hi,hk=>by
  (have e:((l.length:Int)≤(n:Int))=(l.length≤n):=by simp);rw[sennitref01_Few.l0]
  by_cases h:(i:Int) < l.length
  (· rw[if_pos h,decide_eq_false (show ¬ ((i:Int)≤(n:Int)) by omega),sennitref01_Few.j1,if_neg (by decide),decide_eq_false (by omega),decide_eq_false (by omega)]);(· rw[if_neg h,sennitref01_Few.j1,if_neg (by decide),List.drop_of_length_le (by omega)];simp)
 | r+1,i,k+2,hi,hk=>by
  rw[sennitref01_Few.l0]
  by_cases h:(i:Int) < l.length
  ·
   have hd:l.drop i=l[i] :: l.drop (i+1):=List.drop_eq_getElem_cons (by omega);rw[if_pos h,decide_eq_true (show ((i:Int)≤(n:Int)) by omega),sennitref01_Few.j1,if_pos rfl,if_pos (by omega),if_pos h,rdOfN (by omega),hd]
   by_cases h2:100 < l[i].size
   (· rw[if_pos (by omega),decide_eq_false];rintro⟨_,h3⟩;have:=h3 l[i] List.mem_cons_self;omega);(· rw[if_neg (by omega),gw1 (by omega)];have:=ref_few01_l0 l n hn r (i+1) k (by omega) (by omega);rw[this];simp only[List.forall_mem_cons,show l[i].size≤100 from by omega,true_and])
  (· rw[if_neg h,sennitref01_Few.j1,if_neg (by decide),List.drop_of_length_le (by omega)];simp)
theorem ref_few01 (l:List ByteArray) (n:Nat) (hn:n≤1000000):Gives (fun k=>sennitref01_Few.f k l (n:Int)) (fewB l n) :=
  ⟨2 * (n+1)+2,fun k hk=>by
    have:=ref_few01_l0 l n hn (n+1) 0 k (by omega) hk
    simpa [sennitref01_Few.f,fewB] using this⟩
end Ref02_sec
section Ref03_sec
open Go.RowKit Go.Proofs.YthcnfflhejogfaaDoorW.PrintWords Go.Proofs.YthcnfflhejogfaaDoorW.PrintLast Go.Proofs.YthcnfflhejogfaaDoorW.PrintMore
theorem rd_of {L:List Int} {i:Nat} {x:Int} (h:L[i]? = some x):rd L (i:Int)=x:=by
 simp[rd,h]
def Tab (a b:List Int) (i c:Nat) (T:List Int):Prop :=
  T.length=(a.length+1) * (b.length+1) ∧ ∀ i' j',i'≤a.length→j'≤b.length→T[i' * (b.length+1)+j']? = some (if i < i'∨i=i'∧c≤j' then ((lcsL (a.drop i') (b.drop j'):Nat):Int) else 0)
section
variable {a b T:List Int}
theorem tab_place {n m i j:Nat} (hi:i≤n) (hj:j≤m):i * (m+1)+j < (n+1) * (m+1):=place_lt (by omega) (by omega)
theorem tab_ne {m i j i' j':Nat} (hj:j≤m) (hj':j'≤m) (h:i * (m+1)+j=i' * (m+1)+j'):i=i'∧j=j':=by
 have h1:=place_div (m:=m+1) (i:=i) (j:=j) (by omega);have h2:=place_div (m:=m+1) (i:=i') (j:=j') (by omega);(rw[h] at h1);exact⟨h1.1.symm.trans h2.1,h1.2.symm.trans h2.2⟩
theorem Tab.first(h:Tab a b a.length b.length T):Tab a b a.length 0 T:=by
 refine⟨h.1,fun i' j' hi hj=>?_⟩;rw[h.2 i' j' hi hj]
 congr 1
 by_cases e:i'=a.length
 (· subst e;rw[if_pos (show a.length < a.length∨a.length=a.length∧0≤j' by omega),show a.drop a.length=[] from List.drop_of_length_le (by omega),lcsL_nil_left];(split <;> rfl));(· rw[if_neg (show ¬ (a.length < i'∨a.length=i'∧b.length≤j') by omega),if_neg (show ¬ (a.length < i'∨a.length=i'∧0≤j') by omega)])
theorem Tab.put {i c:Nat} (h:Tab a b i (c+1) T) (hi:i≤a.length) (hc:c≤b.length):Tab a b i c (T.set (i * (b.length+1)+c) ((lcsL (a.drop i) (b.drop c):Nat):Int)):=by
 refine⟨by simpa using h.1,fun i' j' hi' hj'=>?_⟩
 by_cases e:i'=i∧j'=c
 (· obtain⟨rfl,rfl⟩:=e;rw[List.getElem?_set_self (by rw[h.1];exact tab_place hi hc),if_pos (by omega)])
 ·
  rw[List.getElem?_set_ne (fun h2=>e (by have:=tab_ne hc hj' h2;omega)),h.2 i' j' hi' hj']
  congr 1
  by_cases e2:i < i'∨i=i'∧c+1≤j'
  (· rw[if_pos e2,if_pos (by omega)]);(· rw[if_neg e2,if_neg (by omega)])
theorem Tab.at_ {i c i' j':Nat} (h:Tab a b i c T) (hi:i'≤a.length) (hj:j'≤b.length) (hd:i < i'∨i=i'∧c≤j'):rd T ((i':Int) * ((b.length:Int)+1)+(j':Int))=((lcsL (a.drop i') (b.drop j'):Nat):Int):=by
 have:=h.2 i' j' hi hj;(rw[if_pos hd] at this);have e:=rd_of this;rw[← e]
 congr 1
end
section
variable {a b:List Int}
end
end Ref03_sec
section Ref19_sec
open Go.RowKit Go.Proofs.YthcnfflhejogfaaDoorW.PrintWords Go.Proofs.YthcnfflhejogfaaDoorW.PrintLast Go.Proofs.YthcnfflhejogfaaDoorW.PrintMore
abbrev ApiRow:=S57
def bs (l:List UInt8):ByteArray:=⟨l.toArray⟩
theorem bs_append (a b:List UInt8):bs a ++ bs b=bs (a ++ b):=by
 apply ByteArray.ext;simp[bs,ByteArray.data_append]
section
variable {col:Nat} {list:List ByteArray} {R:List ApiRow} {ms:List Int}
end
end Ref19_sec
section GapTells_sec
open Go.RowKit Go.Proofs.YthcnfflhejogfaaDoorW.PrintWords Go.Proofs.YthcnfflhejogfaaDoorW.PrintLast Go.Proofs.YthcnfflhejogfaaDoorW.PrintMore
theorem sumLen_take (n:Nat) : ∀ (ls:List (List ByteArray)) (i:Nat),(∀ l ∈ ls,l.length≤n)→sumLen (ls.take i)≤i * n
 | [],i,h=>by simp[sumLen]
 | l :: ls,0,h=>by simp[sumLen]
 | l :: ls,i+1,h=>by
  have h1:=sumLen_take n ls i (fun x hx=>h x (List.mem_cons_of_mem _ hx));have h2:=h l List.mem_cons_self;rw[Nat.succ_mul];(simp only[sumLen,List.take_succ_cons,List.map_cons,List.sum_cons] at h1 ⊢);omega
end GapTells_sec
section Contains_sec
open Go.RowKit Go.Proofs.YthcnfflhejogfaaDoorW.PrintWords Go.Proofs.YthcnfflhejogfaaDoorW.PrintLast Go.Proofs.YthcnfflhejogfaaDoorW.PrintMore
def longL (l:List ByteArray):Bool:=decide (2000 < l.length)
def wrongF (may:List ByteArray→Bool) (L:List (List ByteArray)):Int :=
  if L.length < 2∨17 < L.length then 1 else if L.any (fun l => !may l)=true then 2 else if L.any longL=true then 4 else 0
end Contains_sec
section Lose_sec
open Go.RowKit Go.Proofs.YthcnfflhejogfaaDoorW.PrintWords Go.Proofs.YthcnfflhejogfaaDoorW.PrintLast Go.Proofs.YthcnfflhejogfaaDoorW.PrintMore
open Go.Maps
def loseAt (N col:Nat) (parent:List ByteArray) (lost:Nat→Option (List (List ByteArray))) (to_ at_ line:Nat):Nat→Option (List (List ByteArray)) :=
  if at_ < to_ then fun q=>if q=line then some (((lost line).getD (List.replicate N [])).set col ((parent.take to_).drop at_)) else lost q else lost
end Lose_sec
section Pair_sec
open Go.RowKit Go.Proofs.YthcnfflhejogfaaDoorW.PrintWords Go.Proofs.YthcnfflhejogfaaDoorW.PrintLast Go.Proofs.YthcnfflhejogfaaDoorW.PrintMore
open Go.Maps
def pairGo (N col:Nat) (parent:List ByteArray):List Int→Nat→Nat→Nat→(Nat→Option (List (List ByteArray)))→Nat→Option (List (List ByteArray))
  | [],i,at_,last,lost=>loseAt N col parent lost parent.length at_ last
  | m :: ms,i,at_,last,lost=>if 0≤m then pairGo N col parent ms (i+1) (m.toNat+1) (i+1) (loseAt N col parent lost m.toNat at_ last) else pairGo N col parent ms (i+1) at_ last lost
def markS (m:Int):ByteArray:=if 0≤m then ⟨#[32]⟩ else ⟨#[43]⟩
def marksF (marks:List ByteArray) (ms:List Int):List ByteArray:=(marks.getD 0 ByteArray.empty ++ ⟨#[32]⟩) :: List.zipWith (fun s m=>s ++ markS m) marks.tail ms
end Pair_sec
section Put_sec
open Go.RowKit Go.Proofs.YthcnfflhejogfaaDoorW.PrintWords Go.Proofs.YthcnfflhejogfaaDoorW.PrintLast Go.Proofs.YthcnfflhejogfaaDoorW.PrintMore
open Go.Maps
def lostRows (x:Option (List (List ByteArray))):List S57:=match x with|none=>[]|some ls=>(rowsOf ls).map (rowOut ls.length)
end Put_sec
section Table_sec
open Go.RowKit Go.Proofs.YthcnfflhejogfaaDoorW.PrintWords Go.Proofs.YthcnfflhejogfaaDoorW.PrintLast Go.Proofs.YthcnfflhejogfaaDoorW.PrintMore
open Go.Maps
def marksAll (result:List ByteArray) (parents:List (List ByteArray)):List ByteArray :=
  parents.foldl (fun M p=>marksF M (matchS result p)) (⟨#[32]⟩ :: List.replicate result.length ByteArray.empty)
def lostFrom (N:Nat) (result:List ByteArray):List (List ByteArray)→Nat→(Nat→Option (List (List ByteArray)))→Nat→Option (List (List ByteArray))
  | [],_,lost=>lost
  | p :: ps,col,lost=>lostFrom N result ps (col+1) (pairGo N col p (matchS result p) 0 0 0 lost)
def lostAll (result:List ByteArray) (parents:List (List ByteArray)):Nat→Option (List (List ByteArray)):=lostFrom parents.length result parents 0 (fun _=>none)
def tableRows (result:List ByteArray) (parents:List (List ByteArray)):Nat→List S57
  | 0=>[]
  | k+1=>tableRows result parents k ++ lostRows (lostAll result parents k) ++ [⟨(marksAll result parents).getD (k+1) ByteArray.empty,result.getD k ByteArray.empty⟩]
def tableAll (result:List ByteArray) (parents:List (List ByteArray)):List S57:=tableRows result parents result.length ++ lostRows (lostAll result parents result.length)
def tableOk (result:List ByteArray) (parents:List (List ByteArray)):Bool :=
  decide (result.length≤1000000∧parents.length≤1000 ∧ ∀ l ∈ result :: parents,l.length≤1000000 ∧ ∀ s ∈ l,s.size≤1000000000) &&
    (decide (wrongF mayL (result :: parents)≠0) || decide (result.length+sumLen parents≤2000))
theorem marksF_length {M:List ByteArray} {ms:List Int} (h:M.length=ms.length+1):(marksF M ms).length=M.length:=by
 (simp[marksF];omega)
theorem marksF_get {M:List ByteArray} {ms:List Int} (n:Nat) (h:M.length=ms.length+1) (h0:(M.getD 0 ByteArray.empty).size=n+1) (hr : ∀ i,1≤i→i < M.length→(M.getD i ByteArray.empty).size=n) :
    ((marksF M ms).getD 0 ByteArray.empty).size=n+2 ∧ ∀ i,1≤i→i < M.length→((marksF M ms).getD i ByteArray.empty).size=n+1:=by
 refine⟨?_,fun i h1 h2=>?_⟩;(· show (M.getD 0 ByteArray.empty ++ ⟨#[32]⟩).size=_;(rw[ByteArray.size_append,h0];rfl))
 ·
  obtain⟨j,rfl⟩ : ∃ j,i=j+1:=⟨i - 1,by omega⟩;(have hj:j < ms.length:=by omega)
  have e:(marksF M ms).getD (j+1) ByteArray.empty=M.getD (j+1) ByteArray.empty ++ markS ms[j]:=by
   have hlen:=marksF_length h;rw[show (marksF M ms).getD (j+1) ByteArray.empty=(marksF M ms)[j+1]'(by omega) by simp[show j+1 < (marksF M ms).length by omega]];simp only[marksF,List.getElem_cons_succ,List.getElem_zipWith,List.getElem_tail];rw[show M.getD (j+1) ByteArray.empty=M[j+1] by simp[h2]]
  rw[e,ByteArray.size_append,hr (j+1) (by omega) h2];(unfold markS;split <;> rfl)
theorem lostFrom_snoc (N:Nat) (result:List ByteArray) : ∀ (ps:List (List ByteArray)) (p:List ByteArray) (col:Nat) (lost:Nat→Option (List (List ByteArray))),lostFrom N result (ps ++ [p]) col lost=pairGo N (col+ps.length) p (matchS result p) 0 0 0 (lostFrom N result ps col lost)
 | [],p,col,lost=>rfl
 | x :: ps,p,col,lost=>by
  rw[List.cons_append,lostFrom,lostFrom,lostFrom_snoc N result ps p (col+1) _,List.length_cons,show col+1+ps.length=col+(ps.length+1) by omega]
def marksK (result:List ByteArray) (parents:List (List ByteArray)) (k:Nat):List ByteArray:=marksAll result (parents.take k)
theorem marksK_succ (result:List ByteArray) (parents:List (List ByteArray)) {k:Nat} (h:k < parents.length):marksK result parents (k+1)=marksF (marksK result parents k) (matchS result (parents.getD k [])):=by
 rw[marksK,marksK,marksAll,marksAll,← List.take_append_getElem h,List.foldl_append,show parents.getD k []=parents[k] by simp[h]];rfl
theorem marksK_ok (result:List ByteArray) (parents:List (List ByteArray)) : ∀ k,k≤parents.length→(marksK result parents k).length=result.length+1∧((marksK result parents k).getD 0 ByteArray.empty).size=k+1 ∧ ∀ i,1≤i→i < result.length+1→((marksK result parents k).getD i ByteArray.empty).size=k
 | 0,_=>by
  refine⟨by simp[marksK,marksAll],rfl,fun i h1 h2=>?_⟩;obtain⟨j,rfl⟩ : ∃ j,i=j+1:=⟨i - 1,by omega⟩;show ((⟨#[32]⟩ :: List.replicate result.length ByteArray.empty).getD (j+1) ByteArray.empty).size=0;rw[List.getD_cons_succ];simp[List.getD_eq_getElem?_getD,List.getElem?_replicate,show j < result.length by omega]
 | k+1,hk=>by
  obtain⟨h1,h2,h3⟩:=marksK_ok result parents k (by omega);(have hl:(marksK result parents k).length=(matchS result (parents.getD k [])).length+1:=by rw[h1,matchS_length]);rw[marksK_succ _ _ (by omega)];obtain⟨g1,g2⟩:=marksF_get k hl h2 (fun i a b=>h3 i a (by omega));exact⟨by rw[marksF_length hl,h1],g1,fun i a b=>g2 i a (by omega)⟩
def lostK (result:List ByteArray) (parents:List (List ByteArray)) (k:Nat):Nat→Option (List (List ByteArray)):=lostFrom parents.length result (parents.take k) 0 (fun _=>none)
theorem lostK_succ (result:List ByteArray) (parents:List (List ByteArray)) {k:Nat} (h:k < parents.length):lostK result parents (k+1)=pairGo parents.length k (parents.getD k []) (matchS result (parents.getD k [])) 0 0 0 (lostK result parents k):=by
 rw[lostK,lostK,← List.take_append_getElem h,lostFrom_snoc,List.length_take_of_le (by omega),Nat.zero_add,show parents.getD k []=parents[k] by simp[h]]
end Table_sec
section TabRows_sec
open Go.RowKit Go.Proofs.YthcnfflhejogfaaDoorW.PrintWords Go.Proofs.YthcnfflhejogfaaDoorW.PrintLast Go.Proofs.YthcnfflhejogfaaDoorW.PrintMore
theorem index45_cases (u:List UInt8):(¬ (45:UInt8) ∈ u∧Lib.indexByte u 45 = -1)∨((45:UInt8) ∈ u∧0≤Lib.indexByte u 45):=by
 induction u with
 | nil=>left;simp[Lib.indexByte]
 | cons x xs ih =>
  simp only[Lib.indexByte,List.mem_cons]
  by_cases e:x=45
  (· (right;simp[e]))
  ·
   (have e':(x == 45)=false:=by simp[e]);(have e2 : ¬ (45:UInt8)=x:=fun h=>e h.symm);rw[e']
   rcases ih with ⟨h1,h2⟩|⟨h1,h2⟩
   (· (left;simp[h1,h2,e2]));(· right;refine⟨.inr h1,?_⟩;rw[if_neg (by decide),if_neg (by simp;omega)];omega)
theorem index45 (u:List UInt8):decide (0≤Lib.indexByte u 45)=decide ((45:UInt8) ∈ u):=by
 rw[decide_eq_decide]
 rcases index45_cases u with ⟨h1,h2⟩|⟨h1,h2⟩
 (· simp[h1,h2]);(· simp[h1,h2])
theorem byte45 (c:UInt8):((c.toNat:Int)=45)↔c=45:=by
 constructor;(· intro h;(have:c.toNat=45:=by omega);exact UInt8.toNat_inj.1 this);(· (rintro rfl;rfl))
theorem lostB_mem (s:ByteArray):lostB s=decide ((45:UInt8) ∈ s.data.toList):=index45 _
section
variable {R:List ApiRow}
end
end TabRows_sec
section TabMath_sec
open Go.RowKit Go.Proofs.YthcnfflhejogfaaDoorW.PrintWords Go.Proofs.YthcnfflhejogfaaDoorW.PrintLast Go.Proofs.YthcnfflhejogfaaDoorW.PrintMore
def nextM:List Int→Nat→Nat
  | [],n=>n
  | m :: t,n=>if 0≤m then m.toNat else nextM t n
def fromM (ms:List Int):Nat→Option Nat
  | 0=>some 0
  | q+1=>if 0≤ms.getD q (-1) then some ((ms.getD q (-1)).toNat+1) else none
def segL (p:List ByteArray) (ms:List Int) (q:Nat):List ByteArray :=
  match fromM ms q with
  | none=>[]
  | some a=>(p.take (nextM (ms.drop q) p.length)).drop a
def updSeg (N col:Nat) (p:List ByteArray) (ms:List Int) (lost:Nat→Option (List (List ByteArray))) (q:Nat):Option (List (List ByteArray)) :=
  if segL p ms q=[] then lost q else some (((lost q).getD (List.replicate N [])).set col (segL p ms q))
theorem Fits.next {list:List ByteArray} : ∀ {ms:List Int} {ss:List ByteArray} {lo:Nat},Fits list ms ss lo→lo≤nextM ms list.length∧nextM ms list.length≤list.length
 | [],[],lo,h=>⟨h,Nat.le_refl _⟩
 | [],_ :: _,lo,h=>h.elim
 | m :: ms,s :: ss,lo,h=>by
  rcases h with ⟨rfl,h⟩|⟨k,rfl,h1,h2,h3⟩
  (· (rw[nextM,if_neg (by decide)];exact h.next));(· have:=(List.getElem?_eq_some_iff.1 h2).1;(rw[nextM,if_pos (by omega),Int.toNat_natCast];omega))
 | _ :: _,[],lo,h=>h.elim
theorem Fits.at_ {list:List ByteArray} : ∀ {ms:List Int} {ss:List ByteArray} {lo:Nat},Fits list ms ss lo → ∀ q,q < ms.length→(ms.getD q (-1) = -1) ∨ ∃ k:Nat,ms.getD q (-1)=(k:Int)∧list[k]? = ss[q]? ∧ k < list.length∧k+1≤nextM (ms.drop (q+1)) list.length
 | [],ss,lo,h,q,hq=>absurd hq (by simp)
 | m :: ms,s :: ss,lo,h,0,hq=>by
  rcases h with ⟨rfl,h⟩|⟨k,rfl,h1,h2,h3⟩
  (· exact .inl rfl);(· exact .inr ⟨k,rfl,by rw[h2];rfl,(List.getElem?_eq_some_iff.1 h2).1,h3.next.1⟩)
 | m :: ms,s :: ss,lo,h,q+1,hq=>by
  (have hq':q < ms.length:=by simpa using hq)
  rcases h with ⟨rfl,h⟩|⟨k,rfl,h1,h2,h3⟩
  (· exact h.at_ q hq');(· exact h3.at_ q hq')
 | _ :: _,[],lo,h,q,hq=>h.elim
theorem Fits.drop_next {list:List ByteArray} : ∀ {ms:List Int} {ss:List ByteArray} {lo:Nat},Fits list ms ss lo → ∀ q,nextM (ms.drop q) list.length≤list.length
 | ms,ss,lo,h,0=>h.next.2
 | [],ss,lo,h,q+1=>Nat.le_refl _
 | m :: ms,s :: ss,lo,h,q+1=>by
  rcases h with ⟨rfl,h⟩|⟨k,rfl,h1,h2,h3⟩
  (· exact h.drop_next q);(· exact h3.drop_next q)
 | _ :: _,[],lo,h,q+1=>h.elim
theorem nextM_skip {ms:List Int} {L:Nat} (last:Nat) : ∀ (n:Nat),last+n≤ms.length→(∀ j,last≤j→j < last+n→ms.getD j (-1) < 0)→nextM (ms.drop last) L=nextM (ms.drop (last+n)) L
 | 0,_,_=>rfl
 | n+1,hl,hn=>by
  rw[nextM_skip last n (by omega) (fun j h1 h2=>hn j h1 (by omega)),dropCons (i:=last+n) (by omega),nextM];have:=hn (last+n) (by omega) (by omega);(rw[show ms.getD (last+n) (-1)=ms[last+n] by simp[List.getD_eq_getElem?_getD,List.getElem?_eq_getElem (show last+n < ms.length by omega)]] at this);(rw[if_neg (by omega)];rfl)
theorem fromM_none {ms:List Int} {last i q:Nat} (h : ∀ j,last≤j→j < i→ms.getD j (-1) < 0) (h1:last < q) (h2:q≤i∨ms.length≤i):fromM ms q=none:=by
 obtain⟨q,rfl⟩ : ∃ q',q=q'+1:=⟨q - 1,by omega⟩;rw[fromM]
 have:ms.getD q (-1) < 0:=by
  by_cases hq:q < i
  (· exact h q (by omega) hq);(· (rw[List.getD_eq_getElem?_getD,List.getElem?_eq_none (by omega)];decide))
 rw[if_neg (by omega)]
theorem segL_none {p:List ByteArray} {ms:List Int} {q:Nat} (h:fromM ms q=none):segL p ms q=[]:=by rw[segL,h]
theorem loseAt_eq {N col:Nat} {p:List ByteArray} {ms:List Int} {lost:Nat→Option (List (List ByteArray))} {at_ last:Nat} (hF:nextM (ms.drop last) p.length≤p.length) (ha:fromM ms last=some at_) (q:Nat) :
    loseAt N col p lost (nextM (ms.drop last) p.length) at_ last q=if q=last then updSeg N col p ms lost q else lost q:=by
 (have hs:segL p ms last=(p.take (nextM (ms.drop last) p.length)).drop at_:=by rw[segL,ha])
 by_cases hq:q=last
 ·
  subst hq;rw[if_pos rfl,updSeg,hs,loseAt]
  by_cases h:at_ < nextM (ms.drop q) p.length
  (· (have hne : ¬ (p.take (nextM (ms.drop q) p.length)).drop at_=[]:=by rw[List.drop_eq_nil_iff,List.length_take];omega);rw[if_pos h,if_neg hne];exact if_pos rfl);(· rw[if_neg h,if_pos (List.drop_eq_nil_iff.2 (by simp;omega))])
 ·
  rw[if_neg hq,loseAt];split;(· simp[hq]);(· rfl)
theorem pairGo_eq {N col:Nat} {p ss:List ByteArray} {ms:List Int} (hF:Fits p ms ss 0) : ∀ (t:List Int) (i at_ last:Nat) (lost:Nat→Option (List (List ByteArray))),ms.drop i=t→last≤i→i≤ms.length→fromM ms last=some at_→(∀ j,last≤j→j < i→ms.getD j (-1) < 0) →
    ∀ q,pairGo N col p t i at_ last lost q=if q < last then lost q else updSeg N col p ms lost q
  | [],i,at_,last,lost,hd,hli,hi,ha,hn,q=>by
    have hlen:ms.length≤i:=List.drop_eq_nil_iff.1 hd
    have hnx:nextM (ms.drop last) p.length=p.length:=by
      rw[nextM_skip last (i - last) (by omega) (fun j a b=>hn j a (by omega)),show last+(i - last)=i by omega,hd];rfl
    have:=loseAt_eq (N:=N) (col:=col) (lost:=lost) (by rw[hnx];exact Nat.le_refl _) ha q
    rw[hnx] at this
    rw[pairGo,this]
    by_cases h1:q < last
    · rw[if_neg (by omega),if_pos h1]
    · rw[if_neg h1]
      by_cases h2:q=last
      · rw[if_pos h2]
      · rw[if_neg h2,updSeg,if_pos (segL_none (fromM_none hn (by omega) (.inr hlen)))]
  | m :: t,i,at_,last,lost,hd,hli,hi,ha,hn,q=>by
    have hil:i < ms.length:=by
      apply Classical.byContradiction
      intro h
      rw[List.drop_of_length_le (by omega)] at hd
      cases hd
    rw[dropCons hil] at hd
    have hm:ms[i]=m:=(List.cons.inj hd).1
    have ht:ms.drop (i+1)=t:=(List.cons.inj hd).2
    have hg:ms.getD i (-1)=m:=by rw[← hm];simp[List.getD_eq_getElem?_getD,List.getElem?_eq_getElem hil]
    rw[pairGo]
    by_cases h0:0≤m
    · rw[if_pos h0,pairGo_eq hF t (i+1) (m.toNat+1) (i+1) _ ht (Nat.le_refl _) hil (by rw[fromM,hg,if_pos h0]) (fun j a b=>by omega) q]
      have hnx:nextM (ms.drop last) p.length=m.toNat:=by
        rw[nextM_skip last (i - last) (by omega) (fun j a b=>hn j a (by omega)),show last+(i - last)=i by omega,dropCons hil,nextM,hm,if_pos h0]
      have:=loseAt_eq (N:=N) (col:=col) (lost:=lost) (hF.drop_next last) ha
      rw[hnx] at this
      by_cases h1:q < last
      · rw[if_pos (by omega),if_pos h1,this q,if_neg (by omega)]
      · rw[if_neg h1]
        by_cases h2:q=last
        · rw[if_pos (by omega),this q,if_pos h2]
        · by_cases h3:q < i+1
          · rw[if_pos h3,this q,if_neg h2,updSeg,if_pos (segL_none (fromM_none hn (by omega) (.inl (by omega))))]
          · rw[if_neg h3,updSeg,updSeg,this q,if_neg h2]
    · rw[if_neg h0,pairGo_eq hF t (i+1) at_ last lost ht (by omega) hil ha (fun j a b=>by
        by_cases hj:j=i
        · subst hj;rw[hg];omega
        · exact hn j a (by omega)) q]
def segsL (result:List ByteArray) (ps:List (List ByteArray)) (q:Nat):List (List ByteArray):=ps.map (fun p=>segL p (matchS result p) q)
theorem segsL_length (result:List ByteArray) (ps:List (List ByteArray)) (q:Nat):(segsL result ps q).length=ps.length:=List.length_map ..
theorem empties {ls:List (List ByteArray)} (h:ls.all (·.isEmpty)=true):ls=List.replicate ls.length []:=by
 induction ls with
 | nil=>rfl
 | cons l t ih =>
  (simp only[List.all_cons,Bool.and_eq_true,List.isEmpty_iff] at h);rw[List.length_cons,List.replicate_succ,h.1,← ih h.2]
theorem lostK_eq (result:List ByteArray) (parents:List (List ByteArray)) (q:Nat) : ∀ k,k≤parents.length→lostK result parents k q=if (segsL result (parents.take k) q).all (·.isEmpty)=true then none else some (segsL result (parents.take k) q ++ List.replicate (parents.length - k) [])
 | 0,_=>by
  (rw[List.take_zero];rfl)
 | k+1,hk=>by
  (have hkl:k < parents.length:=by omega);have ih:=lostK_eq result parents q k (by omega);have hpg:pairGo parents.length k (parents.getD k []) (matchS result (parents.getD k [])) 0 0 0 (lostK result parents k) q=_:=pairGo_eq (matchS_fits result _) _ 0 0 0 _ rfl (Nat.le_refl _) (Nat.zero_le _) rfl (fun j a b=>by omega) q;rw[lostK_succ _ _ hkl,hpg,if_neg (by omega),updSeg];(have hp:parents.getD k []=parents[k]:=by simp[hkl])
  have hs:segsL result (parents.take (k+1)) q=segsL result (parents.take k) q ++ [segL (parents.getD k []) (matchS result (parents.getD k [])) q]:=by
   (rw[← List.take_append_getElem hkl,segsL,List.map_append,hp];rfl)
  rw[hs];obtain⟨S,hS⟩ : ∃ S,segsL result (parents.take k) q=S:=⟨_,rfl⟩;obtain⟨s,hs1⟩ : ∃ s,segL (parents.getD k []) (matchS result (parents.getD k [])) q=s:=⟨_,rfl⟩;(have hSl:S.length=k:=by rw[← hS,segsL_length,List.length_take];omega);(rw[hS] at ih);rw[hS,hs1]
  have hrep:List.replicate (parents.length - k) ([]:List ByteArray)=[] :: List.replicate (parents.length - (k+1)) []:=by
   rw[show parents.length - k=(parents.length - (k+1))+1 by omega,List.replicate_succ]
  by_cases e:s=[]
  (· subst e;rw[if_pos rfl,ih,List.all_append];have:([[]]:List (List ByteArray)).all (·.isEmpty)=true:=rfl;rw[this,Bool.and_true,hrep];simp)
  ·
   have hne:(S ++ [s]).all (·.isEmpty)=false:=by
    rw[List.all_append]
    have:([s]:List (List ByteArray)).all (·.isEmpty)=false:=by
     cases s with
     | nil=>exact absurd rfl e
     | cons a b=>rfl
    rw[this,Bool.and_false]
   rw[if_neg e,hne,if_neg (by decide)]
   have hget:(lostK result parents k q).getD (List.replicate parents.length [])=S ++ List.replicate (parents.length - k) []:=by
    rw[ih]
    by_cases ha:S.all (·.isEmpty)=true
    ·
     rw[if_pos ha,Option.getD_none];have:=empties ha;(rw[hSl] at this);rw[this,List.replicate_append_replicate]
     congr 1;omega
    (· (rw[if_neg ha];rfl))
   (rw[hget,hrep,List.set_append,if_neg (by omega),hSl,Nat.sub_self,List.set_cons_zero,List.append_assoc];rfl)
theorem lostAll_eq (result:List ByteArray) (parents:List (List ByteArray)) (q:Nat):lostAll result parents q=if (segsL result parents q).all (·.isEmpty)=true then none else some (segsL result parents q):=by
 have:=lostK_eq result parents q parents.length (Nat.le_refl _);(rw[List.take_length,Nat.sub_self,List.replicate_zero,List.append_nil,lostK,List.take_length] at this);exact this
theorem rowsOf_empties {ls:List (List ByteArray)} (h:ls.all (·.isEmpty)=true):rowsOf ls=[]:=by
 have h1:=rowsOf_le ls
 have h2:sumLen ls=0:=by
  (rw[empties h];simp[sumLen])
 (rw[h2] at h1);exact List.length_eq_zero_iff.1 (by omega)
theorem lostRows_eq (result:List ByteArray) (parents:List (List ByteArray)) (q:Nat):lostRows (lostAll result parents q)=(rowsOf (segsL result parents q)).map (rowOut parents.length):=by
 rw[lostAll_eq]
 by_cases h:(segsL result parents q).all (·.isEmpty)=true
 (· (rw[if_pos h,lostRows,rowsOf_empties h];rfl));(· rw[if_neg h,lostRows,segsL_length])
def marksU (result:List ByteArray) (ps:List (List ByteArray)) (k:Nat):List UInt8:=ps.map (fun p=>if 0≤(matchS result p).getD k 0 then 32 else 43)
theorem markS_bs (m:Int):markS m=bs [if 0≤m then 32 else 43]:=by
 unfold markS;(split <;> rfl)
theorem marksK_eq (result:List ByteArray) (parents:List (List ByteArray)) (q:Nat) (hq:q < result.length) : ∀ k,k≤parents.length→(marksK result parents k).getD (q+1) ByteArray.empty=bs (marksU result (parents.take k) q)
 | 0,_=>by
  show ((⟨#[32]⟩ :: List.replicate result.length ByteArray.empty).getD (q+1) ByteArray.empty)=_;rw[List.getD_cons_succ];simp[List.getD_eq_getElem?_getD,List.getElem?_replicate,hq,marksU];rfl
 | k+1,hk=>by
  (have hkl:k < parents.length:=by omega);(have hp:parents.getD k []=parents[k]:=by simp[hkl]);have hM:=(marksK_ok result parents k (by omega)).1;have ih:=marksK_eq result parents q hq k (by omega);rw[marksK_succ _ _ hkl,marksF,List.getD_cons_succ];have hml:=matchS_length result (parents.getD k []);(have h1:q < (marksK result parents k).tail.length:=by simp[hM];exact hq);(have h2:q < (matchS result (parents.getD k [])).length:=by rw[hml];exact hq)
  have h3:(marksK result parents k).tail[q]=(marksK result parents k).getD (q+1) ByteArray.empty:=by
   (rw[List.getElem_tail];simp[List.getD_eq_getElem?_getD,List.getElem?_eq_getElem (show q+1 < (marksK result parents k).length by omega)])
  (have h4:(matchS result (parents.getD k [])).getD q 0=(matchS result (parents.getD k []))[q]:=by rw[List.getD_eq_getElem?_getD,List.getElem?_eq_getElem h2];rfl);rw[List.getD_eq_getElem?_getD,List.getElem?_zipWith,List.getElem?_eq_getElem h1,List.getElem?_eq_getElem h2];show (marksK result parents k).tail[q] ++ markS (matchS result (parents.getD k []))[q]=_;(rw[h3,ih,markS_bs,bs_append,← List.take_append_getElem hkl,marksU,marksU,List.map_append,← hp,← h4];rfl)
theorem marksAll_eq (result:List ByteArray) (parents:List (List ByteArray)) (q:Nat) (hq:q < result.length):(marksAll result parents).getD (q+1) ByteArray.empty=bs (marksU result parents q):=by
 have:=marksK_eq result parents q hq parents.length (Nat.le_refl _)
 rwa [marksK,List.take_length] at this
def segRows (result:List ByteArray) (parents:List (List ByteArray)) (q:Nat):List ApiRow:=(rowsOf (segsL result parents q)).map (rowOut parents.length)
theorem tableRows_succ (result:List ByteArray) (parents:List (List ByteArray)) (k:Nat) (hk:k < result.length):tableRows result parents (k+1)=tableRows result parents k ++ segRows result parents k ++ [⟨bs (marksU result parents k),result[k]⟩]:=by
 (rw[tableRows,lostRows_eq,marksAll_eq _ _ _ hk,show result.getD k ByteArray.empty=result[k] by simp[hk]];rfl)
theorem tableAll_eq (result:List ByteArray) (parents:List (List ByteArray)):tableAll result parents=tableRows result parents result.length ++ segRows result parents result.length:=by
 (rw[tableAll,lostRows_eq];rfl)
theorem segL_length_le (p:List ByteArray) (ms:List Int) (q:Nat):(segL p ms q).length≤p.length:=by
 unfold segL;split;(· simp);(· (simp;omega))
end TabMath_sec
section TabTells_sec
open Go.RowKit Go.Proofs.YthcnfflhejogfaaDoorW.PrintWords Go.Proofs.YthcnfflhejogfaaDoorW.PrintLast Go.Proofs.YthcnfflhejogfaaDoorW.PrintMore
def FewT (result:List ByteArray) (ls:List (List ByteArray)):Prop:=(result.length≤16 ∧ ∀ s ∈ result,s.size≤100)∧ls.length≤6 ∧ ∀ l ∈ ls,l.length≤16 ∧ ∀ s ∈ l,s.size≤100
section
variable {result:List ByteArray} {ls:List (List ByteArray)}
theorem FewT.sum (h:FewT result ls):sumLen ls≤96:=by
 have:=sumLen_take 16 ls ls.length (fun l hl=>(h.2.2 l hl).1);(rw[List.take_length] at this);have:=h.2.1;omega
theorem FewT.ok (h:FewT result ls):tableOk result ls=true:=by
 obtain⟨⟨h1,h2⟩,h3,h4⟩:=h;have h5:sumLen ls≤96:=FewT.sum ⟨⟨h1,h2⟩,h3,h4⟩;rw[tableOk,Bool.and_eq_true,Bool.or_eq_true];refine⟨decide_eq_true ⟨by omega,by omega,?_⟩, .inr (decide_eq_true (by omega))⟩;intro l hl
 rcases List.mem_cons.1 hl with rfl|hl
 (· exact⟨by omega,fun s hs=>by have:=h2 s hs;omega⟩);(· have:=(h4 l hl).1;exact⟨by omega,fun s hs=>by have:=(h4 l hl).2 s hs;omega⟩)
end
section
variable {result:List ByteArray} {ls:List (List ByteArray)}
theorem segRows_len (result:List ByteArray) (ls:List (List ByteArray)) (q:Nat):(segRows result ls q).length≤sumLen ls:=by
 rw[segRows,List.length_map];refine Nat.le_trans (rowsOf_le _) ?_;rw[segsL,sumLen,sumLen,List.map_map]
 induction ls with
 | nil=>simp
 | cons p t ih =>
  simp only[List.map_cons,List.sum_cons,Function.comp_apply];have:=segL_length_le p (matchS result p) q;have:=ih;(simp only[Function.comp_def] at this ⊢);omega
theorem tableRows_len (result:List ByteArray) (ls:List (List ByteArray)) : ∀ q,q≤result.length→(tableRows result ls q).length≤q * (sumLen ls+1)
 | 0,_=>by simp[tableRows]
 | q+1,h=>by
  have:=tableRows_len result ls q (by omega);have h2:=segRows_len result ls q;rw[tableRows_succ _ _ _ h,List.length_append,List.length_append,List.length_singleton,Nat.succ_mul];omega
theorem FewT.rows (h:FewT result ls) {q:Nat} (hq:q≤result.length):(tableRows result ls q).length≤2000:=by
 have h1:=tableRows_len result ls q hq;have h2:=h.sum;have h3:=h.1.1;have:q * (sumLen ls+1)≤16 * 97:=Nat.mul_le_mul (by omega) (by omega);omega
theorem FewT.all (h:FewT result ls):(tableAll result ls).length≤3000:=by
 rw[tableAll_eq,List.length_append];have:=h.rows (Nat.le_refl _);have:=segRows_len result ls result.length;have:=h.sum;omega
end
end TabTells_sec
section TabCols_sec
open Go.RowKit Go.Proofs.YthcnfflhejogfaaDoorW.PrintWords Go.Proofs.YthcnfflhejogfaaDoorW.PrintLast Go.Proofs.YthcnfflhejogfaaDoorW.PrintMore
section
variable {result:List ByteArray} {ls:List (List ByteArray)}
end
end TabCols_sec
end Go.Proofs.YthcnfflhejogfaaDoor.X.T20
namespace Go.Proofs.YthcnfflhejogfaaDoor.X
open Go.RowKit Go.Proofs.YthcnfflhejogfaaDoorW.PrintWords Go.Proofs.YthcnfflhejogfaaDoorW.PrintLast Go.Proofs.YthcnfflhejogfaaDoorW.PrintMore
abbrev Txt:=List RowH→List ByteArray
abbrev Spn:=Hunk48→Span45
def cutT (l:List ByteArray) (f t:Nat):List ByteArray:=(l.take t).drop f
theorem cutT_len {l:List ByteArray} {f t:Nat} (ht:t≤l.length):(cutT l f t).length=t - f:=by
 rw[cutT,List.length_drop,List.length_take,Nat.min_eq_left ht]
def goF (spO spN:Spn) (txO txN:Txt) (file:List ByteArray):List Hunk48→List ByteArray→Int→Int→List ByteArray × Int
  | [],out,a,_=>if mayL (out ++ file.drop a.toNat)=true then (out ++ file.drop a.toNat,0) else ([],7)
  | h :: t,out,a,b=>if (spO h).f1≤(file.length:Int)∧cutT file (spO h).f0.toNat (spO h).f1.toNat=txO h.f2∧(spO h).f0 - a=(spN h).f0 - b then goF spO spN txO txN file t (out ++ (cutT file a.toNat (spO h).f0.toNat ++ txN h.f2)) (spO h).f1 (spN h).f1 else ([],7)
def ChainOk (spO spN:Spn) (txO txN:Txt):List Hunk48→Nat→Nat→Prop
  | [],_,_=>True
  | h :: t,a,b => ∃ f g f' g':Nat,spO h=⟨(f:Int),(g:Int)⟩∧spN h=⟨(f':Int),(g':Int)⟩∧a≤f∧f≤g∧g≤2000∧b≤f'∧f'≤g'∧g'≤2000∧(txO h.f2).length=g - f∧(txN h.f2).length=g' - f'∧ChainOk spO spN txO txN t g g'
theorem ChainOk.swap {spO spN:Spn} {txO txN:Txt} : ∀ {l:List Hunk48} {a b:Nat},ChainOk spO spN txO txN l a b→ChainOk spN spO txN txO l b a
 | [],_,_,_=>trivial
 | h :: t,a,b,⟨f,g,f',g',h1,h2,h3,h4,h5,h6,h7,h8,h9,h10,h11⟩=>⟨f',g',f,g,h2,h1,h6,h7,h8,h3,h4,h5,h10,h9,ChainOk.swap h11⟩
section
variable {spO spN:Spn} {txO txN:Txt} {file res:List ByteArray}
theorem goF_nil (out:List ByteArray) (a b:Nat):goF spO spN txO txN file [] out a b=if mayL (out ++ file.drop a)=true then (out ++ file.drop a,0) else ([],7):=by
 rw[goF,Int.toNat_natCast]
theorem goF_cons {h:Hunk48} {f g f' g':Nat} (h1:spO h=⟨(f:Int),(g:Int)⟩) (h2:spN h=⟨(f':Int),(g':Int)⟩) (t:List Hunk48) (out:List ByteArray) (a b:Nat) :
    goF spO spN txO txN file (h :: t) out a b=if g≤file.length∧cutT file f g=txO h.f2∧(f:Int) - a=(f':Int) - b then goF spO spN txO txN file t (out ++ (cutT file a f ++ txN h.f2)) (g:Int) (g':Int) else ([],7):=by
 rw[goF,h1,h2];simp only[Int.toNat_natCast,Int.ofNat_le]
end
def txP (P:ByteArray→Bool) (R:List RowH):List ByteArray:=(R.filter (fun x=>P x.f0)).map (·.f1)
section
variable {P Q:ByteArray→Bool} {R R':List RowH}
theorem marks_at (hm:R'.map (·.f0)=R.map (·.f0)) {i:Nat} (h:i < R.length) (h':i < R'.length):R'[i].f0=R[i].f0:=by
 (have e1:(R'.map (·.f0))[i]'(by simpa using h')=R'[i].f0:=by simp);(have e2:(R.map (·.f0))[i]'(by simpa using h)=R[i].f0:=by simp);rw[← e1,← e2];simp only[hm]
theorem marks_len (hm:R'.map (·.f0)=R.map (·.f0)):R'.length=R.length:=by
 have:=congrArg List.length hm;simpa using this
def BothOk (P Q:ByteArray→Bool) (R:List RowH) (sh:List Bool):Prop := ∀ j (h:j < R.length),¬ HkP.MarkAt id sh j→P R[j].f0=true∧Q R[j].f0=true
theorem BothOk.marks {sh:List Bool} (hB:BothOk P Q R sh) (hm:R'.map (·.f0)=R.map (·.f0)):BothOk P Q R' sh:=fun j h hj=>by
  have hl:=marks_len hm
  rw[marks_at hm (by omega) h]
  exact hB j (by omega) hj
variable {spO spN:Spn}
end
def notL (s:ByteArray):Bool := !lostB s
def spP (i:Int) (h:Hunk48):Span45:=rd_T45 h.f0 i
def spR (h:Hunk48):Span45:=h.f1
def marksN (R:List RowH):Nat:=(rd_T57 R 0).f0.size
def spanB (s:Span45) (least:Int) (many:Nat):Bool:=decide (least≤s.f0) && (decide (s.f0≤s.f1) && (decide (s.f1≤2000) && decide (s.f1 - s.f0=(many:Int))))
theorem spanB_iff {s:Span45} {least:Int} {many:Nat}:spanB s least many=true↔least≤s.f0∧s.f0≤s.f1∧s.f1≤2000∧s.f1 - s.f0=(many:Int):=by
 rw[spanB,Bool.and_eq_true,Bool.and_eq_true,Bool.and_eq_true,decide_eq_true_eq,decide_eq_true_eq,decide_eq_true_eq,decide_eq_true_eq]
def lastP (last:Option Hunk48) (k:Nat):Int:=match last with|none=>0|some h=>(spP (k:Int) h).f1
def lastR (last:Option Hunk48):Int:=match last with|none=>0|some h=>h.f1.f1
def hunkB (n0:Nat) (last:Option Hunk48) (h:Hunk48):Bool :=
  (!decide (h.f2=[]) && (mayB h.f2 && (decide (h.f0.length=marksN h.f2) && decide (h.f0.length=n0)))) && ((List.range h.f0.length).all (fun k=>spanB (spP (k:Int) h) (lastP last k) (txP (ofB (k:Int)) h.f2).length) && spanB h.f1 (lastR last) (txP notL h.f2).length)
theorem hunkB_iff {n0:Nat} {last:Option Hunk48} {h:Hunk48}:hunkB n0 last h=true↔h.f2≠[]∧mayB h.f2=true∧h.f0.length=marksN h.f2∧h.f0.length=n0∧(∀ k,k < h.f0.length→spanB (spP (k:Int) h) (lastP last k) (txP (ofB (k:Int)) h.f2).length=true)∧spanB h.f1 (lastR last) (txP notL h.f2).length=true:=by
 rw[hunkB,Bool.and_eq_true,Bool.and_eq_true,Bool.and_eq_true,Bool.and_eq_true,Bool.and_eq_true,Bool.not_eq_true',decide_eq_false_iff_not,decide_eq_true_eq,decide_eq_true_eq,List.all_eq_true];constructor;(· rintro⟨⟨h1,h2,h3,h4⟩,h5,h6⟩;exact⟨h1,h2,h3,h4,fun k hk=>h5 k (List.mem_range.2 hk),h6⟩);(· rintro⟨h1,h2,h3,h4,h5,h6⟩;exact⟨⟨h1,h2,h3,h4⟩,fun k hk=>h5 k (List.mem_range.1 hk),h6⟩)
def mayGo (n0:Nat):Option Hunk48→List Hunk48→Bool
  | _,[]=>true
  | last,h :: t=>hunkB n0 last h && mayGo n0 (some h) t
def firstN (l:List Hunk48):Nat:=(rd_T48 l 0).f0.length
def mayHB (l:List Hunk48):Bool:=mayGo (firstN l) none l
theorem chain_of (n0 i:Nat) (hi:i < n0) : ∀ (t:List Hunk48) (last:Option Hunk48) (a b:Nat),lastP last i=(a:Int)→lastR last=(b:Int)→mayGo n0 last t=true→ChainOk (spP (i:Int)) spR (txP (ofB (i:Int))) (txP notL) t a b
 | [],_,_,_,_,_,_=>trivial
 | h :: t,last,a,b,ha,hb,hm=>by
  (rw[mayGo,Bool.and_eq_true,hunkB_iff] at hm);obtain⟨⟨h1,h2,h3,h4,h5,h6⟩,h7⟩:=hm;obtain⟨p1,p2,p3,p4⟩:=spanB_iff.1 (h5 i (by omega));obtain⟨q1,q2,q3,q4⟩:=spanB_iff.1 h6;(rw[ha] at p1);(rw[hb] at q1);refine⟨(spP (i:Int) h).f0.toNat,(spP (i:Int) h).f1.toNat,h.f1.f0.toNat,h.f1.f1.toNat,?_,?_,by omega,by omega,by omega,by omega,by omega,by omega,by omega,by omega,?_⟩;(· rw[Int.toNat_of_nonneg (by omega),Int.toNat_of_nonneg (by omega)]);(· (rw[Int.toNat_of_nonneg (by omega),Int.toNat_of_nonneg (by omega)];rfl));(· exact chain_of n0 i hi t (some h) _ _ (by show (spP (i:Int) h).f1=_;omega) (by show h.f1.f1=_;omega) h7)
def checkF (l:List Hunk48) (column:Int) (file:List ByteArray):Int :=
  if column < 0∨(0 < l.length∧column ≥ (firstN l:Int))∨mayL file=false then 1 else if mayHB l=false then 2 else 0
def runF (back:Bool) (l:List Hunk48) (column:Int) (file:List ByteArray):List ByteArray × Int :=
  if checkF l column file=0 then (if back=true then goF spR (spP column) (txP notL) (txP (ofB column)) file l [] 0 0 else goF (spP column) spR (txP (ofB column)) (txP notL) file l [] 0 0) else ([],checkF l column file)
theorem checkF_0 {l:List Hunk48} {column:Int} {file:List ByteArray}:checkF l column file=0↔0≤column∧(0 < l.length→column < (firstN l:Int))∧mayL file=true∧mayHB l=true:=by
 rw[checkF];split
 ·
  rename_i h;constructor;(· (intro e;exact absurd e (by decide)))
  ·
   rintro⟨h1,h2,h3,h4⟩
   rcases h with h|h|h
   (· omega);(· (have:=h2 h.1;omega));(· (rw[h3] at h;cases h))
 ·
  rename_i h;(have h1 : ¬ column < 0:=fun e=>h (.inl e));(have h2 : ¬ (0 < l.length∧column ≥ (firstN l:Int)):=fun e=>h (.inr (.inl e)))
  have h3:mayL file=true:=by
   cases e:mayL file with
   | true=>rfl
   | false=>exact(h (.inr (.inr e))).elim
  split
  ·
   rename_i h4;constructor;(· (intro e;exact absurd e (by decide)));(· (rintro⟨_,_,_,h5⟩;rw[h4] at h5;cases h5))
  ·
   rename_i h4;refine⟨fun _=>⟨by omega,fun e=>by omega,h3,?_⟩,fun _=>rfl⟩
   cases e:mayHB l with
   | true=>rfl
   | false=>exact(h4 e).elim
theorem chain_check {l:List Hunk48} {column:Int} {file:List ByteArray} (h:checkF l column file=0):ChainOk (spP column) spR (txP (ofB column)) (txP notL) l 0 0:=by
 obtain⟨h1,h2,h3,h4⟩:=checkF_0.1 h
 cases l with
 | nil=>trivial
 | cons x t =>
  have h2:=h2 (by simp);obtain⟨i,rfl⟩ : ∃ i:Nat,column=(i:Int):=⟨column.toNat,by omega⟩;exact chain_of (firstN (x :: t)) i (by omega) (x :: t) none 0 0 rfl rfl h4
def LowH (l:List Hunk48):Prop:=l.length≤100000 ∧ ∀ h ∈ l,h.f0.length≤1000000∧lowB h.f2=true
theorem rdHunk {l:List Hunk48} {i:Nat} (h:i < l.length):rd_T48 l (i:Int)=l[i]:=getN h
theorem within_f (s a:Span45) (m:Nat) (ha:0≤a.f1):patch_within.f s.f0 s.f1 a.f0 a.f1 (m:Int)=some (spanB s a.f1 m):=by
 rw[patch_within.f]
 by_cases h1:a.f1≤s.f0
 ·
  rw[if_pos h1]
  by_cases h2:s.f0≤s.f1
  ·
   rw[if_pos h2]
   by_cases h3:s.f1≤2000
   ·
    rw[if_pos h3,gw (by omega) (by omega),spanB,decide_eq_true h1,decide_eq_true h2,decide_eq_true h3];simp only[Bool.true_and]
    congr 1
   (· (rw[if_neg h3,spanB,decide_eq_false h3];simp))
  (· (rw[if_neg h2,spanB,decide_eq_false h2];simp))
 (· (rw[if_neg h1,spanB,decide_eq_false h1];simp))
theorem spans_f (h:Hunk48) (hl:h.f0.length≤1000000):patch_spans.f h.f0 h.f1.f0 h.f1.f1 h.f2=some (h.f0 ++ [h.f1]):=by
 rw[patch_spans.f,slices_Clone_api_Span.f,if_pos (by omega),Option.bind_some,Option.bind_some,if_pos (by simp;omega)]
def countsH (h:Hunk48):List Nat:=(List.range h.f0.length).map (fun k:Nat=>(txP (ofB (k:Int)) h.f2).length) ++ [(txP notL h.f2).length]
theorem counts_f (h:Hunk48) (hl:h.f0.length≤1000000) (hr:lowB h.f2=true):Gives (fun k=>patch_counts.f k h.f0 h.f1.f0 h.f1.f1 h.f2) ((countsH h).map (fun m:Nat=>(m:Int))):=by
 obtain⟨h1,h2,h3⟩:=lowB_iff hr
 have hloop : ∀ (r i:Nat),i+r=h.f0.length→Gives (fun k=>patch_counts.l0 k ((List.range i).map (fun k:Nat=>((txP (ofB (k:Int)) h.f2).length:Int))) (h.f0.length:Int) (i:Int) h.f0 h.f1.f0 h.f1.f1 h.f2) ((countsH h).map (fun m:Nat=>(m:Int))):=by
  intro r
  induction r with
  | zero =>
   intro i hi;(refine Gives.of fun k=>?_);show patch_counts.l0 (k+1) _ _ _ _ _ _ _=_;rw[patch_counts.l0,if_neg (by omega),res_f (by omega) (fun x hx=>by have:=h2 x hx;omega),Option.bind_some,if_pos (by simp;omega)];(obtain rfl:i=h.f0.length:=by omega);(rw[countsH,List.map_append,List.map_map];rfl)
  | succ r ih =>
   intro i hi;have hn:=ih (i+1) (by omega);(rw[List.range_succ,List.map_append] at hn);(refine hn.step fun k=>?_);show patch_counts.l0 (k+1) _ _ _ _ _ _ _=_;(rw[patch_counts.l0,if_pos (by omega),col_f (i:Int) (by omega) (fun x hx=>by have:=h2 x hx;omega),Option.bind_some,if_pos (by simp;omega),gw1 (by omega)];rfl)
 (exact(hloop h.f0.length 0 (by omega)).same fun k=>rfl)
theorem rd45 {l:List Span45} {i:Nat} (h:i < l.length):rd_T45 l (i:Int)=l[i]:=getN h
theorem within_l1 {l:List Hunk48} {q:Nat} {S Ah:List Span45} {M:List Nat} (hA:Ah.length=S.length) (hM:M.length=S.length) (hS:S.length≤1000001) (hq:q≤1000000) (h0 : ∀ a ∈ Ah,0≤a.f1) {b:Bool} (hb:Gives (fun k=>patch_May.l0 k l l (l.length:Int) ((q+1:Nat):Int)) b) :
    ∀ (r i:Nat),i+r=S.length→Gives (fun k=>patch_May.l1 k l Ah (M.map (fun m:Nat=>(m:Int))) l (l.length:Int) (q:Int) S (S.length:Int) (i:Int)) ((List.range' i r).all (fun j=>spanB (rd_T45 S (j:Int)) (rd_T45 Ah (j:Int)).f1 (M.getD j 0)) && b):=by
 intro r
 induction r with
 | zero =>
  intro i hi;(refine(hb.eq (by simp)).step fun k=>?_);show patch_May.l1 (k+1) _ _ _ _ _ _ _ _ _=_;rw[patch_May.l1,if_neg (by omega),gw1 (by omega)]
 | succ r ih =>
  intro i hi;(have hiS:i < S.length:=by omega)
  have e1:rd (M.map (fun m:Nat=>(m:Int))) (i:Int)=((M.getD i 0:Nat):Int):=by
   rw[show rd (M.map (fun m:Nat=>(m:Int))) (i:Int)=(M.map (fun m:Nat=>(m:Int)))[i]'(by simp;omega) from getN (by simp;omega)];rw[List.getElem_map,List.getD_eq_getElem?_getD,List.getElem?_eq_getElem (by omega),Option.getD_some]
  have hw:=within_f (rd_T45 S (i:Int)) (rd_T45 Ah (i:Int)) (M.getD i 0) (by rw[rd45 (by omega)];exact h0 _ (List.getElem_mem _));rw[List.range'_succ,List.all_cons]
  cases hv:spanB (rd_T45 S (i:Int)) (rd_T45 Ah (i:Int)).f1 (M.getD i 0) with
  | true =>
   (rw[hv] at hw);(refine((ih (i+1) (by omega)).eq (by rw[Bool.true_and])).step fun k=>?_);show patch_May.l1 (k+1) _ _ _ _ _ _ _ _ _=_;rw[patch_May.l1,if_pos (by omega),if_pos (by omega),if_pos (by omega),if_pos (by omega),if_pos (by simp;omega),e1,hw,Option.bind_some,if_pos rfl,gw1 (by omega)]
  | false =>
   (rw[hv] at hw);(refine Gives.of fun k=>?_);show patch_May.l1 (k+1) _ _ _ _ _ _ _ _ _=_;(rw[patch_May.l1,if_pos (by omega),if_pos (by omega),if_pos (by omega),if_pos (by omega),if_pos (by simp;omega),e1,hw,Option.bind_some,if_neg (by decide)];rfl)
theorem within_no {l:List Hunk48} {q:Nat} {S Ah:List Span45} {M:List Nat} (hA:Ah.length=S.length) (hM:M.length=S.length) (hS:S.length≤1000001) (h0 : ∀ a ∈ Ah,0≤a.f1) :
    ∀ (r i:Nat),i+r=S.length→(List.range' i r).all (fun j=>spanB (rd_T45 S (j:Int)) (rd_T45 Ah (j:Int)).f1 (M.getD j 0))=false→Gives (fun k=>patch_May.l1 k l Ah (M.map (fun m:Nat=>(m:Int))) l (l.length:Int) (q:Int) S (S.length:Int) (i:Int)) false:=by
 intro r
 induction r with
 | zero=>intro i hi hf;simp at hf
 | succ r ih =>
  intro i hi hf;(have hiS:i < S.length:=by omega)
  have e1:rd (M.map (fun m:Nat=>(m:Int))) (i:Int)=((M.getD i 0:Nat):Int):=by
   rw[show rd (M.map (fun m:Nat=>(m:Int))) (i:Int)=(M.map (fun m:Nat=>(m:Int)))[i]'(by simp;omega) from getN (by simp;omega)];rw[List.getElem_map,List.getD_eq_getElem?_getD,List.getElem?_eq_getElem (by omega),Option.getD_some]
  have hw:=within_f (rd_T45 S (i:Int)) (rd_T45 Ah (i:Int)) (M.getD i 0) (by rw[rd45 (by omega)];exact h0 _ (List.getElem_mem _));(rw[List.range'_succ,List.all_cons] at hf)
  cases hv:spanB (rd_T45 S (i:Int)) (rd_T45 Ah (i:Int)).f1 (M.getD i 0) with
  | true =>
   (rw[hv] at hw hf);(rw[Bool.true_and] at hf);(refine(ih (i+1) (by omega) hf).step fun k=>?_);show patch_May.l1 (k+1) _ _ _ _ _ _ _ _ _=_;rw[patch_May.l1,if_pos (by omega),if_pos (by omega),if_pos (by omega),if_pos (by omega),if_pos (by simp;omega),e1,hw,Option.bind_some,if_pos rfl,gw1 (by omega)]
  | false =>
   (rw[hv] at hw);(refine Gives.of fun k=>?_);show patch_May.l1 (k+1) _ _ _ _ _ _ _ _ _=_;rw[patch_May.l1,if_pos (by omega),if_pos (by omega),if_pos (by omega),if_pos (by omega),if_pos (by simp;omega),e1,hw,Option.bind_some,if_neg (by decide)]
def aheadH (n:Nat):Option Hunk48→List Span45
  | none=>List.replicate (n+1) z45
  | some h=>h.f0 ++ [h.f1]
theorem all_spans (n0:Nat) (h:Hunk48) (last:Option Hunk48) (hn:h.f0.length=n0) (hl : ∀ g,last=some g→g.f0.length=n0) :
    (List.range' 0 (n0+1)).all (fun j=>spanB (rd_T45 (h.f0 ++ [h.f1]) (j:Int)) (rd_T45 (aheadH n0 last) (j:Int)).f1 ((countsH h).getD j 0))=((List.range n0).all (fun k=>spanB (spP (k:Int) h) (lastP last k) (txP (ofB (k:Int)) h.f2).length) && spanB h.f1 (lastR last) (txP notL h.f2).length):=by
 have hA:(aheadH n0 last).length=n0+1:=by
  cases last with
  | none=>simp[aheadH]
  | some g=>rw[aheadH,List.length_append,List.length_singleton,hl g rfl]
 (have hC:(countsH h).length=n0+1:=by rw[countsH,List.length_append,List.length_map,List.length_range,List.length_singleton,hn])
 have hk1 : ∀ k,k < n0→rd_T45 (h.f0 ++ [h.f1]) (k:Int)=spP (k:Int) h:=fun k hk=>by
  rw[rd45 (by rw[List.length_append];omega),List.getElem_append_left (by omega),spP,rd45 (by omega)]
 have hk2 : ∀ k,k < n0→(rd_T45 (aheadH n0 last) (k:Int)).f1=lastP last k:=fun k hk=>by
  cases last with
  | none=>rw[rd45 (by omega)];simp only[aheadH,List.getElem_replicate];rfl
  | some g =>
   have hg:=hl g rfl;rw[rd45 (by omega)];simp only[aheadH];rw[List.getElem_append_left (by omega),lastP,spP,rd45 (by omega)]
 have hk3 : ∀ k,k < n0→(countsH h).getD k 0=(txP (ofB (k:Int)) h.f2).length:=fun k hk=>by
  (rw[List.getD_eq_getElem?_getD,countsH,List.getElem?_append_left (by simp;omega),List.getElem?_map,List.getElem?_range (by omega)];rfl)
 have hn1:rd_T45 (h.f0 ++ [h.f1]) (n0:Int)=h.f1:=by
  rw[rd45 (by rw[List.length_append,List.length_singleton];omega),List.getElem_append_right (by omega)];simp only[hn,Nat.sub_self,List.getElem_cons_zero]
 have hn2:(rd_T45 (aheadH n0 last) (n0:Int)).f1=lastR last:=by
  cases last with
  | none=>rw[rd45 (by omega)];simp only[aheadH,List.getElem_replicate];rfl
  | some g =>
   have hg:=hl g rfl;rw[rd45 (by omega)];simp only[aheadH];rw[List.getElem_append_right (by omega)];(simp only[hg,Nat.sub_self,List.getElem_cons_zero];rfl)
 have hn3:(countsH h).getD n0 0=(txP notL h.f2).length:=by
  rw[List.getD_eq_getElem?_getD,countsH,List.getElem?_append_right (by simp;omega)];simp[hn]
 rw[← List.range_eq_range',List.range_succ,List.all_append]
 congr 1
 ·
  rw[Bool.eq_iff_iff,List.all_eq_true,List.all_eq_true];constructor
  ·
   intro H k hk;have:=H k hk;have hk':=List.mem_range.1 hk
   rwa [hk1 k hk',hk2 k hk',hk3 k hk'] at this
  (· intro H k hk;have hk':=List.mem_range.1 hk;rw[hk1 k hk',hk2 k hk',hk3 k hk'];exact H k hk)
 (· rw[List.all_cons,List.all_nil,Bool.and_true,hn1,hn2,hn3])
def prevH (l:List Hunk48) (i:Nat):Option Hunk48:=if i=0 then none else l[i - 1]?
def OkP (n0:Nat) (last:Option Hunk48):Prop := ∀ g,last=some g→g.f0.length=n0∧(∀ s ∈ g.f0,0≤s.f1)∧0≤g.f1.f1
theorem OkP.low {n0:Nat} {last:Option Hunk48} (h:OkP n0 last):(∀ k,k < n0→0≤lastP last k)∧0≤lastR last:=by
 cases last with
 | none=>exact⟨fun _ _=>Int.le_refl _,Int.le_refl _⟩
 | some g =>
  obtain⟨h1,h2,h3⟩:=h g rfl;refine⟨fun k hk=>?_,h3⟩;show 0≤(rd_T45 g.f0 (k:Int)).f1;rw[rd45 (by omega)];exact h2 _ (List.getElem_mem _)
theorem OkP.next {n0:Nat} {last:Option Hunk48} (h:OkP n0 last) {g:Hunk48} (hg:hunkB n0 last g=true):OkP n0 (some g):=fun g' e=>by
  cases e
  obtain⟨h1,h2,h3,h4,h5,h6⟩:=hunkB_iff.1 hg
  obtain⟨k1,k2⟩:=h.low
  refine⟨h4,fun s hs=>?_,?_⟩
  · obtain⟨k,hk,rfl⟩:=List.mem_iff_getElem.1 hs
    obtain⟨p1,p2,p3,p4⟩:=spanB_iff.1 (h5 k hk)
    have:=k1 k (by omega)
    rw[show spP (k:Int) g=g.f0[k] from rd45 hk] at p1 p2
    omega
  · obtain⟨p1,p2,p3,p4⟩:=spanB_iff.1 h6
    omega
theorem OkP.ahead {n0:Nat} {last:Option Hunk48} (h:OkP n0 last):(aheadH n0 last).length=n0+1 ∧ ∀ a ∈ aheadH n0 last,0≤a.f1:=by
 cases last with
 | none=>exact⟨by simp[aheadH],fun a ha=>by rw[List.eq_of_mem_replicate ha];exact Int.le_refl _⟩
 | some g =>
  obtain⟨h1,h2,h3⟩:=h g rfl;refine⟨by rw[aheadH,List.length_append,List.length_singleton,h1],fun a ha=>?_⟩
  rcases List.mem_append.1 ha with ha|ha
  (· exact h2 a ha);(· (rw[List.mem_singleton.1 ha];exact h3))
theorem may_hunks {l:List Hunk48} (hl:LowH l):Gives (fun k=>patch_May.f k l) (mayHB l):=by
 have hloop : ∀ (r i:Nat),i+r=l.length→OkP (firstN l) (prevH l i)→Gives (fun k=>patch_May.l0 k l l (l.length:Int) (i:Int)) (mayGo (firstN l) (prevH l i) (l.drop i)):=by
  intro r
  induction r with
  | zero =>
   intro i hi _;rw[List.drop_of_length_le (by omega)];(refine Gives.of fun k=>?_);show patch_May.l0 (k+1) _ _ _ _=_;(rw[patch_May.l0,if_neg (by omega)];rfl)
  | succ r ih =>
   intro i hi hok;(have hil:i < l.length:=by omega);obtain⟨h,hh⟩ : ∃ h,l[i]=h:=⟨_,rfl⟩;(have hmem:h ∈ l:=by rw[← hh];exact List.getElem_mem hil);obtain⟨b1,b2⟩:=hl.2 h hmem;obtain⟨c1,c2,c3⟩:=lowB_iff b2;have hll:=hl.1;(have hrd:rd_T48 l (i:Int)=h:=by rw[rdHunk hil,hh]);rw[dropCons hil,hh,mayGo]
   have hno:Gives (fun k=>patch_May.j1 k l (i:Int) l (l.length:Int) (i:Int) true h.f0 h.f1.f0 h.f1.f1 h.f2) false:=Gives.of fun k=>by
    show patch_May.j1 (k+1) _ _ _ _ _ _ _ _ _ _=_;rw[patch_May.j1,if_pos rfl]
   by_cases h0:h.f2=[]
   (· (refine(hno.eq (by rw[hunkB,decide_eq_true h0];rfl)).step fun k=>?_);show patch_May.l0 (k+1) _ _ _ _=_;rw[patch_May.l0,if_pos (by omega),if_pos (by omega),if_pos (by omega),hrd,if_pos (by rw[h0];rfl)])
   ·
    have hpos:0 < h.f2.length:=List.length_pos_iff.2 h0;have hm:=may_Hunk c2 c3 c1
    cases hmb:mayB h.f2 with
    | false =>
     (rw[hmb] at hm);(refine Gives.call hm (hno.eq (by rw[hunkB,hmb];simp)) fun k hk=>?_);show patch_May.l0 (k+1) _ _ _ _=_;rw[patch_May.l0,if_pos (by omega),if_pos (by omega),if_pos (by omega),hrd,if_neg (by omega),hk,Option.bind_some,if_neg (by decide)]
    | true =>
     (rw[hmb] at hm)
     by_cases h1:h.f0.length=marksN h.f2
     ·
      by_cases h2:h.f0.length=firstN l
      ·
       (have hm1:1≤h.f0.length∧h.f0.length≤16:=by rw[h1];exact(mayB_good hmb).2 h0)
       have hne:((h.f0.length:Int) != ((rd_T48 l 0).f0.length:Int))=false:=by
        (have:(h.f0.length:Int)=((rd_T48 l 0).f0.length:Int):=by exact_mod_cast h2);(rw[this];simp)
       obtain⟨a1,a2⟩:=hok.ahead
       have hnext:Gives (fun k=>patch_May.l0 k l l (l.length:Int) ((i+1:Nat):Int)) (mayGo (firstN l) (some h) (l.drop (i+1)))∨hunkB (firstN l) (prevH l i) h=false:=by
        cases hb:hunkB (firstN l) (prevH l i) h with
        | false=>exact .inr rfl
        | true =>
         left;(have e:prevH l (i+1)=some h:=by rw[prevH,if_neg (by omega),Nat.add_sub_cancel,List.getElem?_eq_getElem hil,hh]);have:=ih (i+1) (by omega) (by rw[e];exact hok.next hb)
         rwa [e] at this
       have hall:=all_spans (firstN l) h (prevH l i) h2 (fun g hg=>(hok g hg).1)
       have hhb:hunkB (firstN l) (prevH l i) h=((List.range (firstN l)).all (fun k=>spanB (spP (k:Int) h) (lastP (prevH l i) k) (txP (ofB (k:Int)) h.f2).length) && spanB h.f1 (lastR (prevH l i)) (txP notL h.f2).length):=by
        (rw[hunkB,decide_eq_false h0,hmb,decide_eq_true h1,decide_eq_true h2,h2];rfl)
       have hj2:Gives (fun k=>patch_May.j2 k l (aheadH (firstN l) (prevH l i)) l (l.length:Int) (i:Int) h.f0 h.f1.f0 h.f1.f1 h.f2) (hunkB (firstN l) (prevH l i) h && mayGo (firstN l) (some h) (l.drop (i+1))):=by
        have hl1:Gives (fun k=>patch_May.l1 k l (aheadH (firstN l) (prevH l i)) ((countsH h).map (fun m:Nat=>(m:Int))) l (l.length:Int) (i:Int) (h.f0 ++ [h.f1]) ((h.f0 ++ [h.f1]).length:Int) ((0:Nat):Int)) (hunkB (firstN l) (prevH l i) h && mayGo (firstN l) (some h) (l.drop (i+1))):=by
         (have hlen:(h.f0 ++ [h.f1]).length=firstN l+1:=by rw[List.length_append,List.length_singleton,h2]);(have hC:(countsH h).length=firstN l+1:=by rw[countsH,List.length_append,List.length_map,List.length_range,List.length_singleton,h2])
         rcases hnext with hn|hn
         (· have:=within_l1 (q:=i) (by rw[hlen];exact a1) (by rw[hlen];exact hC) (by rw[hlen];omega) (by omega) a2 hn (firstN l+1) 0 (by rw[hlen];omega);(rw[hall,← hhb] at this);exact this);(· rw[hn,Bool.false_and];exact within_no (by rw[hlen];exact a1) (by rw[hlen];exact hC) (by rw[hlen];omega) a2 (firstN l+1) 0 (by rw[hlen];omega) (by rw[hall,← hhb,hn]))
        obtain⟨K1,k1⟩:=counts_f h b1 b2;obtain⟨K2,k2⟩:=hl1;(dsimp only at k1 k2);(refine Gives.of' (K1+K2) fun k hk=>?_);show patch_May.j2 (k+1) _ _ _ _ _ _ _ _ _=_;rw[patch_May.j2,k1 k (by omega),Option.bind_some,spans_f h b1,Option.bind_some];exact k2 k (by omega)
       have hj1:Gives (fun k=>patch_May.j1 k l (i:Int) l (l.length:Int) (i:Int) false h.f0 h.f1.f0 h.f1.f1 h.f2) (hunkB (firstN l) (prevH l i) h && mayGo (firstN l) (some h) (l.drop (i+1))):=by
        (refine hj2.step fun k=>?_);show patch_May.j1 (k+1) _ _ _ _ _ _ _ _ _ _=_;have ew:wrap64 ((h.f0.length:Int)+1)=((h.f0.length+1:Nat):Int):=gw1 (by omega);rw[patch_May.j1,if_neg (by decide),ew,if_pos (by omega),if_pos (by omega)]
        by_cases hi0:i=0
        (· subst hi0;(rw[if_neg (by decide),Int.toNat_natCast,h2];rfl));(· (have e1:wrap64 ((i:Int) - 1)=((i - 1:Nat):Int):=by rw[gw (by omega) (by omega)];omega);(have hil1:i - 1 < l.length:=by omega);(rw[if_pos (by omega),e1,if_pos (by omega),if_pos (by omega),rdHunk hil1,spans_f _ (hl.2 _ (List.getElem_mem hil1)).1,Option.bind_some,prevH,if_neg hi0,List.getElem?_eq_getElem hil1];rfl))
       (refine Gives.call hm hj1 fun k hk=>?_);show patch_May.l0 (k+1) _ _ _ _=_;rw[patch_May.l0,if_pos (by omega),if_pos (by omega),if_pos (by omega),hrd,if_neg (by omega),hk,Option.bind_some,if_pos rfl,if_pos (by omega),if_pos (by exact_mod_cast h1),if_pos (by omega),hne]
      ·
       have hne:((h.f0.length:Int) != ((rd_T48 l 0).f0.length:Int))=true:=by
        (have : ¬ (h.f0.length:Int)=((rd_T48 l 0).f0.length:Int):=fun e=>h2 (by exact_mod_cast e));simpa using this
       (refine Gives.call hm (hno.eq (by rw[hunkB,decide_eq_false h2];simp)) fun k hk=>?_);show patch_May.l0 (k+1) _ _ _ _=_;rw[patch_May.l0,if_pos (by omega),if_pos (by omega),if_pos (by omega),hrd,if_neg (by omega),hk,Option.bind_some,if_pos rfl,if_pos (by omega),if_pos (by exact_mod_cast h1),if_pos (by omega),hne]
     (· (refine Gives.call hm (hno.eq (by rw[hunkB,decide_eq_false h1];simp)) fun k hk=>?_);show patch_May.l0 (k+1) _ _ _ _=_;rw[patch_May.l0,if_pos (by omega),if_pos (by omega),if_pos (by omega),hrd,if_neg (by omega),hk,Option.bind_some,if_pos rfl,if_pos (by omega),if_neg (fun e=>h1 (by exact_mod_cast e))])
 have:=hloop l.length 0 (by omega) (fun g e=>by cases e);(exact this.same fun k=>rfl)
theorem check_f {l:List Hunk48} (hl:LowH l) (column:Int) {file:List ByteArray} (hf:file.length≤1000000) (hs : ∀ s ∈ file,s.size≤1000000):Gives (fun k=>apply_check.f k l column file) (checkF l column file):=by
 have hj1:Gives (fun k=>apply_check.j0 k l true) 1:=Gives.of fun k=>by
  show apply_check.j0 (k+1) _ _=_;rw[apply_check.j0,if_pos rfl]
 have hj0:Gives (fun k=>apply_check.j0 k l false) (if mayHB l=false then 2 else 0):=by
  (refine Gives.last (may_hunks hl) fun k hk=>?_);show apply_check.j0 (k+1) _ _=_;rw[apply_check.j0,if_neg (by decide),hk,Option.bind_some];(cases mayHB l <;> rfl)
 have hm:=may_gives file (by omega) (fun s h=>by have:=hs s h;omega);rw[checkF]
 by_cases h0:column < 0
 (· rw[if_pos (.inl h0)];(refine hj1.same fun k=>?_);show apply_check.f k l column file=_;rw[apply_check.f,if_pos h0])
 ·
  have hmay : ¬ (0 < l.length∧column ≥ (firstN l:Int))→Gives (fun k=>(lines_May.f k file).bind fun t=>apply_check.j0 k l (!t)) (if column < 0∨(0 < l.length∧column ≥ (firstN l:Int))∨mayL file=false then 1 else if mayHB l=false then 2 else 0):=fun hn=>by
   cases hml:mayL file with
   | true =>
    (rw[hml] at hm);rw[if_neg (by rintro(h|h|h);exact h0 h;exact hn h;cases h)];obtain⟨K1,k1⟩:=hm;obtain⟨K2,k2⟩:=hj0;(dsimp only at k1 k2);exact⟨K1+K2,fun k hk=>by show Option.bind _ _=_;rw[k1 k (by omega),Option.bind_some];exact k2 k (by omega)⟩
   | false =>
    (rw[hml] at hm);rw[if_pos (.inr (.inr rfl))];obtain⟨K1,k1⟩:=hm;obtain⟨K2,k2⟩:=hj1;(dsimp only at k1 k2);exact⟨K1+K2,fun k hk=>by show Option.bind _ _=_;rw[k1 k (by omega),Option.bind_some];exact k2 k (by omega)⟩
  by_cases h1:0 < l.length
  ·
   by_cases h2:column ≥ (firstN l:Int)
   (· rw[if_pos (.inr (.inl ⟨h1,h2⟩))];(refine hj1.same fun k=>?_);show apply_check.f k l column file=_;rw[apply_check.f,if_neg h0,if_pos (by omega),if_pos (by omega),if_pos (show column ≥ ((rd_T48 l 0).f0.length:Int) from h2)]);(· (refine(hmay (fun h=>h2 h.2)).same fun k=>?_);show apply_check.f k l column file=_;rw[apply_check.f,if_neg h0,if_pos (by omega),if_pos (by omega),if_neg (show ¬ column ≥ ((rd_T48 l 0).f0.length:Int) from h2)])
  (· (refine(hmay (fun h=>h1 h.1)).same fun k=>?_);show apply_check.f k l column file=_;rw[apply_check.f,if_neg h0,if_neg (by omega)])
section
variable {P:Program} {ops:Array Oper} {Q:Exit→Act→World→Prop}
theorem goesC_ {oi:Oper} {N:Option Tmp} {a:Act} {w:World} {K:Act→World→Prop} {f:FuncId} {fn:Func} {cal:Operand} {asx:Array Operand} {ts:Array TypeId} (hf:P.funcs[f]? = some fn) (hname:(fn.name == "runtime.NumGoroutine")=false) (hb:fn.body.isSome=true) (cap args:Array Value)
    (hw:Region.wanted oi (yielded ops a.tmps)=true) (hN:oi.dst=N) (hop:oi.op = .call { callee := .value cal,args:=asx,argTypes:=ts }) (hcal:a.eval cal = .func (.func f) #[] cap) (hargs:asx.map a.eval ++ cap=args)
    (h:Calls P f args w fun e w' => ∃ v,e = .returned v∧K (a.put N v) w'):if Region.wanted oi (yielded ops a.tmps)=true then Oper.wp P oi a w K Q else K (a.put N undef) w:=by
 refine call_ f args hw hN ?_ h;have he:=enters_ hf hname hb args w;unfold execOp;simp[hop,resolve,Deferred.ofValue,invoke,hcal,hargs,he]
end
def FnIs (F:FuncId) (fn:Func):Prop:=Tryd.prog.funcs[F]? = some fn∧(fn.name == "runtime.NumGoroutine")=false∧fn.body.isSome=true
def cutS (A:Option Addr) (c f:Nat):Option Addr:=if c=f then A else A.map (·.add f)
theorem slice_strs2 (A:Option Addr) (n c lo hi':Nat) (h1:lo≤hi') (h2:hi'≤n) (hc:n≤c) :
    ∀ W:World,(Instr.slice 23 (.slice A n c) (some (.int .i64 (lo:Int))) (some (.int .i64 (hi':Int))) none).run Tryd.prog W = .ok (.slice (cutS A c lo) (hi' - lo) (c - lo)) W:=by
 intro W;(have hel:Tryd.prog.elem 23=9:=by simp[Program.elem,Tryd.underlying23]);(have hu:Tryd.prog.underlying 23=some (.slice (Tryd.prog.elem 23)):=by rw[hel];exact Tryd.underlying23);obtain⟨i0,hi,hz⟩:=Option.map_eq_some_iff.1 info9;(simp only[Prod.mk.injEq] at hz);rw[run_slice_lh W 23 A n c hu .i64 .i64 (lo:Int) (hi':Int) (by omega) (by omega) (by omega),hel];(have e1:(lo:Int).toNat=lo:=by omega);(have e2:(hi':Int).toNat=hi':=by omega);simp[sizeOf,typeInfo,hi,hz.2.1,sliced,Result.andThen,e1,e2,cutS]
theorem slice_strs1 (A:Option Addr) (n c lo:Nat) (h1:lo≤n) (hc:n≤c) :
    ∀ W:World,(Instr.slice 23 (.slice A n c) (some (.int .i64 (lo:Int))) none none).run Tryd.prog W = .ok (.slice (cutS A c lo) (n - lo) (c - lo)) W:=by
 intro W;(have hel:Tryd.prog.elem 23=9:=by simp[Program.elem,Tryd.underlying23]);(have hu:Tryd.prog.underlying 23=some (.slice (Tryd.prog.elem 23)):=by rw[hel];exact Tryd.underlying23);obtain⟨i0,hi,hz⟩:=Option.map_eq_some_iff.1 info9;(simp only[Prod.mk.injEq] at hz);rw[run_slice_l W 23 A n c hu .i64 (lo:Int) (by omega) (by omega),hel];(have e1:(lo:Int).toNat=lo:=by omega);simp[sizeOf,typeInfo,hi,hz.2.1,sliced,Result.andThen,e1,cutS]
theorem C_cutS {W:World} {A:Option Addr} {l:List ByteArray} {c f t:Nat} (h:Kd.C Kd.string W A l.length l) (h1:f≤t) (h2:t≤l.length) (hc:l.length≤c):Kd.C Kd.string W (cutS A c f) (cutT l f t).length (cutT l f t):=by
 have:=Kd.C_mid (c:=c) h h1 h2 hc;simpa [cutS,cutT,Kd.string,Kd.scalar] using this
def RunI (w:World) (FN:Array Value) (a b:Int) (vo:Value) (out:List ByteArray) (W:World):Prop :=
  Below w.heap.size w W∧W.heap[w.heap.size]? = some (.cells FN 71 (0,0))∧W.heap[w.heap.size+1]? = some (.cells #[.int .i64 a, .int .i64 b] 123 (0,0))∧Kd.R Kd.string 9 W (w.heap.size+2) (fun _=>True) vo out
theorem RunI.start (w:World) (FN:Array Value):RunI w FN 0 0 (.slice none 0 0) [] ((w.alloc (.cells FN 71)).alloc (.cells #[.int .i64 0, .int .i64 0] 123)):=by
 refine⟨(newBelow w _).trans ((newBelow _ _).mono (by simp)),newKeep (blk_new _ _) _,?_,Kd.R_nil _ _ _ _ _⟩;have:=blk_new (w.alloc (.cells FN 71)) (.cells #[.int .i64 0, .int .i64 0] 123)
 rwa [World.size_alloc] at this
theorem RunI.below {w W W':World} {FN:Array Value} {a b:Int} {vo:Value} {out:List ByteArray} (h:RunI w FN a b vo out W) (hb:Below W.heap.size W W'):RunI w FN a b vo out W':=⟨far_ h.1 hb,farKeep h.2.1 hb,farKeep h.2.2.1 hb,Kd.R_below h.2.2.2 hb⟩
theorem put22 {w:World} {p q:Nat} {T:TypeId} {a b c d:Value} (hp:w.heap[p]? = some (.cells #[a,b] T (0,0))) (hq:w.heap[q]? = some (.cells #[c,d] T (0,0))) (hne:p≠q) (x y x' y':Value) : ∃ w5,(((w.setCell ⟨p,0,none⟩ x).setCell ⟨p,1,none⟩ y).setCell ⟨q,0,none⟩ x').setCell ⟨q,1,none⟩ y'=w5∧w5.heap[p]? = some (.cells #[x,y] T (0,0))∧w5.heap[q]? = some (.cells #[x',y'] T (0,0)) ∧ ∀ B w0,B≤p→B≤q→Below B w0 w→Below B w0 w5:=by
 refine⟨_,rfl,?_,?_,fun B w0 h1 h2 hb=>(((hb.setCell (p:=⟨p,0,none⟩) h1 _).setCell (p:=⟨p,1,none⟩) h1 _).setCell (p:=⟨q,0,none⟩) h2 _).setCell (p:=⟨q,1,none⟩) h2 _⟩;(· rw[heap_set_other hne,heap_set_other hne];exact heap_set_same (heap_set_same hp x) y);(· (have h1:(((w.setCell ⟨p,0,none⟩ x).setCell ⟨p,1,none⟩ y)).heap[q]? = some (.cells #[c,d] T (0,0)):=by rw[heap_set_other hne.symm,heap_set_other hne.symm,hq]);exact heap_set_same (heap_set_same h1 x') y')
theorem lit3 {w6:World} {A1 A2 A3:Option Addr} {c1 n2 c2 c3:Nat} {l1 l2 l3:List ByteArray} (h2:n2=l2.length) (k1:l1.length≤c1) (g1:Kd.C Kd.string w6 A1 l1.length l1) (k2:n2≤c2) (g2:Kd.C Kd.string w6 A2 l2.length l2) (k3:l3.length≤c3) (g3:Kd.C Kd.string w6 A3 l3.length l3) (hl:l1.length+l2.length+l3.length≤1000000) :
    ∃ w7,w6.alloc (.cells #[.slice A1 l1.length c1, .slice A2 n2 c2, .slice A3 l3.length c3] 23)=w7∧Aside0 (Below w6.heap.size w6 w7)∧Aside0 (Calls Tryd.prog 97 #[.slice (some ⟨w6.heap.size,0,none⟩) 3 3] w7 fun e w' => ∃ v,e = .returned v∧Aside0 (Kd.R Kd.string 9 w' w7.heap.size (fun _=>True) v (l1 ++ (l2 ++ l3)))∧Aside0 (Below w7.heap.size w7 w')):=by
 subst h2;refine⟨_,rfl,⟨newBelow _ _⟩,⟨?_⟩⟩;obtain⟨w7,hw7⟩ : ∃ w7,w6.alloc (.cells #[.slice A1 l1.length c1, .slice A2 l2.length c2, .slice A3 l3.length c3] 23)=w7:=⟨_,rfl⟩;(have hb:Below w6.heap.size w6 w7:=by rw[← hw7];exact newBelow _ _);(have qq:w7.heap[w6.heap.size]? = some (.cells #[.slice A1 l1.length c1, .slice A2 l2.length c2, .slice A3 l3.length c3] 23 (0,0)):=by rw[← hw7];exact blk_new _ _);rw[hw7];have hC:=C_blk (d:=Kd.slice 9 Kd.string) (xs:=[l1,l2,l3]) (inner:=[.slice A1 l1.length c1, .slice A2 l2.length c2, .slice A3 l3.length c3]) qq (Reps.one (⟨A1,c1,rfl,k1,Kd.C_below g1 hb⟩:(Kd.slice 9 Kd.string).K w7 l1 [.slice A1 l1.length c1]) (Reps.one (⟨A2,c2,rfl,k2,Kd.C_below g2 hb⟩:(Kd.slice 9 Kd.string).K w7 l2 [.slice A2 l2.length c2]) (Reps.one (⟨A3,c3,rfl,k3,Kd.C_below g3 hb⟩:(Kd.slice 9 Kd.string).K w7 l3 [.slice A3 l3.length c3]) (Reps.none _ _)))) (by simp);have:=concat_strs (some ⟨w6.heap.size,0,none⟩) 3 [l1,l2,l3] w7 hC (by simp) (by simp) (by simp;omega);(have e:([l1,l2,l3]:List (List ByteArray)).flatten=l1 ++ (l2 ++ l3):=by simp);(rw[e] at this);exact this
theorem RunI.next {w w5 W:World} {FN:Array Value} {a b:Int} {vo v2:Value} {out out2:List ByteArray} {B:Nat} (h:RunI w FN a b vo out w5) (hb:Below w5.heap.size w5 W) (hr:Kd.R Kd.string 9 W B (fun _=>True) v2 out2) (hB:w.heap.size+2≤B) (x y:Int):RunI w FN x y v2 out2 ((W.setCell ⟨w.heap.size+1,0,none⟩ (.int .i64 x)).setCell ⟨w.heap.size+1,1,none⟩ (.int .i64 y)):=by
 have h':=far_ h.1 hb;(have hne:w.heap.size≠w.heap.size+1:=by omega);refine⟨(h'.setCell (p:=⟨w.heap.size+1,0,none⟩) (Nat.le_succ _) _).setCell (p:=⟨w.heap.size+1,1,none⟩) (Nat.le_succ _) _,?_,heap_set_same (heap_set_same (farKeep h.2.2.1 hb) _) _,?_⟩;(· (rw[heap_set_other hne,heap_set_other hne];exact farKeep h.2.1 hb));(· exact Kd.R_mono (Kd.R_step (Kd.R_bound (Kd.R_lower hr hB)) (fun k hk' hlt=>by rw[heap_set_other (by have:=hk'.2.1;omega),heap_set_other (by have:=hk'.2.1;omega)])) (fun _ _=>trivial))
theorem run_is (F1 F2 F3 F4:FuncId) (fn1 fn2 fn3 fn4:Func) (cap1 cap2 cap3 cap4:Array Value) (h1F:FnIs F1 fn1) (h2F:FnIs F2 fn2) (h3F:FnIs F3 fn3) (h4F:FnIs F4 fn4) (spO spN:Spn) (txO txN:Txt)
    (A:Option Addr) (c:Nat) (l:List Hunk48) (Af:Option Addr) (cf:Nat) (file:List ByteArray) (w:World) (hC:Kd.C k48 w A l.length l) (hc:l.length≤c) (hCf:Kd.C Kd.string w Af file.length file) (hcf:file.length≤cf)
    (hl:l.length≤100000) (hfl:file.length≤100000) (hfs : ∀ s ∈ file,s.size≤1000000)
    (hS1 : ∀ h ∈ l,∀ A0 c0 A3 c3 W,Below w.heap.size w W→Kd.C k45 W A0 h.f0.length h.f0→h.f0.length≤c0→Calls Tryd.prog F1 (#[.agg #[.slice A0 h.f0.length c0, .int .i64 h.f1.f0, .int .i64 h.f1.f1, .slice A3 h.f2.length c3]] ++ cap1) W fun e w'=>e = .returned (.agg #[.int .i64 (spO h).f0, .int .i64 (spO h).f1])∧Below W.heap.size W w')
    (hS3 : ∀ h ∈ l,∀ A0 c0 A3 c3 W,Below w.heap.size w W→Kd.C k45 W A0 h.f0.length h.f0→h.f0.length≤c0→Calls Tryd.prog F3 (#[.agg #[.slice A0 h.f0.length c0, .int .i64 h.f1.f0, .int .i64 h.f1.f1, .slice A3 h.f2.length c3]] ++ cap3) W fun e w'=>e = .returned (.agg #[.int .i64 (spN h).f0, .int .i64 (spN h).f1])∧Below W.heap.size W w')
    (hT2 : ∀ h ∈ l,∀ A3 c3 W,Below w.heap.size w W→Kd.C k57 W A3 h.f2.length h.f2→h.f2.length≤c3→Calls Tryd.prog F2 (#[.slice A3 h.f2.length c3] ++ cap2) W fun e w' => ∃ v,e = .returned v∧Kd.R Kd.string 9 w' W.heap.size (fun _=>True) v (txO h.f2)∧Below W.heap.size W w')
    (hT4 : ∀ h ∈ l,∀ A3 c3 W,Below w.heap.size w W→Kd.C k57 W A3 h.f2.length h.f2→h.f2.length≤c3→Calls Tryd.prog F4 (#[.slice A3 h.f2.length c3] ++ cap4) W fun e w' => ∃ v,e = .returned v∧Kd.R Kd.string 9 w' W.heap.size (fun _=>True) v (txN h.f2)∧Below W.heap.size W w')
    (hlen : ∀ h ∈ l,∀ s ∈ txN h.f2,s.size≤1000000) (hch:ChainOk spO spN txO txN l 0 0) (R:List ByteArray × Int) (hR:goF spO spN txO txN file l [] 0 0=R) :
    Calls Tryd.prog 71 #[.agg #[.func (.func F1) #[] cap1, .func (.func F2) #[] cap2, .func (.func F3) #[] cap3, .func (.func F4) #[] cap4], .slice A l.length c, .slice Af file.length cf] w fun e w' => ∃ v,e = .returned (.tuple #[v, .int .i64 R.2])∧Aside0 (Kd.R Kd.string 9 w' w.heap.size (fun _=>True) v R.1)∧Aside0 (Below w.heap.size w w'):=by
 have HC:=Aside0.mk hC;have HCF:=Aside0.mk hCf;have HS1:=Aside0.mk hS1;have HS3:=Aside0.mk hS3;have HT2:=Aside0.mk hT2;have HT4:=Aside0.mk hT4;have HLEN:=Aside0.mk hlen;have HCH:=Aside0.mk hch;have HRR:=Aside0.mk hR;have HFS:=Aside0.mk hfs;have HF1:=Aside0.mk h1F;have HF2:=Aside0.mk h2F;have HF3:=Aside0.mk h3F;have HF4:=Aside0.mk h4F;have HNUM:Aside0 (l.length≤100000∧file.length≤100000∧file.length≤cf∧l.length≤c):=⟨⟨hl,hfl,hcf,hc⟩⟩;clear hC hCf hS1 hS3 hT2 hT4 hlen hch hR hfs h1F h2F h3F h4F hl hfl hc hcf;go_enter Tryd.func71,Tryd.ntmps71
 go_upto_region 3 with fail
 obtain⟨FN,hFN⟩ : ∃ FN,#[Value.func (.func F1) #[] cap1,Value.func (.func F2) #[] cap2,Value.func (.func F3) #[] cap3,Value.func (.func F4) #[] cap4]=FN:=⟨_,rfl⟩;have HFN:=Aside0.mk hFN;rw[show w.alloc (.cells #[Value.func (.func F1) #[] cap1,Value.func (.func F2) #[] cap2,Value.func (.func F3) #[] cap3,Value.func (.func F4) #[] cap4] 71)=w.alloc (.cells FN 71) by rw[hFN]];clear hFN;obtain⟨w2,hw2⟩ : ∃ w2,(w.alloc (.cells FN 71)).alloc (.cells #[.int .i64 0, .int .i64 0] 123)=w2:=⟨_,rfl⟩;(have HI0:Aside0 (RunI w FN 0 0 (.slice none 0 0) [] w2):=by rw[← hw2];exact⟨RunI.start w FN⟩);simp only[hw2];clear hw2;(go_wp2_with fail)
 go_loopw [8,18] (fun v8 v18 wr => ∃ (k:Nat) (out:List ByteArray) (Ao:Option Addr) (co a b:Nat),v8 = .slice Ao out.length co∧v18 = .int .i64 k∧k≤l.length∧out.length=b∧b≤2000∧a≤file.length∧Aside0 (RunI w FN a b (.slice Ao out.length co) out wr)∧Aside0 (ChainOk spO spN txO txN (l.drop k) a b)∧Aside0 (goF spO spN txO txN file (l.drop k) out a b=R)∧Aside0 (∀ s ∈ out,s.size≤1000000)) (fun _ v _=>l.length - (intOf v).toNat)
 (case atStart=>exact⟨0,[],none,0,0,0,rfl,rfl,Nat.zero_le _,rfl,by omega,Nat.zero_le _,HI0,HCH,HRR,⟨by simp⟩⟩)
 case round =>
  obtain⟨k,out,Ao,co,a,b,rfl,rfl,hk,rfl,hb2,haf,HI,HCK,HG,HSZ⟩:=hrel;clear HI0 HCH HRR
  by_cases hlt:k < l.length
  ·
   obtain⟨h,hh⟩ : ∃ h,l[k]=h:=⟨_,rfl⟩;have hd:=dropCons hlt;(rw[hh] at hd);(have hmem:h ∈ l:=by rw[← hh];exact List.getElem_mem hlt);(rw[hd] at HCK HG);obtain⟨f,g,f',g',e1,e2,q1,q2,q3,q4,q5,q6,q7,q8,HCK2⟩:=HCK.out;have hgr:=HG.out;(rw[goF_cons e1 e2] at hgr);have HGR:=Aside0.mk hgr;have HQ:=Aside0.mk (And.intro q1 (And.intro q2 (And.intro q3 (And.intro q4 (And.intro q5 (And.intro q6 (And.intro q7 q8)))))));have HCK2:=Aside0.mk HCK2;obtain⟨ad,A0,c0,A3,c3,hA,x0,x1,x2,x3,hc0,hC0,hc3,hC3⟩:=at_T48 (Kd.C_below HC.out HI.out.1) (k:Int) (by omega) (by omega);subst hA;(rw[show rd_T48 l (k:Int)=h by rw[← hh];exact getN hlt] at x0 x1 x2 x3 hC0 hC3 hc0 hc3);(rw[Int.toNat_natCast] at x0 x1 x2 x3);have hs1:=HS1.out h hmem A0 c0 A3 c3
   have HS1h:Aside0 (∀ W,Below wr.heap.size wr W→Calls Tryd.prog F1 (#[.agg #[.slice A0 h.f0.length c0, .int .i64 h.f1.f0, .int .i64 h.f1.f1, .slice A3 h.f2.length c3]] ++ cap1) W fun e w'=>e = .returned (.agg #[.int .i64 f, .int .i64 g])∧Below W.heap.size W w'):=⟨fun W hW=>by
    have:=HS1.out h hmem A0 c0 A3 c3 W (far_ HI.out.1 hW) (Kd.C_below hC0 hW) hc0
    rw[e1] at this;exact this⟩
   have HS3h:Aside0 (∀ W,Below wr.heap.size wr W→Calls Tryd.prog F3 (#[.agg #[.slice A0 h.f0.length c0, .int .i64 h.f1.f0, .int .i64 h.f1.f1, .slice A3 h.f2.length c3]] ++ cap3) W fun e w'=>e = .returned (.agg #[.int .i64 f', .int .i64 g'])∧Below W.heap.size W w'):=⟨fun W hW=>by
    have:=HS3.out h hmem A0 c0 A3 c3 W (far_ HI.out.1 hW) (Kd.C_below hC0 hW) hc0
    rw[e2] at this;exact this⟩
   have HT2h:Aside0 (∀ W,Below wr.heap.size wr W→Calls Tryd.prog F2 (#[.slice A3 h.f2.length c3] ++ cap2) W fun e w' => ∃ v,e = .returned v∧Kd.R Kd.string 9 w' W.heap.size (fun _=>True) v (txO h.f2)∧Below W.heap.size W w'):=⟨fun W hW=>HT2.out h hmem A3 c3 W (far_ HI.out.1 hW) (Kd.C_below hC3 hW) hc3⟩;have HT4h:Aside0 (∀ W,Below wr.heap.size wr W→Calls Tryd.prog F4 (#[.slice A3 h.f2.length c3] ++ cap4) W fun e w' => ∃ v,e = .returned v∧Kd.R Kd.string 9 w' W.heap.size (fun _=>True) v (txN h.f2)∧Below W.heap.size W w'):=⟨fun W hW=>HT4.out h hmem A3 c3 W (far_ HI.out.1 hW) (Kd.C_below hC3 hW) hc3⟩;have HLH:=Aside0.mk (HLEN.out h hmem);clear hs1 hgr e1 e2 q1 q2 q3 q4 q5 q6 q7 q8 hC0 hC3 hc0 hc3 hd hmem hh
   go_upto_region 6 with fail
   have hX:=blk_new wr (.cells #[.slice A0 h.f0.length c0, .int .i64 h.f1.f0, .int .i64 h.f1.f1, .slice A3 h.f2.length c3] 48);have hWb:=newBelow wr (.cells #[.slice A0 h.f0.length c0, .int .i64 h.f1.f0, .int .i64 h.f1.f1, .slice A3 h.f2.length c3] 48);obtain⟨w1,hw1⟩ : ∃ w1,wr.alloc (.cells #[.slice A0 h.f0.length c0, .int .i64 h.f1.f0, .int .i64 h.f1.f1, .slice A3 h.f2.length c3] 48)=w1:=⟨_,rfl⟩;(rw[hw1] at hX hWb ⊢);have HW1:Aside0 (Below wr.heap.size wr w1):=⟨hWb⟩;have HI1:Aside0 (RunI w FN a (out.length:Int) (.slice Ao out.length co) out w1):=⟨HI.out.below hWb⟩;have HX1:=Aside0.mk hX;have a0:w1.cell? ⟨w.heap.size,0,none⟩=some (.func (.func F1) #[] cap1):=cell_blk HI1.out.2.1 (by rw[← HFN.out];rfl);have a2:w1.cell? ⟨w.heap.size,2,none⟩=some (.func (.func F3) #[] cap3):=cell_blk HI1.out.2.1 (by rw[← HFN.out];rfl);have b0:w1.cell? ⟨wr.heap.size,0,none⟩=some (.slice A0 h.f0.length c0):=cell_blk hX rfl;have b1:w1.cell? ⟨wr.heap.size,1,none⟩=some (.int .i64 h.f1.f0):=cell_blk hX rfl;have b2:w1.cell? ⟨wr.heap.size,2,none⟩=some (.int .i64 h.f1.f1):=cell_blk hX rfl;have b3:w1.cell? ⟨wr.heap.size,3,none⟩=some (.slice A3 h.f2.length c3):=cell_blk hX rfl;clear hX hWb hw1 x0 x1 x2 x3;refine start_ (n:=14) (S:=fun w'=>w'.cell? ⟨w.heap.size,0,none⟩=some (.func (.func F1) #[] cap1)∧w'.cell? ⟨w.heap.size,2,none⟩=some (.func (.func F3) #[] cap3)∧w'.cell? ⟨wr.heap.size,0,none⟩=some (.slice A0 h.f0.length c0)∧w'.cell? ⟨wr.heap.size,1,none⟩=some (.int .i64 h.f1.f0)∧w'.cell? ⟨wr.heap.size,2,none⟩=some (.int .i64 h.f1.f1)∧w'.cell? ⟨wr.heap.size,3,none⟩=some (.slice A3 h.f2.length c3)) (ds:=[12,13]) (bm_ 14 0) (by kernel_rfl) rfl rfl ⟨a0,a2,b0,b1,b2,b3⟩ (fun hHeld=>?_);refine pq_ (i:=0) (N:=some 22) (bm_ 14 1) ?_;refine pq_ (i:=1) (N:=some 23) (bm_ 14 3) ?_;refine pq_ (i:=5) (N:=some 27) (bm_ 14 35) ?_;refine pq_ (i:=6) (N:=some 28) (bm_ 14 99) ?_;refine tq_ (i:=2) (N:=some 24) (bm_ 14 103) hHeld ?_;refine tq_ (i:=3) (N:=some 25) (bm_ 14 111) hHeld ?_;refine tq_ (i:=7) (N:=some 29) (bm_ 14 239) hHeld ?_;refine tq_ (i:=8) (N:=some 30) (bm_ 14 495) hHeld ?_;refine join_ (σ:=Nat × Nat) 2 (bm_ 14 4095) (fun s=>[(26, .agg #[.int .i64 f, .int .i64 g]),(31, .agg #[.int .i64 f', .int .i64 g']),(12, .pointer (some ⟨s.1,0,none⟩)),(13, .pointer (some ⟨s.2,0,none⟩))]) (fun s w'=>Aside0 (Below w1.heap.size w1 w')∧Aside0 (w'.heap[s.1]? = some (.cells #[.int .i64 0, .int .i64 0] 45 (0,0)))∧Aside0 (w'.heap[s.2]? = some (.cells #[.int .i64 0, .int .i64 0] 45 (0,0)))∧Aside0 (s.1≠s.2∧w1.heap.size≤s.1∧w1.heap.size≤s.2)) ?_ ?_;rotate_left
   ·
    intro hCont;refine three_ (i:=4) (j:=10) (k:=11) (Ni:=some 26) (Nj:=some 12) (Nk:=some 13) (bm_ 14 511) (bm_ 14 1519) (bm_ 14 2543) rfl rfl rfl rfl rfl rfl (by kernel_rfl) (by decide) (by decide) (by decide) (fun K hK=>?_) (fun K hK=>?_) (fun K hK=>?_)
    ·
     skip;refine goesC_ HF1.out.1 HF1.out.2.1 HF1.out.2.2 cap1 (#[.agg #[.slice A0 h.f0.length c0, .int .i64 h.f1.f0, .int .i64 h.f1.f1, .slice A3 h.f2.length c3]] ++ cap1) (by rfl) rfl rfl (by rfl) (by simp only[List.map_toArray,List.map_cons,List.map_nil];rfl) ?_;(with_reducible refine(HS1h.out _ (far_ HW1.out (Below.refl w1.heap.size w1).drew)).mono ?_);rintro e vc ⟨rfl,hb2⟩;refine⟨_,rfl,?_⟩;have HBc:Aside0 (Below w1.heap.size w1 vc):=⟨far_ (Below.refl w1.heap.size w1).drew hb2⟩;clear hb2;refine hK.out _ _ ⟨(HBc.out.cell (World.block_lt_of_cell? w1 _ a0)).trans a0,(HBc.out.cell (World.block_lt_of_cell? w1 _ a2)).trans a2,(HBc.out.cell (World.block_lt_of_cell? w1 _ b0)).trans b0,(HBc.out.cell (World.block_lt_of_cell? w1 _ b1)).trans b1,(HBc.out.cell (World.block_lt_of_cell? w1 _ b2)).trans b2,(HBc.out.cell (World.block_lt_of_cell? w1 _ b3)).trans b3⟩ (fun hHeld=>?_);clear hK K;refine nq_ (N:=some 26) ?_;refine three_ (i:=9) (j:=10) (k:=11) (Ni:=some 31) (Nj:=some 12) (Nk:=some 13) (bm_ 14 1023) (bm_ 14 1535) (bm_ 14 2559) rfl rfl rfl rfl rfl rfl (by kernel_rfl) (by decide) (by decide) (by decide) (fun K hK=>?_) (fun K hK=>?_) (fun K hK=>?_)
     ·
      skip;refine goesC_ HF3.out.1 HF3.out.2.1 HF3.out.2.2 cap3 (#[.agg #[.slice A0 h.f0.length c0, .int .i64 h.f1.f0, .int .i64 h.f1.f1, .slice A3 h.f2.length c3]] ++ cap3) (by rfl) rfl rfl (by rfl) (by simp only[List.map_toArray,List.map_cons,List.map_nil];rfl) ?_;(with_reducible refine(HS3h.out _ (far_ HW1.out HBc.out)).mono ?_);rintro e vcd ⟨rfl,hb2⟩;refine⟨_,rfl,?_⟩;have HBcd:Aside0 (Below w1.heap.size w1 vcd):=⟨far_ HBc.out hb2⟩;clear hb2;refine hK.out _ _ ⟨(HBcd.out.cell (World.block_lt_of_cell? w1 _ a0)).trans a0,(HBcd.out.cell (World.block_lt_of_cell? w1 _ a2)).trans a2,(HBcd.out.cell (World.block_lt_of_cell? w1 _ b0)).trans b0,(HBcd.out.cell (World.block_lt_of_cell? w1 _ b1)).trans b1,(HBcd.out.cell (World.block_lt_of_cell? w1 _ b2)).trans b2,(HBcd.out.cell (World.block_lt_of_cell? w1 _ b3)).trans b3⟩ (fun hHeld=>?_);clear hK K;refine nq_ (N:=some 31) ?_;refine two_ (i:=10) (j:=11) (Ni:=some 12) (Nj:=some 13) (bm_ 14 2047) (bm_ 14 3071) rfl rfl rfl rfl (by kernel_rfl) (by decide) (by decide) (fun K hK=>?_) (fun K hK=>?_)
      ·
       skip;refine box_step (by rfl) (N:=12) rfl (cs:=#[.int .i64 0, .int .i64 0]) (t:=45) ?hr ?_;(case hr=>first|(go_simp;done)|(go_simp;rfl));intro gce hgc vcde hbx hb2;have HBcde:Aside0 (Below w1.heap.size w1 vcde):=⟨far_ HBcd.out hb2⟩;have HXecde:=Aside0.mk hbx;have HGecde:Aside0 (w1.heap.size≤gce):=⟨by rw[hgc];exact(HBcd.out).size⟩;clear hgc hbx;clear hb2;refine hK.out _ _ ⟨(HBcde.out.cell (World.block_lt_of_cell? w1 _ a0)).trans a0,(HBcde.out.cell (World.block_lt_of_cell? w1 _ a2)).trans a2,(HBcde.out.cell (World.block_lt_of_cell? w1 _ b0)).trans b0,(HBcde.out.cell (World.block_lt_of_cell? w1 _ b1)).trans b1,(HBcde.out.cell (World.block_lt_of_cell? w1 _ b2)).trans b2,(HBcde.out.cell (World.block_lt_of_cell? w1 _ b3)).trans b3⟩ (fun hHeld=>?_);clear hK K;refine nq_ (N:=some 12) ?_;refine one_ (i:=11) (N:=some 13) (bm_ 14 4095) rfl rfl (by kernel_rfl) (by decide) (fun K hK=>?_);refine box_step (by rfl) (N:=13) rfl (cs:=#[.int .i64 0, .int .i64 0]) (t:=45) ?hr ?_;(case hr=>first|(go_simp;done)|(go_simp;rfl));intro gcf hgc vcdef hbx hb2;have HBcdef:Aside0 (Below w1.heap.size w1 vcdef):=⟨far_ HBcde.out hb2⟩;have HXecdef:=Aside0.mk (farKeep HXecde.out hb2);have HGecdef:=HGecde;have HXfcdef:=Aside0.mk hbx;have HGfcdef:Aside0 (w1.heap.size≤gcf):=⟨by rw[hgc];exact(HBcde.out).size⟩;have HNEcdef:Aside0 (gce≠gcf):=⟨by have:=(Array.getElem?_eq_some_iff.1 HXecde.out).1;omega⟩;clear hgc hbx;clear hb2;refine hK.out _ _ ⟨(HBcdef.out.cell (World.block_lt_of_cell? w1 _ a0)).trans a0,(HBcdef.out.cell (World.block_lt_of_cell? w1 _ a2)).trans a2,(HBcdef.out.cell (World.block_lt_of_cell? w1 _ b0)).trans b0,(HBcdef.out.cell (World.block_lt_of_cell? w1 _ b1)).trans b1,(HBcdef.out.cell (World.block_lt_of_cell? w1 _ b2)).trans b2,(HBcdef.out.cell (World.block_lt_of_cell? w1 _ b3)).trans b3⟩ (fun hHeld=>?_);clear hK K;refine nq_ (N:=some 13) ?_;exact norm_ (by simp only[putAll,Act.put,List.setIfInBounds_toArray,List.set_cons_zero,List.set_cons_succ]) (hCont (gce,gcf) _ ⟨HBcdef,HXecdef,HXfcdef,⟨⟨HNEcdef.out,HGecdef.out,HGfcdef.out⟩⟩⟩)
      ·
       skip;refine box_step (by rfl) (N:=13) rfl (cs:=#[.int .i64 0, .int .i64 0]) (t:=45) ?hr ?_;(case hr=>first|(go_simp;done)|(go_simp;rfl));intro gcf hgc vcdf hbx hb2;have HBcdf:Aside0 (Below w1.heap.size w1 vcdf):=⟨far_ HBcd.out hb2⟩;have HXfcdf:=Aside0.mk hbx;have HGfcdf:Aside0 (w1.heap.size≤gcf):=⟨by rw[hgc];exact(HBcd.out).size⟩;clear hgc hbx;clear hb2;refine hK.out _ _ ⟨(HBcdf.out.cell (World.block_lt_of_cell? w1 _ a0)).trans a0,(HBcdf.out.cell (World.block_lt_of_cell? w1 _ a2)).trans a2,(HBcdf.out.cell (World.block_lt_of_cell? w1 _ b0)).trans b0,(HBcdf.out.cell (World.block_lt_of_cell? w1 _ b1)).trans b1,(HBcdf.out.cell (World.block_lt_of_cell? w1 _ b2)).trans b2,(HBcdf.out.cell (World.block_lt_of_cell? w1 _ b3)).trans b3⟩ (fun hHeld=>?_);clear hK K;refine nq_ (N:=some 13) ?_;refine one_ (i:=10) (N:=some 12) (bm_ 14 4095) rfl rfl (by kernel_rfl) (by decide) (fun K hK=>?_);refine box_step (by rfl) (N:=12) rfl (cs:=#[.int .i64 0, .int .i64 0]) (t:=45) ?hr ?_;(case hr=>first|(go_simp;done)|(go_simp;rfl));intro gce hgc vcdfe hbx hb2;have HBcdfe:Aside0 (Below w1.heap.size w1 vcdfe):=⟨far_ HBcdf.out hb2⟩;have HXfcdfe:=Aside0.mk (farKeep HXfcdf.out hb2);have HGfcdfe:=HGfcdf;have HXecdfe:=Aside0.mk hbx;have HGecdfe:Aside0 (w1.heap.size≤gce):=⟨by rw[hgc];exact(HBcdf.out).size⟩;have HNEcdfe:Aside0 (gcf≠gce):=⟨by have:=(Array.getElem?_eq_some_iff.1 HXfcdf.out).1;omega⟩;clear hgc hbx;clear hb2;refine hK.out _ _ ⟨(HBcdfe.out.cell (World.block_lt_of_cell? w1 _ a0)).trans a0,(HBcdfe.out.cell (World.block_lt_of_cell? w1 _ a2)).trans a2,(HBcdfe.out.cell (World.block_lt_of_cell? w1 _ b0)).trans b0,(HBcdfe.out.cell (World.block_lt_of_cell? w1 _ b1)).trans b1,(HBcdfe.out.cell (World.block_lt_of_cell? w1 _ b2)).trans b2,(HBcdfe.out.cell (World.block_lt_of_cell? w1 _ b3)).trans b3⟩ (fun hHeld=>?_);clear hK K;refine nq_ (N:=some 12) ?_;exact norm_ (by simp only[putAll,Act.put,List.setIfInBounds_toArray,List.set_cons_zero,List.set_cons_succ]) (hCont (gce,gcf) _ ⟨HBcdfe,HXecdfe,HXfcdfe,⟨⟨HNEcdfe.out.symm,HGecdfe.out,HGfcdfe.out⟩⟩⟩)
     ·
      skip;refine box_step (by rfl) (N:=12) rfl (cs:=#[.int .i64 0, .int .i64 0]) (t:=45) ?hr ?_;(case hr=>first|(go_simp;done)|(go_simp;rfl));intro gce hgc vce hbx hb2;have HBce:Aside0 (Below w1.heap.size w1 vce):=⟨far_ HBc.out hb2⟩;have HXece:=Aside0.mk hbx;have HGece:Aside0 (w1.heap.size≤gce):=⟨by rw[hgc];exact(HBc.out).size⟩;clear hgc hbx;clear hb2;refine hK.out _ _ ⟨(HBce.out.cell (World.block_lt_of_cell? w1 _ a0)).trans a0,(HBce.out.cell (World.block_lt_of_cell? w1 _ a2)).trans a2,(HBce.out.cell (World.block_lt_of_cell? w1 _ b0)).trans b0,(HBce.out.cell (World.block_lt_of_cell? w1 _ b1)).trans b1,(HBce.out.cell (World.block_lt_of_cell? w1 _ b2)).trans b2,(HBce.out.cell (World.block_lt_of_cell? w1 _ b3)).trans b3⟩ (fun hHeld=>?_);clear hK K;refine nq_ (N:=some 12) ?_;refine two_ (i:=9) (j:=11) (Ni:=some 31) (Nj:=some 13) (bm_ 14 2047) (bm_ 14 3583) rfl rfl rfl rfl (by kernel_rfl) (by decide) (by decide) (fun K hK=>?_) (fun K hK=>?_)
      ·
       skip;refine goesC_ HF3.out.1 HF3.out.2.1 HF3.out.2.2 cap3 (#[.agg #[.slice A0 h.f0.length c0, .int .i64 h.f1.f0, .int .i64 h.f1.f1, .slice A3 h.f2.length c3]] ++ cap3) (by rfl) rfl rfl (by rfl) (by simp only[List.map_toArray,List.map_cons,List.map_nil];rfl) ?_;(with_reducible refine(HS3h.out _ (far_ HW1.out HBce.out)).mono ?_);rintro e vced ⟨rfl,hb2⟩;refine⟨_,rfl,?_⟩;have HBced:Aside0 (Below w1.heap.size w1 vced):=⟨far_ HBce.out hb2⟩;have HXeced:=Aside0.mk (farKeep HXece.out hb2);have HGeced:=HGece;clear hb2;refine hK.out _ _ ⟨(HBced.out.cell (World.block_lt_of_cell? w1 _ a0)).trans a0,(HBced.out.cell (World.block_lt_of_cell? w1 _ a2)).trans a2,(HBced.out.cell (World.block_lt_of_cell? w1 _ b0)).trans b0,(HBced.out.cell (World.block_lt_of_cell? w1 _ b1)).trans b1,(HBced.out.cell (World.block_lt_of_cell? w1 _ b2)).trans b2,(HBced.out.cell (World.block_lt_of_cell? w1 _ b3)).trans b3⟩ (fun hHeld=>?_);clear hK K;refine nq_ (N:=some 31) ?_;refine one_ (i:=11) (N:=some 13) (bm_ 14 4095) rfl rfl (by kernel_rfl) (by decide) (fun K hK=>?_);refine box_step (by rfl) (N:=13) rfl (cs:=#[.int .i64 0, .int .i64 0]) (t:=45) ?hr ?_;(case hr=>first|(go_simp;done)|(go_simp;rfl));intro gcf hgc vcedf hbx hb2;have HBcedf:Aside0 (Below w1.heap.size w1 vcedf):=⟨far_ HBced.out hb2⟩;have HXecedf:=Aside0.mk (farKeep HXeced.out hb2);have HGecedf:=HGeced;have HXfcedf:=Aside0.mk hbx;have HGfcedf:Aside0 (w1.heap.size≤gcf):=⟨by rw[hgc];exact(HBced.out).size⟩;have HNEcedf:Aside0 (gce≠gcf):=⟨by have:=(Array.getElem?_eq_some_iff.1 HXeced.out).1;omega⟩;clear hgc hbx;clear hb2;refine hK.out _ _ ⟨(HBcedf.out.cell (World.block_lt_of_cell? w1 _ a0)).trans a0,(HBcedf.out.cell (World.block_lt_of_cell? w1 _ a2)).trans a2,(HBcedf.out.cell (World.block_lt_of_cell? w1 _ b0)).trans b0,(HBcedf.out.cell (World.block_lt_of_cell? w1 _ b1)).trans b1,(HBcedf.out.cell (World.block_lt_of_cell? w1 _ b2)).trans b2,(HBcedf.out.cell (World.block_lt_of_cell? w1 _ b3)).trans b3⟩ (fun hHeld=>?_);clear hK K;refine nq_ (N:=some 13) ?_;exact norm_ (by simp only[putAll,Act.put,List.setIfInBounds_toArray,List.set_cons_zero,List.set_cons_succ]) (hCont (gce,gcf) _ ⟨HBcedf,HXecedf,HXfcedf,⟨⟨HNEcedf.out,HGecedf.out,HGfcedf.out⟩⟩⟩)
      ·
       skip;refine box_step (by rfl) (N:=13) rfl (cs:=#[.int .i64 0, .int .i64 0]) (t:=45) ?hr ?_;(case hr=>first|(go_simp;done)|(go_simp;rfl));intro gcf hgc vcef hbx hb2;have HBcef:Aside0 (Below w1.heap.size w1 vcef):=⟨far_ HBce.out hb2⟩;have HXecef:=Aside0.mk (farKeep HXece.out hb2);have HGecef:=HGece;have HXfcef:=Aside0.mk hbx;have HGfcef:Aside0 (w1.heap.size≤gcf):=⟨by rw[hgc];exact(HBce.out).size⟩;have HNEcef:Aside0 (gce≠gcf):=⟨by have:=(Array.getElem?_eq_some_iff.1 HXece.out).1;omega⟩;clear hgc hbx;clear hb2;refine hK.out _ _ ⟨(HBcef.out.cell (World.block_lt_of_cell? w1 _ a0)).trans a0,(HBcef.out.cell (World.block_lt_of_cell? w1 _ a2)).trans a2,(HBcef.out.cell (World.block_lt_of_cell? w1 _ b0)).trans b0,(HBcef.out.cell (World.block_lt_of_cell? w1 _ b1)).trans b1,(HBcef.out.cell (World.block_lt_of_cell? w1 _ b2)).trans b2,(HBcef.out.cell (World.block_lt_of_cell? w1 _ b3)).trans b3⟩ (fun hHeld=>?_);clear hK K;refine nq_ (N:=some 13) ?_;refine one_ (i:=9) (N:=some 31) (bm_ 14 4095) rfl rfl (by kernel_rfl) (by decide) (fun K hK=>?_);refine goesC_ HF3.out.1 HF3.out.2.1 HF3.out.2.2 cap3 (#[.agg #[.slice A0 h.f0.length c0, .int .i64 h.f1.f0, .int .i64 h.f1.f1, .slice A3 h.f2.length c3]] ++ cap3) (by rfl) rfl rfl (by rfl) (by simp only[List.map_toArray,List.map_cons,List.map_nil];rfl) ?_;(with_reducible refine(HS3h.out _ (far_ HW1.out HBcef.out)).mono ?_);rintro e vcefd ⟨rfl,hb2⟩;refine⟨_,rfl,?_⟩;have HBcefd:Aside0 (Below w1.heap.size w1 vcefd):=⟨far_ HBcef.out hb2⟩;have HXecefd:=Aside0.mk (farKeep HXecef.out hb2);have HGecefd:=HGecef;have HXfcefd:=Aside0.mk (farKeep HXfcef.out hb2);have HGfcefd:=HGfcef;have HNEcefd:=HNEcef;clear hb2;refine hK.out _ _ ⟨(HBcefd.out.cell (World.block_lt_of_cell? w1 _ a0)).trans a0,(HBcefd.out.cell (World.block_lt_of_cell? w1 _ a2)).trans a2,(HBcefd.out.cell (World.block_lt_of_cell? w1 _ b0)).trans b0,(HBcefd.out.cell (World.block_lt_of_cell? w1 _ b1)).trans b1,(HBcefd.out.cell (World.block_lt_of_cell? w1 _ b2)).trans b2,(HBcefd.out.cell (World.block_lt_of_cell? w1 _ b3)).trans b3⟩ (fun hHeld=>?_);clear hK K;refine nq_ (N:=some 31) ?_;exact norm_ (by simp only[putAll,Act.put,List.setIfInBounds_toArray,List.set_cons_zero,List.set_cons_succ]) (hCont (gce,gcf) _ ⟨HBcefd,HXecefd,HXfcefd,⟨⟨HNEcefd.out,HGecefd.out,HGfcefd.out⟩⟩⟩)
     ·
      skip;refine box_step (by rfl) (N:=13) rfl (cs:=#[.int .i64 0, .int .i64 0]) (t:=45) ?hr ?_;(case hr=>first|(go_simp;done)|(go_simp;rfl));intro gcf hgc vcf hbx hb2;have HBcf:Aside0 (Below w1.heap.size w1 vcf):=⟨far_ HBc.out hb2⟩;have HXfcf:=Aside0.mk hbx;have HGfcf:Aside0 (w1.heap.size≤gcf):=⟨by rw[hgc];exact(HBc.out).size⟩;clear hgc hbx;clear hb2;refine hK.out _ _ ⟨(HBcf.out.cell (World.block_lt_of_cell? w1 _ a0)).trans a0,(HBcf.out.cell (World.block_lt_of_cell? w1 _ a2)).trans a2,(HBcf.out.cell (World.block_lt_of_cell? w1 _ b0)).trans b0,(HBcf.out.cell (World.block_lt_of_cell? w1 _ b1)).trans b1,(HBcf.out.cell (World.block_lt_of_cell? w1 _ b2)).trans b2,(HBcf.out.cell (World.block_lt_of_cell? w1 _ b3)).trans b3⟩ (fun hHeld=>?_);clear hK K;refine nq_ (N:=some 13) ?_;refine two_ (i:=9) (j:=10) (Ni:=some 31) (Nj:=some 12) (bm_ 14 3071) (bm_ 14 3583) rfl rfl rfl rfl (by kernel_rfl) (by decide) (by decide) (fun K hK=>?_) (fun K hK=>?_)
      ·
       skip;refine goesC_ HF3.out.1 HF3.out.2.1 HF3.out.2.2 cap3 (#[.agg #[.slice A0 h.f0.length c0, .int .i64 h.f1.f0, .int .i64 h.f1.f1, .slice A3 h.f2.length c3]] ++ cap3) (by rfl) rfl rfl (by rfl) (by simp only[List.map_toArray,List.map_cons,List.map_nil];rfl) ?_;(with_reducible refine(HS3h.out _ (far_ HW1.out HBcf.out)).mono ?_);rintro e vcfd ⟨rfl,hb2⟩;refine⟨_,rfl,?_⟩;have HBcfd:Aside0 (Below w1.heap.size w1 vcfd):=⟨far_ HBcf.out hb2⟩;have HXfcfd:=Aside0.mk (farKeep HXfcf.out hb2);have HGfcfd:=HGfcf;clear hb2;refine hK.out _ _ ⟨(HBcfd.out.cell (World.block_lt_of_cell? w1 _ a0)).trans a0,(HBcfd.out.cell (World.block_lt_of_cell? w1 _ a2)).trans a2,(HBcfd.out.cell (World.block_lt_of_cell? w1 _ b0)).trans b0,(HBcfd.out.cell (World.block_lt_of_cell? w1 _ b1)).trans b1,(HBcfd.out.cell (World.block_lt_of_cell? w1 _ b2)).trans b2,(HBcfd.out.cell (World.block_lt_of_cell? w1 _ b3)).trans b3⟩ (fun hHeld=>?_);clear hK K;refine nq_ (N:=some 31) ?_;refine one_ (i:=10) (N:=some 12) (bm_ 14 4095) rfl rfl (by kernel_rfl) (by decide) (fun K hK=>?_);refine box_step (by rfl) (N:=12) rfl (cs:=#[.int .i64 0, .int .i64 0]) (t:=45) ?hr ?_;(case hr=>first|(go_simp;done)|(go_simp;rfl));intro gce hgc vcfde hbx hb2;have HBcfde:Aside0 (Below w1.heap.size w1 vcfde):=⟨far_ HBcfd.out hb2⟩;have HXfcfde:=Aside0.mk (farKeep HXfcfd.out hb2);have HGfcfde:=HGfcfd;have HXecfde:=Aside0.mk hbx;have HGecfde:Aside0 (w1.heap.size≤gce):=⟨by rw[hgc];exact(HBcfd.out).size⟩;have HNEcfde:Aside0 (gcf≠gce):=⟨by have:=(Array.getElem?_eq_some_iff.1 HXfcfd.out).1;omega⟩;clear hgc hbx;clear hb2;refine hK.out _ _ ⟨(HBcfde.out.cell (World.block_lt_of_cell? w1 _ a0)).trans a0,(HBcfde.out.cell (World.block_lt_of_cell? w1 _ a2)).trans a2,(HBcfde.out.cell (World.block_lt_of_cell? w1 _ b0)).trans b0,(HBcfde.out.cell (World.block_lt_of_cell? w1 _ b1)).trans b1,(HBcfde.out.cell (World.block_lt_of_cell? w1 _ b2)).trans b2,(HBcfde.out.cell (World.block_lt_of_cell? w1 _ b3)).trans b3⟩ (fun hHeld=>?_);clear hK K;refine nq_ (N:=some 12) ?_;exact norm_ (by simp only[putAll,Act.put,List.setIfInBounds_toArray,List.set_cons_zero,List.set_cons_succ]) (hCont (gce,gcf) _ ⟨HBcfde,HXecfde,HXfcfde,⟨⟨HNEcfde.out.symm,HGecfde.out,HGfcfde.out⟩⟩⟩)
      ·
       skip;refine box_step (by rfl) (N:=12) rfl (cs:=#[.int .i64 0, .int .i64 0]) (t:=45) ?hr ?_;(case hr=>first|(go_simp;done)|(go_simp;rfl));intro gce hgc vcfe hbx hb2;have HBcfe:Aside0 (Below w1.heap.size w1 vcfe):=⟨far_ HBcf.out hb2⟩;have HXfcfe:=Aside0.mk (farKeep HXfcf.out hb2);have HGfcfe:=HGfcf;have HXecfe:=Aside0.mk hbx;have HGecfe:Aside0 (w1.heap.size≤gce):=⟨by rw[hgc];exact(HBcf.out).size⟩;have HNEcfe:Aside0 (gcf≠gce):=⟨by have:=(Array.getElem?_eq_some_iff.1 HXfcf.out).1;omega⟩;clear hgc hbx;clear hb2;refine hK.out _ _ ⟨(HBcfe.out.cell (World.block_lt_of_cell? w1 _ a0)).trans a0,(HBcfe.out.cell (World.block_lt_of_cell? w1 _ a2)).trans a2,(HBcfe.out.cell (World.block_lt_of_cell? w1 _ b0)).trans b0,(HBcfe.out.cell (World.block_lt_of_cell? w1 _ b1)).trans b1,(HBcfe.out.cell (World.block_lt_of_cell? w1 _ b2)).trans b2,(HBcfe.out.cell (World.block_lt_of_cell? w1 _ b3)).trans b3⟩ (fun hHeld=>?_);clear hK K;refine nq_ (N:=some 12) ?_;refine one_ (i:=9) (N:=some 31) (bm_ 14 4095) rfl rfl (by kernel_rfl) (by decide) (fun K hK=>?_);refine goesC_ HF3.out.1 HF3.out.2.1 HF3.out.2.2 cap3 (#[.agg #[.slice A0 h.f0.length c0, .int .i64 h.f1.f0, .int .i64 h.f1.f1, .slice A3 h.f2.length c3]] ++ cap3) (by rfl) rfl rfl (by rfl) (by simp only[List.map_toArray,List.map_cons,List.map_nil];rfl) ?_;(with_reducible refine(HS3h.out _ (far_ HW1.out HBcfe.out)).mono ?_);rintro e vcfed ⟨rfl,hb2⟩;refine⟨_,rfl,?_⟩;have HBcfed:Aside0 (Below w1.heap.size w1 vcfed):=⟨far_ HBcfe.out hb2⟩;have HXfcfed:=Aside0.mk (farKeep HXfcfe.out hb2);have HGfcfed:=HGfcfe;have HXecfed:=Aside0.mk (farKeep HXecfe.out hb2);have HGecfed:=HGecfe;have HNEcfed:=HNEcfe;clear hb2;refine hK.out _ _ ⟨(HBcfed.out.cell (World.block_lt_of_cell? w1 _ a0)).trans a0,(HBcfed.out.cell (World.block_lt_of_cell? w1 _ a2)).trans a2,(HBcfed.out.cell (World.block_lt_of_cell? w1 _ b0)).trans b0,(HBcfed.out.cell (World.block_lt_of_cell? w1 _ b1)).trans b1,(HBcfed.out.cell (World.block_lt_of_cell? w1 _ b2)).trans b2,(HBcfed.out.cell (World.block_lt_of_cell? w1 _ b3)).trans b3⟩ (fun hHeld=>?_);clear hK K;refine nq_ (N:=some 31) ?_;exact norm_ (by simp only[putAll,Act.put,List.setIfInBounds_toArray,List.set_cons_zero,List.set_cons_succ]) (hCont (gce,gcf) _ ⟨HBcfed,HXecfed,HXfcfed,⟨⟨HNEcfed.out.symm,HGecfed.out,HGfcfed.out⟩⟩⟩)
    ·
     skip;refine box_step (by rfl) (N:=12) rfl (cs:=#[.int .i64 0, .int .i64 0]) (t:=45) ?hr ?_;(case hr=>first|(go_simp;done)|(go_simp;rfl));intro gce hgc ve hbx hb2;have HBe:Aside0 (Below w1.heap.size w1 ve):=⟨far_ (Below.refl w1.heap.size w1).drew hb2⟩;have HXee:=Aside0.mk hbx;have HGee:Aside0 (w1.heap.size≤gce):=⟨by rw[hgc];exact((Below.refl w1.heap.size w1).drew).size⟩;clear hgc hbx;clear hb2;refine hK.out _ _ ⟨(HBe.out.cell (World.block_lt_of_cell? w1 _ a0)).trans a0,(HBe.out.cell (World.block_lt_of_cell? w1 _ a2)).trans a2,(HBe.out.cell (World.block_lt_of_cell? w1 _ b0)).trans b0,(HBe.out.cell (World.block_lt_of_cell? w1 _ b1)).trans b1,(HBe.out.cell (World.block_lt_of_cell? w1 _ b2)).trans b2,(HBe.out.cell (World.block_lt_of_cell? w1 _ b3)).trans b3⟩ (fun hHeld=>?_);clear hK K;refine nq_ (N:=some 12) ?_;refine two_ (i:=4) (j:=11) (Ni:=some 26) (Nj:=some 13) (bm_ 14 1535) (bm_ 14 3567) rfl rfl rfl rfl (by kernel_rfl) (by decide) (by decide) (fun K hK=>?_) (fun K hK=>?_)
     ·
      skip;refine goesC_ HF1.out.1 HF1.out.2.1 HF1.out.2.2 cap1 (#[.agg #[.slice A0 h.f0.length c0, .int .i64 h.f1.f0, .int .i64 h.f1.f1, .slice A3 h.f2.length c3]] ++ cap1) (by rfl) rfl rfl (by rfl) (by simp only[List.map_toArray,List.map_cons,List.map_nil];rfl) ?_;(with_reducible refine(HS1h.out _ (far_ HW1.out HBe.out)).mono ?_);rintro e vec ⟨rfl,hb2⟩;refine⟨_,rfl,?_⟩;have HBec:Aside0 (Below w1.heap.size w1 vec):=⟨far_ HBe.out hb2⟩;have HXeec:=Aside0.mk (farKeep HXee.out hb2);have HGeec:=HGee;clear hb2;refine hK.out _ _ ⟨(HBec.out.cell (World.block_lt_of_cell? w1 _ a0)).trans a0,(HBec.out.cell (World.block_lt_of_cell? w1 _ a2)).trans a2,(HBec.out.cell (World.block_lt_of_cell? w1 _ b0)).trans b0,(HBec.out.cell (World.block_lt_of_cell? w1 _ b1)).trans b1,(HBec.out.cell (World.block_lt_of_cell? w1 _ b2)).trans b2,(HBec.out.cell (World.block_lt_of_cell? w1 _ b3)).trans b3⟩ (fun hHeld=>?_);clear hK K;refine nq_ (N:=some 26) ?_;refine two_ (i:=9) (j:=11) (Ni:=some 31) (Nj:=some 13) (bm_ 14 2047) (bm_ 14 3583) rfl rfl rfl rfl (by kernel_rfl) (by decide) (by decide) (fun K hK=>?_) (fun K hK=>?_)
      ·
       skip;refine goesC_ HF3.out.1 HF3.out.2.1 HF3.out.2.2 cap3 (#[.agg #[.slice A0 h.f0.length c0, .int .i64 h.f1.f0, .int .i64 h.f1.f1, .slice A3 h.f2.length c3]] ++ cap3) (by rfl) rfl rfl (by rfl) (by simp only[List.map_toArray,List.map_cons,List.map_nil];rfl) ?_;(with_reducible refine(HS3h.out _ (far_ HW1.out HBec.out)).mono ?_);rintro e vecd ⟨rfl,hb2⟩;refine⟨_,rfl,?_⟩;have HBecd:Aside0 (Below w1.heap.size w1 vecd):=⟨far_ HBec.out hb2⟩;have HXeecd:=Aside0.mk (farKeep HXeec.out hb2);have HGeecd:=HGeec;clear hb2;refine hK.out _ _ ⟨(HBecd.out.cell (World.block_lt_of_cell? w1 _ a0)).trans a0,(HBecd.out.cell (World.block_lt_of_cell? w1 _ a2)).trans a2,(HBecd.out.cell (World.block_lt_of_cell? w1 _ b0)).trans b0,(HBecd.out.cell (World.block_lt_of_cell? w1 _ b1)).trans b1,(HBecd.out.cell (World.block_lt_of_cell? w1 _ b2)).trans b2,(HBecd.out.cell (World.block_lt_of_cell? w1 _ b3)).trans b3⟩ (fun hHeld=>?_);clear hK K;refine nq_ (N:=some 31) ?_;refine one_ (i:=11) (N:=some 13) (bm_ 14 4095) rfl rfl (by kernel_rfl) (by decide) (fun K hK=>?_);refine box_step (by rfl) (N:=13) rfl (cs:=#[.int .i64 0, .int .i64 0]) (t:=45) ?hr ?_;(case hr=>first|(go_simp;done)|(go_simp;rfl));intro gcf hgc vecdf hbx hb2;have HBecdf:Aside0 (Below w1.heap.size w1 vecdf):=⟨far_ HBecd.out hb2⟩;have HXeecdf:=Aside0.mk (farKeep HXeecd.out hb2);have HGeecdf:=HGeecd;have HXfecdf:=Aside0.mk hbx;have HGfecdf:Aside0 (w1.heap.size≤gcf):=⟨by rw[hgc];exact(HBecd.out).size⟩;have HNEecdf:Aside0 (gce≠gcf):=⟨by have:=(Array.getElem?_eq_some_iff.1 HXeecd.out).1;omega⟩;clear hgc hbx;clear hb2;refine hK.out _ _ ⟨(HBecdf.out.cell (World.block_lt_of_cell? w1 _ a0)).trans a0,(HBecdf.out.cell (World.block_lt_of_cell? w1 _ a2)).trans a2,(HBecdf.out.cell (World.block_lt_of_cell? w1 _ b0)).trans b0,(HBecdf.out.cell (World.block_lt_of_cell? w1 _ b1)).trans b1,(HBecdf.out.cell (World.block_lt_of_cell? w1 _ b2)).trans b2,(HBecdf.out.cell (World.block_lt_of_cell? w1 _ b3)).trans b3⟩ (fun hHeld=>?_);clear hK K;refine nq_ (N:=some 13) ?_;exact norm_ (by simp only[putAll,Act.put,List.setIfInBounds_toArray,List.set_cons_zero,List.set_cons_succ]) (hCont (gce,gcf) _ ⟨HBecdf,HXeecdf,HXfecdf,⟨⟨HNEecdf.out,HGeecdf.out,HGfecdf.out⟩⟩⟩)
      ·
       skip;refine box_step (by rfl) (N:=13) rfl (cs:=#[.int .i64 0, .int .i64 0]) (t:=45) ?hr ?_;(case hr=>first|(go_simp;done)|(go_simp;rfl));intro gcf hgc vecf hbx hb2;have HBecf:Aside0 (Below w1.heap.size w1 vecf):=⟨far_ HBec.out hb2⟩;have HXeecf:=Aside0.mk (farKeep HXeec.out hb2);have HGeecf:=HGeec;have HXfecf:=Aside0.mk hbx;have HGfecf:Aside0 (w1.heap.size≤gcf):=⟨by rw[hgc];exact(HBec.out).size⟩;have HNEecf:Aside0 (gce≠gcf):=⟨by have:=(Array.getElem?_eq_some_iff.1 HXeec.out).1;omega⟩;clear hgc hbx;clear hb2;refine hK.out _ _ ⟨(HBecf.out.cell (World.block_lt_of_cell? w1 _ a0)).trans a0,(HBecf.out.cell (World.block_lt_of_cell? w1 _ a2)).trans a2,(HBecf.out.cell (World.block_lt_of_cell? w1 _ b0)).trans b0,(HBecf.out.cell (World.block_lt_of_cell? w1 _ b1)).trans b1,(HBecf.out.cell (World.block_lt_of_cell? w1 _ b2)).trans b2,(HBecf.out.cell (World.block_lt_of_cell? w1 _ b3)).trans b3⟩ (fun hHeld=>?_);clear hK K;refine nq_ (N:=some 13) ?_;refine one_ (i:=9) (N:=some 31) (bm_ 14 4095) rfl rfl (by kernel_rfl) (by decide) (fun K hK=>?_);refine goesC_ HF3.out.1 HF3.out.2.1 HF3.out.2.2 cap3 (#[.agg #[.slice A0 h.f0.length c0, .int .i64 h.f1.f0, .int .i64 h.f1.f1, .slice A3 h.f2.length c3]] ++ cap3) (by rfl) rfl rfl (by rfl) (by simp only[List.map_toArray,List.map_cons,List.map_nil];rfl) ?_;(with_reducible refine(HS3h.out _ (far_ HW1.out HBecf.out)).mono ?_);rintro e vecfd ⟨rfl,hb2⟩;refine⟨_,rfl,?_⟩;have HBecfd:Aside0 (Below w1.heap.size w1 vecfd):=⟨far_ HBecf.out hb2⟩;have HXeecfd:=Aside0.mk (farKeep HXeecf.out hb2);have HGeecfd:=HGeecf;have HXfecfd:=Aside0.mk (farKeep HXfecf.out hb2);have HGfecfd:=HGfecf;have HNEecfd:=HNEecf;clear hb2;refine hK.out _ _ ⟨(HBecfd.out.cell (World.block_lt_of_cell? w1 _ a0)).trans a0,(HBecfd.out.cell (World.block_lt_of_cell? w1 _ a2)).trans a2,(HBecfd.out.cell (World.block_lt_of_cell? w1 _ b0)).trans b0,(HBecfd.out.cell (World.block_lt_of_cell? w1 _ b1)).trans b1,(HBecfd.out.cell (World.block_lt_of_cell? w1 _ b2)).trans b2,(HBecfd.out.cell (World.block_lt_of_cell? w1 _ b3)).trans b3⟩ (fun hHeld=>?_);clear hK K;refine nq_ (N:=some 31) ?_;exact norm_ (by simp only[putAll,Act.put,List.setIfInBounds_toArray,List.set_cons_zero,List.set_cons_succ]) (hCont (gce,gcf) _ ⟨HBecfd,HXeecfd,HXfecfd,⟨⟨HNEecfd.out,HGeecfd.out,HGfecfd.out⟩⟩⟩)
     ·
      skip;refine box_step (by rfl) (N:=13) rfl (cs:=#[.int .i64 0, .int .i64 0]) (t:=45) ?hr ?_;(case hr=>first|(go_simp;done)|(go_simp;rfl));intro gcf hgc vef hbx hb2;have HBef:Aside0 (Below w1.heap.size w1 vef):=⟨far_ HBe.out hb2⟩;have HXeef:=Aside0.mk (farKeep HXee.out hb2);have HGeef:=HGee;have HXfef:=Aside0.mk hbx;have HGfef:Aside0 (w1.heap.size≤gcf):=⟨by rw[hgc];exact(HBe.out).size⟩;have HNEef:Aside0 (gce≠gcf):=⟨by have:=(Array.getElem?_eq_some_iff.1 HXee.out).1;omega⟩;clear hgc hbx;clear hb2;refine hK.out _ _ ⟨(HBef.out.cell (World.block_lt_of_cell? w1 _ a0)).trans a0,(HBef.out.cell (World.block_lt_of_cell? w1 _ a2)).trans a2,(HBef.out.cell (World.block_lt_of_cell? w1 _ b0)).trans b0,(HBef.out.cell (World.block_lt_of_cell? w1 _ b1)).trans b1,(HBef.out.cell (World.block_lt_of_cell? w1 _ b2)).trans b2,(HBef.out.cell (World.block_lt_of_cell? w1 _ b3)).trans b3⟩ (fun hHeld=>?_);clear hK K;refine nq_ (N:=some 13) ?_;refine one_ (i:=4) (N:=some 26) (bm_ 14 3583) rfl rfl (by kernel_rfl) (by decide) (fun K hK=>?_);refine goesC_ HF1.out.1 HF1.out.2.1 HF1.out.2.2 cap1 (#[.agg #[.slice A0 h.f0.length c0, .int .i64 h.f1.f0, .int .i64 h.f1.f1, .slice A3 h.f2.length c3]] ++ cap1) (by rfl) rfl rfl (by rfl) (by simp only[List.map_toArray,List.map_cons,List.map_nil];rfl) ?_;(with_reducible refine(HS1h.out _ (far_ HW1.out HBef.out)).mono ?_);rintro e vefc ⟨rfl,hb2⟩;refine⟨_,rfl,?_⟩;have HBefc:Aside0 (Below w1.heap.size w1 vefc):=⟨far_ HBef.out hb2⟩;have HXeefc:=Aside0.mk (farKeep HXeef.out hb2);have HGeefc:=HGeef;have HXfefc:=Aside0.mk (farKeep HXfef.out hb2);have HGfefc:=HGfef;have HNEefc:=HNEef;clear hb2;refine hK.out _ _ ⟨(HBefc.out.cell (World.block_lt_of_cell? w1 _ a0)).trans a0,(HBefc.out.cell (World.block_lt_of_cell? w1 _ a2)).trans a2,(HBefc.out.cell (World.block_lt_of_cell? w1 _ b0)).trans b0,(HBefc.out.cell (World.block_lt_of_cell? w1 _ b1)).trans b1,(HBefc.out.cell (World.block_lt_of_cell? w1 _ b2)).trans b2,(HBefc.out.cell (World.block_lt_of_cell? w1 _ b3)).trans b3⟩ (fun hHeld=>?_);clear hK K;refine nq_ (N:=some 26) ?_;refine one_ (i:=9) (N:=some 31) (bm_ 14 4095) rfl rfl (by kernel_rfl) (by decide) (fun K hK=>?_);refine goesC_ HF3.out.1 HF3.out.2.1 HF3.out.2.2 cap3 (#[.agg #[.slice A0 h.f0.length c0, .int .i64 h.f1.f0, .int .i64 h.f1.f1, .slice A3 h.f2.length c3]] ++ cap3) (by rfl) rfl rfl (by rfl) (by simp only[List.map_toArray,List.map_cons,List.map_nil];rfl) ?_;(with_reducible refine(HS3h.out _ (far_ HW1.out HBefc.out)).mono ?_);rintro e vefcd ⟨rfl,hb2⟩;refine⟨_,rfl,?_⟩;have HBefcd:Aside0 (Below w1.heap.size w1 vefcd):=⟨far_ HBefc.out hb2⟩;have HXeefcd:=Aside0.mk (farKeep HXeefc.out hb2);have HGeefcd:=HGeefc;have HXfefcd:=Aside0.mk (farKeep HXfefc.out hb2);have HGfefcd:=HGfefc;have HNEefcd:=HNEefc;clear hb2;refine hK.out _ _ ⟨(HBefcd.out.cell (World.block_lt_of_cell? w1 _ a0)).trans a0,(HBefcd.out.cell (World.block_lt_of_cell? w1 _ a2)).trans a2,(HBefcd.out.cell (World.block_lt_of_cell? w1 _ b0)).trans b0,(HBefcd.out.cell (World.block_lt_of_cell? w1 _ b1)).trans b1,(HBefcd.out.cell (World.block_lt_of_cell? w1 _ b2)).trans b2,(HBefcd.out.cell (World.block_lt_of_cell? w1 _ b3)).trans b3⟩ (fun hHeld=>?_);clear hK K;refine nq_ (N:=some 31) ?_;exact norm_ (by simp only[putAll,Act.put,List.setIfInBounds_toArray,List.set_cons_zero,List.set_cons_succ]) (hCont (gce,gcf) _ ⟨HBefcd,HXeefcd,HXfefcd,⟨⟨HNEefcd.out,HGeefcd.out,HGfefcd.out⟩⟩⟩)
    ·
     skip;refine box_step (by rfl) (N:=13) rfl (cs:=#[.int .i64 0, .int .i64 0]) (t:=45) ?hr ?_;(case hr=>first|(go_simp;done)|(go_simp;rfl));intro gcf hgc vf hbx hb2;have HBf:Aside0 (Below w1.heap.size w1 vf):=⟨far_ (Below.refl w1.heap.size w1).drew hb2⟩;have HXff:=Aside0.mk hbx;have HGff:Aside0 (w1.heap.size≤gcf):=⟨by rw[hgc];exact((Below.refl w1.heap.size w1).drew).size⟩;clear hgc hbx;clear hb2;refine hK.out _ _ ⟨(HBf.out.cell (World.block_lt_of_cell? w1 _ a0)).trans a0,(HBf.out.cell (World.block_lt_of_cell? w1 _ a2)).trans a2,(HBf.out.cell (World.block_lt_of_cell? w1 _ b0)).trans b0,(HBf.out.cell (World.block_lt_of_cell? w1 _ b1)).trans b1,(HBf.out.cell (World.block_lt_of_cell? w1 _ b2)).trans b2,(HBf.out.cell (World.block_lt_of_cell? w1 _ b3)).trans b3⟩ (fun hHeld=>?_);clear hK K;refine nq_ (N:=some 13) ?_;refine two_ (i:=4) (j:=10) (Ni:=some 26) (Nj:=some 12) (bm_ 14 2559) (bm_ 14 3567) rfl rfl rfl rfl (by kernel_rfl) (by decide) (by decide) (fun K hK=>?_) (fun K hK=>?_)
     ·
      skip;refine goesC_ HF1.out.1 HF1.out.2.1 HF1.out.2.2 cap1 (#[.agg #[.slice A0 h.f0.length c0, .int .i64 h.f1.f0, .int .i64 h.f1.f1, .slice A3 h.f2.length c3]] ++ cap1) (by rfl) rfl rfl (by rfl) (by simp only[List.map_toArray,List.map_cons,List.map_nil];rfl) ?_;(with_reducible refine(HS1h.out _ (far_ HW1.out HBf.out)).mono ?_);rintro e vfc ⟨rfl,hb2⟩;refine⟨_,rfl,?_⟩;have HBfc:Aside0 (Below w1.heap.size w1 vfc):=⟨far_ HBf.out hb2⟩;have HXffc:=Aside0.mk (farKeep HXff.out hb2);have HGffc:=HGff;clear hb2;refine hK.out _ _ ⟨(HBfc.out.cell (World.block_lt_of_cell? w1 _ a0)).trans a0,(HBfc.out.cell (World.block_lt_of_cell? w1 _ a2)).trans a2,(HBfc.out.cell (World.block_lt_of_cell? w1 _ b0)).trans b0,(HBfc.out.cell (World.block_lt_of_cell? w1 _ b1)).trans b1,(HBfc.out.cell (World.block_lt_of_cell? w1 _ b2)).trans b2,(HBfc.out.cell (World.block_lt_of_cell? w1 _ b3)).trans b3⟩ (fun hHeld=>?_);clear hK K;refine nq_ (N:=some 26) ?_;refine two_ (i:=9) (j:=10) (Ni:=some 31) (Nj:=some 12) (bm_ 14 3071) (bm_ 14 3583) rfl rfl rfl rfl (by kernel_rfl) (by decide) (by decide) (fun K hK=>?_) (fun K hK=>?_)
      ·
       skip;refine goesC_ HF3.out.1 HF3.out.2.1 HF3.out.2.2 cap3 (#[.agg #[.slice A0 h.f0.length c0, .int .i64 h.f1.f0, .int .i64 h.f1.f1, .slice A3 h.f2.length c3]] ++ cap3) (by rfl) rfl rfl (by rfl) (by simp only[List.map_toArray,List.map_cons,List.map_nil];rfl) ?_;(with_reducible refine(HS3h.out _ (far_ HW1.out HBfc.out)).mono ?_);rintro e vfcd ⟨rfl,hb2⟩;refine⟨_,rfl,?_⟩;have HBfcd:Aside0 (Below w1.heap.size w1 vfcd):=⟨far_ HBfc.out hb2⟩;have HXffcd:=Aside0.mk (farKeep HXffc.out hb2);have HGffcd:=HGffc;clear hb2;refine hK.out _ _ ⟨(HBfcd.out.cell (World.block_lt_of_cell? w1 _ a0)).trans a0,(HBfcd.out.cell (World.block_lt_of_cell? w1 _ a2)).trans a2,(HBfcd.out.cell (World.block_lt_of_cell? w1 _ b0)).trans b0,(HBfcd.out.cell (World.block_lt_of_cell? w1 _ b1)).trans b1,(HBfcd.out.cell (World.block_lt_of_cell? w1 _ b2)).trans b2,(HBfcd.out.cell (World.block_lt_of_cell? w1 _ b3)).trans b3⟩ (fun hHeld=>?_);clear hK K;refine nq_ (N:=some 31) ?_;refine one_ (i:=10) (N:=some 12) (bm_ 14 4095) rfl rfl (by kernel_rfl) (by decide) (fun K hK=>?_);refine box_step (by rfl) (N:=12) rfl (cs:=#[.int .i64 0, .int .i64 0]) (t:=45) ?hr ?_;(case hr=>first|(go_simp;done)|(go_simp;rfl));intro gce hgc vfcde hbx hb2;have HBfcde:Aside0 (Below w1.heap.size w1 vfcde):=⟨far_ HBfcd.out hb2⟩;have HXffcde:=Aside0.mk (farKeep HXffcd.out hb2);have HGffcde:=HGffcd;have HXefcde:=Aside0.mk hbx;have HGefcde:Aside0 (w1.heap.size≤gce):=⟨by rw[hgc];exact(HBfcd.out).size⟩;have HNEfcde:Aside0 (gcf≠gce):=⟨by have:=(Array.getElem?_eq_some_iff.1 HXffcd.out).1;omega⟩;clear hgc hbx;clear hb2;refine hK.out _ _ ⟨(HBfcde.out.cell (World.block_lt_of_cell? w1 _ a0)).trans a0,(HBfcde.out.cell (World.block_lt_of_cell? w1 _ a2)).trans a2,(HBfcde.out.cell (World.block_lt_of_cell? w1 _ b0)).trans b0,(HBfcde.out.cell (World.block_lt_of_cell? w1 _ b1)).trans b1,(HBfcde.out.cell (World.block_lt_of_cell? w1 _ b2)).trans b2,(HBfcde.out.cell (World.block_lt_of_cell? w1 _ b3)).trans b3⟩ (fun hHeld=>?_);clear hK K;refine nq_ (N:=some 12) ?_;exact norm_ (by simp only[putAll,Act.put,List.setIfInBounds_toArray,List.set_cons_zero,List.set_cons_succ]) (hCont (gce,gcf) _ ⟨HBfcde,HXefcde,HXffcde,⟨⟨HNEfcde.out.symm,HGefcde.out,HGffcde.out⟩⟩⟩)
      ·
       skip;refine box_step (by rfl) (N:=12) rfl (cs:=#[.int .i64 0, .int .i64 0]) (t:=45) ?hr ?_;(case hr=>first|(go_simp;done)|(go_simp;rfl));intro gce hgc vfce hbx hb2;have HBfce:Aside0 (Below w1.heap.size w1 vfce):=⟨far_ HBfc.out hb2⟩;have HXffce:=Aside0.mk (farKeep HXffc.out hb2);have HGffce:=HGffc;have HXefce:=Aside0.mk hbx;have HGefce:Aside0 (w1.heap.size≤gce):=⟨by rw[hgc];exact(HBfc.out).size⟩;have HNEfce:Aside0 (gcf≠gce):=⟨by have:=(Array.getElem?_eq_some_iff.1 HXffc.out).1;omega⟩;clear hgc hbx;clear hb2;refine hK.out _ _ ⟨(HBfce.out.cell (World.block_lt_of_cell? w1 _ a0)).trans a0,(HBfce.out.cell (World.block_lt_of_cell? w1 _ a2)).trans a2,(HBfce.out.cell (World.block_lt_of_cell? w1 _ b0)).trans b0,(HBfce.out.cell (World.block_lt_of_cell? w1 _ b1)).trans b1,(HBfce.out.cell (World.block_lt_of_cell? w1 _ b2)).trans b2,(HBfce.out.cell (World.block_lt_of_cell? w1 _ b3)).trans b3⟩ (fun hHeld=>?_);clear hK K;refine nq_ (N:=some 12) ?_;refine one_ (i:=9) (N:=some 31) (bm_ 14 4095) rfl rfl (by kernel_rfl) (by decide) (fun K hK=>?_);refine goesC_ HF3.out.1 HF3.out.2.1 HF3.out.2.2 cap3 (#[.agg #[.slice A0 h.f0.length c0, .int .i64 h.f1.f0, .int .i64 h.f1.f1, .slice A3 h.f2.length c3]] ++ cap3) (by rfl) rfl rfl (by rfl) (by simp only[List.map_toArray,List.map_cons,List.map_nil];rfl) ?_;(with_reducible refine(HS3h.out _ (far_ HW1.out HBfce.out)).mono ?_);rintro e vfced ⟨rfl,hb2⟩;refine⟨_,rfl,?_⟩;have HBfced:Aside0 (Below w1.heap.size w1 vfced):=⟨far_ HBfce.out hb2⟩;have HXffced:=Aside0.mk (farKeep HXffce.out hb2);have HGffced:=HGffce;have HXefced:=Aside0.mk (farKeep HXefce.out hb2);have HGefced:=HGefce;have HNEfced:=HNEfce;clear hb2;refine hK.out _ _ ⟨(HBfced.out.cell (World.block_lt_of_cell? w1 _ a0)).trans a0,(HBfced.out.cell (World.block_lt_of_cell? w1 _ a2)).trans a2,(HBfced.out.cell (World.block_lt_of_cell? w1 _ b0)).trans b0,(HBfced.out.cell (World.block_lt_of_cell? w1 _ b1)).trans b1,(HBfced.out.cell (World.block_lt_of_cell? w1 _ b2)).trans b2,(HBfced.out.cell (World.block_lt_of_cell? w1 _ b3)).trans b3⟩ (fun hHeld=>?_);clear hK K;refine nq_ (N:=some 31) ?_;exact norm_ (by simp only[putAll,Act.put,List.setIfInBounds_toArray,List.set_cons_zero,List.set_cons_succ]) (hCont (gce,gcf) _ ⟨HBfced,HXefced,HXffced,⟨⟨HNEfced.out.symm,HGefced.out,HGffced.out⟩⟩⟩)
     ·
      skip;refine box_step (by rfl) (N:=12) rfl (cs:=#[.int .i64 0, .int .i64 0]) (t:=45) ?hr ?_;(case hr=>first|(go_simp;done)|(go_simp;rfl));intro gce hgc vfe hbx hb2;have HBfe:Aside0 (Below w1.heap.size w1 vfe):=⟨far_ HBf.out hb2⟩;have HXffe:=Aside0.mk (farKeep HXff.out hb2);have HGffe:=HGff;have HXefe:=Aside0.mk hbx;have HGefe:Aside0 (w1.heap.size≤gce):=⟨by rw[hgc];exact(HBf.out).size⟩;have HNEfe:Aside0 (gcf≠gce):=⟨by have:=(Array.getElem?_eq_some_iff.1 HXff.out).1;omega⟩;clear hgc hbx;clear hb2;refine hK.out _ _ ⟨(HBfe.out.cell (World.block_lt_of_cell? w1 _ a0)).trans a0,(HBfe.out.cell (World.block_lt_of_cell? w1 _ a2)).trans a2,(HBfe.out.cell (World.block_lt_of_cell? w1 _ b0)).trans b0,(HBfe.out.cell (World.block_lt_of_cell? w1 _ b1)).trans b1,(HBfe.out.cell (World.block_lt_of_cell? w1 _ b2)).trans b2,(HBfe.out.cell (World.block_lt_of_cell? w1 _ b3)).trans b3⟩ (fun hHeld=>?_);clear hK K;refine nq_ (N:=some 12) ?_;refine one_ (i:=4) (N:=some 26) (bm_ 14 3583) rfl rfl (by kernel_rfl) (by decide) (fun K hK=>?_);refine goesC_ HF1.out.1 HF1.out.2.1 HF1.out.2.2 cap1 (#[.agg #[.slice A0 h.f0.length c0, .int .i64 h.f1.f0, .int .i64 h.f1.f1, .slice A3 h.f2.length c3]] ++ cap1) (by rfl) rfl rfl (by rfl) (by simp only[List.map_toArray,List.map_cons,List.map_nil];rfl) ?_;(with_reducible refine(HS1h.out _ (far_ HW1.out HBfe.out)).mono ?_);rintro e vfec ⟨rfl,hb2⟩;refine⟨_,rfl,?_⟩;have HBfec:Aside0 (Below w1.heap.size w1 vfec):=⟨far_ HBfe.out hb2⟩;have HXffec:=Aside0.mk (farKeep HXffe.out hb2);have HGffec:=HGffe;have HXefec:=Aside0.mk (farKeep HXefe.out hb2);have HGefec:=HGefe;have HNEfec:=HNEfe;clear hb2;refine hK.out _ _ ⟨(HBfec.out.cell (World.block_lt_of_cell? w1 _ a0)).trans a0,(HBfec.out.cell (World.block_lt_of_cell? w1 _ a2)).trans a2,(HBfec.out.cell (World.block_lt_of_cell? w1 _ b0)).trans b0,(HBfec.out.cell (World.block_lt_of_cell? w1 _ b1)).trans b1,(HBfec.out.cell (World.block_lt_of_cell? w1 _ b2)).trans b2,(HBfec.out.cell (World.block_lt_of_cell? w1 _ b3)).trans b3⟩ (fun hHeld=>?_);clear hK K;refine nq_ (N:=some 26) ?_;refine one_ (i:=9) (N:=some 31) (bm_ 14 4095) rfl rfl (by kernel_rfl) (by decide) (fun K hK=>?_);refine goesC_ HF3.out.1 HF3.out.2.1 HF3.out.2.2 cap3 (#[.agg #[.slice A0 h.f0.length c0, .int .i64 h.f1.f0, .int .i64 h.f1.f1, .slice A3 h.f2.length c3]] ++ cap3) (by rfl) rfl rfl (by rfl) (by simp only[List.map_toArray,List.map_cons,List.map_nil];rfl) ?_;(with_reducible refine(HS3h.out _ (far_ HW1.out HBfec.out)).mono ?_);rintro e vfecd ⟨rfl,hb2⟩;refine⟨_,rfl,?_⟩;have HBfecd:Aside0 (Below w1.heap.size w1 vfecd):=⟨far_ HBfec.out hb2⟩;have HXffecd:=Aside0.mk (farKeep HXffec.out hb2);have HGffecd:=HGffec;have HXefecd:=Aside0.mk (farKeep HXefec.out hb2);have HGefecd:=HGefec;have HNEfecd:=HNEfec;clear hb2;refine hK.out _ _ ⟨(HBfecd.out.cell (World.block_lt_of_cell? w1 _ a0)).trans a0,(HBfecd.out.cell (World.block_lt_of_cell? w1 _ a2)).trans a2,(HBfecd.out.cell (World.block_lt_of_cell? w1 _ b0)).trans b0,(HBfecd.out.cell (World.block_lt_of_cell? w1 _ b1)).trans b1,(HBfecd.out.cell (World.block_lt_of_cell? w1 _ b2)).trans b2,(HBfecd.out.cell (World.block_lt_of_cell? w1 _ b3)).trans b3⟩ (fun hHeld=>?_);clear hK K;refine nq_ (N:=some 31) ?_;exact norm_ (by simp only[putAll,Act.put,List.setIfInBounds_toArray,List.set_cons_zero,List.set_cons_succ]) (hCont (gce,gcf) _ ⟨HBfecd,HXefecd,HXffecd,⟨⟨HNEfecd.out.symm,HGefecd.out,HGffecd.out⟩⟩⟩)
   rintro⟨g12,g13⟩ wd ⟨HBD,HX12,HX13,HNE⟩;(dsimp only at HBD HX12 HX13 HNE ⊢);have hqa0:=(HBD.out.cell (World.block_lt_of_cell? w1 _ a0)).trans a0;have hqa2:=(HBD.out.cell (World.block_lt_of_cell? w1 _ a2)).trans a2;have hqb0:=(HBD.out.cell (World.block_lt_of_cell? w1 _ b0)).trans b0;have hqb1:=(HBD.out.cell (World.block_lt_of_cell? w1 _ b1)).trans b1;have hqb2:=(HBD.out.cell (World.block_lt_of_cell? w1 _ b2)).trans b2;have hqb3:=(HBD.out.cell (World.block_lt_of_cell? w1 _ b3)).trans b3;have hHeld:=And.intro hqa0 (And.intro hqa2 (And.intro hqb0 (And.intro hqb1 (And.intro hqb2 hqb3))));clear hqa0 hqa2 hqb0 hqb1 hqb2 hqb3;have x120:=cell_blk (j:=0) HX12.out rfl;have f120:=frozen_of_row _ _ 0 _ _ HX12.out;have x121:=cell_blk (j:=1) HX12.out rfl;have f121:=frozen_of_row _ _ 1 _ _ HX12.out;have x130:=cell_blk (j:=0) HX13.out rfl;have f130:=frozen_of_row _ _ 0 _ _ HX13.out;have x131:=cell_blk (j:=1) HX13.out rfl;have f131:=frozen_of_row _ _ 1 _ _ HX13.out;(have HX13a:=fun v=>(heap_set_other (g:=g12) (j:=0) HNE.out.1.symm v).trans HX13.out);(have HX13b:=fun v u=>(heap_set_other (W:=wd.setCell ⟨g12,0,none⟩ v) (g:=g12) (j:=1) HNE.out.1.symm u).trans (HX13a v));(have y130:=fun v=>cell_blk (j:=0) (HX13a v) rfl);(have g130:=fun v=>frozen_of_row _ _ 0 _ _ (HX13a v));(have z130:=fun v u=>cell_blk (j:=0) (HX13b v u) rfl);(have i130:=fun v u=>frozen_of_row _ _ 0 _ _ (HX13b v u));(have y131:=fun v=>cell_blk (j:=1) (HX13a v) rfl);(have g131:=fun v=>frozen_of_row _ _ 1 _ _ (HX13a v));(have z131:=fun v u=>cell_blk (j:=1) (HX13b v u) rfl);(have i131:=fun v u=>frozen_of_row _ _ 1 _ _ (HX13b v u));clear HX13a HX13b;refine norm_ (a':=?_) ?_ ?_;rotate_left;(· simp only[putAll,Act.put,List.setIfInBounds_toArray,List.set_cons_zero,List.set_cons_succ];rfl);refine last_ (i:=12) (N:=none) (bm_ 14 8191) rfl rfl (by kernel_rfl) (by decide) (fun K hK=>?_);refine skip_ (w1:=?_) (by rfl) rfl ?_ ?_;rotate_left;(· go_simp;rfl);refine hK.out _ _ ?_;clear hK K;refine last_ (i:=13) (N:=none) (bm_ 14 16383) rfl rfl (by kernel_rfl) (by decide) (fun K hK=>?_);refine skip_ (w1:=?_) (by rfl) rfl ?_ ?_;rotate_left;(· go_simp;rfl);refine hK.out _ _ ?_;clear hK K;refine done_ (by kernel_rfl) ?_;clear a0 a2 b0 b1 b2 b3 x120 x121 x130 x131 f120 f121 f130 f131 y130 y131 g130 g131 z130 z131 i130 i131 hHeld;obtain⟨w3,hw3,X12,X13,B3⟩:=put22 HX12.out HX13.out HNE.out.1 (.int .i64 f) (.int .i64 g) (.int .i64 f') (.int .i64 g');rw[hw3];have HB3:Aside0 (Below w1.heap.size w1 w3):=⟨B3 _ _ HNE.out.2.1 HNE.out.2.2 HBD.out⟩;have HI3:Aside0 (RunI w FN a (out.length:Int) (.slice Ao out.length co) out w3):=⟨HI1.out.below HB3.out⟩;have HX3:=Aside0.mk (farKeep HX1.out HB3.out);have H12:=Aside0.mk X12;have H13:=Aside0.mk X13;clear hw3 X12 X13 B3 HX12 HX13 HX1 HBD HI1;(have hent : ∀ args w,(callFunc F2 args).run Tryd.prog w = .ok (.enter F2 args) w:=fun args w=>enters_ HF2.out.1 HF2.out.2.1 HF2.out.2.2 args w);have a1:w3.cell? ⟨w.heap.size,1,none⟩=some (.func (.func F2) #[] cap2):=cell_blk HI3.out.2.1 (by rw[← HFN.out];rfl);have b3:w3.cell? ⟨wr.heap.size,3,none⟩=some (.slice A3 h.f2.length c3):=cell_blk HX3.out rfl;(go_wp2_with fail);(try rw[hent,Oper.upon_enter]);refine(HT2h.out w3 (far_ HW1.out HB3.out)).mono ?_;rintro e w4 ⟨v4,rfl,hr4,hb4⟩;obtain⟨A4,c4,rfl,hl4,hC4⟩:=Kd.R_reads hr4;have HC4:=Aside0.mk hC4;have HI4:Aside0 (RunI w FN a (out.length:Int) (.slice Ao out.length co) out w4):=⟨HI3.out.below hb4⟩;have HX4:=Aside0.mk (farKeep HX3.out hb4);have H124:=Aside0.mk (farKeep H12.out hb4);have H134:=Aside0.mk (farKeep H13.out hb4);have HB4:Aside0 (Below wr.heap.size wr w4):=⟨far_ (far_ HW1.out HB3.out) hb4⟩;have HHL:Aside0 (wr.heap.size < w4.heap.size∧g12 < w4.heap.size∧g13 < w4.heap.size):=⟨⟨blk_lt HX4.out,blk_lt H124.out,blk_lt H134.out⟩⟩;clear hr4 hC4 hb4 a1 b3 hent HI3 HX3 H12 H13 HB3 HW1;have u0:w4.cell? ⟨g12,0,none⟩=some (.int .i64 f):=cell_blk H124.out rfl;have u1:w4.cell? ⟨g12,1,none⟩=some (.int .i64 g):=cell_blk H124.out rfl;have v0:w4.cell? ⟨g13,0,none⟩=some (.int .i64 f'):=cell_blk H134.out rfl;have v1:w4.cell? ⟨g13,1,none⟩=some (.int .i64 g'):=cell_blk H134.out rfl;have t0:w4.cell? ⟨w.heap.size+1,0,none⟩=some (.int .i64 a):=cell_blk HI4.out.2.2.1 rfl;have t1:w4.cell? ⟨w.heap.size+1,1,none⟩=some (.int .i64 out.length):=cell_blk HI4.out.2.2.1 rfl
   by_cases hgl:g≤file.length
   ·
    have d1:decide ((g:Int)≤(file.length:Int))=true:=decide_eq_true (by omega);have d2:decide (g≤file.length)=true:=decide_eq_true hgl;have hfg:f≤g:=HQ.out.2.1;have hsl:=slice_strs2 Af file.length cf f g hfg hgl HNUM.out.2.2.1;have hcf:=HNUM.out.2.2.1;have heq:=slices_equal (cutT file f g) (txO h.f2) (cutS Af cf f) (cf - f) A4 c4 w4 (C_cutS (Kd.C_below HCF.out HI4.out.1) hfg hgl hcf) (by rw[cutT_len hgl];omega) HC4.out hl4 (by rw[cutT_len hgl];have:=HQ.out;omega);(rw[cutT_len hgl] at heq);have HEQ:=Aside0.mk heq;clear heq hcf;(go_wp2_with fail);refine HEQ.out.mono ?_;rintro e w5' ⟨rfl,n5,hn5⟩;obtain⟨w5,hw5⟩ : ∃ w5,w5=w5':=⟨_,rfl⟩;rw[← hw5];(rw[← hw5] at hn5);clear hw5;have HB5:Aside0 (Below w4.heap.size w4 w5):=⟨by rw[hn5];exact pw_below_drewN (Below.refl _ _) n5⟩;clear hn5 u0 u1 v0 v1 t0 t1 HEQ HC4;have HI5:=Aside0.mk (HI4.out.below HB5.out);have HX5:=Aside0.mk (farKeep HX4.out HB5.out);have H125:=Aside0.mk (farKeep H124.out HB5.out);have H135:=Aside0.mk (farKeep H134.out HB5.out);have HBW5:Aside0 (Below wr.heap.size wr w5):=⟨far_ HB4.out HB5.out⟩;have u0:w5.cell? ⟨g12,0,none⟩=some (.int .i64 f):=cell_blk H125.out rfl;have u1:w5.cell? ⟨g12,1,none⟩=some (.int .i64 g):=cell_blk H125.out rfl;have v0:w5.cell? ⟨g13,0,none⟩=some (.int .i64 f'):=cell_blk H135.out rfl;have v1:w5.cell? ⟨g13,1,none⟩=some (.int .i64 g'):=cell_blk H135.out rfl;have t0:w5.cell? ⟨w.heap.size+1,0,none⟩=some (.int .i64 a):=cell_blk HI5.out.2.2.1 rfl;have t1:w5.cell? ⟨w.heap.size+1,1,none⟩=some (.int .i64 out.length):=cell_blk HI5.out.2.2.1 rfl
    by_cases hq:cutT file f g=txO h.f2
    ·
     have dq:decide (cutT file f g=txO h.f2)=true:=decide_eq_true hq;rw[dq];have hwf:wrap64 ((f:Int) - (a:Int))=(f:Int) - (a:Int):=gw (by have:=HQ.out;have:=HNUM.out;omega) (by have:=HQ.out;have:=HNUM.out;omega);have hwf':wrap64 ((f':Int) - (out.length:Int))=(f':Int) - (out.length:Int):=gw (by have:=HQ.out;have:=HNUM.out;omega) (by have:=HQ.out;have:=HNUM.out;omega)
     by_cases hd:(f:Int) - (a:Int)=(f':Int) - (out.length:Int)
     ·
      (have e3:(((f:Int) - (a:Int)) != ((f':Int) - (out.length:Int)))=false:=by rw[hd];simp);(have e4:(((f:Int) - (a:Int)) == ((f':Int) - (out.length:Int)))=true:=by rw[hd];simp);have HR2:Aside0 (goF spO spN txO txN file (l.drop (k+1)) (out ++ (cutT file a f ++ txN h.f2)) (g:Int) (g':Int)=R):=⟨by have:=HGR.out;rwa [if_pos ⟨hgl,hq,hd⟩] at this⟩;clear dq;have haf2:a≤f:=HQ.out.1;(have hff2:f≤file.length:=by have:=HQ.out;omega);have hsl2:=slice_strs2 Af file.length cf a f haf2 hff2 HNUM.out.2.2.1;have HFA:Aside0 (a≤f∧f≤file.length∧g≤file.length∧k < l.length):=⟨⟨haf2,hff2,hgl,hlt⟩⟩;have a3:w5.cell? ⟨w.heap.size,3,none⟩=some (.func (.func F4) #[] cap4):=cell_blk HI5.out.2.1 (by rw[← HFN.out];rfl);have b3:w5.cell? ⟨wr.heap.size,3,none⟩=some (.slice A3 h.f2.length c3):=cell_blk HX5.out rfl;have HDQ:=Aside0.mk hd;have HQQ:=Aside0.mk hq;clear haf2 hff2 hd hq
      go_upto_region 11 with fail
      clear e3 e4 hwf hwf' d1 d2 hsl hgl hfg;refine start_ (n:=16) (S:=fun w'=>w'.cell? ⟨w.heap.size+1,0,none⟩=some (.int .i64 a)∧w'.cell? ⟨g12,0,none⟩=some (.int .i64 f)∧w'.cell? ⟨w.heap.size,3,none⟩=some (.func (.func F4) #[] cap4)∧w'.cell? ⟨wr.heap.size,3,none⟩=some (.slice A3 h.f2.length c3)) (ds:=[13,14]) (bm_ 16 0) (by kernel_rfl) rfl rfl ⟨t0,u0,a3,b3⟩ (fun hHeld=>?_);refine pq_ (i:=0) (N:=some 68) (bm_ 16 1) ?_;refine pq_ (i:=1) (N:=some 69) (bm_ 16 3) ?_;refine pq_ (i:=2) (N:=some 70) (bm_ 16 7) ?_;refine pq_ (i:=4) (N:=some 72) (bm_ 16 23) ?_;refine pq_ (i:=7) (N:=some 75) (bm_ 16 151) ?_;refine pq_ (i:=8) (N:=some 76) (bm_ 16 407) ?_;refine pq_ (i:=10) (N:=some 78) (bm_ 16 1431) ?_;refine tq_ (i:=3) (N:=some 71) (bm_ 16 1439) hHeld ?_;refine tq_ (i:=5) (N:=some 73) (bm_ 16 1471) hHeld ?_;refine pq_ (i:=6) (N:=some 74) (bm_ 16 1535) ?_;refine tq_ (i:=9) (N:=some 77) (bm_ 16 2047) hHeld ?_;refine tq_ (i:=11) (N:=some 79) (bm_ 16 4095) hHeld ?_;refine one_ (i:=12) (N:=some 80) (bm_ 16 8191) rfl rfl (by kernel_rfl) (by decide) (fun K hK=>?_);refine goesC_ HF4.out.1 HF4.out.2.1 HF4.out.2.2 cap4 (#[.slice A3 h.f2.length c3] ++ cap4) (by rfl) rfl rfl (by rfl) (by simp only[List.map_toArray,List.map_cons,List.map_nil];rfl) ?_
      (with_reducible refine(HT4h.out _ (far_ HBW5.out (Below.refl w5.heap.size w5).drew)).mono ?_);rintro e w6 ⟨v6,rfl,hr6,hb6⟩;obtain⟨A6,c6,rfl,hl6,hC6⟩:=Kd.R_reads hr6;refine⟨_,rfl,?_⟩;have HB6:Aside0 (Below w5.heap.size w5 w6):=⟨far_ (Below.refl w5.heap.size w5).drew hb6⟩;obtain⟨w7,hw7,HB7,HCON⟩:=lit3 (A1:=Ao) (c1:=co) (l1:=out) (A2:=cutS Af cf a) (c2:=cf - a) (l2:=cutT file a f) (A3:=A6) (c3:=c6) (l3:=txN h.f2) (n2:=f - a) (cutT_len HFA.out.2.1).symm (Kd.R_reads' (HI5.out.below HB6.out).2.2.2).2.1 (Kd.R_reads' (HI5.out.below HB6.out).2.2.2).2.2 (by have:=HNUM.out;have:=HFA.out;omega) (C_cutS (Kd.C_below HCF.out (HI5.out.below HB6.out).1) HFA.out.1 HFA.out.2.1 HNUM.out.2.2.1) hl6 hC6 (by rw[cutT_len HFA.out.2.1];have:=HNUM.out;have:=HQ.out;omega);clear hr6 hb6 hC6 hl6;refine hK.out _ _ ⟨cell_blk (HI5.out.below HB6.out).2.2.1 rfl,cell_blk (farKeep H125.out HB6.out) rfl,cell_blk (HI5.out.below HB6.out).2.1 (by rw[← HFN.out];rfl),cell_blk (farKeep HX5.out HB6.out) rfl⟩ (fun hHeld=>?_);clear hK K;refine nq_ (N:=some 80) ?_;refine last_ (i:=13) (N:=some 81) (bm_ 16 16383) rfl rfl (by kernel_rfl) (by decide) (fun K hK=>?_);refine value_ (w1:=?_) (v:=?_) (by rfl) rfl ?_ ?_;rotate_left 2
      ·
       go_simp;constructor;(· rfl);(· rfl)
      (try rw[hw7]);clear hw7;refine hK.out _ _ ?_;clear hK K;refine nq_ (N:=some 81) ?_;refine last_ (i:=14) (N:=some 82) (bm_ 16 32767) rfl rfl (by kernel_rfl) (by decide) (fun K hK=>?_);refine goes_ Tryd.func97 (by kernel_rfl) rfl #[.slice (some ⟨w6.heap.size,0,none⟩) 3 3] (by rfl) rfl rfl (by simp only[List.map_toArray,List.map_cons,List.map_nil];rfl) ?_;(with_reducible refine HCON.out.mono ?_);rintro e w8 ⟨v8,rfl,HR8,HB8⟩;refine⟨_,rfl,?_⟩;obtain⟨out2,ho2⟩ : ∃ o,out ++ (cutT file a f ++ txN h.f2)=o:=⟨_,rfl⟩;(rw[ho2] at HR8);have HO2:=Aside0.mk ho2;clear ho2;obtain⟨A8,c8,hv8⟩:=Kd.R_slice HR8.out;subst hv8;refine hK.out _ _ ?_;clear hK K;refine nq_ (N:=some 82) ?_;refine pq_ (i:=15) (N:=some 8) (bm_ 16 65535) ?_;refine done_ (by kernel_rfl) ?_;clear u0 u1 v0 v1 t0 t1 a3 b3 hsl2 hHeld;have HB58:Aside0 (Below w5.heap.size w5 w8):=⟨far_ (far_ HB6.out HB7.out) HB8.out⟩
      have hlen2:out2.length=g':=by
       rw[← HO2.out,List.length_append,List.length_append,cutT_len HFA.out.2.1,HQ.out.2.2.2.2.2.2.2];(have:=HQ.out;have:=HDQ.out;have:=HFA.out;omega)
      have HSZ2:Aside0 (∀ s ∈ out2,s.size≤1000000):=⟨fun s hs=>by
       (rw[← HO2.out] at hs)
       rcases List.mem_append.1 hs with hs|hs
       (· exact HSZ.out s hs)
       ·
        rcases List.mem_append.1 hs with hs|hs
        (· exact HFS.out s (List.mem_of_mem_take (List.mem_of_mem_drop hs)))
        ·
         exact HLH.out s hs⟩
      (rw[HO2.out] at HR2);have hI8:=HI5.out.below HB58.out;have HNX:Aside0 (RunI w FN (g:Int) (g':Int) (.slice A8 out2.length c8) out2 ((w8.setCell ⟨w.heap.size+1,0,none⟩ (.int .i64 (g:Int))).setCell ⟨w.heap.size+1,1,none⟩ (.int .i64 (g':Int)))):=⟨HI5.out.next HB58.out HR8.out (by have h1:=blk_lt HI5.out.2.2.1;have h2:=HB6.out.size;have h3:=HB7.out.size;omega) g g'⟩;have u1:w8.cell? ⟨g12,1,none⟩=some (.int .i64 g):=cell_blk (farKeep H125.out HB58.out) rfl;have v1:w8.cell? ⟨g13,1,none⟩=some (.int .i64 g'):=cell_blk (farKeep H135.out HB58.out) rfl;have t0:w8.cell? ⟨w.heap.size+1,0,none⟩=some (.int .i64 a):=cell_blk hI8.2.2.1 rfl;have t1:w8.cell? ⟨w.heap.size+1,1,none⟩=some (.int .i64 out.length):=cell_blk hI8.2.2.1 rfl;have fr0:w8.frozen? ⟨w.heap.size+1,0,none⟩=false:=frozen_of_row _ _ _ _ _ hI8.2.2.1;have fr1:w8.frozen? ⟨w.heap.size+1,1,none⟩=false:=frozen_of_row _ _ _ _ _ hI8.2.2.1;clear hI8 HO2 HB6 HB7 HB8 HR8 HCON;have hk5:l.length≤100000:=HNUM.out.1;have hk6:k < l.length:=HFA.out.2.2.2;have hk7:=gw1 (i:=k) (by omega);(go_wp2_with fail);(try rw[hk7]);go_roundw;(case measure=>have:=HFA.out;simp[intOf];omega);(case rel=>exact⟨k+1,out2,A8,c8,g,g',rfl,by go_num,by have:=HFA.out;omega,hlen2,HQ.out.2.2.2.2.2.1,HFA.out.2.2.1,HNX,HCK2,HR2,HSZ2⟩)
     (· (have e3:(((f:Int) - (a:Int)) != ((f':Int) - (out.length:Int)))=true:=by simpa using hd);(have e4:(((f:Int) - (a:Int)) == ((f':Int) - (out.length:Int)))=false:=by simpa using hd);have HR2:Aside0 (R=([],7)):=⟨by have:=HGR.out;rw[if_neg (fun h=>hd h.2.2)] at this;exact this.symm⟩;clear dq hd;(go_wp2_with fail);rw[HR2.out];exact bodyPost_ret (results_tmp2 rfl _ _ _) rfl ⟨.slice none 0 0,rfl,⟨Kd.R_nil _ _ _ _ _⟩,⟨HI5.out.1⟩⟩)
    (· have dq:decide (cutT file f g=txO h.f2)=false:=decide_eq_false hq;have HR2:Aside0 (R=([],7)):=⟨by have:=HGR.out;rw[if_neg (fun h=>hq h.2.1)] at this;exact this.symm⟩;rw[dq];clear dq hq;(go_wp2_with fail);rw[HR2.out];exact bodyPost_ret (results_tmp2 rfl _ _ _) rfl ⟨.slice none 0 0,rfl,⟨Kd.R_nil _ _ _ _ _⟩,⟨HI5.out.1⟩⟩)
   (· have d1:decide ((g:Int)≤(file.length:Int))=false:=decide_eq_false (by omega);have d2:decide (g≤file.length)=false:=decide_eq_false hgl;have HR2:Aside0 (R=([],7)):=⟨by have:=HGR.out;rw[if_neg (fun h=>hgl h.1)] at this;exact this.symm⟩;(go_wp2_with fail);rw[HR2.out];exact bodyPost_ret (results_tmp2 rfl _ _ _) rfl ⟨.slice none 0 0,rfl,⟨Kd.R_nil _ _ _ _ _⟩,⟨HI4.out.1⟩⟩)
  ·
   (have hk':k=l.length:=by omega);subst hk';have hg:=HG.out;(rw[List.drop_length,goF_nil] at hg);have HR2:=Aside0.mk hg;have hsl:=slice_strs1 Af file.length cf a haf HNUM.out.2.2.1
   have HC5:Aside0 (Kd.C Kd.string wr (cutS Af cf a) (file.length - a) (file.drop a)):=⟨by
    have:=C_cutS (Kd.C_below HCF.out HI.out.1) haf (Nat.le_refl _) HNUM.out.2.2.1;(rw[cutT,List.take_length,List.length_drop] at this)
    exact this⟩
   have t0:wr.cell? ⟨w.heap.size+1,0,none⟩=some (.int .i64 a):=cell_blk HI.out.2.2.1 rfl;have HLIM:Aside0 (out.length≤2000∧file.length≤100000∧w.heap.size+2≤wr.heap.size):=⟨⟨hb2,HNUM.out.2.1,blk_lt HI.out.2.2.1⟩⟩;clear hg
   go_wp2_with (first
    | (at_builtin;refine Kd.R_append_rows Kd.string (Rr:=Kd.string.K wr) (w0:=wr) (w.heap.size+2) rfl (.tmp 89) (.tmp 93) 23 9 (.string ⟨#[]⟩) 16 rfl Tryd.underlying23 info9 rfl (by decide) (by decide) (.slice Ao out.length co) out (file.drop a) (cutS Af cf a) (file.length - a) (cf - a) (fun _=>True) (fun _=>False) rfl rfl HI.out.2.2.2 HC5.out (fun _ _ h=>h) (fun _ h=>h.elim) (fun _ _=>trivial) (Below.refl _ _) HLIM.out.2.2 (by have:=HLIM.out;omega) ?_;intro v2 w2 ho2 hb2 hg2 hat2;obtain⟨o3,ho3⟩ : ∃ o,out ++ file.drop a=o:=⟨_,rfl⟩;rw[ho3] at ho2;have HO3:=Aside0.mk ho3;clear ho3;obtain⟨A2,c2,hv2⟩:=Kd.R_slice ho2;subst hv2;have HO2:=Aside0.mk ho2;have HB2:=Aside0.mk hb2;clear ho2 hb2 hg2 hat2)
    | fail)
   have hsz3 : ∀ s ∈ o3,s.size≤1000000:=fun s hs=>by
    (rw[← HO3.out] at hs)
    rcases List.mem_append.1 hs with hs|hs
    (· exact HSZ.out s hs);(· exact HFS.out s (List.mem_of_mem_drop hs))
   have hl3:o3.length≤200000:=by
    rw[← HO3.out,List.length_append,List.length_drop];(have:=HLIM.out;omega)
   obtain⟨K,hK⟩:=may_gives o3 (by omega) (fun s hs=>by have:=hsz3 s hs;omega);obtain⟨_,hc2,hC2⟩:=Kd.R_reads' HO2.out;have hm:=lines_May.calls K A2 c2 o3 (mayL o3) w2 hC2 hc2 (hK K (Nat.le_refl _));have HR3:Aside0 ((if mayL o3=true then (o3,(0:Int)) else ([],7))=R):=⟨by rw[← HO3.out];exact HR2.out⟩;have HBW:Aside0 (Below w.heap.size w w2):=⟨HI.out.1.trans (HB2.out.mono (by omega))⟩;refine hm.mono ?_;clear hm hK hC2 hc2 hsz3 HO3 HR2;(generalize mayL o3=q at HR3 ⊢);rintro e w3' ⟨rfl,n3,hn3⟩;obtain⟨w3,hw3⟩ : ∃ w3,w3=w3':=⟨_,rfl⟩;rw[← hw3];(rw[← hw3] at hn3);clear hw3;have HB3:Aside0 (Below w2.heap.size w2 w3):=⟨by rw[hn3];exact pw_below_drewN (Below.refl _ _) n3⟩;clear hn3
   cases q with
   | true =>
    (rw[if_pos rfl] at HR3);(go_wp2_with fail);rw[← HR3.out];refine bodyPost_ret (results_tmp2 rfl _ _ _) rfl ⟨_,rfl,⟨Kd.R_lower (Kd.R_below HO2.out HB3.out) (by omega)⟩,⟨far_ HBW.out HB3.out⟩⟩
   | false =>
    (rw[if_neg (by decide)] at HR3);(go_wp2_with fail);rw[← HR3.out];refine bodyPost_ret (results_tmp2 rfl _ _ _) rfl ⟨.slice none 0 0,rfl,⟨Kd.R_nil _ _ _ _ _⟩,⟨far_ HBW.out HB3.out⟩⟩
theorem two_new (w:World) (o o':Obj):((w.alloc o).alloc o').heap[w.heap.size]? = some o∧((w.alloc o).alloc o').heap[w.heap.size+1]? = some o'∧Below w.heap.size w ((w.alloc o).alloc o')∧((w.alloc o).alloc o').heap.size=w.heap.size+2:=by
 refine⟨newKeep (blk_new _ _) _,?_,(newBelow w _).trans ((newBelow _ _).mono (by simp)),by simp⟩;have:=blk_new (w.alloc o) o'
 rwa [World.size_alloc] at this
theorem same_is (F1 F2 F3 F4:FuncId) (a1 a2 a3 a4:Array Value) (w:World):Calls Tryd.prog 41 #[.agg #[.func (.func F1) #[] a1, .func (.func F2) #[] a2, .func (.func F3) #[] a3, .func (.func F4) #[] a4]] w fun e w'=>e = .returned (.agg #[.func (.func F1) #[] a1, .func (.func F2) #[] a2, .func (.func F3) #[] a3, .func (.func F4) #[] a4])∧Aside0 (Below w.heap.size w w'):=by
 (have hst:=fun (p:Addr) (fn:Fn) (first cap:Array Value) (m:Mode) (w:World)=>run_store Tryd.prog w p (.func fn first cap) m rfl);go_enter Tryd.func41,Tryd.ntmps41
 go_upto_region 1 with fail
 obtain⟨X1,X2,hb,hs⟩:=two_new w (.cells #[.func (.func F1) #[] a1, .func (.func F2) #[] a2, .func (.func F3) #[] a3, .func (.func F4) #[] a4] 71) (.cells #[.nilFunc, .nilFunc, .nilFunc, .nilFunc] 71);obtain⟨w2,hw2⟩ : ∃ w2,(w.alloc (.cells #[.func (.func F1) #[] a1, .func (.func F2) #[] a2, .func (.func F3) #[] a3, .func (.func F4) #[] a4] 71)).alloc (.cells #[.nilFunc, .nilFunc, .nilFunc, .nilFunc] 71)=w2:=⟨_,rfl⟩;(rw[hw2] at X1 X2 hb hs ⊢);clear hw2;have y0:=cell_blk (j:=0) X1 rfl;have z0:=cell_blk (j:=0) X2 rfl;have fr0:=frozen_of_row _ _ 0 _ _ X2;have y1:=cell_blk (j:=1) X1 rfl;have z1:=cell_blk (j:=1) X2 rfl;have fr1:=frozen_of_row _ _ 1 _ _ X2;have y2:=cell_blk (j:=2) X1 rfl;have z2:=cell_blk (j:=2) X2 rfl;have fr2:=frozen_of_row _ _ 2 _ _ X2;have y3:=cell_blk (j:=3) X1 rfl;have z3:=cell_blk (j:=3) X2 rfl;have fr3:=frozen_of_row _ _ 3 _ _ X2;have HX2:=Aside0.mk X2;have HB:=Aside0.mk hb;clear X1 X2 hb;(go_wp2_with fail);refine bodyPost_ret (results_cell_row rfl _ _ (w.heap.size+1) 71 #[.func (.func F1) #[] a1, .func (.func F2) #[] a2, .func (.func F3) #[] a3, .func (.func F4) #[] a4] (0,0) _ rfl (set4_same HX2.out) Tryd.underlying71 rfl (by kernel_rfl)) rfl ?_;refine⟨rfl,⟨?_⟩⟩;exact(((HB.out.setCell (p:=⟨w.heap.size+1,0,none⟩) (Nat.le_succ _) _).setCell (p:=⟨w.heap.size+1,1,none⟩) (Nat.le_succ _) _).setCell (p:=⟨w.heap.size+1,2,none⟩) (Nat.le_succ _) _).setCell (p:=⟨w.heap.size+1,3,none⟩) (Nat.le_succ _) _
theorem turned_is (F1 F2 F3 F4:FuncId) (a1 a2 a3 a4:Array Value) (w:World):Calls Tryd.prog 43 #[.agg #[.func (.func F1) #[] a1, .func (.func F2) #[] a2, .func (.func F3) #[] a3, .func (.func F4) #[] a4]] w fun e w'=>e = .returned (.agg #[.func (.func F3) #[] a3, .func (.func F4) #[] a4, .func (.func F1) #[] a1, .func (.func F2) #[] a2])∧Aside0 (Below w.heap.size w w'):=by
 (have hst:=fun (p:Addr) (fn:Fn) (first cap:Array Value) (m:Mode) (w:World)=>run_store Tryd.prog w p (.func fn first cap) m rfl);go_enter Tryd.func43,Tryd.ntmps43
 go_upto_region 1 with fail
 obtain⟨X1,X2,hb,hs⟩:=two_new w (.cells #[.func (.func F1) #[] a1, .func (.func F2) #[] a2, .func (.func F3) #[] a3, .func (.func F4) #[] a4] 71) (.cells #[.nilFunc, .nilFunc, .nilFunc, .nilFunc] 71);obtain⟨w2,hw2⟩ : ∃ w2,(w.alloc (.cells #[.func (.func F1) #[] a1, .func (.func F2) #[] a2, .func (.func F3) #[] a3, .func (.func F4) #[] a4] 71)).alloc (.cells #[.nilFunc, .nilFunc, .nilFunc, .nilFunc] 71)=w2:=⟨_,rfl⟩;(rw[hw2] at X1 X2 hb hs ⊢);clear hw2;have y0:=cell_blk (j:=0) X1 rfl;have z0:=cell_blk (j:=0) X2 rfl;have fr0:=frozen_of_row _ _ 0 _ _ X2;have y1:=cell_blk (j:=1) X1 rfl;have z1:=cell_blk (j:=1) X2 rfl;have fr1:=frozen_of_row _ _ 1 _ _ X2;have y2:=cell_blk (j:=2) X1 rfl;have z2:=cell_blk (j:=2) X2 rfl;have fr2:=frozen_of_row _ _ 2 _ _ X2;have y3:=cell_blk (j:=3) X1 rfl;have z3:=cell_blk (j:=3) X2 rfl;have fr3:=frozen_of_row _ _ 3 _ _ X2;have HX2:=Aside0.mk X2;have HB:=Aside0.mk hb;clear X1 X2 hb;(go_wp2_with fail);refine bodyPost_ret (results_cell_row rfl _ _ (w.heap.size+1) 71 #[.func (.func F3) #[] a3, .func (.func F4) #[] a4, .func (.func F1) #[] a1, .func (.func F2) #[] a2] (0,0) _ rfl (set4_same HX2.out) Tryd.underlying71 rfl (by kernel_rfl)) rfl ?_;refine⟨rfl,⟨?_⟩⟩;exact(((HB.out.setCell (p:=⟨w.heap.size+1,0,none⟩) (Nat.le_succ _) _).setCell (p:=⟨w.heap.size+1,1,none⟩) (Nat.le_succ _) _).setCell (p:=⟨w.heap.size+1,2,none⟩) (Nat.le_succ _) _).setCell (p:=⟨w.heap.size+1,3,none⟩) (Nat.le_succ _) _
theorem sides_is (i:Int) (w:World):Calls Tryd.prog 72 #[.int .i64 i] w fun e w'=>e = .returned (.agg #[.func (.func 98) #[] #[.pointer (some ⟨w.heap.size,0,none⟩)], .func (.func 99) #[] #[.pointer (some ⟨w.heap.size,0,none⟩)], .func (.func 100) #[] #[], .func (.func 38) #[] #[]])∧Aside0 (w'.heap[w.heap.size]? = some (.cells #[.int .i64 i] 3 (0,0)))∧Aside0 (Below w.heap.size w w'):=by
 (have hmf : ∀ (fn:Fn) (first cap:Array Value) (w:World),(Instr.makeFunc fn first cap).run Tryd.prog w = .ok (.func fn first cap) w:=fun _ _ _ _=>rfl);go_enter Tryd.func72,Tryd.ntmps72
 go_upto_region 1 with fail
 obtain⟨X1,X2,hb,hs⟩:=two_new w (.cells #[.int .i64 i] 3) (.cells #[.nilFunc, .nilFunc, .nilFunc, .nilFunc] 71);obtain⟨w2,hw2⟩ : ∃ w2,(w.alloc (.cells #[.int .i64 i] 3)).alloc (.cells #[.nilFunc, .nilFunc, .nilFunc, .nilFunc] 71)=w2:=⟨_,rfl⟩;(rw[hw2] at X1 X2 hb hs ⊢);clear hw2;have HX1:=Aside0.mk X1;have HX2:=Aside0.mk X2;have HB:=Aside0.mk hb;have HS:=Aside0.mk hs;clear X1 X2 hb hs;(have hst:=fun (p:Addr) (fn:Fn) (first cap:Array Value) (m:Mode) (w:World)=>run_store Tryd.prog w p (.func fn first cap) m rfl);have X3:=blk_new w2 (.cells #[.nilFunc, .nilFunc] 69);have y0:=cell_blk (j:=0) X3 rfl;have y1:=cell_blk (j:=1) X3 rfl;have f0:=frozen_of_row _ _ 0 _ _ X3;have f1:=frozen_of_row _ _ 1 _ _ X3
 go_upto_region 2 with fail
 clear X3 y0 y1 f0 f1;have X3:=blk_new w2 (.cells #[.func (.func 98) #[] #[.pointer (some ⟨w.heap.size,0,none⟩)], .func (.func 99) #[] #[.pointer (some ⟨w.heap.size,0,none⟩)]] 69);have hb3:=newBelow w2 (.cells #[.func (.func 98) #[] #[.pointer (some ⟨w.heap.size,0,none⟩)], .func (.func 99) #[] #[.pointer (some ⟨w.heap.size,0,none⟩)]] 69);obtain⟨w3,hw3⟩ : ∃ w3,w2.alloc (.cells #[.func (.func 98) #[] #[.pointer (some ⟨w.heap.size,0,none⟩)], .func (.func 99) #[] #[.pointer (some ⟨w.heap.size,0,none⟩)]] 69)=w3:=⟨_,rfl⟩;(rw[hw3] at X3 hb3 ⊢);have HX3:=Aside0.mk X3;have HB3:=Aside0.mk hb3;clear X3 hb3 hw3;have X4:=blk_new w3 (.cells #[.nilFunc, .nilFunc] 69);have y0:=cell_blk (j:=0) X4 rfl;have y1:=cell_blk (j:=1) X4 rfl;have f0:=frozen_of_row _ _ 0 _ _ X4;have f1:=frozen_of_row _ _ 1 _ _ X4
 go_upto_region 3 with fail
 clear X4 y0 y1 f0 f1;have X4:=blk_new w3 (.cells #[.func (.func 100) #[] #[], .func (.func 38) #[] #[]] 69);have hb4:=newBelow w3 (.cells #[.func (.func 100) #[] #[], .func (.func 38) #[] #[]] 69);obtain⟨w4,hw4⟩ : ∃ w4,w3.alloc (.cells #[.func (.func 100) #[] #[], .func (.func 38) #[] #[]] 69)=w4:=⟨_,rfl⟩;(rw[hw4] at X4 hb4 ⊢);clear hw4;have X34:=farKeep HX3.out hb4;have HB24:Aside0 (Below w2.heap.size w2 w4):=⟨far_ HB3.out hb4⟩;have X24:=farKeep HX2.out HB24.out;have HX1':=Aside0.mk (farKeep HX1.out HB24.out);have HX24:=Aside0.mk X24;have u0:=cell_blk (j:=0) X34 rfl;have u1:=cell_blk (j:=1) X34 rfl;have v0:=cell_blk (j:=0) X4 rfl;have v1:=cell_blk (j:=1) X4 rfl;have z0:=cell_blk (j:=0) X24 rfl;have fr0:=frozen_of_row _ _ 0 _ _ X24;have z1:=cell_blk (j:=1) X24 rfl;have fr1:=frozen_of_row _ _ 1 _ _ X24;have z2:=cell_blk (j:=2) X24 rfl;have fr2:=frozen_of_row _ _ 2 _ _ X24;have z3:=cell_blk (j:=3) X24 rfl;have fr3:=frozen_of_row _ _ 3 _ _ X24;clear X34 X4 X24 hb4;have HBW:Aside0 (Below w.heap.size w w4):=⟨far_ HB.out HB24.out⟩;(go_wp2_with fail);refine bodyPost_ret (results_cell_row rfl _ _ (w.heap.size+1) 71 #[.func (.func 98) #[] #[.pointer (some ⟨w.heap.size,0,none⟩)], .func (.func 99) #[] #[.pointer (some ⟨w.heap.size,0,none⟩)], .func (.func 100) #[] #[], .func (.func 38) #[] #[]] (0,0) _ rfl (set4_same HX24.out) Tryd.underlying71 rfl (by kernel_rfl)) rfl ?_;refine⟨rfl,⟨?_⟩,⟨?_⟩⟩;(· exact(set4_other (show w.heap.size≠w.heap.size+1 by omega)).trans HX1'.out);(· exact(((HBW.out.setCell (p:=⟨w.heap.size+1,0,none⟩) (Nat.le_succ _) _).setCell (p:=⟨w.heap.size+1,1,none⟩) (Nat.le_succ _) _).setCell (p:=⟨w.heap.size+1,2,none⟩) (Nat.le_succ _) _).setCell (p:=⟨w.heap.size+1,3,none⟩) (Nat.le_succ _) _)
theorem side1_is (g i:Nat) (h:Hunk48) (A0:Option Addr) (c0:Nat) (A3:Option Addr) (c3:Nat) (w:World) (hc:w.cell? ⟨g,0,none⟩=some (.int .i64 (i:Int))) (hi:i < h.f0.length) (hl:h.f0.length≤1000000) (hC:Kd.C k45 w A0 h.f0.length h.f0) (hc0:h.f0.length≤c0) :
    Calls Tryd.prog 98 #[.agg #[.slice A0 h.f0.length c0, .int .i64 h.f1.f0, .int .i64 h.f1.f1, .slice A3 h.f2.length c3], .pointer (some ⟨g,0,none⟩)] w fun e w'=>e = .returned (.agg #[.int .i64 (spP (i:Int) h).f0, .int .i64 (spP (i:Int) h).f1])∧Below w.heap.size w w':=by
 have HC:=Aside0.mk hC;have HG:=Aside0.mk hc;obtain⟨s,hs⟩ : ∃ s,spP (i:Int) h=s:=⟨_,rfl⟩;rw[hs];have HS:=Aside0.mk hs;clear hC hc hs;go_enter Tryd.func98,Tryd.ntmps98
 go_upto_region 1 with fail
 obtain⟨X1,X2,hb,hs⟩:=two_new w (.cells #[.slice A0 h.f0.length c0, .int .i64 h.f1.f0, .int .i64 h.f1.f1, .slice A3 h.f2.length c3] 48) (.cells #[.int .i64 0, .int .i64 0] 45);obtain⟨w2,hw2⟩ : ∃ w2,(w.alloc (.cells #[.slice A0 h.f0.length c0, .int .i64 h.f1.f0, .int .i64 h.f1.f1, .slice A3 h.f2.length c3] 48)).alloc (.cells #[.int .i64 0, .int .i64 0] 45)=w2:=⟨_,rfl⟩;(rw[hw2] at X1 X2 hb hs ⊢);have z0:=cell_blk (j:=0) X1 rfl;have cg:w2.cell? ⟨g,0,none⟩=some (.int .i64 (i:Int)):=(hb.cell (World.block_lt_of_cell? w _ HG.out)).trans HG.out;obtain⟨ad,hA,x0,x1⟩:=at_T45 (Kd.C_below HC.out hb) (i:Int) (by omega) (by omega);subst hA;(rw[Int.toNat_natCast] at x0 x1);have y0:=cell_blk (j:=0) X2 rfl;have y1:=cell_blk (j:=1) X2 rfl;have f0:=frozen_of_row _ _ 0 _ _ X2;have f1:=frozen_of_row _ _ 1 _ _ X2;have HB:=Aside0.mk hb;have HX2:=Aside0.mk X2;clear hw2 X1 X2 hb hs HG;(rw[show rd_T45 h.f0 (i:Int)=s from HS.out] at x0 x1);(go_wp2_with fail);refine bodyPost_ret (results_cell_row rfl _ _ (w.heap.size+1) 45 #[.int .i64 s.f0, .int .i64 s.f1] (0,0) _ rfl (heap_set_same (heap_set_same HX2.out _) _) Tryd.underlying45 rfl (by kernel_rfl)) rfl ?_;exact⟨rfl,(HB.out.setCell (p:=⟨w.heap.size+1,0,none⟩) (Nat.le_succ _) _).setCell (p:=⟨w.heap.size+1,1,none⟩) (Nat.le_succ _) _⟩
theorem side3_is (h:Hunk48) (A0:Option Addr) (c0:Nat) (A3:Option Addr) (c3:Nat) (w:World) :
    Calls Tryd.prog 100 #[.agg #[.slice A0 h.f0.length c0, .int .i64 h.f1.f0, .int .i64 h.f1.f1, .slice A3 h.f2.length c3]] w fun e w'=>e = .returned (.agg #[.int .i64 (spR h).f0, .int .i64 (spR h).f1])∧Below w.heap.size w w':=by
 (show Calls _ _ _ _ fun e w'=>e = .returned (.agg #[.int .i64 h.f1.f0, .int .i64 h.f1.f1])∧_);go_enter Tryd.func100,Tryd.ntmps100
 go_upto_region 1 with fail
 obtain⟨X1,X2,hb,hs⟩:=two_new w (.cells #[.slice A0 h.f0.length c0, .int .i64 h.f1.f0, .int .i64 h.f1.f1, .slice A3 h.f2.length c3] 48) (.cells #[.int .i64 0, .int .i64 0] 45);obtain⟨w2,hw2⟩ : ∃ w2,(w.alloc (.cells #[.slice A0 h.f0.length c0, .int .i64 h.f1.f0, .int .i64 h.f1.f1, .slice A3 h.f2.length c3] 48)).alloc (.cells #[.int .i64 0, .int .i64 0] 45)=w2:=⟨_,rfl⟩;(rw[hw2] at X1 X2 hb hs ⊢);have z1:=cell_blk (j:=1) X1 rfl;have z2:=cell_blk (j:=2) X1 rfl;have y0:=cell_blk (j:=0) X2 rfl;have y1:=cell_blk (j:=1) X2 rfl;have f0:=frozen_of_row _ _ 0 _ _ X2;have f1:=frozen_of_row _ _ 1 _ _ X2;have HB:=Aside0.mk hb;have HX2:=Aside0.mk X2;clear hw2 X1 X2 hb hs;(go_wp2_with fail);refine bodyPost_ret (results_cell_row rfl _ _ (w.heap.size+1) 45 #[.int .i64 h.f1.f0, .int .i64 h.f1.f1] (0,0) _ rfl (heap_set_same (heap_set_same HX2.out _) _) Tryd.underlying45 rfl (by kernel_rfl)) rfl ?_;exact⟨rfl,(HB.out.setCell (p:=⟨w.heap.size+1,0,none⟩) (Nat.le_succ _) _).setCell (p:=⟨w.heap.size+1,1,none⟩) (Nat.le_succ _) _⟩
theorem side2_is (g i:Nat) (R:List RowH) (A3:Option Addr) (c3:Nat) (w:World) (hc:w.cell? ⟨g,0,none⟩=some (.int .i64 (i:Int))) (hC:Kd.C k57 w A3 R.length R) (hc3:R.length≤c3) (hl:lowB R=true) :
    Calls Tryd.prog 99 #[.slice A3 R.length c3, .pointer (some ⟨g,0,none⟩)] w fun e w' => ∃ v,e = .returned v∧Kd.R Kd.string 9 w' w.heap.size (fun _=>True) v (txP (ofB (i:Int)) R)∧Below w.heap.size w w':=by
 have HC:=Aside0.mk hC;have HL:=Aside0.mk hl;have HC3:=Aside0.mk hc3;clear hC hl hc3;go_enter Tryd.func99,Tryd.ntmps99;(go_wp2_with fail);obtain⟨h1,h2,h3⟩:=lowB_iff HL.out;refine(table_Column.calls A3 c3 R (i:Int) _ w HC.out HC3.out (col_f (i:Int) (by omega) (fun x hx=>by have:=h2 x hx;omega))).mono ?_;rintro e w2 ⟨v,rfl,hr,hb⟩;(go_wp2_with fail);go_ret;exact⟨_,rfl,hr,hb⟩
theorem side4_is (R:List RowH) (A3:Option Addr) (c3:Nat) (w:World) (hC:Kd.C k57 w A3 R.length R) (hc3:R.length≤c3) (hl:lowB R=true) :
    Calls Tryd.prog 38 #[.slice A3 R.length c3] w fun e w' => ∃ v,e = .returned v∧Kd.R Kd.string 9 w' w.heap.size (fun _=>True) v (txP notL R)∧Below w.heap.size w w':=by
 obtain⟨h1,h2,h3⟩:=lowB_iff hl;exact table_Result.calls A3 c3 R _ w hC hc3 (res_f (by omega) (fun x hx=>by have:=h2 x hx;omega))
theorem mayGo_len (n0:Nat) : ∀ (t:List Hunk48) (last:Option Hunk48),mayGo n0 last t=true → ∀ h ∈ t,h.f0.length=n0
 | [],_,_,h,hh=>by cases hh
 | x :: t,last,hm,h,hh=>by
  (rw[mayGo,Bool.and_eq_true] at hm)
  rcases List.mem_cons.1 hh with rfl|hh
  (· exact(hunkB_iff.1 hm.1).2.2.2.1);(· exact mayGo_len n0 t _ hm.2 h hh)
theorem txP_size {P:ByteArray→Bool} {R:List RowH} (h:lowB R=true) : ∀ s ∈ txP P R,s.size≤1000000:=fun s hs=>by
  obtain⟨x,hx,rfl⟩:=List.mem_map.1 hs
  exact(lowB_iff h).2.2 x (List.mem_filter.1 hx).1
theorem fn1_is:FnIs 98 Tryd.f98:=⟨Tryd.func98,by kernel_rfl,rfl⟩
theorem fn2_is:FnIs 99 Tryd.f99:=⟨Tryd.func99,by kernel_rfl,rfl⟩
theorem fn3_is:FnIs 100 Tryd.f100:=⟨Tryd.func100,by kernel_rfl,rfl⟩
theorem fn4_is:FnIs 38 Tryd.f38:=⟨Tryd.func38,by kernel_rfl,rfl⟩
set_option maxHeartbeats 4000000 in
theorem both_fwd (A:Option Addr) (c:Nat) (l:List Hunk48) (column:Int) (Af:Option Addr) (cf:Nat) (file:List ByteArray) (w:World) (hC:Kd.C k48 w A l.length l) (hc:l.length≤c) (hCf:Kd.C Kd.string w Af file.length file) (hcf:file.length≤cf) (hl:LowH l) (hfl:file.length≤100000) (hfs : ∀ s ∈ file,s.size≤1000000) :
    Calls Tryd.prog 40 #[.func (.func 41) #[] #[], .slice A l.length c, .int .i64 column, .slice Af file.length cf] w fun e w' => ∃ v,e = .returned (.tuple #[v, .int .i64 (runF false l column file).2])∧Aside0 (Kd.R Kd.string 9 w' w.heap.size (fun _=>True) v (runF false l column file).1)∧Aside0 (Below w.heap.size w w'):=by
 obtain⟨R,hR⟩ : ∃ R,runF false l column file=R:=⟨_,rfl⟩;rw[hR];obtain⟨e0,he0⟩ : ∃ e0,checkF l column file=e0:=⟨_,rfl⟩;have HC:=Aside0.mk hC;have HCF:=Aside0.mk hCf;have HL:=Aside0.mk hl;have HFS:=Aside0.mk hfs;have HR:=Aside0.mk hR;have HE:=Aside0.mk he0;have HNUM:Aside0 (l.length≤c∧file.length≤cf∧file.length≤100000):=⟨⟨hc,hcf,hfl⟩⟩;have hck1:=check_f hl column (file:=file) (by omega) hfs;(rw[he0] at hck1);have HK:=Aside0.mk hck1;(have hent : ∀ args w,(callFunc 41 args).run Tryd.prog w = .ok (.enter 41 args) w:=fun args w=>enters_ Tryd.func41 (by kernel_rfl) rfl args w);clear hC hCf hl hfs hR he0 hc hcf hfl hck1;go_enter Tryd.func40,Tryd.ntmps40;(go_wp2_with fail);obtain⟨K,hK⟩:=HK.out;refine(apply_check.calls K A c l column Af cf file e0 w HC.out HNUM.out.1 HCF.out HNUM.out.2.1 (hK K (Nat.le_refl _))).mono ?_;rintro e w1 ⟨rfl,hb1⟩;have HB1:=Aside0.mk hb1;clear hK hb1
 by_cases h0:e0=0
 ·
  subst h0;have hR2:=HR.out;(rw[runF,if_pos HE.out,if_neg (by decide)] at hR2);have HR2:=Aside0.mk hR2;clear hR2;(go_wp2_with fail);refine(sides_is column w1).mono ?_;rintro e w2 ⟨rfl,HX2,HB2⟩;(go_wp2_with fail);(try rw[hent,Oper.upon_enter]);refine(same_is _ _ _ _ _ _ _ _ w2).mono ?_;rintro e w3 ⟨rfl,HB3⟩;have HB23:Aside0 (Below w1.heap.size w1 w3):=⟨far_ HB2.out HB3.out⟩;have HBW:Aside0 (Below w.heap.size w w3):=⟨far_ HB1.out HB23.out⟩;have hck:=HE.out;obtain⟨k1,k2,k3,k4⟩:=checkF_0.1 hck;obtain⟨i,rfl⟩ : ∃ i:Nat,column=(i:Int):=⟨column.toNat,by omega⟩;have X3:=farKeep HX2.out HB3.out;(have hcell : ∀ W,Below w3.heap.size w3 W→W.cell? ⟨w1.heap.size,0,none⟩=some (.int .i64 (i:Int)):=fun W hW=>cell_blk (farKeep X3 hW) rfl)
  have hin : ∀ h ∈ l,i < h.f0.length:=fun h hh=>by
   have h1:=mayGo_len (firstN l) l none k4 h hh;have h2:=k2 (by rcases List.mem_iff_getElem.1 hh with ⟨q,hq,_⟩;omega);omega
  have HS1:Aside0 (∀ h ∈ l,∀ A0 c0 A3 c3 W,Below w3.heap.size w3 W→Kd.C k45 W A0 h.f0.length h.f0→h.f0.length≤c0→Calls Tryd.prog 98 (#[.agg #[.slice A0 h.f0.length c0, .int .i64 h.f1.f0, .int .i64 h.f1.f1, .slice A3 h.f2.length c3]] ++ #[.pointer (some ⟨w1.heap.size,0,none⟩)]) W fun e w'=>e = .returned (.agg #[.int .i64 (spP (i:Int) h).f0, .int .i64 (spP (i:Int) h).f1])∧Below W.heap.size W w'):=⟨fun h hh A0 c0 A3 c3 W hW hC hc0=>side1_is w1.heap.size i h A0 c0 A3 c3 W (hcell W hW) (hin h hh) (HL.out.2 h hh).1 hC hc0⟩;have HS3:Aside0 (∀ h ∈ l,∀ A0 c0 A3 c3 W,Below w3.heap.size w3 W→Kd.C k45 W A0 h.f0.length h.f0→h.f0.length≤c0→Calls Tryd.prog 100 (#[.agg #[.slice A0 h.f0.length c0, .int .i64 h.f1.f0, .int .i64 h.f1.f1, .slice A3 h.f2.length c3]] ++ #[]) W fun e w'=>e = .returned (.agg #[.int .i64 (spR h).f0, .int .i64 (spR h).f1])∧Below W.heap.size W w'):=⟨fun h hh A0 c0 A3 c3 W hW hC hc0=>side3_is h A0 c0 A3 c3 W⟩;have HT2:Aside0 (∀ h ∈ l,∀ A3 c3 W,Below w3.heap.size w3 W→Kd.C k57 W A3 h.f2.length h.f2→h.f2.length≤c3→Calls Tryd.prog 99 (#[.slice A3 h.f2.length c3] ++ #[.pointer (some ⟨w1.heap.size,0,none⟩)]) W fun e w' => ∃ v,e = .returned v∧Kd.R Kd.string 9 w' W.heap.size (fun _=>True) v (txP (ofB (i:Int)) h.f2)∧Below W.heap.size W w'):=⟨fun h hh A3 c3 W hW hC hc3=>side2_is w1.heap.size i h.f2 A3 c3 W (hcell W hW) hC hc3 (HL.out.2 h hh).2⟩;have HT4:Aside0 (∀ h ∈ l,∀ A3 c3 W,Below w3.heap.size w3 W→Kd.C k57 W A3 h.f2.length h.f2→h.f2.length≤c3→Calls Tryd.prog 38 (#[.slice A3 h.f2.length c3] ++ #[]) W fun e w' => ∃ v,e = .returned v∧Kd.R Kd.string 9 w' W.heap.size (fun _=>True) v (txP notL h.f2)∧Below W.heap.size W w'):=⟨fun h hh A3 c3 W hW hC hc3=>side4_is h.f2 A3 c3 W hC hc3 (HL.out.2 h hh).2⟩;have hrun:=run_is 98 99 100 38 _ _ _ _ #[.pointer (some ⟨w1.heap.size,0,none⟩)] #[.pointer (some ⟨w1.heap.size,0,none⟩)] #[] #[] fn1_is fn2_is fn3_is fn4_is (spP (i:Int)) spR (txP (ofB (i:Int))) (txP notL) A c l Af cf file w3 (Kd.C_below HC.out HBW.out) HNUM.out.1 (Kd.C_below HCF.out HBW.out) HNUM.out.2.1 HL.out.1 HNUM.out.2.2 HFS.out HS1.out HS3.out HT2.out HT4.out (fun h hh=>txP_size (HL.out.2 h hh).2) (chain_check hck) R HR2.out;clear hck k1 k2 k3 k4 X3 hcell hin;(go_wp2_with fail);refine hrun.mono ?_;rintro e w4 ⟨v,rfl,HR4,HB4⟩;clear hrun;(go_wp2_with fail);refine bodyPost_ret (results_tmp2 rfl _ _ _) rfl ?_;exact⟨v,rfl,⟨Kd.R_lower HR4.out HBW.out.size⟩,⟨far_ HBW.out HB4.out⟩⟩
 (· (have d1:(e0 != 0)=true:=by simpa using h0);(have d2:(e0 == 0)=false:=by simpa using h0);have hR2:=HR.out;(rw[runF,if_neg (by rw[HE.out];exact h0)] at hR2);have HR2:=Aside0.mk hR2;clear hR2;(go_wp2_with fail);refine bodyPost_ret (results_tmp2 rfl _ _ _) rfl ?_;rw[← HR2.out,HE.out];exact⟨.slice none 0 0,rfl,⟨Kd.R_nil _ _ _ _ _⟩,⟨HB1.out⟩⟩)
set_option maxHeartbeats 4000000 in
theorem both_back (A:Option Addr) (c:Nat) (l:List Hunk48) (column:Int) (Af:Option Addr) (cf:Nat) (file:List ByteArray) (w:World) (hC:Kd.C k48 w A l.length l) (hc:l.length≤c) (hCf:Kd.C Kd.string w Af file.length file) (hcf:file.length≤cf) (hl:LowH l) (hfl:file.length≤100000) (hfs : ∀ s ∈ file,s.size≤1000000) :
    Calls Tryd.prog 40 #[.func (.func 43) #[] #[], .slice A l.length c, .int .i64 column, .slice Af file.length cf] w fun e w' => ∃ v,e = .returned (.tuple #[v, .int .i64 (runF true l column file).2])∧Aside0 (Kd.R Kd.string 9 w' w.heap.size (fun _=>True) v (runF true l column file).1)∧Aside0 (Below w.heap.size w w'):=by
 obtain⟨R,hR⟩ : ∃ R,runF true l column file=R:=⟨_,rfl⟩;rw[hR];obtain⟨e0,he0⟩ : ∃ e0,checkF l column file=e0:=⟨_,rfl⟩;have HC:=Aside0.mk hC;have HCF:=Aside0.mk hCf;have HL:=Aside0.mk hl;have HFS:=Aside0.mk hfs;have HR:=Aside0.mk hR;have HE:=Aside0.mk he0;have HNUM:Aside0 (l.length≤c∧file.length≤cf∧file.length≤100000):=⟨⟨hc,hcf,hfl⟩⟩;have hck1:=check_f hl column (file:=file) (by omega) hfs;(rw[he0] at hck1);have HK:=Aside0.mk hck1;(have hent : ∀ args w,(callFunc 43 args).run Tryd.prog w = .ok (.enter 43 args) w:=fun args w=>enters_ Tryd.func43 (by kernel_rfl) rfl args w);clear hC hCf hl hfs hR he0 hc hcf hfl hck1;go_enter Tryd.func40,Tryd.ntmps40;(go_wp2_with fail);obtain⟨K,hK⟩:=HK.out;refine(apply_check.calls K A c l column Af cf file e0 w HC.out HNUM.out.1 HCF.out HNUM.out.2.1 (hK K (Nat.le_refl _))).mono ?_;rintro e w1 ⟨rfl,hb1⟩;have HB1:=Aside0.mk hb1;clear hK hb1
 by_cases h0:e0=0
 ·
  subst h0;have hR2:=HR.out;(rw[runF,if_pos HE.out,if_pos rfl] at hR2);have HR2:=Aside0.mk hR2;clear hR2;(go_wp2_with fail);refine(sides_is column w1).mono ?_;rintro e w2 ⟨rfl,HX2,HB2⟩;(go_wp2_with fail);(try rw[hent,Oper.upon_enter]);refine(turned_is _ _ _ _ _ _ _ _ w2).mono ?_;rintro e w3 ⟨rfl,HB3⟩;have HB23:Aside0 (Below w1.heap.size w1 w3):=⟨far_ HB2.out HB3.out⟩;have HBW:Aside0 (Below w.heap.size w w3):=⟨far_ HB1.out HB23.out⟩;have hck:=HE.out;obtain⟨k1,k2,k3,k4⟩:=checkF_0.1 hck;obtain⟨i,rfl⟩ : ∃ i:Nat,column=(i:Int):=⟨column.toNat,by omega⟩;have X3:=farKeep HX2.out HB3.out;(have hcell : ∀ W,Below w3.heap.size w3 W→W.cell? ⟨w1.heap.size,0,none⟩=some (.int .i64 (i:Int)):=fun W hW=>cell_blk (farKeep X3 hW) rfl)
  have hin : ∀ h ∈ l,i < h.f0.length:=fun h hh=>by
   have h1:=mayGo_len (firstN l) l none k4 h hh;have h2:=k2 (by rcases List.mem_iff_getElem.1 hh with ⟨q,hq,_⟩;omega);omega
  have HS1:Aside0 (∀ h ∈ l,∀ A0 c0 A3 c3 W,Below w3.heap.size w3 W→Kd.C k45 W A0 h.f0.length h.f0→h.f0.length≤c0→Calls Tryd.prog 98 (#[.agg #[.slice A0 h.f0.length c0, .int .i64 h.f1.f0, .int .i64 h.f1.f1, .slice A3 h.f2.length c3]] ++ #[.pointer (some ⟨w1.heap.size,0,none⟩)]) W fun e w'=>e = .returned (.agg #[.int .i64 (spP (i:Int) h).f0, .int .i64 (spP (i:Int) h).f1])∧Below W.heap.size W w'):=⟨fun h hh A0 c0 A3 c3 W hW hC hc0=>side1_is w1.heap.size i h A0 c0 A3 c3 W (hcell W hW) (hin h hh) (HL.out.2 h hh).1 hC hc0⟩;have HS3:Aside0 (∀ h ∈ l,∀ A0 c0 A3 c3 W,Below w3.heap.size w3 W→Kd.C k45 W A0 h.f0.length h.f0→h.f0.length≤c0→Calls Tryd.prog 100 (#[.agg #[.slice A0 h.f0.length c0, .int .i64 h.f1.f0, .int .i64 h.f1.f1, .slice A3 h.f2.length c3]] ++ #[]) W fun e w'=>e = .returned (.agg #[.int .i64 (spR h).f0, .int .i64 (spR h).f1])∧Below W.heap.size W w'):=⟨fun h hh A0 c0 A3 c3 W hW hC hc0=>side3_is h A0 c0 A3 c3 W⟩;have HT2:Aside0 (∀ h ∈ l,∀ A3 c3 W,Below w3.heap.size w3 W→Kd.C k57 W A3 h.f2.length h.f2→h.f2.length≤c3→Calls Tryd.prog 99 (#[.slice A3 h.f2.length c3] ++ #[.pointer (some ⟨w1.heap.size,0,none⟩)]) W fun e w' => ∃ v,e = .returned v∧Kd.R Kd.string 9 w' W.heap.size (fun _=>True) v (txP (ofB (i:Int)) h.f2)∧Below W.heap.size W w'):=⟨fun h hh A3 c3 W hW hC hc3=>side2_is w1.heap.size i h.f2 A3 c3 W (hcell W hW) hC hc3 (HL.out.2 h hh).2⟩;have HT4:Aside0 (∀ h ∈ l,∀ A3 c3 W,Below w3.heap.size w3 W→Kd.C k57 W A3 h.f2.length h.f2→h.f2.length≤c3→Calls Tryd.prog 38 (#[.slice A3 h.f2.length c3] ++ #[]) W fun e w' => ∃ v,e = .returned v∧Kd.R Kd.string 9 w' W.heap.size (fun _=>True) v (txP notL h.f2)∧Below W.heap.size W w'):=⟨fun h hh A3 c3 W hW hC hc3=>side4_is h.f2 A3 c3 W hC hc3 (HL.out.2 h hh).2⟩;have hrun:=run_is 100 38 98 99 _ _ _ _ #[] #[] #[.pointer (some ⟨w1.heap.size,0,none⟩)] #[.pointer (some ⟨w1.heap.size,0,none⟩)] fn3_is fn4_is fn1_is fn2_is spR (spP (i:Int)) (txP notL) (txP (ofB (i:Int))) A c l Af cf file w3 (Kd.C_below HC.out HBW.out) HNUM.out.1 (Kd.C_below HCF.out HBW.out) HNUM.out.2.1 HL.out.1 HNUM.out.2.2 HFS.out HS3.out HS1.out HT4.out HT2.out (fun h hh=>txP_size (HL.out.2 h hh).2) ((chain_check hck).swap) R HR2.out;clear hck k1 k2 k3 k4 X3 hcell hin;(go_wp2_with fail);refine hrun.mono ?_;rintro e w4 ⟨v,rfl,HR4,HB4⟩;clear hrun;(go_wp2_with fail);refine bodyPost_ret (results_tmp2 rfl _ _ _) rfl ?_;exact⟨v,rfl,⟨Kd.R_lower HR4.out HBW.out.size⟩,⟨far_ HBW.out HB4.out⟩⟩
 (· (have d1:(e0 != 0)=true:=by simpa using h0);(have d2:(e0 == 0)=false:=by simpa using h0);have hR2:=HR.out;(rw[runF,if_neg (by rw[HE.out];exact h0)] at hR2);have HR2:=Aside0.mk hR2;clear hR2;(go_wp2_with fail);refine bodyPost_ret (results_tmp2 rfl _ _ _) rfl ?_;rw[← HR2.out,HE.out];exact⟨.slice none 0 0,rfl,⟨Kd.R_nil _ _ _ _ _⟩,⟨HB1.out⟩⟩)
def lowHB (l:List Hunk48):Bool:=decide (l.length≤100000) && l.all (fun h=>decide (h.f0.length≤1000000) && lowB h.f2)
theorem lowHB_iff {l:List Hunk48}:lowHB l=true↔LowH l:=by
 rw[lowHB,Bool.and_eq_true,decide_eq_true_eq,List.all_eq_true,LowH];constructor;(· rintro⟨h1,h2⟩;refine⟨h1,fun h hh=>?_⟩;have:=h2 h hh;(rw[Bool.and_eq_true,decide_eq_true_eq] at this);exact this);(· rintro⟨h1,h2⟩;refine⟨h1,fun h hh=>?_⟩;rw[Bool.and_eq_true,decide_eq_true_eq];exact h2 h hh)
def lowFB (file:List ByteArray):Bool:=decide (file.length≤100000) && file.all (fun s=>decide (s.size≤1000000))
theorem lowFB_iff {file:List ByteArray}:lowFB file=true↔file.length≤100000 ∧ ∀ s ∈ file,s.size≤1000000:=by
 rw[lowFB,Bool.and_eq_true,decide_eq_true_eq,List.all_eq_true];simp only[decide_eq_true_eq]
def apply_Forward.f (l0:List S48) (a1:Int) (l2:List ByteArray):Option (List ByteArray × Int):=if (lowHB l0 && lowFB l2)=true then some (runF false l0 a1 l2) else none
set_option maxHeartbeats 2000000 in
theorem apply_Forward.calls (A0:Option Addr) (c0:Nat) (l0:List S48) (a1:Int) (A2:Option Addr) (c2:Nat) (l2:List ByteArray) (r1:List ByteArray) (r2:Int) (w:World) (hr0:Kd.C k48 w A0 l0.length l0) (hc0:l0.length≤c0) (hr2:Kd.C Kd.string w A2 l2.length l2) (hc2:l2.length≤c2) (h:apply_Forward.f l0 a1 l2=some (r1,r2)) :
    Calls Tryd.prog 17 #[.slice A0 l0.length c0, .int .i64 a1, .slice A2 l2.length c2] w fun e w' => ∃ v0_:Value,e = .returned (.tuple #[v0_, .int .i64 r2])∧Kd.R Kd.string 9 w' w.heap.size (fun _=>True) v0_ r1∧Below w.heap.size w w':=by
 (rw[apply_Forward.f] at h);(split at h);(· rename_i hl;(rw[Bool.and_eq_true] at hl);have hL:=lowHB_iff.1 hl.1;obtain⟨hf1,hf2⟩:=lowFB_iff.1 hl.2;have h:=Option.some.inj h;have HB_:=Aside0.mk (both_fwd A0 c0 l0 a1 A2 c2 l2 w hr0 hc0 hr2 hc2 hL hf1 hf2);(rw[h] at HB_);clear hr0 hc0 hr2 hc2 hL hf1 hf2 h hl;go_enter Tryd.func17,Tryd.ntmps17;(go_wp2_with fail);refine HB_.out.mono ?_;rintro e w1 ⟨v,rfl,HR,HB⟩;(go_wp2_with fail);refine bodyPost_ret (results_tmp2 rfl _ _ _) rfl ?_;exact⟨v,rfl,HR.out,HB.out⟩);(· cases h)
def apply_Back.f (l0:List S48) (a1:Int) (l2:List ByteArray):Option (List ByteArray × Int):=if (lowHB l0 && lowFB l2)=true then some (runF true l0 a1 l2) else none
set_option maxHeartbeats 2000000 in
theorem apply_Back.calls (A0:Option Addr) (c0:Nat) (l0:List S48) (a1:Int) (A2:Option Addr) (c2:Nat) (l2:List ByteArray) (r1:List ByteArray) (r2:Int) (w:World) (hr0:Kd.C k48 w A0 l0.length l0) (hc0:l0.length≤c0) (hr2:Kd.C Kd.string w A2 l2.length l2) (hc2:l2.length≤c2) (h:apply_Back.f l0 a1 l2=some (r1,r2)) :
    Calls Tryd.prog 19 #[.slice A0 l0.length c0, .int .i64 a1, .slice A2 l2.length c2] w fun e w' => ∃ v0_:Value,e = .returned (.tuple #[v0_, .int .i64 r2])∧Kd.R Kd.string 9 w' w.heap.size (fun _=>True) v0_ r1∧Below w.heap.size w w':=by
 (rw[apply_Back.f] at h);(split at h);(· rename_i hl;(rw[Bool.and_eq_true] at hl);have hL:=lowHB_iff.1 hl.1;obtain⟨hf1,hf2⟩:=lowFB_iff.1 hl.2;have h:=Option.some.inj h;have HB_:=Aside0.mk (both_back A0 c0 l0 a1 A2 c2 l2 w hr0 hc0 hr2 hc2 hL hf1 hf2);(rw[h] at HB_);clear hr0 hc0 hr2 hc2 hL hf1 hf2 h hl;go_enter Tryd.func19,Tryd.ntmps19;(go_wp2_with fail);refine HB_.out.mono ?_;rintro e w1 ⟨v,rfl,HR,HB⟩;(go_wp2_with fail);refine bodyPost_ret (results_tmp2 rfl _ _ _) rfl ?_;exact⟨v,rfl,HR.out,HB.out⟩);(· cases h)
end Go.Proofs.YthcnfflhejogfaaDoor.X
namespace Go.Proofs.YthcnfflhejogfaaDoor.X
open Go.RowKit Go.Proofs.YthcnfflhejogfaaDoorW.PrintWords Go.Proofs.YthcnfflhejogfaaDoorW.PrintLast Go.Proofs.YthcnfflhejogfaaDoorW.PrintMore
attribute [local go_sem] max2_int min2_int max_two min_two max_three min_three max_four min_four
def sennitlaw23_awake.f  : Option (Bool):=(some (([(⟨(([(⟨0,1⟩:S45)]:List (S45))),(⟨0,1⟩:S45),(([(⟨(⟨#[45]⟩:ByteArray),(⟨#[98,10]⟩:ByteArray)⟩:S57),(⟨(⟨#[43]⟩:ByteArray),(⟨#[97,10]⟩:ByteArray)⟩:S57)]:List (S57)))⟩:S48)]:List (S48)):List (S48))).bind fun y107=>((apply_Forward.f y107 0 (([(⟨#[98,10]⟩:ByteArray),(⟨#[99,10]⟩:ByteArray)]:List ByteArray))).bind fun bt113=>((apply_Back.f y107 0 (([(⟨#[97,10]⟩:ByteArray)]:List ByteArray))).bind fun bt120=>((apply_Forward.f y107 0 (([(⟨#[99,10]⟩:ByteArray)]:List ByteArray))).bind fun bt127=>((apply_Forward.f y107 1 ([]:List ByteArray)).bind fun bt131=>(if bt113.2=0 then (if bt120.2=0 then (if (bt113.1.length:Int)=2 then (if 0 < (bt113.1.length:Int) then (if (rdOf ByteArray.empty bt113.1 0).toList=([97,10]:List UInt8) then (if 1 < (bt113.1.length:Int) then (if (rdOf ByteArray.empty bt113.1 1).toList=([99,10]:List UInt8) then (if (bt120.1.length:Int)=1 then (if 0 < (bt120.1.length:Int) then (if (rdOf ByteArray.empty bt120.1 0).toList=([98,10]:List UInt8) then (if bt127.2=7 then (some (bt131.2 == 1)) else (some false)) else (some false)) else (none)) else (some false)) else (some false)) else (none)) else (some false)) else (none)) else (some false)) else (some false)) else (some false))))))
theorem sennitlaw23_awake.true_:sennitlaw23_awake.f=some true:=by decide +kernel
theorem sennitlaw23_awake.calls  (r:Bool) (w:World) (h:sennitlaw23_awake.f  = some r) :
    Calls Tryd.prog 14 #[] w fun e w'=>e = .returned (.bool r)∧Below w.heap.size w w':=by
 have hrt_:r=true:=Option.some.inj (h.symm.trans sennitlaw23_awake.true_);have hu45:=Tryd.underlying45;have hu57:=Tryd.underlying57;have hu48:=Tryd.underlying48;have HB:=Aside0.mk (Below.refl w.heap.size w);have H:=h;(rw[sennitlaw23_awake.f] at H);clear h;obtain⟨y101,hy101⟩ : ∃ y_:List (S45),y_=(([(⟨0,1⟩:S45)]:List (S45))):=⟨_,rfl⟩;((try rw[Option.bind_some] at H);rw[← hy101] at H);have Ny101:=Aside0.mk hy101;clear hy101;obtain⟨y104,hy104⟩ : ∃ y_:List (S57),y_=(([(⟨(⟨#[45]⟩:ByteArray),(⟨#[98,10]⟩:ByteArray)⟩:S57),(⟨(⟨#[43]⟩:ByteArray),(⟨#[97,10]⟩:ByteArray)⟩:S57)]:List (S57))):=⟨_,rfl⟩;((try rw[Option.bind_some] at H);rw[← hy104] at H);have Ny104:=Aside0.mk hy104;clear hy104;obtain⟨y107,hy107⟩ : ∃ y_:List (S48),y_=(([(⟨y101,(⟨0,1⟩:S45),y104⟩:S48)]:List (S48))):=⟨_,rfl⟩;((try rw[Option.bind_some] at H);rw[← hy107] at H);have Ny107:=Aside0.mk hy107;clear hy107;obtain⟨y110,hy110⟩ : ∃ y_:List ByteArray,y_=(([(⟨#[98,10]⟩:ByteArray),(⟨#[99,10]⟩:ByteArray)]:List ByteArray)):=⟨_,rfl⟩;((try rw[Option.bind_some] at H);rw[← hy110] at H);have Ny110:=Aside0.mk hy110;clear hy110;replace H:=Option.bind_eq_some_iff.mp H;obtain⟨⟨t113,t114⟩,A10,H⟩:=H;(try dsimp only at H);have A1:=Aside0.mk A10;clear A10;obtain⟨y117,hy117⟩ : ∃ y_:List ByteArray,y_=(([(⟨#[97,10]⟩:ByteArray)]:List ByteArray)):=⟨_,rfl⟩;((try rw[Option.bind_some] at H);rw[← hy117] at H);have Ny117:=Aside0.mk hy117;clear hy117;replace H:=Option.bind_eq_some_iff.mp H;obtain⟨⟨t120,t121⟩,A20,H⟩:=H;(try dsimp only at H);have A2:=Aside0.mk A20;clear A20;obtain⟨y124,hy124⟩ : ∃ y_:List ByteArray,y_=(([(⟨#[99,10]⟩:ByteArray)]:List ByteArray)):=⟨_,rfl⟩;((try rw[Option.bind_some] at H);rw[← hy124] at H);have Ny124:=Aside0.mk hy124;clear hy124;replace H:=Option.bind_eq_some_iff.mp H;obtain⟨⟨t127,t128⟩,A30,H⟩:=H;(try dsimp only at H);have A3:=Aside0.mk A30;clear A30;replace H:=Option.bind_eq_some_iff.mp H;obtain⟨⟨t131,t132⟩,A40,H⟩:=H;(try dsimp only at H);have A4:=Aside0.mk A40;clear A40
 by_cases c5:t114=0
 ·
  (rw[if_pos c5] at H);have c5b0:(t114 == 0)=true:=beq_iff_eq.mpr c5;have c5b1:(t114 != 0)=false:=bne_eq_false_iff_eq.mpr c5;clear c5
  by_cases c6:t121=0
  ·
   (rw[if_pos c6] at H);have c6b0:(t121 == 0)=true:=beq_iff_eq.mpr c6;have c6b1:(t121 != 0)=false:=bne_eq_false_iff_eq.mpr c6;clear c6
   by_cases c7:(t113.length:Int)=2
   ·
    (rw[if_pos c7] at H);have c7b0:((t113.length:Int) == 2)=true:=beq_iff_eq.mpr c7;have c7b1:((t113.length:Int) != 2)=false:=bne_eq_false_iff_eq.mpr c7;clear c7
    by_cases c8:0 < (t113.length:Int)
    ·
     (rw[if_pos c8] at H);have c8b0:decide (0 < (t113.length:Int))=true:=decide_eq_true c8;have c8b1:decide (0 < t113.length)=true:=decide_eq_true (by omega);clear c8
     by_cases c9:(rdOf ByteArray.empty t113 0).toList=([97,10]:List UInt8)
     ·
      (rw[if_pos c9] at H);have c9b0:((rdOf ByteArray.empty t113 0).toList == ([97,10]:List UInt8))=true:=beq_iff_eq.mpr c9;have c9b1:((rdOf ByteArray.empty t113 0).toList != ([97,10]:List UInt8))=false:=bne_eq_false_iff_eq.mpr c9;clear c9
      by_cases c10:1 < (t113.length:Int)
      ·
       (rw[if_pos c10] at H);have c10b0:decide (1 < (t113.length:Int))=true:=decide_eq_true c10;have c10b1:decide (1 < t113.length)=true:=decide_eq_true (by omega);clear c10
       by_cases c11:(rdOf ByteArray.empty t113 1).toList=([99,10]:List UInt8)
       ·
        (rw[if_pos c11] at H);have c11b0:((rdOf ByteArray.empty t113 1).toList == ([99,10]:List UInt8))=true:=beq_iff_eq.mpr c11;have c11b1:((rdOf ByteArray.empty t113 1).toList != ([99,10]:List UInt8))=false:=bne_eq_false_iff_eq.mpr c11;clear c11
        by_cases c12:(t120.length:Int)=1
        ·
         (rw[if_pos c12] at H);have c12b0:((t120.length:Int) == 1)=true:=beq_iff_eq.mpr c12;have c12b1:((t120.length:Int) != 1)=false:=bne_eq_false_iff_eq.mpr c12;clear c12
         by_cases c13:0 < (t120.length:Int)
         ·
          (rw[if_pos c13] at H);have c13b0:decide (0 < (t120.length:Int))=true:=decide_eq_true c13;have c13b1:decide (0 < t120.length)=true:=decide_eq_true (by omega);clear c13
          by_cases c14:(rdOf ByteArray.empty t120 0).toList=([98,10]:List UInt8)
          ·
           (rw[if_pos c14] at H);have c14b0:((rdOf ByteArray.empty t120 0).toList == ([98,10]:List UInt8))=true:=beq_iff_eq.mpr c14;have c14b1:((rdOf ByteArray.empty t120 0).toList != ([98,10]:List UInt8))=false:=bne_eq_false_iff_eq.mpr c14;clear c14
           by_cases c15:t128=7
           (· (rw[if_pos c15] at H);have c15b0:(t128 == 7)=true:=beq_iff_eq.mpr c15;have c15b1:(t128 != 7)=false:=bne_eq_false_iff_eq.mpr c15;clear c15;obtain rfl:=Option.some.inj H;go_enter Tryd.func14,Tryd.ntmps14;(go_wp2_with (first|((with_reducible refine gate_dst (N:=11) rfl ?_);(try(refine gate_guard (by rfl) ?_;dsimp only));refine Kd.R_lit k45 _ 45 ?hg (N:=11) ?hd (xs:=([(⟨0,1⟩:S45)]:List (S45))) (inner:=[.int .i64 0, .int .i64 1]) (ok:=fun _=>True) (okp:=fun _=>True) ?hr ?hp (fun _ hk=>hk) trivial (Below.refl _ _) (Nat.le_refl _) (by simp) ?_;(case hd=>rfl);(case hg=>rfl);(case hr=>first|(go_simp;done)|(go_simp;rfl));(case hp=>exact(Reps.c2 (show Kd.M k45 _ _ _ (⟨0,1⟩:S45) [.int .i64 0, .int .i64 1] from (k45_mkM _ _ _ (⟨0,1⟩:S45) )) (Reps.none _ _)));intro v102 w16 ho17 hb hg_ hnew_;clear hg_ hnew_;(first|rw[← Ny101.out] at ho17|(simp only[Int.reduceToNat] at ho17;rw[← Ny101.out] at ho17));have HO103:=Aside0.mk (Kd.R_lower ho17 (below_size bel_));replace HB:=Aside0.mk (below_step bel_ hb);clear hb ho17)|((with_reducible refine gate_dst (N:=15) rfl ?_);(try(refine gate_guard (by rfl) ?_;dsimp only));refine Kd.R_lit k57 _ 57 ?hg (N:=15) ?hd (xs:=([(⟨(⟨#[45]⟩:ByteArray),(⟨#[98,10]⟩:ByteArray)⟩:S57),(⟨(⟨#[43]⟩:ByteArray),(⟨#[97,10]⟩:ByteArray)⟩:S57)]:List (S57))) (inner:=[.string (⟨#[45]⟩:ByteArray), .string (⟨#[98,10]⟩:ByteArray), .string (⟨#[43]⟩:ByteArray), .string (⟨#[97,10]⟩:ByteArray)]) (ok:=fun _=>True) (okp:=fun _=>True) ?hr ?hp (fun _ hk=>hk) trivial (Below.refl _ _) (Nat.le_refl _) (by simp) ?_;(case hd=>rfl);(case hg=>rfl);(case hr=>first|(go_simp;done)|(go_simp;rfl));(case hp=>exact(Reps.c2 (show Kd.M k57 _ _ _ (⟨(⟨#[45]⟩:ByteArray),(⟨#[98,10]⟩:ByteArray)⟩:S57) [.string (⟨#[45]⟩:ByteArray), .string (⟨#[98,10]⟩:ByteArray)] from (k57_mkM _ _ _ (⟨(⟨#[45]⟩:ByteArray),(⟨#[98,10]⟩:ByteArray)⟩:S57) )) (Reps.c2 (show Kd.M k57 _ _ _ (⟨(⟨#[43]⟩:ByteArray),(⟨#[97,10]⟩:ByteArray)⟩:S57) [.string (⟨#[43]⟩:ByteArray), .string (⟨#[97,10]⟩:ByteArray)] from (k57_mkM _ _ _ (⟨(⟨#[43]⟩:ByteArray),(⟨#[97,10]⟩:ByteArray)⟩:S57) )) (Reps.none _ _))));intro v105 w18 ho19 hb hg_ hnew_;clear hg_ hnew_;(first|rw[← Ny104.out] at ho19|(simp only[Int.reduceToNat] at ho19;rw[← Ny104.out] at ho19));replace HO103:=Aside0.mk (Kd.R_below (pR_ HO103.out) hb);have HO106:=Aside0.mk (Kd.R_lower ho19 (below_size bel_));replace HB:=Aside0.mk (below_step bel_ hb);clear hb ho19;obtain⟨Ao20,co20,eo20⟩:=Kd.R_slice HO106.out;subst eo20;obtain⟨Ao21,co21,eo21⟩:=Kd.R_slice HO103.out;subst eo21)|((with_reducible refine gate_dst (N:=17) rfl ?_);(try(refine gate_guard (by rfl) ?_;dsimp only));refine Kd.N_lit k48 _ 48 ?hg (N':=17) ?hd (xs:=([(⟨y101,(⟨0,1⟩:S45),y104⟩:S48)]:List (S48))) (inner:=[.slice Ao21 y101.length co21, .int .i64 0, .int .i64 1, .slice Ao20 y104.length co20]) (ok:=(fun _=>True)) (okp:=(fun _=>True)) ?hr ?hp (fun _ hk=>hk) ((show ∀ k_,w18.heap.size≤k_→(fun _=>True) k_ from fun k_ hk=>trivial) _ (Nat.le_refl _)) (Below.refl _ _) (Nat.le_refl _) (by simp) ?_;(case hd=>rfl);(case hg=>rfl);(case hr=>first|(go_simp;done)|(go_simp;rfl));(case hp=>first|exact(Reps.c4 (show Kd.FK k48 _ _ (⟨y101,(⟨0,1⟩:S45),y104⟩:S48) [.slice Ao21 y101.length co21, .int .i64 0, .int .i64 1, .slice Ao20 y104.length co20] from (k48_mkF _ _ (⟨y101,(⟨0,1⟩:S45),y104⟩:S48) (Kd.R_reads' (Kd.R_mono (ok':=(fun _=>True)) (HO103.out) (fun k_ hk=>trivial))).2.1 (Kd.R_F (Kd.R_mono (ok':=(fun _=>True)) (HO103.out) (fun k_ hk=>trivial))) (Kd.R_reads' (Kd.R_mono (ok':=(fun _=>True)) (HO106.out) (fun k_ hk=>trivial))).2.1 (Kd.R_F (Kd.R_mono (ok':=(fun _=>True)) (HO106.out) (fun k_ hk=>trivial))))) (Reps.none _ _))|exact(Reps.c4 (show Kd.FK k48 _ _ (⟨y101,(⟨0,1⟩:S45),y104⟩:S48) [.slice Ao21 y101.length co21, .int .i64 0, .int .i64 1, .slice Ao20 y104.length co20] from (k48_mkF _ _ (⟨y101,(⟨0,1⟩:S45),y104⟩:S48) (Kd.R_reads' (Kd.R_mono (ok':=(fun _=>True)) (HO103.out) (fun k_ hk=>trivial))).2.1 (Kd.R_F (Kd.R_mono (ok':=(fun _=>True)) (Kd.R_drewN HO103.out _) (fun k_ hk=>trivial))) (Kd.R_reads' (Kd.R_mono (ok':=(fun _=>True)) (HO106.out) (fun k_ hk=>trivial))).2.1 (Kd.R_F (Kd.R_mono (ok':=(fun _=>True)) (Kd.R_drewN HO106.out _) (fun k_ hk=>trivial))))) (Reps.none _ _)));intro v108 w22 ho23 hb hg_ hnew_;clear hg_ hnew_;(first|rw[← Ny107.out] at ho23|(simp only[Int.reduceToNat] at ho23;rw[← Ny107.out] at ho23));have HO109:=Aside0.mk (Kd.N_lower ho23 (below_size bel_));replace HB:=Aside0.mk (below_step bel_ hb);clear HO103;clear HO106;clear hb ho23)|((with_reducible refine gate_dst (N:=20) rfl ?_);(try(refine gate_guard (by rfl) ?_;dsimp only));refine Kd.R_lit Kd.string _ 9 ?hg (N:=20) ?hd (xs:=([(⟨#[98,10]⟩:ByteArray),(⟨#[99,10]⟩:ByteArray)]:List ByteArray)) (inner:=[.string (⟨#[98,10]⟩:ByteArray), .string (⟨#[99,10]⟩:ByteArray)]) (ok:=fun _=>True) (okp:=fun _=>True) ?hr ?hp (fun _ hk=>hk) trivial (Below.refl _ _) (Nat.le_refl _) (by simp) ?_;(case hd=>rfl);(case hg=>rfl);(case hr=>first|(go_simp;done)|(go_simp;rfl));(case hp=>exact(Reps.one (show Kd.M Kd.string _ _ _ (⟨#[98,10]⟩:ByteArray) [.string (⟨#[98,10]⟩:ByteArray)] from rfl) (Reps.one (show Kd.M Kd.string _ _ _ (⟨#[99,10]⟩:ByteArray) [.string (⟨#[99,10]⟩:ByteArray)] from rfl) (Reps.none _ _))));intro v111 w24 ho25 hb hg_ hnew_;clear hg_ hnew_;(first|rw[← Ny110.out] at ho25|(simp only[Int.reduceToNat] at ho25;rw[← Ny110.out] at ho25));replace HO109:=Aside0.mk (Kd.N_elder' (pN_ HO109.out) (Kd.R_base ho25) hb);have HO112:=Aside0.mk (Kd.R_lower ho25 (below_size bel_));replace HB:=Aside0.mk (below_step bel_ hb);clear hb ho25;obtain⟨Ao26,co26,eo26⟩:=Kd.N_slice HO109.out;subst eo26;obtain⟨Ao27,co27,eo27⟩:=Kd.R_slice HO112.out;subst eo27)|((with_reducible refine gate_callee (f:=17) rfl ?_);refine goesL_ (some 21) rfl rfl Tryd.func17 (by kernel_rfl) rfl #[.slice Ao26 y107.length co26, .int .i64 0, .slice Ao27 y110.length co27] rfl am_ ?_;(with_reducible refine(apply_Forward.calls _ _ y107 0 _ _ y110 t113 t114 _ ?side1 ?side2 ?side3 ?side4 A1.out).mono ?_);(case side1=>repeat(first|exact(Kd.N_reads' HO109.out).2.2|(with_reducible refine Kd.C_alloc ?_ _)|(with_reducible refine Kd.C_drewN ?_ _)|(with_reducible refine Kd.C_drew ?_)));(case side2=>exact(Kd.N_reads' HO109.out).2.1);(case side3=>repeat(first|exact(Kd.R_reads' HO112.out).2.2|(with_reducible refine Kd.C_alloc ?_ _)|(with_reducible refine Kd.C_drewN ?_ _)|(with_reducible refine Kd.C_drew ?_)));(case side4=>exact(Kd.R_reads' HO112.out).2.1);rintro e w28 ⟨v115,rfl,ho0,hb⟩;refine⟨_,rfl,?_⟩;replace HO109:=Aside0.mk (Kd.N_elder' (pN_ HO109.out) (Kd.R_base ho0) hb);have HO116:=Aside0.mk (Kd.R_lower (Kd.R_new' ho0 (Kd.R_lt (pR_ HO112.out))) (below_size bel_));replace HO112:=Aside0.mk (Kd.R_elder' (pR_ HO112.out) (Kd.R_base ho0) hb);replace HB:=Aside0.mk (below_step bel_ hb);(try clear hb);(try clear hb2);(try clear hk);(try clear hi);(try clear ho0))|((with_reducible refine gate_dst (N:=26) rfl ?_);(try(refine gate_guard (by rfl) ?_;dsimp only));refine Kd.R_lit Kd.string _ 9 ?hg (N:=26) ?hd (xs:=([(⟨#[97,10]⟩:ByteArray)]:List ByteArray)) (inner:=[.string (⟨#[97,10]⟩:ByteArray)]) (ok:=fun _=>True) (okp:=fun _=>True) ?hr ?hp (fun _ hk=>hk) trivial (Below.refl _ _) (Nat.le_refl _) (by simp) ?_;(case hd=>rfl);(case hg=>rfl);(case hr=>first|(go_simp;done)|(go_simp;rfl));(case hp=>exact(Reps.one (show Kd.M Kd.string _ _ _ (⟨#[97,10]⟩:ByteArray) [.string (⟨#[97,10]⟩:ByteArray)] from rfl) (Reps.none _ _)));intro v118 w29 ho30 hb hg_ hnew_;clear hg_ hnew_;(first|rw[← Ny117.out] at ho30|(simp only[Int.reduceToNat] at ho30;rw[← Ny117.out] at ho30));replace HO109:=Aside0.mk (Kd.N_elder' (pN_ HO109.out) (Kd.R_base ho30) hb);have HO119:=Aside0.mk (Kd.R_lower (Kd.R_new' (Kd.R_new' ho30 (Kd.R_lt (pR_ HO112.out))) (Kd.R_lt (pR_ HO116.out))) (below_size bel_));replace HO112:=Aside0.mk (Kd.R_elder' (pR_ HO112.out) (Kd.R_base ho30) hb);replace HO116:=Aside0.mk (Kd.R_elder' (pR_ HO116.out) (Kd.R_base ho30) hb);replace HB:=Aside0.mk (below_step bel_ hb);clear hb ho30;obtain⟨Ao31,co31,eo31⟩:=Kd.R_slice HO119.out;subst eo31)|((with_reducible refine gate_callee (f:=19) rfl ?_);refine goesL_ (some 27) rfl rfl Tryd.func19 (by kernel_rfl) rfl #[.slice Ao26 y107.length co26, .int .i64 0, .slice Ao31 y117.length co31] rfl am_ ?_;(with_reducible refine(apply_Back.calls _ _ y107 0 _ _ y117 t120 t121 _ ?side1 ?side2 ?side3 ?side4 A2.out).mono ?_);(case side1=>repeat(first|exact(Kd.N_reads' HO109.out).2.2|(with_reducible refine Kd.C_alloc ?_ _)|(with_reducible refine Kd.C_drewN ?_ _)|(with_reducible refine Kd.C_drew ?_)));(case side2=>exact(Kd.N_reads' HO109.out).2.1);(case side3=>repeat(first|exact(Kd.R_reads' HO119.out).2.2|(with_reducible refine Kd.C_alloc ?_ _)|(with_reducible refine Kd.C_drewN ?_ _)|(with_reducible refine Kd.C_drew ?_)));(case side4=>exact(Kd.R_reads' HO119.out).2.1);rintro e w32 ⟨v122,rfl,ho0,hb⟩;refine⟨_,rfl,?_⟩;replace HO109:=Aside0.mk (Kd.N_elder' (pN_ HO109.out) (Kd.R_base ho0) hb);have HO123:=Aside0.mk (Kd.R_lower (Kd.R_new' (Kd.R_new' (Kd.R_new' ho0 (Kd.R_lt (pR_ HO112.out))) (Kd.R_lt (pR_ HO116.out))) (Kd.R_lt (pR_ HO119.out))) (below_size bel_));replace HO112:=Aside0.mk (Kd.R_elder' (pR_ HO112.out) (Kd.R_base ho0) hb);replace HO116:=Aside0.mk (Kd.R_elder' (pR_ HO116.out) (Kd.R_base ho0) hb);replace HO119:=Aside0.mk (Kd.R_elder' (pR_ HO119.out) (Kd.R_base ho0) hb);replace HB:=Aside0.mk (below_step bel_ hb);(try clear hb);(try clear hb2);(try clear hk);(try clear hi);(try clear ho0))|((with_reducible refine gate_dst (N:=32) rfl ?_);(try(refine gate_guard (by rfl) ?_;dsimp only));refine Kd.R_lit Kd.string _ 9 ?hg (N:=32) ?hd (xs:=([(⟨#[99,10]⟩:ByteArray)]:List ByteArray)) (inner:=[.string (⟨#[99,10]⟩:ByteArray)]) (ok:=fun _=>True) (okp:=fun _=>True) ?hr ?hp (fun _ hk=>hk) trivial (Below.refl _ _) (Nat.le_refl _) (by simp) ?_;(case hd=>rfl);(case hg=>rfl);(case hr=>first|(go_simp;done)|(go_simp;rfl));(case hp=>exact(Reps.one (show Kd.M Kd.string _ _ _ (⟨#[99,10]⟩:ByteArray) [.string (⟨#[99,10]⟩:ByteArray)] from rfl) (Reps.none _ _)));intro v125 w33 ho34 hb hg_ hnew_;clear hg_ hnew_;(first|rw[← Ny124.out] at ho34|(simp only[Int.reduceToNat] at ho34;rw[← Ny124.out] at ho34));replace HO109:=Aside0.mk (Kd.N_elder' (pN_ HO109.out) (Kd.R_base ho34) hb);have HO126:=Aside0.mk (Kd.R_lower (Kd.R_new' (Kd.R_new' (Kd.R_new' (Kd.R_new' ho34 (Kd.R_lt (pR_ HO112.out))) (Kd.R_lt (pR_ HO116.out))) (Kd.R_lt (pR_ HO119.out))) (Kd.R_lt (pR_ HO123.out))) (below_size bel_));replace HO112:=Aside0.mk (Kd.R_elder' (pR_ HO112.out) (Kd.R_base ho34) hb);replace HO116:=Aside0.mk (Kd.R_elder' (pR_ HO116.out) (Kd.R_base ho34) hb);replace HO119:=Aside0.mk (Kd.R_elder' (pR_ HO119.out) (Kd.R_base ho34) hb);replace HO123:=Aside0.mk (Kd.R_elder' (pR_ HO123.out) (Kd.R_base ho34) hb);replace HB:=Aside0.mk (below_step bel_ hb);clear hb ho34;obtain⟨Ao35,co35,eo35⟩:=Kd.R_slice HO126.out;subst eo35)|((with_reducible refine gate_callee (f:=17) rfl ?_);refine goesL_ (some 33) rfl rfl Tryd.func17 (by kernel_rfl) rfl #[.slice Ao26 y107.length co26, .int .i64 0, .slice Ao35 y124.length co35] rfl am_ ?_;(with_reducible refine(apply_Forward.calls _ _ y107 0 _ _ y124 t127 t128 _ ?side1 ?side2 ?side3 ?side4 A3.out).mono ?_);(case side1=>repeat(first|exact(Kd.N_reads' HO109.out).2.2|(with_reducible refine Kd.C_alloc ?_ _)|(with_reducible refine Kd.C_drewN ?_ _)|(with_reducible refine Kd.C_drew ?_)));(case side2=>exact(Kd.N_reads' HO109.out).2.1);(case side3=>repeat(first|exact(Kd.R_reads' HO126.out).2.2|(with_reducible refine Kd.C_alloc ?_ _)|(with_reducible refine Kd.C_drewN ?_ _)|(with_reducible refine Kd.C_drew ?_)));(case side4=>exact(Kd.R_reads' HO126.out).2.1);rintro e w36 ⟨v129,rfl,ho0,hb⟩;refine⟨_,rfl,?_⟩;replace HO109:=Aside0.mk (Kd.N_elder' (pN_ HO109.out) (Kd.R_base ho0) hb);have HO130:=Aside0.mk (Kd.R_lower (Kd.R_new' (Kd.R_new' (Kd.R_new' (Kd.R_new' (Kd.R_new' ho0 (Kd.R_lt (pR_ HO112.out))) (Kd.R_lt (pR_ HO116.out))) (Kd.R_lt (pR_ HO119.out))) (Kd.R_lt (pR_ HO123.out))) (Kd.R_lt (pR_ HO126.out))) (below_size bel_));replace HO112:=Aside0.mk (Kd.R_elder' (pR_ HO112.out) (Kd.R_base ho0) hb);replace HO116:=Aside0.mk (Kd.R_elder' (pR_ HO116.out) (Kd.R_base ho0) hb);replace HO119:=Aside0.mk (Kd.R_elder' (pR_ HO119.out) (Kd.R_base ho0) hb);replace HO123:=Aside0.mk (Kd.R_elder' (pR_ HO123.out) (Kd.R_base ho0) hb);replace HO126:=Aside0.mk (Kd.R_elder' (pR_ HO126.out) (Kd.R_base ho0) hb);replace HB:=Aside0.mk (below_step bel_ hb);(try clear hb);(try clear hb2);(try clear hk);(try clear hi);(try clear ho0))|((with_reducible refine gate_callee (f:=17) rfl ?_);refine goesL_ (some 38) rfl rfl Tryd.func17 (by kernel_rfl) rfl #[.slice Ao26 y107.length co26, .int .i64 1, .slice none 0 0] rfl am_ ?_;(refine(apply_Forward.calls _ _ y107 1 _ _ ([]:List ByteArray) t131 t132 _ ?side1 ?side2 ?side3 ?side4 A4.out).mono ?_);(case side1=>repeat(first|exact(Kd.N_reads' HO109.out).2.2|(with_reducible refine Kd.C_alloc ?_ _)|(with_reducible refine Kd.C_drewN ?_ _)|(with_reducible refine Kd.C_drew ?_)));(case side2=>exact(Kd.N_reads' HO109.out).2.1);(case side3=>exact Kd.C_nil _ _);(case side4=>exact Nat.le_refl _);rintro e w37 ⟨v133,rfl,ho0,hb⟩;refine⟨_,rfl,?_⟩;replace HO109:=Aside0.mk (Kd.N_elder' (pN_ HO109.out) (Kd.R_base ho0) hb);have HO134:=Aside0.mk (Kd.R_lower (Kd.R_new' (Kd.R_new' (Kd.R_new' (Kd.R_new' (Kd.R_new' (Kd.R_new' ho0 (Kd.R_lt (pR_ HO112.out))) (Kd.R_lt (pR_ HO116.out))) (Kd.R_lt (pR_ HO119.out))) (Kd.R_lt (pR_ HO123.out))) (Kd.R_lt (pR_ HO126.out))) (Kd.R_lt (pR_ HO130.out))) (below_size bel_));replace HO112:=Aside0.mk (Kd.R_elder' (pR_ HO112.out) (Kd.R_base ho0) hb);replace HO116:=Aside0.mk (Kd.R_elder' (pR_ HO116.out) (Kd.R_base ho0) hb);replace HO119:=Aside0.mk (Kd.R_elder' (pR_ HO119.out) (Kd.R_base ho0) hb);replace HO123:=Aside0.mk (Kd.R_elder' (pR_ HO123.out) (Kd.R_base ho0) hb);replace HO126:=Aside0.mk (Kd.R_elder' (pR_ HO126.out) (Kd.R_base ho0) hb);replace HO130:=Aside0.mk (Kd.R_elder' (pR_ HO130.out) (Kd.R_base ho0) hb);replace HB:=Aside0.mk (below_step bel_ hb);(try clear hb);(try clear hb2);(try clear hk);(try clear hi);(try clear ho0);obtain⟨Ao38,co38,eo38⟩:=Kd.R_slice HO116.out;subst eo38;have p135:0≤(0:Int):=(by omega);have q135:0 < (t113.length:Int):=dt_;obtain⟨ad135,e135,hx135_0⟩:=Kd.at_string (Kd.R_reads' HO116.out).2.2 0 p135 q135;cases e135;have qi135:(0 < t113.length)=True:=eq_true (by omega);(try rw[show ((0:Int)).toNat=0 from rfl] at hx135_0);(try rw[Addr.add_zero'] at hx135_0);replace p135:=eq_true p135;replace q135:=eq_true q135;have p136:0≤(1:Int):=(by omega);have q136:1 < (t113.length:Int):=dt_;obtain⟨ad136,e136,hx136_0⟩:=Kd.at_string (Kd.R_reads' HO116.out).2.2 1 p136 q136;obtain rfl:ad135=ad136:=(by injection e136);(try simp only[show (1:Int).toNat=1 from rfl,Nat.reduceMul,Nat.reduceEqDiff,Go.Addr.add, ↓reduceIte] at hx136_0);have qi136:(1 < t113.length)=True:=eq_true (by omega);(try rw[show ((1:Int)).toNat=1 from rfl] at hx136_0);replace p136:=eq_true p136;replace q136:=eq_true q136;obtain⟨Ao39,co39,eo39⟩:=Kd.R_slice HO123.out;subst eo39;have p137:0≤(0:Int):=(by omega);have q137:0 < (t120.length:Int):=dt_;obtain⟨ad137,e137,hx137_0⟩:=Kd.at_string (Kd.R_reads' HO123.out).2.2 0 p137 q137;cases e137;have qi137:(0 < t120.length)=True:=eq_true (by omega);(try rw[show ((0:Int)).toNat=0 from rfl] at hx137_0);(try rw[Addr.add_zero'] at hx137_0);replace p137:=eq_true p137;replace q137:=eq_true q137)));go_ret;exact⟨by first|rfl|(simp[errW_none,errW_some] <;> rfl)|(simp[*,errW_none,errW_some] <;> rfl),bel_⟩)
           (· (rw[if_neg c15] at H);have c15b0:(t128 == 7)=false:=beq_eq_false_iff_ne.mpr c15;have c15b1:(t128 != 7)=true:=bne_iff_ne.mpr c15;exact absurd (Option.some.inj H) (by rw[hrt_];decide))
          (· (rw[if_neg c14] at H);have c14b0:((rdOf ByteArray.empty t120 0).toList == ([98,10]:List UInt8))=false:=beq_eq_false_iff_ne.mpr c14;have c14b1:((rdOf ByteArray.empty t120 0).toList != ([98,10]:List UInt8))=true:=bne_iff_ne.mpr c14;exact absurd (Option.some.inj H) (by rw[hrt_];decide))
         (· exact nx_ c13 H)
        (· (rw[if_neg c12] at H);have c12b0:((t120.length:Int) == 1)=false:=beq_eq_false_iff_ne.mpr c12;have c12b1:((t120.length:Int) != 1)=true:=bne_iff_ne.mpr c12;exact absurd (Option.some.inj H) (by rw[hrt_];decide))
       (· (rw[if_neg c11] at H);have c11b0:((rdOf ByteArray.empty t113 1).toList == ([99,10]:List UInt8))=false:=beq_eq_false_iff_ne.mpr c11;have c11b1:((rdOf ByteArray.empty t113 1).toList != ([99,10]:List UInt8))=true:=bne_iff_ne.mpr c11;exact absurd (Option.some.inj H) (by rw[hrt_];decide))
      (· exact nx_ c10 H)
     (· (rw[if_neg c9] at H);have c9b0:((rdOf ByteArray.empty t113 0).toList == ([97,10]:List UInt8))=false:=beq_eq_false_iff_ne.mpr c9;have c9b1:((rdOf ByteArray.empty t113 0).toList != ([97,10]:List UInt8))=true:=bne_iff_ne.mpr c9;exact absurd (Option.some.inj H) (by rw[hrt_];decide))
    (· exact nx_ c8 H)
   (· (rw[if_neg c7] at H);have c7b0:((t113.length:Int) == 2)=false:=beq_eq_false_iff_ne.mpr c7;have c7b1:((t113.length:Int) != 2)=true:=bne_iff_ne.mpr c7;exact absurd (Option.some.inj H) (by rw[hrt_];decide))
  (· (rw[if_neg c6] at H);have c6b0:(t121 == 0)=false:=beq_eq_false_iff_ne.mpr c6;have c6b1:(t121 != 0)=true:=bne_iff_ne.mpr c6;exact absurd (Option.some.inj H) (by rw[hrt_];decide))
 (· (rw[if_neg c5] at H);have c5b0:(t114 == 0)=false:=beq_eq_false_iff_ne.mpr c5;have c5b1:(t114 != 0)=true:=bne_iff_ne.mpr c5;exact absurd (Option.some.inj H) (by rw[hrt_];decide))
def sennitlaw23_ApplyTells.j0:Nat→List (S48)→Int→List ByteArray→Bool→Bool→Option (Bool)
  | 0,_,_,_,_,_=>none
  | k+1,x0,x1,x2,x7,x24=>if x24=true then (some x7) else ((apply_Forward.f x0 x1 x2).bind fun bt104=>((sennitref23_Forward.f k x0 x1 x2).bind fun bt108=>((apply_Back.f x0 x1 x2).bind fun bt112=>((sennitref23_Back.f k x0 x1 x2).bind fun bt116=>(if x7=true then (if bt104.2=bt108.2 then ((sennitref01_Same.f k bt104.1 bt108.1).bind fun t120=>(if t120=true then (if bt112.2=bt116.2 then ((sennitref01_Same.f k bt112.1 bt116.1).bind fun t121=>(some t121)) else (some false)) else (some false))) else (some false)) else (some false))))))
def sennitlaw23_ApplyTells.f (k:Nat) (l0:List (S48)) (a1:Int) (l2:List ByteArray):Option (Bool):=(sennitlaw23_awake.f).bind fun t101=>((sennitref22_Few.f k l0).bind fun t102=>(if t102=true then ((sennitref01_Few.f k l2 20).bind fun t103=>(sennitlaw23_ApplyTells.j0 k l0 a1 l2 t101 (!t103))) else (sennitlaw23_ApplyTells.j0 k l0 a1 l2 t101 true)))
theorem sennitlaw23_ApplyTells.calls (k:Nat) (A0:Option Addr) (c0:Nat) (l0:List (S48)) (a1:Int) (A2:Option Addr) (c2:Nat) (l2:List ByteArray) (r:Bool) (w:World) (hr0:Kd.C k48 w A0 l0.length l0) (hc0:l0.length≤c0) (hr2:Kd.C Kd.string w A2 l2.length l2) (hc2:l2.length≤c2) (h:sennitlaw23_ApplyTells.f k l0 a1 l2=some r) :
    Calls Tryd.prog 3 #[.slice A0 l0.length c0, .int .i64 a1, .slice A2 l2.length c2] w fun e w'=>e = .returned (.bool r)∧Below w.heap.size w w':=by
 have HR0:=Aside0.mk hr0;have HC0:=Aside0.mk hc0;clear hr0 hc0;have HR2:=Aside0.mk hr2;have HC2:=Aside0.mk hc2;clear hr2 hc2;have HB:=Aside0.mk (Below.refl w.heap.size w);have H:=h;(rw[sennitlaw23_ApplyTells.f] at H);clear h;replace H:=Option.bind_eq_some_iff.mp H;obtain⟨t101,A40,H⟩:=H;(try dsimp only at H);have A4:=Aside0.mk A40;clear A40;have HC5:=Aside0.mk H;clear H;go_enter Tryd.func3,Tryd.ntmps3
 go_upto_region 2 with (first|((with_reducible refine gate_callee (f:=14) rfl ?_);refine goesL_ (some 16) rfl rfl Tryd.func14 (by kernel_rfl) rfl #[] rfl am_ ?_;(with_reducible refine(sennitlaw23_awake.calls  t101 _ A4.out).mono ?_);rintro e w6 ⟨rfl,hb⟩;refine⟨_,rfl,?_⟩;replace HB:=Aside0.mk (below_step bel_ hb);(try clear hb);(try clear hb2);(try clear hk);(try clear hi)))
 (try simp only[Act.put,List.setIfInBounds_toArray,List.set_cons_zero,List.set_cons_succ])
 go_cut [24] (fun v24 wc => ∃ (kq:Nat) (x24_4:Bool),v24 = .bool x24_4∧Aside0 (sennitlaw23_ApplyTells.j0 kq l0 a1 l2 t101 x24_4=some r)∧Aside0 (kq≤k)∧Aside0 (Below w.heap.size w wc))
 case first =>
  have H:=HC5.out;clear HC5;replace H:=Option.bind_eq_some_iff.mp H;obtain⟨t102,A70,H⟩:=H;(try dsimp only at H);have A7:=Aside0.mk A70;clear A70
  by_cases c8:t102=true
  ·
   subst c8;have H1:=H;(rw[if_pos rfl] at H1);clear H;have H:=H1;clear H1;replace H:=Option.bind_eq_some_iff.mp H;obtain⟨t103,A90,H⟩:=H;(try dsimp only at H);have A9:=Aside0.mk A90;clear A90;have H':=Aside0.mk H;clear H;(go_wp2_with (first|((with_reducible refine gate_callee (f:=15) rfl ?_);refine goesL_ (some 18) rfl rfl Tryd.func15 (by kernel_rfl) rfl #[.slice A0 l0.length c0] rfl am_ ?_;(with_reducible refine(sennitref22_Few.calls k _ _ l0 true _ ?side1 ?side2 A7.out).mono ?_);(case side1=>repeat(first|exact(Kd.C_below HR0.out HB.out)|(with_reducible refine Kd.C_alloc ?_ _)|(with_reducible refine Kd.C_drewN ?_ _)|(with_reducible refine Kd.C_drew ?_)));(case side2=>exact HC0.out);rintro e w' ⟨rfl,⟨nd,rfl⟩⟩;refine⟨_,rfl,?_⟩)|(go_at_call 16;(with_reducible refine(sennitref01_Few.calls k _ _ l2 20 t103 _ ?side1 ?side2 A9.out).mono ?_);(case side1=>repeat(first|exact(Kd.C_below HR2.out bel_)|(with_reducible refine Kd.C_alloc ?_ _)|(with_reducible refine Kd.C_drewN ?_ _)|(with_reducible refine Kd.C_drew ?_)));(case side2=>exact HC2.out);rintro e w' ⟨rfl,⟨nd,rfl⟩⟩)))
   go_meet
   (case rel=>exact⟨_,(!t103),rs_,H',⟨by first|omega|exact Nat.le_refl _⟩,⟨bel_⟩⟩)
  ·
   replace c8:=Bool.eq_false_iff.mpr c8;subst c8;have H1:=H;(rw[if_neg (show ¬ (false=true) by decide)] at H1);clear H;have H:=H1;clear H1;have H':=Aside0.mk H;clear H;(go_wp2_with (first|((with_reducible refine gate_callee (f:=15) rfl ?_);refine goesL_ (some 18) rfl rfl Tryd.func15 (by kernel_rfl) rfl #[.slice A0 l0.length c0] rfl am_ ?_;(with_reducible refine(sennitref22_Few.calls k _ _ l0 false _ ?side1 ?side2 A7.out).mono ?_);(case side1=>repeat(first|exact(Kd.C_below HR0.out HB.out)|(with_reducible refine Kd.C_alloc ?_ _)|(with_reducible refine Kd.C_drewN ?_ _)|(with_reducible refine Kd.C_drew ?_)));(case side2=>exact HC0.out);rintro e w' ⟨rfl,⟨nd,rfl⟩⟩;refine⟨_,rfl,?_⟩)))
   go_meet
   (case rel=>exact⟨_,(true),rs_,H',⟨by first|omega|exact Nat.le_refl _⟩,⟨bel_⟩⟩)
 case rest =>
  clear HC5;(try clear c1);(try clear c2);(try clear p2);(try clear c3);(try clear c8);obtain⟨kq,x24_4,rfl,HA,HJ4,HB⟩:=hcut
  cases kq with
  | zero=>exact absurd HA.out (by simp[sennitlaw23_ApplyTells.j0])
  | succ kj4 =>
   have H:=HA.out;clear HA;(simp only[sennitlaw23_ApplyTells.j0] at H)
   by_cases c10:x24_4=true
   (· subst c10;have H1:=H;(rw[if_pos rfl] at H1);clear H;have H:=H1;clear H1;obtain rfl:=Option.some.inj H;go_wp2;go_ret;exact⟨by first|rfl|(simp[errW_none,errW_some] <;> rfl)|(simp[*,errW_none,errW_some] <;> rfl),bel_⟩)
   ·
    replace c10:=Bool.eq_false_iff.mpr c10;subst c10;have H1:=H;(rw[if_neg (show ¬ (false=true) by decide)] at H1);clear H;have H:=H1;clear H1;replace H:=Option.bind_eq_some_iff.mp H;obtain⟨⟨t104,t105⟩,A110,H⟩:=H;(try dsimp only at H);have A11:=Aside0.mk A110;clear A110;replace H:=Option.bind_eq_some_iff.mp H;obtain⟨⟨t108,t109⟩,A120,H⟩:=H;(try dsimp only at H);have A12:=Aside0.mk A120;clear A120;replace H:=Option.bind_eq_some_iff.mp H;obtain⟨⟨t112,t113⟩,A130,H⟩:=H;(try dsimp only at H);have A13:=Aside0.mk A130;clear A130;replace H:=Option.bind_eq_some_iff.mp H;obtain⟨⟨t116,t117⟩,A140,H⟩:=H;(try dsimp only at H);have A14:=Aside0.mk A140;clear A140
    by_cases c15:t101=true
    ·
     subst c15;have H1:=H;(rw[if_pos rfl] at H1);clear H;have H:=H1;clear H1
     by_cases c16:t105=t109
     ·
      (rw[if_pos c16] at H);have c16b0:(t105 == t109)=true:=beq_iff_eq.mpr c16;have c16b1:(t105 != t109)=false:=bne_eq_false_iff_eq.mpr c16;clear c16;replace H:=Option.bind_eq_some_iff.mp H;obtain⟨t120,A170,H⟩:=H;(try dsimp only at H);have A17:=Aside0.mk A170;clear A170
      by_cases c18:t120=true
      ·
       subst c18;have H1:=H;(rw[if_pos rfl] at H1);clear H;have H:=H1;clear H1
       by_cases c19:t113=t117
       (· (rw[if_pos c19] at H);have c19b0:(t113 == t117)=true:=beq_iff_eq.mpr c19;have c19b1:(t113 != t117)=false:=bne_eq_false_iff_eq.mpr c19;clear c19;replace H:=Option.bind_eq_some_iff.mp H;obtain⟨t121,A200,H⟩:=H;(try dsimp only at H);have A20:=Aside0.mk A200;clear A200;obtain rfl:=Option.some.inj H;(go_wp2_with (first|((with_reducible refine gate_callee (f:=17) rfl ?_);refine goesL_ (some 30) rfl rfl Tryd.func17 (by kernel_rfl) rfl #[.slice A0 l0.length c0, .int .i64 a1, .slice A2 l2.length c2] rfl am_ ?_;(with_reducible refine(apply_Forward.calls _ _ l0 a1 _ _ l2 t104 t105 _ ?side1 ?side2 ?side3 ?side4 A11.out).mono ?_);(case side1=>repeat(first|exact(Kd.C_below HR0.out HB.out)|(with_reducible refine Kd.C_alloc ?_ _)|(with_reducible refine Kd.C_drewN ?_ _)|(with_reducible refine Kd.C_drew ?_)));(case side2=>exact HC0.out);(case side3=>repeat(first|exact(Kd.C_below HR2.out HB.out)|(with_reducible refine Kd.C_alloc ?_ _)|(with_reducible refine Kd.C_drewN ?_ _)|(with_reducible refine Kd.C_drew ?_)));(case side4=>exact HC2.out);rintro e w21 ⟨v106,rfl,ho0,hb⟩;refine⟨_,rfl,?_⟩;have HO107:=Aside0.mk (Kd.R_lower ho0 (below_size bel_));replace HB:=Aside0.mk (below_step bel_ hb);(try clear hb);(try clear hb2);(try clear hk);(try clear hi);(try clear ho0))|((with_reducible refine gate_callee (f:=18) rfl ?_);refine goesL_ (some 37) rfl rfl Tryd.func18 (by kernel_rfl) rfl #[.slice A0 l0.length c0, .int .i64 a1, .slice A2 l2.length c2] rfl am_ ?_;(with_reducible refine(sennitref23_Forward.calls kj4 _ _ l0 a1 _ _ l2 t108 t109 _ ?side1 ?side2 ?side3 ?side4 A12.out).mono ?_);(case side1=>repeat(first|exact(Kd.C_below HR0.out HB.out)|(with_reducible refine Kd.C_alloc ?_ _)|(with_reducible refine Kd.C_drewN ?_ _)|(with_reducible refine Kd.C_drew ?_)));(case side2=>exact HC0.out);(case side3=>repeat(first|exact(Kd.C_below HR2.out HB.out)|(with_reducible refine Kd.C_alloc ?_ _)|(with_reducible refine Kd.C_drewN ?_ _)|(with_reducible refine Kd.C_drew ?_)));(case side4=>exact HC2.out);rintro e w22 ⟨v110,rfl,ho0,hb⟩;refine⟨_,rfl,?_⟩;have HO111:=Aside0.mk (Kd.R_lower (Kd.R_new' ho0 (Kd.R_lt (pR_ HO107.out))) (below_size bel_));replace HO107:=Aside0.mk (Kd.R_elder' (pR_ HO107.out) (Kd.R_base ho0) hb);replace HB:=Aside0.mk (below_step bel_ hb);(try clear hb);(try clear hb2);(try clear hk);(try clear hi);(try clear ho0))|((with_reducible refine gate_callee (f:=19) rfl ?_);refine goesL_ (some 44) rfl rfl Tryd.func19 (by kernel_rfl) rfl #[.slice A0 l0.length c0, .int .i64 a1, .slice A2 l2.length c2] rfl am_ ?_;(with_reducible refine(apply_Back.calls _ _ l0 a1 _ _ l2 t112 t113 _ ?side1 ?side2 ?side3 ?side4 A13.out).mono ?_);(case side1=>repeat(first|exact(Kd.C_below HR0.out HB.out)|(with_reducible refine Kd.C_alloc ?_ _)|(with_reducible refine Kd.C_drewN ?_ _)|(with_reducible refine Kd.C_drew ?_)));(case side2=>exact HC0.out);(case side3=>repeat(first|exact(Kd.C_below HR2.out HB.out)|(with_reducible refine Kd.C_alloc ?_ _)|(with_reducible refine Kd.C_drewN ?_ _)|(with_reducible refine Kd.C_drew ?_)));(case side4=>exact HC2.out);rintro e w23 ⟨v114,rfl,ho0,hb⟩;refine⟨_,rfl,?_⟩;have HO115:=Aside0.mk (Kd.R_lower (Kd.R_new' (Kd.R_new' ho0 (Kd.R_lt (pR_ HO107.out))) (Kd.R_lt (pR_ HO111.out))) (below_size bel_));replace HO107:=Aside0.mk (Kd.R_elder' (pR_ HO107.out) (Kd.R_base ho0) hb);replace HO111:=Aside0.mk (Kd.R_elder' (pR_ HO111.out) (Kd.R_base ho0) hb);replace HB:=Aside0.mk (below_step bel_ hb);(try clear hb);(try clear hb2);(try clear hk);(try clear hi);(try clear ho0))|((with_reducible refine gate_callee (f:=20) rfl ?_);refine goesL_ (some 51) rfl rfl Tryd.func20 (by kernel_rfl) rfl #[.slice A0 l0.length c0, .int .i64 a1, .slice A2 l2.length c2] rfl am_ ?_;(with_reducible refine(sennitref23_Back.calls kj4 _ _ l0 a1 _ _ l2 t116 t117 _ ?side1 ?side2 ?side3 ?side4 A14.out).mono ?_);(case side1=>repeat(first|exact(Kd.C_below HR0.out HB.out)|(with_reducible refine Kd.C_alloc ?_ _)|(with_reducible refine Kd.C_drewN ?_ _)|(with_reducible refine Kd.C_drew ?_)));(case side2=>exact HC0.out);(case side3=>repeat(first|exact(Kd.C_below HR2.out HB.out)|(with_reducible refine Kd.C_alloc ?_ _)|(with_reducible refine Kd.C_drewN ?_ _)|(with_reducible refine Kd.C_drew ?_)));(case side4=>exact HC2.out);rintro e w24 ⟨v118,rfl,ho0,hb⟩;refine⟨_,rfl,?_⟩;have HO119:=Aside0.mk (Kd.R_lower (Kd.R_new' (Kd.R_new' (Kd.R_new' ho0 (Kd.R_lt (pR_ HO107.out))) (Kd.R_lt (pR_ HO111.out))) (Kd.R_lt (pR_ HO115.out))) (below_size bel_));replace HO107:=Aside0.mk (Kd.R_elder' (pR_ HO107.out) (Kd.R_base ho0) hb);replace HO111:=Aside0.mk (Kd.R_elder' (pR_ HO111.out) (Kd.R_base ho0) hb);replace HO115:=Aside0.mk (Kd.R_elder' (pR_ HO115.out) (Kd.R_base ho0) hb);replace HB:=Aside0.mk (below_step bel_ hb);(try clear hb);(try clear hb2);(try clear hk);(try clear hi);(try clear ho0);obtain⟨Ao25,co25,eo25⟩:=Kd.R_slice HO107.out;subst eo25;obtain⟨Ao26,co26,eo26⟩:=Kd.R_slice HO111.out;subst eo26)|(go_at_call 21;(with_reducible refine(sennitref01_Same.calls kj4 _ _ t104 _ _ t108 true _ ?side1 ?side2 ?side3 ?side4 A17.out).mono ?_);(case side1=>repeat(first|exact(Kd.R_reads' HO107.out).2.2|(with_reducible refine Kd.C_alloc ?_ _)|(with_reducible refine Kd.C_drewN ?_ _)|(with_reducible refine Kd.C_drew ?_)));(case side2=>exact(Kd.R_reads' HO107.out).2.1);(case side3=>repeat(first|exact(Kd.R_reads' HO111.out).2.2|(with_reducible refine Kd.C_alloc ?_ _)|(with_reducible refine Kd.C_drewN ?_ _)|(with_reducible refine Kd.C_drew ?_)));(case side4=>exact(Kd.R_reads' HO111.out).2.1);rintro e w' ⟨rfl,⟨nd,rfl⟩⟩;obtain⟨Ao27,co27,eo27⟩:=Kd.R_slice HO115.out;subst eo27;obtain⟨Ao28,co28,eo28⟩:=Kd.R_slice HO119.out;subst eo28)|(go_at_call 21;(with_reducible refine(sennitref01_Same.calls kj4 _ _ t112 _ _ t116 t121 _ ?side1 ?side2 ?side3 ?side4 A20.out).mono ?_);(case side1=>repeat(first|exact(Kd.R_reads' HO115.out).2.2|(with_reducible refine Kd.C_alloc ?_ _)|(with_reducible refine Kd.C_drewN ?_ _)|(with_reducible refine Kd.C_drew ?_)));(case side2=>exact(Kd.R_reads' HO115.out).2.1);(case side3=>repeat(first|exact(Kd.R_reads' HO119.out).2.2|(with_reducible refine Kd.C_alloc ?_ _)|(with_reducible refine Kd.C_drewN ?_ _)|(with_reducible refine Kd.C_drew ?_)));(case side4=>exact(Kd.R_reads' HO119.out).2.1);rintro e w' ⟨rfl,⟨nd,rfl⟩⟩)));go_ret;exact⟨by first|rfl|(simp[errW_none,errW_some] <;> rfl)|(simp[*,errW_none,errW_some] <;> rfl),bel_⟩)
       (· (rw[if_neg c19] at H);have c19b0:(t113 == t117)=false:=beq_eq_false_iff_ne.mpr c19;have c19b1:(t113 != t117)=true:=bne_iff_ne.mpr c19;obtain rfl:=Option.some.inj H;(go_wp2_with (first|((with_reducible refine gate_callee (f:=17) rfl ?_);refine goesL_ (some 30) rfl rfl Tryd.func17 (by kernel_rfl) rfl #[.slice A0 l0.length c0, .int .i64 a1, .slice A2 l2.length c2] rfl am_ ?_;(with_reducible refine(apply_Forward.calls _ _ l0 a1 _ _ l2 t104 t105 _ ?side1 ?side2 ?side3 ?side4 A11.out).mono ?_);(case side1=>repeat(first|exact(Kd.C_below HR0.out HB.out)|(with_reducible refine Kd.C_alloc ?_ _)|(with_reducible refine Kd.C_drewN ?_ _)|(with_reducible refine Kd.C_drew ?_)));(case side2=>exact HC0.out);(case side3=>repeat(first|exact(Kd.C_below HR2.out HB.out)|(with_reducible refine Kd.C_alloc ?_ _)|(with_reducible refine Kd.C_drewN ?_ _)|(with_reducible refine Kd.C_drew ?_)));(case side4=>exact HC2.out);rintro e w29 ⟨v106,rfl,ho0,hb⟩;refine⟨_,rfl,?_⟩;have HO107:=Aside0.mk (Kd.R_lower ho0 (below_size bel_));replace HB:=Aside0.mk (below_step bel_ hb);(try clear hb);(try clear hb2);(try clear hk);(try clear hi);(try clear ho0))|((with_reducible refine gate_callee (f:=18) rfl ?_);refine goesL_ (some 37) rfl rfl Tryd.func18 (by kernel_rfl) rfl #[.slice A0 l0.length c0, .int .i64 a1, .slice A2 l2.length c2] rfl am_ ?_;(with_reducible refine(sennitref23_Forward.calls kj4 _ _ l0 a1 _ _ l2 t108 t109 _ ?side1 ?side2 ?side3 ?side4 A12.out).mono ?_);(case side1=>repeat(first|exact(Kd.C_below HR0.out HB.out)|(with_reducible refine Kd.C_alloc ?_ _)|(with_reducible refine Kd.C_drewN ?_ _)|(with_reducible refine Kd.C_drew ?_)));(case side2=>exact HC0.out);(case side3=>repeat(first|exact(Kd.C_below HR2.out HB.out)|(with_reducible refine Kd.C_alloc ?_ _)|(with_reducible refine Kd.C_drewN ?_ _)|(with_reducible refine Kd.C_drew ?_)));(case side4=>exact HC2.out);rintro e w30 ⟨v110,rfl,ho0,hb⟩;refine⟨_,rfl,?_⟩;have HO111:=Aside0.mk (Kd.R_lower (Kd.R_new' ho0 (Kd.R_lt (pR_ HO107.out))) (below_size bel_));replace HO107:=Aside0.mk (Kd.R_elder' (pR_ HO107.out) (Kd.R_base ho0) hb);replace HB:=Aside0.mk (below_step bel_ hb);(try clear hb);(try clear hb2);(try clear hk);(try clear hi);(try clear ho0))|((with_reducible refine gate_callee (f:=19) rfl ?_);refine goesL_ (some 44) rfl rfl Tryd.func19 (by kernel_rfl) rfl #[.slice A0 l0.length c0, .int .i64 a1, .slice A2 l2.length c2] rfl am_ ?_;(with_reducible refine(apply_Back.calls _ _ l0 a1 _ _ l2 t112 t113 _ ?side1 ?side2 ?side3 ?side4 A13.out).mono ?_);(case side1=>repeat(first|exact(Kd.C_below HR0.out HB.out)|(with_reducible refine Kd.C_alloc ?_ _)|(with_reducible refine Kd.C_drewN ?_ _)|(with_reducible refine Kd.C_drew ?_)));(case side2=>exact HC0.out);(case side3=>repeat(first|exact(Kd.C_below HR2.out HB.out)|(with_reducible refine Kd.C_alloc ?_ _)|(with_reducible refine Kd.C_drewN ?_ _)|(with_reducible refine Kd.C_drew ?_)));(case side4=>exact HC2.out);rintro e w31 ⟨v114,rfl,ho0,hb⟩;refine⟨_,rfl,?_⟩;have HO115:=Aside0.mk (Kd.R_lower (Kd.R_new' (Kd.R_new' ho0 (Kd.R_lt (pR_ HO107.out))) (Kd.R_lt (pR_ HO111.out))) (below_size bel_));replace HO107:=Aside0.mk (Kd.R_elder' (pR_ HO107.out) (Kd.R_base ho0) hb);replace HO111:=Aside0.mk (Kd.R_elder' (pR_ HO111.out) (Kd.R_base ho0) hb);replace HB:=Aside0.mk (below_step bel_ hb);(try clear hb);(try clear hb2);(try clear hk);(try clear hi);(try clear ho0))|((with_reducible refine gate_callee (f:=20) rfl ?_);refine goesL_ (some 51) rfl rfl Tryd.func20 (by kernel_rfl) rfl #[.slice A0 l0.length c0, .int .i64 a1, .slice A2 l2.length c2] rfl am_ ?_;(with_reducible refine(sennitref23_Back.calls kj4 _ _ l0 a1 _ _ l2 t116 t117 _ ?side1 ?side2 ?side3 ?side4 A14.out).mono ?_);(case side1=>repeat(first|exact(Kd.C_below HR0.out HB.out)|(with_reducible refine Kd.C_alloc ?_ _)|(with_reducible refine Kd.C_drewN ?_ _)|(with_reducible refine Kd.C_drew ?_)));(case side2=>exact HC0.out);(case side3=>repeat(first|exact(Kd.C_below HR2.out HB.out)|(with_reducible refine Kd.C_alloc ?_ _)|(with_reducible refine Kd.C_drewN ?_ _)|(with_reducible refine Kd.C_drew ?_)));(case side4=>exact HC2.out);rintro e w32 ⟨v118,rfl,ho0,hb⟩;refine⟨_,rfl,?_⟩;have HO119:=Aside0.mk (Kd.R_lower (Kd.R_new' (Kd.R_new' (Kd.R_new' ho0 (Kd.R_lt (pR_ HO107.out))) (Kd.R_lt (pR_ HO111.out))) (Kd.R_lt (pR_ HO115.out))) (below_size bel_));replace HO107:=Aside0.mk (Kd.R_elder' (pR_ HO107.out) (Kd.R_base ho0) hb);replace HO111:=Aside0.mk (Kd.R_elder' (pR_ HO111.out) (Kd.R_base ho0) hb);replace HO115:=Aside0.mk (Kd.R_elder' (pR_ HO115.out) (Kd.R_base ho0) hb);replace HB:=Aside0.mk (below_step bel_ hb);(try clear hb);(try clear hb2);(try clear hk);(try clear hi);(try clear ho0);obtain⟨Ao33,co33,eo33⟩:=Kd.R_slice HO107.out;subst eo33;obtain⟨Ao34,co34,eo34⟩:=Kd.R_slice HO111.out;subst eo34)|(go_at_call 21;(with_reducible refine(sennitref01_Same.calls kj4 _ _ t104 _ _ t108 true _ ?side1 ?side2 ?side3 ?side4 A17.out).mono ?_);(case side1=>repeat(first|exact(Kd.R_reads' HO107.out).2.2|(with_reducible refine Kd.C_alloc ?_ _)|(with_reducible refine Kd.C_drewN ?_ _)|(with_reducible refine Kd.C_drew ?_)));(case side2=>exact(Kd.R_reads' HO107.out).2.1);(case side3=>repeat(first|exact(Kd.R_reads' HO111.out).2.2|(with_reducible refine Kd.C_alloc ?_ _)|(with_reducible refine Kd.C_drewN ?_ _)|(with_reducible refine Kd.C_drew ?_)));(case side4=>exact(Kd.R_reads' HO111.out).2.1);rintro e w' ⟨rfl,⟨nd,rfl⟩⟩)));go_ret;exact⟨by first|rfl|(simp[errW_none,errW_some] <;> rfl)|(simp[*,errW_none,errW_some] <;> rfl),bel_⟩)
      (· replace c18:=Bool.eq_false_iff.mpr c18;subst c18;have H1:=H;(rw[if_neg (show ¬ (false=true) by decide)] at H1);clear H;have H:=H1;clear H1;obtain rfl:=Option.some.inj H;(go_wp2_with (first|((with_reducible refine gate_callee (f:=17) rfl ?_);refine goesL_ (some 30) rfl rfl Tryd.func17 (by kernel_rfl) rfl #[.slice A0 l0.length c0, .int .i64 a1, .slice A2 l2.length c2] rfl am_ ?_;(with_reducible refine(apply_Forward.calls _ _ l0 a1 _ _ l2 t104 t105 _ ?side1 ?side2 ?side3 ?side4 A11.out).mono ?_);(case side1=>repeat(first|exact(Kd.C_below HR0.out HB.out)|(with_reducible refine Kd.C_alloc ?_ _)|(with_reducible refine Kd.C_drewN ?_ _)|(with_reducible refine Kd.C_drew ?_)));(case side2=>exact HC0.out);(case side3=>repeat(first|exact(Kd.C_below HR2.out HB.out)|(with_reducible refine Kd.C_alloc ?_ _)|(with_reducible refine Kd.C_drewN ?_ _)|(with_reducible refine Kd.C_drew ?_)));(case side4=>exact HC2.out);rintro e w35 ⟨v106,rfl,ho0,hb⟩;refine⟨_,rfl,?_⟩;have HO107:=Aside0.mk (Kd.R_lower ho0 (below_size bel_));replace HB:=Aside0.mk (below_step bel_ hb);(try clear hb);(try clear hb2);(try clear hk);(try clear hi);(try clear ho0))|((with_reducible refine gate_callee (f:=18) rfl ?_);refine goesL_ (some 37) rfl rfl Tryd.func18 (by kernel_rfl) rfl #[.slice A0 l0.length c0, .int .i64 a1, .slice A2 l2.length c2] rfl am_ ?_;(with_reducible refine(sennitref23_Forward.calls kj4 _ _ l0 a1 _ _ l2 t108 t109 _ ?side1 ?side2 ?side3 ?side4 A12.out).mono ?_);(case side1=>repeat(first|exact(Kd.C_below HR0.out HB.out)|(with_reducible refine Kd.C_alloc ?_ _)|(with_reducible refine Kd.C_drewN ?_ _)|(with_reducible refine Kd.C_drew ?_)));(case side2=>exact HC0.out);(case side3=>repeat(first|exact(Kd.C_below HR2.out HB.out)|(with_reducible refine Kd.C_alloc ?_ _)|(with_reducible refine Kd.C_drewN ?_ _)|(with_reducible refine Kd.C_drew ?_)));(case side4=>exact HC2.out);rintro e w36 ⟨v110,rfl,ho0,hb⟩;refine⟨_,rfl,?_⟩;have HO111:=Aside0.mk (Kd.R_lower (Kd.R_new' ho0 (Kd.R_lt (pR_ HO107.out))) (below_size bel_));replace HO107:=Aside0.mk (Kd.R_elder' (pR_ HO107.out) (Kd.R_base ho0) hb);replace HB:=Aside0.mk (below_step bel_ hb);(try clear hb);(try clear hb2);(try clear hk);(try clear hi);(try clear ho0))|((with_reducible refine gate_callee (f:=19) rfl ?_);refine goesL_ (some 44) rfl rfl Tryd.func19 (by kernel_rfl) rfl #[.slice A0 l0.length c0, .int .i64 a1, .slice A2 l2.length c2] rfl am_ ?_;(with_reducible refine(apply_Back.calls _ _ l0 a1 _ _ l2 t112 t113 _ ?side1 ?side2 ?side3 ?side4 A13.out).mono ?_);(case side1=>repeat(first|exact(Kd.C_below HR0.out HB.out)|(with_reducible refine Kd.C_alloc ?_ _)|(with_reducible refine Kd.C_drewN ?_ _)|(with_reducible refine Kd.C_drew ?_)));(case side2=>exact HC0.out);(case side3=>repeat(first|exact(Kd.C_below HR2.out HB.out)|(with_reducible refine Kd.C_alloc ?_ _)|(with_reducible refine Kd.C_drewN ?_ _)|(with_reducible refine Kd.C_drew ?_)));(case side4=>exact HC2.out);rintro e w37 ⟨v114,rfl,ho0,hb⟩;refine⟨_,rfl,?_⟩;have HO115:=Aside0.mk (Kd.R_lower (Kd.R_new' (Kd.R_new' ho0 (Kd.R_lt (pR_ HO107.out))) (Kd.R_lt (pR_ HO111.out))) (below_size bel_));replace HO107:=Aside0.mk (Kd.R_elder' (pR_ HO107.out) (Kd.R_base ho0) hb);replace HO111:=Aside0.mk (Kd.R_elder' (pR_ HO111.out) (Kd.R_base ho0) hb);replace HB:=Aside0.mk (below_step bel_ hb);(try clear hb);(try clear hb2);(try clear hk);(try clear hi);(try clear ho0))|((with_reducible refine gate_callee (f:=20) rfl ?_);refine goesL_ (some 51) rfl rfl Tryd.func20 (by kernel_rfl) rfl #[.slice A0 l0.length c0, .int .i64 a1, .slice A2 l2.length c2] rfl am_ ?_;(with_reducible refine(sennitref23_Back.calls kj4 _ _ l0 a1 _ _ l2 t116 t117 _ ?side1 ?side2 ?side3 ?side4 A14.out).mono ?_);(case side1=>repeat(first|exact(Kd.C_below HR0.out HB.out)|(with_reducible refine Kd.C_alloc ?_ _)|(with_reducible refine Kd.C_drewN ?_ _)|(with_reducible refine Kd.C_drew ?_)));(case side2=>exact HC0.out);(case side3=>repeat(first|exact(Kd.C_below HR2.out HB.out)|(with_reducible refine Kd.C_alloc ?_ _)|(with_reducible refine Kd.C_drewN ?_ _)|(with_reducible refine Kd.C_drew ?_)));(case side4=>exact HC2.out);rintro e w38 ⟨v118,rfl,ho0,hb⟩;refine⟨_,rfl,?_⟩;have HO119:=Aside0.mk (Kd.R_lower (Kd.R_new' (Kd.R_new' (Kd.R_new' ho0 (Kd.R_lt (pR_ HO107.out))) (Kd.R_lt (pR_ HO111.out))) (Kd.R_lt (pR_ HO115.out))) (below_size bel_));replace HO107:=Aside0.mk (Kd.R_elder' (pR_ HO107.out) (Kd.R_base ho0) hb);replace HO111:=Aside0.mk (Kd.R_elder' (pR_ HO111.out) (Kd.R_base ho0) hb);replace HO115:=Aside0.mk (Kd.R_elder' (pR_ HO115.out) (Kd.R_base ho0) hb);replace HB:=Aside0.mk (below_step bel_ hb);(try clear hb);(try clear hb2);(try clear hk);(try clear hi);(try clear ho0);obtain⟨Ao39,co39,eo39⟩:=Kd.R_slice HO107.out;subst eo39;obtain⟨Ao40,co40,eo40⟩:=Kd.R_slice HO111.out;subst eo40)|(go_at_call 21;(with_reducible refine(sennitref01_Same.calls kj4 _ _ t104 _ _ t108 false _ ?side1 ?side2 ?side3 ?side4 A17.out).mono ?_);(case side1=>repeat(first|exact(Kd.R_reads' HO107.out).2.2|(with_reducible refine Kd.C_alloc ?_ _)|(with_reducible refine Kd.C_drewN ?_ _)|(with_reducible refine Kd.C_drew ?_)));(case side2=>exact(Kd.R_reads' HO107.out).2.1);(case side3=>repeat(first|exact(Kd.R_reads' HO111.out).2.2|(with_reducible refine Kd.C_alloc ?_ _)|(with_reducible refine Kd.C_drewN ?_ _)|(with_reducible refine Kd.C_drew ?_)));(case side4=>exact(Kd.R_reads' HO111.out).2.1);rintro e w' ⟨rfl,⟨nd,rfl⟩⟩)));go_ret;exact⟨by first|rfl|(simp[errW_none,errW_some] <;> rfl)|(simp[*,errW_none,errW_some] <;> rfl),bel_⟩)
     (· (rw[if_neg c16] at H);have c16b0:(t105 == t109)=false:=beq_eq_false_iff_ne.mpr c16;have c16b1:(t105 != t109)=true:=bne_iff_ne.mpr c16;obtain rfl:=Option.some.inj H;(go_wp2_with (first|((with_reducible refine gate_callee (f:=17) rfl ?_);refine goesL_ (some 30) rfl rfl Tryd.func17 (by kernel_rfl) rfl #[.slice A0 l0.length c0, .int .i64 a1, .slice A2 l2.length c2] rfl am_ ?_;(with_reducible refine(apply_Forward.calls _ _ l0 a1 _ _ l2 t104 t105 _ ?side1 ?side2 ?side3 ?side4 A11.out).mono ?_);(case side1=>repeat(first|exact(Kd.C_below HR0.out HB.out)|(with_reducible refine Kd.C_alloc ?_ _)|(with_reducible refine Kd.C_drewN ?_ _)|(with_reducible refine Kd.C_drew ?_)));(case side2=>exact HC0.out);(case side3=>repeat(first|exact(Kd.C_below HR2.out HB.out)|(with_reducible refine Kd.C_alloc ?_ _)|(with_reducible refine Kd.C_drewN ?_ _)|(with_reducible refine Kd.C_drew ?_)));(case side4=>exact HC2.out);rintro e w41 ⟨v106,rfl,ho0,hb⟩;refine⟨_,rfl,?_⟩;have HO107:=Aside0.mk (Kd.R_lower ho0 (below_size bel_));replace HB:=Aside0.mk (below_step bel_ hb);(try clear hb);(try clear hb2);(try clear hk);(try clear hi);(try clear ho0))|((with_reducible refine gate_callee (f:=18) rfl ?_);refine goesL_ (some 37) rfl rfl Tryd.func18 (by kernel_rfl) rfl #[.slice A0 l0.length c0, .int .i64 a1, .slice A2 l2.length c2] rfl am_ ?_;(with_reducible refine(sennitref23_Forward.calls kj4 _ _ l0 a1 _ _ l2 t108 t109 _ ?side1 ?side2 ?side3 ?side4 A12.out).mono ?_);(case side1=>repeat(first|exact(Kd.C_below HR0.out HB.out)|(with_reducible refine Kd.C_alloc ?_ _)|(with_reducible refine Kd.C_drewN ?_ _)|(with_reducible refine Kd.C_drew ?_)));(case side2=>exact HC0.out);(case side3=>repeat(first|exact(Kd.C_below HR2.out HB.out)|(with_reducible refine Kd.C_alloc ?_ _)|(with_reducible refine Kd.C_drewN ?_ _)|(with_reducible refine Kd.C_drew ?_)));(case side4=>exact HC2.out);rintro e w42 ⟨v110,rfl,ho0,hb⟩;refine⟨_,rfl,?_⟩;have HO111:=Aside0.mk (Kd.R_lower (Kd.R_new' ho0 (Kd.R_lt (pR_ HO107.out))) (below_size bel_));replace HO107:=Aside0.mk (Kd.R_elder' (pR_ HO107.out) (Kd.R_base ho0) hb);replace HB:=Aside0.mk (below_step bel_ hb);(try clear hb);(try clear hb2);(try clear hk);(try clear hi);(try clear ho0))|((with_reducible refine gate_callee (f:=19) rfl ?_);refine goesL_ (some 44) rfl rfl Tryd.func19 (by kernel_rfl) rfl #[.slice A0 l0.length c0, .int .i64 a1, .slice A2 l2.length c2] rfl am_ ?_;(with_reducible refine(apply_Back.calls _ _ l0 a1 _ _ l2 t112 t113 _ ?side1 ?side2 ?side3 ?side4 A13.out).mono ?_);(case side1=>repeat(first|exact(Kd.C_below HR0.out HB.out)|(with_reducible refine Kd.C_alloc ?_ _)|(with_reducible refine Kd.C_drewN ?_ _)|(with_reducible refine Kd.C_drew ?_)));(case side2=>exact HC0.out);(case side3=>repeat(first|exact(Kd.C_below HR2.out HB.out)|(with_reducible refine Kd.C_alloc ?_ _)|(with_reducible refine Kd.C_drewN ?_ _)|(with_reducible refine Kd.C_drew ?_)));(case side4=>exact HC2.out);rintro e w43 ⟨v114,rfl,ho0,hb⟩;refine⟨_,rfl,?_⟩;have HO115:=Aside0.mk (Kd.R_lower (Kd.R_new' (Kd.R_new' ho0 (Kd.R_lt (pR_ HO107.out))) (Kd.R_lt (pR_ HO111.out))) (below_size bel_));replace HO107:=Aside0.mk (Kd.R_elder' (pR_ HO107.out) (Kd.R_base ho0) hb);replace HO111:=Aside0.mk (Kd.R_elder' (pR_ HO111.out) (Kd.R_base ho0) hb);replace HB:=Aside0.mk (below_step bel_ hb);(try clear hb);(try clear hb2);(try clear hk);(try clear hi);(try clear ho0))|((with_reducible refine gate_callee (f:=20) rfl ?_);refine goesL_ (some 51) rfl rfl Tryd.func20 (by kernel_rfl) rfl #[.slice A0 l0.length c0, .int .i64 a1, .slice A2 l2.length c2] rfl am_ ?_;(with_reducible refine(sennitref23_Back.calls kj4 _ _ l0 a1 _ _ l2 t116 t117 _ ?side1 ?side2 ?side3 ?side4 A14.out).mono ?_);(case side1=>repeat(first|exact(Kd.C_below HR0.out HB.out)|(with_reducible refine Kd.C_alloc ?_ _)|(with_reducible refine Kd.C_drewN ?_ _)|(with_reducible refine Kd.C_drew ?_)));(case side2=>exact HC0.out);(case side3=>repeat(first|exact(Kd.C_below HR2.out HB.out)|(with_reducible refine Kd.C_alloc ?_ _)|(with_reducible refine Kd.C_drewN ?_ _)|(with_reducible refine Kd.C_drew ?_)));(case side4=>exact HC2.out);rintro e w44 ⟨v118,rfl,ho0,hb⟩;refine⟨_,rfl,?_⟩;have HO119:=Aside0.mk (Kd.R_lower (Kd.R_new' (Kd.R_new' (Kd.R_new' ho0 (Kd.R_lt (pR_ HO107.out))) (Kd.R_lt (pR_ HO111.out))) (Kd.R_lt (pR_ HO115.out))) (below_size bel_));replace HO107:=Aside0.mk (Kd.R_elder' (pR_ HO107.out) (Kd.R_base ho0) hb);replace HO111:=Aside0.mk (Kd.R_elder' (pR_ HO111.out) (Kd.R_base ho0) hb);replace HO115:=Aside0.mk (Kd.R_elder' (pR_ HO115.out) (Kd.R_base ho0) hb);replace HB:=Aside0.mk (below_step bel_ hb);(try clear hb);(try clear hb2);(try clear hk);(try clear hi);(try clear ho0))));go_ret;exact⟨by first|rfl|(simp[errW_none,errW_some] <;> rfl)|(simp[*,errW_none,errW_some] <;> rfl),bel_⟩)
    (· replace c15:=Bool.eq_false_iff.mpr c15;subst c15;have H1:=H;(rw[if_neg (show ¬ (false=true) by decide)] at H1);clear H;have H:=H1;clear H1;obtain rfl:=Option.some.inj H;(go_wp2_with (first|((with_reducible refine gate_callee (f:=17) rfl ?_);refine goesL_ (some 30) rfl rfl Tryd.func17 (by kernel_rfl) rfl #[.slice A0 l0.length c0, .int .i64 a1, .slice A2 l2.length c2] rfl am_ ?_;(with_reducible refine(apply_Forward.calls _ _ l0 a1 _ _ l2 t104 t105 _ ?side1 ?side2 ?side3 ?side4 A11.out).mono ?_);(case side1=>repeat(first|exact(Kd.C_below HR0.out HB.out)|(with_reducible refine Kd.C_alloc ?_ _)|(with_reducible refine Kd.C_drewN ?_ _)|(with_reducible refine Kd.C_drew ?_)));(case side2=>exact HC0.out);(case side3=>repeat(first|exact(Kd.C_below HR2.out HB.out)|(with_reducible refine Kd.C_alloc ?_ _)|(with_reducible refine Kd.C_drewN ?_ _)|(with_reducible refine Kd.C_drew ?_)));(case side4=>exact HC2.out);rintro e w45 ⟨v106,rfl,ho0,hb⟩;refine⟨_,rfl,?_⟩;have HO107:=Aside0.mk (Kd.R_lower ho0 (below_size bel_));replace HB:=Aside0.mk (below_step bel_ hb);(try clear hb);(try clear hb2);(try clear hk);(try clear hi);(try clear ho0))|((with_reducible refine gate_callee (f:=18) rfl ?_);refine goesL_ (some 37) rfl rfl Tryd.func18 (by kernel_rfl) rfl #[.slice A0 l0.length c0, .int .i64 a1, .slice A2 l2.length c2] rfl am_ ?_;(with_reducible refine(sennitref23_Forward.calls kj4 _ _ l0 a1 _ _ l2 t108 t109 _ ?side1 ?side2 ?side3 ?side4 A12.out).mono ?_);(case side1=>repeat(first|exact(Kd.C_below HR0.out HB.out)|(with_reducible refine Kd.C_alloc ?_ _)|(with_reducible refine Kd.C_drewN ?_ _)|(with_reducible refine Kd.C_drew ?_)));(case side2=>exact HC0.out);(case side3=>repeat(first|exact(Kd.C_below HR2.out HB.out)|(with_reducible refine Kd.C_alloc ?_ _)|(with_reducible refine Kd.C_drewN ?_ _)|(with_reducible refine Kd.C_drew ?_)));(case side4=>exact HC2.out);rintro e w46 ⟨v110,rfl,ho0,hb⟩;refine⟨_,rfl,?_⟩;have HO111:=Aside0.mk (Kd.R_lower (Kd.R_new' ho0 (Kd.R_lt (pR_ HO107.out))) (below_size bel_));replace HO107:=Aside0.mk (Kd.R_elder' (pR_ HO107.out) (Kd.R_base ho0) hb);replace HB:=Aside0.mk (below_step bel_ hb);(try clear hb);(try clear hb2);(try clear hk);(try clear hi);(try clear ho0))|((with_reducible refine gate_callee (f:=19) rfl ?_);refine goesL_ (some 44) rfl rfl Tryd.func19 (by kernel_rfl) rfl #[.slice A0 l0.length c0, .int .i64 a1, .slice A2 l2.length c2] rfl am_ ?_;(with_reducible refine(apply_Back.calls _ _ l0 a1 _ _ l2 t112 t113 _ ?side1 ?side2 ?side3 ?side4 A13.out).mono ?_);(case side1=>repeat(first|exact(Kd.C_below HR0.out HB.out)|(with_reducible refine Kd.C_alloc ?_ _)|(with_reducible refine Kd.C_drewN ?_ _)|(with_reducible refine Kd.C_drew ?_)));(case side2=>exact HC0.out);(case side3=>repeat(first|exact(Kd.C_below HR2.out HB.out)|(with_reducible refine Kd.C_alloc ?_ _)|(with_reducible refine Kd.C_drewN ?_ _)|(with_reducible refine Kd.C_drew ?_)));(case side4=>exact HC2.out);rintro e w47 ⟨v114,rfl,ho0,hb⟩;refine⟨_,rfl,?_⟩;have HO115:=Aside0.mk (Kd.R_lower (Kd.R_new' (Kd.R_new' ho0 (Kd.R_lt (pR_ HO107.out))) (Kd.R_lt (pR_ HO111.out))) (below_size bel_));replace HO107:=Aside0.mk (Kd.R_elder' (pR_ HO107.out) (Kd.R_base ho0) hb);replace HO111:=Aside0.mk (Kd.R_elder' (pR_ HO111.out) (Kd.R_base ho0) hb);replace HB:=Aside0.mk (below_step bel_ hb);(try clear hb);(try clear hb2);(try clear hk);(try clear hi);(try clear ho0))|((with_reducible refine gate_callee (f:=20) rfl ?_);refine goesL_ (some 51) rfl rfl Tryd.func20 (by kernel_rfl) rfl #[.slice A0 l0.length c0, .int .i64 a1, .slice A2 l2.length c2] rfl am_ ?_;(with_reducible refine(sennitref23_Back.calls kj4 _ _ l0 a1 _ _ l2 t116 t117 _ ?side1 ?side2 ?side3 ?side4 A14.out).mono ?_);(case side1=>repeat(first|exact(Kd.C_below HR0.out HB.out)|(with_reducible refine Kd.C_alloc ?_ _)|(with_reducible refine Kd.C_drewN ?_ _)|(with_reducible refine Kd.C_drew ?_)));(case side2=>exact HC0.out);(case side3=>repeat(first|exact(Kd.C_below HR2.out HB.out)|(with_reducible refine Kd.C_alloc ?_ _)|(with_reducible refine Kd.C_drewN ?_ _)|(with_reducible refine Kd.C_drew ?_)));(case side4=>exact HC2.out);rintro e w48 ⟨v118,rfl,ho0,hb⟩;refine⟨_,rfl,?_⟩;have HO119:=Aside0.mk (Kd.R_lower (Kd.R_new' (Kd.R_new' (Kd.R_new' ho0 (Kd.R_lt (pR_ HO107.out))) (Kd.R_lt (pR_ HO111.out))) (Kd.R_lt (pR_ HO115.out))) (below_size bel_));replace HO107:=Aside0.mk (Kd.R_elder' (pR_ HO107.out) (Kd.R_base ho0) hb);replace HO111:=Aside0.mk (Kd.R_elder' (pR_ HO111.out) (Kd.R_base ho0) hb);replace HO115:=Aside0.mk (Kd.R_elder' (pR_ HO115.out) (Kd.R_base ho0) hb);replace HB:=Aside0.mk (below_step bel_ hb);(try clear hb);(try clear hb2);(try clear hk);(try clear hi);(try clear ho0))));go_ret;exact⟨by first|rfl|(simp[errW_none,errW_some] <;> rfl)|(simp[*,errW_none,errW_some] <;> rfl),bel_⟩)
end Go.Proofs.YthcnfflhejogfaaDoor.X
