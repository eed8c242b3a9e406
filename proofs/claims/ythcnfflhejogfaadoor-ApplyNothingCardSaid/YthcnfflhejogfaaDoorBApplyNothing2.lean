/- Parts of one proof. -/
import Derived.Test.YthcnfflhejogfaaDoorBApplyNothing1
import Derived.OrdersHeld
import Derived.Deep.RegionHeld3
import Derived.Laws.BitsLemmas
import Derived.RowKit
set_option linter.unusedVariables false
set_option linter.unusedSimpArgs false
set_option maxRecDepth 100000
set_option maxHeartbeats 8000000
namespace Go.Proofs.YthcnfflhejogfaaDoorW.PrintLast
section
variable {P:Program} {ops:Array Oper} {Q:Exit→Act→World→Prop} {md:Region.Mode} {S:World→Prop} {ds:List Nat}
def Region.reachB (md:Region.Mode) (ops:Array Oper) (i:Nat):Nat→Nat→Bool
  | 0,_=>false
  | fuel+1,d=>match ops[d]? with
    | some o=>o.after.any fun e=>Region.binds md e && (e.on == i || Region.reachB md ops i fuel e.on)
    | none=>false
def Region.closedB (md:Region.Mode) (ops:Array Oper) (listed:Array Bool):Bool :=
  (List.range ops.size).all fun j => !listed.getD j false || match ops[j]? with
    | some o=>o.after.all fun e => !Region.binds md e || listed.getD e.on false
    | none=>true
def Region.lastB (md:Region.Mode) (ops:Array Oper) (listed:Array Bool) (ds:List Nat) (i:Nat):Bool :=
  ds.all fun d=>listed.getD d true || Region.reachB md ops i ops.size d
def ListedClosed (md:Region.Mode) (ops:Array Oper) (listed:Array Bool):Prop :=
  ∀ j oj,ops[j]? = some oj→listed.getD j false=true → ∀ e ∈ oj.after,Region.binds md e=true→listed.getD e.on false=true
theorem Region.closedB_spec {listed:Array Bool} (h:Region.closedB md ops listed=true):ListedClosed md ops listed:=by
 intro j oj hj hl e he hb;have hlt:j < ops.size:=(Array.getElem?_eq_some_iff.1 hj).1;have h1:=List.all_eq_true.1 h j (List.mem_range.2 hlt);(simp only[hl,hj,Bool.not_true,Bool.false_or] at h1);have h2:=Array.all_eq_true_iff_forall_mem.1 h1 e he;simpa [hb] using h2
theorem ListedClosed.set {listed:Array Bool} {i:Nat} (h:ListedClosed md ops listed) (hi:i ∈ Region.ready md ops listed):ListedClosed md ops (listed.setIfInBounds i true):=by
 obtain⟨_,oi,hoi,hall⟩:=mem_ready.1 hi;intro j oj hj hl e he hb
 by_cases hij:i=j
 (· subst hij;have:oj=oi:=Option.some.inj (hj.symm.trans hoi);subst this;exact getD_set_true (hall e he hb));(· (rw[getD_set_ne false hij] at hl);exact getD_set_true (h j oj hj hl e he hb))
theorem Region.reach_listed {listed:Array Bool} {i:Nat} (hc:ListedClosed md ops listed) : ∀ (fuel d:Nat),Region.reachB md ops i fuel d=true→listed.getD d false=true→listed.getD i false=true
 | 0,_,h,_=>by simp[Region.reachB] at h
 | fuel+1,d,h,hl=>by
  (unfold Region.reachB at h)
  cases ho:ops[d]? with
  | none=>rw[ho] at h;simp at h
  | some o =>
   (rw[ho] at h);obtain⟨e,he,h1⟩:=Array.any_eq_true'.1 h;(simp only[Bool.and_eq_true,Bool.or_eq_true,beq_iff_eq] at h1);have hle:=hc d o ho hl e he h1.1
   rcases h1.2 with h2|h2
   (· (rw[← h2];exact hle));(· exact Region.reach_listed hc fuel e.on h2 hle)
theorem Region.reach_not_ready {listed:Array Bool} {i d fuel:Nat} (hc:ListedClosed md ops listed) (hr:Region.reachB md ops i fuel d=true) (hun:listed.getD i true=false):d ∉ Region.ready md ops listed:=by
 intro hd;obtain⟨_,o,ho,hall⟩:=mem_ready.1 hd
 have hi:listed.getD i false=true:=by
  cases fuel with
  | zero=>simp[Region.reachB] at hr
  | succ n =>
   (unfold Region.reachB at hr);(rw[ho] at hr);obtain⟨e,he,h1⟩:=Array.any_eq_true'.1 hr;(simp only[Bool.and_eq_true,Bool.or_eq_true,beq_iff_eq] at h1);have hle:=hall e he h1.1
   rcases h1.2 with h2|h2
   (· (rw[← h2];exact hle));(· exact Region.reach_listed hc n e.on h2 hle)
 rcases Nat.lt_or_ge i listed.size with h'|h'
 (· (simp[h'] at hun hi);(rw[hun] at hi);cases hi);(· (simp[Array.getElem?_eq_none h'] at hun))
def wpAnyLast (P:Program) (md:Region.Mode) (ops:Array Oper) (Q:Exit→Act→World→Prop) (S:World→Prop) (ds:List Nat):Nat→Array Bool→Act→World→Prop
  | 0,listed,a,w=>Region.ready md ops listed=[]∧Q .normal a w
  | fuel+1,listed,a,w =>
    (Region.ready md ops listed=[]→Q .normal a w) ∧
    ∀ i ∈ Region.ready md ops listed,wpOp P ops Q i (fun a' w'=>(i ∉ ds→S w→S w')∧wpAnyLast P md ops Q S ds fuel (listed.setIfInBounds i true) a' w') a w
theorem wpAny_of_last : ∀ (fuel:Nat) (listed:Array Bool) (a:Act) (w:World),wpAnyLast P md ops Q S ds fuel listed a w→wpAny P md ops Q fuel listed a w
 | 0,_,_,_,h=>h
 | fuel+1,_,_,_,h=>⟨h.1,fun i hi=>wpOp_mono (fun a' w' h'=>wpAny_of_last fuel _ a' w' h'.2) (h.2 i hi)⟩
theorem wpAnyLast_first {i:Nat} {oi:Oper} {v:Value} (hi:ops[i]? = some oi) (hsel : ∀ (j:Nat) (o:Oper) cs b,ops[j]? = some o→o.op ≠ .select cs b)
    (hQ : ∀ c a w,Q (.panic c) (a.put oi.dst v) w→Q (.panic c) a w) (n:Nat) :
    ∀ (fuel:Nat) (listed:Array Bool) (a:Act) (w:World),
      (∀ j oj,ops[j]? = some oj→j≠i→listed.getD j true=false→(∀ e ∈ oj.after,Region.binds md e=true→e.on≠i)→oi.apart ops oj=true) →
      ListedClosed md ops listed→(∀ d ∈ ds,listed.getD d true=false→Region.reachB md ops i n d=true) →
      i ∈ Region.ready md ops listed→YieldsIf P ops S oi v a→S w →
      wpAnyLast P md ops Q S ds fuel (listed.setIfInBounds i true) (a.put oi.dst v) w→wpAnyLast P md ops Q S ds (fuel+1) listed a w:=by
  intro fuel
  induction fuel with
  | zero =>
    intro listed a w _ _ _ hr hy hS H
    refine⟨fun h=>(by rw[h] at hr;cases hr),fun j hj=>?_⟩
    by_cases hji:j=i
    · subst hji;exact hy.wpOp hi hS ⟨fun _ h=>h,H⟩
    · have:=ready_mono hj hji
      rw[H.1] at this
      cases this
  | succ fuel ih =>
    intro listed a w hfree hc hd hr hy hS H
    refine⟨fun h=>(by rw[h] at hr;cases hr),fun j hj=>?_⟩
    by_cases hji:j=i
    · subst hji;exact hy.wpOp hi hS ⟨fun _ h=>h,H⟩
    · have h1:=H.2 j (ready_mono hj hji)
      obtain⟨hjun,oj,hoj,hall⟩:=mem_ready.1 hj
      have hiun:=(mem_ready.1 hr).1
      have hnot : ∀ e ∈ oj.after,Region.binds md e=true→e.on≠i:=fun e he hb heq=>by
        have h1:=hall e he hb
        rw[heq] at h1
        rcases Nat.lt_or_ge i listed.size with h'|h'
        · simp[h'] at hiun h1;rw[hiun] at h1;cases h1
        · simp[Array.getElem?_eq_none h'] at h1
      have hjd:j ∉ ds:=fun hm=>Region.reach_not_ready hc (hd j hm hjun) hiun hj
      have h2:=wpOp_putIf hoj (hfree j oj hoj hji hjun hnot) (fun cs b=>hsel i oi cs b hi) (fun cs b=>hsel j oj cs b hoj) hQ hy h1
      have hfree' : ∀ k ok,ops[k]? = some ok→k≠i→(listed.setIfInBounds j true).getD k true=false →
          (∀ e ∈ ok.after,Region.binds md e=true→e.on≠i)→oi.apart ops ok=true:=fun k ok hk hki hun hno=>by
        refine hfree k ok hk hki ?_ hno
        by_cases hjk:j=k
        · subst hjk;exact hjun
        · rw[getD_set_ne true hjk] at hun;exact hun
      have hd' : ∀ d ∈ ds,(listed.setIfInBounds j true).getD d true=false→Region.reachB md ops i n d=true:=fun d hm hun=>by
        refine hd d hm ?_
        by_cases hjk:j=d
        · subst hjk;exact hjun
        · rw[getD_set_ne true hjk] at hun;exact hun
      refine wpOp_mono (fun a' w' h3=>⟨h3.2.1,ih (listed.setIfInBounds j true) a' w' hfree' (hc.set hj) hd' (ready_mono hr (Ne.symm hji)) h3.1 (h3.2.1 hjd hS) ?_⟩) h2
      rw[Array.setIfInBounds_comm _ _ hji]
      exact h3.2.2
theorem wpAnyLast_any {i:Nat} {oi:Oper} {v:Value} (hi:ops[i]? = some oi) (hsel : ∀ (j:Nat) (o:Oper) cs b,ops[j]? = some o→o.op ≠ .select cs b)
    (hQ : ∀ c a w,Q (.panic c) (a.put oi.dst v) w→Q (.panic c) a w) :
    ∀ (fuel:Nat) (listed:Array Bool) (a:Act) (w:World),
      (∀ j oj,ops[j]? = some oj→j≠i→listed.getD j true=false→(∀ e ∈ oj.after,Region.binds md e=true→e.on≠i)→oi.apart ops oj=true) →
      i ∈ Region.ready md ops listed→Yields P ops oi v a →
      wpAnyLast P md ops Q S ds fuel (listed.setIfInBounds i true) (a.put oi.dst v) w→wpAnyLast P md ops Q S ds (fuel+1) listed a w:=by
  intro fuel
  induction fuel with
  | zero =>
    intro listed a w _ hr hy H
    refine⟨fun h=>(by rw[h] at hr;cases hr),fun j hj=>?_⟩
    by_cases hji:j=i
    · subst hji;exact(hy.yieldsIf (S:=fun _=>True)).wpOp hi trivial ⟨fun _ h=>h,H⟩
    · have:=ready_mono hj hji
      rw[H.1] at this
      cases this
  | succ fuel ih =>
    intro listed a w hfree hr hy H
    refine⟨fun h=>(by rw[h] at hr;cases hr),fun j hj=>?_⟩
    by_cases hji:j=i
    · subst hji;exact(hy.yieldsIf (S:=fun _=>True)).wpOp hi trivial ⟨fun _ h=>h,H⟩
    · have h1:=H.2 j (ready_mono hj hji)
      obtain⟨hjun,oj,hoj,hall⟩:=mem_ready.1 hj
      have hiun:=(mem_ready.1 hr).1
      have hnot : ∀ e ∈ oj.after,Region.binds md e=true→e.on≠i:=fun e he hb heq=>by
        have h1:=hall e he hb
        rw[heq] at h1
        rcases Nat.lt_or_ge i listed.size with h'|h'
        · simp[h'] at hiun h1;rw[hiun] at h1;cases h1
        · simp[Array.getElem?_eq_none h'] at h1
      have h2:=wpOp_put hoj (hfree j oj hoj hji hjun hnot) (fun cs b=>hsel i oi cs b hi) (fun cs b=>hsel j oj cs b hoj) hQ hy h1
      have hfree' : ∀ k ok,ops[k]? = some ok→k≠i→(listed.setIfInBounds j true).getD k true=false →
          (∀ e ∈ ok.after,Region.binds md e=true→e.on≠i)→oi.apart ops ok=true:=fun k ok hk hki hun hno=>by
        refine hfree k ok hk hki ?_ hno
        by_cases hjk:j=k
        · subst hjk;exact hjun
        · rw[getD_set_ne true hjk] at hun;exact hun
      refine wpOp_mono (fun a' w' h3=>⟨h3.2.1,ih (listed.setIfInBounds j true) a' w' hfree' (ready_mono hr (Ne.symm hji)) h3.1 ?_⟩) h2
      rw[Array.setIfInBounds_comm _ _ hji]
      exact h3.2.2
theorem wpAnyLast_take {i:Nat} {oi:Oper} {v:Value} {fuel:Nat} {listed:Array Bool} {a:Act} {w:World} (hi:ops[i]? = some oi)
    (hs:Region.noSelect ops=true) (hf:Region.free md ops listed i=true) (hr:(Region.ready md ops listed).contains i=true)
    (hc:Region.closedB md ops listed=true) (hl:Region.lastB md ops listed ds i=true)
    (hQ : ∀ c a w,Q (.panic c) (a.put oi.dst v) w→Q (.panic c) a w) (hy:YieldsIf P ops S oi v a) (hS:S w)
    (h:wpAnyLast P md ops Q S ds fuel (listed.setIfInBounds i true) (a.put oi.dst v) w):wpAnyLast P md ops Q S ds (fuel+1) listed a w :=
  wpAnyLast_first hi (Region.noSelect_spec hs) hQ ops.size fuel listed a w (Region.free_spec hi hf) (Region.closedB_spec hc)
    (fun d hm hun=>by have:=List.all_eq_true.1 hl d hm;rw[hun] at this;simpa using this) (by simpa using hr) hy hS h
theorem wpAnyLast_all {rs:List Nat} {fuel:Nat} {listed:Array Bool} {a:Act} {w:World} (hr:Region.ready md ops listed=rs) (hne:rs≠[])
    (h : ∀ i ∈ rs,wpOp P ops Q i (fun a' w'=>(i ∉ ds→S w→S w')∧wpAnyLast P md ops Q S ds fuel (listed.setIfInBounds i true) a' w') a w):wpAnyLast P md ops Q S ds (fuel+1) listed a w :=
  ⟨fun h0=>absurd (hr ▸ h0) hne,hr ▸ h⟩
theorem wpAnyLast_done {listed:Array Bool} {a:Act} {w:World} (hr:Region.ready md ops listed=[]) (h:Q .normal a w) :
    ∀ fuel,wpAnyLast P md ops Q S ds fuel listed a w
  | 0=>⟨hr,h⟩
  | _+1=>⟨fun _=>h,by rw[hr];simp⟩
theorem wp_region_last {id:Nat} {a:Act} {w:World} (hm:P.follows .mixedOrders=true)
    (h:wpAnyLast P .any ops Q S ds ops.size (Array.replicate ops.size false) a { w with drawn:=w.drawn+1 }):(Code.region id ops true).wp P Q a w :=
  wp_region_any hm (wpAny_of_last _ _ _ _ h)
end
section
variable {P:Program} {ops:Array Oper} {Q:Exit→Act→World→Prop} {md:Region.Mode} {S:World→Prop} {ds:List Nat}
def AllReadyL (P:Program) (md:Region.Mode) (ops:Array Oper) (Q:Exit→Act→World→Prop) (S:World→Prop) (ds:List Nat) (fuel:Nat) (listed:Array Bool) (a:Act) (w:World) (rs:List Nat):Prop :=
  ∀ i ∈ rs,wpOp P ops Q i (fun a' w'=>(i ∉ ds→S w→S w')∧wpAnyLast P md ops Q S ds fuel (listed.setIfInBounds i true) a' w') a w
theorem AllReadyL.nil {fuel:Nat} {listed:Array Bool} {a:Act} {w:World}:AllReadyL P md ops Q S ds fuel listed a w []:=fun _ h=>by cases h
theorem AllReadyL.cons {fuel:Nat} {listed:Array Bool} {a:Act} {w:World} {i:Nat} {o:Oper} {rs:List Nat} (ho:ops[i]? = some o) (hd:i ∉ ds)
    (h : ∀ K':Act→World→Prop,Shut (∀ a w,S w→(S w→wpAnyLast P md ops Q S ds fuel (listed.setIfInBounds i true) a w)→K' a w)→if Region.wanted o (yielded ops a.tmps)=true then Oper.wp P o a w K' Q else K' (a.put o.dst undef) w)
    (hs:AllReadyL P md ops Q S ds fuel listed a w rs):AllReadyL P md ops Q S ds fuel listed a w (i :: rs):=fun j hj=>by
  rcases List.mem_cons.1 hj with rfl|hj
  · exact wpOp_step ho (fun K' hK=>h K' (fun a w hS hW=>hK a w ⟨fun _ _=>hS,hW hS⟩))
  · exact hs j hj
theorem AllReadyL.cons_last {fuel:Nat} {listed:Array Bool} {a:Act} {w:World} {i:Nat} {o:Oper} {rs:List Nat} (ho:ops[i]? = some o) (hd:i ∈ ds)
    (h : ∀ K':Act→World→Prop,Shut (∀ a w,wpAnyLast P md ops Q S ds fuel (listed.setIfInBounds i true) a w→K' a w)→if Region.wanted o (yielded ops a.tmps)=true then Oper.wp P o a w K' Q else K' (a.put o.dst undef) w)
    (hs:AllReadyL P md ops Q S ds fuel listed a w rs):AllReadyL P md ops Q S ds fuel listed a w (i :: rs):=fun j hj=>by
  rcases List.mem_cons.1 hj with rfl|hj
  · exact wpOp_step ho (fun K' hK=>h K' (fun a w hW=>hK a w ⟨fun hn=>absurd hd hn,hW⟩))
  · exact hs j hj
theorem wpAnyLast_ready {rs:List Nat} {fuel:Nat} {listed:Array Bool} {a:Act} {w:World} (hr:Region.ready md ops listed=rs) (hne:rs≠[])
    (h:AllReadyL P md ops Q S ds fuel listed a w rs):wpAnyLast P md ops Q S ds (fuel+1) listed a w:=wpAnyLast_all hr hne h
theorem start_ {id n:Nat} {a:Act} {w:World} (l:Array Bool) (hm:P.follows .mixedOrders=true) (hn:ops.size=n) (hl:Array.replicate n false=l) (hS:S w.drew)
    (h:S w.drew→wpAnyLast P .any ops Q S ds n l a w.drew):(Code.region id ops true).wp P Q a w:=by
 subst hn;subst hl;exact wp_region_last hm (h hS)
def takeB (md:Region.Mode) (ops:Array Oper) (ds:List Nat) (l l':Array Bool) (i:Nat):Bool :=
  Region.noSelect ops && Region.free md ops l i && (Region.ready md ops l).contains i && Region.closedB md ops l && Region.lastB md ops l ds i && (l.setIfInBounds i true == l')
theorem take_ {i:Nat} {N:Option Tmp} {oi:Oper} {v:Value} {fuel:Nat} {l:Array Bool} {a:Act} {w:World} (l':Array Bool) (hi:ops[i]? = some oi) (hN:oi.dst=N) (hc:takeB md ops ds l l' i=true)
    (hQ : ∀ c a w,Q (.panic c) (a.put oi.dst v) w→Q (.panic c) a w) (hy:YieldsIf P ops S oi v a) (hS:S w) {a':Act} (ha:a.put N v=a')
    (h:wpAnyLast P md ops Q S ds fuel l' a' w):wpAnyLast P md ops Q S ds (fuel+1) l a w:=by
 subst ha;subst hN;(simp only[takeB,Bool.and_eq_true,beq_iff_eq] at hc);obtain⟨⟨⟨⟨⟨h1,h2⟩,h3⟩,h4⟩,h5⟩,h6⟩:=hc;subst h6;exact wpAnyLast_take hi h1 h2 h3 h4 h5 hQ hy hS h
def anyB (md:Region.Mode) (ops:Array Oper) (l l':Array Bool) (i:Nat):Bool :=
  Region.noSelect ops && Region.free md ops l i && (Region.ready md ops l).contains i && (l.setIfInBounds i true == l')
theorem pure_ {i:Nat} {N:Option Tmp} {oi:Oper} {v:Value} {fuel:Nat} {l:Array Bool} {a:Act} {w:World} (l':Array Bool) (hi:ops[i]? = some oi) (hN:oi.dst=N) (hc:anyB md ops l l' i=true)
    (hQ : ∀ c a w,Q (.panic c) (a.put oi.dst v) w→Q (.panic c) a w) (hy:Yields P ops oi v a) {a':Act} (ha:a.put N v=a')
    (h:wpAnyLast P md ops Q S ds fuel l' a' w):wpAnyLast P md ops Q S ds (fuel+1) l a w:=by
 subst ha;subst hN;(simp only[anyB,Bool.and_eq_true,beq_iff_eq] at hc);obtain⟨⟨⟨h1,h2⟩,h3⟩,h6⟩:=hc;subst h6;exact wpAnyLast_any hi (Region.noSelect_spec h1) hQ fuel l a w (Region.free_spec hi h2) (by simpa using h3) hy h
def readyB (md:Region.Mode) (ops:Array Oper) (l l':Array Bool) (i:Nat):Bool:=(Region.ready md ops l == [i]) && (l.setIfInBounds i true == l')
theorem one_ {i:Nat} {N:Option Tmp} {oi:Oper} {fuel:Nat} {l:Array Bool} {a:Act} {w:World} (l':Array Bool) (hi:ops[i]? = some oi) (hN:oi.dst=N) (hc:readyB md ops l l' i=true) (hd:i ∉ ds)
    (h : ∀ K:Act→World→Prop,Shut (∀ a' w',S w'→(S w'→wpAnyLast P md ops Q S ds fuel l' a' w')→K a' w')→if Region.wanted oi (yielded ops a.tmps)=true then Oper.wp P oi a w K Q else K (a.put N undef) w) :
    wpAnyLast P md ops Q S ds (fuel+1) l a w:=by
 subst hN;(simp only[readyB,Bool.and_eq_true,beq_iff_eq] at hc);obtain⟨h1,h2⟩:=hc;subst h2;exact wpAnyLast_ready h1 (by simp) (AllReadyL.cons hi hd (fun K hK=>h K hK) AllReadyL.nil)
theorem last_ {i:Nat} {N:Option Tmp} {oi:Oper} {fuel:Nat} {l:Array Bool} {a:Act} {w:World} (l':Array Bool) (hi:ops[i]? = some oi) (hN:oi.dst=N) (hc:readyB md ops l l' i=true) (hd:i ∈ ds)
    (h : ∀ K:Act→World→Prop,Shut (∀ a' w',wpAnyLast P md ops Q S ds fuel l' a' w'→K a' w')→if Region.wanted oi (yielded ops a.tmps)=true then Oper.wp P oi a w K Q else K (a.put N undef) w) :
    wpAnyLast P md ops Q S ds (fuel+1) l a w:=by
 subst hN;(simp only[readyB,Bool.and_eq_true,beq_iff_eq] at hc);obtain⟨h1,h2⟩:=hc;subst h2;exact wpAnyLast_ready h1 (by simp) (AllReadyL.cons_last hi hd (fun K hK=>h K hK) AllReadyL.nil)
theorem done_ {l:Array Bool} {a:Act} {w:World} {n:Nat} (hr:(Region.ready md ops l == [])=true) (h:Q .normal a w):wpAnyLast P md ops Q S ds n l a w:=wpAnyLast_done (by simpa using hr) h n
theorem two_ {i j:Nat} {Ni Nj:Option Tmp} {oi oj:Oper} {fuel:Nat} {l:Array Bool} {a:Act} {w:World} (li lj:Array Bool) (hi:ops[i]? = some oi) (hj:ops[j]? = some oj) (hNi:oi.dst=Ni) (hNj:oj.dst=Nj)
    (hc:(Region.ready md ops l == [i,j] && l.setIfInBounds i true == li && l.setIfInBounds j true == lj)=true) (hdi:i ∉ ds) (hdj:j ∉ ds)
    (h1 : ∀ K:Act→World→Prop,Shut (∀ a' w',S w'→(S w'→wpAnyLast P md ops Q S ds fuel li a' w')→K a' w')→if Region.wanted oi (yielded ops a.tmps)=true then Oper.wp P oi a w K Q else K (a.put Ni undef) w)
    (h2 : ∀ K:Act→World→Prop,Shut (∀ a' w',S w'→(S w'→wpAnyLast P md ops Q S ds fuel lj a' w')→K a' w')→if Region.wanted oj (yielded ops a.tmps)=true then Oper.wp P oj a w K Q else K (a.put Nj undef) w) :
    wpAnyLast P md ops Q S ds (fuel+1) l a w:=by
 subst hNi;subst hNj;(simp only[Bool.and_eq_true,beq_iff_eq] at hc);obtain⟨⟨h3,h4⟩,h5⟩:=hc;subst h4;subst h5;exact wpAnyLast_ready h3 (by simp) (AllReadyL.cons hi hdi (fun K hK=>h1 K hK) (AllReadyL.cons hj hdj (fun K hK=>h2 K hK) AllReadyL.nil))
theorem three_ {i j k:Nat} {Ni Nj Nk:Option Tmp} {oi oj ok:Oper} {fuel:Nat} {l:Array Bool} {a:Act} {w:World} (li lj lk:Array Bool) (hi:ops[i]? = some oi) (hj:ops[j]? = some oj) (hk:ops[k]? = some ok) (hNi:oi.dst=Ni) (hNj:oj.dst=Nj) (hNk:ok.dst=Nk)
    (hc:(Region.ready md ops l == [i,j,k] && l.setIfInBounds i true == li && l.setIfInBounds j true == lj && l.setIfInBounds k true == lk)=true) (hdi:i ∉ ds) (hdj:j ∉ ds) (hdk:k ∉ ds)
    (h1 : ∀ K:Act→World→Prop,Shut (∀ a' w',S w'→(S w'→wpAnyLast P md ops Q S ds fuel li a' w')→K a' w')→if Region.wanted oi (yielded ops a.tmps)=true then Oper.wp P oi a w K Q else K (a.put Ni undef) w)
    (h2 : ∀ K:Act→World→Prop,Shut (∀ a' w',S w'→(S w'→wpAnyLast P md ops Q S ds fuel lj a' w')→K a' w')→if Region.wanted oj (yielded ops a.tmps)=true then Oper.wp P oj a w K Q else K (a.put Nj undef) w)
    (h3 : ∀ K:Act→World→Prop,Shut (∀ a' w',S w'→(S w'→wpAnyLast P md ops Q S ds fuel lk a' w')→K a' w')→if Region.wanted ok (yielded ops a.tmps)=true then Oper.wp P ok a w K Q else K (a.put Nk undef) w) :
    wpAnyLast P md ops Q S ds (fuel+1) l a w:=by
 subst hNi;subst hNj;subst hNk;(simp only[Bool.and_eq_true,beq_iff_eq] at hc);obtain⟨⟨⟨h4,h5⟩,h6⟩,h7⟩:=hc;subst h5;subst h6;subst h7;exact wpAnyLast_ready h4 (by simp) (AllReadyL.cons hi hdi (fun K hK=>h1 K hK) (AllReadyL.cons hj hdj (fun K hK=>h2 K hK) (AllReadyL.cons hk hdk (fun K hK=>h3 K hK) AllReadyL.nil)))
def putAll:Act→List (Tmp × Value)→Act
  | a,[]=>a
  | a,(n,v) :: r=>putAll (a.put (some n) v) r
theorem join_ {σ:Type} {fuel:Nat} {l:Array Bool} {a:Act} {w:World} (fuel':Nat) (l':Array Bool) (ns:σ→List (Tmp × Value)) (F:σ→World→Prop)
    (hcont : ∀ s w',F s w'→wpAnyLast P md ops Q S ds fuel' l' (putAll a (ns s)) w')
    (h:(∀ s w',F s w'→wpAnyLast P md ops Q S ds fuel' l' (putAll a (ns s)) w')→wpAnyLast P md ops Q S ds fuel l a w):wpAnyLast P md ops Q S ds fuel l a w:=h hcont
theorem norm_ {fuel:Nat} {l:Array Bool} {a a':Act} {w:World} (ha:a=a') (h:wpAnyLast P md ops Q S ds fuel l a' w):wpAnyLast P md ops Q S ds fuel l a w:=by
 subst ha;exact h
theorem call_ {oi:Oper} {N:Option Tmp} {a:Act} {w:World} {K:Act→World→Prop} (f:FuncId) (args:Array Value) (hw:Region.wanted oi (yielded ops a.tmps)=true) (hN:oi.dst=N) (hrun:(execOp a.eval oi).run P w = .ok (.enter f args) w)
    (h:Calls P f args w fun e w' => ∃ v,e = .returned v∧K (a.put N v) w'):if Region.wanted oi (yielded ops a.tmps)=true then Oper.wp P oi a w K Q else K (a.put N undef) w:=by
 rw[if_pos hw];subst hN;unfold Oper.wp;rw[hrun,Oper.upon_enter];(refine h.mono fun e w'' hh=>?_);obtain⟨v,rfl,hk⟩:=hh;exact hk
theorem enters_ {f:FuncId} {fn:Func} (hf:P.funcs[f]? = some fn) (hname:(fn.name == "runtime.NumGoroutine")=false) (hb:fn.body.isSome=true) (args:Array Value) (w:World):(callFunc f args).run P w = .ok (.enter f args) w:=by
 (have h1:fn.name ≠ "runtime.NumGoroutine" := by simpa using hname);obtain⟨c,hc⟩:=Option.isSome_iff_exists.1 hb;simp[callFunc,hf,h1,hc]
theorem goes_ {oi:Oper} {N:Option Tmp} {a:Act} {w:World} {K:Act→World→Prop} {f:FuncId} {fn:Func} {as:Array Operand} {ts:Array TypeId} (hf:P.funcs[f]? = some fn) (hname:(fn.name == "runtime.NumGoroutine")=false) (hb:fn.body.isSome=true) (args:Array Value)
    (hw:Region.wanted oi (yielded ops a.tmps)=true) (hN:oi.dst=N) (hop:oi.op = .call { callee := .value (.func f),args:=as,argTypes:=ts }) (hargs:as.map a.eval=args)
    (h:Calls P f args w fun e w' => ∃ v,e = .returned v∧K (a.put N v) w'):if Region.wanted oi (yielded ops a.tmps)=true then Oper.wp P oi a w K Q else K (a.put N undef) w:=by
 refine call_ f args hw hN ?_ h;have he:=enters_ hf hname hb args w;unfold execOp;simp[hop,resolve,Deferred.ofValue,invoke,Act.eval,hargs,he]
theorem goesL_ {rest:List Oper} {oi:Oper} {a:Act} {w:World} (N:Option Tmp) (hd:oi.dst=N) (hg:oi.guard=none) {f:FuncId} {fn:Func} {as:Array Operand} {ts:Array TypeId} (hf:P.funcs[f]? = some fn) (hname:(fn.name == "runtime.NumGoroutine")=false) (hb:fn.body.isSome=true) (args:Array Value)
    (hop:oi.op = .call { callee := .value (.func f),args:=as,argTypes:=ts }) (hargs:as.map a.eval=args)
    (h:Calls P f args w fun e w' => ∃ v,e = .returned v∧wpList P ops Q rest (a.put N v) w'):wpList P ops Q (oi :: rest) a w:=by
 (refine wpList_plain hg fun K hK=>?_);have he:=enters_ hf hname hb args w
 have hrun:(execOp a.eval oi).run P w = .ok (.enter f args) w:=by
  unfold execOp;simp[hop,resolve,Deferred.ofValue,invoke,Act.eval,hargs,he]
 unfold Oper.wp;rw[hrun,Oper.upon_enter];(refine h.mono fun e w'' hh=>?_);obtain⟨v,rfl,hk⟩:=hh;subst hd;exact hK _ _ hk
theorem value_ {oi:Oper} {N:Option Tmp} {a:Act} {w w1:World} {v:Value} {K:Act→World→Prop} (hw:Region.wanted oi (yielded ops a.tmps)=true) (hN:oi.dst=N) (hrun:(execOp a.eval oi).run P w = .ok (.value v) w1)
    (h:K (a.put N v) w1):if Region.wanted oi (yielded ops a.tmps)=true then Oper.wp P oi a w K Q else K (a.put N undef) w:=by
 rw[if_pos hw];subst hN;unfold Oper.wp;rw[hrun];exact h
theorem skip_ {oi:Oper} {a:Act} {w w1:World} {K:Act→World→Prop} (hw:Region.wanted oi (yielded ops a.tmps)=true) (hN:oi.dst=none) (hrun:(execOp a.eval oi).run P w = .ok .skip w1)
    (h:K a w1):if Region.wanted oi (yielded ops a.tmps)=true then Oper.wp P oi a w K Q else K (a.put none undef) w:=by
 rw[if_pos hw];unfold Oper.wp;rw[hrun];show K (a.put oi.dst undef) w1;rw[hN];exact h
theorem i64_w (n:Int):IntKind.i64.wrap n=Go.RowKit.wrap64 n:=by unfold Go.RowKit.wrap64;exact IntKind.wrap_i64 n
theorem i32_w (n:Int):IntKind.i32.wrap n=Go.RowKit.wrap32 n:=by unfold Go.RowKit.wrap32;exact IntKind.wrap_i32 n
end
end Go.Proofs.YthcnfflhejogfaaDoorW.PrintLast
namespace Go.Proofs.YthcnfflhejogfaaDoorW.PrintLast
open Go.Proofs.YthcnfflhejogfaaDoorW.PrintWords (Aside0)
def needsOf (md:Region.Mode) (o:Oper):List Nat:=(o.after.toList.filter (fun e=>Region.binds md e)).map (fun e=>e.on)
def clashOf (md:Region.Mode) (ops:Array Oper) (i:Nat) (oi:Oper):List Nat:=(List.range ops.size).filter fun j => !(j == i) && match ops[j]? with
  | some oj => !(oj.after.any (fun e=>Region.binds md e && e.on == i) || oi.apart ops oj)
  | none=>false
def rtab (md:Region.Mode) (ops:Array Oper):Bool × List (List Nat × List Nat):=(Region.noSelect ops,(List.range ops.size).map fun i=>match ops[i]? with
  | some o=>(needsOf md o,clashOf md ops i o)
  | none=>([],[]))
def readyAt (T:List (List Nat × List Nat)) (l:List Bool) (i:Nat):Bool := !l.getD i true && match T[i]? with
  | some r=>r.1.all (fun j=>l.getD j false)
  | none=>false
def readyT (T:List (List Nat × List Nat)) (l:List Bool):List Nat:=(List.range T.length).filter (readyAt T l)
def freeT (T:List (List Nat × List Nat)) (l:List Bool) (i:Nat):Bool:=match T[i]? with
  | some r=>r.2.all (fun j=>l.getD j true)
  | none=>false
def closedT (T:List (List Nat × List Nat)) (l:List Bool):Bool:=(List.range T.length).all fun j => !l.getD j false || match T[j]? with
  | some r=>r.1.all (fun k=>l.getD k false)
  | none=>true
def reachT (T:List (List Nat × List Nat)) (i:Nat):Nat→Nat→Bool
  | 0,_=>false
  | fuel+1,d=>match T[d]? with
    | some r=>r.1.any fun j=>j == i || reachT T i fuel j
    | none=>false
def lastT (T:List (List Nat × List Nat)) (l:List Bool) (ds:List Nat) (i:Nat):Bool:=ds.all fun d=>l.getD d true || reachT T i T.length d
section
variable {md:Region.Mode} {ops:Array Oper} {T:Bool × List (List Nat × List Nat)} {l l' li lj lk:Array Bool} {ds:List Nat} {i j k:Nat}
theorem gd (l:Array Bool) (j:Nat) (b:Bool):l.getD j b=l.toList.getD j b:=by simp[Array.getD_eq_getD_getElem?,List.getD_eq_getElem?_getD]
theorem needs_all (o:Oper) (p:Nat→Bool):o.after.all (fun e => !Region.binds md e || p e.on)=(needsOf md o).all p:=by
 unfold needsOf;rw[← Array.all_toList]
 induction o.after.toList with
 | nil=>rfl
 | cons e r ih =>
  rw[List.all_cons,ih,List.filter_cons];(cases h:Region.binds md e <;> simp)
theorem needs_any (o:Oper) (p:Nat→Bool):o.after.any (fun e=>Region.binds md e && p e.on)=(needsOf md o).any p:=by
 unfold needsOf;rw[← Array.any_toList]
 induction o.after.toList with
 | nil=>rfl
 | cons e r ih =>
  rw[List.any_cons,ih,List.filter_cons];(cases h:Region.binds md e <;> simp)
theorem rtab_length:(rtab md ops).2.length=ops.size:=by simp[rtab]
theorem rtab_some {o:Oper} (h:ops[i]? = some o):(rtab md ops).2[i]? = some (needsOf md o,clashOf md ops i o):=by
 have hi:=(Array.getElem?_eq_some_iff.1 h).1;unfold rtab;rw[List.getElem?_map,List.getElem?_range hi,Option.map_some,h]
theorem rtab_none (h:ops[i]? = none):(rtab md ops).2[i]? = none:=by
 have hi:ops.size≤i:=Array.getElem?_eq_none_iff.1 h;exact List.getElem?_eq_none (by rw[rtab_length];exact hi)
theorem readyAt_eq:readyAt (rtab md ops).2 l.toList i=(!l.getD i true && ((ops[i]?).map (·.after.all fun e => !Region.binds md e || l.getD e.on false)).getD false):=by
 unfold readyAt;rw[gd]
 cases h:ops[i]? with
 | none=>rw[rtab_none h];rfl
 | some o =>
  rw[rtab_some h];simp only[Option.map_some,Option.getD_some];rw[← needs_all];simp only[gd]
theorem ready_eq:Region.ready md ops l=readyT (rtab md ops).2 l.toList:=by
 unfold Region.ready readyT;rw[rtab_length];refine List.filter_congr (fun i _=>?_);rw[readyAt_eq]
theorem free_eq:Region.free md ops l i=freeT (rtab md ops).2 l.toList i:=by
 unfold Region.free freeT
 cases h:ops[i]? with
 | none=>rw[rtab_none h]
 | some oi =>
  rw[rtab_some h];simp only[clashOf];rw[List.all_filter]
  congr 1
  funext j
  rw[gd]
  cases hj:ops[j]? with
  | none=>cases (j == i) <;> cases (l.toList.getD j true) <;> simp
  | some oj =>
   (cases (j == i) <;> cases (l.toList.getD j true) <;> cases (oj.after.any (fun e=>Region.binds md e && e.on == i) || oi.apart ops oj) <;> simp_all)
theorem closed_eq:Region.closedB md ops l=closedT (rtab md ops).2 l.toList:=by
 unfold Region.closedB closedT;rw[rtab_length]
 congr 1
 funext j
 rw[gd]
 cases h:ops[j]? with
 | none=>rw[rtab_none h]
 | some o =>
  rw[rtab_some h];simp only;rw[← needs_all];simp only[gd]
theorem reach_eq : ∀ (fuel d:Nat),Region.reachB md ops i fuel d=reachT (rtab md ops).2 i fuel d
 | 0,_=>rfl
 | fuel+1,d=>by
  unfold Region.reachB reachT
  cases h:ops[d]? with
  | none=>rw[rtab_none h]
  | some o =>
   rw[rtab_some h];simp only;rw[← needs_any]
   congr 1
   funext e
   rw[reach_eq fuel]
theorem last_eq:Region.lastB md ops l ds i=lastT (rtab md ops).2 l.toList ds i:=by
 unfold Region.lastB lastT;rw[rtab_length]
 congr 1
 funext d
 rw[gd,reach_eq]
theorem readyAt_mem (h:readyAt T.2 l.toList i=true) (hT:rtab md ops=T):(Region.ready md ops l).contains i=true:=by
 subst hT;rw[ready_eq];unfold readyT;rw[List.contains_iff_mem,List.mem_filter,List.mem_range];refine⟨?_,h⟩;(unfold readyAt at h);(rw[Bool.and_eq_true] at h)
 cases hq:(rtab md ops).2[i]? with
 | none=>rw[hq] at h;simp at h
 | some r=>exact(List.getElem?_eq_some_iff.1 hq).1
theorem set_of (h:(l.toList.set i true == l'.toList)=true):(l.setIfInBounds i true == l')=true:=by
 (rw[beq_iff_eq] at h ⊢);apply Array.ext';rw[Array.toList_setIfInBounds];exact h
def anyT (T:Bool × List (List Nat × List Nat)) (l l':List Bool) (i:Nat):Bool:=T.1 && freeT T.2 l i && readyAt T.2 l i && (l.set i true == l')
theorem any_of (hT:rtab md ops=T) (h:anyT T l.toList l'.toList i=true):anyB md ops l l' i=true:=by
 (simp only[anyT,Bool.and_eq_true] at h);obtain⟨⟨⟨h1,h2⟩,h3⟩,h4⟩:=h;have h5:=readyAt_mem h3 hT;have h6:=set_of h4;subst hT;simp only[anyB,Bool.and_eq_true];exact⟨⟨⟨h1,by rw[free_eq];exact h2⟩,h5⟩,h6⟩
def takeT (T:Bool × List (List Nat × List Nat)) (ds:List Nat) (l l':List Bool) (i:Nat):Bool:=T.1 && freeT T.2 l i && readyAt T.2 l i && closedT T.2 l && lastT T.2 l ds i && (l.set i true == l')
theorem take_of (hT:rtab md ops=T) (h:takeT T ds l.toList l'.toList i=true):takeB md ops ds l l' i=true:=by
 (simp only[takeT,Bool.and_eq_true] at h);obtain⟨⟨⟨⟨⟨h1,h2⟩,h3⟩,h4⟩,h5⟩,h6⟩:=h;have h7:=readyAt_mem h3 hT;have h8:=set_of h6;subst hT;simp only[takeB,Bool.and_eq_true];exact⟨⟨⟨⟨⟨h1,by rw[free_eq];exact h2⟩,h7⟩,by rw[closed_eq];exact h4⟩,by rw[last_eq];exact h5⟩,h8⟩
theorem one_of (hT:rtab md ops=T) (h:(readyT T.2 l.toList == [i] && l.toList.set i true == l'.toList)=true):readyB md ops l l' i=true:=by
 (simp only[Bool.and_eq_true] at h);obtain⟨h1,h2⟩:=h;subst hT;simp only[readyB,Bool.and_eq_true];exact⟨by rw[ready_eq];exact h1,set_of h2⟩
theorem two_of (hT:rtab md ops=T) (h:(readyT T.2 l.toList == [i,j] && l.toList.set i true == li.toList && l.toList.set j true == lj.toList)=true):(Region.ready md ops l == [i,j] && l.setIfInBounds i true == li && l.setIfInBounds j true == lj)=true:=by
 (simp only[Bool.and_eq_true] at h ⊢);obtain⟨⟨h1,h2⟩,h3⟩:=h;subst hT;exact⟨⟨by rw[ready_eq];exact h1,set_of h2⟩,set_of h3⟩
theorem done_of (hT:rtab md ops=T) (h:(readyT T.2 l.toList == [])=true):(Region.ready md ops l == [])=true:=by
 subst hT;rw[ready_eq];exact h
def upM (B:List Nat) (d:Nat):List Nat→Nat
  | []=>0
  | n :: r=>(2 ^ n ||| (if n < d then B.getD n 0 else 0)) ||| upM B d r
def waitsOk (T:List (List Nat × List Nat)) (B:List Nat):Bool:=(List.range T.length).all fun d=>match T[d]? with
  | some r=>(B.getD d 0 ||| upM B d r.1) == upM B d r.1
  | none=>false
theorem upM_bit {B:List Nat} {d i:Nat} : ∀ {ns:List Nat},(upM B d ns).testBit i=true → ∃ n ∈ ns,n=i∨(n < d∧(B.getD n 0).testBit i=true)
 | [],h=>by simp[upM] at h
 | n :: r,h=>by
  (unfold upM at h);(rw[Nat.testBit_or,Nat.testBit_or,Bool.or_eq_true,Bool.or_eq_true] at h)
  rcases h with (h|h)|h
  (· (rw[Nat.testBit_two_pow] at h);exact⟨n,List.mem_cons_self, .inl (by simpa using h)⟩)
  ·
   by_cases hn:n < d
   (· (rw[if_pos hn] at h);exact⟨n,List.mem_cons_self, .inr ⟨hn,h⟩⟩);(· (rw[if_neg hn] at h);(simp at h))
  (· obtain⟨m,hm,h2⟩:=upM_bit h;exact⟨m,List.mem_cons_of_mem _ hm,h2⟩)
theorem reach_bit {T:List (List Nat × List Nat)} {B:List Nat} (hB:waitsOk T B=true) : ∀ (fuel d:Nat),d < fuel→d < T.length→(B.getD d 0).testBit i=true→reachT T i fuel d=true
 | 0,d,h,_,_=>by omega
 | fuel+1,d,h,hd,hb=>by
  have h1:=List.all_eq_true.1 hB d (List.mem_range.2 hd)
  cases hr:T[d]? with
  | none=>rw[hr] at h1;simp at h1
  | some r =>
   (rw[hr] at h1);(simp only[beq_iff_eq] at h1);(have h2:(upM B d r.1).testBit i=true:=by rw[← h1,Nat.testBit_or,hb,Bool.true_or]);obtain⟨n,hn,h3⟩:=upM_bit h2;unfold reachT;rw[hr];simp only;rw[List.any_eq_true];refine⟨n,hn,?_⟩
   rcases h3 with rfl|⟨h4,h5⟩
   (· simp);(· rw[reach_bit hB fuel n (by omega) (by omega) h5,Bool.or_true])
def lastW (T:List (List Nat × List Nat)) (B:List Nat) (l:List Bool) (ds:List Nat) (i:Nat):Bool:=ds.all fun d=>l.getD d true || (decide (d < T.length) && (B.getD d 0).testBit i)
def takeW (T:Bool × List (List Nat × List Nat)) (B:List Nat) (ds:List Nat) (l l':List Bool) (i:Nat):Bool:=T.1 && freeT T.2 l i && readyAt T.2 l i && closedT T.2 l && lastW T.2 B l ds i && (l.set i true == l')
theorem take_ofW {B:List Nat} (hT:rtab md ops=T) (hB:waitsOk T.2 B=true) (h:takeW T B ds l.toList l'.toList i=true):takeB md ops ds l l' i=true:=by
 refine take_of hT ?_;(simp only[takeW,takeT,Bool.and_eq_true] at h ⊢);obtain⟨⟨⟨⟨⟨h1,h2⟩,h3⟩,h4⟩,h5⟩,h6⟩:=h;refine⟨⟨⟨⟨⟨h1,h2⟩,h3⟩,h4⟩,?_⟩,h6⟩;(unfold lastW at h5);unfold lastT;(rw[List.all_eq_true] at h5 ⊢);intro d hd;have h7:=h5 d hd;(rw[Bool.or_eq_true,Bool.and_eq_true,decide_eq_true_eq] at h7)
 rcases h7 with h7|⟨h8,h9⟩
 (· rw[h7,Bool.true_or]);(· rw[reach_bit hB _ d h8 h8 h9,Bool.or_true])
theorem with_tabW {P:Program} {Q:Exit→Act→World→Prop} {S:World→Prop} {n:Nat} {a:Act} {w:World} {B:List Nat} (hT:rtab md ops=T) (hB:waitsOk T.2 B=true) (h:Aside0 (rtab md ops=T)→Aside0 (waitsOk T.2 B=true)→wpAnyLast P md ops Q S ds n l a w):wpAnyLast P md ops Q S ds n l a w:=h ⟨hT⟩ ⟨hB⟩
end
def opsIn:Code→Nat→Option (Array Oper)
  | .region id ops _,k=>if id == k then some ops else none
  | .seq a b,k=>match opsIn a k with
    | some o=>some o
    | none=>opsIn b k
  | .cond _ a b,k=>match opsIn a k with
    | some o=>some o
    | none=>opsIn b k
  | .block _ c,k=>opsIn c k
  | .loop c,k=>opsIn c k
  | .scope c,k=>opsIn c k
  | .rangeFunc _ _ a b,k=>match opsIn a k with
    | some o=>some o
    | none=>opsIn b k
  | _,_=>none
def opsOf (f:Func) (k:Nat):Array Oper:=((f.body.bind fun c=>opsIn c k)).getD #[]
end Go.Proofs.YthcnfflhejogfaaDoorW.PrintLast
namespace Go.Proofs.YthcnfflhejogfaaDoorW.PrintWords
open Go.RowKit
namespace Kd
def tag {α:Type} (f:Nat→Nat) (d:Kd α):Kd (α × Nat) where
  sz:=d.sz
  E:=d.E
  K:=fun w x cs=>d.K w x.1 cs
  M:=fun w base ok x cs=>d.M w base (fun k=>ok k∧f k=x.2) x.1 cs
  K_len:=fun h=>d.K_len h
  K_one:=fun h=>d.K_one h
  K_below:=fun hb h=>d.K_below hb h
  K_of_M:=fun h=>d.K_of_M h
  M_mono:=fun hok h=>d.M_mono (fun k hk=>⟨hok k hk.1,hk.2⟩) h
  M_bound:=fun h=>d.M_mono (fun _ hk=>⟨⟨hk.1.1,hk.2⟩,hk.1.2⟩) (d.M_bound h)
  M_move:=fun hm h=>d.M_move (fun k hk=>hm k hk.1) h
  M_lower:=fun hb h=>d.M_lower hb h
def raw (sz:Nat):Kd (List Value) where
  sz:=sz
  E:=[]
  K:=fun _ x cs=>cs=x∧cs.length=sz ∧ ∀ u ∈ cs,u.oneCell'=true
  M:=fun _ _ _ x cs=>cs=x∧cs.length=sz ∧ ∀ u ∈ cs,u.oneCell'=true
  K_len:=fun h=>h.2.1
  K_one:=fun h=>h.2.2
  K_below:=fun _ h=>h
  K_of_M:=fun h=>h
  M_mono:=fun _ h=>h
  M_bound:=fun h=>h
  M_move:=fun _ h=>h
  M_lower:=fun _ h=>h
def S {α:Type} (d:Kd α) (e:Nat) (w:World) (base:Nat) (ok:Nat→Prop) (v:Value) (xs:List α):Prop := ∃ f,(tag f d).R e w base ok v xs.zipIdx
section
variable {α β:Type} {d:Kd α} {d':Kd β} {e e':Nat} {w w1 W:World} {base b:Nat} {ok ok' okv oku:Nat→Prop} {u v:Value} {xs:List α} {ys:List β}
theorem zip_at {xs:List α} {j:Nat} {p:α} (h:xs[j]? = some p):xs.zipIdx[j]? = some (p,j):=by rw[List.getElem?_zipIdx,h,Nat.zero_add];rfl
theorem S_R (h:S d e w base ok v xs):d.R e w base ok v xs:=by
 obtain⟨f,h0,inner,ho,hr⟩:=h;(rw[List.length_zipIdx] at ho);exact⟨h0,inner,ho,by have:=hr.1;rw[List.length_zipIdx] at this;exact this,fun j p hj=>d.M_mono (fun _ hk=>hk.1) (hr.2 j (p,j) (zip_at hj))⟩
theorem R_head {ad:Addr} {n cap:Nat} (h:d.R e w base ok (.slice (some ad) n cap) xs) : ∃ g,ad=⟨g,0,none⟩:=by
 obtain⟨_,inner,ho,hr⟩:=h
 rcases ho.2 with ⟨hv,_⟩|⟨g,cap',cur,hv,_⟩
 (· cases hv);(· (injection hv with ha _ _);(injection ha with ha);exact⟨g,ha⟩)
theorem R_tight (hE:d.E=[]) (h:d.R e w base ok v xs):d.R e w base (fun k=>some k=v.ownBlock) v xs:=by
 obtain⟨h0,inner,ho,hr⟩:=h;refine⟨fun k hk=>hk.symm,inner,ho,hr.imp_ (fun p c hp=>d.M_mono (fun k hk=>?_) (d.M_bound hp))⟩;obtain⟨_,_,_,q,hq,_⟩:=hk;(rw[hE] at hq);cases hq
theorem S_nil (d:Kd α) (e:Nat) (w:World) (base:Nat) (ok:Nat→Prop):S d e w base ok (.slice none 0 0) []:=⟨fun _=>0,R_nil _ _ _ _ _⟩
theorem S_mono (h:S d e w base ok v xs) (hok : ∀ k,ok k→ok' k):S d e w base ok' v xs:=by
 obtain⟨f,h⟩:=h;exact⟨f,R_mono h hok⟩
theorem S_bound (h:S d e w base ok v xs):S d e w base (fun k=>ok k∧base≤k∧k < w.heap.size ∧ ∃ q,q ∈ e :: d.E ∧ ∃ cells,w.heap[k]? = some (.cells cells q (0,0))) v xs:=by
 obtain⟨f,h⟩:=h;exact⟨f,R_bound h⟩
theorem S_move (h:S d e w base ok v xs) (hm : ∀ k,ok k→w1.heap[k]? = w.heap[k]?):S d e w1 base ok v xs:=by
 obtain⟨f,h⟩:=h;exact⟨f,R_move h hm⟩
theorem S_step (h:S d e w base ok v xs) (hm : ∀ k,ok k→k < w.heap.size→w1.heap[k]? = w.heap[k]?):S d e w1 base ok v xs :=
  S_mono (S_move (S_bound h) (fun k hk=>hm k hk.1 hk.2.2.1)) (fun _ hk=>hk.1)
theorem S_below (h:S d e w base ok v xs) (hb:Below w.heap.size w w1):S d e w1 base ok v xs:=S_step h (fun k _ hk=>hb.block k hk)
theorem S_alloc (h:S d e w base ok v xs) (o:Obj):S d e (w.alloc o) base ok v xs:=S_below h (below_alloc (Below.refl _ _) o)
theorem S_drew (h:S d e w base ok v xs):S d e w.drew base ok v xs:=S_below h (below_drew (Below.refl _ _))
theorem S_drewN (h:S d e w base ok v xs) (m:Nat):S d e (w.drewN m) base ok v xs:=S_below h (pw_below_drewN (Below.refl _ _) m)
theorem S_typed (h:S d e w base ok v xs) : ∀ k,v.ownBlock=some k → ∃ cells,w.heap[k]? = some (.cells cells e (0,0)):=R_typed (S_R h)
theorem S_apart' (h:S d e W base ok u xs) (hty : ∀ k,v.ownBlock=some k → ∃ cells,W.heap[k]? = some (.cells cells e' (0,0))) (ht : ∀ q,q ∈ e :: d.E→q≠e'):S d e W base (fun k=>ok k∧some k≠v.ownBlock) u xs:=by
 obtain⟨f,h⟩:=h;exact⟨f,R_apart' h hty ht⟩
theorem S_after {v1:Value} (h:S d e W base (fun k=>ok k∧some k≠v.ownBlock) u xs) (hg:W.grownBy w1 v.ownBlock) (hat:v1.ownBlock=v.ownBlock ∨ ∃ b,v1.ownBlock=some b∧W.heap.size≤b):S d e w1 base (fun k=>ok k∧some k≠v1.ownBlock) u xs:=by
 obtain⟨f,h⟩:=h;exact⟨f,R_after h hg hat⟩
theorem R_tag {f f':Nat→Nat} {zs:List (α × Nat)} (h:(tag f d).R e w base ok v zs) (hf : ∀ k,ok k→k < w.heap.size→f' k=f k):(tag f' d).R e w base ok v zs:=by
 obtain⟨h0,inner,ho,hr⟩:=R_bound h;exact⟨fun k hk=>(h0 k hk).1,inner,ho,hr.1,fun j p hj=>d.M_mono (fun k hk=>⟨⟨hk.1.1.1,hk.1.2⟩,(hf k hk.1.1.1 hk.1.1.2.2.1).trans hk.2⟩) (hr.2 j p hj)⟩
end
section
variable {α β:Type} {d:Kd α} {d':Kd β} {e e' g:Nat} {w w1 W:World} {base b:Nat} {ok ok' okv oku:Nat→Prop} {u v:Value} {xs:List α} {ys:List β}
theorem zip_snoc (xs:List α) (p:α):(xs ++ [p]).zipIdx=xs.zipIdx ++ [(p,xs.length)]:=by rw[List.zipIdx_append];simp
end
section
open Classical in
theorem S_tag {α:Type} {d:Kd α} {e base:Nat} {okv:Nat→Prop} {w:World} {v:Value} {xs:List α} (h:S d e w base okv v xs) (m:Nat) (okp:Nat→Prop) (hap : ∀ k,okp k → ¬ okv k) : ∃ f,(∀ k,okp k→f k=m)∧(tag f d).R e w base okv v xs.zipIdx:=by
 obtain⟨f,h⟩:=h;exact⟨fun k=>if okp k then m else f k,fun k hk=>if_pos hk,R_tag h (fun k hk _=>if_neg (fun h2=>hap k h2 hk))⟩
variable {P:Program} {ops:Array Oper} {rest:List Oper} {o:Oper} {a:Act} {Q:Exit→Act→World→Prop} {Kc:Act→World→Prop} {α:Type}
theorem S_append (d:Kd α) {w0 W:World} (base:Nat) (hgd:o.guard=none) (s x:Operand) (t e:TypeId) (z:Value) (bytes:Nat)
    (ho:o.op = .call { callee := .builtin .append,args:=#[s,x],argTypes:=#[t,t] })
    (ht:P.underlying t=some (.slice e)) (hinfo:(P.info? e).map (fun i=>(i.zero,i.size,i.bytes))=some (some z,d.sz,bytes)) (hz:z.cells.size=d.sz) (hs0:0 < d.sz) (hb0:0 < bytes)
    (v:Value) (xs:List α) (p:α) (cs:List Value) (ok okp:Nat→Prop) (hs:a.eval s=v) (hx:a.eval x = .slice (some ⟨W.heap.size,0,none⟩) 1 1) (hp:d.M W base okp p cs) (hokp : ∀ k,okp k→ok k∧some k≠v.ownBlock) (hfresh : ∀ k,W.heap.size≤k→ok k)
    (HO:S d e W base (fun k=>ok k ∧ ¬ okp k) v xs) (HB:Below base w0 W) (hbase:base≤W.heap.size) (hl:(xs.length+1) * bytes≤140737488355328)
    (h : ∀ v1 w1,S d e w1 base ok v1 (xs ++ [p])→Below base w0 w1→W.grownBy w1 v.ownBlock→(v1.ownBlock=v.ownBlock ∨ ∃ b,v1.ownBlock=some b∧W.heap.size≤b)→wpList P ops Q rest (a.put o.dst v1) w1) :
    wpList P ops Q (o :: rest) a (W.alloc (.cells cs.toArray e)):=by
 obtain⟨f,hf,hR⟩:=S_tag HO xs.length okp (fun _ hk h2=>h2.2 hk);refine R_append (tag f d) base hgd s x t e z bytes ho ht hinfo hz hs0 hb0 v xs.zipIdx (p,xs.length) cs ok okp hs hx (d.M_mono (fun k hk=>⟨hk,hf k hk⟩) hp) hokp hfresh (R_mono hR (fun _ hk=>hk.1)) HB hbase (by rw[List.length_zipIdx];exact hl) ?_;intro v1 w1 hr;(rw[← zip_snoc] at hr);exact h v1 w1 ⟨f,hr⟩
end
def gap {α:Type} (f:Nat→Nat) (d:Kd α) (i:Nat) (c:List Value):Kd (α × Nat) where
  sz:=d.sz
  E:=d.E
  K:=fun w x cs=>(x.2=i→cs=c∧cs.length=d.sz ∧ ∀ u ∈ cs,u.oneCell'=true)∧(x.2≠i→d.K w x.1 cs)
  M:=fun w base ok x cs=>(x.2=i→cs=c∧cs.length=d.sz ∧ ∀ u ∈ cs,u.oneCell'=true)∧(x.2≠i→d.M w base (fun k=>ok k∧f k=x.2) x.1 cs)
  K_len:=fun {w x cs} h=>by
    by_cases hx:x.2=i
    · exact(h.1 hx).2.1
    · exact d.K_len (h.2 hx)
  K_one:=fun {w x cs} h=>by
    by_cases hx:x.2=i
    · exact(h.1 hx).2.2
    · exact d.K_one (h.2 hx)
  K_below:=fun hb h=>⟨h.1,fun hx=>d.K_below hb (h.2 hx)⟩
  K_of_M:=fun h=>⟨h.1,fun hx=>d.K_of_M (h.2 hx)⟩
  M_mono:=fun hok h=>⟨h.1,fun hx=>d.M_mono (fun k hk=>⟨hok k hk.1,hk.2⟩) (h.2 hx)⟩
  M_bound:=fun h=>⟨h.1,fun hx=>d.M_mono (fun _ hk=>⟨⟨hk.1.1,hk.2⟩,hk.1.2⟩) (d.M_bound (h.2 hx))⟩
  M_move:=fun hm h=>⟨h.1,fun hx=>d.M_move (fun k hk=>hm k hk.1) (h.2 hx)⟩
  M_lower:=fun hb h=>⟨h.1,fun hx=>d.M_lower hb (h.2 hx)⟩
def H {α:Type} (d:Kd α) (e:Nat) (w:World) (base:Nat) (ok:Nat→Prop) (v:Value) (xs:List α) (i:Int) (oki:Nat→Prop) (c:List Value):Prop :=
  (∀ k,oki k→ok k) ∧ ∃ f,(gap f d i.toNat c).R e w base (fun k=>ok k ∧ ¬ oki k) v xs.zipIdx
section
variable {α β:Type} {d:Kd α} {e e' g n cap:Nat} {w w1 W:World} {base:Nat} {ok ok' oki okp:Nat→Prop} {u v:Value} {xs:List α} {i:Int} {c:List Value}
end
section
variable {P:Program} {ops:Array Oper} {rest:List Oper} {o:Oper} {a:Act} {Q:Exit→Act→World→Prop} {α:Type}
end
end Kd
namespace Kd
theorem reps_one {α:Type} {R:α→List Value→Prop} {size:Nat} {ps:List α} {cs:List Value} (h:Reps R size ps cs) (hs0:0 < size) (hR : ∀ p c,R p c → ∀ u ∈ c,u.oneCell'=true) : ∀ u ∈ cs,u.oneCell'=true:=by
 intro u hu;obtain⟨q,hq,rfl⟩:=List.mem_iff_getElem.1 hu
 have hql:q / size < ps.length:=by
  rw[Nat.div_lt_iff_lt_mul hs0,← h.1];exact hq
 refine hR _ _ (h.2 (q / size) _ (List.getElem?_eq_getElem hql)) _ ?_;rw[List.mem_iff_getElem?];refine⟨q % size,?_⟩;rw[List.getElem?_take,if_pos (Nat.mod_lt _ hs0),List.getElem?_drop,Nat.mul_comm,Nat.div_add_mod,List.getElem?_eq_getElem hq]
section
variable {α:Type} {n:Nat} {d:Kd α} {hs:0 < d.sz} {w:World} {base:Nat} {ok:Nat→Prop} {xs:List α} {cs:List Value}
end
section
variable {α:Type} {n:Nat} {enc:α→Value} {h1 : ∀ x,(enc x).oneCell'=true} {hs:0 < (scalar enc h1).sz} {w:World} {base:Nat} {ok:Nat→Prop} {xs:List α} {cs:List Value}
end
end Kd
section
variable {P:Program}
theorem run_append_zeros (w:World) (base:Nat) (t ti ty e:TypeId) (i:TypeInfo) (z:Value) (size bytes:Nat) (ht:P.underlying t=some (.slice e)) {k:IntKind} (hti:P.underlying ti=some (.int k)) (hi:P.info? e=some i) (hz:i.zero=some z)
    (hsize:i.size=size) (hby:i.bytes=bytes) (hzs:z.cells.size=size) (hsz:0 < size) (hb0:0 < bytes)
    (v:Value) (n:Nat) (xs:List Value) (hown:w.ownsRow base e size v n xs) (kx:IntKind) (m:Nat) (h1 : ∀ u ∈ (Builtin.zeroCells z.cells m).toList,u.oneCell'=true)
    (hbytes:(n+m) * bytes≤140737488355328) (hbase:base≤w.heap.size) :
    ∃ v' w',(Builtin.append_ #[t,ti] ty #[v, .int kx m]).run P w = .ok v' w'∧w'.ownsRow base e size v' (n+m) (xs ++ (Builtin.zeroCells z.cells m).toList)∧w.grownBy w' v.ownBlock ∧
      (v'.ownBlock=v.ownBlock∨v'.ownBlock=some w.heap.size):=by
  subst hsize
  subst hby
  have hle:n+m≤140737488355328:=Nat.le_trans (Nat.le_mul_of_pos_right _ hb0) hbytes
  have h63:n+m≤maxLen:=by simp only[maxLen];omega
  have hw:IntKind.i64.wrap (m:Int)=m:=by rw[IntKind.wrap_i64];omega
  have hw0:IntKind.i64.wrap 0=0:=by rw[IntKind.wrap_i64];rfl
  have hneg : ¬ ((m:Int) < 0):=by omega
  have hmb:m * i.bytes≤140737488355328:=Nat.le_trans (Nat.mul_le_mul_right _ (Nat.le_add_left m n)) hbytes
  have hbig : ¬ (281474976710656 < (m:Int) * (i.bytes:Int)):=by
    rw[← Int.natCast_mul]
    omega
  have hsn:i.size≠0:=by omega
  obtain⟨news,hnews⟩ : ∃ news,news=(Builtin.zeroCells z.cells m).toList:=⟨_,rfl⟩
  rw[← hnews] at h1 ⊢
  have hl:news.length=m * i.size:=by rw[hnews,Array.length_toList,size_zeroCells,hzs]
  have hna:Builtin.zeroCells z.cells m=news.toArray:=by rw[hnews]
  have hlen:(xs ++ news).length=(n+m) * i.size:=by rw[List.length_append,hown.1,hl,Nat.add_mul]
  have hnil:m=0→news=[]:=fun h=>List.eq_nil_of_length_eq_zero (by rw[hl,h,Nat.zero_mul])
  have grown : ∀ (old:Nat),old < n+m → ∀ (row:Option Nat),
      (w.drew.alloc (.cells (xs.toArray ++ news.toArray ++ Builtin.zeroCells z.cells (grownCap w (n+m) old e - (n+m))) e)).ownsRow base e i.size
        (.slice (some ⟨w.heap.size,0,none⟩) (n+m) (grownCap w (n+m) old e)) (n+m) (xs ++ news) ∧
      w.grownBy (w.drew.alloc (.cells (xs.toArray ++ news.toArray ++ Builtin.zeroCells z.cells (grownCap w (n+m) old e - (n+m))) e)) row:=by
    intro old ho row
    have hge:=grownCap_ge w (n+m) old e
    have hcm:grownCap w (n+m) old e≤maxLen:=grownCap_le_maxLen w (n+m) old e h63
    refine⟨⟨hlen, .inr ⟨w.heap.size,_,_,rfl,hbase,heap_alloc_new w.drew _,hge,hcm,?_,?_⟩⟩,⟨rfl,rfl,rfl,by simp,fun k hk _=>heap_alloc_old w.drew _ hk⟩⟩
    · simp only[Array.size_append,List.size_toArray,size_zeroCells,hzs,hown.1,hl,← Nat.add_mul]
      congr 1
      omega
    · simp only[Array.toList_append,List.append_assoc]
      rw[← List.append_assoc,← hlen]
      exact List.take_left
  have runs : ∀ (A:Option Addr) (cap:Nat),cap < n+m→(Builtin.firstCells i.size n (.slice A n cap)).run P w.drew = .ok xs.toArray w.drew→(Builtin.append_ #[t,ti] ty #[.slice A n cap, .int kx m]).run P w =
      .ok (.slice (some ⟨w.heap.size,0,none⟩) (n+m) (grownCap w (n+m) cap e)) (w.drew.alloc (.cells (xs.toArray ++ news.toArray ++ Builtin.zeroCells z.cells (grownCap w (n+m) cap e - (n+m))) e)):=by
    intro A cap hcap hfo
    have hn : ¬ (n+m≤cap):=by omega
    have h63' : ¬ (9223372036854775807 < ((n:Int)+(m:Int))):=by omega
    have hfit:=growslice_fits hcap hbytes
    have h48' : ¬ (281474976710656 < Builtin.nextslicecap (n+m) cap * i.bytes):=by omega
    by_cases hm:m=0
    · have hnl:=hnil hm
      subst hm
      rw[hnl]
      simp only[Nat.add_zero] at hn h63' h48' ⊢
      have h63'' : ¬ (9223372036854775807 < (n:Int)):=by omega
      simp[Builtin.append_,run_underlying ht,run_underlying hti,sizeOf,typeInfo,zeroValue,hi,hz,asInt,asIntOf,hw0,hn,h63'',h48',Question.forced,hfo,newRow,grownCap]
    · have hmz : ¬ (m * i.size=0):=Nat.mul_ne_zero hm hsn
      simp[Builtin.append_,run_underlying ht,run_underlying hti,sizeOf,typeInfo,zeroValue,hi,hz,asInt,asIntOf,hw,hneg,hbig,hn,h63',h48',Question.forced,hfo,newRow,grownCap,hmz,hna]
      congr 2
      apply Array.ext'
      simp[List.append_assoc]
  rcases hown.2 with ⟨rfl,rfl⟩|⟨g,cap,cur,rfl,hbg,hg,hnc,hcm,hcs,htake⟩
  · have hx:xs=[]:=List.eq_nil_of_length_eq_zero (by simpa using hown.1)
    subst hx
    by_cases hm:m=0
    · have hnl:=hnil hm
      subst hm
      rw[hnl]
      refine⟨.slice none 0 0,w,?_,World.ownsRow_nil w base e i.size,⟨rfl,rfl,rfl,Nat.le_refl _,fun _ _ _=>rfl⟩,Or.inl rfl⟩
      simp[Builtin.append_,run_underlying ht,run_underlying hti,sizeOf,typeInfo,hi,asInt,asIntOf,hw0]
    · have hgr:=grown 0 (by omega) (Value.ownBlock (.slice none 0 0))
      exact⟨_,_,runs none 0 (by omega) (by simp[Builtin.firstCells]),hgr.1,hgr.2,Or.inr rfl⟩
  · by_cases hroom:n+m≤cap
    · have hfit:n * i.size+news.length≤cur.size:=by rw[hl,hcs,← Nat.add_mul];exact Nat.mul_le_mul_right _ hroom
      obtain⟨cur',h3,h4,h5⟩:=setCells_row news (n * i.size) w cur hg hfit
      obtain⟨s1,s2,s3,s4⟩:=setCells_same g news (n * i.size) w
      have hst:=run_storeCells_cells (P:=P) g (n * i.size) news 0 w (fun j hj=>by rw[cell_of_row w g _ cur e (0,0) hg];simp;omega) (fun j _=>bfz hg _) h1
      simp only[Nat.add_zero] at hst
      refine⟨.slice (some ⟨g,0,none⟩) (n+m) cap,w.setCells g (n * i.size) news,?_,⟨hlen, .inr ⟨g,cap,cur',rfl,hbg,h3,hroom,hcm,by rw[h4,hcs],?_⟩⟩,⟨s1,s2,s3,by rw[s4];exact Nat.le_refl _,fun k _ hk=>setCells_far news _ k (fun e=>hk (by simp[Value.ownBlock,e]))⟩,Or.inl rfl⟩
      · by_cases hm:m=0
        · have hnl:=hnil hm
          subst hm
          rw[hnl] at hst ⊢
          simp[Builtin.append_,run_underlying ht,run_underlying hti,sizeOf,typeInfo,hi,asInt,asIntOf,hw0,hnc,add_plain,hst]
        · have hmz : ¬ (m * i.size=0):=Nat.mul_ne_zero hm hsn
          simp[Builtin.append_,run_underlying ht,run_underlying hti,sizeOf,typeInfo,zeroValue,hi,hz,asInt,asIntOf,hw,hneg,hbig,hroom,hmz,hna,add_plain,hst]
      · rw[h5]
        have h6:cur.toList.take (n * i.size)=xs:=htake
        rw[h6,← hlen]
        exact List.take_left
    · have holds : ∀ j u,xs[j]? = some u→w.cell? ((⟨g,0,none⟩:Addr).add j)=some u:=hown.cells (g:=g) rfl
      have hgr:=grown cap (by omega) (Value.ownBlock (.slice (some ⟨g,0,none⟩) n cap))
      exact⟨_,_,runs (some ⟨g,0,none⟩) cap (by omega) (run_firstCells_some (P:=P) w.drew i.size n _ n cap xs hown.1 (by simpa using holds)),hgr.1,hgr.2,Or.inr rfl⟩
end
namespace Kd
theorem reps_zeros {α:Type} {R:α→List Value→Prop} {z:Value} {size:Nat} {z0:α} (hz:z.cells.size=size) (hs:0 < size) (h0:R z0 z.cells.toList) (m:Nat):Reps R size (List.replicate m z0) (Builtin.zeroCells z.cells m).toList:=by
 have h:=reps_made hz hs h0 m;rw[show Builtin.zeroCells z.cells m=madeCells z.cells (m * size) by unfold Builtin.zeroCells madeCells;rw[hz]];exact h
section
variable {P:Program} {ops:Array Oper} {rest:List Oper} {o:Oper} {a:Act} {Q:Exit→Act→World→Prop} {Kc:Act→World→Prop} {α:Type}
theorem R_zeros_run (d:Kd α) {W:World} (base:Nat) (t ti ty e:TypeId) (z:Value) (bytes:Nat) (ht:P.underlying t=some (.slice e)) {k:IntKind} (hti:P.underlying ti=some (.int k)) (hinfo:(P.info? e).map (fun i=>(i.zero,i.size,i.bytes))=some (some z,d.sz,bytes)) (hz:z.cells.size=d.sz) (hs0:0 < d.sz) (hb0:0 < bytes)
    (v:Value) (xs:List α) (z0:α) {ok:Nat→Prop} (hzero:d.M W base (fun _=>False) z0 z.cells.toList) (hfresh : ∀ k,W.heap.size≤k→ok k) (HO:d.R e W base ok v xs) (kx:IntKind) (n:Int) (h0:0≤n) (hl:(xs.length+n.toNat) * bytes≤140737488355328) (hbase:base≤W.heap.size) :
    ∃ v1 w1,(Builtin.append_ #[t,ti] ty #[v, .int kx n]).run P W = .ok v1 w1∧d.R e w1 base ok v1 (xs ++ List.replicate n.toNat z0)∧W.grownBy w1 v.ownBlock∧(v1.ownBlock=v.ownBlock ∨ ∃ b,v1.ownBlock=some b∧W.heap.size≤b):=by
 obtain⟨m,rfl⟩:=Int.eq_ofNat_of_zero_le h0;(simp only[Int.toNat_natCast] at hl ⊢);obtain⟨i0,hi,hzz⟩:=Option.map_eq_some_iff.1 hinfo;(simp only[Prod.mk.injEq] at hzz);obtain⟨hz0,hz1,hz2⟩:=hzz;obtain⟨hok,inner,hown,hr⟩:=HO;have hnM:Reps (d.M W base (fun _=>False)) d.sz (List.replicate m z0) (Builtin.zeroCells z.cells m).toList:=reps_zeros hz hs0 hzero m;obtain⟨v1,w1,hrun,h2,hg,hat⟩:=run_append_zeros (P:=P) W base t ti ty e i0 z d.sz bytes ht hti hi hz0 hz1 hz2 hz hs0 hb0 v xs.length inner hown kx m (reps_one hnM hs0 (fun _ _ hp=>d.K_one (d.K_of_M hp))) hl hbase
 have hat':v1.ownBlock=v.ownBlock ∨ ∃ b,v1.ownBlock=some b∧W.heap.size≤b:=by
  rcases hat with hat|hat
  (· exact .inl hat);(· exact .inr ⟨_,hat,Nat.le_refl _⟩)
 have hne : ∀ k,some k≠v.ownBlock→k < W.heap.size→some k≠v1.ownBlock:=by
  intro k hk hlt
  rcases hat' with hat|⟨b,hb,hle⟩
  (· (rw[hat];exact hk));(· rw[hb];intro he;(injection he with he);omega)
 have step : ∀ {q:α} {c:List Value} {o:Nat→Prop},d.M W base o q c→(∀ k,o k→ok k∧some k≠v.ownBlock)→d.M w1 base (fun k=>ok k∧some k≠v1.ownBlock) q c:=by
  intro q c o hq ho;have h1:=d.M_move (w1:=w1) (fun k hk=>hg.block k hk.2.2.1 (ho k hk.1).2) (d.M_bound hq);exact d.M_mono (fun k hk=>⟨(ho k hk.1).1,hne k (ho k hk.1).2 hk.2.2.1⟩) h1
 refine⟨v1,w1,hrun,⟨fun k hk=>?_,inner ++ (Builtin.zeroCells z.cells m).toList,by rw[List.length_append,List.length_replicate];exact h2,reps_append (hr.imp_ (fun _ _ hq=>step hq (fun _ hk=>hk))) (hnM.imp_ (fun _ _ hq=>step hq (fun _ hk=>hk.elim)))⟩,hg,hat'⟩
 rcases hat' with hat|⟨b,hb,hle⟩
 (· exact hok k (hat ▸ hk));(· (rw[hb] at hk);(injection hk with hk);exact hfresh k (by omega))
theorem R_append_zeros (d:Kd α) {w0 W:World} (base:Nat) (hgd:o.guard=none) (s x:Operand) (t ti e:TypeId) (z:Value) (bytes:Nat)
    (ho:o.op = .call { callee := .builtin .append,args:=#[s,x],argTypes:=#[t,ti] })
    (ht:P.underlying t=some (.slice e)) {k:IntKind} (hti:P.underlying ti=some (.int k)) (hinfo:(P.info? e).map (fun i=>(i.zero,i.size,i.bytes))=some (some z,d.sz,bytes)) (hz:z.cells.size=d.sz) (hs0:0 < d.sz) (hb0:0 < bytes)
    (v:Value) (xs:List α) (z0:α) {kx:IntKind} (n:Int) (ok:Nat→Prop) (hs:a.eval s=v) (hx:a.eval x = .int kx n) (hzero:d.M W base (fun _=>False) z0 z.cells.toList) (hfresh : ∀ k,W.heap.size≤k→ok k)
    (HO:d.R e W base ok v xs) (h0:0≤n) (HB:Below base w0 W) (hbase:base≤W.heap.size) (hl:(xs.length+n.toNat) * bytes≤140737488355328)
    (h : ∀ v1 w1,d.R e w1 base ok v1 (xs ++ List.replicate n.toNat z0)→Below base w0 w1→W.grownBy w1 v.ownBlock→(v1.ownBlock=v.ownBlock ∨ ∃ b,v1.ownBlock=some b∧W.heap.size≤b)→wpList P ops Q rest (a.put o.dst v1) w1) :
    wpList P ops Q (o :: rest) a W:=by
 obtain⟨v1,w1,hr1,h1,hg,hat⟩:=R_zeros_run (P:=P) d base t ti o.type e z bytes ht hti hinfo hz hs0 hb0 v xs z0 hzero hfresh HO kx n h0 hl hbase;(refine wpList_plain hgd fun K hK=>?_);unfold Oper.wp execOp;simp only[ho,resolve,invoke,builtin,Sem.run_bind,Sem.run_pure,Result.andThen_ok,List.map_toArray,List.map_cons,List.map_nil,hs,hx,hr1];exact hK _ _ (h v1 w1 h1 (HB.grown hg hbase (R_base HO)) hg hat)
end
section
variable {α:Type} {d:Kd α} {e:Nat} {w:World} {base:Nat} {ok:Nat→Prop} {v:Value} {xs:List α}
end
section
variable {P:Program} {ops:Array Oper} {rest:List Oper} {o:Oper} {a:Act} {Q:Exit→Act→World→Prop} {Kc:Act→World→Prop} {α:Type}
end
end Kd
namespace Kd
structure Heap {α:Type} (d:Kd α):Prop where
  K : ∀ {w w1:World} {x:α} {cs:List Value},(∀ k,k < w.heap.size→w1.heap[k]? = w.heap[k]?)→d.K w x cs→d.K w1 x cs
theorem cell_heap {w w1:World} (hb : ∀ k,k < w.heap.size→w1.heap[k]? = w.heap[k]?) {a:Addr} {v:Value} (h:w.cell? a=some v):w1.cell? a=some v:=by
 have:=hb a.block (World.block_lt_of_cell? w a h);simpa [World.cell?,this] using h
theorem Heap.C {α:Type} {d:Kd α} (hd:Heap d) {w w1:World} {A:Option Addr} {n:Nat} {xs:List α} (hb : ∀ k,k < w.heap.size→w1.heap[k]? = w.heap[k]?) (h:d.C w A n xs):d.C w1 A n xs :=
  ⟨h.1,h.2.1,fun hn=>by
    obtain⟨ad,e,hc⟩:=h.2.2 hn
    refine⟨ad,e,fun j p hj=>?_⟩
    obtain⟨c,hs,hr,hcell⟩:=hc j p hj
    exact⟨c,hs,hd.K hb hr,fun i u hu=>cell_heap hb (hcell i u hu)⟩⟩
theorem heap_string:Heap Kd.string:=⟨fun _ h=>h⟩
section
variable {α:Type} {d:Kd α} {e base g n c:Nat} {ok:Nat→Prop} {w w0 W:World} {A:Option Addr} {xs:List α}
end
end Kd
def Kept (w W:World) (S:Nat→Prop):Prop:=w.heap.size≤W.heap.size ∧ ∀ i,i < w.heap.size → ¬ S i→W.heap[i]? = w.heap[i]?
section
variable {w W W2:World} {S S2 S':Nat→Prop}
theorem Kept.refl (w:World) (S:Nat→Prop):Kept w w S:=⟨Nat.le_refl _,fun _ _ _=>rfl⟩
theorem Kept.of_below (h:Below w.heap.size w W) (S:Nat→Prop):Kept w W S:=⟨h.size,fun i hi _=>h.block i hi⟩
theorem Kept.mono (h:Kept w W S) (hs : ∀ k,S k→S' k):Kept w W S':=⟨h.1,fun i hi hn=>h.2 i hi (fun hk=>hn (hs i hk))⟩
theorem Kept.then_ (h:Kept w W S) (k:Kept W W2 S2) (hs : ∀ k,S2 k→S k∨w.heap.size≤k):Kept w W2 S :=
  ⟨Nat.le_trans h.1 k.1,fun i hi hn=>(k.2 i (Nat.lt_of_lt_of_le hi h.1) (fun h2=>(hs i h2).elim hn (fun h3=>by omega))).trans (h.2 i hi hn)⟩
theorem Kept.of_grown {row:Option Nat} (hg:W.grownBy W2 row) (h:Kept w W S) (hr : ∀ k,row=some k→S k∨w.heap.size≤k):Kept w W2 S :=
  h.then_ (S2:=fun k=>row=some k) ⟨hg.size,fun i hi hn=>hg.block i hi (fun he=>hn he.symm)⟩ hr
theorem Kept.below (h:Kept w W S) (hb:Below W.heap.size W W2):Kept w W2 S:=h.then_ (Kept.of_below hb (fun _=>False)) (fun _ hk=>hk.elim)
theorem Kept.alloc (h:Kept w W S) (o:Obj):Kept w (W.alloc o) S:=h.below (below_alloc (Below.refl _ _) o)
theorem Kept.drew (h:Kept w W S):Kept w W.drew S:=h
theorem Kept.drewN (h:Kept w W S) (m:Nat):Kept w (W.drewN m) S:=h
theorem Kept.setCell (h:Kept w W S) {p:Addr} (hp:S p.block∨w.heap.size≤p.block) (u:Value):Kept w (W.setCell p u) S :=
  h.then_ (S2:=fun k=>k=p.block) ⟨by simp[World.setCell],fun i _ hn=>Below.heap_setCell W p u i hn⟩ (fun k hk=>by rw[hk];exact hp)
theorem Kept.keep {g:Nat} (h:KeepBut w W g none) (k:Kept W W2 S2) (hs : ∀ k,S2 k→w.heap.size≤k):KeepBut w W2 g none :=
  ⟨Nat.le_trans h.1 k.1,fun i hi hg hr=>(k.2 i (Nat.lt_of_lt_of_le hi h.1) (fun h2=>by have:=hs i h2;omega)).trans (h.2 i hi hg hr)⟩
end
namespace Kd
section
variable {α:Type} {d:Kd α} {e base n c:Nat} {ok oki S S2:Nat→Prop} {w w0 W W1 W2:World} {v:Value} {A:Option Addr} {xs:List α} {i:Int} {cs:List Value}
theorem R_kept (h:d.R e W base ok v xs) (hk:Kept W W2 S) (hne : ∀ k,ok k → ¬ S k):d.R e W2 base ok v xs:=R_step h (fun k ho hlt=>hk.2 k hlt (hne k ho))
theorem S_kept (h:Kd.S d e W base ok v xs) (hk:Kept W W2 S) (hne : ∀ k,ok k → ¬ S k):Kd.S d e W2 base ok v xs:=S_step h (fun k ho hlt=>hk.2 k hlt (hne k ho))
end
end Kd
def Foot (P:World→Prop) (W:World) (ok:Nat→Prop):Prop := ∀ W':World,(∀ k,ok k→k < W.heap.size→W'.heap[k]? = W.heap[k]?)→P W'
theorem heap_lt {W W1:World} {k:Nat} (h:W1.heap[k]? = W.heap[k]?) (hlt:k < W.heap.size):k < W1.heap.size:=by
 (rw[Array.getElem?_eq_getElem hlt] at h);exact(Array.getElem?_eq_some_iff.1 h).1
namespace Foot
variable {P Q:World→Prop} {W W1:World} {ok ok':Nat→Prop}
theorem now (h:Foot P W ok):P W:=h W (fun _ _ _=>rfl)
theorem mono (h:Foot P W ok) (hok : ∀ k,ok k→ok' k):Foot P W ok':=fun W' hW=>h W' (fun k hk hlt=>hW k (hok k hk) hlt)
theorem bound (h:Foot P W ok):Foot P W (fun k=>ok k∧k < W.heap.size):=fun W' hW=>h W' (fun k hk hlt=>hW k ⟨hk,hlt⟩ hlt)
theorem step (h:Foot P W ok) (hm : ∀ k,ok k→k < W.heap.size→W1.heap[k]? = W.heap[k]?):Foot P W1 ok:=fun W' hW=>h W' (fun k hk hlt=>(hW k hk (heap_lt (hm k hk hlt) hlt)).trans (hm k hk hlt))
theorem imp (h:Foot P W ok) (hi : ∀ W',P W'→Q W'):Foot Q W ok:=fun W' hW=>hi W' (h W' hW)
theorem old (h:Foot P W ok) (hb:Below W.heap.size W W1):Foot P W1 (fun k=>ok k∧k < W.heap.size):=(h.bound).step (fun k _ hlt=>hb.block k hlt)
end Foot
namespace Kd
def F {α:Type} (d:Kd α) (W:World) (ok:Nat→Prop) (A:Option Addr) (n:Nat) (xs:List α):Prop:=Foot (fun W=>d.C W A n xs) W ok
def FK {α:Type} (d:Kd α) (W:World) (ok:Nat→Prop) (x:α) (c:List Value):Prop:=Foot (fun W=>d.K W x c) W ok
section
variable {α β:Type} {d:Kd α} {e base n n' cc g N:Nat} {ok ok' okp S:Nat→Prop} {w w0 w1 W W1:World} {A A':Option Addr} {u v v1:Value} {xs:List α} {xs':List β} {d':Kd β} {x:α} {c:List Value}
theorem F_now (h:F d W ok A n xs):d.C W A n xs:=Foot.now h
theorem F_mono (h:F d W ok A n xs) (hok : ∀ k,ok k→ok' k):F d W ok' A n xs:=Foot.mono h hok
theorem F_bound (h:F d W ok A n xs):F d W (fun k=>ok k∧k < W.heap.size) A n xs:=Foot.bound h
theorem F_step (h:F d W ok A n xs) (hm : ∀ k,ok k→k < W.heap.size→W1.heap[k]? = W.heap[k]?):F d W1 ok A n xs:=Foot.step h hm
theorem F_imp (h:F d W ok A n xs) (hi : ∀ W',d.C W' A n xs→d'.C W' A' n' xs'):F d' W ok A' n' xs':=Foot.imp h hi
theorem F_below (h:F d W ok A n xs) (hb:Below W.heap.size W W1):F d W1 ok A n xs:=F_step h (fun k _ hlt=>hb.block k hlt)
theorem F_alloc (h:F d W ok A n xs) (o:Obj):F d (W.alloc o) ok A n xs:=F_below h (below_alloc (Below.refl _ _) o)
theorem F_drew (h:F d W ok A n xs):F d W.drew ok A n xs:=F_below h (below_drew (Below.refl _ _))
theorem F_drewN (h:F d W ok A n xs) (m:Nat):F d (W.drewN m) ok A n xs:=F_below h (pw_below_drewN (Below.refl _ _) m)
theorem F_far (h:F d W ok A n xs) {p:Addr} (hok : ∀ k,ok k→k≠p.block) (u:Value):F d (W.setCell p u) ok A n xs:=F_step h (fun k hk _=>Below.heap_setCell W p u k (hok k hk))
theorem F_nil (d:Kd α) (W:World) (ok:Nat→Prop):F d W ok none ([]:List α).length []:=fun W' _=>C_nil d W'
theorem F_elder' (h:F d W ok A n xs) (hbase : ∀ k,v.ownBlock=some k→W.heap.size≤k) (hb:Below W.heap.size W W1):F d W1 (fun k=>ok k∧some k≠v.ownBlock) A n xs :=
  F_mono (Foot.old h hb) (fun k hk=>⟨hk.1,fun he=>by have:=hbase k he.symm;have:=hk.2;omega⟩)
theorem F_elderB (h:F d W ok A n xs) (a:Nat) (ha:W.heap.size≤a):F d W (fun k=>ok k∧k≠a) A n xs:=F_mono (F_bound h) (fun k hk=>⟨hk.1,by have:=hk.2;omega⟩)
theorem F_after (h:F d W (fun k=>ok k∧some k≠v.ownBlock) A n xs) (hg:W.grownBy W1 v.ownBlock) (hat:v1.ownBlock=v.ownBlock ∨ ∃ b,v1.ownBlock=some b∧W.heap.size≤b):F d W1 (fun k=>ok k∧some k≠v1.ownBlock) A n xs:=by
 refine F_mono (Foot.step (F_bound h) (fun k hk hlt=>hg.block k hlt hk.1.2)) (fun k hk=>⟨hk.1.1,?_⟩)
 rcases hat with hat|⟨b,hb,hle⟩
 (· (rw[hat];exact hk.1.2));(· rw[hb];intro he;(injection he with he);have:=hk.2;omega)
theorem C_F (hd:Heap d) (h:d.C w A n xs):F d w (fun k=>k < w.heap.size) A n xs:=fun _ hW=>hd.C (fun k hlt=>hW k hlt hlt) h
theorem R_F (h:d.R e W base ok (.slice A n cc) xs):F d W ok A n xs:=fun W' hW=>by
  have h2:=R_reads' (R_step h hW)
  rw[h2.1]
  exact h2.2.2
theorem FK_now (h:FK d W ok x c):d.K W x c:=Foot.now h
theorem FK_mono (h:FK d W ok x c) (hok : ∀ k,ok k→ok' k):FK d W ok' x c:=Foot.mono h hok
theorem FK_bound (h:FK d W ok x c):FK d W (fun k=>ok k∧k < W.heap.size) x c:=Foot.bound h
theorem FK_step (h:FK d W ok x c) (hm : ∀ k,ok k→k < W.heap.size→W1.heap[k]? = W.heap[k]?):FK d W1 ok x c:=Foot.step h hm
theorem FK_of_M (h:d.M W base ok x c):FK d W ok x c:=fun _ hW=>d.K_of_M (M_step h hW)
theorem emptied (W:World) (g:Nat) : ∃ W':World,(∀ k,k≠g→W'.heap[k]? = W.heap[k]?) ∧ ∀ a:Addr,a.block=g→W'.cell? a=none:=by
 refine⟨{ W with heap:=W.heap.setIfInBounds g (.cells #[] 0) },fun k hk=>by simp[Ne.symm hk],fun a ha=>?_⟩;subst ha
 by_cases hlt:a.block < W.heap.size
 (· simp[World.cell?,hlt]);(· simp[World.cell?,hlt])
end
end Kd
end Go.Proofs.YthcnfflhejogfaaDoorW.PrintWords
namespace Go.Proofs.YthcnfflhejogfaaDoorW.PrintWords
open Go.RowKit
namespace Kd
def chunks (sz:Nat) (n:Nat) (inner:List Value):List (List Value):=(List.range n).map fun j=>(inner.drop (j * sz)).take sz
theorem chunks_length (sz n:Nat) (inner:List Value):(chunks sz n inner).length=n:=by simp[chunks]
theorem chunks_at {sz n:Nat} {inner:List Value} {j:Nat} (hj:j < n):(chunks sz n inner)[j]? = some ((inner.drop (j * sz)).take sz):=by simp[chunks,hj]
theorem chunks_get {sz n:Nat} {inner:List Value} {j:Nat} {c:List Value} (h:(chunks sz n inner)[j]? = some c):c=(inner.drop (j * sz)).take sz:=by
 (have hj:j < n:=by have:=(List.getElem?_eq_some_iff.1 h).1;rwa [chunks_length] at this);(rw[chunks_at hj] at h);(injection h with h);exact h.symm
theorem reps_raw {α:Type} {Rr:α→List Value→Prop} {sz:Nat} {xs:List α} {inner:List Value} (h:Reps Rr sz xs inner) (hR : ∀ x c,Rr x c→c.length=sz ∧ ∀ u ∈ c,u.oneCell'=true):Reps (fun x cs=>cs=x∧cs.length=sz ∧ ∀ u ∈ cs,u.oneCell'=true) sz (chunks sz xs.length inner) inner:=by
 refine⟨by rw[chunks_length];exact h.1,fun j p hj=>?_⟩;(have hjl:j < xs.length:=by have:=(List.getElem?_eq_some_iff.1 hj).1;rwa [chunks_length] at this);have hp:=chunks_get hj;exact⟨hp.symm,hR _ _ (h.2 j _ (List.getElem?_eq_getElem hjl))⟩
section
variable {α:Type} {d:Kd α} {e base n cc g:Nat} {ok ok' okp S:Nat→Prop} {w w1 W W1:World} {A:Option Addr} {u v v1:Value} {xs:List α} {x:α} {c:List Value}
theorem F_get (h:F d W ok A n xs) (z:α) (i:Int) (h0:0≤i) (h1:i < n) :
    ∃ ad c,A=some ad∧c.length=d.sz∧FK d W ok (xs.getD i.toNat z) c∧(∀ j u,c[j]? = some u→W.cell? (ad.add (i.toNat * d.sz+j))=some u)∧(0 < d.sz→ok ad.block):=by
 obtain⟨ad,c,rfl,hcl,hK,hcc⟩:=C_get (F_now h) z i h0 h1
 have hin:0 < d.sz→ok ad.block:=by
  intro hs
  by_cases hk:ok ad.block
  (· exact hk);(· obtain⟨W',h2,h3⟩:=emptied W ad.block;obtain⟨ad',c',he,hcl',_,hcc'⟩:=C_get (h W' (fun k hk' _=>h2 k (fun e=>hk (e ▸ hk')))) z i h0 h1;(injection he with he);subst he;have h4:=hcc' 0 _ (List.getElem?_eq_getElem (by omega));(rw[h3 _ (add_block _ _)] at h4);cases h4)
 refine⟨ad,c,rfl,hcl,fun W' hW=>?_,hcc,hin⟩;obtain⟨ad',c',he,hcl',hK',hcc'⟩:=C_get (h W' hW) z i h0 h1;(injection he with he);subst he
 have hc:c=c':=by
  apply List.ext_getElem?;intro j
  by_cases hj:j < d.sz
  ·
   have hb:W'.heap[ad.block]? = W.heap[ad.block]? := by
    have h5:=hcc j _ (List.getElem?_eq_getElem (by omega));have h6:=World.block_lt_of_cell? W _ h5;(rw[add_block] at h6);exact hW _ (hin (by omega)) h6
   have h5:=hcc j _ (List.getElem?_eq_getElem (by omega));have h6:=hcc' j _ (List.getElem?_eq_getElem (by omega));(have h7:W'.cell? (ad.add (i.toNat * d.sz+j))=W.cell? (ad.add (i.toNat * d.sz+j)):=by simp[World.cell?,add_block,hb]);(rw[h7,h5] at h6);rw[List.getElem?_eq_getElem (by omega),List.getElem?_eq_getElem (by omega)];exact h6
  (· rw[List.getElem?_eq_none (by omega),List.getElem?_eq_none (by omega)])
 rw[hc];exact hK'
theorem F_rows (h:F d W ok A n xs):ReadsRow (fun x c=>FK d W ok x c) d.sz W A n xs:=by
 obtain⟨hl,hm,hn⟩:=F_now h;refine⟨hl,hm,fun hp=>?_⟩;obtain⟨ad,rfl,_⟩:=hn hp;refine⟨ad,rfl,fun j p hj=>?_⟩;obtain⟨hjl,hjp⟩:=List.getElem?_eq_some_iff.1 hj;obtain⟨ad',c,he,hcl,hK,hcc,_⟩:=F_get h p (j:Int) (by omega) (by omega);(injection he with he);subst he;(simp only[Int.toNat_natCast] at hK hcc);(rw[List.getD_eq_getElem?_getD,hj] at hK);exact⟨c,hcl,hK,hcc⟩
def N {α:Type} (d:Kd α) (e:Nat) (w:World) (base:Nat) (ok:Nat→Prop) (v:Value) (xs:List α):Prop :=
  (∀ k,v.ownBlock=some k→ok k) ∧ ∃ rows:List (List Value),rows.length=xs.length∧(raw d.sz).R e w base (fun k=>some k=v.ownBlock) v rows ∧ ∀ (j:Nat) (x:α) (c:List Value),xs[j]? = some x→rows[j]? = some c→FK d w (fun k=>ok k∧some k≠v.ownBlock) x c
theorem raw_tight {sz:Nat} {rows:List (List Value)} (h:(raw sz).R e w base ok v rows):(raw sz).R e w base (fun k=>some k=v.ownBlock) v rows:=R_tight rfl h
theorem raw_any {sz:Nat} {rows:List (List Value)} (h:(raw sz).R e w base ok v rows):(raw sz).R e w base (fun _=>True) v rows:=R_mono h (fun _ _=>trivial)
theorem R_N (h:d.R e w base ok v xs):N d e w base ok v xs:=by
 obtain⟨h0,inner,ho,hr⟩:=h;refine⟨h0,chunks d.sz xs.length inner,chunks_length _ _ _,⟨fun k hk=>hk.symm,inner,by rw[chunks_length];exact ho,reps_raw hr (fun x c hp=>⟨d.K_len (d.K_of_M hp),d.K_one (d.K_of_M hp)⟩)⟩,fun j x c hx hc=>?_⟩;rw[chunks_get hc];exact FK_of_M (hr.2 j x hx)
theorem S_N (h:Kd.S d e w base ok v xs):N d e w base ok v xs:=R_N (S_R h)
theorem N_nil (d:Kd α) (e:Nat) (w:World) (base:Nat) (ok:Nat→Prop):N d e w base ok (.slice none 0 0) []:=R_N (R_nil _ _ _ _ _)
theorem N_mono (h:N d e w base ok v xs) (hok : ∀ k,ok k→ok' k):N d e w base ok' v xs:=by
 obtain⟨h0,rows,hl,hR,hf⟩:=h;exact⟨fun k hk=>hok k (h0 k hk),rows,hl,hR,fun j x c hx hc=>FK_mono (hf j x c hx hc) (fun k hk=>⟨hok k hk.1,hk.2⟩)⟩
theorem N_lt (h:N d e w base ok v xs) : ∀ k,v.ownBlock=some k→k < w.heap.size:=by
 obtain⟨_,rows,_,hR,_⟩:=h;exact R_lt hR
theorem N_base (h:N d e w base ok v xs) : ∀ k,v.ownBlock=some k→base≤k:=by
 obtain⟨_,rows,_,hR,_⟩:=h;exact R_base hR
theorem N_typed (h:N d e w base ok v xs) : ∀ k,v.ownBlock=some k → ∃ cells,w.heap[k]? = some (.cells cells e (0,0)):=by
 obtain⟨_,rows,_,hR,_⟩:=h;exact R_typed hR
theorem N_bound (h:N d e w base ok v xs):N d e w base (fun k=>ok k∧k < w.heap.size) v xs:=by
 have hlt:=N_lt h;obtain⟨h0,rows,hl,hR,hf⟩:=h;exact⟨fun k hk=>⟨h0 k hk,hlt k hk⟩,rows,hl,hR,fun j x c hx hc=>FK_mono (FK_bound (hf j x c hx hc)) (fun k hk=>⟨⟨hk.1.1,hk.2⟩,hk.1.2⟩)⟩
theorem N_lower {base':Nat} (h:N d e w base ok v xs) (hb:base'≤base):N d e w base' ok v xs:=by
 obtain⟨h0,rows,hl,hR,hf⟩:=h;exact⟨h0,rows,hl,R_lower hR hb,hf⟩
theorem N_step (h:N d e w base ok v xs) (hm : ∀ k,ok k→k < w.heap.size→w1.heap[k]? = w.heap[k]?):N d e w1 base ok v xs:=by
 obtain⟨h0,rows,hl,hR,hf⟩:=h;exact⟨h0,rows,hl,R_step hR (fun k hk hlt=>hm k (h0 k hk.symm) hlt),fun j x c hx hc=>FK_step (hf j x c hx hc) (fun k hk hlt=>hm k hk.1 hlt)⟩
theorem N_below (h:N d e w base ok v xs) (hb:Below w.heap.size w w1):N d e w1 base ok v xs:=N_step h (fun k _ hk=>hb.block k hk)
theorem N_alloc (h:N d e w base ok v xs) (o:Obj):N d e (w.alloc o) base ok v xs:=N_below h (below_alloc (Below.refl _ _) o)
theorem N_drew (h:N d e w base ok v xs):N d e w.drew base ok v xs:=N_below h (below_drew (Below.refl _ _))
theorem N_drewN (h:N d e w base ok v xs) (m:Nat):N d e (w.drewN m) base ok v xs:=N_below h (pw_below_drewN (Below.refl _ _) m)
theorem N_elder' (h:N d e W base ok v xs) (hbase : ∀ k,u.ownBlock=some k→W.heap.size≤k) (hb:Below W.heap.size W w1):N d e w1 base (fun k=>ok k∧some k≠u.ownBlock) v xs :=
  N_mono (N_below (N_bound h) hb) (fun k hk=>⟨hk.1,fun he=>by have:=hbase k he.symm;have:=hk.2;omega⟩)
theorem N_after (h:N d e W base (fun k=>ok k∧some k≠u.ownBlock) v xs) {u1:Value} (hg:W.grownBy w1 u.ownBlock) (hat:u1.ownBlock=u.ownBlock ∨ ∃ b,u1.ownBlock=some b∧W.heap.size≤b):N d e w1 base (fun k=>ok k∧some k≠u1.ownBlock) v xs:=by
 refine N_mono (N_step (N_bound h) (fun k hk hlt=>hg.block k hlt hk.1.2)) (fun k hk=>⟨hk.1.1,?_⟩)
 rcases hat with hat|⟨b,hb,hle⟩
 (· (rw[hat];exact hk.1.2));(· rw[hb];intro he;(injection he with he);have:=hk.2;omega)
theorem N_slice (h:N d e w base ok v xs) : ∃ A c,v = .slice A xs.length c:=by
 obtain⟨_,rows,hl,hR,_⟩:=h;obtain⟨A,c,he⟩:=R_slice hR;exact⟨A,c,by rw[he,hl]⟩
theorem N_reads' {n c:Nat} (h:N d e w base ok (.slice A n c) xs):n=xs.length∧n≤c∧d.C w A xs.length xs:=by
 obtain⟨_,rows,hl,hR,hf⟩:=h;obtain⟨hn,hc,hC⟩:=R_reads' hR;refine⟨by omega,hc,?_⟩;(rw[hl] at hC);refine⟨rfl,hC.2.1,fun hp=>?_⟩;obtain⟨ad,he,hcell⟩:=hC.2.2 hp;refine⟨ad,he,fun j p hj=>?_⟩;(have hjl:j < rows.length:=by have:=(List.getElem?_eq_some_iff.1 hj).1;omega);obtain⟨c',hcl,hK,hcc⟩:=hcell j _ (List.getElem?_eq_getElem hjl);have hk:=FK_now (hf j p _ hj (List.getElem?_eq_getElem hjl));refine⟨c',hcl,?_,hcc⟩;rw[show c'=rows[j] from hK.1];exact hk
theorem N_F {n:Nat} (h:N d e w base ok (.slice A n cc) xs):F d w ok A n xs:=fun W' hW=>by
  have h2:=N_reads' (N_step h hW)
  rw[h2.1]
  exact h2.2.2
theorem N_elem {n cap:Nat} (h:N d e W base ok (.slice (some ⟨g,0,none⟩) n cap) xs) (z:α) (i:Int) (h0:0≤i) (h1:i < n) :
    ∃ c,c.length=d.sz∧FK d W (fun k=>ok k∧k≠g) (xs.getD i.toNat z) c∧(∀ j u,c[j]? = some u→W.cell? ⟨g,i.toNat * d.sz+j,none⟩=some u) ∧ ∀ j,W.frozen? ⟨g,i.toNat * d.sz+j,none⟩=false:=by
 obtain⟨_,rows,hl,hR,hf⟩:=h;have hn:=(R_reads' hR).1;obtain⟨c,hcl,hM,hcc,hfr⟩:=R_elem hR [] i h0 h1;(have hil:i.toNat < rows.length:=by omega);(have hil':i.toNat < xs.length:=by omega)
 have hc:c=rows[i.toNat]:=by
  have h2:=hM.1
  rwa [List.getD_eq_getElem?_getD,List.getElem?_eq_getElem hil] at h2
 refine⟨c,hcl,?_,hcc,hfr⟩;rw[List.getD_eq_getElem?_getD,List.getElem?_eq_getElem hil'];exact FK_mono (hf _ _ _ (List.getElem?_eq_getElem hil') (by rw[hc];exact List.getElem?_eq_getElem hil)) (fun k hk=>⟨hk.1,fun he=>hk.2 (by rw[he];simp[Value.ownBlock])⟩)
theorem N_get {ad:Addr} {n cap:Nat} (h:N d e W base ok (.slice (some ad) n cap) xs) (z:α) (i:Int) (h0:0≤i) (h1:i < n) :
    ∃ c,c.length=d.sz∧FK d W (fun k=>ok k∧some k≠(Value.slice (some ad) n cap).ownBlock) (xs.getD i.toNat z) c ∧ ∀ j u,c[j]? = some u→W.cell? (ad.add (i.toNat * d.sz+j))=some u:=by
 obtain⟨g,rfl⟩ : ∃ g,ad=⟨g,0,none⟩:=by
  obtain⟨_,rows,_,hR,_⟩:=h;exact R_head hR
 obtain⟨c,hcl,hM,hcc,_⟩:=N_elem h z i h0 h1;refine⟨c,hcl,FK_mono hM (fun k hk=>⟨hk.1,fun he=>hk.2 (by simpa [Value.ownBlock] using he)⟩),fun j u hu=>?_⟩;rw[add_at,Nat.zero_add];exact hcc j u hu
end
end Kd
section
variable {w w' u:World} {m B g:Nat} {o:Obj} {row:Option Nat} {S:Nat→Prop} {a:Addr} {v:Value}
theorem below_at (hq:w.drewN m=w') (h:Below B u w):Below B u w':=by subst hq;exact pw_below_drewN h m
end
namespace Kd
section
variable {α:Type} {d:Kd α} {e base n m:Nat} {ok:Nat→Prop} {w w':World} {v:Value} {A:Option Addr} {xs:List α}
theorem R_at (hq:w.drewN m=w') (h:d.R e w base ok v xs):d.R e w' base ok v xs:=by subst hq;exact R_drewN h m
end
end Kd
end Go.Proofs.YthcnfflhejogfaaDoorW.PrintWords
namespace Go.Proofs.YthcnfflhejogfaaDoorW.PrintWords
theorem Reps.one {α:Type} {R:α→List Value→Prop} {ps:List α} {cs:List Value} {p:α} {v:Value} (hp:R p [v]) (h:Reps R 1 ps cs):Reps R 1 (p :: ps) (v :: cs):=by
 refine⟨by simp[h.1],fun j q hq=>?_⟩
 cases j with
 | zero =>
  (simp only[List.getElem?_cons_zero,Option.some.injEq] at hq);subst hq;simpa using hp
 | succ j =>
  (simp only[List.getElem?_cons_succ] at hq);have h1:=h.2 j q hq;simpa [Nat.mul_one] using h1
theorem Reps.front {α:Type} {R:α→List Value→Prop} {size:Nat} {ps:List α} {cs c all:List Value} {p:α} (hp:R p c) (hc:c.length=size) (h:Reps R size ps cs) (ha:c ++ cs=all):Reps R size (p :: ps) all:=by
 subst ha;refine⟨by rw[List.length_append,hc,h.1,List.length_cons,Nat.succ_mul,Nat.add_comm],fun j q hq=>?_⟩
 cases j with
 | zero =>
  (simp only[List.getElem?_cons_zero,Option.some.injEq] at hq);subst hq;rw[Nat.zero_mul,List.drop_zero,List.take_append_of_le_length (by omega),List.take_of_length_le (by omega)];exact hp
 | succ j =>
  (simp only[List.getElem?_cons_succ] at hq);have h1:=h.2 j q hq;rw[Nat.succ_mul,List.drop_append,List.drop_of_length_le (by rw[hc];exact Nat.le_add_left _ _),List.nil_append,hc,Nat.add_sub_cancel];exact h1
theorem Reps.c2 {α:Type} {R:α→List Value→Prop} {ps:List α} {cs:List Value} {p:α} {va vb:Value} (hp:R p [va,vb]) (h:Reps R 2 ps cs):Reps R 2 (p :: ps) (va :: vb :: cs):=Reps.front hp rfl h rfl
theorem Reps.c3 {α:Type} {R:α→List Value→Prop} {ps:List α} {cs:List Value} {p:α} {va vb vc:Value} (hp:R p [va,vb,vc]) (h:Reps R 3 ps cs):Reps R 3 (p :: ps) (va :: vb :: vc :: cs):=Reps.front hp rfl h rfl
theorem Reps.c4 {α:Type} {R:α→List Value→Prop} {ps:List α} {cs:List Value} {p:α} {va vb vc vd:Value} (hp:R p [va,vb,vc,vd]) (h:Reps R 4 ps cs):Reps R 4 (p :: ps) (va :: vb :: vc :: vd :: cs):=Reps.front hp rfl h rfl
theorem Reps.c5 {α:Type} {R:α→List Value→Prop} {ps:List α} {cs:List Value} {p:α} {va vb vc vd ve:Value} (hp:R p [va,vb,vc,vd,ve]) (h:Reps R 5 ps cs):Reps R 5 (p :: ps) (va :: vb :: vc :: vd :: ve :: cs):=Reps.front hp rfl h rfl
theorem Reps.c6 {α:Type} {R:α→List Value→Prop} {ps:List α} {cs:List Value} {p:α} {va vb vc vd ve vf:Value} (hp:R p [va,vb,vc,vd,ve,vf]) (h:Reps R 6 ps cs):Reps R 6 (p :: ps) (va :: vb :: vc :: vd :: ve :: vf :: cs):=Reps.front hp rfl h rfl
theorem Reps.c7 {α:Type} {R:α→List Value→Prop} {ps:List α} {cs:List Value} {p:α} {va vb vc vd ve vf vg:Value} (hp:R p [va,vb,vc,vd,ve,vf,vg]) (h:Reps R 7 ps cs):Reps R 7 (p :: ps) (va :: vb :: vc :: vd :: ve :: vf :: vg :: cs):=Reps.front hp rfl h rfl
theorem Reps.c8 {α:Type} {R:α→List Value→Prop} {ps:List α} {cs:List Value} {p:α} {va vb vc vd ve vf vg vh:Value} (hp:R p [va,vb,vc,vd,ve,vf,vg,vh]) (h:Reps R 8 ps cs):Reps R 8 (p :: ps) (va :: vb :: vc :: vd :: ve :: vf :: vg :: vh :: cs):=Reps.front hp rfl h rfl
theorem Reps.c9 {α:Type} {R:α→List Value→Prop} {ps:List α} {cs:List Value} {p:α} {va vb vc vd ve vf vg vh vi:Value} (hp:R p [va,vb,vc,vd,ve,vf,vg,vh,vi]) (h:Reps R 9 ps cs):Reps R 9 (p :: ps) (va :: vb :: vc :: vd :: ve :: vf :: vg :: vh :: vi :: cs):=Reps.front hp rfl h rfl
theorem Reps.c10 {α:Type} {R:α→List Value→Prop} {ps:List α} {cs:List Value} {p:α} {va vb vc vd ve vf vg vh vi vj:Value} (hp:R p [va,vb,vc,vd,ve,vf,vg,vh,vi,vj]) (h:Reps R 10 ps cs):Reps R 10 (p :: ps) (va :: vb :: vc :: vd :: ve :: vf :: vg :: vh :: vi :: vj :: cs):=Reps.front hp rfl h rfl
end Go.Proofs.YthcnfflhejogfaaDoorW.PrintWords
namespace Go.Proofs.YthcnfflhejogfaaDoorW.PrintLast
def up (b:Nat→Bool) (i:Nat):Nat→Bool:=fun j=>if j=i then true else b j
section
variable {P:Program} {ops:Array Oper} {Q:Exit→Act→World→Prop} {md:Region.Mode} {T:Bool × List (List Nat × List Nat)} {B:List Nat} {O:List Nat} {b:Nat→Bool} {i j n:Nat}
end
end Go.Proofs.YthcnfflhejogfaaDoorW.PrintLast
namespace Go.Proofs.YthcnfflhejogfaaDoorW.PrintWords
open Go.RowKit
section
variable {P:Program} {ops:Array Oper} {rest:List Oper} {o:Oper} {a:Act} {Q:Exit→Act→World→Prop} {W:World}
theorem gate_guard (hw:Region.wanted o (yielded ops a.tmps)=true) (h:wpList P ops Q ({ o with guard:=none } :: rest) a W):wpList P ops Q (o :: rest) a W:=by
 have h1:Region.wanted { o with guard:=none } (yielded ops a.tmps)=true:=rfl;(unfold wpList at h ⊢);(rw[if_pos h1] at h);rw[if_pos hw];exact h
end
namespace Kd
section
variable {α:Type} {d:Kd α} {e base n cap g:Nat} {ok ok' okp:Nat→Prop} {w w1 W:World} {v v1:Value} {xs ys:List α}
theorem N_appended {rows news:List (List Value)} (h0 : ∀ k,v.ownBlock=some k→ok k) (hl:rows.length=xs.length) (hf : ∀ (j:Nat) (x:α) (c:List Value),xs[j]? = some x→rows[j]? = some c→FK d W (fun k=>ok k∧some k≠v.ownBlock) x c)
    (hl2:news.length=ys.length) (hf2 : ∀ (j:Nat) (x:α) (c:List Value),ys[j]? = some x→news[j]? = some c→FK d W okp x c) (hokp : ∀ k,okp k→ok k∧some k≠v.ownBlock) (hfresh : ∀ k,W.heap.size≤k→ok k)
    (hR:(raw d.sz).R e w1 base (fun _=>True) v1 (rows ++ news)) (hg:W.grownBy w1 v.ownBlock) (hat:v1.ownBlock=v.ownBlock ∨ ∃ b,v1.ownBlock=some b∧W.heap.size≤b):N d e w1 base ok v1 (xs ++ ys):=by
 have hne : ∀ k,some k≠v.ownBlock→k < W.heap.size→some k≠v1.ownBlock:=by
  intro k hk hlt
  rcases hat with hat|⟨b,hb,hle⟩
  (· (rw[hat];exact hk));(· rw[hb];intro he;(injection he with he);omega)
 have step : ∀ {x:α} {c:List Value} {o:Nat→Prop},FK d W o x c→(∀ k,o k→ok k∧some k≠v.ownBlock)→FK d w1 (fun k=>ok k∧some k≠v1.ownBlock) x c:=by
  intro x c o hq ho;exact FK_mono (FK_step (FK_bound hq) (fun k hk hlt=>hg.block k hlt (ho k hk.1).2)) (fun k hk=>⟨(ho k hk.1).1,hne k (ho k hk.1).2 hk.2⟩)
 refine⟨fun k hk=>?_,rows ++ news,by rw[List.length_append,List.length_append,hl,hl2],raw_tight hR,fun j x c hx hc=>?_⟩
 ·
  rcases hat with hat|⟨b,hb,hle⟩
  (· exact h0 k (hat ▸ hk));(· (rw[hb] at hk);(injection hk with hk);exact hfresh k (by omega))
 ·
  rcases Nat.lt_or_ge j xs.length with hlt|hge
  (· (rw[List.getElem?_append_left hlt] at hx);(rw[List.getElem?_append_left (by omega)] at hc);exact step (hf j x c hx hc) (fun _ hk=>hk));(· (rw[List.getElem?_append_right hge] at hx);(rw[List.getElem?_append_right (by omega),hl] at hc);exact step (hf2 _ x c hx hc) hokp)
theorem FK_raw {x:α} {c:List Value} (h:FK d W ok x c):c=c∧c.length=d.sz ∧ ∀ u ∈ c,u.oneCell'=true:=⟨rfl,d.K_len (FK_now h),d.K_one (FK_now h)⟩
theorem N_made {rows:List (List Value)} (hR:(raw d.sz).R e w1 base (fun k=>k=W.heap.size) v1 rows) (hg:W.grownBy w1 none) (hat : ∃ b,v1.ownBlock=some b∧W.heap.size≤b) (hl:rows.length=xs.length) (hf : ∀ (j:Nat) (x:α) (c:List Value),xs[j]? = some x→rows[j]? = some c→FK d W okp x c)
    (hok : ∀ k,okp k→ok k) (hfresh:ok W.heap.size):N d e w1 base ok v1 xs:=by
 obtain⟨b,hb,hle⟩:=hat;refine⟨fun k hk=>by rw[hR.1 k hk];exact hfresh,rows,hl,raw_tight hR,fun j x c hx hc=>?_⟩;refine FK_mono (FK_step (FK_bound (hf j x c hx hc)) (fun k hk hlt=>hg.block k hlt (by simp))) (fun k hk=>⟨hok k hk.1,fun he=>?_⟩);(rw[hb] at he);(injection he with he);have:=hk.2;omega
theorem reads_raw {Rr:α→List Value→Prop} {sz m:Nat} {A:Option Addr} (h:ReadsRow Rr sz W A m ys) (hR : ∀ x c,Rr x c→c.length=sz ∧ ∀ u ∈ c,u.oneCell'=true) :
    ∃ news:List (List Value),news.length=ys.length∧ReadsRow (fun x cs=>cs=x∧cs.length=sz ∧ ∀ u ∈ cs,u.oneCell'=true) sz W A m news ∧ ∀ (j:Nat) (x:α) (c:List Value),ys[j]? = some x→news[j]? = some c→Rr x c:=by
 rcases Nat.eq_zero_or_pos m with h0|hp
 (· have hy:ys=[]:=List.eq_nil_of_length_eq_zero (h.1.trans h0);subst hy;exact⟨[],rfl,⟨h0 ▸ rfl,h.2.1,fun hp=>by omega⟩,fun j x c hx=>by simp at hx⟩)
 ·
  obtain⟨ad,rfl,_⟩:=h.2.2 hp;obtain⟨inner,hr,hc⟩:=ReadsRow.inner_ h;refine⟨chunks sz ys.length inner,chunks_length _ _ _,⟨by rw[chunks_length];exact h.1,h.2.1,fun _=>⟨ad,rfl,fun j p hj=>?_⟩⟩,fun j x c hx hcc=>?_⟩
  ·
   (have hjl:j < ys.length:=by have:=(List.getElem?_eq_some_iff.1 hj).1;rwa [chunks_length] at this);have hpe:=chunks_get hj;have hq:=hR _ _ (hr.2 j _ (List.getElem?_eq_getElem hjl));(rw[← hpe] at hq);refine⟨p,hq.1,⟨rfl,hq⟩,fun i u hu=>?_⟩
   have hu2:inner[j * sz+i]? = some u:=by
    (rw[hpe,List.getElem?_take] at hu);(split at hu);(· (rw[List.getElem?_drop] at hu);exact hu);(· cases hu)
   exact hc _ u hu2
  (· rw[chunks_get hcc];exact hr.2 j x hx)
end
section
variable {P:Program} {ops:Array Oper} {rest:List Oper} {o:Oper} {a:Act} {Q:Exit→Act→World→Prop} {Kc:Act→World→Prop} {α:Type}
theorem N_append (d:Kd α) {w0 W:World} (base:Nat) (hgd:o.guard=none) (s x:Operand) (t e:TypeId) (z:Value) (bytes:Nat)
    (ho:o.op = .call { callee := .builtin .append,args:=#[s,x],argTypes:=#[t,t] })
    (ht:P.underlying t=some (.slice e)) (hinfo:(P.info? e).map (fun i=>(i.zero,i.size,i.bytes))=some (some z,d.sz,bytes)) (hz:z.cells.size=d.sz) (hs0:0 < d.sz) (hb0:0 < bytes)
    (v:Value) (xs:List α) (p:α) (cs:List Value) (ok okp:Nat→Prop) (hs:a.eval s=v) (hx:a.eval x = .slice (some ⟨W.heap.size,0,none⟩) 1 1) (hp:FK d W okp p cs) (hokp : ∀ k,okp k→ok k∧some k≠v.ownBlock) (hfresh : ∀ k,W.heap.size≤k→ok k)
    (HO:N d e W base ok v xs) (HB:Below base w0 W) (hbase:base≤W.heap.size) (hl:(xs.length+1) * bytes≤140737488355328)
    (h : ∀ v1 w1,N d e w1 base ok v1 (xs ++ [p])→Below base w0 w1→W.grownBy w1 v.ownBlock→(v1.ownBlock=v.ownBlock ∨ ∃ b,v1.ownBlock=some b∧W.heap.size≤b)→wpList P ops Q rest (a.put o.dst v1) w1) :
    wpList P ops Q (o :: rest) a (W.alloc (.cells cs.toArray e)):=by
 obtain⟨h0,rows,hlr,hR,hf⟩:=HO;refine R_append (raw d.sz) base hgd s x t e z bytes ho ht hinfo hz hs0 hb0 v rows cs cs (fun _=>True) (fun _=>False) hs hx (FK_raw hp) (fun _ hk=>hk.elim) (fun _ _=>trivial) (raw_any hR) HB hbase (by rw[hlr];exact hl) ?_;intro v1 w1 hr hb hg hat
 exact h v1 w1 (N_appended h0 hlr hf (ys:=[p]) (news:=[cs]) rfl (fun j y c hy hc=>by
  rcases j with _|j
  (· (simp only[List.getElem?_cons_zero,Option.some.injEq] at hy hc);(rw[← hy,← hc];exact hp))
  ·
   simp at hy) hokp hfresh hr hg hat) hb hg hat
theorem N_append_step (d:Kd α) {w0 W:World} (base:Nat) (hw:Region.wanted o (yielded ops a.tmps)=true) (s x:Operand) (t e:TypeId) (z:Value) (bytes:Nat)
    (ho:o.op = .call { callee := .builtin .append,args:=#[s,x],argTypes:=#[t,t] })
    (ht:P.underlying t=some (.slice e)) (hinfo:(P.info? e).map (fun i=>(i.zero,i.size,i.bytes))=some (some z,d.sz,bytes)) (hz:z.cells.size=d.sz) (hs0:0 < d.sz) (hb0:0 < bytes)
    (v:Value) (xs:List α) (p:α) (cs:List Value) (ok okp:Nat→Prop) (hs:a.eval s=v) (hx:a.eval x = .slice (some ⟨W.heap.size,0,none⟩) 1 1) (hp:FK d W okp p cs) (hokp : ∀ k,okp k→ok k∧some k≠v.ownBlock) (hfresh : ∀ k,W.heap.size≤k→ok k)
    (HO:N d e W base ok v xs) (HB:Below base w0 W) (hbase:base≤W.heap.size) (hl:(xs.length+1) * bytes≤140737488355328)
    (h : ∀ v1 w1,N d e w1 base ok v1 (xs ++ [p])→Below base w0 w1→W.grownBy w1 v.ownBlock→(v1.ownBlock=v.ownBlock ∨ ∃ b,v1.ownBlock=some b∧W.heap.size≤b)→Kc (a.put o.dst v1) w1) :
    if Region.wanted o (yielded ops a.tmps)=true then Oper.wp P o a (W.alloc (.cells cs.toArray e)) Kc Q else Kc (a.put o.dst undef) (W.alloc (.cells cs.toArray e)):=by
 obtain⟨h0,rows,hlr,hR,hf⟩:=HO;refine R_append_step (raw d.sz) base hw s x t e z bytes ho ht hinfo hz hs0 hb0 v rows cs cs (fun _=>True) (fun _=>False) hs hx (FK_raw hp) (fun _ hk=>hk.elim) (fun _ _=>trivial) (raw_any hR) HB hbase (by rw[hlr];exact hl) ?_;intro v1 w1 hr hb hg hat
 exact h v1 w1 (N_appended h0 hlr hf (ys:=[p]) (news:=[cs]) rfl (fun j y c hy hc=>by
  rcases j with _|j
  (· (simp only[List.getElem?_cons_zero,Option.some.injEq] at hy hc);(rw[← hy,← hc];exact hp))
  ·
   simp at hy) hokp hfresh hr hg hat) hb hg hat
theorem N_append_rows (d:Kd α) {w0 W:World} (base:Nat) (hgd:o.guard=none) (s x:Operand) (t e:TypeId) (z:Value) (bytes:Nat)
    (ho:o.op = .call { callee := .builtin .append,args:=#[s,x],argTypes:=#[t,t] })
    (ht:P.underlying t=some (.slice e)) (hinfo:(P.info? e).map (fun i=>(i.zero,i.size,i.bytes))=some (some z,d.sz,bytes)) (hz:z.cells.size=d.sz) (hs0:0 < d.sz) (hb0:0 < bytes)
    (v:Value) (xs ys:List α) (A:Option Addr) (m c:Nat) (ok okp:Nat→Prop) (hs:a.eval s=v) (hx:a.eval x = .slice A m c)
    (HO:N d e W base ok v xs) (HR:F d W okp A m ys) (hokp : ∀ k,okp k→ok k∧some k≠v.ownBlock) (hfresh : ∀ k,W.heap.size≤k→ok k)
    (HB:Below base w0 W) (hbase:base≤W.heap.size) (hl:(xs.length+m) * bytes≤140737488355328)
    (h : ∀ v1 w1,N d e w1 base ok v1 (xs ++ ys)→Below base w0 w1→W.grownBy w1 v.ownBlock→(v1.ownBlock=v.ownBlock ∨ ∃ b,v1.ownBlock=some b∧W.heap.size≤b)→wpList P ops Q rest (a.put o.dst v1) w1) :
    wpList P ops Q (o :: rest) a W:=by
 obtain⟨h0,rows,hlr,hR,hf⟩:=HO;obtain⟨news,hnl,hnr,hnf⟩:=reads_raw (F_rows HR) (fun y c hk=>⟨d.K_len (FK_now hk),d.K_one (FK_now hk)⟩);refine R_append_rows (raw d.sz) base hgd s x t e z bytes ho ht hinfo hz hs0 hb0 v rows news A m c (fun _=>True) (fun _=>False) hs hx (raw_any hR) hnr (fun _ _ hk=>hk) (fun _ hk=>hk.elim) (fun _ _=>trivial) HB hbase (by rw[hlr];exact hl) ?_;intro v1 w1 hr hb hg hat;exact h v1 w1 (N_appended h0 hlr hf hnl hnf hokp hfresh hr hg hat) hb hg hat
theorem N_lit (d:Kd α) {w0 W:World} (base e:Nat) (hgd:o.guard=none) {N':Tmp} (_hd:o.dst=some N') {xs:List α} {inner:List Value} {ok okp:Nat→Prop}
    (hrun:(execOp a.eval o).run P W = .ok (.value (.slice (some ⟨W.heap.size,0,none⟩) xs.length xs.length)) (W.alloc (.cells inner.toArray e)))
    (hrep:Reps (FK d W okp) d.sz xs inner) (hok : ∀ k,okp k→ok k) (hfresh:ok W.heap.size) (HB:Below base w0 W) (hbase:base≤W.heap.size) (hm:xs.length≤9223372036854775807)
    (h : ∀ v1 w1,N d e w1 base ok v1 xs→Below base w0 w1→W.grownBy w1 none→(∃ b,v1.ownBlock=some b∧W.heap.size≤b)→wpList P ops Q rest (a.put o.dst v1) w1) :
    wpList P ops Q (o :: rest) a W:=by
 refine R_lit (raw d.sz) base e hgd _hd (xs:=chunks d.sz xs.length inner) (inner:=inner) (ok:=fun k=>k=W.heap.size) (okp:=fun _=>False) (by rw[chunks_length];exact hrun) (reps_raw hrep (fun y c hk=>⟨d.K_len (FK_now hk),d.K_one (FK_now hk)⟩)) (fun _ hk=>hk.elim) rfl HB hbase (by rw[chunks_length];exact hm) ?_;intro v1 w1 hr hb hg hat;exact h v1 w1 (N_made hr hg hat (chunks_length _ _ _) (fun j y c hy hc=>by rw[chunks_get hc];exact hrep.2 j y hy) hok hfresh) hb hg hat
end
end Kd
end Go.Proofs.YthcnfflhejogfaaDoorW.PrintWords
namespace Go.Proofs.YthcnfflhejogfaaDoorW.PrintMore
open Go.RowKit Go.Proofs.YthcnfflhejogfaaDoorW.PrintWords
namespace Kd
open Go.Proofs.YthcnfflhejogfaaDoorW.PrintWords.Kd
end Kd
namespace Kd
open Go.Proofs.YthcnfflhejogfaaDoorW.PrintWords.Kd
section
variable {α:Type} {d:Kd α} {e base g N:Nat} {ok:Nat→Prop} {W w1:World} {u v:Value} {xs:List α}
end
end Kd
theorem max2_int (k k':IntKind) (x y:Int):Builtin.max2 (.int k x) (.int k' y)=pure (.int k (if x < y then y else x)):=by simp only[Builtin.max2,gt_iff_lt]
theorem min2_int (k k':IntKind) (x y:Int):Builtin.min2 (.int k x) (.int k' y)=pure (.int k (if y < x then y else x)):=by simp only[Builtin.min2]
theorem max_two (ats:Array TypeId) (ty:TypeId) (a b:Value):Builtin.max_ ats ty #[a,b]=(Builtin.max2 a b >>= fun s=>pure s):=by simp only[Builtin.max_,List.foldlM_cons,List.foldlM_nil]
theorem min_two (ats:Array TypeId) (ty:TypeId) (a b:Value):Builtin.min_ ats ty #[a,b]=(Builtin.min2 a b >>= fun s=>pure s):=by simp only[Builtin.min_,List.foldlM_cons,List.foldlM_nil]
theorem max_three (ats:Array TypeId) (ty:TypeId) (a b c:Value):Builtin.max_ ats ty #[a,b,c]=(Builtin.max2 a b >>= fun s=>Builtin.max2 s c >>= fun s=>pure s):=by simp only[Builtin.max_,List.foldlM_cons,List.foldlM_nil]
theorem min_three (ats:Array TypeId) (ty:TypeId) (a b c:Value):Builtin.min_ ats ty #[a,b,c]=(Builtin.min2 a b >>= fun s=>Builtin.min2 s c >>= fun s=>pure s):=by simp only[Builtin.min_,List.foldlM_cons,List.foldlM_nil]
theorem max_four (ats:Array TypeId) (ty:TypeId) (a b c d:Value):Builtin.max_ ats ty #[a,b,c,d]=(Builtin.max2 a b >>= fun s=>Builtin.max2 s c >>= fun s=>Builtin.max2 s d >>= fun s=>pure s):=by simp only[Builtin.max_,List.foldlM_cons,List.foldlM_nil]
theorem min_four (ats:Array TypeId) (ty:TypeId) (a b c d:Value):Builtin.min_ ats ty #[a,b,c,d]=(Builtin.min2 a b >>= fun s=>Builtin.min2 s c >>= fun s=>Builtin.min2 s d >>= fun s=>pure s):=by simp only[Builtin.min_,List.foldlM_cons,List.foldlM_nil]
end Go.Proofs.YthcnfflhejogfaaDoorW.PrintMore
namespace Go.Proofs.YthcnfflhejogfaaDoorW.PrintWords
open Go.RowKit
section
variable {P:Program} {ops:Array Oper} {rest:List Oper} {o:Oper} {a:Act} {Q:Exit→Act→World→Prop} {W:World}
theorem gate_callee {f:FuncId} {as:Array Operand} {ts:Array TypeId} (_ho:o.op = .call { callee := .value (.func f),args:=as,argTypes:=ts }) (h:wpList P ops Q (o :: rest) a W):wpList P ops Q (o :: rest) a W:=h
theorem gate_builtin {b:Builtin} {xs:Array Operand} {ts:Array TypeId} (_ho:o.op = .call { callee := .builtin b,args:=xs,argTypes:=ts }) (h:wpList P ops Q (o :: rest) a W):wpList P ops Q (o :: rest) a W:=h
end
def mx (a b:Int):Int:=if a < b then b else a
theorem drewN_self (w:World) (n:Nat):w.drewN n=w.drewN n:=rfl
namespace Kd
section
variable {α:Type} {d:Kd α} {e base:Nat} {ok:Nat→Prop} {W w1:World} {v:Value} {xs:List α}
end
section
variable {α:Type} {d:Kd α} {e base g n cap:Nat} {ok oki okp:Nat→Prop} {W:World} {xs:List α} {i:Int} {c:List Value}
end
section
variable {α:Type} {d:Kd α} {e base b b' g N:Nat} {ok ok1:Nat→Prop} {W W2 w1:World} {u v:Value} {xs ys:List α} {S:Nat→Prop}
theorem R_keptB (h:d.R e W base ok v xs) (hk:Kept W W2 S) (hne : ∀ k,ok k → ¬ S k):d.R e W2 base (fun k=>ok k∧(¬ S k∧k < W.heap.size)) v xs :=
  R_kept (R_mono (R_bound h) (fun k hk=>⟨hk.1,hne k hk.1,hk.2.2.1⟩)) hk (fun _ hk=>hk.2.1)
theorem S_keptB (h:Kd.S d e W base ok v xs) (hk:Kept W W2 S) (hne : ∀ k,ok k → ¬ S k):Kd.S d e W2 base (fun k=>ok k∧(¬ S k∧k < W.heap.size)) v xs :=
  S_kept (S_mono (S_bound h) (fun k hk=>⟨hk.1,hne k hk.1,hk.2.2.1⟩)) hk (fun _ hk=>hk.2.1)
end
end Kd
end Go.Proofs.YthcnfflhejogfaaDoorW.PrintWords
namespace Go.Proofs.YthcnfflhejogfaaDoorW.PrintWords
open Go.RowKit
namespace Kd
def V {α:Type} (d:Kd α) (_e:Nat) (W:World) (_base:Nat) (ok:Nat→Prop) (v:Value) (xs:List α):Prop := ∃ A c,v = .slice A xs.length c∧xs.length≤c∧F d W ok A xs.length xs
section
variable {α β:Type} {d:Kd α} {e base base' n m c g N' lo hi:Nat} {ok ok' S:Nat→Prop} {w W w1:World} {A:Option Addr} {ad:Addr} {u v v1:Value} {xs:List α}
theorem V_map (h:V d e W base ok v xs) (hF : ∀ A,F d W ok A xs.length xs→F d w1 ok' A xs.length xs):V d e w1 base' ok' v xs:=by
 obtain⟨A,c,hv,hl,hf⟩:=h;exact⟨A,c,hv,hl,hF A hf⟩
theorem V_mk (hl:xs.length≤c) (hf:F d W ok A xs.length xs):V d e W base ok (.slice A xs.length c) xs:=⟨A,c,rfl,hl,hf⟩
theorem V_slice (h:V d e W base ok v xs) : ∃ A c,v = .slice A xs.length c:=by
 obtain⟨A,c,hv,_⟩:=h;exact⟨A,c,hv⟩
theorem V_at (h:V d e W base ok (.slice A n c) xs):n=xs.length∧n≤c∧F d W ok A xs.length xs:=by
 obtain⟨A',c',hv,hl,hf⟩:=h;(injection hv with ha hn hc);(subst ha;subst hc);exact⟨hn,by rw[hn];exact hl,hf⟩
theorem V_reads' (h:V d e W base ok (.slice A n c) xs):n=xs.length∧n≤c∧d.C W A xs.length xs:=⟨(V_at h).1,(V_at h).2.1,F_now (V_at h).2.2⟩
theorem V_F (h:V d e W base ok (.slice A n c) xs):F d W ok A n xs:=by
 obtain⟨hn,_,hf⟩:=V_at h;rw[hn];exact hf
theorem V_nil (d:Kd α) (e:Nat) (W:World) (base:Nat) (ok:Nat→Prop):V d e W base ok (.slice none 0 0) []:=⟨none,0,rfl,Nat.le_refl _,F_nil d W ok⟩
theorem R_V (h:d.R e W base ok v xs):V d e W base' ok v xs:=by
 obtain⟨A,c,rfl⟩:=R_slice h;exact⟨A,c,rfl,(R_reads' h).2.1,R_F h⟩
theorem N_V (h:N d e W base ok v xs):V d e W base' ok v xs:=by
 obtain⟨A,c,rfl⟩:=N_slice h;exact⟨A,c,rfl,(N_reads' h).2.1,N_F h⟩
theorem V_mono (h:V d e W base ok v xs) (hok : ∀ k,ok k→ok' k):V d e W base ok' v xs:=V_map h (fun _ hf=>F_mono hf hok)
theorem V_lower (h:V d e W base ok v xs) (_:base'≤base):V d e W base' ok v xs:=h
theorem V_below (h:V d e W base ok v xs) (hb:Below W.heap.size W w1):V d e w1 base ok v xs:=V_map h (fun _ hf=>F_below hf hb)
theorem V_alloc (h:V d e W base ok v xs) (o:Obj):V d e (W.alloc o) base ok v xs:=V_map h (fun _ hf=>F_alloc hf o)
theorem V_drew (h:V d e W base ok v xs):V d e W.drew base ok v xs:=V_map h (fun _ hf=>F_drew hf)
theorem V_drewN (h:V d e W base ok v xs) (m:Nat):V d e (W.drewN m) base ok v xs:=V_map h (fun _ hf=>F_drewN hf m)
theorem V_far (h:V d e W base ok v xs) {p:Addr} (hok : ∀ k,ok k→k≠p.block) (u:Value):V d e (W.setCell p u) base ok v xs:=V_map h (fun _ hf=>F_far hf hok u)
theorem V_after (h:V d e W base (fun k=>ok k∧some k≠u.ownBlock) v xs) (hg:W.grownBy w1 u.ownBlock) (hat:v1.ownBlock=u.ownBlock ∨ ∃ b,v1.ownBlock=some b∧W.heap.size≤b):V d e w1 base (fun k=>ok k∧some k≠v1.ownBlock) v xs:=V_map h (fun _ hf=>F_after hf hg hat)
theorem V_afterv (h:V d e W base (fun k=>ok k∧some k≠v.ownBlock) u xs) (hg:W.grownBy w1 v.ownBlock) (hat:v1.ownBlock=v.ownBlock ∨ ∃ b,v1.ownBlock=some b∧W.heap.size≤b):V d e w1 base (fun k=>ok k∧some k≠v1.ownBlock) u xs:=V_after h hg hat
theorem N_afterv (h:N d e W base (fun k=>ok k∧some k≠v.ownBlock) u xs) (hg:W.grownBy w1 v.ownBlock) (hat:v1.ownBlock=v.ownBlock ∨ ∃ b,v1.ownBlock=some b∧W.heap.size≤b):N d e w1 base (fun k=>ok k∧some k≠v1.ownBlock) u xs:=N_after h hg hat
theorem V_elder' (h:V d e W base ok v xs) (hbase : ∀ k,u.ownBlock=some k→W.heap.size≤k) (hb:Below W.heap.size W w1):V d e w1 base (fun k=>ok k∧some k≠u.ownBlock) v xs:=V_map h (fun _ hf=>F_elder' hf hbase hb)
theorem V_elderB (h:V d e W base ok v xs) (a:Nat) (ha:W.heap.size≤a):V d e W base (fun k=>ok k∧k≠a) v xs:=V_map h (fun _ hf=>F_elderB hf a ha)
theorem F_take (h:F d W ok A xs.length xs) (hm:m≤xs.length):F d W ok A (xs.take m).length (xs.take m):=F_imp h (fun _ hC=>C_take hC hm)
theorem F_mid (h:F d W ok A xs.length xs) (h1:lo≤hi) (h2:hi≤xs.length) (hc:xs.length≤c):F d W ok (if c=lo then A else A.map (·.add (lo * d.sz))) ((xs.take hi).drop lo).length ((xs.take hi).drop lo):=F_imp h (fun _ hC=>C_mid hC h1 h2 hc)
theorem FK_slice_open {l:List α} {cs:List Value} (h:FK (Kd.slice e d) W ok l cs) : ∃ A c,cs=[.slice A l.length c]∧l.length≤c∧F d W ok A l.length l:=by
 obtain⟨A,c,rfl,hl,_⟩:=FK_now h;refine⟨A,c,rfl,hl,fun W' hW=>?_⟩;obtain⟨A',c',he,_,g'⟩:=h W' hW;(injection he with he _);(injection he with ha _ _);rw[ha];exact g'
theorem FK_slice_mk {l:List α} (hl:l.length≤c) (hf:F d W ok A l.length l):FK (Kd.slice e d) W ok l [.slice A l.length c]:=fun W' hW=>⟨A,c,rfl,hl,hf W' hW⟩
theorem R_newM {M:Nat→Prop} (h:d.R e w1 W.heap.size ok v xs) (hle:w.heap.size≤W.heap.size) (hM : ∀ k,w.heap.size≤k→M k):d.R e w1 W.heap.size (fun k=>M k∧ok k) v xs:=R_mono (R_bound h) (fun k hk=>⟨hM k (Nat.le_trans hle hk.2.1),hk.1⟩)
end
end Kd
end Go.Proofs.YthcnfflhejogfaaDoorW.PrintWords
