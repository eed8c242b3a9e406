/-
  Parts of one proof, one behind the other: XRefA, XLcs5, XLcs6, XLcs7, XChunks, XRefL, XMerge1, XMerge2, XMerge3, XMerge4, XMerge5, XKn1, XLn1.
-/
import Derived.Test.YtbbhdbeaikclcaaGreatBMergeChunks6
import Derived.Tactics2
import Derived.Defers
import Derived.Laws.Pointers
import Derived.Laws.LoneSync
import Derived.RegionTactic
import Derived.RegionCalls
import Derived.Laws.NewBlocks
import Derived.RangeFuncBox
import Derived.Shelf.RegionOpen
import Derived.WalkKit
import Derived.OwnWalkIn
import Derived.TacticsInMore
import Derived.LoopNIn
import Derived.LoopIn
import Derived.Maps.OwnIn
import Derived.Maps.AppendAt
set_option linter.unusedVariables false
set_option linter.unusedSimpArgs false
namespace Go.Proofs.YtbbhdbeaikclcaaGreat.X
open Go.RowKit Go.Proofs.YtbbhdbeaikclcaaGreatW.PrintWords Go.Proofs.YtbbhdbeaikclcaaGreatW.PrintLast Go.Proofs.YtbbhdbeaikclcaaGreatW.PrintMore
theorem rdK (l:List Int) (k:Nat):rd l (k:Int)=l.getD k 0:=by simp [rd]
theorem rdLK {ms:List (List Int)} {i:Nat} (h:i < ms.length):rd_L16 ms (i:Int)=ms[i]:=getN h
theorem stable_cons (x:List Int) (r:List (List Int)) (k:Nat):stableB (x :: r) k=(decide (0≤x.getD k 0) && stableB r k):=rfl
/-- All values are -1 at least, and not too great. -/
def ValsIn (ms:List (List Int)):Prop := ∀ l ∈ ms,∀ i, -1≤l.getD i 0∧l.getD i 0≤1000000
section
variable {ms:List (List Int)} {m k:Nat}
theorem ref_stable05_l0 (hl:AllLen ms m) (hv:ValsIn ms) (hk:k < m) (hn:ms.length≤1000000) : ∀ (r i:Nat),i+r=ms.length→Gives (fun K=>sennitref05_stable.l0 K ms (k:Int) (i:Int)) (stableB (ms.drop i) k)
 | 0,i,hi=>Gives.of fun K=>by
  show sennitref05_stable.l0 (K+1) ms (k:Int) (i:Int)=_;(rw [sennitref05_stable.l0,if_neg (by omega),List.drop_of_length_le (by omega)];rfl)
 | r+1,i,hi=>by
  (have hil:i < ms.length:=by omega);have hlen:ms[i].length=m:=hl _ (List.getElem_mem hil);have hvi:=hv _ (List.getElem_mem hil) k;rw [dropCons hil,stable_cons]
  by_cases e:ms[i].getD k 0 = -1
  (· (refine Gives.of fun K=>?_);show sennitref05_stable.l0 (K+1) ms (k:Int) (i:Int)=_;(rw [sennitref05_stable.l0,if_pos (by omega),if_pos (by omega),if_pos (by omega),rdLK hil,if_pos (by omega),rdK,if_pos e,decide_eq_false (by omega)];rfl));(· (refine (ref_stable05_l0 hl hv hk hn r (i+1) (by omega)).eq (by rw [decide_eq_true (by omega),Bool.true_and]) |>.step fun K=>?_);show sennitref05_stable.l0 (K+1) ms (k:Int) (i:Int)=_;rw [sennitref05_stable.l0,if_pos (by omega),if_pos (by omega),if_pos (by omega),rdLK hil,if_pos (by omega),rdK,if_neg e,gw1 (by omega)])
theorem ref_stable05 (hl:AllLen ms m) (hv:ValsIn ms) (hk:k < m) (hn:ms.length≤1000000):Gives (fun K=>sennitref05_stable.f K ms (k:Int)) (stableB ms k):=by
 (refine (ref_stable05_l0 hl hv hk hn ms.length 0 (by omega)).same fun K=>?_);show sennitref05_stable.f K ms (k:Int)=_;(rw [sennitref05_stable.f];rfl)
def nextB (ms:List (List Int)) (k:Nat):Bool:=ms.all (fun l=>decide (l.getD k 0=l.getD (k - 1) 0+1))
theorem next_cons (x:List Int) (r:List (List Int)) (k:Nat):nextB (x :: r) k=(decide (x.getD k 0=x.getD (k - 1) 0+1) && nextB r k):=rfl
/-- Does a place go on from the one ahead, that is stable? -/
def togB (ms:List (List Int)) (k:Nat):Bool:=decide (0 < k) && stableB ms (k - 1) && nextB ms k
theorem ref_tog05_l0 (hl:AllLen ms m) (hv:ValsIn ms) (hk:k < m) (hm:m≤1000000) (h0:0 < k) (hn:ms.length≤1000000) : ∀ (r i:Nat),i+r=ms.length→Gives (fun K=>sennitref05_together.l0 K ms (k:Int) (i:Int)) (nextB (ms.drop i) k)
 | 0,i,hi=>Gives.of fun K=>by
  show sennitref05_together.l0 (K+1) ms (k:Int) (i:Int)=_;(rw [sennitref05_together.l0,if_neg (by omega),List.drop_of_length_le (by omega)];rfl)
 | r+1,i,hi=>by
  (have hil:i < ms.length:=by omega);have hlen:ms[i].length=m:=hl _ (List.getElem_mem hil);have hvi:=hv _ (List.getElem_mem hil) (k - 1);(have ek:wrap64 ((k:Int) - 1)=((k - 1:Nat):Int):=by rw [gw (by omega) (by omega)];omega);have ev:wrap64 (ms[i].getD (k - 1) 0+1)=ms[i].getD (k - 1) 0+1:=gw (by omega) (by omega);rw [dropCons hil,next_cons]
  by_cases e:ms[i].getD k 0=ms[i].getD (k - 1) 0+1
  (· (refine (ref_tog05_l0 hl hv hk hm h0 hn r (i+1) (by omega)).eq (by rw [decide_eq_true e,Bool.true_and]) |>.step fun K=>?_);show sennitref05_together.l0 (K+1) ms (k:Int) (i:Int)=_;rw [sennitref05_together.l0,if_pos (by omega),if_pos (by omega),if_pos (by omega),rdLK hil,if_pos (by omega),ek,if_pos (by omega),if_pos (by omega),rdK,rdK,ev,if_pos e,gw1 (by omega)]);(· (refine Gives.of fun K=>?_);show sennitref05_together.l0 (K+1) ms (k:Int) (i:Int)=_;(rw [sennitref05_together.l0,if_pos (by omega),if_pos (by omega),if_pos (by omega),rdLK hil,if_pos (by omega),ek,if_pos (by omega),if_pos (by omega),rdK,rdK,ev,if_neg e,decide_eq_false e];rfl))
theorem ref_tog05 (hl:AllLen ms m) (hv:ValsIn ms) (hk:k < m) (hm:m≤1000000) (hn:ms.length≤1000000):Gives (fun K=>sennitref05_together.f K ms (k:Int)) (togB ms k):=by
 have hno:Gives (fun K=>sennitref05_together.j0 K ms (k:Int) true) false:=Gives.of fun K=>by
  show sennitref05_together.j0 (K+1) ms (k:Int) true=_;rw [sennitref05_together.j0,if_pos rfl]
 by_cases h0:k=0
 (· (have e:togB ms k=false:=by rw [togB,decide_eq_false (by omega)];rfl);rw [e];(refine hno.same fun K=>?_);show sennitref05_together.f K ms (k:Int)=_;rw [sennitref05_together.f,if_pos (by omega)])
 ·
  (have ek:wrap64 ((k:Int) - 1)=((k - 1:Nat):Int):=by rw [gw (by omega) (by omega)];omega);have hs:=ref_stable05 (k:=k - 1) hl hv (by omega) hn
  cases hb:stableB ms (k - 1) with
  | false =>
   (rw [hb] at hs);(have e:togB ms k=false:=by rw [togB,hb,Bool.and_false];rfl);rw [e];(refine Gives.call0 hs hno fun K hK=>?_);show sennitref05_together.f K ms (k:Int)=_;(rw [sennitref05_together.f,if_neg (by omega),ek,hK,Option.bind_some];rfl)
  | true =>
   (rw [hb] at hs);(have e:togB ms k=nextB ms k:=by rw [togB,hb,decide_eq_true (by omega)];simp);rw [e];have hgo:=ref_tog05_l0 hl hv hk hm (by omega) hn ms.length 0 (by omega);(refine Gives.call0 hs (hgo.step (f:=fun K=>sennitref05_together.j0 K ms (k:Int) false) fun K=>?_) fun K hK=>?_);(· show sennitref05_together.j0 (K+1) ms (k:Int) false=_;(rw [sennitref05_together.j0,if_neg (by decide)];rfl));(· show sennitref05_together.f K ms (k:Int)=_;(rw [sennitref05_together.f,if_neg (by omega),ek,hK,Option.bind_some];rfl))
/-- The places that one of the base is paired with, and so many behind. -/
def placesR (ms:List (List Int)) (k:Nat) (more:Int):List Int:=ms.map (fun l=>l.getD k 0+more)
theorem placesR_len (ms:List (List Int)) (k:Nat) (more:Int):(placesR ms k more).length=ms.length:=by rw [placesR,List.length_map]
theorem ref_places05 (hl:AllLen ms m) (hv:ValsIn ms) (hk:k < m) (hn:ms.length≤1000000) (more:Int) (h0:0≤more) (h1:more≤1):Gives (fun K=>sennitref05_places.f K ms (k:Int) more) (placesR ms k more):=by
 have key : ∀ (r i:Nat),i+r=ms.length→Gives (fun K=>sennitref05_places.l0 K ms (k:Int) more (placesR (ms.take i) k more) (i:Int)) (placesR ms k more):=by
  intro r
  induction r with
  | zero =>
   intro i hi;(refine Gives.of fun K=>?_);show sennitref05_places.l0 (K+1) ms (k:Int) more _ (i:Int)=_;rw [sennitref05_places.l0,if_neg (by omega),List.take_of_length_le (by omega)]
  | succ r ih =>
   intro i hi;(have hil:i < ms.length:=by omega);have hlen:ms[i].length=m:=hl _ (List.getElem_mem hil);have hvi:=hv _ (List.getElem_mem hil) k;(have hlp:(placesR (ms.take i) k more).length=i:=by rw [placesR_len,List.length_take];omega);(have e:placesR (ms.take (i+1)) k more=placesR (ms.take i) k more ++ [ms[i].getD k 0+more]:=by rw [placesR,← List.take_append_getElem hil,List.map_append];rfl);have:=ih (i+1) (by omega);(rw [e] at this);(refine this.step fun K=>?_);show sennitref05_places.l0 (K+1) ms (k:Int) more _ (i:Int)=_;rw [sennitref05_places.l0,if_pos (by omega),if_pos (by omega),if_pos (by omega),rdLK hil,if_pos (by omega),if_pos (by rw [hlp];omega),rdK,gw (by omega) (by omega),gw1 (by omega)]
 (refine (key ms.length 0 (by omega)).same fun K=>?_);show sennitref05_places.f K ms (k:Int) more=_;(rw [sennitref05_places.f];rfl)
end
/-- Where a chunk's sides end; ahead of the first one all are at 0. -/
def endsOf (l:List Spanx) (n:Nat):List Int:=if l=[] then List.replicate n 0 else l.map (·.f1)
theorem endsOf_len {l:List Spanx} {n:Nat} (h:l=[]∨l.length=n):(endsOf l n).length=n:=by
 rw [endsOf];split;(· exact List.length_replicate);(· rename_i h1;rw [List.length_map];exact h.resolve_left h1)
def chunkR (last:Chunk) (base:Int) (sides:List Int):Chunk:=⟨false,⟨last.f1.f1,base⟩,spansF (endsOf last.f2 sides.length) sides (endsOf last.f2 sides.length).length⟩
theorem chunkR_len (last:Chunk) (base:Int) {sides:List Int} {n:Nat} (hs:sides.length=n) (h:last.f2=[]∨last.f2.length=n):(chunkR last base sides).f2.length=n:=by
 subst hs;show (spansF _ _ _).length=_;rw [spansF_len (by rw [endsOf_len h]) (Nat.le_refl _),endsOf_len h]
theorem ref_chunk05 (last:Chunk) (base:Int) (sides:List Int) (h:last.f2=[]∨last.f2.length=sides.length) (hn:sides.length≤1000000) :
    Gives (fun K=>sennitref05_chunk.f K last.f0 last.f1.f0 last.f1.f1 last.f2 base sides) ((chunkR last base sides).f0,(chunkR last base sides).f1.f0,(chunkR last base sides).f1.f1,(chunkR last base sides).f2):=by
 have hE:=endsOf_len h;obtain ⟨E,hEE⟩ : ∃ E,endsOf last.f2 sides.length=E:=⟨_,rfl⟩
 have key : ∀ (r i:Nat),i+r=sides.length→Gives (fun K=>sennitref05_chunk.l0 K sides (i:Int) last.f0 last.f1.f0 last.f1.f1 last.f2 false last.f1.f1 base (spansF E sides i)) (false,last.f1.f1,base,spansF E sides E.length):=by
  (rw [hEE] at hE);intro r
  induction r with
  | zero =>
   intro i hi;(refine Gives.of fun K=>?_);show sennitref05_chunk.l0 (K+1) sides (i:Int) last.f0 last.f1.f0 last.f1.f1 last.f2 false last.f1.f1 base (spansF E sides i)=_;rw [sennitref05_chunk.l0,if_neg (by omega),show i=E.length by omega]
  | succ r ih =>
   intro i hi;have:=ih (i+1) (by omega);(rw [spansF_succ (by omega) (by omega)] at this);(refine this.step fun K=>?_);show sennitref05_chunk.l0 (K+1) sides (i:Int) last.f0 last.f1.f0 last.f1.f1 last.f2 false last.f1.f1 base (spansF E sides i)=_;have hsp:(spansF E sides i).length=i:=spansF_len (by omega) (by omega);rw [sennitref05_chunk.l0,if_pos (by omega)]
   by_cases h0:last.f2=[]
   ·
    have eE:E.getD i 0=0:=by
     rw [← hEE,endsOf,if_pos h0,List.getD_eq_getElem?_getD,List.getElem?_replicate];(split <;> rfl)
    rw [if_neg (by rw [h0];decide),if_pos (by omega),if_pos (by rw [hsp];omega),gw1 (by omega),eE,rdK]
   ·
    have hlen:last.f2.length=sides.length:=h.resolve_left h0
    have eE:E.getD i 0=(rd_T45 last.f2 (i:Int)).f1:=by
     (have hi2:i < last.f2.length:=by omega);have e1:rd_T45 last.f2 (i:Int)=last.f2[i]'hi2:=getN hi2;(have e2:endsOf last.f2 sides.length=last.f2.map (·.f1):=by rw [endsOf,if_neg h0]);rw [e1,← hEE,e2,getD_get (by rw [List.length_map];exact hi2),List.getElem_map]
    rw [if_pos (by omega),if_pos (by omega),if_pos (by omega),if_pos (by rw [hsp];omega),gw1 (by omega),eE,rdK]
 (have h0:spansF E sides 0=[]:=by rw [spansF,List.take_zero]);have:=key sides.length 0 (by omega);(rw [h0] at this);(refine (this.eq (by rw [chunkR,hEE])).same fun K=>?_);show sennitref05_chunk.f K last.f0 last.f1.f0 last.f1.f1 last.f2 base sides=_;(rw [sennitref05_chunk.f];rfl)
/-- Is there nothing in a chunk? -/
def emptyB (c:Chunk):Bool := !(decide (c.f1.f0 < c.f1.f1) || c.f2.any (fun s=>decide (s.f0 < s.f1)))
theorem ref_empty05 (c:Chunk) (hn:c.f2.length≤1000000):Gives (fun K=>sennitref05_Empty.f K c.f0 c.f1.f0 c.f1.f1 c.f2) (emptyB c):=by
 have key : ∀ (r i:Nat) (x:Bool),i+r=c.f2.length→Gives (fun K=>sennitref05_Empty.l0 K x (i:Int) c.f0 c.f1.f0 c.f1.f1 c.f2) (!(x || (c.f2.drop i).any (fun s=>decide (s.f0 < s.f1)))):=by
  intro r
  induction r with
  | zero =>
   intro i x hi;(refine Gives.of fun K=>?_);show sennitref05_Empty.l0 (K+1) x (i:Int) c.f0 c.f1.f0 c.f1.f1 c.f2=_;rw [sennitref05_Empty.l0,if_neg (by omega),List.drop_of_length_le (by omega),List.any_nil,Bool.or_false]
  | succ r ih =>
   intro i x hi;(have hil:i < c.f2.length:=by omega);have e1:rd_T45 c.f2 (i:Int)=c.f2[i]:=getN hil;rw [dropCons hil,List.any_cons]
   cases x with
   | true =>
    (refine ((ih (i+1) true (by omega)).eq (by rw [Bool.true_or,Bool.true_or])).step fun K=>?_);show sennitref05_Empty.l0 (K+1) true (i:Int) c.f0 c.f1.f0 c.f1.f1 c.f2=_;rw [sennitref05_Empty.l0,if_pos (by omega),if_pos rfl,gw1 (by omega)]
   | false =>
    (refine ((ih (i+1) (decide (c.f2[i].f0 < c.f2[i].f1)) (by omega)).eq (by rw [Bool.false_or])).step fun K=>?_);show sennitref05_Empty.l0 (K+1) false (i:Int) c.f0 c.f1.f0 c.f1.f1 c.f2=_;rw [sennitref05_Empty.l0,if_pos (by omega),if_neg (by decide),if_pos (by omega),e1,gw1 (by omega)]
 (refine (key c.f2.length 0 (decide (c.f1.f0 < c.f1.f1)) (by omega)).same fun K=>?_);show sennitref05_Empty.f K c.f0 c.f1.f0 c.f1.f1 c.f2=_;(rw [sennitref05_Empty.f];rfl)
def joinR (a b:Chunk):Chunk:=⟨a.f0,⟨a.f1.f0,b.f1.f1⟩,List.zipWith (fun x y=>(⟨x.f0,y.f1⟩:Spanx)) a.f2 b.f2⟩
theorem joinR_len {a b:Chunk} {n:Nat} (ha:a.f2.length=n) (hb:b.f2.length=n):(joinR a b).f2.length=n:=by
 show (List.zipWith _ _ _).length=_;rw [List.length_zipWith,ha,hb,Nat.min_self]
theorem ref_longer05 (a b:Chunk) (h:a.f2.length=b.f2.length) (hn:a.f2.length≤1000000) :
    Gives (fun K=>sennitref05_longer.f K a.f0 a.f1.f0 a.f1.f1 a.f2 b.f0 b.f1.f0 b.f1.f1 b.f2) ((joinR a b).f0,(joinR a b).f1.f0,(joinR a b).f1.f1,(joinR a b).f2):=by
 obtain ⟨Z,hZ⟩ : ∃ Z,List.zipWith (fun x y=>(⟨x.f0,y.f1⟩:Spanx)) a.f2 b.f2=Z:=⟨_,rfl⟩;(have hZl:Z.length=a.f2.length:=by rw [← hZ,List.length_zipWith,h,Nat.min_self])
 have key : ∀ (r i:Nat),i+r=a.f2.length→Gives (fun K=>sennitref05_longer.l0 K (i:Int) a.f0 a.f1.f0 a.f1.f1 a.f2 b.f0 b.f1.f0 b.f1.f1 b.f2 a.f0 a.f1.f0 b.f1.f1 (Z.take i)) (a.f0,a.f1.f0,b.f1.f1,Z):=by
  intro r
  induction r with
  | zero =>
   intro i hi;(refine Gives.of fun K=>?_);show sennitref05_longer.l0 (K+1) (i:Int) a.f0 a.f1.f0 a.f1.f1 a.f2 b.f0 b.f1.f0 b.f1.f1 b.f2 a.f0 a.f1.f0 b.f1.f1 (Z.take i)=_;rw [sennitref05_longer.l0,if_neg (by omega),List.take_of_length_le (by omega)]
  | succ r ih =>
   intro i hi;(have hil:i < Z.length:=by omega);have e0:rd_T45 a.f2 (i:Int)=a.f2[i]:=getN (by omega);have e1:rd_T45 b.f2 (i:Int)=b.f2[i]:=getN (by omega)
   have e2:Z[i]=⟨a.f2[i].f0,b.f2[i].f1⟩:=by
    simp only [← hZ,List.getElem_zipWith]
   have:=ih (i+1) (by omega);(rw [← List.take_append_getElem hil,e2] at this);(refine this.step fun K=>?_);show sennitref05_longer.l0 (K+1) (i:Int) a.f0 a.f1.f0 a.f1.f1 a.f2 b.f0 b.f1.f0 b.f1.f1 b.f2 a.f0 a.f1.f0 b.f1.f1 (Z.take i)=_;rw [sennitref05_longer.l0,if_pos (by omega),if_pos (by omega),if_pos (by omega),if_pos (by rw [List.length_take];omega),e0,e1,gw1 (by omega)]
 have:=key a.f2.length 0 (by omega);(rw [List.take_zero] at this);(refine (this.eq (by rw [joinR,hZ])).same fun K=>?_);show sennitref05_longer.f K a.f0 a.f1.f0 a.f1.f1 a.f2 b.f0 b.f1.f0 b.f1.f1 b.f2=_;(rw [sennitref05_longer.f];rfl)
theorem ref_may05 {ms:List (List Int)} {sizes:List Int} {m:Nat} (hn:sizes.length=ms.length) (h1:1≤ms.length) (h2:ms.length≤16) (hl:AllLen ms m) (hmay : ∀ i (h:i < ms.length),Gives (fun K=>sennitref04_May.f K ms[i] (sizes.getD i 0)) true):Gives (fun K=>sennitref05_may.f K (m:Int) sizes ms) true:=by
 have key : ∀ (r i:Nat),i+r=ms.length→Gives (fun K=>sennitref05_may.l0 K (m:Int) sizes ms (i:Int)) true:=by
  intro r
  induction r with
  | zero =>
   intro i hi;(refine Gives.of fun K=>?_);show sennitref05_may.l0 (K+1) (m:Int) sizes ms (i:Int)=_;rw [sennitref05_may.l0,if_neg (by omega)]
  | succ r ih =>
   intro i hi;(have hil:i < ms.length:=by omega);have hlen:ms[i].length=m:=hl _ (List.getElem_mem hil);(refine Gives.call (hmay i hil) (ih (i+1) (by omega)) fun K hK=>?_);show sennitref05_may.l0 (K+1) (m:Int) sizes ms (i:Int)=_;rw [sennitref05_may.l0,if_pos (by omega),if_pos (by omega),rdLK hil,if_pos (by omega),if_pos (by omega),rdK,hK,Option.bind_some,if_pos rfl,gw1 (by omega)]
 (refine ((key ms.length 0 (by omega)).step (f:=fun K=>sennitref05_may.j0 K (m:Int) sizes ms false) fun K=>?_).same fun K=>?_);(· show sennitref05_may.j0 (K+1) (m:Int) sizes ms false=_;(rw [sennitref05_may.j0,if_neg (by decide)];rfl));(· show sennitref05_may.f K (m:Int) sizes ms=_;rw [sennitref05_may.f,if_neg (by omega),if_neg (by omega),hn,bne_self_eq_false])
theorem race_disable (w:World):(callFunc 135 #[]).run Tryz.prog w = .ok (.value (.tuple #[])) w:=run_call_mark0 Tryz.func135 (by kernel_rfl) (by kernel_rfl) (by kernel_rfl) .disable (by kernel_rfl) w
theorem race_enable (w:World):(callFunc 137 #[]).run Tryz.prog w = .ok (.value (.tuple #[])) w:=run_call_mark0 Tryz.func137 (by kernel_rfl) (by kernel_rfl) (by kernel_rfl) .enable (by kernel_rfl) w
theorem race_acquire (a:Addr) (w:World):(callFunc 138 #[.pointer (some a)]).run Tryz.prog w = .ok (.value (.tuple #[])) w:=run_call_marked Tryz.func138 (by kernel_rfl) (by kernel_rfl) (by kernel_rfl) .acquire (by kernel_rfl) a w
theorem race_releaseMerge (a:Addr) (w:World):(callFunc 140 #[.pointer (some a)]).run Tryz.prog w = .ok (.value (.tuple #[])) w:=run_call_marked Tryz.func140 (by kernel_rfl) (by kernel_rfl) (by kernel_rfl) .releaseMerge (by kernel_rfl) a w
theorem store_deferred (a:Addr) (x:Value) (u:FrameMode) (w:World) (hc:w.cell? a=some x) (hz:w.frozen? a=false) :
    CallsD Tryz.prog 125 #[.pointer (some a), .bool true] u w fun e u' w'=>u'=u∧(e = .returned (.tuple #[])∧w'=w.drew.setCell a (.int .u32 1)):=by
 (have hc':w.drew.cell? a=some x:=by go_simp);(have hz':w.drew.frozen? a=false:=by go_simp);have hst:=run_call_store (P:=Tryz.prog) Tryz.func132 (by kernel_rfl) (by kernel_rfl) (by kernel_rfl) (by kernel_rfl) (k := .u32) (y:=1) hc' hz'
 go_enter_d Tryz.func125,Tryz.ntmps125
 go_wp2
 go_region_calls
 (all_goals (go_end0;exact ⟨rfl,rfl⟩))
set_option maxRecDepth 100000 in
theorem unlock_deferred (a:Addr) (u:FrameMode) (w:World) (hc:w.cell? a=some (.int .i32 1)) (hz:w.frozen? a=false) :
    CallsD Tryz.prog 124 #[.pointer (some a)] u w fun e u' w'=>u'=u∧(e = .returned (.tuple #[])∧w'=w.setCell a (.int .i32 0)):=by
 have hd:=race_disable;have he:=race_enable;have hr:=race_releaseMerge;have hadd:=run_call_add (P:=Tryz.prog) Tryz.func141 (by kernel_rfl) (by kernel_rfl) (by kernel_rfl) .i32 (by kernel_rfl) (y := -1) (s:=0) hc hz (by simp [go_sem];rfl);have hcv:=run_convert_to_unsafe (P:=Tryz.prog) (src:=188) (dst:=192) Tryz.underlying188 Tryz.underlying192 (by kernel_rfl) hc
 go_enter_d Tryz.func124,Tryz.ntmps124
 go_wp2;go_end0;go_wp2;(all_goals (go_end0;exact ⟨rfl,rfl⟩))
set_option maxRecDepth 100000 in
theorem lock_free (a:Addr) (w:World) (hc:w.cell? a=some (.int .i32 0)) (hz:w.frozen? a=false) :
    Calls Tryz.prog 123 #[.pointer (some a)] w fun e w'=>e = .returned (.tuple #[])∧w'=w.setCell a (.int .i32 1):=by
 have hd:=race_disable;have he:=race_enable;have ha:=race_acquire;have hcas:=run_call_cas_hit (P:=Tryz.prog) Tryz.func136 (by kernel_rfl) (by kernel_rfl) (by kernel_rfl) .i32 (by kernel_rfl) (y:=1) hc hz;have hc':(w.setCell a (.int .i32 1)).cell? a=some (.int .i32 1):=World.cell?_setCell_same w a _ hc;have hcv:=run_convert_to_unsafe (P:=Tryz.prog) (src:=188) (dst:=192) Tryz.underlying188 Tryz.underlying192 (by kernel_rfl) hc';go_enter Tryz.func123,Tryz.ntmps123;go_wp2;(first | go_end0 | (simp only [Exit.inBlock,Exit.then];refine bodyPost_ret (results_none rfl _ _ _) rfl ?_) | refine bodyPost_ret (results_none rfl _ _ _) rfl ?_);go_wp2;(all_goals (go_end0;exact ⟨rfl,rfl⟩))
theorem bool_load (a:Addr) (d:Int) (w:World) (h0:w.cell? a=some (.int .u32 d)):Calls Tryz.prog 109 #[.pointer (some a)] w fun e w'=>e = .returned (.bool (d != 0))∧w'=w:=by
 have hl:=run_call_load (P:=Tryz.prog) Tryz.func122 (by kernel_rfl) (by kernel_rfl) (by kernel_rfl) .u32 (by kernel_rfl) h0;go_enter Tryz.func109,Tryz.ntmps109;go_wp2;go_ret;exact ⟨rfl,rfl⟩
set_option maxRecDepth 100000 in
set_option maxHeartbeats 1600000 in
/-- sync.Once's slow road, not yet done, the lock free. -/
theorem once_slow (g:Nat) (Aa Ab:Option Addr) (ca cb:Nat) (a b:List Int) (w:World)
    (hg:w.heap[g]? = some (.cells (pairCells (.slice Aa a.length ca) (.slice Ab b.length cb) (.slice none 0 0) 0 0) 119 (0,0)))
    (ha:Kd.F (Kd.int .i64) w (fun k=>k≠g) Aa a.length a) (hb:Kd.F (Kd.int .i64) w (fun k=>k≠g) Ab b.length b) (hla:a.length≤2000) (hlb:b.length≤2000) :
    Calls Tryz.prog 110 #[.pointer (some ⟨g,2,none⟩), .func (.func 97) #[.pointer (some ⟨g,0,none⟩)] #[]] w fun e w'=>e = .returned (.tuple #[]) ∧
      (∃ gs:Nat,w.heap.size≤gs∧w'.heap[g]? = some (.cells (pairCells (.slice Aa a.length ca) (.slice Ab b.length cb) (.slice (some ⟨gs,0,none⟩) (a.length * b.length) (a.length * b.length)) 1 (lcsL a b:Int)) 119 (0,0))∧NumsAt .u8 w' 5 gs (stepsOf a b))∧w.grownBy w' (some g):=by
  have Hg:=Aside0.mk hg
  have Ha:=Aside0.mk ha
  have Hb:=Aside0.mk hb
  have h2:w.cell? ⟨g,2,none⟩=some (.int .u32 0):=cell_blk hg rfl
  have h3:w.cell? ⟨g,3,none⟩=some (.int .i32 0):=cell_blk hg rfl
  have z3:w.frozen? ⟨g,3,none⟩=false:=blk_frozen hg _
  have HL:(w.setCell ⟨g,3,none⟩ (.int .i32 1)).cell? ⟨g,2,none⟩=some (.int .u32 0):=(World.cell?_setCell_other _ ⟨g,3,none⟩ ⟨g,2,none⟩ _ (by simp)).trans h2
  have hnot : ∀ (x:Bool) (w:World),(Op.unary .not (.bool x)).run Tryz.prog w = .ok (.bool (!x)) w:=fun _ _=>rfl
  clear hg ha hb
  go_enter_defers Tryz.func110,Tryz.ntmps110
  go_wp2_with (go_at_call 123;refine (lock_free ⟨g,3,none⟩ _ (by go_simp) (by go_simp)).mono ?_;rintro e w' ⟨rfl,rfl⟩)
  refine (bool_load ⟨g,2,none⟩ 0 _ HL).mono ?_
  rintro e w1 ⟨rfl,rfl⟩
  have hq:((0:Int) != 0)=false:=rfl
  rw [hq]
  go_wp2_with fail
  refine (reckon_calls g 0 Aa Ab ca cb (.int .u32 0) (.int .i32 1) (.int .u32 0) a b _ (by rw [heap_set_same Hg.out];rfl) (Kd.F_step Ha.out (fun k hk _=>heap_set_other hk _)) (Kd.F_step Hb.out (fun k hk _=>heap_set_other hk _)) hla hlb).mono ?_
  rintro e w1 ⟨rfl,⟨gs,q1,q2,q3⟩,q4⟩
  have Q2:=Aside0.mk q2
  have Q3:=Aside0.mk q3
  have Q4:=Aside0.mk q4
  clear q2 q3 q4
  go_wp2_with fail
  go_wp2
  have f2:w1.cell? ⟨g,2,none⟩=some (.int .u32 0):=cell_blk Q2.out rfl
  have fz2:w1.frozen? ⟨g,2,none⟩=false:=blk_frozen Q2.out _
  refine leaves_cons (f:=125) (args:=#[.pointer (some ⟨g,2,none⟩), .bool true]) (by simp) (by simp [go_sem]) ?_
  refine (store_deferred ⟨g,2,none⟩ (.int .u32 0) .returning _ f2 fz2).mono ?_
  rintro e u' w'' ⟨rfl,rfl,rfl⟩
  refine leaves_cons (f:=124) (args:=#[.pointer (some ⟨g,3,none⟩)]) (by simp [settle]) (by simp [go_sem]) ?_
  have Q5:(w1.drew.setCell ⟨g,2,none⟩ (.int .u32 1)).heap[g]? = some (.cells (pairCells (.slice Aa a.length ca) (.slice Ab b.length cb) (.slice (some ⟨gs,0,none⟩) (a.length * b.length) (a.length * b.length)) 1 (lcsL a b:Int) |>.set! 3 (.int .i32 1)) 119 (0,0)):=by
    rw [heap_set_same (show w1.drew.heap[g]? = _ from Q2.out)]
    rfl
  refine (unlock_deferred ⟨g,3,none⟩ _ _ (cell_blk Q5 rfl) (blk_frozen Q5 _)).mono ?_
  rintro e u' w'' ⟨rfl,rfl,rfl⟩
  refine ⟨.tuple #[],by simp [settle,results,Tryz.results110],rfl,⟨gs,?_,?_,?_⟩,?_⟩
  · simpa using q1
  · rw [heap_set_same Q5]
    rfl
  · refine nums_other (nums_other ?_ ?_ _) ?_ _
    · exact Q3.out
    · have:=blk_lt Hg.out;simp at q1;omega
    · have:=blk_lt Hg.out;simp at q1;omega
  · exact grown_then (grown_set (World.grownBy.refl _ _) _ _) (grown_then Q4.out (grown_set (grown_set (grown_drewN (World.grownBy.refl _ _) 1) _ _) _ _))
/-- The steps, and how many, of a pair that is reckoned, or not. -/
def PairState (W:World) (g:Nat) (a b:List Int) (d:Int) (st:Value) (long:Int):Prop :=
  (d=0∧st = .slice none 0 0∧long=0)∨(d=1∧long=lcsL a b ∧ ∃ As cs,st = .slice As (a.length * b.length) cs∧Kd.F (Kd.int .u8) W (fun k=>k≠g) As (a.length * b.length) (stepsOf a b))
/-- g is the block of a pair of the lists a and b. -/
def PairIn (W:World) (g:Nat) (a b:List Int) (d:Int):Prop :=
  ∃ Aa ca Ab cb st long,W.heap[g]? = some (.cells (pairCells (.slice Aa a.length ca) (.slice Ab b.length cb) st d long) 119 (0,0)) ∧
    Kd.F (Kd.int .i64) W (fun k=>k≠g) Aa a.length a∧Kd.F (Kd.int .i64) W (fun k=>k≠g) Ab b.length b∧a.length≤2000∧b.length≤2000∧PairState W g a b d st long
theorem R_int_at {k:IntKind} {W:World} {g base:Nat} {e:TypeId} {xs:List Int} {ok:Nat→Prop} (h:W.heap[g]? = some (.cells (xs.map (Value.int k)).toArray e (0,0))) (hb:base≤g) (hl:xs.length≤maxLen) (ho:ok g) :
    Kd.R (Kd.int k) e W base ok (.slice (some ⟨g,0,none⟩) xs.length xs.length) xs :=
  ⟨fun j hj => by have : g = j := by simpa [Value.ownBlock] using hj
                  exact this ▸ ho,(R_int_of_cells h hb hl).2⟩
theorem stepsOf_length (a b:List Int):(stepsOf a b).length=a.length * b.length:=by simp [stepsOf]
theorem PairIn.step {W W1:World} {g:Nat} {a b:List Int} {d:Int} (h:PairIn W g a b d) (hm : ∀ k,k < W.heap.size→W1.heap[k]? = W.heap[k]?):PairIn W1 g a b d:=by
 obtain ⟨Aa,ca,Ab,cb,st,long,h1,h2,h3,h4,h5,h6⟩:=h;refine ⟨Aa,ca,Ab,cb,st,long,(hm g (blk_lt h1)).trans h1,Kd.F_step h2 (fun k _ hk=>hm k hk),Kd.F_step h3 (fun k _ hk=>hm k hk),h4,h5,?_⟩
 rcases h6 with h6 | ⟨e1,e2,As,cs,e3,e4⟩
 (· exact .inl h6);(· exact .inr ⟨e1,e2,As,cs,e3,Kd.F_step e4 (fun k _ hk=>hm k hk)⟩)
theorem PairIn.below {W W1:World} {g:Nat} {a b:List Int} {d:Int} (h:PairIn W g a b d) (hb:Below W.heap.size W W1):PairIn W1 g a b d:=h.step hb.block
theorem PairIn.of_new {W:World} {base g:Nat} {a b:List Int} (h:IsPair W base g a b) : ∃ d,PairIn W g a b d:=by
 obtain ⟨hg,sa,sb,st,d,long,h1,h2,h3,h4,h5,h6⟩:=h;obtain ⟨Aa,ca,rfl⟩:=Kd.R_slice h2;obtain ⟨Ab,cb,rfl⟩:=Kd.R_slice h3;refine ⟨d,Aa,ca,Ab,cb,st,long,h1,Kd.R_F h2,Kd.R_F h3,h4,h5,?_⟩
 rcases h6 with h6 | ⟨e1,e2,e3⟩
 (· exact .inl h6);(· obtain ⟨As,cs,e⟩:=Kd.R_slice e2;subst e;(rw [stepsOf_length] at e2 ⊢);exact .inr ⟨e1,e3,As,cs,rfl,Kd.R_F e2⟩)
theorem below_grown {N:Nat} {w W W2:World} {g:Nat} (h:Below N w W) (k:W.grownBy W2 (some g)) (hg:N≤g) (hN:N≤W.heap.size):Below N w W2 :=
  h.grown k hN (fun j hj => by have : g = j := by simpa using hj
                               omega)
set_option maxRecDepth 100000 in
set_option maxHeartbeats 1600000 in
/-- sync.Once: reckoned afterwards. -/
theorem once_Do (g:Nat) (a b:List Int) (d:Int) (w:World) (h:PairIn w g a b d) :
    Calls Tryz.prog 96 #[.pointer (some ⟨g,2,none⟩), .func (.func 97) #[.pointer (some ⟨g,0,none⟩)] #[]] w fun e w'=>e = .returned (.tuple #[])∧PairIn w' g a b 1∧w.grownBy w' (some g):=by
 have H:=Aside0.mk h;obtain ⟨Aa,ca,Ab,cb,st,long,h1,h2,h3,h4,h5,h6⟩:=h;(have hnot : ∀ (x:Bool) (w:World),(Op.unary .not (.bool x)).run Tryz.prog w = .ok (.bool (!x)) w:=fun _ _=>rfl);have hc:w.cell? ⟨g,2,none⟩=some (.int .u32 d):=cell_blk h1 rfl;have H1:=Aside0.mk h1;have H2:=Aside0.mk h2;have H3:=Aside0.mk h3;have H6:=Aside0.mk h6;clear h1 h2 h3 h6;go_enter Tryz.func96,Tryz.ntmps96;(go_wp2_with fail);refine (bool_load ⟨g,2,none⟩ d _ hc).mono ?_;rintro e w1 ⟨rfl,he⟩;obtain rfl:=he.symm;clear he
 rcases H6.out with ⟨e1,e2,e3⟩ | ⟨e1,e2,As,cs,e3,e4⟩
 (· (subst e1;subst e2;subst e3);have hq:((0:Int) != 0)=false:=rfl;rw [hq];(go_wp2_with fail);refine (once_slow g Aa Ab ca cb a b _ H1.out H2.out H3.out h4 h5).mono ?_;rintro e w1 ⟨rfl,⟨gs,q1,q2,q3⟩,q4⟩;have Q2:=Aside0.mk q2;have Q3:=Aside0.mk q3;have Q4:=Aside0.mk q4;clear q2 q3 q4;(go_wp2_with fail);go_end0;have hlt:=blk_lt H1.out;(have hne : ∀ k,k≠g→k < w.heap.size→w1.heap[k]? = w.heap[k]? := fun k hk hs=>Q4.out.block k hs (fun e=>hk (Option.some.inj e)));refine ⟨rfl,⟨Aa,ca,Ab,cb,_,_,Q2.out,Kd.F_step H2.out hne,Kd.F_step H3.out hne,h4,h5, .inr ⟨rfl,rfl,some ⟨gs,0,none⟩,a.length * b.length,rfl,?_⟩⟩,Q4.out⟩;have hr:=R_int_at (base:=0) (ok:=fun k=>k≠g) Q3.out (Nat.zero_le _) (by rw [stepsOf_length];have:=Nat.mul_le_mul h4 h5;simp only [maxLen];omega) (by omega);(rw [stepsOf_length] at hr);exact Kd.R_F hr);(· subst e1;have hq:((1:Int) != 0)=true:=rfl;rw [hq];(go_wp2_with fail);go_end0;exact ⟨rfl,H.out,World.grownBy.refl _ _⟩)
set_option maxRecDepth 100000 in
set_option maxHeartbeats 1600000 in
/-- How many are paired. -/
theorem pair_Len (g:Nat) (a b:List Int) (d:Int) (w:World) (h:PairIn w g a b d) :
    Calls Tryz.prog 69 #[.pointer (some ⟨g,0,none⟩)] w fun e w'=>e = .returned (.int .i64 (lcsL a b:Int))∧PairIn w' g a b 1∧w.grownBy w' (some g):=by
 (have hmf : ∀ (fn:Fn) (first cap:Array Value) (w:World),(Instr.makeFunc fn first cap).run Tryz.prog w = .ok (.func fn first cap) w:=fun _ _ _ _=>rfl);have H:=Aside0.mk h;clear h;go_enter Tryz.func69,Tryz.ntmps69;(go_wp2_with fail);refine (once_Do g a b d _ H.out).mono ?_;rintro e w1 ⟨rfl,q1,q2⟩;have Q1:=Aside0.mk q1;have Q2:=Aside0.mk q2;clear q1 q2
 have c4:w1.cell? ⟨g,6,none⟩=some (.int .i64 (lcsL a b:Int)):=by
  obtain ⟨Aa,ca,Ab,cb,st,long,h1,h2,h3,h4,h5,h6⟩:=Q1.out
  rcases h6 with ⟨e1,_⟩ | ⟨_,e2,_⟩
  (· cases e1);(· subst e2;exact cell_blk h1 rfl)
 (go_wp2_with fail);go_ret;exact ⟨rfl,Q1.out,Q2.out⟩
/-- What is written so far, the rest being -1. -/
def MatchAt (a b:List Int) (i j:Nat) (L:List Int):Prop := ∃ P:List Int,P.length=i∧L=P ++ List.replicate (a.length - i) (-1)∧P ++ matchFrom (a.drop i) (b.drop j) j=matchOf a b
section
variable {a b L:List Int} {i j:Nat}
theorem MatchAt.start:MatchAt a b 0 0 (List.replicate a.length (-1)):=⟨[],rfl,by simp,by simp [matchOf]⟩
theorem MatchAt.done (h:MatchAt a b i j L) (hi:i≤a.length) (hd : ¬ (i < a.length∧j < b.length)):L=matchOf a b:=by
 obtain ⟨P,h1,h2,h3⟩:=h;rw [← h3,h2]
 congr 1
 by_cases hx:i < a.length
 (· have:b.drop j=[]:=List.drop_eq_nil_of_le (by omega);rw [this,matchFrom_rest];simp);(· have:a.drop i=[]:=List.drop_eq_nil_of_le (by omega);rw [this,matchFrom_nil];(simp;omega))
theorem MatchAt.len (h:MatchAt a b i j L) (hi:i≤a.length):L.length=a.length:=by
 obtain ⟨P,h1,h2,h3⟩:=h;(rw [h2];simp;omega)
theorem step_cases (hi:i < a.length) (hj:j < b.length) :
    (stepAt (a.drop i) (b.drop j)=0∧matchFrom (a.drop i) (b.drop j) j=(j:Int) :: matchFrom (a.drop (i+1)) (b.drop (j+1)) (j+1)) ∨
    (stepAt (a.drop i) (b.drop j)=1∧matchFrom (a.drop i) (b.drop j) j = -1 :: matchFrom (a.drop (i+1)) (b.drop j) j) ∨
    (stepAt (a.drop i) (b.drop j)=2∧matchFrom (a.drop i) (b.drop j) j=matchFrom (a.drop i) (b.drop (j+1)) (j+1)):=by
 have ha:=drop_cons' (List.getElem?_eq_getElem hi);have hb:=drop_cons' (List.getElem?_eq_getElem hj);rw [ha,hb,matchFrom_cons,stepAt]
 by_cases e:a[i]=b[j]
 (· exact .inl ⟨by rw [if_pos e],by rw [if_pos e]⟩)
 ·
  by_cases e2:lcsL (a[i] :: a.drop (i+1)) (b.drop (j+1))≤lcsL (a.drop (i+1)) (b[j] :: b.drop (j+1))
  (· exact .inr (.inl ⟨by rw [if_neg e,if_pos e2],by rw [if_neg e,if_pos e2,← hb]⟩));(· exact .inr (.inr ⟨by rw [if_neg e,if_neg e2],by rw [if_neg e,if_neg e2,← ha]⟩))
theorem MatchAt.same (h:MatchAt a b i j L) (hi:i < a.length) (e:matchFrom (a.drop i) (b.drop j) j=(j:Int) :: matchFrom (a.drop (i+1)) (b.drop (j+1)) (j+1)):MatchAt a b (i+1) (j+1) (L.set i j):=by
 obtain ⟨P,h1,h2,h3⟩:=h;refine ⟨P ++ [(j:Int)],by simp [h1],?_,by rw [← h3,e];simp⟩;subst h1;rw [h2,List.set_append_right _ _ (Nat.le_refl _),Nat.sub_self];obtain ⟨r,hr⟩ : ∃ r,a.length - P.length=r+1:=⟨a.length - P.length - 1,by omega⟩;rw [hr,show a.length - (P.length+1)=r by omega];simp [List.replicate_succ]
theorem MatchAt.old (h:MatchAt a b i j L) (hi:i < a.length) (e:matchFrom (a.drop i) (b.drop j) j = -1 :: matchFrom (a.drop (i+1)) (b.drop j) j):MatchAt a b (i+1) j L:=by
 obtain ⟨P,h1,h2,h3⟩:=h;refine ⟨P ++ [(-1:Int)],by simp [h1],?_,by rw [← h3,e];simp⟩;subst h1;rw [h2];obtain ⟨r,hr⟩ : ∃ r,a.length - P.length=r+1:=⟨a.length - P.length - 1,by omega⟩;rw [hr,show a.length - (P.length+1)=r by omega];simp [List.replicate_succ]
theorem MatchAt.fresh (h:MatchAt a b i j L) (e:matchFrom (a.drop i) (b.drop j) j=matchFrom (a.drop i) (b.drop (j+1)) (j+1)):MatchAt a b i (j+1) L:=by
 obtain ⟨P,h1,h2,h3⟩:=h;exact ⟨P,h1,h2,by rw [← h3,e]⟩
theorem steps_get (hi:i < a.length) (hj:j < b.length):(stepsOf a b)[i * b.length+j]? = some (stepAt (a.drop i) (b.drop j)):=by
 simp [stepsOf,place_lt hi hj,place_div hj]
end
theorem addr_add0 (g i:Nat):(⟨g,0,none⟩:Addr).add i=⟨g,i,none⟩:=by
 unfold Addr.add;(split <;> simp_all)
theorem R_blk {k:IntKind} {W:World} {base e n c:Nat} {ok:Nat→Prop} {A:Option Addr} {L:List Int} (h:Kd.R (Kd.int k) e W base ok (.slice A n c) L) (hn:0 < n) : ∃ gm cur,A=some ⟨gm,0,none⟩∧base≤gm∧W.heap[gm]? = some (.cells cur e (0,0)):=by
 obtain ⟨_,inner,ho,_⟩:=h
 rcases ho.2 with ⟨hv,_⟩ | ⟨g,cap,cur,hv,hg,hh,_⟩
 (· (cases hv;omega));(· cases hv;exact ⟨g,cur,rfl,hg,hh⟩)
set_option maxRecDepth 100000 in
set_option maxHeartbeats 4000000 in
/-- Which is paired with which. -/
theorem pair_Match (g:Nat) (a b:List Int) (d:Int) (w:World) (h:PairIn w g a b d) :
    Calls Tryz.prog 37 #[.pointer (some ⟨g,0,none⟩)] w fun e w' => ∃ v0_:Value,e = .returned v0_∧Kd.R (Kd.int .i64) 3 w' w.heap.size (fun _=>True) v0_ (matchOf a b)∧PairIn w' g a b 1∧w.grownBy w' (some g):=by
 have H:=Aside0.mk h;clear h;go_enter Tryz.func37,Tryz.ntmps37;(go_wp2_with fail);refine (pair_Len g a b d _ H.out).mono ?_;rintro e w1 ⟨rfl,q1,q2⟩;have Q1:=Aside0.mk q1;have Q2:=Aside0.mk q2;clear q1 q2;obtain ⟨Aa,ca,Ab,cb,st,long,h1,h2,h3,h4,h5,h6⟩:=Q1.out;(obtain ⟨e1,_⟩ | ⟨_,e2,As,cs,e3,h6⟩:=h6);(· cases e1);(subst e2;subst e3);have H1:=Aside0.mk h1;have H6:=Aside0.mk h6;clear h1 h2 h3 h6;have cA:(w1.alloc (.cells #[.int .i64 (-1)] 3)).cell? ⟨g,0,none⟩=some (.slice Aa a.length ca):=cell_alloc_of (cell_blk H1.out rfl) _;obtain ⟨q,hq⟩ : ∃ q,((lcsL a b:Int) == 0)=q:=⟨_,rfl⟩;cases q
 all_goals
  (go_wp2_with fail);refine (slices_Repeat_one ⟨w1.heap.size,0,none⟩ 1 (-1) a.length _ (by simp) h4).mono ?_;rintro e w2 ⟨vm,rfl,ho,hb⟩;obtain ⟨Am,cm,rfl⟩:=Kd.R_slice ho;have HB:Aside0 (Below w1.heap.size w1 w2):=Aside0.mk ((below_alloc (Below.refl _ _) _).trans (hb.mono (by simp)));have HO:Aside0 (Kd.R (Kd.int .i64) 3 w2 w1.heap.size (fun _=>True) (.slice Am (List.replicate a.length (-1:Int)).length cm) (List.replicate a.length (-1:Int))):=Aside0.mk (Kd.R_lower ho (by simp));clear ho hb cA;rw [List.length_replicate];(go_wp2_with fail)
  go_loopw [4,5] (fun s1 s2 W => ∃ (i j:Nat) (L:List Int),s1 = .int .i64 i∧s2 = .int .i64 j∧i≤a.length∧j≤b.length∧Aside0 (MatchAt a b i j L)∧Aside0 (Kd.R (Kd.int .i64) 3 W w1.heap.size (fun _=>True) (.slice Am a.length cm) L)∧Aside0 (Below w1.heap.size w1 W)) (fun s1 s2 _=>a.length+b.length - (intOf s1).toNat - (intOf s2).toNat)
  (case atStart=>exact ⟨0,0,_,rfl,rfl,Nat.zero_le _,Nat.zero_le _,⟨MatchAt.start⟩,by rw [List.length_replicate] at HO;exact HO,HB⟩)
  case round =>
   obtain ⟨i,j,L,rfl,rfl,hi,hj,HM,HL,HW⟩:=hrel;clear HO HB;have P1:=Aside0.mk ((HW.out.block g (blk_lt H1.out)).trans H1.out);have cA:wr.cell? ⟨g,0,none⟩=some (.slice Aa a.length ca):=cell_blk P1.out rfl;have cB:wr.cell? ⟨g,1,none⟩=some (.slice Ab b.length cb):=cell_blk P1.out rfl;have cS:wr.cell? ⟨g,5,none⟩=some (.slice As (a.length * b.length) cs):=cell_blk P1.out rfl
   by_cases hlt:i < a.length∧j < b.length
   ·
    obtain ⟨hi',hj'⟩:=hlt;have b1:decide ((i:Int) < (a.length:Int))=true:=decide_eq_true (by omega);have b2:decide (i < a.length)=true:=decide_eq_true (by omega);have b3:decide ((j:Int) < (b.length:Int))=true:=decide_eq_true (by omega);have b4:decide (j < b.length)=true:=decide_eq_true (by omega);have hst:=step_cases hi' hj';have hsg:=steps_get hi' hj';obtain ⟨sv,hsv⟩ : ∃ sv,stepAt (a.drop i) (b.drop j)=sv:=⟨_,rfl⟩;(rw [hsv] at hst hsg);have HST:=Aside0.mk hst;clear hst hsv;have hij:=place_lt hi' hj'
    obtain ⟨ads,rfl,k1⟩ : ∃ ad,As=some ad∧wr.cell? (ad.add (i * b.length+j))=some (.int .u8 sv):=by
     obtain ⟨ad,e,hc⟩:=Kd.at_int (Kd.F_now (Kd.F_below H6.out HW.out)) ((i * b.length+j:Nat):Int) (by omega) (by omega);refine ⟨ad,e,?_⟩;(rw [Int.toNat_natCast] at hc);rw [hc,rd,List.getD_eq_getElem?_getD,Int.toNat_natCast,hsg];rfl
    have p1:(i:Int) * (b.length:Int)+(j:Int) < (a.length:Int) * (b.length:Int):=by
     (rw [← Int.natCast_mul,← Int.natCast_mul];omega)
    (have p0:0≤(i:Int) * (b.length:Int):=by rw [← Int.natCast_mul];omega);(have p2:((i:Int) * (b.length:Int)+(j:Int)).toNat=i * b.length+j:=by rw [← Int.natCast_mul];omega);have pm:=Nat.mul_le_mul h4 h5;have w1_:IntKind.i64.wrap ((i:Int) * (b.length:Int))=(i:Int) * (b.length:Int):=IntWalk.i64_in _ (by rw [← Int.natCast_mul] at p1 ⊢;rw [← Int.natCast_mul] at p1;omega);have w2_:IntKind.i64.wrap ((i:Int) * (b.length:Int)+(j:Int))=(i:Int) * (b.length:Int)+(j:Int):=IntWalk.i64_in _ (by rw [← Int.natCast_mul] at p1 ⊢;rw [← Int.natCast_mul] at p1;omega);clear hsg hij pm;go_wp2
    go_quiet (fail)
    obtain ⟨wd,hwd⟩ : ∃ wd,wd=wr.drewN nq:=⟨_,rfl⟩;rw [← hwd];have HLd:=Aside0.mk (Kd.R_drewN HL.out nq);have HWd:Aside0 (Below w1.heap.size w1 (wr.drewN nq)):=Aside0.mk ((HW.out).trans (pw_below_drewN (Below.refl _ _) nq));(rw [← hwd] at HLd HWd);clear hwd HL HW P1 cA cB cS k1 b1 b2 b3 b4 p0 p1 p2 w1_ w2_
    rcases HST.out with ⟨e1,e2⟩ | ⟨e1,e2⟩ | ⟨e1,e2⟩
    ·
     subst e1;have E2:=Aside0.mk e2;clear e2 HST;obtain ⟨gm,cur,rfl,hgm,hbm⟩:=R_blk HLd.out (by omega)
     have cm_:wd.cell? ⟨gm,i,none⟩=some (.int .i64 (rd L i)):=by
      obtain ⟨_,_,hC⟩:=Kd.R_reads' HLd.out;obtain ⟨ad,e,hc⟩:=Kd.at_int hC (i:Int) (by omega) (by rw [HM.out.len hi];omega);cases e;(rw [Int.toNat_natCast] at hc)
      rwa [addr_add0] at hc
     have zm_:wd.frozen? ⟨gm,i,none⟩=false:=blk_frozen hbm _;have bi:decide ((i:Int) < (a.length:Int))=true:=decide_eq_true (by omega);have bi2:decide (i < a.length)=true:=decide_eq_true (by omega);clear hbm;go_wp2;go_roundw;(case measure=>simp [intOf];omega)
     case rel =>
      refine ⟨i+1,j+1,L.set i j,by simp,by simp,by omega,by omega,⟨HM.out.same hi' E2.out⟩,⟨?_⟩,⟨HWd.out.setCell hgm _⟩⟩;have h:=Kd.R_putn HLd.out (i:Int) (j:Int)
      rwa [Int.toNat_natCast] at h
    (· subst e1;have E2:=Aside0.mk e2;clear e2 HST;go_wp2;go_roundw;(case measure=>simp [intOf];omega);(case rel=>exact ⟨i+1,j,L,by simp,rfl,by omega,by omega,⟨HM.out.old hi' E2.out⟩,HLd,HWd⟩));(· subst e1;have E2:=Aside0.mk e2;clear e2 HST;go_wp2;go_roundw;(case measure=>simp [intOf];omega);(case rel=>exact ⟨i,j+1,L,rfl,by simp,by omega,by omega,⟨HM.out.fresh E2.out⟩,HLd,HWd⟩))
   ·
    have Hlt:=Aside0.mk hlt
    by_cases hi':i < a.length
    (· have b1:decide ((i:Int) < (a.length:Int))=true:=decide_eq_true (by omega);have b2:decide (i < a.length)=true:=decide_eq_true (by omega);have b3:decide ((j:Int) < (b.length:Int))=false:=decide_eq_false (by omega);have b4:decide (j < b.length)=false:=decide_eq_false (by omega);clear hlt;go_wp2;go_ret;have hL:=HM.out.done hi Hlt.out;subst hL;have hs:=Q2.out.size;refine ⟨_,rfl,Kd.R_lower HL.out hs,Q1.out.below HW.out,grown_then Q2.out (grown_of_below HW.out _)⟩);(· have b1:decide ((i:Int) < (a.length:Int))=false:=decide_eq_false (by omega);have b2:decide (i < a.length)=false:=decide_eq_false (by omega);clear hlt;go_wp2;go_ret;have hL:=HM.out.done hi Hlt.out;subst hL;have hs:=Q2.out.size;refine ⟨_,rfl,Kd.R_lower HL.out hs,Q1.out.below HW.out,grown_then Q2.out (grown_of_below HW.out _)⟩)
theorem IsPair.step {W W1:World} {base g:Nat} {a b:List Int} (h:IsPair W base g a b) (hm : ∀ k,base≤k→k < W.heap.size→W1.heap[k]? = W.heap[k]?):IsPair W1 base g a b:=by
 obtain ⟨hg,sa,sb,st,d,long,h1,h2,h3,h4,h5,h6⟩:=h;refine ⟨hg,sa,sb,st,d,long,(hm g hg (blk_lt h1)).trans h1,Kd.R_mono (Kd.R_step (Kd.R_bound h2) (fun k hk hlt=>hm k hk.2.1 hlt)) (fun k hk=>hk.1),Kd.R_mono (Kd.R_step (Kd.R_bound h3) (fun k hk hlt=>hm k hk.2.1 hlt)) (fun k hk=>hk.1),h4,h5,?_⟩
 rcases h6 with h6 | ⟨e1,e2,e3⟩
 (· exact .inl h6);(· exact .inr ⟨e1,Kd.R_mono (Kd.R_step (Kd.R_bound e2) (fun k hk hlt=>hm k hk.2.1 hlt)) (fun k hk=>hk.1),e3⟩)
theorem fits_bounds {p:List ByteArray} : ∀ {ms:List Int} {ss:List ByteArray} {lo:Nat},Fits p ms ss lo → ∀ m ∈ ms, -1≤m∧m < (p.length:Int)
 | [],_,_,_,m,hm=>by cases hm
 | x :: ms,[],_,h,m,hm=>by cases h
 | x :: ms,s :: ss,lo,h,m,hm=>by
  rcases h with ⟨h,hF⟩ | ⟨q,h,h1,h2,h3⟩
  ·
   rcases List.mem_cons.1 hm with rfl | hm
   (· omega);(· exact fits_bounds hF m hm)
  ·
   rcases List.mem_cons.1 hm with rfl | hm
   (· (have:=(List.getElem?_eq_some_iff.1 h2).1;omega));(· exact fits_bounds h3 m hm)
theorem matchS_bounds (a b:List ByteArray) (i:Nat) (hb:b.length≤1000000) : -1≤(matchS a b).getD i 0∧(matchS a b).getD i 0≤1000000:=by
 by_cases h:i < (matchS a b).length
 (· rw [getD_get h];have:=fits_bounds (matchS_fits a b) _ (List.getElem_mem h);omega);(· (rw [List.getD_eq_getElem?_getD,List.getElem?_eq_none (by omega)];simp))
def matchesF (base:List ByteArray) (sides:List (List ByteArray)):List (List Int):=sides.map (matchS base)
def sizesF (sides:List (List ByteArray)):List Int:=sides.map (fun s=>(s.length:Int))
def chunksF (base:List ByteArray) (sides:List (List ByteArray)):List Chunk × Int :=
  if wrongF mayL (base :: sides)≠0 then ([],wrongF mayL (base :: sides)) else (alignF base.length (sizesF sides) (matchesF base sides),0)
def chunksOk (base:List ByteArray) (sides:List (List ByteArray)):Bool:=decide (base.length≤1000000∧sides.length≤1000 ∧ ∀ l ∈ base :: sides,l.length≤1000000 ∧ ∀ s ∈ l,s.size≤1000000000)
def merge_Chunks.f (l0:List ByteArray) (l1:List (List ByteArray)):Option (List Chunk × Int):=if chunksOk l0 l1=true then some (chunksF l0 l1) else none
/-- What is not wrong is not long. -/
theorem wrongF_zero {may:List ByteArray→Bool} {fs:List (List ByteArray)} (h:wrongF may fs=0):2≤fs.length∧fs.length≤17∧(∀ l ∈ fs,may l=true) ∧ ∀ l ∈ fs,l.length≤2000:=by
 (unfold wrongF at h);(split at h);(· omega)
 ·
  rename_i h1;(split at h);(· omega)
  ·
   rename_i h2;(split at h);(· omega)
   ·
    rename_i h3;refine ⟨by omega,by omega,fun l hl=>?_,fun l hl=>?_⟩
    ·
     cases hm:may l with
     | true=>rfl
     | false=>exact absurd (List.any_eq_true.2 ⟨l,hl,by rw [hm];rfl⟩) h2
    ·
     rcases Nat.lt_or_ge 2000 l.length with hlt | hge
     (· exact absurd (List.any_eq_true.2 ⟨l,hl,decide_eq_true hlt⟩) h3);(· exact hge)
theorem total_le {n m:Nat} : ∀ {fs:List (List ByteArray)},fs.length≤n→(∀ l ∈ fs,l.length≤m)→total fs≤n * m:=by
 intro fs
 induction fs generalizing n with
 | nil=>intro _ _;simp [total]
 | cons l fs ih =>
  intro hn hm;obtain ⟨n',rfl⟩ : ∃ n',n=n'+1:=⟨n - 1,by simp at hn;omega⟩;have h1:=ih (n:=n') (by simpa using hn) (fun x hx=>hm x (List.mem_cons_of_mem _ hx));have h2:=hm l List.mem_cons_self;rw [Nat.add_mul,Nat.one_mul];(simp only [total,List.map_cons,List.sum_cons] at h1 ⊢);omega
theorem sizesF_len (l1:List (List ByteArray)):(sizesF l1).length=l1.length:=by rw [sizesF,List.length_map]
theorem matchesF_len (l0:List ByteArray) (l1:List (List ByteArray)):(matchesF l0 l1).length=l1.length:=by rw [matchesF,List.length_map]
theorem matchesF_all (l0:List ByteArray) (l1:List (List ByteArray)):AllLen (matchesF l0 l1) l0.length:=fun l hl=>by
  obtain ⟨s,_,rfl⟩:=List.mem_map.1 hl
  exact matchS_length _ _
theorem matchesF_bounds (l0:List ByteArray) (l1:List (List ByteArray)) (h : ∀ k (h:k < l1.length),l1[k].length≤2000) : ∀ l ∈ matchesF l0 l1,∀ i, -1≤l.getD i 0∧l.getD i 0≤1000000:=fun l hl i=>by
  obtain ⟨s,hs,rfl⟩:=List.mem_map.1 hl
  obtain ⟨q,hq,rfl⟩:=List.mem_iff_getElem.1 hs
  exact matchS_bounds _ _ _ (by have:=h q hq;omega)
theorem matchesF_may (l0:List ByteArray) (l1:List (List ByteArray)) (h0:l0.length≤2000) : ∃ k,∀ i (h:i < (matchesF l0 l1).length),align_may.f k (matchesF l0 l1)[i] (l0.length:Int) ((sizesF l1).getD i 0)=some true:=by
 obtain ⟨K,hK⟩ : ∃ K,K=l0.length+1:=⟨_,rfl⟩;refine ⟨K,fun i hi=>?_⟩;(have hi':i < l1.length:=by rw [← matchesF_len l0];exact hi);have e1:(matchesF l0 l1)[i]=matchS l0 l1[i]:=List.getElem_map _
 have e2:(sizesF l1).getD i 0=(l1[i].length:Int):=by
  rw [getD_get (by rw [sizesF_len];exact hi')];exact List.getElem_map _
 have h3:=may_fits (p:=l1[i]) (ss:=l0) (ms:=matchS l0 l1[i]) (by rw [matchS_length];omega) (matchS_fits l0 l1[i]) K (by rw [matchS_length,hK];exact Nat.le_refl _);rw [e1,e2];(have e3:((matchS l0 l1[i]).length:Int)=(l0.length:Int):=by rw [matchS_length]);(rw [e3] at h3);exact h3
set_option maxRecDepth 100000 in
set_option maxHeartbeats 8000000 in
theorem merge_Chunks.calls (A0:Option Addr) (c0:Nat) (l0:List ByteArray) (A1:Option Addr) (c1:Nat) (l1:List (List ByteArray)) (r1:List Chunk) (r2:Int) (w:World) (hr0:Kd.C Kd.string w A0 l0.length l0) (hc0:l0.length≤c0) (hr1:Kd.C (Kd.slice 9 Kd.string) w A1 l1.length l1) (hc1:l1.length≤c1) (h:merge_Chunks.f l0 l1=some (r1,r2)) :
    Calls Tryz.prog 15 #[.slice A0 l0.length c0, .slice A1 l1.length c1] w fun e w' => ∃ v0_:Value,e = .returned (.tuple #[v0_, .int .i64 r2])∧Kd.S k48 48 w' w.heap.size (fun _=>True) v0_ r1∧Below w.heap.size w w':=by
 have HR0:=Aside0.mk hr0;have HC0:=Aside0.mk hc0;have HR1:=Aside0.mk hr1;have HC1:=Aside0.mk hc1;clear hr0 hc0 hr1 hc1;(unfold merge_Chunks.f at h);(split at h)
 ·
  rename_i hf;replace h:=Option.some.inj h;have hf1:=of_decide_eq_true hf;(have hm : ∀ l ∈ l0 :: l1,Gives (fun k=>lines_May.f k l) (mayL l):=fun l hl=>may_gives l (by have:=(hf1.2.2 l hl).1;omega) (fun s hs=>by have:=(hf1.2.2 l hl).2 s hs;omega));have hN:l1.length≤1000:=hf1.2.1;have hn:l0.length≤1000000:=hf1.1;have HM:=Aside0.mk hm;have HF1:=Aside0.mk hf1.2.2;clear hm hf1 hf;have HT:=Aside0.mk h;clear h;go_enter Tryz.func15,Tryz.ntmps15;(go_wp2_with fail);obtain ⟨w1,hw1⟩ : ∃ w1,(w.alloc (.cells #[.slice A0 l0.length c0] 22)).alloc (.cells #[.slice (some ⟨w.heap.size,0,none⟩) 1 1, .slice A1 l1.length c1] 23)=w1:=⟨_,rfl⟩;(have hb1:Below w.heap.size w w1:=by rw [← hw1];exact ((Below.refl _ w).alloc (Nat.le_refl _) _).alloc (by simp) _);(have q0:w1.heap[w.heap.size]? = some (.cells #[.slice A0 l0.length c0] 22 (0,0)):=by rw [← hw1,heap_alloc_old _ _ (by simp)];exact blk_new _ _);(have q1:w1.heap[w.heap.size+1]? = some (.cells #[.slice (some ⟨w.heap.size,0,none⟩) 1 1, .slice A1 l1.length c1] 23 (0,0)):=by rw [← hw1];have:=blk_new (w.alloc (.cells #[.slice A0 l0.length c0] 22)) (.cells #[.slice (some ⟨w.heap.size,0,none⟩) 1 1, .slice A1 l1.length c1] 23);simpa using this);rw [hw1];have k0:KS.K w1 l0 [.slice A0 l0.length c0]:=⟨A0,c0,rfl,HC0.out,Kd.C_below HR0.out hb1⟩;have kk0:(Kd.slice 22 KS).K w1 [l0] [.slice (some ⟨w.heap.size,0,none⟩) 1 1]:=⟨_,1,rfl,Nat.le_refl _,C_blk (d:=KS) (xs:=[l0]) (inner:=[.slice A0 l0.length c0]) q0 (Reps.one k0 (Reps.none _ _)) (by simp)⟩;have kk1:(Kd.slice 22 KS).K w1 l1 [.slice A1 l1.length c1]:=⟨A1,c1,rfl,HC1.out,Kd.C_below HR1.out hb1⟩;have hC:=C_blk (d:=Kd.slice 22 KS) (xs:=[[l0],l1]) (inner:=[.slice (some ⟨w.heap.size,0,none⟩) 1 1, .slice A1 l1.length c1]) q1 (Reps.one kk0 (Reps.one kk1 (Reps.none _ _))) (by simp);refine (concat_lists _ 2 [[l0],l1] w1 hC (by simp) (by simp) (by simp;omega)).mono ?_;rintro e w2 ⟨v2,rfl,HR2,HB2⟩;obtain ⟨A2,c2,rfl,hc2,hC2⟩:=R_held_reads HR2.out HB2.out;(have hfl:([[l0],l1]:List (List (List ByteArray))).flatten=l0 :: l1:=by simp);obtain ⟨fs,hfs⟩ : ∃ fs,l0 :: l1=fs:=⟨_,rfl⟩;(rw [hfl,hfs] at hc2 hC2 ⊢);have HFS:=Aside0.mk hfs;(have hfl1:fs.length=l1.length+1:=by rw [← hfs];rfl);have HFL:=Aside0.mk hfl1;(rw [hfs] at HM HF1);have HB2':Aside0 (Below w.heap.size w w2):=⟨far_ hb1 HB2.out⟩;have HC2:=Aside0.mk hC2;have Hc2:=Aside0.mk hc2;clear hw1 hb1 q0 q1 k0 kk0 kk1 hC HR2 HB2 hfl hc2 hC2 hfs hfl1;(go_wp2_with fail);refine (wrong_calls mayL A2 c2 fs w2 HM.out (fun l hl=>by have:=(HF1.out l hl).1;omega) HC2.out Hc2.out (by rw [HFL.out];omega)).mono ?_;rintro e w3' ⟨rfl,n3,rfl⟩;obtain ⟨w3,hw3⟩ : ∃ w3,w2.drewN n3=w3:=⟨_,rfl⟩;have HB3:Aside0 (Below w.heap.size w w3):=⟨by rw [← hw3];exact pw_below_drewN HB2'.out n3⟩;have HC3:Aside0 (KS.C w3 A2 fs.length fs):=⟨by rw [← hw3];exact Kd.C_drewN HC2.out n3⟩;rw [hw3];have hT:=HT.out;(rw [chunksF,HFS.out] at hT);obtain ⟨cde,hcde⟩ : ∃ c,wrongF mayL fs=c:=⟨_,rfl⟩;(rw [hcde] at hT ⊢);have HCDE:=Aside0.mk hcde;clear hw3 hcde
  by_cases hc:cde=0
  ·
   subst hc;(rw [if_neg (fun h=>h rfl)] at hT);obtain ⟨e1,e2⟩:=Prod.mk.inj hT;have HR1e:=Aside0.mk e1;subst e2;clear hT e1 HT;obtain ⟨hz1,hz2,_,hz4⟩:=wrongF_zero HCDE.out;(rw [HFL.out] at hz1 hz2)
   have htot:total fs≤1000000:=by
    have:=total_le (n:=17) (m:=2000) (fs:=fs) (by rw [HFL.out];exact hz2) hz4;omega
   have HIDS:Aside0 (intern_All.f fs=some (idsAll fs)):=⟨by
    rw [intern_All.f,if_pos ⟨by rw [HFL.out];omega,htot,fun l hl s hs=>by have:=(HF1.out l hl).2 s hs;unfold maxLen;omega⟩]⟩
   have HIM:Aside0 (idsAll fs=fs.map (fun l=>l.map (num (tabOf [] fs)))):=⟨idsAll_map fs⟩;(go_wp2_with fail);refine (intern_All.calls A2 c2 fs (idsAll fs) w3 HC3.out Hc2.out HIDS.out).mono ?_;rintro e w4 ⟨v4,rfl,hs4,hb4⟩;(rw [HIM.out] at hs4);obtain ⟨ids,hids⟩ : ∃ ids,fs.map (fun l=>l.map (num (tabOf [] fs)))=ids:=⟨_,rfl⟩;(rw [hids] at hs4);(have hidl:ids.length=l1.length+1:=by rw [← hids,List.length_map,HFL.out]);obtain ⟨gi,ci,rfl,hgi,hgis,icells,hic⟩:=Kd.S_form hs4 (by omega);have HCI:Aside0 (KI.C w4 (some ⟨gi,0,none⟩) ids.length ids):=⟨(Kd.S_reads' hs4).2.2⟩;have HIDL:=Aside0.mk hidl;(have hci:l1.length+1≤ci:=by have:=(Kd.S_reads' hs4).2.1;omega);have HB4:Aside0 (Below w.heap.size w w4):=⟨far_ HB3.out hb4⟩;have HLE:Aside0 (l0.length≤2000 ∧ ∀ k (h:k < l1.length),l1[k].length≤2000):=⟨hz4 l0 (by rw [← HFS.out];simp),fun k h=>hz4 _ (by rw [← HFS.out];exact List.mem_cons_of_mem _ (List.getElem_mem h))⟩
   have HIDG:Aside0 (∀ k,k < fs.length→ids.getD k []=(fs.getD k []).map (num (tabOf [] fs))):=⟨fun k hk=>by
    rw [← hids]
    simp [List.getD_eq_getElem?_getD,hk]⟩
   have HFG:Aside0 (fs.getD 0 []=l0 ∧ ∀ k,fs.getD (k+1) []=l1.getD k []):=⟨by rw [← HFS.out];exact ⟨rfl,fun k=>by simp⟩⟩;have HNN:Aside0 (1≤l1.length∧l1.length≤16):=⟨by omega,by omega⟩;rw [hidl];(have hq1 : ¬ ci=1:=by omega);(have hq2:1≤l1.length+1:=by omega);clear hs4 hidl hids hb4 hic hz4;(go_wp2_with fail)
   go_loopw [9,10,30] (fun v9 v10 iv wr => ∃ (k:Nat) (Az:Option Addr) (cz:Nat) (Am:Option Addr) (cm:Nat),v9 = .slice Az k cz∧v10 = .slice Am k cm∧iv = .int .i64 k∧k≤l1.length∧Aside0 (Kd.R (Kd.int .i64) 3 wr w4.heap.size (fun _=>True) (.slice Az k cz) (sizesF (l1.take k))) ∧
    Aside0 (Kd.R KIa 72 wr w4.heap.size (fun q=>True∧some q≠(Value.slice Az k cz).ownBlock) (.slice Am k cm) (matchesF l0 (l1.take k)))∧Aside0 (Below w4.heap.size w4 wr)) (fun _ _ iv _=>l1.length - (intOf iv).toNat)
   (case atStart=>exact ⟨0,_,_,_,_,rfl,rfl,rfl,Nat.zero_le _,⟨Kd.R_nil _ _ _ _ _⟩,⟨Kd.R_nil _ _ _ _ _⟩,⟨Below.refl _ _⟩⟩)
   case round =>
    obtain ⟨k,Az,cz,Am,cm,rfl,rfl,rfl,hk,HZ,HMt,HBr⟩:=hrel;(have hid0:0 < ids.length:=by rw [HIDL.out];omega);have hCr:=Kd.C_below HCI.out HBr.out;have HBw:Aside0 (Below w.heap.size w wr):=⟨far_ HB4.out HBr.out⟩
    by_cases hlt:k < l1.length
    ·
     obtain ⟨ad,E0,d0,ead,x0,le0,kc0⟩:=at_slice hCr 0 hid0;cases ead;obtain ⟨ad,E1,d1,ead,x1,le1,kc1⟩:=at_slice hCr (k+1) (by rw [HIDL.out];omega);cases ead;(rw [addr_add0] at x0 x1);have eg0:=HIDG.out 0 (by rw [HFL.out];omega);have eg1:=HIDG.out (k+1) (by rw [HFL.out];omega);(rw [HFG.out.1] at eg0);(rw [HFG.out.2,getD_get hlt] at eg1)
     have hmat:matchOf (ids.getD 0 []) (ids.getD (k+1) [])=matchS l0 l1[k]:=by
      rw [eg0,eg1];(exact matchS_num fun x hx=>tabAll (ls:=fs) (by rw [← HFS.out];simp) hx)
     (have hla:(ids.getD 0 []).length=l0.length:=by rw [eg0,List.length_map]);(have hlb:(ids.getD (k+1) []).length=l1[k].length:=by rw [eg1,List.length_map]);have hk2:=HLE.out.2 k hlt;(have hs1:sizesF (l1.take (k+1))=sizesF (l1.take k) ++ [(l1[k].length:Int)]:=by rw [sizesF,sizesF,← List.take_append_getElem hlt,List.map_append];rfl);(have hm1:matchesF l0 (l1.take (k+1))=matchesF l0 (l1.take k) ++ [matchS l0 l1[k]]:=by rw [matchesF,matchesF,← List.take_append_getElem hlt,List.map_append];rfl);obtain ⟨a,ha⟩ : ∃ a,ids.getD 0 []=a:=⟨_,rfl⟩;obtain ⟨b,hb⟩ : ∃ b,ids.getD (k+1) []=b:=⟨_,rfl⟩;(rw [ha] at x0 le0 kc0 hmat hla);(rw [hb] at x1 le1 kc1 hmat hlb);(rw [Nat.add_comm k 1] at x1);(rw [← hlb] at hs1 hk2);(rw [← hmat] at hm1);have HS1:=Aside0.mk hs1;have HM1:=Aside0.mk hm1;have HLA:=Aside0.mk hla;have HLB:=Aside0.mk hlb;have HK2:=Aside0.mk hk2;have KC0:=Aside0.mk kc0;have KC1:=Aside0.mk kc1;(have hzl:(sizesF (l1.take k)).length=k:=by rw [sizesF,List.length_map,List.length_take];omega);(have hml:(matchesF l0 (l1.take k)).length=k:=by rw [matchesF,List.length_map,List.length_take];omega);have HZL:=Aside0.mk hzl;have HML:=Aside0.mk hml;have hbw:w4.heap.size≤wr.heap.size:=HBr.out.size;clear hCr eg0 eg1 ha hb hmat hla hlb hs1 hm1 kc0 kc1 hzl hml;(go_wp2_with fail);refine (lcs_New_ok E0 d0 a E1 d1 b wr KC0.out le0 KC1.out le1 (by rw [HLA.out];exact HLE.out.1) HK2.out).mono ?_;rintro e w5 ⟨gp,rfl,hip,hb5⟩;have HIP:=Aside0.mk hip;have HB5:=Aside0.mk hb5;have HZ5:=Aside0.mk (Kd.R_below HZ.out hb5);have HMt5:=Aside0.mk (Kd.R_below HMt.out hb5);have HB45:Aside0 (Below w4.heap.size w4 w5):=⟨far_ HBr.out hb5⟩;clear hip hb5 x0 x1;(go_wp2_with (first | (at_builtin;refine Kd.R_append (Kd.int .i64) (w0:=w4) w4.heap.size rfl (.tmp 42) (.tmp 45) 72 3 (.int .i64 0) 8 rfl Tryz.underlying72 info3 rfl (by decide) (by decide) (.slice Az k cz) (sizesF (l1.take k)) (b.length:Int) [.int .i64 (b.length:Int)] (fun _=>True) (fun _=>False) rfl rfl rfl (fun _ h=>h.elim) (fun _ _=>trivial) HZ5.out HB45.out HB45.out.size (by have:=HZL.out;omega) ?_;intro v6 w6 ho6 hb6 hg6 hat6;obtain ⟨A6,c6,hv6⟩:=Kd.R_slice ho6;subst hv6;have hl6:(sizesF (l1.take k) ++ [(b.length:Int)]).length=k+1:=(by rw [List.length_append,HZL.out];rfl);rw [hl6] at ho6 hat6 ⊢;have HZ6:=Aside0.mk ho6;have HB6:=Aside0.mk hb6;have HG6:=Aside0.mk hg6;have HAT6:=Aside0.mk hat6;clear ho6 hb6 hg6 hat6 hl6)))
     have hip6:IsPair w6 wr.heap.size gp a b:=HIP.out.step (fun q hq hql=>HG6.out.block q hql (fun e=>by
      have:=Kd.R_lt HZ.out q e.symm
      omega))
     obtain ⟨dp,hpi6⟩:=PairIn.of_new hip6;have hgp:wr.heap.size≤gp:=hip6.1;have HMt6:=Aside0.mk (Kd.R_after HMt5.out HG6.out HAT6.out);refine (pair_Match gp a b dp w6 hpi6).mono ?_;rintro e w7 ⟨v7,rfl,hr7,hp7,hg7⟩;obtain ⟨_,_,_,_,_,_,hpb,_⟩:=hpi6;obtain ⟨A7,c7,rfl⟩:=Kd.R_slice hr7;have HZ7:=Aside0.mk (Kd.R_grown1 HZ6.out rfl hg7 (Kd.R_ne HZ6.out hpb (by decide)));have HMt7:=Aside0.mk (Kd.R_mono (Kd.R_grown (Kd.R_types HMt6.out hpb (by decide)) hg7 (fun q hq e=>hq.2 (Option.some.inj e))) (fun _ hq=>hq.1));have HB7:Aside0 (Below w4.heap.size w4 w7):=⟨below_grown HB6.out hg7 (by omega) HB6.out.size⟩;have HR7:=Aside0.mk hr7;have HS67:Aside0 (w6.heap.size≤w7.heap.size∧w5.heap.size≤w6.heap.size∧wr.heap.size≤w5.heap.size):=⟨hg7.size,HG6.out.size,HB5.out.size⟩;have HP7:Aside0 (KIa.M w7 w4.heap.size (fun q=>w6.heap.size≤q) (matchOf a b) [.slice A7 (matchOf a b).length c7]):=⟨⟨_,rfl,Kd.R_lower (Kd.R_mono (Kd.R_bound HR7.out) (fun q hq=>hq.2.1)) (by have:=HS67.out;omega)⟩⟩;have HOK:Aside0 (∀ q,w6.heap.size≤q→(True∧some q≠(Value.slice A6 (k+1) c6).ownBlock)∧some q≠(Value.slice Am k cm).ownBlock):=⟨fun q hq=>⟨⟨trivial,fun e=>by have:=Kd.R_lt HZ6.out q e.symm;omega⟩,fun e=>by have:=Kd.R_lt HMt6.out q e.symm;omega⟩⟩;clear hip6 hgp HMt6 hr7 hp7 hg7 hpb;(go_wp2_with (first | (at_builtin;refine Kd.R_append KIa (w0:=w4) w4.heap.size rfl (.tmp 47) (.tmp 50) 70 72 (.slice none 0 0) 24 rfl Tryz.underlying70 info72 rfl Nat.zero_lt_one (by decide) (.slice Am k cm) (matchesF l0 (l1.take k)) (matchOf a b) [.slice A7 (matchOf a b).length c7] (fun q=>True∧some q≠(Value.slice A6 (k+1) c6).ownBlock) (fun q=>w6.heap.size≤q) rfl rfl HP7.out HOK.out (fun q hq=>(HOK.out q (Nat.le_trans HS67.out.1 hq)).1) HMt7.out HB7.out HB7.out.size (by have:=HML.out;omega) ?_;intro v8 w8 ho8 hb8 hg8 hat8;obtain ⟨A8,c8,hv8⟩:=Kd.R_slice ho8;subst hv8;have hl8:(matchesF l0 (l1.take k) ++ [matchOf a b]).length=k+1:=(by rw [List.length_append,HML.out];rfl);rw [hl8] at ho8 ⊢;have HM8:=Aside0.mk ho8;have HB8:=Aside0.mk hb8;have HG8:=Aside0.mk hg8;clear ho8 hb8 hg8 hat8 hl8)));go_roundw;(case measure=>simp [intOf];omega)
     case rel =>
      have HZ8:=Kd.R_grown2 HZ7.out rfl HG8.out (fun q hq e=>(HMt7.out.1 q hq).2 e);exact ⟨k+1,A6,c6,A8,c8,rfl,rfl,by go_num,by omega,⟨by rw [HS1.out];exact HZ8⟩,⟨by rw [HM1.out];exact HM8.out⟩,HB8⟩
    (· (have hk':k=l1.length:=by omega);subst hk';(rw [List.take_length] at HZ HMt);have hzl:=sizesF_len l1;have hml:=matchesF_len l0 l1;obtain ⟨hez,hcz,hCz⟩:=Kd.R_reads' HZ.out;obtain ⟨hem,hcm,hCm⟩:=Kd.R_reads' HMt.out;clear hez hem;have hal:=align_Align l0.length Az cz (sizesF l1) Am cm (matchesF l0 l1) wr hCz (by rw [hzl];exact hcz) hCm (by rw [hml];exact hcm) (by rw [hzl,hml]) (by rw [hml];exact HNN.out.1) (by rw [hml];exact HNN.out.2) (by have:=HLE.out.1;omega) (matchesF_all l0 l1) (matchesF_bounds l0 l1 HLE.out.2) (matchesF_may l0 l1 HLE.out.1);(rw [hzl,hml] at hal);have HAL:=Aside0.mk hal;clear hal hzl hml hCz hCm;(go_wp2_with fail);refine HAL.out.mono ?_;rintro e w8 ⟨v8,rfl,hs8,hb8⟩;have HS8:=Aside0.mk hs8;have HB8:=Aside0.mk (far_ HBw.out hb8);clear hs8 hb8;go_wp2;go_ret2;exact ⟨v8,rfl,by rw [← HR1e.out];exact Kd.S_lower HS8.out HBw.out.size,HB8.out⟩)
  (· (rw [if_pos hc] at hT);obtain ⟨e1,e2⟩:=Prod.mk.inj hT;subst e1;subst e2;(have b1:(cde == 0)=false:=by simpa using hc);have b2:decide (cde=0)=false:=decide_eq_false hc;go_wp2;go_ret2;exact ⟨_,rfl,Kd.S_nil _ _ _ _ _,HB3.out⟩)
 (· cases h)
theorem rd_of {L:List Int} {i:Nat} {x:Int} (h:L[i]? = some x):rd L (i:Int)=x:=by
 simp [rd,h]
/-- The table, from the place (i, c) on; noughts ahead. -/
def Tab (a b:List Int) (i c:Nat) (T:List Int):Prop :=
  T.length=(a.length+1) * (b.length+1) ∧ ∀ i' j',i'≤a.length→j'≤b.length→T[i' * (b.length+1)+j']? = some (if i < i'∨i=i'∧c≤j' then ((lcsL (a.drop i') (b.drop j'):Nat):Int) else 0)
section
variable {a b T:List Int}
theorem tab_place {n m i j:Nat} (hi:i≤n) (hj:j≤m):i * (m+1)+j < (n+1) * (m+1):=place_lt (by omega) (by omega)
theorem tab_ne {m i j i' j':Nat} (hj:j≤m) (hj':j'≤m) (h:i * (m+1)+j=i' * (m+1)+j'):i=i'∧j=j':=by
 have h1:=place_div (m:=m+1) (i:=i) (j:=j) (by omega);have h2:=place_div (m:=m+1) (i:=i') (j:=j') (by omega);(rw [h] at h1);exact ⟨h1.1.symm.trans h2.1,h1.2.symm.trans h2.2⟩
theorem Tab.start:Tab a b a.length (b.length) (List.replicate ((a.length+1) * (b.length+1)) 0):=by
 refine ⟨by simp,fun i' j' hi hj=>?_⟩;rw [List.getElem?_replicate,if_pos (tab_place hi hj)];split
 ·
  rename_i h
  have:a.drop i'=[]∨b.drop j'=[]:=by
   rcases h with h | ⟨h,h2⟩
   (· omega);(· exact .inl (List.drop_eq_nil_of_le (by omega)))
  rcases this with h | h
  (· (rw [h];simp [lcsL]));(· rw [h];(cases a.drop i' <;> simp [lcsL]))
 (· rfl)
/-- The row above: its last place is nought already. -/
theorem Tab.up {i:Nat} (h:Tab a b (i+1) 0 T):Tab a b i b.length T:=by
 refine ⟨h.1,fun i' j' hi hj=>?_⟩;rw [h.2 i' j' hi hj]
 congr 1
 by_cases e:i'=i
 ·
  subst e;rw [if_neg (by omega)];split;(· rename_i h2;rw [show b.drop j'=[] from List.drop_of_length_le (by omega),lcsL_nil_right];rfl);(· rfl)
 ·
  by_cases e2:i < i'
  (· rw [if_pos (show i+1 < i'∨i+1=i'∧0≤j' by omega),if_pos (show i < i'∨i=i'∧b.length≤j' by omega)]);(· rw [if_neg (show ¬ (i+1 < i'∨i+1=i'∧0≤j') by omega),if_neg (show ¬ (i < i'∨i=i'∧b.length≤j') by omega)])
theorem Tab.first (h:Tab a b a.length b.length T):Tab a b a.length 0 T:=by
 refine ⟨h.1,fun i' j' hi hj=>?_⟩;rw [h.2 i' j' hi hj]
 congr 1
 by_cases e:i'=a.length
 (· subst e;rw [if_pos (show a.length < a.length∨a.length=a.length∧0≤j' by omega),show a.drop a.length=[] from List.drop_of_length_le (by omega),lcsL_nil_left];(split <;> rfl));(· rw [if_neg (show ¬ (a.length < i'∨a.length=i'∧b.length≤j') by omega),if_neg (show ¬ (a.length < i'∨a.length=i'∧0≤j') by omega)])
theorem Tab.put {i c:Nat} (h:Tab a b i (c+1) T) (hi:i≤a.length) (hc:c≤b.length):Tab a b i c (T.set (i * (b.length+1)+c) ((lcsL (a.drop i) (b.drop c):Nat):Int)):=by
 refine ⟨by simpa using h.1,fun i' j' hi' hj'=>?_⟩
 by_cases e:i'=i∧j'=c
 (· obtain ⟨rfl,rfl⟩:=e;rw [List.getElem?_set_self (by rw [h.1];exact tab_place hi hc),if_pos (by omega)])
 ·
  rw [List.getElem?_set_ne (fun h2=>e (by have:=tab_ne hc hj' h2;omega)),h.2 i' j' hi' hj']
  congr 1
  by_cases e2:i < i'∨i=i'∧c+1≤j'
  (· rw [if_pos e2,if_pos (by omega)]);(· rw [if_neg e2,if_neg (by omega)])
theorem Tab.at_ {i c i' j':Nat} (h:Tab a b i c T) (hi:i'≤a.length) (hj:j'≤b.length) (hd:i < i'∨i=i'∧c≤j'):rd T ((i':Int) * ((b.length:Int)+1)+(j':Int))=((lcsL (a.drop i') (b.drop j'):Nat):Int):=by
 have:=h.2 i' j' hi hj;(rw [if_pos hd] at this);have e:=rd_of this;rw [← e]
 congr 1
end
theorem place64 {n m i j:Nat} (hn:n≤100) (hm:m≤100) (hi:i≤n) (hj:j≤m):0≤(i:Int) * ((m:Int)+1)∧(i:Int) * ((m:Int)+1)+(j:Int) < ((n:Int)+1) * ((m:Int)+1)∧((n:Int)+1) * ((m:Int)+1)≤10201:=by
 have h1:=tab_place hi hj;have h2:(n+1) * (m+1)≤101 * 101:=Nat.mul_le_mul (by omega) (by omega);(have e1:(i:Int) * ((m:Int)+1)=((i * (m+1):Nat):Int):=by simp);(have e2:((n:Int)+1) * ((m:Int)+1)=(((n+1) * (m+1):Nat):Int):=by simp);rw [e1,e2];omega
set_option maxHeartbeats 1000000 in
theorem rest_step (a b T:List Int) (w i c X0 X1:Int) (k:Nat) (hX0:i * w=X0) (hX1:(i+1) * w=X1) (h0:0≤X0) (hw:X1=X0+w) (hw0:0≤w) (hi:0≤i) (hia:i < a.length) (hc:0≤c) (hcb:c < b.length) (hcw:c+1 < w) (hT:X1+w≤T.length) (hT2:(T.length:Int)≤100000) (hs:(a.length:Int)≤1000)
    (r1 r2 r3:Int) (e1:rd T (X1+c)=r1) (e2:rd T (X0+c+1)=r2) (e3:rd T (X1+c+1)=r3) (h3:0≤r3) (h3':r3≤1000) :
    sennitref03_rest.l1 (k+1) a b w T i c=sennitref03_rest.l1 k a b w (T.set (X0+c).toNat (if rd a i=rd b c then mx (mx r1 r2) (r3+1) else mx r1 r2)) i (c - 1):=by
 have a1:wrap64 (i+1)=i+1:=gw (by omega) (by omega);have a2:wrap64 X1=X1:=gw (by omega) (by omega);have a3:wrap64 (X1+c)=X1+c:=gw (by omega) (by omega);have a4:wrap64 X0=X0:=gw (by omega) (by omega);have a5:wrap64 (X0+c)=X0+c:=gw (by omega) (by omega);have a6:wrap64 (X0+c+1)=X0+c+1:=gw (by omega) (by omega);have a7:wrap64 (X1+c+1)=X1+c+1:=gw (by omega) (by omega);have a8:wrap64 (c - 1)=c - 1:=gw (by omega) (by omega);have a9:wrap64 (r3+1)=r3+1:=gw (by omega) (by omega);have b0:c ≥ 0:=hc;(have b1:0≤X1+c:=by omega);(have b2:X1+c < T.length:=by omega);(have b3:0≤X0+c+1:=by omega);(have b4:X0+c+1 < T.length:=by omega);(have b5:0≤X1+c+1:=by omega);(have b6:X1+c+1 < T.length:=by omega);(have b7:0≤X0+c:=by omega);(have b8:X0+c < T.length:=by omega);rw [sennitref03_rest.l1,a1,hX1,hX0,a2,a3,a4,a5,a6,a7,a8,e1,e2,e3,a9];rw [if_pos b0,if_pos b1,if_pos b2,if_pos b3,if_pos b4,if_pos hi,if_pos hia,if_pos hc,if_pos hcb]
 by_cases eq:rd a i=rd b c
 (· rw [if_pos eq,if_pos b5,if_pos b6,if_pos b7,if_pos b8,if_pos eq]);(· rw [if_neg eq,if_neg eq];rw [if_pos b7,if_pos b8])
theorem place_cast (i m j:Nat):((i:Int) * ((m:Int)+1)+(j:Int)).toNat=i * (m+1)+j:=by
 (have:(i:Int) * ((m:Int)+1)=((i * (m+1):Nat):Int):=by simp);(rw [this];omega)
section
variable {a b:List Int}
theorem rest_l1 (ha:a.length≤100) (hb:b.length≤100) {i:Nat} (hi:i < a.length) : ∀ (c:Nat) (T:List Int),c≤b.length→Tab a b i c T →
    ∃ T',Tab a b i 0 T' ∧ ∀ k,sennitref03_rest.l1 (k+c+1) a b ((b.length:Int)+1) T (i:Int) ((c:Int) - 1)=sennitref03_rest.l0 k a b ((b.length:Int)+1) T' ((i:Int) - 1)
  | 0,T,_,hT=>⟨T,hT,fun k=>by
      rw [sennitref03_rest.l1,if_neg (by omega),gw (by omega) (by omega)]⟩
  | c+1,T,hc,hT=>by
    obtain ⟨T',h1,h2⟩:=rest_l1 ha hb hi c _ (by omega) (hT.put (by omega) (by omega))
    refine ⟨T',h1,fun k=>?_⟩
    have L:(T.length:Int)=((a.length:Int)+1) * ((b.length:Int)+1):=by rw [hT.1];simp
    have p1:=place64 ha hb (i:=i+1) (j:=b.length) (by omega) (by omega)
    have p4:=place64 ha hb (i:=i) (j:=c) (by omega) (by omega)
    have r1:=hT.at_ (i':=i+1) (j':=c) (by omega) (by omega) (by omega)
    have r2:=hT.at_ (i':=i) (j':=c+1) (by omega) (by omega) (by omega)
    have r3:=hT.at_ (i':=i+1) (j':=c+1) (by omega) (by omega) (by omega)
    have x1:((i+1:Nat):Int)=(i:Int)+1:=by omega
    have x2:((c+1:Nat):Int)=(c:Int)+1:=by omega
    have en:=place_cast i b.length c
    rw [x1] at p1 r1 r3
    rw [x2,← Int.add_assoc] at r2 r3
    have hX:((i:Int)+1) * ((b.length:Int)+1)=(i:Int) * ((b.length:Int)+1)+((b.length:Int)+1):=by rw [Int.add_mul,Int.one_mul]
    have xa:a[i]? = some a[i]:=List.getElem?_eq_getElem hi
    have xb:b[c]? = some b[c]:=List.getElem?_eq_getElem (by omega)
    have q1:=lcsL_le_left (a.drop (i+1)) (b.drop (c+1))
    rw [List.length_drop] at q1
    obtain ⟨X0,hX0⟩ : ∃ X0,(i:Int) * ((b.length:Int)+1)=X0:=⟨_,rfl⟩
    obtain ⟨X1,hX1⟩ : ∃ X1,((i:Int)+1) * ((b.length:Int)+1)=X1:=⟨_,rfl⟩
    obtain ⟨LL,hLL⟩ : ∃ LL,((a.length:Int)+1) * ((b.length:Int)+1)=LL:=⟨_,rfl⟩
    rw [hX0] at p4 r2 hX en
    rw [hX1] at p1 r1 r3 hX
    rw [hLL] at p1 p4 L
    have st:=rest_step a b T ((b.length:Int)+1) i c X0 X1 (k+c+1) hX0 hX1 (by omega) hX (by omega) (by omega) (by omega) (by omega) (by omega) (by omega) (by omega) (by omega) (by omega) _ _ _ r1 r2 r3 (by omega) (by omega)
    rw [show k+(c+1)+1=k+c+1+1 from by omega,show ((c+1:Nat):Int) - 1=(c:Int) from by omega,st,← h2 k,en,rd_of xa,rd_of xb]
    congr 2
    have s1:=lcsL_step_left a[i] (a.drop (i+1)) (b.drop (c+1))
    have s2:=lcsL_step_right b[c] (a.drop (i+1)) (b.drop (c+1))
    rw [← drop_cons' xa] at s1
    rw [← drop_cons' xb] at s2
    by_cases eq:a[i]=b[c]
    · rw [if_pos eq,lcs_eq xa xb eq]
      simp only [mx]
      split <;> split <;> omega
    · rw [if_neg eq,lcs_ne xa xb eq]
      simp only [mx]
      split <;> omega
theorem rest_l0 (ha:a.length≤100) (hb:b.length≤100) : ∀ (r:Nat) (T:List Int),r≤a.length→Tab a b r 0 T →
    ∃ T',Tab a b 0 0 T' ∧ ∀ k,r * (b.length+2)+1≤k→sennitref03_rest.l0 k a b ((b.length:Int)+1) T ((r:Int) - 1)=some T'
  | 0,T,_,hT=>⟨T,hT,fun k hk=>by
      obtain ⟨k,rfl⟩ : ∃ k',k=k'+1:=⟨k - 1,by omega⟩
      rw [sennitref03_rest.l0,if_neg (by omega)]⟩
  | r+1,T,hr,hT=>by
    obtain ⟨T1,h1,h2⟩:=rest_l1 ha hb (i:=r) (by omega) b.length T (Nat.le_refl _) hT.up
    obtain ⟨T',h3,h4⟩:=rest_l0 ha hb r T1 (by omega) h1
    refine ⟨T',h3,fun k hk=>?_⟩
    rw [Nat.succ_mul] at hk
    obtain ⟨k,rfl⟩ : ∃ k',k=k'+b.length+1+1:=⟨k - b.length - 2,by omega⟩
    rw [sennitref03_rest.l0,if_pos (by omega),gw (by omega) (by omega),show ((r+1:Nat):Int) - 1=(r:Int) from by omega,h2 k]
    exact h4 k (by omega)
theorem rest_gives (ha:a.length≤100) (hb:b.length≤100) : ∃ T,Tab a b 0 0 T∧Gives (fun k=>sennitref03_rest.f k a b) T:=by
 obtain ⟨T,h1,h2⟩:=rest_l0 ha hb a.length _ (Nat.le_refl _) (Tab.start (a:=a) (b:=b)).first;refine ⟨T,h1,a.length * (b.length+2)+1,fun k hk=>?_⟩;have p:=place64 ha hb (i:=0) (j:=0) (by omega) (by omega)
 have e:(((a.length:Int)+1) * ((b.length:Int)+1)).toNat=(a.length+1) * (b.length+1):=by
  rw [← Int.natCast_one,← Int.natCast_add,← Int.natCast_add,← Int.natCast_mul,Int.toNat_natCast]
 show sennitref03_rest.f k a b=_;have w1:wrap64 ((a.length:Int)+1)=(a.length:Int)+1:=gw (by omega) (by omega);have w2:wrap64 ((b.length:Int)+1)=(b.length:Int)+1:=gw (by omega) (by omega);have w3:wrap64 ((a.length:Int) - 1)=(a.length:Int) - 1:=gw (by omega) (by omega);have hm:(a.length+1) * (b.length+1)≤101 * 101:=Nat.mul_le_mul (by omega) (by omega)
 have w4:wrap64 (((a.length:Int)+1) * ((b.length:Int)+1))=((a.length:Int)+1) * ((b.length:Int)+1):=by
  obtain ⟨LL,hLL⟩ : ∃ LL,((a.length:Int)+1) * ((b.length:Int)+1)=LL:=⟨_,rfl⟩;(rw [hLL] at p ⊢);exact gw (by omega) (by omega)
 rw [sennitref03_rest.f,w1,w2,w3,w4,e]
 have h0:0≤((a.length:Int)+1) * ((b.length:Int)+1):=by
  obtain ⟨LL,hLL⟩ : ∃ LL,((a.length:Int)+1) * ((b.length:Int)+1)=LL:=⟨_,rfl⟩;(rw [hLL] at p ⊢);omega
 rw [if_pos h0,if_pos (by omega)];exact h2 k hk
set_option maxHeartbeats 1000000 in
theorem match_step (a b T:List Int) (w i j X0 X1:Int) (out:List Int) (k:Nat) (hX0:i * w=X0) (hX1:(i+1) * w=X1) (h0:0≤X0) (hw:X1=X0+w) (hw0:0≤w) (hi:0≤i) (hia:i < a.length) (hc:0≤j) (hcb:j < b.length) (hcw:j+1 < w) (hT:X1+w≤T.length) (hT2:(T.length:Int)≤100000) (hs:(a.length:Int)≤1000) (ho:out.length < 17592186044416)
    (r1 r2:Int) (e1:rd T (X1+j)=r1) (e2:rd T (X0+j+1)=r2) :
    sennitref03_Match.l1 (k+1) a b T w out j i (-1)=if rd a i=rd b j then sennitref03_Match.l0 k a b T w (out ++ [j]) (j+1) (i+1) else if r1 < r2 then sennitref03_Match.l1 k a b T w out (j+1) i (-1) else sennitref03_Match.l0 k a b T w (out ++ [-1]) j (i+1):=by
 have a1:wrap64 (i+1)=i+1:=gw (by omega) (by omega);have a2:wrap64 X1=X1:=gw (by omega) (by omega);have a3:wrap64 (X1+j)=X1+j:=gw (by omega) (by omega);have a4:wrap64 X0=X0:=gw (by omega) (by omega);have a5:wrap64 (X0+j)=X0+j:=gw (by omega) (by omega);have a6:wrap64 (X0+j+1)=X0+j+1:=gw (by omega) (by omega);have a7:wrap64 (j+1)=j+1:=gw (by omega) (by omega);(have b1:0≤X1+j:=by omega);(have b2:X1+j < T.length:=by omega);(have b3:0≤X0+j+1:=by omega);(have b4:X0+j+1 < T.length:=by omega);rw [sennitref03_Match.l1,a1,hX1,hX0,a2,a3,a4,a5,a6,a7,e1,e2];rw [if_pos hcb,if_pos hi,if_pos hia,if_pos hc,if_pos b1,if_pos b2,if_pos b3,if_pos b4,if_pos ho];simp only [if_pos ho]
theorem match_l (ha:a.length≤100) (hb:b.length≤100) {T:List Int} (hT:Tab a b 0 0 T) : ∀ (m:Nat),
    (∀ (i j:Nat) (out:List Int) (k:Nat),i≤a.length→j≤b.length→out.length=i→2 * (a.length - i)+(b.length - j)+1≤m→m≤k→sennitref03_Match.l0 k a b T ((b.length:Int)+1) out (j:Int) (i:Int)=some (out ++ matchFrom (a.drop i) (b.drop j) j)) ∧
    (∀ (i j:Nat) (out:List Int) (k:Nat),i < a.length→j≤b.length→out.length=i→2 * (a.length - i)+(b.length - j)≤m→m≤k→sennitref03_Match.l1 k a b T ((b.length:Int)+1) out (j:Int) (i:Int) (-1)=some (out ++ matchFrom (a.drop i) (b.drop j) j))
  | 0=>⟨fun i j out k _ _ _ h _=>by omega,fun i j out k _ _ _ h _=>by omega⟩
  | m+1=>by
    obtain ⟨ih0,ih1⟩:=match_l ha hb hT m
    refine ⟨fun i j out k hi hj ho hm hk=>?_,fun i j out k hi hj ho hm hk=>?_⟩
    · obtain ⟨k,rfl⟩ : ∃ k',k=k'+1:=⟨k - 1,by omega⟩
      rw [sennitref03_Match.l0]
      by_cases h:i < a.length
      · rw [if_pos (by omega)]
        exact ih1 i j out k h hj ho (by omega) (by omega)
      · rw [if_neg (by omega),List.drop_of_length_le (by omega),matchFrom_nil,List.append_nil]
    · obtain ⟨k,rfl⟩ : ∃ k',k=k'+1:=⟨k - 1,by omega⟩
      have xa:a[i]? = some a[i]:=List.getElem?_eq_getElem hi
      have z0:((out ++ [(-1:Int)]) ++ matchFrom (a.drop (i+1)) (b.drop j) j)=out ++ (-1 :: matchFrom (a.drop (i+1)) (b.drop j) j):=by simp
      have w1:wrap64 ((i:Int)+1)=(i:Int)+1:=gw (by omega) (by omega)
      have old:sennitref03_Match.l0 k a b T ((b.length:Int)+1) (out ++ [(-1:Int)]) (j:Int) ((i:Int)+1)=some (out ++ (-1 :: matchFrom (a.drop (i+1)) (b.drop j) j)):=by
        have:=ih0 (i+1) j (out ++ [-1]) k (by omega) hj (by simp [ho]) (by omega) (by omega)
        rw [show ((i+1:Nat):Int)=(i:Int)+1 from by omega] at this
        rw [this,z0]
      by_cases h:j < b.length
      · have xb:b[j]? = some b[j]:=List.getElem?_eq_getElem h
        have p1:=place64 ha hb (i:=i+1) (j:=b.length) (by omega) (by omega)
        have p4:=place64 ha hb (i:=i) (j:=j) (by omega) (by omega)
        have r1:=hT.at_ (i':=i+1) (j':=j) (by omega) (by omega) (by omega)
        have r2:=hT.at_ (i':=i) (j':=j+1) (by omega) (by omega) (by omega)
        have L:(T.length:Int)=((a.length:Int)+1) * ((b.length:Int)+1):=by rw [hT.1];simp
        have x1:((i+1:Nat):Int)=(i:Int)+1:=by omega
        have x2:((j+1:Nat):Int)=(j:Int)+1:=by omega
        rw [x1] at p1 r1
        rw [x2,← Int.add_assoc] at r2
        have hX:((i:Int)+1) * ((b.length:Int)+1)=(i:Int) * ((b.length:Int)+1)+((b.length:Int)+1):=by rw [Int.add_mul,Int.one_mul]
        obtain ⟨X0,hX0⟩ : ∃ X0,(i:Int) * ((b.length:Int)+1)=X0:=⟨_,rfl⟩
        obtain ⟨X1,hX1⟩ : ∃ X1,((i:Int)+1) * ((b.length:Int)+1)=X1:=⟨_,rfl⟩
        obtain ⟨LL,hLL⟩ : ∃ LL,((a.length:Int)+1) * ((b.length:Int)+1)=LL:=⟨_,rfl⟩
        rw [hX0] at p4 r2 hX
        rw [hX1] at p1 r1 hX
        rw [hLL] at p1 p4 L
        have st:=match_step a b T ((b.length:Int)+1) i j X0 X1 out k hX0 hX1 (by omega) hX (by omega) (by omega) (by omega) (by omega) (by omega) (by omega) (by omega) (by omega) (by omega) (by omega) _ _ r1 r2
        rw [st,rd_of xa,rd_of xb]
        clear st p1 p4 r1 r2 L hX hX0 hX1 hLL
        rw [drop_cons' xa,drop_cons' xb,matchFrom_cons,← drop_cons' xa,← drop_cons' xb]
        by_cases eq:a[i]=b[j]
        · rw [if_pos eq,if_pos eq]
          have:=ih0 (i+1) (j+1) (out ++ [(j:Int)]) k (by omega) (by omega) (by simp [ho]) (by omega) (by omega)
          rw [x1,x2] at this
          rw [this]
          simp
        · rw [if_neg eq,if_neg eq]
          by_cases le:lcsL (a.drop i) (b.drop (j+1))≤lcsL (a.drop (i+1)) (b.drop j)
          · rw [if_neg (by omega),if_pos le]
            exact old
          · rw [if_pos (by omega),if_neg le]
            have:=ih1 i (j+1) out k hi (by omega) ho (by omega) (by omega)
            rw [x2] at this
            exact this
      · have b0 : ¬ (j:Int) < b.length:=by omega
        have b8:out.length < 17592186044416:=by omega
        rw [sennitref03_Match.l1,if_neg b0,if_pos b8,w1]
        have hbn:b.drop j=[]:=List.drop_of_length_le (by omega)
        rw [old,hbn,drop_cons' xa,matchFrom_none]
theorem match_gives (ha:a.length≤100) (hb:b.length≤100):Gives (fun k=>sennitref03_Match.f k a b) (matchOf a b):=by
 obtain ⟨T,h1,K,h2⟩:=rest_gives ha hb;refine ⟨K+(2 * a.length+b.length+1),fun k hk=>?_⟩;show sennitref03_Match.f k a b=_;rw [sennitref03_Match.f,show sennitref03_rest.f k a b=some T from h2 k (by omega),Option.bind_some,gw (by omega) (by omega)];have:=(match_l ha hb h1 (2 * a.length+b.length+1)).1 0 0 [] k (by omega) (by omega) rfl (by omega) (by omega);simpa [matchOf] using this
end
/-- A block of cells. -/
def CellsAt (W:World) (k:Nat):Prop := ∃ cs t fr,W.heap[k]? = some (.cells cs t fr)
theorem CellsAt.of_cell {W:World} {a:Addr} {v:Value} (h:W.cell? a=some v):CellsAt W a.block:=by
 (unfold World.cell? at h);(split at h);(· (rename_i c t fr e;exact ⟨c,t,fr,e⟩));(· cases h)
theorem CellsAt.lt {W:World} {k:Nat} (h:CellsAt W k):k < W.heap.size:=by
 (obtain ⟨cs,t,fr,h⟩:=h;exact blk_lt h)
theorem F_cells {α:Type} {d:Kd α} (z:α) (hsz:0 < d.sz) (hd : ∀ {W:World} {ok:Nat→Prop} {x:α} {c:List Value},Kd.FK d W ok x c→Kd.FK d W (fun k=>ok k∧CellsAt W k) x c) {W:World} {ok:Nat→Prop} {A:Option Addr} {n:Nat} {xs:List α} (h:Kd.F d W ok A n xs):Kd.F d W (fun k=>ok k∧CellsAt W k) A n xs:=by
 intro W' hW;obtain ⟨hl,hm,hr⟩:=Kd.F_now h;refine ⟨hl,hm,fun hp=>?_⟩;obtain ⟨ad,c0,rfl,hcl0,_,hc0,hok⟩:=Kd.F_get h z 0 (by omega) (by omega);have hcell0:=hc0 0 _ (List.getElem?_eq_getElem (by omega))
 have hblk:CellsAt W ad.block:=by
  have:=CellsAt.of_cell hcell0
  rwa [add_block] at this
 have hsame:W'.heap[ad.block]? = W.heap[ad.block]? := hW _ ⟨hok hsz,hblk⟩ hblk.lt;refine ⟨ad,rfl,fun j p hj=>?_⟩;have hjl:j < xs.length:=(List.getElem?_eq_some_iff.1 hj).1;obtain ⟨ad',c,e,hcl,hFK,hcc,_⟩:=Kd.F_get h z (j:Int) (by omega) (by omega);cases e;(rw [Int.toNat_natCast] at hFK hcc);(rw [List.getD_eq_getElem?_getD,hj] at hFK);refine ⟨c,hcl,(hd hFK) W' hW,fun i u hu=>?_⟩;have:=hcc i u hu;simpa [World.cell?,add_block,hsame] using this
theorem FK_str_cells {W:World} {ok:Nat→Prop} {x:ByteArray} {c:List Value} (h:Kd.FK Kd.string W ok x c):Kd.FK Kd.string W (fun k=>ok k∧CellsAt W k) x c:=fun W' _=>(show Kd.string.K W' x c from (show Kd.string.K W x c from Kd.FK_now h))
theorem F_str_cells {W:World} {ok:Nat→Prop} {A:Option Addr} {n:Nat} {xs:List ByteArray} (h:Kd.F Kd.string W ok A n xs):Kd.F Kd.string W (fun k=>ok k∧CellsAt W k) A n xs:=F_cells ByteArray.empty (by decide) FK_str_cells h
theorem FK_strs_cells {W:World} {ok:Nat→Prop} {x:List ByteArray} {c:List Value} (h:Kd.FK KSs W ok x c):Kd.FK KSs W (fun k=>ok k∧CellsAt W k) x c:=by
 obtain ⟨A,c,rfl,hl,hf⟩:=Kd.FK_slice_open h;exact Kd.FK_slice_mk hl (F_str_cells hf)
theorem F_strs_cells {W:World} {ok:Nat→Prop} {A:Option Addr} {n:Nat} {xs:List (List ByteArray)} (h:Kd.F KSs W ok A n xs):Kd.F KSs W (fun k=>ok k∧CellsAt W k) A n xs:=F_cells [] Nat.zero_lt_one FK_strs_cells h
theorem FK_piece_cells {W:World} {ok:Nat→Prop} {x:Piece} {c:List Value} (h:Kd.FK k66 W ok x c):Kd.FK k66 W (fun k=>ok k∧CellsAt W k) x c:=by
 obtain ⟨A1,c1,A2,c2,A3,c3,rfl,l1,g1,l2,g2,l3,g3⟩:=k66_openF h;exact k66_mkF _ _ x l1 (F_str_cells g1) l2 (F_str_cells g2) l3 (F_strs_cells g3)
theorem N_cells {W:World} {e base:Nat} {ok:Nat→Prop} {v:Value} {xs:List Piece} (h:Kd.N k66 e W base ok v xs):Kd.N k66 e W base (fun k=>ok k∧CellsAt W k) v xs:=by
 have ht:=Kd.N_typed h;obtain ⟨h0,rows,hl,hR,hf⟩:=h;refine ⟨fun k hk=>⟨h0 k hk,?_⟩,rows,hl,hR,fun j x c hx hc=>Kd.FK_mono (FK_piece_cells (hf j x c hx hc)) (fun k hk=>⟨⟨hk.1.1,hk.2⟩,hk.1.2⟩)⟩;obtain ⟨cs,hcs⟩:=ht k hk;exact ⟨cs,e,(0,0),hcs⟩
theorem PieceAt.cells {W:World} {ok:Nat→Prop} {p:Piece} {cs:Array Value} (h:PieceAt W ok p cs):PieceAt W (fun k=>ok k∧CellsAt W k) p cs:=by
 obtain ⟨A1,c1,A2,c2,A3,c3,e,l1,f1,l2,f2,l3,f3⟩:=h;exact ⟨A1,c1,A2,c2,A3,c3,e,l1,F_str_cells f1,l2,F_str_cells f2,l3,F_strs_cells f3⟩
theorem PieceAt.step {W W':World} {ok:Nat→Prop} {p:Piece} {cs:Array Value} (h:PieceAt W ok p cs) (hm : ∀ k,ok k→k < W.heap.size→W'.heap[k]? = W.heap[k]?):PieceAt W' ok p cs:=by
 obtain ⟨A1,c1,A2,c2,A3,c3,e,l1,f1,l2,f2,l3,f3⟩:=h;exact ⟨A1,c1,A2,c2,A3,c3,e,l1,Kd.F_step f1 hm,l2,Kd.F_step f2 hm,l3,Kd.F_step f3 hm⟩
theorem PieceAt.mono {W:World} {ok ok':Nat→Prop} {p:Piece} {cs:Array Value} (h:PieceAt W ok p cs) (hm : ∀ k,ok k→ok' k):PieceAt W ok' p cs:=by
 obtain ⟨A1,c1,A2,c2,A3,c3,e,l1,f1,l2,f2,l3,f3⟩:=h;exact ⟨A1,c1,A2,c2,A3,c3,e,l1,Kd.F_mono f1 hm,l2,Kd.F_mono f2 hm,l3,Kd.F_mono f3 hm⟩
/-- The pieces so far, in the box Bo; the one that is handed over. -/
abbrev MeS:=List Piece × Option (Piece × Array Value)
def MeI (P:Nat→Prop) (W1:World) (Bo g1 g2 g3 g4:Nat) (v1 v2 v3:Value) (fav:Int) (un:Bool) (s:MeS) (W:World):Prop :=
  Below W1.heap.size W1 W∧W1.heap.size≤Bo∧W.heap[g1]? = some (.cells #[v1] 26 (0,0))∧W.heap[g2]? = some (.cells #[v2] 22 (0,0))∧W.heap[g3]? = some (.cells #[v3] 23 (0,0))∧W.heap[g4]? = some (.cells #[.int .i64 fav, .bool un] 34 (0,0)) ∧
    ∃ (ok:Nat→Prop) (v:Value),W.heap[Bo]? = some (.cells #[v] 35 (0,0))∧(∀ k,ok k→(k≠Bo∧(P k∧k < W1.heap.size∨W1.heap.size≤k))∧CellsAt W k)∧Kd.N k66 66 W W1.heap.size ok v s.1∧(∀ p cs,s.2=some (p,cs)→PieceAt W (fun k=>ok k∧some k≠v.ownBlock) p cs)
section
variable {P:Nat→Prop} {W1 W W':World} {Bo g1 g2 g3 g4:Nat} {v1 v2 v3:Value} {fav:Int} {un:Bool} {s:MeS}
/-- All blocks of cells that there were stay. -/
theorem MeI.kept (h:MeI P W1 Bo g1 g2 g3 g4 v1 v2 v3 fav un s W) (hb:Below W1.heap.size W1 W') (hm : ∀ (k:Nat) cs t fr,W.heap[k]? = some (.cells cs t fr)→W'.heap[k]? = some (.cells cs t fr)):MeI P W1 Bo g1 g2 g3 g4 v1 v2 v3 fav un s W':=by
 obtain ⟨h1,h2,h3,h4,h5,h6,ok,v,h7,h8,h9,h10⟩:=h
 have hs : ∀ k,ok k→W'.heap[k]? = W.heap[k]? := fun k hk=>by
  obtain ⟨cs,t,fr,hc⟩:=(h8 k hk).2;(rw [hc];exact hm k cs t fr hc)
 refine ⟨hb,h2,hm _ _ _ _ h3,hm _ _ _ _ h4,hm _ _ _ _ h5,hm _ _ _ _ h6,ok,v,hm _ _ _ _ h7,fun k hk=>⟨(h8 k hk).1,?_⟩,Kd.N_step h9 (fun k hk _=>hs k hk),fun p cs e=>(h10 p cs e).step (fun k hk _=>hs k hk.1)⟩;obtain ⟨cs,t,fr,hc⟩:=(h8 k hk).2;exact ⟨cs,t,fr,hm _ _ _ _ hc⟩
theorem MeI.bel (h:MeI P W1 Bo g1 g2 g3 g4 v1 v2 v3 fav un s W):Below W1.heap.size W1 W:=h.1
theorem MeI.below (h:MeI P W1 Bo g1 g2 g3 g4 v1 v2 v3 fav un s W) (hb:Below W.heap.size W W'):MeI P W1 Bo g1 g2 g3 g4 v1 v2 v3 fav un s W' :=
  h.kept (far_ h.1 hb) (fun k cs t fr hk=>farKeep hk hb)
theorem MeI.put (h:MeI P W1 Bo g1 g2 g3 g4 v1 v2 v3 fav un s W) {r:Nat} {o:Obj} (o':Obj) (hr:W1.heap.size≤r) (hl:W.heap[r]? = some o) (ho:o.isCells=false):MeI P W1 Bo g1 g2 g3 g4 v1 v2 v3 fav un s (W.putObj r o'):=by
 refine h.kept (h.1.grown (grownBy_putObj' W r o') h.1.size (fun k e=>by cases e;exact hr)) (fun k cs t fr hk=>?_);refine ((grownBy_putObj' W r o').block k (blk_lt hk) (fun e=>?_)).trans hk;cases e;(rw [hk] at hl);cases hl;cases ho
theorem MeI.box (h:MeI P W1 Bo g1 g2 g3 g4 v1 v2 v3 fav un s W) : ∃ A c,W.heap[Bo]? = some (.cells #[.slice A s.1.length c] 35 (0,0))∧Kd.N k66 66 W W1.heap.size (fun k=>k≠Bo∧(P k∧k < W1.heap.size∨W1.heap.size≤k)) (.slice A s.1.length c) s.1:=by
 obtain ⟨h1,h2,h3,h4,h5,h6,ok,v,h7,h8,h9,h10⟩:=h;obtain ⟨A,c,rfl⟩:=Kd.N_slice h9;exact ⟨A,c,h7,Kd.N_mono h9 (fun k hk=>(h8 k hk).1)⟩
/-- A piece stands ready. -/
theorem MeI.ready {l:List Piece} (h:MeI P W1 Bo g1 g2 g3 g4 v1 v2 v3 fav un (l,none) W) (hb:Below W.heap.size W W') {p:Piece} {cs:Array Value} (hp:PieceAt W' (fun k=>P k∧k < W1.heap.size∨W.heap.size≤k) p cs):MeI P W1 Bo g1 g2 g3 g4 v1 v2 v3 fav un (l,some (p,cs)) W':=by
 have h':=h.below hb;obtain ⟨h1,h2,h3,h4,h5,h6,ok,v,h7,h8,h9,h10⟩:=h';obtain ⟨g1',g2',g3',g4',g5',g6',ok0,v0,g7,g8,g9,g10⟩:=h
 have hv:v=v0:=by
  have:=farKeep g7 hb;(rw [this] at h7);(injection h7 with h7);(injection h7 with h7);simpa using h7.symm
 subst hv;refine ⟨h1,h2,h3,h4,h5,h6,fun k=>ok k∨((P k∧k < W1.heap.size∨W.heap.size≤k)∧CellsAt W' k),v,h7,fun k hk=>?_,Kd.N_mono h9 (fun k hk => .inl hk),fun p' cs' e=>?_⟩
 ·
  rcases hk with hk | hk
  (· exact h8 k hk)
  ·
   have hl:=blk_lt g7;have hsz:=g1'.size
   rcases hk.1 with hk1 | hk1
   (· exact ⟨⟨by omega, .inl hk1⟩,hk.2⟩);(· exact ⟨⟨by omega, .inr (by omega)⟩,hk.2⟩)
 ·
  cases e;refine hp.cells.mono (fun k hk=>⟨.inr hk,fun e=>?_⟩);have a1:=Kd.N_base g9 k e.symm;have a2:=Kd.N_lt g9 k e.symm
  rcases hk.1 with hk | hk <;> omega
end
end Go.Proofs.YtbbhdbeaikclcaaGreat.X
namespace Go.Proofs.YtbbhdbeaikclcaaGreat.X
open Go.RowKit Go.Shelf Go.Proofs.YtbbhdbeaikclcaaGreatW.PrintWords Go.Proofs.YtbbhdbeaikclcaaGreatW.PrintLast Go.Proofs.YtbbhdbeaikclcaaGreatW.PrintMore
attribute [local go_sem] Oper.semAt_some
theorem KeepsOthers.of_below {W W':World} (h:Below W.heap.size W W'):KeepsOthers W W':=⟨h.size,fun k o hk _=>farKeep hk h⟩
theorem merge_pieces (n:Nat) (v1:Option Addr) (n1 k1:Nat) (v2:Option Addr) (n2 k2:Nat) (v3:Option Addr) (n3 k3:Nat) (fav:Int) (un:Bool) (w:World) :
    CallsIn Fence.wide n Tryz.prog 43 #[.slice v1 n1 k1, .slice v2 n2 k2, .slice v3 n3 k3, .agg #[.int .i64 fav, .bool un]] w fun e w'=>e = .returned (.func (.func 87) #[] #[.pointer (some ⟨w.heap.size,0,none⟩), .pointer (some ⟨w.heap.size+1,0,none⟩), .pointer (some ⟨w.heap.size+1+1,0,none⟩), .pointer (some ⟨w.heap.size+1+1+1,0,none⟩)]) ∧
      w'=(((w.alloc (.cells #[.slice v1 n1 k1] 26)).alloc (.cells #[.slice v2 n2 k2] 22)).alloc (.cells #[.slice v3 n3 k3] 23)).alloc (.cells #[.int .i64 fav, .bool un] 34):=by
  refine callsIn_of_wp Tryz.func43 rfl trivial ?_ rfl
  simp only [Tryz.ntmps43,List.size_toArray,List.length_cons,List.length_nil,Nat.reduceAdd,Nat.reduceSub,Array.replicate_succ,Array.replicate_zero,List.push_toArray,List.append_toArray,List.nil_append,List.cons_append]
  gi_wp2
  go_ret
  exact ⟨by simp,rfl⟩
/-- What becomes of a chunk. -/
def mergePiece (base:List ByteArray) (sides:List (List ByteArray)) (fav:Int) (un:Bool) (c:Chunk):Piece:=if c.f0=true then ⟨false,cutS base c.f1,[],[]⟩ else pieceF (cutS base c.f1) (partsF c.f2 sides) fav un
/-- A chunk's spans are places of the files. -/
def ChunkOk (base:List ByteArray) (sides:List (List ByteArray)) (c:Chunk):Prop:=c.f2.length=sides.length∧SpanOk c.f1 base.length ∧ ∀ i (h:i < sides.length),SpanOk (c.f2.getD i z45) sides[i].length
theorem partsF_at {ss:List Spanx} {l:List (List ByteArray)} (h:ss.length=l.length) : ∀ y ∈ partsF ss l,∃ i,∃ hi:i < l.length,y=cutS l[i] (ss.getD i z45):=fun y hy=>by
  obtain ⟨i,hi,rfl⟩:=List.mem_iff_getElem.1 hy
  have hi':i < l.length:=by rw [partsF_len h] at hi;exact hi
  refine ⟨i,hi',?_⟩
  simp only [partsF,List.getElem_zipWith]
  rw [getD_get (by omega)]
theorem cutL_mem {α:Type} {l:List α} {f t:Nat} {x:α} (h:x ∈ cutL l f t):x ∈ l:=List.mem_of_mem_take (List.mem_of_mem_drop h)
theorem cutL_le {α:Type} (l:List α) (f t:Nat):(cutL l f t).length≤l.length:=by rw [cutL,List.length_drop,List.length_take];omega
theorem partsF_sum {n:Nat} : ∀ {ss:List Spanx} {l:List (List ByteArray)},(∀ y ∈ l,y.length≤n)→((partsF ss l).map List.length).sum≤l.length * n
 | [],l,_=>by simp [partsF]
 | _ :: _,[],_=>by simp [partsF]
 | s :: ss,y :: l,h=>by
  have ih:=partsF_sum (ss:=ss) (l:=l) (fun z hz=>h z (List.mem_cons_of_mem _ hz));have h1:=h y List.mem_cons_self;have h2:=cutL_le y s.f0.toNat s.f1.toNat;(rw [partsF] at ih ⊢);rw [List.zipWith_cons_cons,List.map_cons,List.sum_cons,List.length_cons,Nat.add_mul,Nat.one_mul];show (cutL y s.f0.toNat s.f1.toNat).length+_≤_;omega
set_option maxRecDepth 100000 in
set_option maxHeartbeats 8000000 in
theorem pieces_goes (P:Nat→Prop) (n:Nat) (W1:World) (Bo g1 g2 g3 g4:Nat) (chunks:List Chunk) (Ac:Option Addr) (cc:Nat) (base:List ByteArray) (A0:Option Addr) (c0:Nat) (sides:List (List ByteArray)) (A1:Option Addr) (c1:Nat) (fav:Int) (un:Bool)
    (hC:Kd.C k48 W1 Ac chunks.length chunks) (h0:Kd.F Kd.string W1 P A0 base.length base) (hc0:base.length≤c0) (h1:Kd.F KSs W1 P A1 sides.length sides) (hc1:sides.length≤c1) (hok : ∀ c ∈ chunks,ChunkOk base sides c) (hn:sides.length≤1000) (hb:base.length≤100000) (hs : ∀ y ∈ sides,y.length≤100000∧Short 1000000000 y) (hl:chunks.length≤10000000) :
    IterGoes Fence.wide n Tryz.prog 87 #[.pointer (some ⟨g1,0,none⟩), .pointer (some ⟨g2,0,none⟩), .pointer (some ⟨g3,0,none⟩), .pointer (some ⟨g4,0,none⟩)] (fun x:Piece × Array Value=>#[.agg x.2])
      (MeI P W1 Bo g1 g2 g3 g4 (.slice Ac chunks.length cc) (.slice A0 base.length c0) (.slice A1 sides.length c1) fav un) (fun s x=>s.2=some x∧s.1.length < 10000000) (fun s x=>(s.1 ++ [x.1],none)) (fun s=>s=(chunks.map (mergePiece base sides fav un),none)) ([],none):=by
  intro l B hB hY W hI hBW
  refine callsIn_of_wp Tryz.func87 rfl trivial ?_ rfl
  simp only [Tryz.ntmps87,List.size_toArray,List.length_cons,List.length_nil,Nat.reduceAdd,Nat.reduceSub,Array.replicate_succ,Array.replicate_zero,List.push_toArray,List.append_toArray,List.nil_append,List.cons_append]
  have HB:=Aside0.mk hB
  have HY:=Aside0.mk hY
  have HI:=Aside0.mk hI
  have HBW:=Aside0.mk hBW
  have HC:=Aside0.mk hC
  have HF0:Aside0 (Kd.F Kd.string W1 (fun k=>P k∧k < W1.heap.size) A0 base.length base):=⟨Kd.F_bound h0⟩
  have HF1:Aside0 (Kd.F KSs W1 (fun k=>P k∧k < W1.heap.size) A1 sides.length sides):=⟨Kd.F_bound h1⟩
  have HOK:=Aside0.mk hok
  have HSS:=Aside0.mk hs
  have x1:W.cell? ⟨g1,0,none⟩=some (.slice Ac chunks.length cc):=by obtain ⟨_,_,q,_⟩:=hI;exact cell_blk q rfl
  obtain ⟨MP,hMP⟩ : ∃ f,mergePiece base sides fav un=f:=⟨_,rfl⟩
  have HMP:=Aside0.mk hMP
  rw [hMP]
  clear hB hY hI hBW hC h0 h1 hok hs hMP
  gi_wp2
  gi_loopw [14] (fun iv wr => ∃ (k:Nat),iv = .int .i64 k∧k≤chunks.length∧Aside0 (MeI P W1 Bo g1 g2 g3 g4 (.slice Ac chunks.length cc) (.slice A0 base.length c0) (.slice A1 sides.length c1) fav un ((chunks.take k).map MP,none) wr)∧Aside0 (B wr)) (fun iv _=>chunks.length - (intOf iv).toNat)
  case atStart=>exact ⟨0,rfl,Nat.zero_le _,HI,HBW⟩
  case round =>
    obtain ⟨k,rfl,hk,HIr,HBr⟩:=hrel
    by_cases hlt:k < chunks.length
    · have hbr:Below W1.heap.size W1 wr:=HIr.out.bel
      obtain ⟨ad,A3,c3,rfl,x0,xf,xt,xs,l3,C3⟩:=at_T48 HC.out (k:Int) (by omega) (by omega)
      have hx:rd_T48 chunks (k:Int)=chunks[k]:=getN hlt
      have hok:=HOK.out _ (List.getElem_mem hlt)
      have htk:(chunks.take (k+1)).map MP=(chunks.take k).map MP ++ [MP chunks[k]]:=by rw [← List.take_append_getElem hlt,List.map_append];rfl
      obtain ⟨c,hce⟩ : ∃ c,chunks[k]=c:=⟨_,rfl⟩
      rw [hce] at hok htk
      rw [hx,hce] at x0 xf xt xs l3 C3
      obtain ⟨st,sb,ss⟩:=c
      dsimp only at x0 xf xt xs l3 C3
      replace x0:=(hbr.cell (World.block_lt_of_cell? W1 _ x0)).trans x0
      replace xf:=(hbr.cell (World.block_lt_of_cell? W1 _ xf)).trans xf
      replace xt:=(hbr.cell (World.block_lt_of_cell? W1 _ xt)).trans xt
      replace xs:=(hbr.cell (World.block_lt_of_cell? W1 _ xs)).trans xs
      have kk:(k:Int).toNat=k:=by omega
      rw [kk] at x0 xf xt xs
      obtain ⟨_,_,q1,q2,q3,q4,_⟩:=HIr.out
      have y2 : ∀ o,(wr.alloc o).cell? ⟨g2,0,none⟩=some (.slice A0 base.length c0):=fun o=>cell_alloc_of (cell_blk q2 rfl) o
      have y3 : ∀ o,(wr.alloc o).cell? ⟨g3,0,none⟩=some (.slice A1 sides.length c1):=fun o=>cell_alloc_of (cell_blk q3 rfl) o
      have HC3:=Aside0.mk (Kd.C_below C3 hbr)
      have HTK:=Aside0.mk htk
      have HOKC:=Aside0.mk hok
      have Q4:=Aside0.mk q4
      have HBl:Aside0 (Below W1.heap.size W1 wr):=⟨hbr⟩
      clear kk hx hce htk hok q1 q2 q3 q4 C3 hbr
      gi_wp2_with fail
      obtain ⟨w2,hw2⟩ : ∃ w2,wr.alloc (.cells #[.bool st, .int .i64 sb.f0, .int .i64 sb.f1, .slice A3 ss.length c3] 48)=w2:=⟨_,rfl⟩
      have gc2:w2.heap[wr.heap.size]? = some (.cells #[.bool st, .int .i64 sb.f0, .int .i64 sb.f1, .slice A3 ss.length c3] 48 (0,0)):=by rw [← hw2];exact blk_new _ _
      have HB2:Aside0 (Below wr.heap.size wr w2):=⟨by rw [← hw2];exact newBelow _ _⟩
      rw [hw2]
      clear hw2 y2 y3
      refine ⟨trivial,fun h=>(by cases h),?_⟩
      refine (callsIn_wide.2 (content_Parts (fun k=>P k∧k < W1.heap.size) st sb A3 c3 ss A0 c0 base A1 c1 sides w2 (Kd.C_below HC3.out HB2.out) l3 (Kd.F_below HF0.out (far_ HBl.out HB2.out)) hc0 (Kd.F_below HF1.out (far_ HBl.out HB2.out)) hc1 HOKC.out.1 HOKC.out.2.1 HOKC.out.2.2 (by omega) (by omega) (fun y hy=>by have:=(HSS.out y hy).1;omega))).mono ?_
      rintro e w3 ⟨At,vp,rfl,HT,HN,hb3⟩
      have HB3:Aside0 (Below wr.heap.size wr w3):=⟨far_ HB2.out hb3.out⟩
      have gc3:=farKeep gc2 hb3.out
      have z0 : ∀ o,(w3.alloc o).cell? ⟨wr.heap.size,0,none⟩=some (.bool st):=fun o=>cell_alloc_of (cell_blk gc3 rfl) o
      have Q43:=Aside0.mk (farKeep Q4.out HB3.out)
      have yf : ∀ o,(w3.alloc o).cell? ⟨g4,0,none⟩=some (.int .i64 fav):=fun o=>cell_alloc_of (cell_blk Q43.out rfl) o
      have yu : ∀ o,(w3.alloc o).cell? ⟨g4,1,none⟩=some (.bool un):=fun o=>cell_alloc_of (cell_blk Q43.out rfl) o
      obtain ⟨Ap,cp,rfl⟩:=Kd.N_slice HN.out
      obtain ⟨hln,lcp,_⟩:=Kd.N_reads' HN.out
      clear hln
      have HFP:Aside0 (Kd.F KSs w3 (fun k=>P k∧k < W1.heap.size∨w2.heap.size≤k) Ap (partsF ss sides).length (partsF ss sides)):=⟨Kd.N_F HN.out⟩
      have hpl:(partsF ss sides).length=sides.length:=partsF_len HOKC.out.1
      have hpsum:((partsF ss sides).map List.length).sum≤sides.length * 100000:=partsF_sum (fun y hy=>(HSS.out y hy).1)
      have hpsh : ∀ y ∈ partsF ss sides,Short 1000000000 y:=fun y hy=>by
        obtain ⟨i,hi,rfl⟩:=partsF_at HOKC.out.1 y hy
        exact fun s hs=>(HSS.out _ (List.getElem_mem hi)).2 s (cutL_mem hs)
      have hmp:MP ⟨st,sb,ss⟩=if st=true then ⟨false,cutS base sb,[],[]⟩ else pieceF (cutS base sb) (partsF ss sides) fav un:=by rw [← HMP.out];rfl
      have hwsz:W1.heap.size≤wr.heap.size∧wr.heap.size≤w2.heap.size∧w2.heap.size≤w3.heap.size:=⟨HBl.out.size,HB2.out.size,hb3.out.size⟩
      obtain ⟨T,hT⟩ : ∃ T,cutS base sb=T:=⟨_,rfl⟩
      obtain ⟨PT,hPT⟩ : ∃ T,partsF ss sides=T:=⟨_,rfl⟩
      rw [hT,hPT] at hmp
      rw [hT] at HT ⊢
      rw [hPT] at HFP hpl hpsum hpsh lcp ⊢
      have HPL:=Aside0.mk hpl
      have HPS:=Aside0.mk hpsum
      have HPH:=Aside0.mk hpsh
      have HMPC:=Aside0.mk hmp
      have HSZ:=Aside0.mk hwsz
      have HGC3:=Aside0.mk gc3
      clear gc2 gc3 hb3 HN hT hPT hpsum hpsh hmp hwsz hpl
      cases st with
      | true =>
        rw [if_pos rfl] at HMPC
        obtain ⟨w4,hw4⟩ : ∃ w4,w3.alloc (.cells #[.bool false, .slice At T.length T.length, .slice none 0 0, .slice none 0 0] 66)=w4:=⟨_,rfl⟩
        have hb4:Below wr.heap.size wr w4:=by rw [← hw4];exact far_ HB3.out (newBelow _ _)
        have hp4:PieceAt w4 (fun k=>P k∧k < W1.heap.size∨wr.heap.size≤k) ⟨false,T,[],[]⟩ #[.bool false, .slice At T.length T.length, .slice none 0 0, .slice none 0 0]:=PieceAt.text rfl (Nat.le_refl _) (Kd.F_mono (Kd.F_below HT.out (by rw [← hw4];exact newBelow _ _)) (fun k hk => .inl hk.1))
        have hI4:=HIr.out.ready hb4 hp4
        obtain ⟨fn,tmps,assign,body,hy,hR⟩:=HY.out _ ((⟨false,T,[],[]⟩:Piece),#[.bool false, .slice At T.length T.length, .slice none 0 0, .slice none 0 0]) w4 hI4 (HB.out _ _ HBr.out (KeepsOthers.of_below hb4)) ⟨rfl,by simp only [List.length_map,List.length_take];omega⟩
        dsimp only at hy
        clear hI4 hp4 hb4
        subst hw4
        gi_wp2
        refine ⟨fun h=>(by cases h),hR.mono ?_⟩
        rintro e W3 ⟨rfl,hI3,hB3⟩
        have HI3:=Aside0.mk hI3
        have HBW3:=Aside0.mk hB3
        clear hI3 hB3 hy hR
        gi_wp2
        go_roundw
        case measure=>simp [intOf];omega
        case rel=>exact ⟨k+1,by go_num,by omega,by rw [HTK.out,HMPC.out];exact HI3,HBW3⟩
      | false =>
        rw [if_neg (by decide)] at HMPC
        gi_wp2_with fail
        obtain ⟨w4,hw4⟩ : ∃ w4,w3.alloc (.cells #[.bool false, .slice At T.length T.length, .slice none 0 0, .slice none 0 0] 66)=w4:=⟨_,rfl⟩
        have g4':w4.heap[w3.heap.size]? = some (.cells #[.bool false, .slice At T.length T.length, .slice none 0 0, .slice none 0 0] 66 (0,0)):=by rw [← hw4];exact blk_new _ _
        have hb34:Below w3.heap.size w3 w4:=by rw [← hw4];exact newBelow _ _
        have hs4:w4.heap.size=w3.heap.size+1:=by rw [← hw4];simp
        rw [hw4]
        clear hw4 z0 yf yu
        have HB4:Aside0 (Below wr.heap.size wr w4):=⟨far_ HB3.out hb34⟩
        refine ⟨trivial,fun h=>(by cases h),?_⟩
        refine (callsIn_wide.2 (pick_Piece (fun k=>(P k∧k < W1.heap.size∨w2.heap.size≤k)∧k < w3.heap.size) T At T.length Ap cp PT fav un w4 (Kd.F_mono (Kd.F_old HT.out hb34) (fun k hk=>⟨.inl hk.1.1,hk.2⟩)) (Nat.le_refl _) (Kd.F_old HFP.out hb34) lcp (by rw [HPL.out];omega) HPH.out (by have:=HPS.out;have:sides.length * 100000≤1000 * 100000:=Nat.mul_le_mul_right _ hn;omega))).mono ?_
        rintro e w5 ⟨cs,rfl,HP5,HB5⟩
        obtain ⟨p,hp⟩ : ∃ p,pieceF T PT fav un=p:=⟨_,rfl⟩
        rw [hp] at HP5 HMPC
        have hpa:=HP5.out
        obtain ⟨B1,d1,B2,d2,B3,d3,rfl,_⟩:=HP5.out
        have G5:=farKeep g4' HB5.out
        have hb5:Below wr.heap.size wr (set4 w5 w3.heap.size (.bool p.f0) (.slice B1 p.f1.length d1) (.slice B2 p.f2.length d2) (.slice B3 p.f3.length d3)):=set4_below (far_ HB4.out HB5.out) HB3.out.size
        have hp6:=PieceAt.set4 (ok:=fun k=>P k∧k < W1.heap.size∨wr.heap.size≤k) (g:=w3.heap.size) (a := .bool p.f0) (b := .slice B1 p.f1.length d1) (c := .slice B2 p.f2.length d2) (d := .slice B3 p.f3.length d3) hpa (fun k hk=>by rcases hk with hk | hk <;> omega) (fun k hk=>by
          have h1:=HSZ.out
          have h2:=HB4.out.size
          rcases hk with hk | hk
          · rcases hk.1 with hk1 | hk1
            · exact .inl hk1
            · exact .inr (by omega)
          · exact .inr (by omega))
        have hI6:=HIr.out.ready hb5 hp6
        obtain ⟨fn,tmps,assign,body,hy,hR⟩:=HY.out _ (p,#[.bool p.f0, .slice B1 p.f1.length d1, .slice B2 p.f2.length d2, .slice B3 p.f3.length d3]) _ hI6 (HB.out _ _ HBr.out (KeepsOthers.of_below hb5)) ⟨rfl,by simp only [List.length_map,List.length_take];omega⟩
        dsimp only at hy
        rw [set4] at hy hR
        have ya:w5.cell? ⟨w3.heap.size,0,none⟩=some (.bool false):=cell_blk G5 rfl
        have yb:w5.cell? ⟨w3.heap.size,1,none⟩=some (.slice At T.length T.length):=cell_blk G5 rfl
        have yc:w5.cell? ⟨w3.heap.size,2,none⟩=some (.slice none 0 0):=cell_blk G5 rfl
        have yd:w5.cell? ⟨w3.heap.size,3,none⟩=some (.slice none 0 0):=cell_blk G5 rfl
        have fz : ∀ j,w5.frozen? ⟨w3.heap.size,j,none⟩=false:=fun j=>frozen_of_row _ _ _ _ _ G5
        have fa:=fz 0
        clear hI6 hp6 hb5 hpa G5 g4' hb34 hp
        gi_wp2
        refine ⟨fun h=>(by cases h),hR.mono ?_⟩
        rintro e W3 ⟨rfl,hI3,hB3⟩
        have HI3:=Aside0.mk hI3
        have HBW3:=Aside0.mk hB3
        clear hI3 hB3 hy hR
        gi_wp2
        go_roundw
        case measure=>simp [intOf];omega
        case rel=>exact ⟨k+1,by go_num,by omega,by rw [HTK.out,HMPC.out];exact HI3,HBW3⟩
    · have hk':k=chunks.length:=by omega
      subst hk'
      rw [List.take_length] at HIr
      gi_wp2
      go_end0
      exact ⟨⟨_,rfl⟩,⟨_,rfl,HIr.out,HBr.out⟩⟩
end Go.Proofs.YtbbhdbeaikclcaaGreat.X
namespace Go.Proofs.YtbbhdbeaikclcaaGreat.X
open Go.RowKit Go.Shelf Go.Proofs.YtbbhdbeaikclcaaGreatW.PrintWords Go.Proofs.YtbbhdbeaikclcaaGreatW.PrintLast Go.Proofs.YtbbhdbeaikclcaaGreatW.PrintMore
attribute [local go_sem] Oper.semAt_some
/-- A range over a function; what a round is handed goes into a cell of the round (G: what is known of it). -/
theorem wpIn_range_box {σ α:Type} {F:Fence} {n:Nat} {P:Program} {g:Operand} {ps:Array Tmp} {assign body:Code} {Q:Exit→Act→World→Prop} {a:Act} {w:World}
    (hro:F.round=none) (h1:1≤n) {gf:Nat} {lb:Array Value} (hg:a.eval g = .func (.func gf) #[] lb) (hFg:F.fn gf) (eg : ∀ args w,(callFunc gf args).run P w = .ok (.enter gf args) w)
    {encs:α→Array Value} (hps : ∀ x,(encs x).size=ps.size) {I:σ→World→Prop} {ok:σ→α→Prop} {step:σ→α→σ} {S:σ→Prop} {s0:σ}
    (hit:IterGoes F (n - 1) P gf lb encs I ok step S s0) (rs:Tmp) (H:α→Nat→World→Prop)
    (hput : ∀ s W (r:Nat) (o o':Obj),I s W→w.heap.size≤r→W.heap[r]? = some o→o.isCells=false→I s (W.putObj r o'))
    (hHput : ∀ x b W (r:Nat) (o o':Obj),H x b W→W.heap[r]? = some o→o.isCells=false→H x b (W.putObj r o'))
    (halloc : ∀ s W (o:Obj),I s W→I s (W.alloc o)) (h0:I s0 w)
    (hassign : ∀ (l:Nat) (s:σ) (x:α) (W:World) (K:Act→World→Prop),I s W→ok s x→(∀ b W',I s W'→KeepsOthers W W'→H x b W'→K { tmps:=((ps.zip (encs x)).foldl (fun t (p,v)=>t.setIfInBounds p v) a.tmps).setIfInBounds rs (.pointer (some ⟨b,0,none⟩)),defers:=[] } W') →
      assign.wpIn (F.inRound l) (n - 1 - 1) P (Exit.then K (fun _ _ _=>False)) { tmps:=(ps.zip (encs x)).foldl (fun t (p,v)=>t.setIfInBounds p v) a.tmps,defers:=[] } W)
    (hbody : ∀ (l:Nat) (s:σ) (x:α) (b:Nat) (W:World),I s W→ok s x→H x b W→body.wpIn (F.inRound l) (n - 1 - 1) P (fun e _ W'=>e = .normal∧KeepsOthers W W'∧I (step s x) W') { tmps:=((ps.zip (encs x)).foldl (fun t (p,v)=>t.setIfInBounds p v) a.tmps).setIfInBounds rs (.pointer (some ⟨b,0,none⟩)),defers:=[] } W)
    (hdone : ∀ (s:σ) (W:World),S s→I s W→W.heap[w.heap.size]? = some (.deferred (some []))→Q .normal { a with defers:={ target := .collected w.heap.size,args:=#[] } :: a.defers } W) :
    (Code.rangeFunc g ps assign body).wpIn F n P Q a w:=by
  refine wpIn_rangeFunc fun fn hfn=>?_
  rw [hro]
  let rec_:LoopState→Option Code→Loop:=fun st pe=>{ state:=st,pending:=pe,fn:=fn,tmps:=a.tmps,params:=ps,assign:=assign,body:=body,defers:=w.heap.size }
  let W1:=(w.alloc (.deferred (some []))).alloc (.loop (rec_ .ready none))
  have hl1:W1.heap[w.heap.size+1]? = some (.loop (rec_ .ready none)):=by
    have:=World.alloc_heap_new (w.alloc (.deferred (some []))) (.loop (rec_ .ready none))
    rwa [World.size_alloc] at this
  have hd1:W1.heap[w.heap.size]? = some (.deferred (some [])):=(Below.heap_alloc _ _ _ (by simp)).trans (World.alloc_heap_new w _)
  refine ⟨w.heap.size+1,[{ target := .collected w.heap.size,args:=#[] }],W1,{ target := .fn (.func gf) lb,args:=#[.func (.yield (w.heap.size+1)) #[] #[]] },W1,gf,
    #[.func (.yield (w.heap.size+1)) #[] #[]] ++ lb,W1,run_enterLoop_outer _ _ _ _ _,?_,?_,?_,fun _=>h1,?_⟩
  · simp only [resolve,hg]
    simp [go_sem]
  · intro f' hf'
    simp [Target.leads] at hf'
    subst hf'
    exact hFg
  · simp [invoke,go_sem,eg]
  · refine (hit (w.heap.size+1) (fun W=>W.heap[w.heap.size+1]? = some (.loop (rec_ .ready none))∧W.heap[w.heap.size]? = some (.deferred (some [])))
      (fun W W' h k=>⟨k.same _ _ h.1 rfl,k.same _ _ h.2 rfl⟩) ?_ W1 (halloc _ _ _ (halloc _ _ _ h0)) ⟨hl1,hd1⟩).mono ?_
    · rintro s x W hI ⟨hl,hd⟩ hok
      refine ⟨fn,_,assign,body,run_yield (P:=P) (args:=encs x) hl (hps x),roundIn_of_wpIn hfn (hassign _ s x W _ hI hok fun b' W' hI' hk' hH'=>?_)⟩
      have hl':=hk'.same _ _ hl rfl
      have hd':=hk'.same _ _ hd rfl
      have hlt:w.heap.size+1 < W'.heap.size:=(Array.getElem?_eq_some_iff.1 hl').1
      refine ⟨_,run_beginRound hl' rfl,?_⟩
      have hl2:(W'.putObj (w.heap.size+1) (.loop (rec_ .busy none))).heap[w.heap.size+1]? = some (.loop (rec_ .busy none)):=World.putObj_heap_same hlt
      have hd2:(W'.putObj (w.heap.size+1) (.loop (rec_ .busy none))).heap[w.heap.size]? = some (.deferred (some [])):=(World.putObj_heap_other (by omega)).trans hd'
      refine wpIn_mono (hbody _ s x _ _ (hput _ _ _ _ _ hI' (by omega) hl' rfl) hok (hHput _ _ _ _ _ _ hH' hl' rfl)) ?_
      rintro e a3 W3 ⟨rfl,hk3,hi3⟩
      have hl3:=hk3.same _ _ hl2 rfl
      have hd3:=hk3.same _ _ hd2 rfl
      exact ⟨_,_,run_endRound (P:=P) none hl3,rfl,hput _ _ _ _ _ hi3 (by omega) hl3 rfl,World.putObj_heap_same (Array.getElem?_eq_some_iff.1 hl3).1,(World.putObj_heap_other (by omega)).trans hd3⟩
    · rintro e W2 ⟨⟨v,rfl⟩,s,hS,hi,hl,hd⟩
      exact ⟨none,_,run_endLoop (P:=P) hl (by simp [rec_]),hdone s _ hS (hput _ _ _ _ _ hi (by omega) hl rfl) ((World.putObj_heap_other (by omega)).trans hd)⟩
section
variable {F:Fence} {nF:Nat} {P:Program} {ops:Array Oper} {rest:List Oper} {o:Oper} {a:Act} {Q:Exit→Act→World→Prop}
/-- append(v, x) inside a fence; x's cells are cs. -/
theorem N_appendIn {α:Type} (d:Kd α) {W:World} (base:Nat) (hgd:o.guard=none) (s x:Operand) (t e:TypeId) (z:Value) (bytes:Nat)
    (ho:o.op = .call { callee := .builtin .append,args:=#[s,x],argTypes:=#[t,t] })
    (ht:P.underlying t=some (.slice e)) (hinfo:(P.info? e).map (fun i=>(i.zero,i.size,i.bytes))=some (some z,d.sz,bytes)) (hz:z.cells.size=d.sz) (hs0:0 < d.sz)
    (v:Value) (xs:List α) (p:α) (cs:List Value) (ok okp:Nat→Prop) (hs:a.eval s=v) (hx:a.eval x = .slice (some ⟨W.heap.size,0,none⟩) 1 1) (hp:Kd.FK d W okp p cs) (hokp : ∀ k,okp k→ok k∧some k≠v.ownBlock) (hfresh : ∀ k,W.heap.size≤k→ok k)
    (HO:Kd.N d e W base ok v xs) (hbase:base≤W.heap.size) (hl:xs.length≤1000000000) (hb:bytes≤1000)
    (h : ∀ v1 w1,Kd.N d e w1 base ok v1 (xs ++ [p])→(W.alloc (.cells cs.toArray e)).grownBy w1 v.ownBlock→(v1.ownBlock=v.ownBlock ∨ ∃ b,v1.ownBlock=some b∧W.heap.size≤b)→wpListIn F nF P ops Q rest (a.put o.dst v1) w1) :
    wpListIn F nF P ops Q (o :: rest) a (W.alloc (.cells cs.toArray e)):=by
 have HO2:=Kd.N_alloc HO (.cells cs.toArray e);obtain ⟨h0,rows,hlr,⟨h0',inner,hown,hr⟩,hf⟩:=HO2;obtain ⟨i0,hi,hzz⟩:=Option.map_eq_some_iff.1 hinfo;(simp only [Prod.mk.injEq] at hzz);obtain ⟨hz1,hz2,hz3⟩:=hzz;have hcl:cs.length=d.sz:=d.K_len (Kd.FK_now hp);have hc1:=d.K_one (Kd.FK_now hp);have hmul:(rows.length+1) * bytes≤(rows.length+1) * 1000:=Nat.mul_le_mul_left _ hb;refine wpListIn_append_own_at _ hgd s x t ho base e i0 z d.sz bytes ht hi hz1 hz2 hz3 hz hs0 v rows.length inner hs hown ⟨W.heap.size,0,none⟩ 1 1 cs hx (by rw [hcl,Nat.one_mul]) (fun j u hu=>?_) hc1 (by unfold maxLen;omega) (by omega) (by simp;omega) ?_;(· rw [addr_add0];exact cell_blk (blk_new W _) (by rw [List.getElem?_toArray];exact hu))
 ·
  intro v' w' hown' hg' _ hat';have hat:v'.ownBlock=v.ownBlock ∨ ∃ b,v'.ownBlock=some b∧(W.alloc (.cells cs.toArray e)).heap.size≤b:=hat'.imp id (fun h=>⟨_,h,Nat.le_refl _⟩);have hR:=Kd.R_appended (d:=Kd.raw d.sz) (ok:=fun _=>True) (okp:=fun _=>False) (W:=W.alloc (.cells cs.toArray e)) (w1:=w') (v:=v) (v1:=v') (xs:=rows) (p:=cs) (inner:=inner) (cs:=cs) (fun _ _=>trivial) (hr.imp_ (fun _ _ hq=>(Kd.raw d.sz).M_mono (fun k hk=>⟨trivial,hk.2⟩) hq)) ⟨rfl,hcl,hc1⟩ (fun _ hk=>hk.elim) (fun _ _=>trivial) hown' hg' hat
  exact h v' w' (Kd.N_appended h0 hlr hf (ys:=[p]) (news:=[cs]) rfl (fun j y c hy hc=>by
   rcases j with _ | j
   (· (simp only [List.getElem?_cons_zero,Option.some.injEq] at hy hc);(rw [← hy,← hc];exact Kd.FK_below hp (newBelow W _)))
   ·
    simp at hy) hokp (fun k hk=>hfresh k (by simp at hk;omega)) hR hg' hat) hg' (hat.imp id (fun ⟨b,h1,h2⟩=>⟨b,h1,by simp at h2;omega⟩))
end
end Go.Proofs.YtbbhdbeaikclcaaGreat.X
namespace Go.Proofs.YtbbhdbeaikclcaaGreat.X
open Go.RowKit Go.Shelf Go.Proofs.YtbbhdbeaikclcaaGreatW.PrintWords Go.Proofs.YtbbhdbeaikclcaaGreatW.PrintLast Go.Proofs.YtbbhdbeaikclcaaGreatW.PrintMore
attribute [local go_sem] Oper.semAt_some
def mergeF (base:List ByteArray) (sides:List (List ByteArray)) (fav:Int) (un:Bool):List Piece × Int :=
  if (chunksF base sides).2≠0 then ([],(chunksF base sides).2)
  else if fav < 0∨(sides.length:Int) < fav∨(0 < fav∧un=true) then ([],1)
  else (normalF ((chunksF base sides).1.map (mergePiece base sides fav un)),0)
/-- What merge.Merge takes here. -/
def MergeOk (base:List ByteArray) (sides:List (List ByteArray)) (fav:Int) (un:Bool):Prop :=
  chunksOk base sides=true∧((chunksF base sides).2=0→(∀ c ∈ (chunksF base sides).1,ChunkOk base sides c)∧(chunksF base sides).1.length≤1000000∧tsum ((chunksF base sides).1.map (mergePiece base sides fav un))≤1000000)
theorem chunksF_wrong (base:List ByteArray) (sides:List (List ByteArray)) (h:(chunksF base sides).2=0):wrongF mayL (base :: sides)=0:=by
 (unfold chunksF at h);(split at h);(· exact h);(· rename_i h2;exact Classical.not_not.1 h2)
theorem N_put {W:World} {e base r:Nat} {ok:Nat→Prop} {v:Value} {xs:List Piece} {o o':Obj} (h:Kd.N k66 e W base ok v xs) (hl:W.heap[r]? = some o) (ho:o.isCells=false):Kd.N k66 e (W.putObj r o') base ok v xs:=by
 refine Kd.N_mono (Kd.N_step (N_cells h) (fun k hk hlt=>?_)) (fun _ hk=>hk.1);refine (grownBy_putObj' W r o').block k hlt (fun e=>?_);cases e;obtain ⟨cs,t,fr,hc⟩:=hk.2;(rw [hc] at hl);cases hl;cases ho
theorem hbase2 {base:List ByteArray} {sides:List (List ByteArray)} (h1 : ∀ y ∈ sides,y.length≤2000) (h2 : ∀ l ∈ base :: sides,l.length≤1000000 ∧ ∀ s ∈ l,s.size≤1000000000) : ∀ y ∈ sides,y.length≤100000∧Short 1000000000 y:=fun y hy=>⟨by have:=h1 y hy;omega,fun s hs=>(h2 y (List.mem_cons_of_mem _ hy)).2 s hs⟩
theorem MeI.start (P:Nat→Prop) (w:World) (v1 v2 v3:Value) (fav:Int) (un:Bool):MeI P w w.heap.size (w.heap.size+1) (w.heap.size+1+1) (w.heap.size+1+1+1) (w.heap.size+1+1+1+1) v1 v2 v3 fav un ([],none) (((((w.alloc (.cells #[.slice none 0 0] 35)).alloc (.cells #[v1] 26)).alloc (.cells #[v2] 22)).alloc (.cells #[v3] 23)).alloc (.cells #[.int .i64 fav, .bool un] 34)):=by
 have b1:=newBelow w (.cells #[.slice none 0 0] 35);have n0:=blk_new w (.cells #[.slice none 0 0] 35);(have s0:(w.alloc (.cells #[.slice none 0 0] 35)).heap.size=w.heap.size+1:=by simp);obtain ⟨wa,hwa⟩ : ∃ wa,w.alloc (.cells #[.slice none 0 0] 35)=wa:=⟨_,rfl⟩;(rw [hwa] at b1 n0 s0 ⊢);have b2:=b1.trans ((newBelow wa (.cells #[v1] 26)).mono (by omega));have n1:=blk_new wa (.cells #[v1] 26);have n0:=newKeep n0 (.cells #[v1] 26);(have s1:(wa.alloc (.cells #[v1] 26)).heap.size=wa.heap.size+1:=by simp);obtain ⟨wb,hwb⟩ : ∃ wb,wa.alloc (.cells #[v1] 26)=wb:=⟨_,rfl⟩;(rw [hwb] at b2 n0 n1 s1 ⊢);have b3:=b2.trans ((newBelow wb (.cells #[v2] 22)).mono (by omega));have n2:=blk_new wb (.cells #[v2] 22);have n0:=newKeep n0 (.cells #[v2] 22);have n1:=newKeep n1 (.cells #[v2] 22);(have s2:(wb.alloc (.cells #[v2] 22)).heap.size=wb.heap.size+1:=by simp);obtain ⟨wc,hwc⟩ : ∃ wc,wb.alloc (.cells #[v2] 22)=wc:=⟨_,rfl⟩;(rw [hwc] at b3 n0 n1 n2 s2 ⊢);have b4:=b3.trans ((newBelow wc (.cells #[v3] 23)).mono (by omega));have n3:=blk_new wc (.cells #[v3] 23);have n0:=newKeep n0 (.cells #[v3] 23);have n1:=newKeep n1 (.cells #[v3] 23);have n2:=newKeep n2 (.cells #[v3] 23);(have s3:(wc.alloc (.cells #[v3] 23)).heap.size=wc.heap.size+1:=by simp);obtain ⟨wd,hwd⟩ : ∃ wd,wc.alloc (.cells #[v3] 23)=wd:=⟨_,rfl⟩;(rw [hwd] at b4 n0 n1 n2 n3 s3 ⊢);have b5:=b4.trans ((newBelow wd (.cells #[.int .i64 fav, .bool un] 34)).mono (by omega));have n4:=blk_new wd (.cells #[.int .i64 fav, .bool un] 34);(rw [s3,s2,s1,s0] at n4);have m0:=newKeep n0 (.cells #[.int .i64 fav, .bool un] 34);have m1:=newKeep n1 (.cells #[.int .i64 fav, .bool un] 34);have m2:=newKeep n2 (.cells #[.int .i64 fav, .bool un] 34);have m3:=newKeep n3 (.cells #[.int .i64 fav, .bool un] 34);(rw [s0] at m1);(rw [s1,s0] at m2);(rw [s2,s1,s0] at m3);exact ⟨b5,Nat.le_refl _,m1,m2,m3,n4,fun _=>False,_,m0,fun k h=>h.elim,⟨fun k hk=>by simp [Value.ownBlock] at hk,[],rfl,Kd.R_nil _ _ _ _ _,fun j x c hx=>by simp at hx⟩,fun p cs e=>by cases e⟩
/-- The piece that stands ready is laid behind the others. -/
theorem MeI.lay {P:Nat→Prop} {W1 W w1:World} {Bo g1 g2 g3 g4:Nat} {v1 v2 v3 v v':Value} {fav:Int} {un:Bool} {done:List Piece} {p:Piece} {cs:Array Value} {ok:Nat→Prop} (h:MeI P W1 Bo g1 g2 g3 g4 v1 v2 v3 fav un (done,some (p,cs)) W)
    (hv:W.heap[Bo]? = some (.cells #[v] 35 (0,0))) (hok : ∀ k,ok k→(k≠Bo∧(P k∧k < W1.heap.size∨W1.heap.size≤k))∧CellsAt W k) (hN0:Kd.N k66 66 W W1.heap.size ok v done) {o:Array Value} (hN:Kd.N k66 66 w1 W1.heap.size (fun k=>ok k∨W.heap.size≤k) v' (done ++ [p])) (hg:(W.alloc (.cells o 66)).grownBy w1 v.ownBlock) :
    MeI P W1 Bo g1 g2 g3 g4 v1 v2 v3 fav un (done ++ [p],none) (w1.setCell ⟨Bo,0,none⟩ v')∧KeepsOthers W (w1.setCell ⟨Bo,0,none⟩ v'):=by
 obtain ⟨h1,h2,h3,h4,h5,h6,_⟩:=h
 have hkeep : ∀ (k:Nat) cells t,W.heap[k]? = some (.cells cells t (0,0))→t≠66→w1.heap[k]? = some (.cells cells t (0,0)):=fun k cells t hk ht =>
  (hg.block k (by have:=blk_lt hk;simp;omega) (Kd.N_ne hN0 hk (fun e=>ht e.symm))).trans (newKeep hk _)
 have hbox:=hkeep Bo _ _ hv (by decide)
 have hset : ∀ (k:Nat) cells t,W.heap[k]? = some (.cells cells t (0,0))→t≠66→t≠35→(w1.setCell ⟨Bo,0,none⟩ v').heap[k]? = some (.cells cells t (0,0)):=fun k cells t hk ht ht2 =>
  setKeep (hkeep k cells t hk ht) (blkNe hk hv ht2) _
 refine ⟨⟨?_,h2,hset _ _ _ h3 (by decide) (by decide),hset _ _ _ h4 (by decide) (by decide),hset _ _ _ h5 (by decide) (by decide),hset _ _ _ h6 (by decide) (by decide),fun k=>(ok k∨W.heap.size≤k)∧CellsAt w1 k,v',?_,fun k hk=>?_,?_,fun p cs e=>by cases e⟩,?_⟩;(· have hb1:Below W1.heap.size W1 (W.alloc (.cells o 66)):=h1.alloc h1.size _;exact (hb1.grown hg hb1.size (fun k e=>Kd.N_base hN0 k e)).setCell (p:=⟨Bo,0,none⟩) h2 _);(· (rw [heap_set_same hbox];rfl))
 ·
  have hne:k≠Bo∧(P k∧k < W1.heap.size∨W1.heap.size≤k):=by
   rcases hk.1 with hk1 | hk1
   (· exact (hok k hk1).1);(· have:=blk_lt hv;have:=h1.size;exact ⟨by omega, .inr (by omega)⟩)
  refine ⟨hne,?_⟩;replace hne:=hne.1;obtain ⟨cs',t,fr,hc⟩:=hk.2;exact ⟨cs',t,fr,setKeep hc hne _⟩
 ·
  refine Kd.N_far (N_cells hN) (fun k hk=>?_) _
  rcases hk.1 with hk1 | hk1
  (· exact (hok k hk1).1.1);(· (have:=blk_lt hv;show k≠Bo;omega))
 (· refine ((KeepsOthers.alloc W _).trans (KeepsOthers.of_grownBy hg (fun j o' hj ho'=>?_))).trans (KeepsOthers.setCell _ _ _);obtain ⟨cs',hc⟩:=Kd.N_typed hN0 j hj;(rw [newKeep hc] at ho');cases ho';rfl)
set_option maxRecDepth 100000 in
set_option maxHeartbeats 8000000 in
theorem merge_Merge (P:Nat→Prop) (A0:Option Addr) (c0:Nat) (base:List ByteArray) (A1:Option Addr) (c1:Nat) (sides:List (List ByteArray)) (fav:Int) (un:Bool) (w:World) (hf0:Kd.F Kd.string w P A0 base.length base) (hc0:base.length≤c0) (hf1:Kd.F KSs w P A1 sides.length sides) (hc1:sides.length≤c1) (h:MergeOk base sides fav un) :
    Calls Tryz.prog 18 #[.slice A0 base.length c0, .slice A1 sides.length c1, .agg #[.int .i64 fav, .bool un]] w fun e w' => ∃ v0_:Value,e = .returned (.tuple #[v0_, .int .i64 (mergeF base sides fav un).2])∧Kd.N k66 66 w' w.heap.size (fun k=>P k∨w.heap.size≤k) v0_ (mergeF base sides fav un).1∧Below w.heap.size w w':=by
 have hr0:=Kd.F_now hf0;have hr1:=Kd.F_now hf1;have HF0:=Aside0.mk hf0;have HF1:=Aside0.mk hf1;obtain ⟨hok,hrest⟩:=h;(have hchk:merge_Chunks.f base sides=some (chunksF base sides):=by rw [merge_Chunks.f,if_pos hok]);have hok2:=of_decide_eq_true hok;have hwr:=chunksF_wrong base sides;(have hmf:mergeF base sides fav un=if (chunksF base sides).2≠0 then ([],(chunksF base sides).2) else if fav < 0∨(sides.length:Int) < fav∨(0 < fav∧un=true) then ([],1) else (normalF ((chunksF base sides).1.map (mergePiece base sides fav un)),0):=rfl);obtain ⟨R,hR⟩ : ∃ R,mergeF base sides fav un=R:=⟨_,rfl⟩;(rw [hR] at hmf ⊢);obtain ⟨⟨ch,cd⟩,hcc⟩ : ∃ c,chunksF base sides=c:=⟨_,rfl⟩;(rw [hcc] at hchk hrest hmf hwr);(dsimp only at hrest hmf hwr);have HR0:=Aside0.mk hr0;have HR1:=Aside0.mk hr1;have HCHK:=Aside0.mk hchk;have HREST:=Aside0.mk hrest;have HMF:=Aside0.mk hmf;have HWR:=Aside0.mk hwr;have HOK2:=Aside0.mk hok2;clear hr0 hr1 hf0 hf1 hchk hrest hmf hwr hR hcc hok hok2;refine (callsIn_wide (n:=3)).1 ?_;refine callsIn_of_wp_marks Tryz.func18 rfl trivial ?_ rfl;simp only [Tryz.ntmps18,List.size_toArray,List.length_cons,List.length_nil,Nat.reduceAdd,Nat.reduceSub,Array.replicate_succ,Array.replicate_zero,List.push_toArray,List.append_toArray,List.nil_append,List.cons_append];(gi_wp2_with fail);obtain ⟨w1,hw1⟩ : ∃ w1,w.alloc (.cells #[.int .i64 fav, .bool un] 34)=w1:=⟨_,rfl⟩;have HB1:Aside0 (Below w.heap.size w w1):=⟨by rw [← hw1];exact newBelow _ _⟩;(have gh1:w1.heap[w.heap.size]? = some (.cells #[.int .i64 fav, .bool un] 34 (0,0)):=by rw [← hw1];exact blk_new _ _);rw [hw1];clear hw1;refine ⟨trivial,?_⟩;refine (callsIn_wide.2 (merge_Chunks.calls A0 c0 base A1 c1 sides ch cd w1 (Kd.C_below HR0.out HB1.out) hc0 (Kd.C_below HR1.out HB1.out) hc1 HCHK.out)).mono ?_;rintro e w2 ⟨v2,rfl,hs2,hb2⟩;have HB2:Aside0 (Below w.heap.size w w2):=⟨far_ HB1.out hb2⟩;have gh2:=farKeep gh1 hb2;have yf:w2.cell? ⟨w.heap.size,0,none⟩=some (.int .i64 fav):=cell_blk gh2 rfl;have yu:w2.cell? ⟨w.heap.size,1,none⟩=some (.bool un):=cell_blk gh2 rfl;obtain ⟨Ac,cc,rfl⟩:=Kd.S_slice hs2;have HC2:Aside0 (Kd.C k48 w2 Ac ch.length ch):=⟨(Kd.S_reads' hs2).2.2⟩;have HGH:=Aside0.mk gh2;clear hs2 hb2 gh1 gh2
 by_cases hcd:cd=0
 ·
  subst hcd;have hm:=HMF.out;(rw [if_neg (fun h=>h rfl)] at hm);obtain ⟨hz1,hz2,_,hz4⟩:=wrongF_zero (HWR.out rfl);obtain ⟨hch1,hch2,hch3⟩:=HREST.out rfl;have HCH:=Aside0.mk hch1;have HTS:=Aside0.mk hch3;have HLE:Aside0 (base.length≤2000 ∧ ∀ y ∈ sides,y.length≤2000):=⟨hz4 _ List.mem_cons_self,fun y hy=>hz4 _ (List.mem_cons_of_mem _ hy)⟩;have HNS:Aside0 (sides.length≤16):=⟨by simp only [List.length_cons] at hz2;omega⟩;clear hz1 hz2 hz4 hch1 hch3
  by_cases hbad:fav < 0∨(sides.length:Int) < fav∨(0 < fav∧un=true)
  ·
   (rw [if_pos hbad] at hm);subst hm
   have hcases:(fav < 0)∨(¬ fav < 0∧(sides.length:Int) < fav)∨(¬ fav < 0 ∧ ¬ (sides.length:Int) < fav∧0 < fav∧un=true):=by
    by_cases a:fav < 0
    (· exact .inl a)
    ·
     by_cases b:(sides.length:Int) < fav
     (· exact .inr (.inl ⟨a,b⟩))
     ·
      rcases hbad with h | h | h
      (· exact absurd h a);(· exact absurd h b);(· exact .inr (.inr ⟨a,b,h⟩))
   clear hbad
   rcases hcases with a | ⟨a,b⟩ | ⟨a,b,c,d⟩
   (· have e1:decide (fav < 0)=true:=decide_eq_true a;gi_wp2;exact ⟨_,results_tmp2 rfl _ _ _, .slice none 0 0,rfl,Kd.N_nil _ _ _ _ _,HB2.out⟩);(· have e1:decide (fav < 0)=false:=decide_eq_false a;have e2:decide ((sides.length:Int) < fav)=true:=decide_eq_true b;gi_wp2;exact ⟨_,results_tmp2 rfl _ _ _, .slice none 0 0,rfl,Kd.N_nil _ _ _ _ _,HB2.out⟩);(· subst d;have e1:decide (fav < 0)=false:=decide_eq_false a;have e2:decide ((sides.length:Int) < fav)=false:=decide_eq_false b;have e3:decide (0 < fav)=true:=decide_eq_true c;gi_wp2;exact ⟨_,results_tmp2 rfl _ _ _, .slice none 0 0,rfl,Kd.N_nil _ _ _ _ _,HB2.out⟩)
  ·
   (rw [if_neg hbad] at hm);subst hm;(have ha : ¬ fav < 0:=fun h=>hbad (.inl h));(have hb : ¬ (sides.length:Int) < fav:=fun h=>hbad (.inr (.inl h)));(have hc : ¬ (0 < fav∧un=true):=fun h=>hbad (.inr (.inr h)));have e1:decide (fav < 0)=false:=decide_eq_false ha;have e2:decide ((sides.length:Int) < fav)=false:=decide_eq_false hb;clear hbad ha hb;(have yfo : ∀ o,(w2.alloc o).cell? ⟨w.heap.size,0,none⟩=some (.int .i64 fav):=fun o=>cell_alloc_of yf o);(have yuo : ∀ o,(w2.alloc o).cell? ⟨w.heap.size,1,none⟩=some (.bool un):=fun o=>cell_alloc_of yu o);have hbp:=hbase2 HLE.out.2 HOK2.out.2.2;have HBP:=Aside0.mk hbp;clear hbp
   by_cases c:0 < fav
   ·
    (have hun:un=false:=by cases un;rfl;exact absurd ⟨c,rfl⟩ hc);subst hun;have e3:decide (0 < fav)=true:=decide_eq_true c;clear hc c;(gi_wp2_with (refine ⟨trivial,?_⟩;refine (merge_pieces _ Ac ch.length cc A0 base.length c0 A1 sides.length c1 fav false _).mono ?_;rintro e w' ⟨rfl,rfl⟩));have h0:MeI P w2 w2.heap.size (w2.heap.size+1) (w2.heap.size+1+1) (w2.heap.size+1+1+1) (w2.heap.size+1+1+1+1) (.slice Ac ch.length cc) (.slice A0 base.length c0) (.slice A1 sides.length c1) fav false ([],none) (((((w2.alloc (.cells #[.slice none 0 0] 35)).alloc (.cells #[.slice Ac ch.length cc] 26)).alloc (.cells #[.slice A0 base.length c0] 22)).alloc (.cells #[.slice A1 sides.length c1] 23)).alloc (.cells #[.int .i64 fav, .bool false] 34)):=MeI.start P w2 _ _ _ fav false
    refine wpIn_range_box rfl (by omega) (gf:=87) (lb:=#[.pointer (some ⟨w2.heap.size+1,0,none⟩), .pointer (some ⟨w2.heap.size+1+1,0,none⟩), .pointer (some ⟨w2.heap.size+1+1+1,0,none⟩), .pointer (some ⟨w2.heap.size+1+1+1+1,0,none⟩)]) rfl trivial (enters_of Tryz.func87 (by kernel_rfl) rfl) (fun _=>rfl)
     (pieces_goes P _ w2 w2.heap.size _ _ _ _ ch Ac cc base A0 c0 sides A1 c1 fav false HC2.out (Kd.F_below HF0.out HB2.out) hc0 (Kd.F_below HF1.out HB2.out) hc1 HCH.out (by have:=HNS.out;omega) (by have:=HLE.out.1;omega) HBP.out (by omega)) 11 (fun x b W=>W.heap[b]? = some (.cells x.2 66 (0,0)))
     (fun s W r o o' hI hr hl ho=>hI.put o' (by simp at hr;omega) hl ho) (fun x b W r o o' hH hl ho=>((grownBy_putObj' W r o').block b (blk_lt hH) (fun e=>by cases e;rw [hH] at hl;cases hl;cases ho)).trans hH) (fun s W o hI=>hI.below (newBelow W o)) h0 ?assign ?body ?done
    case assign =>
     rintro l ⟨done,pend⟩ ⟨p,cs⟩ W K hI ⟨hpd,_⟩ hK;(dsimp only at hpd);subst hpd;have hI2:=hI;obtain ⟨_,_,_,_,_,_,ok,v,_,_,_,hp⟩:=hI2;obtain ⟨B1,d1,B2,d2,B3,d3,rfl,_⟩:=hp p cs rfl;have hk:=hK W.heap.size _ (hI.below (newBelow _ _)) (KeepsOthers.alloc _ _) (blk_new W (.cells #[.bool p.f0, .slice B1 p.f1.length d1, .slice B2 p.f2.length d2, .slice B3 p.f3.length d3] 66));clear hK hp hI;gi_wp2;simpa using hk
    case body =>
     rintro l ⟨done,pend⟩ ⟨p,cs⟩ b W hI ⟨hpd,hlen⟩ hH;(dsimp only at hpd hlen hH);subst hpd;have HI:=Aside0.mk hI;obtain ⟨hbw,_,_,_,_,_,ok,v,hv,hok,hN0,hp⟩:=hI;obtain ⟨Ao,co,rfl⟩:=Kd.N_slice hN0;obtain ⟨B1,d1,B2,d2,B3,d3,rfl,m1,f1,m2,f2,m3,f3⟩:=hp p cs rfl;(dsimp only at hN0);have HFK:Aside0 (Kd.FK k66 W (fun k=>ok k∧some k≠(Value.slice Ao done.length co).ownBlock) p [.bool p.f0, .slice B1 p.f1.length d1, .slice B2 p.f2.length d2, .slice B3 p.f3.length d3]):=⟨k66_mkF _ _ p m1 f1 m2 f2 m3 f3⟩;have xb:W.cell? ⟨w2.heap.size,0,none⟩=some (.slice Ao done.length co):=cell_blk hv rfl;have h1:W.cell? ⟨b,0,none⟩=some (.bool p.f0):=cell_blk hH rfl;have h2:W.cell? ⟨b,1,none⟩=some (.slice B1 p.f1.length d1):=cell_blk hH rfl;have h3:W.cell? ⟨b,2,none⟩=some (.slice B2 p.f2.length d2):=cell_blk hH rfl;have h4:W.cell? ⟨b,3,none⟩=some (.slice B3 p.f3.length d3):=cell_blk hH rfl;have HV:=Aside0.mk hv;have HOK:=Aside0.mk hok;have HN0:=Aside0.mk hN0;have HBW:Aside0 (w2.heap.size≤W.heap.size):=⟨hbw.size⟩;clear hv hok hN0 hp f1 f2 f3 hbw h0;(gi_wp2_with (gi_at_builtin;refine N_appendIn k66 (W:=W) w2.heap.size rfl (.tmp 48) (.tmp 50) 35 66 (.agg #[.bool false, .slice none 0 0, .slice none 0 0, .slice none 0 0]) 80 rfl Tryz.underlying35 info66 rfl (by decide) (.slice Ao done.length co) done p [.bool p.f0, .slice B1 p.f1.length d1, .slice B2 p.f2.length d2, .slice B3 p.f3.length d3] (fun k=>ok k∨W.heap.size≤k) (fun k=>ok k∧some k≠(Value.slice Ao done.length co).ownBlock) rfl rfl HFK.out (fun k hk=>⟨.inl hk.1,hk.2⟩) (fun k hk => .inr hk) (Kd.N_mono HN0.out (fun k hk => .inl hk)) HBW.out (by omega) (by decide) ?_;intro v1 w1 hN1 hg1 hat1;obtain ⟨A9,c9,hv9⟩:=Kd.N_slice hN1;subst hv9;have g9:=(hg1.block w2.heap.size (by have:=blk_lt HV.out;simp;omega) (Kd.N_ne HN0.out HV.out (by decide))).trans (newKeep HV.out _);have y9:w1.cell? ⟨w2.heap.size,0,none⟩=some (.slice Ao done.length co):=cell_blk g9 rfl;have f9:w1.frozen? ⟨w2.heap.size,0,none⟩=false:=frozen_of_row _ _ _ _ _ g9;have HN1:=Aside0.mk hN1;have HG1:=Aside0.mk hg1;clear hN1 hg1 hat1 g9 xb h1 h2 h3 h4));have hlay:=MeI.lay HI.out HV.out HOK.out HN0.out HN1.out HG1.out;(have e:(done ++ [p]).length=done.length+1:=by simp);(rw [e] at hlay);exact ⟨hlay.2,hlay.1⟩
    case done =>
     rintro ⟨all,pend⟩ W hS hI hK;cases hS;obtain ⟨Ar,cr,hbx,hN⟩:=hI.box;have hbel:=hI.bel;have xb:W.cell? ⟨w2.heap.size,0,none⟩=some (.slice Ar (ch.map (mergePiece base sides fav false)).length cr):=cell_blk hbx rfl;(have hlm:(ch.map (mergePiece base sides fav false)).length≤100000000:=by rw [List.length_map];omega);obtain ⟨PS,hPS⟩ : ∃ l,ch.map (mergePiece base sides fav false)=l:=⟨_,rfl⟩;(rw [hPS] at hN xb hlm HTS);have HPS:=Aside0.mk hPS;(dsimp only at hN);obtain ⟨_,hcr,_⟩:=Kd.N_reads' hN;have HN:=Aside0.mk hN;have HK:=Aside0.mk hK;have HBE:=Aside0.mk hbel;clear hI hN hK hbx hbel hPS h0;(gi_wp2_with (refine ⟨trivial,?_⟩;refine (callsIn_wide.2 (pick_Normal (fun k=>k≠w2.heap.size∧(P k∧k < w2.heap.size∨w2.heap.size≤k)) Ar cr PS W (Kd.N_F HN.out) hcr hlm HTS.out)).mono ?_;rintro e w9 ⟨v9,rfl,hN9,hb9⟩;have HN9:=Aside0.mk hN9;have HB9:=Aside0.mk hb9;clear hN9 hb9));have hK9:=farKeep HK.out HB9.out;(simp only [World.size_alloc] at hK9);have hsz:=HB2.out.size;refine ⟨by simp, .inl ⟨_,_,rfl,run_takeDeferred hK9,?_⟩⟩;refine ⟨_,results_tmp2 rfl _ _ _,v9,rfl,?_,?_⟩
     ·
      rw [HPS.out]
      exact Kd.N_mono (N_put (Kd.N_lower HN9.out (Nat.le_trans HB2.out.size HBE.out.size)) hK9 rfl) (fun k hk=>by
       have h1:=HBE.out.size
       rcases hk with ⟨_,hk | hk⟩ | hk
       (· exact .inl hk.1);(· exact .inr (by omega))
       ·
        exact .inr (by omega))
     (· exact (far_ (far_ HB2.out HBE.out) HB9.out).trans (belowK_b (w:=w) (Nat.le_refl _) w9 _ _ _ (by omega) hK9 rfl rfl))
   ·
    have e3:decide (0 < fav)=false:=decide_eq_false c;clear hc c;(gi_wp2_with (refine ⟨trivial,?_⟩;refine (merge_pieces _ Ac ch.length cc A0 base.length c0 A1 sides.length c1 fav un _).mono ?_;rintro e w' ⟨rfl,rfl⟩));have h0:MeI P w2 w2.heap.size (w2.heap.size+1) (w2.heap.size+1+1) (w2.heap.size+1+1+1) (w2.heap.size+1+1+1+1) (.slice Ac ch.length cc) (.slice A0 base.length c0) (.slice A1 sides.length c1) fav un ([],none) (((((w2.alloc (.cells #[.slice none 0 0] 35)).alloc (.cells #[.slice Ac ch.length cc] 26)).alloc (.cells #[.slice A0 base.length c0] 22)).alloc (.cells #[.slice A1 sides.length c1] 23)).alloc (.cells #[.int .i64 fav, .bool un] 34)):=MeI.start P w2 _ _ _ fav un
    refine wpIn_range_box rfl (by omega) (gf:=87) (lb:=#[.pointer (some ⟨w2.heap.size+1,0,none⟩), .pointer (some ⟨w2.heap.size+1+1,0,none⟩), .pointer (some ⟨w2.heap.size+1+1+1,0,none⟩), .pointer (some ⟨w2.heap.size+1+1+1+1,0,none⟩)]) rfl trivial (enters_of Tryz.func87 (by kernel_rfl) rfl) (fun _=>rfl)
     (pieces_goes P _ w2 w2.heap.size _ _ _ _ ch Ac cc base A0 c0 sides A1 c1 fav un HC2.out (Kd.F_below HF0.out HB2.out) hc0 (Kd.F_below HF1.out HB2.out) hc1 HCH.out (by have:=HNS.out;omega) (by have:=HLE.out.1;omega) HBP.out (by omega)) 11 (fun x b W=>W.heap[b]? = some (.cells x.2 66 (0,0)))
     (fun s W r o o' hI hr hl ho=>hI.put o' (by simp at hr;omega) hl ho) (fun x b W r o o' hH hl ho=>((grownBy_putObj' W r o').block b (blk_lt hH) (fun e=>by cases e;rw [hH] at hl;cases hl;cases ho)).trans hH) (fun s W o hI=>hI.below (newBelow W o)) h0 ?assign ?body ?done
    case assign =>
     rintro l ⟨done,pend⟩ ⟨p,cs⟩ W K hI ⟨hpd,_⟩ hK;(dsimp only at hpd);subst hpd;have hI2:=hI;obtain ⟨_,_,_,_,_,_,ok,v,_,_,_,hp⟩:=hI2;obtain ⟨B1,d1,B2,d2,B3,d3,rfl,_⟩:=hp p cs rfl;have hk:=hK W.heap.size _ (hI.below (newBelow _ _)) (KeepsOthers.alloc _ _) (blk_new W (.cells #[.bool p.f0, .slice B1 p.f1.length d1, .slice B2 p.f2.length d2, .slice B3 p.f3.length d3] 66));clear hK hp hI;gi_wp2;simpa using hk
    case body =>
     rintro l ⟨done,pend⟩ ⟨p,cs⟩ b W hI ⟨hpd,hlen⟩ hH;(dsimp only at hpd hlen hH);subst hpd;have HI:=Aside0.mk hI;obtain ⟨hbw,_,_,_,_,_,ok,v,hv,hok,hN0,hp⟩:=hI;obtain ⟨Ao,co,rfl⟩:=Kd.N_slice hN0;obtain ⟨B1,d1,B2,d2,B3,d3,rfl,m1,f1,m2,f2,m3,f3⟩:=hp p cs rfl;(dsimp only at hN0);have HFK:Aside0 (Kd.FK k66 W (fun k=>ok k∧some k≠(Value.slice Ao done.length co).ownBlock) p [.bool p.f0, .slice B1 p.f1.length d1, .slice B2 p.f2.length d2, .slice B3 p.f3.length d3]):=⟨k66_mkF _ _ p m1 f1 m2 f2 m3 f3⟩;have xb:W.cell? ⟨w2.heap.size,0,none⟩=some (.slice Ao done.length co):=cell_blk hv rfl;have h1:W.cell? ⟨b,0,none⟩=some (.bool p.f0):=cell_blk hH rfl;have h2:W.cell? ⟨b,1,none⟩=some (.slice B1 p.f1.length d1):=cell_blk hH rfl;have h3:W.cell? ⟨b,2,none⟩=some (.slice B2 p.f2.length d2):=cell_blk hH rfl;have h4:W.cell? ⟨b,3,none⟩=some (.slice B3 p.f3.length d3):=cell_blk hH rfl;have HV:=Aside0.mk hv;have HOK:=Aside0.mk hok;have HN0:=Aside0.mk hN0;have HBW:Aside0 (w2.heap.size≤W.heap.size):=⟨hbw.size⟩;clear hv hok hN0 hp f1 f2 f3 hbw h0;(gi_wp2_with (gi_at_builtin;refine N_appendIn k66 (W:=W) w2.heap.size rfl (.tmp 48) (.tmp 50) 35 66 (.agg #[.bool false, .slice none 0 0, .slice none 0 0, .slice none 0 0]) 80 rfl Tryz.underlying35 info66 rfl (by decide) (.slice Ao done.length co) done p [.bool p.f0, .slice B1 p.f1.length d1, .slice B2 p.f2.length d2, .slice B3 p.f3.length d3] (fun k=>ok k∨W.heap.size≤k) (fun k=>ok k∧some k≠(Value.slice Ao done.length co).ownBlock) rfl rfl HFK.out (fun k hk=>⟨.inl hk.1,hk.2⟩) (fun k hk => .inr hk) (Kd.N_mono HN0.out (fun k hk => .inl hk)) HBW.out (by omega) (by decide) ?_;intro v1 w1 hN1 hg1 hat1;obtain ⟨A9,c9,hv9⟩:=Kd.N_slice hN1;subst hv9;have g9:=(hg1.block w2.heap.size (by have:=blk_lt HV.out;simp;omega) (Kd.N_ne HN0.out HV.out (by decide))).trans (newKeep HV.out _);have y9:w1.cell? ⟨w2.heap.size,0,none⟩=some (.slice Ao done.length co):=cell_blk g9 rfl;have f9:w1.frozen? ⟨w2.heap.size,0,none⟩=false:=frozen_of_row _ _ _ _ _ g9;have HN1:=Aside0.mk hN1;have HG1:=Aside0.mk hg1;clear hN1 hg1 hat1 g9 xb h1 h2 h3 h4));have hlay:=MeI.lay HI.out HV.out HOK.out HN0.out HN1.out HG1.out;(have e:(done ++ [p]).length=done.length+1:=by simp);(rw [e] at hlay);exact ⟨hlay.2,hlay.1⟩
    case done =>
     rintro ⟨all,pend⟩ W hS hI hK;cases hS;obtain ⟨Ar,cr,hbx,hN⟩:=hI.box;have hbel:=hI.bel;have xb:W.cell? ⟨w2.heap.size,0,none⟩=some (.slice Ar (ch.map (mergePiece base sides fav un)).length cr):=cell_blk hbx rfl;(have hlm:(ch.map (mergePiece base sides fav un)).length≤100000000:=by rw [List.length_map];omega);obtain ⟨PS,hPS⟩ : ∃ l,ch.map (mergePiece base sides fav un)=l:=⟨_,rfl⟩;(rw [hPS] at hN xb hlm HTS);have HPS:=Aside0.mk hPS;(dsimp only at hN);obtain ⟨_,hcr,_⟩:=Kd.N_reads' hN;have HN:=Aside0.mk hN;have HK:=Aside0.mk hK;have HBE:=Aside0.mk hbel;clear hI hN hK hbx hbel hPS h0;(gi_wp2_with (refine ⟨trivial,?_⟩;refine (callsIn_wide.2 (pick_Normal (fun k=>k≠w2.heap.size∧(P k∧k < w2.heap.size∨w2.heap.size≤k)) Ar cr PS W (Kd.N_F HN.out) hcr hlm HTS.out)).mono ?_;rintro e w9 ⟨v9,rfl,hN9,hb9⟩;have HN9:=Aside0.mk hN9;have HB9:=Aside0.mk hb9;clear hN9 hb9));have hK9:=farKeep HK.out HB9.out;(simp only [World.size_alloc] at hK9);have hsz:=HB2.out.size;refine ⟨by simp, .inl ⟨_,_,rfl,run_takeDeferred hK9,?_⟩⟩;refine ⟨_,results_tmp2 rfl _ _ _,v9,rfl,?_,?_⟩
     ·
      rw [HPS.out]
      exact Kd.N_mono (N_put (Kd.N_lower HN9.out (Nat.le_trans HB2.out.size HBE.out.size)) hK9 rfl) (fun k hk=>by
       have h1:=HBE.out.size
       rcases hk with ⟨_,hk | hk⟩ | hk
       (· exact .inl hk.1);(· exact .inr (by omega))
       ·
        exact .inr (by omega))
     (· exact (far_ (far_ HB2.out HBE.out) HB9.out).trans (belowK_b (w:=w) (Nat.le_refl _) w9 _ _ _ (by omega) hK9 rfl rfl))
 (· have hm:=HMF.out;(rw [if_pos hcd] at hm);subst hm;(have b1:(cd == 0)=false:=by simpa using hcd);have b2:decide (cd=0)=false:=decide_eq_false hcd;gi_wp2;exact ⟨_,results_tmp2 rfl _ _ _, .slice none 0 0,rfl,Kd.N_nil _ _ _ _ _,HB2.out⟩)
end Go.Proofs.YtbbhdbeaikclcaaGreat.X
namespace Go.Proofs.YtbbhdbeaikclcaaGreat.X
open Go.RowKit Go.Proofs.YtbbhdbeaikclcaaGreatW.PrintWords Go.Proofs.YtbbhdbeaikclcaaGreatW.PrintLast Go.Proofs.YtbbhdbeaikclcaaGreatW.PrintMore
def spanOkB (s:Spanx) (n:Nat):Bool:=decide (0≤s.f0) && (decide (s.f0≤s.f1) && decide (s.f1≤(n:Int)))
theorem spanOkB_iff {s:Spanx} {n:Nat}:spanOkB s n=true↔SpanOk s n:=by
 (rw [spanOkB,Bool.and_eq_true,Bool.and_eq_true,decide_eq_true_eq,decide_eq_true_eq,decide_eq_true_eq];rfl)
def chunkOkB (base:List ByteArray) (sides:List (List ByteArray)) (c:Chunk):Bool:=decide (c.f2.length=sides.length) && (spanOkB c.f1 base.length && (List.range sides.length).all (fun i=>spanOkB (c.f2.getD i z45) (sides.getD i []).length))
theorem chunkOkB_iff {base:List ByteArray} {sides:List (List ByteArray)} {c:Chunk}:chunkOkB base sides c=true↔ChunkOk base sides c:=by
 rw [chunkOkB,Bool.and_eq_true,Bool.and_eq_true,decide_eq_true_eq,spanOkB_iff,List.all_eq_true];constructor
 ·
  rintro ⟨h1,h2,h3⟩;refine ⟨h1,h2,fun i hi=>?_⟩;have:=spanOkB_iff.1 (h3 i (List.mem_range.2 hi))
  rwa [getD_get hi] at this
 (· rintro ⟨h1,h2,h3⟩;refine ⟨h1,h2,fun i hi=>?_⟩;have hi:=List.mem_range.1 hi;rw [getD_get hi];exact spanOkB_iff.2 (h3 i hi))
def mergeOkB (base:List ByteArray) (sides:List (List ByteArray)) (fav:Int) (un:Bool):Bool :=
  chunksOk base sides && (decide ((chunksF base sides).2≠0) || ((chunksF base sides).1.all (chunkOkB base sides) && (decide ((chunksF base sides).1.length≤1000000) && decide (tsum ((chunksF base sides).1.map (mergePiece base sides fav un))≤1000000))))
theorem mergeOkB_iff {base:List ByteArray} {sides:List (List ByteArray)} {fav:Int} {un:Bool}:mergeOkB base sides fav un=true↔MergeOk base sides fav un:=by
 rw [mergeOkB,Bool.and_eq_true,Bool.or_eq_true,Bool.and_eq_true,Bool.and_eq_true,decide_eq_true_eq,decide_eq_true_eq,decide_eq_true_eq,List.all_eq_true];constructor
 ·
  rintro ⟨h1,h2⟩;refine ⟨h1,fun h0=>?_⟩
  rcases h2 with h2 | ⟨h2,h3,h4⟩
  (· exact absurd h0 h2);(· exact ⟨fun c hc=>chunkOkB_iff.1 (h2 c hc),h3,h4⟩)
 ·
  rintro ⟨h1,h2⟩;refine ⟨h1,?_⟩
  by_cases h0:(chunksF base sides).2=0
  (· obtain ⟨a,b,c⟩:=h2 h0;exact .inr ⟨fun x hx=>chunkOkB_iff.2 (a x hx),b,c⟩);(· exact .inl h0)
def merge_Merge.f (l0:List ByteArray) (l1:List (List ByteArray)) (a2_0:Int) (a2_1:Bool):Option (List S66 × Int):=if mergeOkB l0 l1 a2_0 a2_1=true then some (mergeF l0 l1 a2_0 a2_1) else none
theorem merge_Merge.calls (P0_:Nat→Prop) (A0:Option Addr) (c0:Nat) (l0:List ByteArray) (P1_:Nat→Prop) (A1:Option Addr) (c1:Nat) (l1:List (List ByteArray)) (a2_0:Int) (a2_1:Bool) (r1:List (S66)) (r2:Int) (w:World) (hs0:Kd.V Kd.string 9 w w.heap.size (fun k_=>P0_ k_) (.slice A0 l0.length c0) l0) (hs1:Kd.V (Kd.slice 9 Kd.string) 22 w w.heap.size (fun k_=>P1_ k_) (.slice A1 l1.length c1) l1) (h:merge_Merge.f l0 l1 a2_0 a2_1=some (r1,r2)) :
    Calls Tryz.prog 18 #[.slice A0 l0.length c0, .slice A1 l1.length c1, .agg #[.int .i64 a2_0, .bool a2_1]] w fun e w' => ∃ v0_:Value,e = .returned (.tuple #[v0_, .int .i64 r2])∧Kd.N k66 66 w' w.heap.size (fun k_=>((P0_ k_∨P1_ k_)∨w.heap.size≤k_)) v0_ r1∧Below w.heap.size w w':=by
 (unfold merge_Merge.f at h);(split at h);(· rename_i hf;have h:=Option.some.inj h;obtain ⟨_,hc0,hf0⟩:=Kd.V_at hs0;obtain ⟨_,hc1,hf1⟩:=Kd.V_at hs1;have:=merge_Merge (fun k=>P0_ k∨P1_ k) A0 c0 l0 A1 c1 l1 a2_0 a2_1 w (Kd.F_mono hf0 (fun k hk => .inl hk)) hc0 (Kd.F_mono hf1 (fun k hk => .inr hk)) hc1 (mergeOkB_iff.1 hf);(rw [h] at this);refine this.mono ?_;rintro e w' ⟨v,he,hn,hb⟩;exact ⟨v,he,hn,hb⟩);(· cases h)
def pick_Choose.f (l0:List S66) (a1:Int):Option (List ByteArray):=if l0.length≤1000000000∧a1≤1000000000 ∧ -1000000000≤a1∧(chooseF l0 a1).length≤1000000000 then some (chooseF l0 a1) else none
def pick_Clean.f (l0:List S66):Option Bool:=if l0.length≤1000000000 then some (cleanB l0) else none
end Go.Proofs.YtbbhdbeaikclcaaGreat.X
namespace Go.Proofs.YtbbhdbeaikclcaaGreat.X
open Go.RowKit Go.Proofs.YtbbhdbeaikclcaaGreatW.PrintWords Go.Proofs.YtbbhdbeaikclcaaGreatW.PrintLast Go.Proofs.YtbbhdbeaikclcaaGreatW.PrintMore
attribute [local go_sem] max2_int min2_int max_two min_two max_three min_three max_four min_four
def sennitlaw08_awake.f  : Option (Bool):=(some (([(⟨#[97,10]⟩:ByteArray),(⟨#[98,10]⟩:ByteArray),(⟨#[99,10]⟩:ByteArray)]:List ByteArray):List ByteArray)).bind fun y101=>((merge_Merge.f y101 (([(([(⟨#[120,10]⟩:ByteArray),(⟨#[98,10]⟩:ByteArray),(⟨#[99,10]⟩:ByteArray)]:List ByteArray)),(([(⟨#[97,10]⟩:ByteArray),(⟨#[98,10]⟩:ByteArray),(⟨#[121,10]⟩:ByteArray)]:List ByteArray))]:List (List ByteArray))) 0 false).bind fun bt113=>((merge_Merge.f y101 (([(([(⟨#[120,10]⟩:ByteArray),(⟨#[98,10]⟩:ByteArray),(⟨#[99,10]⟩:ByteArray)]:List ByteArray)),(([(⟨#[122,10]⟩:ByteArray),(⟨#[98,10]⟩:ByteArray),(⟨#[121,10]⟩:ByteArray)]:List ByteArray))]:List (List ByteArray))) 0 false).bind fun bt126=>((merge_Merge.f y101 ([]:List (List ByteArray)) 0 false).bind fun bt130=>(if bt113.2=0 then (if bt126.2=0 then (if bt130.2=1 then (if (bt113.1.length:Int)=1 then (if 0 < (bt113.1.length:Int) then (if (((rd_T66 bt113.1 0).f1).length:Int)=3 then (if 2 < (((rd_T66 bt113.1 0).f1).length:Int) then (if (rdOf ByteArray.empty ((rd_T66 bt113.1 0).f1) 2).toList=([121,10]:List UInt8) then (if (bt126.1.length:Int)=2 then (if 0 < (bt126.1.length:Int) then (if (rd_T66 bt126.1 0).f0=true then (if 1 < (bt126.1.length:Int) then (some ((((rd_T66 bt126.1 1).f1).length:Int) == 2)) else (none)) else (some false)) else (none)) else (some false)) else (some false)) else (none)) else (some false)) else (none)) else (some false)) else (some false)) else (some false)) else (some false)))))
theorem sennitlaw08_awake.true_:sennitlaw08_awake.f=some true:=by decide +kernel
set_option maxHeartbeats 8000000 in
set_option maxRecDepth 100000 in
theorem sennitlaw08_awake.calls  (r:Bool) (w:World) (h:sennitlaw08_awake.f  = some r) :
    Calls Tryz.prog 13 #[] w fun e w'=>e = .returned (.bool r)∧Below w.heap.size w w':=by
 have hrt_:r=true:=Option.some.inj (h.symm.trans sennitlaw08_awake.true_);have hu34:=Tryz.underlying34;have HB:=Aside0.mk (Below.refl w.heap.size w);have H:((some (([(⟨#[97,10]⟩:ByteArray),(⟨#[98,10]⟩:ByteArray),(⟨#[99,10]⟩:ByteArray)]:List ByteArray):List ByteArray)).bind fun y101=>((merge_Merge.f y101 (([(([(⟨#[120,10]⟩:ByteArray),(⟨#[98,10]⟩:ByteArray),(⟨#[99,10]⟩:ByteArray)]:List ByteArray)),(([(⟨#[97,10]⟩:ByteArray),(⟨#[98,10]⟩:ByteArray),(⟨#[121,10]⟩:ByteArray)]:List ByteArray))]:List (List ByteArray))) 0 false).bind fun bt113=>((merge_Merge.f y101 (([(([(⟨#[120,10]⟩:ByteArray),(⟨#[98,10]⟩:ByteArray),(⟨#[99,10]⟩:ByteArray)]:List ByteArray)),(([(⟨#[122,10]⟩:ByteArray),(⟨#[98,10]⟩:ByteArray),(⟨#[121,10]⟩:ByteArray)]:List ByteArray))]:List (List ByteArray))) 0 false).bind fun bt126=>((merge_Merge.f y101 ([]:List (List ByteArray)) 0 false).bind fun bt130=>(if bt113.2=0 then (if bt126.2=0 then (if bt130.2=1 then (if (bt113.1.length:Int)=1 then (if 0 < (bt113.1.length:Int) then (if (((rd_T66 bt113.1 0).f1).length:Int)=3 then (if 2 < (((rd_T66 bt113.1 0).f1).length:Int) then (if (rdOf ByteArray.empty ((rd_T66 bt113.1 0).f1) 2).toList=([121,10]:List UInt8) then (if (bt126.1.length:Int)=2 then (if 0 < (bt126.1.length:Int) then (if (rd_T66 bt126.1 0).f0=true then (if 1 < (bt126.1.length:Int) then (some ((((rd_T66 bt126.1 1).f1).length:Int) == 2)) else (none)) else (some false)) else (none)) else (some false)) else (some false)) else (none)) else (some false)) else (none)) else (some false)) else (some false)) else (some false)) else (some false))))))=some r:=h;clear h;obtain ⟨y101,hy101⟩ : ∃ y_:List ByteArray,y_=(([(⟨#[97,10]⟩:ByteArray),(⟨#[98,10]⟩:ByteArray),(⟨#[99,10]⟩:ByteArray)]:List ByteArray)):=⟨_,rfl⟩;(replace H:((merge_Merge.f y101 (([(([(⟨#[120,10]⟩:ByteArray),(⟨#[98,10]⟩:ByteArray),(⟨#[99,10]⟩:ByteArray)]:List ByteArray)),(([(⟨#[97,10]⟩:ByteArray),(⟨#[98,10]⟩:ByteArray),(⟨#[121,10]⟩:ByteArray)]:List ByteArray))]:List (List ByteArray))) 0 false).bind fun bt113=>((merge_Merge.f y101 (([(([(⟨#[120,10]⟩:ByteArray),(⟨#[98,10]⟩:ByteArray),(⟨#[99,10]⟩:ByteArray)]:List ByteArray)),(([(⟨#[122,10]⟩:ByteArray),(⟨#[98,10]⟩:ByteArray),(⟨#[121,10]⟩:ByteArray)]:List ByteArray))]:List (List ByteArray))) 0 false).bind fun bt126=>((merge_Merge.f y101 ([]:List (List ByteArray)) 0 false).bind fun bt130=>(if bt113.2=0 then (if bt126.2=0 then (if bt130.2=1 then (if (bt113.1.length:Int)=1 then (if 0 < (bt113.1.length:Int) then (if (((rd_T66 bt113.1 0).f1).length:Int)=3 then (if 2 < (((rd_T66 bt113.1 0).f1).length:Int) then (if (rdOf ByteArray.empty ((rd_T66 bt113.1 0).f1) 2).toList=([121,10]:List UInt8) then (if (bt126.1.length:Int)=2 then (if 0 < (bt126.1.length:Int) then (if (rd_T66 bt126.1 0).f0=true then (if 1 < (bt126.1.length:Int) then (some ((((rd_T66 bt126.1 1).f1).length:Int) == 2)) else (none)) else (some false)) else (none)) else (some false)) else (some false)) else (none)) else (some false)) else (none)) else (some false)) else (some false)) else (some false)) else (some false)))))=some r:=by first | (rw [hy101];with_reducible exact H) | (have H2_:=(Option.bind_some _ _).symm.trans H;rw [hy101];with_reducible exact H2_) | (have H2_:=(Option.bind_some _ _).symm.trans H;with_reducible exact H2_) | with_reducible exact H | (rw [hy101];exact H) | exact H);have Ny101:=Aside0.mk hy101;clear hy101;obtain ⟨y104,hy104⟩ : ∃ y_:List ByteArray,y_=(([(⟨#[120,10]⟩:ByteArray),(⟨#[98,10]⟩:ByteArray),(⟨#[99,10]⟩:ByteArray)]:List ByteArray)):=⟨_,rfl⟩;(replace H:((merge_Merge.f y101 (([y104,(([(⟨#[97,10]⟩:ByteArray),(⟨#[98,10]⟩:ByteArray),(⟨#[121,10]⟩:ByteArray)]:List ByteArray))]:List (List ByteArray))) 0 false).bind fun bt113=>((merge_Merge.f y101 (([(([(⟨#[120,10]⟩:ByteArray),(⟨#[98,10]⟩:ByteArray),(⟨#[99,10]⟩:ByteArray)]:List ByteArray)),(([(⟨#[122,10]⟩:ByteArray),(⟨#[98,10]⟩:ByteArray),(⟨#[121,10]⟩:ByteArray)]:List ByteArray))]:List (List ByteArray))) 0 false).bind fun bt126=>((merge_Merge.f y101 ([]:List (List ByteArray)) 0 false).bind fun bt130=>(if bt113.2=0 then (if bt126.2=0 then (if bt130.2=1 then (if (bt113.1.length:Int)=1 then (if 0 < (bt113.1.length:Int) then (if (((rd_T66 bt113.1 0).f1).length:Int)=3 then (if 2 < (((rd_T66 bt113.1 0).f1).length:Int) then (if (rdOf ByteArray.empty ((rd_T66 bt113.1 0).f1) 2).toList=([121,10]:List UInt8) then (if (bt126.1.length:Int)=2 then (if 0 < (bt126.1.length:Int) then (if (rd_T66 bt126.1 0).f0=true then (if 1 < (bt126.1.length:Int) then (some ((((rd_T66 bt126.1 1).f1).length:Int) == 2)) else (none)) else (some false)) else (none)) else (some false)) else (some false)) else (none)) else (some false)) else (none)) else (some false)) else (some false)) else (some false)) else (some false)))))=some r:=by first | (rw [hy104];with_reducible exact H) | (have H2_:=(Option.bind_some _ _).symm.trans H;rw [hy104];with_reducible exact H2_) | (have H2_:=(Option.bind_some _ _).symm.trans H;with_reducible exact H2_) | with_reducible exact H | (rw [hy104];exact H) | exact H);have Ny104:=Aside0.mk hy104;clear hy104;obtain ⟨y107,hy107⟩ : ∃ y_:List ByteArray,y_=(([(⟨#[97,10]⟩:ByteArray),(⟨#[98,10]⟩:ByteArray),(⟨#[121,10]⟩:ByteArray)]:List ByteArray)):=⟨_,rfl⟩
 (replace H:((merge_Merge.f y101 (([y104,y107]:List (List ByteArray))) 0 false).bind fun bt113=>((merge_Merge.f y101 (([(([(⟨#[120,10]⟩:ByteArray),(⟨#[98,10]⟩:ByteArray),(⟨#[99,10]⟩:ByteArray)]:List ByteArray)),(([(⟨#[122,10]⟩:ByteArray),(⟨#[98,10]⟩:ByteArray),(⟨#[121,10]⟩:ByteArray)]:List ByteArray))]:List (List ByteArray))) 0 false).bind fun bt126=>((merge_Merge.f y101 ([]:List (List ByteArray)) 0 false).bind fun bt130=>(if bt113.2=0 then (if bt126.2=0 then (if bt130.2=1 then (if (bt113.1.length:Int)=1 then (if 0 < (bt113.1.length:Int) then (if (((rd_T66 bt113.1 0).f1).length:Int)=3 then (if 2 < (((rd_T66 bt113.1 0).f1).length:Int) then (if (rdOf ByteArray.empty ((rd_T66 bt113.1 0).f1) 2).toList=([121,10]:List UInt8) then (if (bt126.1.length:Int)=2 then (if 0 < (bt126.1.length:Int) then (if (rd_T66 bt126.1 0).f0=true then (if 1 < (bt126.1.length:Int) then (some ((((rd_T66 bt126.1 1).f1).length:Int) == 2)) else (none)) else (some false)) else (none)) else (some false)) else (some false)) else (none)) else (some false)) else (none)) else (some false)) else (some false)) else (some false)) else (some false)))))=some r:=by first | (rw [hy107];with_reducible exact H) | (have H2_:=(Option.bind_some _ _).symm.trans H;rw [hy107];with_reducible exact H2_) | (have H2_:=(Option.bind_some _ _).symm.trans H;with_reducible exact H2_) | with_reducible exact H | (rw [hy107];exact H) | exact H);have Ny107:=Aside0.mk hy107;clear hy107;obtain ⟨y110,hy110⟩ : ∃ y_:List (List ByteArray),y_=(([y104,y107]:List (List ByteArray))):=⟨_,rfl⟩;(replace H:((merge_Merge.f y101 y110 0 false).bind fun bt113=>((merge_Merge.f y101 (([(([(⟨#[120,10]⟩:ByteArray),(⟨#[98,10]⟩:ByteArray),(⟨#[99,10]⟩:ByteArray)]:List ByteArray)),(([(⟨#[122,10]⟩:ByteArray),(⟨#[98,10]⟩:ByteArray),(⟨#[121,10]⟩:ByteArray)]:List ByteArray))]:List (List ByteArray))) 0 false).bind fun bt126=>((merge_Merge.f y101 ([]:List (List ByteArray)) 0 false).bind fun bt130=>(if bt113.2=0 then (if bt126.2=0 then (if bt130.2=1 then (if (bt113.1.length:Int)=1 then (if 0 < (bt113.1.length:Int) then (if (((rd_T66 bt113.1 0).f1).length:Int)=3 then (if 2 < (((rd_T66 bt113.1 0).f1).length:Int) then (if (rdOf ByteArray.empty ((rd_T66 bt113.1 0).f1) 2).toList=([121,10]:List UInt8) then (if (bt126.1.length:Int)=2 then (if 0 < (bt126.1.length:Int) then (if (rd_T66 bt126.1 0).f0=true then (if 1 < (bt126.1.length:Int) then (some ((((rd_T66 bt126.1 1).f1).length:Int) == 2)) else (none)) else (some false)) else (none)) else (some false)) else (some false)) else (none)) else (some false)) else (none)) else (some false)) else (some false)) else (some false)) else (some false)))))=some r:=by first | (rw [hy110];with_reducible exact H) | (have H2_:=(Option.bind_some _ _).symm.trans H;rw [hy110];with_reducible exact H2_) | (have H2_:=(Option.bind_some _ _).symm.trans H;with_reducible exact H2_) | with_reducible exact H | (rw [hy110];exact H) | exact H);have Ny110:=Aside0.mk hy110;clear hy110;replace H:=Option.bind_eq_some_iff.mp H;obtain ⟨⟨t113,t116⟩,A10,H⟩:=H;replace H:((merge_Merge.f y101 (([(([(⟨#[120,10]⟩:ByteArray),(⟨#[98,10]⟩:ByteArray),(⟨#[99,10]⟩:ByteArray)]:List ByteArray)),(([(⟨#[122,10]⟩:ByteArray),(⟨#[98,10]⟩:ByteArray),(⟨#[121,10]⟩:ByteArray)]:List ByteArray))]:List (List ByteArray))) 0 false).bind fun bt126=>((merge_Merge.f y101 ([]:List (List ByteArray)) 0 false).bind fun bt130=>(if t116=0 then (if bt126.2=0 then (if bt130.2=1 then (if (t113.length:Int)=1 then (if 0 < (t113.length:Int) then (if (((rd_T66 t113 0).f1).length:Int)=3 then (if 2 < (((rd_T66 t113 0).f1).length:Int) then (if (rdOf ByteArray.empty ((rd_T66 t113 0).f1) 2).toList=([121,10]:List UInt8) then (if (bt126.1.length:Int)=2 then (if 0 < (bt126.1.length:Int) then (if (rd_T66 bt126.1 0).f0=true then (if 1 < (bt126.1.length:Int) then (some ((((rd_T66 bt126.1 1).f1).length:Int) == 2)) else (none)) else (some false)) else (none)) else (some false)) else (some false)) else (none)) else (some false)) else (none)) else (some false)) else (some false)) else (some false)) else (some false))))=some r:=H;have A1:=Aside0.mk A10;clear A10;obtain ⟨y117,hy117⟩ : ∃ y_:List ByteArray,y_=(([(⟨#[120,10]⟩:ByteArray),(⟨#[98,10]⟩:ByteArray),(⟨#[99,10]⟩:ByteArray)]:List ByteArray)):=⟨_,rfl⟩;(replace H:((merge_Merge.f y101 (([y117,(([(⟨#[122,10]⟩:ByteArray),(⟨#[98,10]⟩:ByteArray),(⟨#[121,10]⟩:ByteArray)]:List ByteArray))]:List (List ByteArray))) 0 false).bind fun bt126=>((merge_Merge.f y101 ([]:List (List ByteArray)) 0 false).bind fun bt130=>(if t116=0 then (if bt126.2=0 then (if bt130.2=1 then (if (t113.length:Int)=1 then (if 0 < (t113.length:Int) then (if (((rd_T66 t113 0).f1).length:Int)=3 then (if 2 < (((rd_T66 t113 0).f1).length:Int) then (if (rdOf ByteArray.empty ((rd_T66 t113 0).f1) 2).toList=([121,10]:List UInt8) then (if (bt126.1.length:Int)=2 then (if 0 < (bt126.1.length:Int) then (if (rd_T66 bt126.1 0).f0=true then (if 1 < (bt126.1.length:Int) then (some ((((rd_T66 bt126.1 1).f1).length:Int) == 2)) else (none)) else (some false)) else (none)) else (some false)) else (some false)) else (none)) else (some false)) else (none)) else (some false)) else (some false)) else (some false)) else (some false))))=some r:=by first | (rw [hy117];with_reducible exact H) | (have H2_:=(Option.bind_some _ _).symm.trans H;rw [hy117];with_reducible exact H2_) | (have H2_:=(Option.bind_some _ _).symm.trans H;with_reducible exact H2_) | with_reducible exact H | (rw [hy117];exact H) | exact H);have Ny117:=Aside0.mk hy117;clear hy117
 obtain ⟨y120,hy120⟩ : ∃ y_:List ByteArray,y_=(([(⟨#[122,10]⟩:ByteArray),(⟨#[98,10]⟩:ByteArray),(⟨#[121,10]⟩:ByteArray)]:List ByteArray)):=⟨_,rfl⟩;(replace H:((merge_Merge.f y101 (([y117,y120]:List (List ByteArray))) 0 false).bind fun bt126=>((merge_Merge.f y101 ([]:List (List ByteArray)) 0 false).bind fun bt130=>(if t116=0 then (if bt126.2=0 then (if bt130.2=1 then (if (t113.length:Int)=1 then (if 0 < (t113.length:Int) then (if (((rd_T66 t113 0).f1).length:Int)=3 then (if 2 < (((rd_T66 t113 0).f1).length:Int) then (if (rdOf ByteArray.empty ((rd_T66 t113 0).f1) 2).toList=([121,10]:List UInt8) then (if (bt126.1.length:Int)=2 then (if 0 < (bt126.1.length:Int) then (if (rd_T66 bt126.1 0).f0=true then (if 1 < (bt126.1.length:Int) then (some ((((rd_T66 bt126.1 1).f1).length:Int) == 2)) else (none)) else (some false)) else (none)) else (some false)) else (some false)) else (none)) else (some false)) else (none)) else (some false)) else (some false)) else (some false)) else (some false))))=some r:=by first | (rw [hy120];with_reducible exact H) | (have H2_:=(Option.bind_some _ _).symm.trans H;rw [hy120];with_reducible exact H2_) | (have H2_:=(Option.bind_some _ _).symm.trans H;with_reducible exact H2_) | with_reducible exact H | (rw [hy120];exact H) | exact H);have Ny120:=Aside0.mk hy120;clear hy120;obtain ⟨y123,hy123⟩ : ∃ y_:List (List ByteArray),y_=(([y117,y120]:List (List ByteArray))):=⟨_,rfl⟩;(replace H:((merge_Merge.f y101 y123 0 false).bind fun bt126=>((merge_Merge.f y101 ([]:List (List ByteArray)) 0 false).bind fun bt130=>(if t116=0 then (if bt126.2=0 then (if bt130.2=1 then (if (t113.length:Int)=1 then (if 0 < (t113.length:Int) then (if (((rd_T66 t113 0).f1).length:Int)=3 then (if 2 < (((rd_T66 t113 0).f1).length:Int) then (if (rdOf ByteArray.empty ((rd_T66 t113 0).f1) 2).toList=([121,10]:List UInt8) then (if (bt126.1.length:Int)=2 then (if 0 < (bt126.1.length:Int) then (if (rd_T66 bt126.1 0).f0=true then (if 1 < (bt126.1.length:Int) then (some ((((rd_T66 bt126.1 1).f1).length:Int) == 2)) else (none)) else (some false)) else (none)) else (some false)) else (some false)) else (none)) else (some false)) else (none)) else (some false)) else (some false)) else (some false)) else (some false))))=some r:=by first | (rw [hy123];with_reducible exact H) | (have H2_:=(Option.bind_some _ _).symm.trans H;rw [hy123];with_reducible exact H2_) | (have H2_:=(Option.bind_some _ _).symm.trans H;with_reducible exact H2_) | with_reducible exact H | (rw [hy123];exact H) | exact H);have Ny123:=Aside0.mk hy123;clear hy123;replace H:=Option.bind_eq_some_iff.mp H;obtain ⟨⟨t126,t129⟩,A20,H⟩:=H;replace H:((merge_Merge.f y101 ([]:List (List ByteArray)) 0 false).bind fun bt130=>(if t116=0 then (if t129=0 then (if bt130.2=1 then (if (t113.length:Int)=1 then (if 0 < (t113.length:Int) then (if (((rd_T66 t113 0).f1).length:Int)=3 then (if 2 < (((rd_T66 t113 0).f1).length:Int) then (if (rdOf ByteArray.empty ((rd_T66 t113 0).f1) 2).toList=([121,10]:List UInt8) then (if (t126.length:Int)=2 then (if 0 < (t126.length:Int) then (if (rd_T66 t126 0).f0=true then (if 1 < (t126.length:Int) then (some ((((rd_T66 t126 1).f1).length:Int) == 2)) else (none)) else (some false)) else (none)) else (some false)) else (some false)) else (none)) else (some false)) else (none)) else (some false)) else (some false)) else (some false)) else (some false)))=some r:=H;have A2:=Aside0.mk A20;clear A20;replace H:=Option.bind_eq_some_iff.mp H;obtain ⟨⟨t130,t133⟩,A30,H⟩:=H;replace H:(if t116=0 then (if t129=0 then (if t133=1 then (if (t113.length:Int)=1 then (if 0 < (t113.length:Int) then (if (((rd_T66 t113 0).f1).length:Int)=3 then (if 2 < (((rd_T66 t113 0).f1).length:Int) then (if (rdOf ByteArray.empty ((rd_T66 t113 0).f1) 2).toList=([121,10]:List UInt8) then (if (t126.length:Int)=2 then (if 0 < (t126.length:Int) then (if (rd_T66 t126 0).f0=true then (if 1 < (t126.length:Int) then (some ((((rd_T66 t126 1).f1).length:Int) == 2)) else (none)) else (some false)) else (none)) else (some false)) else (some false)) else (none)) else (some false)) else (none)) else (some false)) else (some false)) else (some false)) else (some false))=some r:=H;have A3:=Aside0.mk A30;clear A30
 by_cases c4:t116=0
 ·
  (rw [if_pos c4] at H);have c4b0:(t116 == 0)=true:=beq_iff_eq.mpr c4;have c4b1:(t116 != 0)=false:=bne_eq_false_iff_eq.mpr c4;clear c4
  by_cases c5:t129=0
  ·
   (rw [if_pos c5] at H);have c5b0:(t129 == 0)=true:=beq_iff_eq.mpr c5;have c5b1:(t129 != 0)=false:=bne_eq_false_iff_eq.mpr c5;clear c5
   by_cases c6:t133=1
   ·
    (rw [if_pos c6] at H);have c6b0:(t133 == 1)=true:=beq_iff_eq.mpr c6;have c6b1:(t133 != 1)=false:=bne_eq_false_iff_eq.mpr c6;clear c6
    by_cases c7:(t113.length:Int)=1
    ·
     (rw [if_pos c7] at H);have c7b0:((t113.length:Int) == 1)=true:=beq_iff_eq.mpr c7;have c7b1:((t113.length:Int) != 1)=false:=bne_eq_false_iff_eq.mpr c7;clear c7
     by_cases c8:0 < (t113.length:Int)
     ·
      (rw [if_pos c8] at H);have c8b0:decide (0 < (t113.length:Int))=true:=decide_eq_true c8;have c8b1:decide (0 < t113.length)=true:=decide_eq_true (by omega);clear c8
      by_cases c9:(((rd_T66 t113 0).f1).length:Int)=3
      ·
       (rw [if_pos c9] at H);have c9b0:((((rd_T66 t113 0).f1).length:Int) == 3)=true:=beq_iff_eq.mpr c9;have c9b1:((((rd_T66 t113 0).f1).length:Int) != 3)=false:=bne_eq_false_iff_eq.mpr c9;clear c9
       by_cases c10:2 < (((rd_T66 t113 0).f1).length:Int)
       ·
        (rw [if_pos c10] at H);have c10b0:decide (2 < (((rd_T66 t113 0).f1).length:Int))=true:=decide_eq_true c10;have c10b1:decide (2 < ((rd_T66 t113 0).f1).length)=true:=decide_eq_true (by omega);clear c10
        by_cases c11:(rdOf ByteArray.empty ((rd_T66 t113 0).f1) 2).toList=([121,10]:List UInt8)
        ·
         (rw [if_pos c11] at H);have c11b0:((rdOf ByteArray.empty ((rd_T66 t113 0).f1) 2).toList == ([121,10]:List UInt8))=true:=beq_iff_eq.mpr c11;have c11b1:((rdOf ByteArray.empty ((rd_T66 t113 0).f1) 2).toList != ([121,10]:List UInt8))=false:=bne_eq_false_iff_eq.mpr c11;clear c11
         by_cases c12:(t126.length:Int)=2
         ·
          (rw [if_pos c12] at H);have c12b0:((t126.length:Int) == 2)=true:=beq_iff_eq.mpr c12;have c12b1:((t126.length:Int) != 2)=false:=bne_eq_false_iff_eq.mpr c12;clear c12
          by_cases c13:0 < (t126.length:Int)
          ·
           (rw [if_pos c13] at H);have c13b0:decide (0 < (t126.length:Int))=true:=decide_eq_true c13;have c13b1:decide (0 < t126.length)=true:=decide_eq_true (by omega);clear c13;obtain ⟨bq14,hbq14⟩ : ∃ b_:Bool,b_=((rd_T66 t126 0).f0):=⟨_,rfl⟩;(replace H:(if bq14=true then (if 1 < (t126.length:Int) then (some ((((rd_T66 t126 1).f1).length:Int) == 2)) else (none)) else (some false))=some r:=by rw [← hbq14] at H;exact H);have Nbq14:=Aside0.mk hbq14;clear hbq14
           by_cases c15:bq14=true
           ·
            subst c15;(have H1:(if 1 < (t126.length:Int) then (some ((((rd_T66 t126 1).f1).length:Int) == 2)) else (none))=some r:=by rw [if_pos rfl] at H;exact H);clear H;have H:=H1;clear H1
            by_cases c16:1 < (t126.length:Int)
            (· (rw [if_pos c16] at H);have c16b0:decide (1 < (t126.length:Int))=true:=decide_eq_true c16;have c16b1:decide (1 < t126.length)=true:=decide_eq_true (by omega);clear c16;obtain rfl:=Option.some.inj H;go_enter Tryz.func13,Tryz.ntmps13;(go_wp2_with (first | ((with_reducible refine gate_dst (N:=8) rfl ?_);(try (refine gate_guard (by rfl) ?_;dsimp only));refine Kd.R_lit Kd.string _ 9 ?hg (N:=8) ?hd (xs:=([(⟨#[97,10]⟩:ByteArray),(⟨#[98,10]⟩:ByteArray),(⟨#[99,10]⟩:ByteArray)]:List ByteArray)) (inner:=[.string (⟨#[97,10]⟩:ByteArray), .string (⟨#[98,10]⟩:ByteArray), .string (⟨#[99,10]⟩:ByteArray)]) (ok:=fun _=>True) (okp:=fun _=>True) ?hr ?hp (fun _ hk=>hk) trivial (Below.refl _ _) (Nat.le_refl _) (by simp) ?_;(case hd=>rfl);(case hg=>rfl);(case hr=>first | (go_simp;done) | (go_simp;rfl));(case hp=>exact (Reps.one (show Kd.M Kd.string _ _ _ (⟨#[97,10]⟩:ByteArray) [.string (⟨#[97,10]⟩:ByteArray)] from rfl) (Reps.one (show Kd.M Kd.string _ _ _ (⟨#[98,10]⟩:ByteArray) [.string (⟨#[98,10]⟩:ByteArray)] from rfl) (Reps.one (show Kd.M Kd.string _ _ _ (⟨#[99,10]⟩:ByteArray) [.string (⟨#[99,10]⟩:ByteArray)] from rfl) (Reps.none _ _)))));intro v102 w17 ho18 hb hg_ hnew_;clear hg_ hnew_;(first | rw [← Ny101.out] at ho18 | (simp only [Int.reduceToNat] at ho18;rw [← Ny101.out] at ho18));have n0_:=Aside0.mk (Kd.R_lower ho18 (below_size bel_));have n1_:=Aside0.mk (below_step bel_ hb);clear HB;have HO103:=n0_;have HB:=n1_;clear n0_ n1_;clear hb ho18) | ((with_reducible refine gate_dst (N:=11) rfl ?_);(try (refine gate_guard (by rfl) ?_;dsimp only));refine Kd.R_lit Kd.string _ 9 ?hg (N:=11) ?hd (xs:=([(⟨#[120,10]⟩:ByteArray),(⟨#[98,10]⟩:ByteArray),(⟨#[99,10]⟩:ByteArray)]:List ByteArray)) (inner:=[.string (⟨#[120,10]⟩:ByteArray), .string (⟨#[98,10]⟩:ByteArray), .string (⟨#[99,10]⟩:ByteArray)]) (ok:=fun _=>True) (okp:=fun _=>True) ?hr ?hp (fun _ hk=>hk) trivial (Below.refl _ _) (Nat.le_refl _) (by simp) ?_;(case hd=>rfl);(case hg=>rfl);(case hr=>first | (go_simp;done) | (go_simp;rfl));(case hp=>exact (Reps.one (show Kd.M Kd.string _ _ _ (⟨#[120,10]⟩:ByteArray) [.string (⟨#[120,10]⟩:ByteArray)] from rfl) (Reps.one (show Kd.M Kd.string _ _ _ (⟨#[98,10]⟩:ByteArray) [.string (⟨#[98,10]⟩:ByteArray)] from rfl) (Reps.one (show Kd.M Kd.string _ _ _ (⟨#[99,10]⟩:ByteArray) [.string (⟨#[99,10]⟩:ByteArray)] from rfl) (Reps.none _ _)))));intro v105 w19 ho20 hb hg_ hnew_;clear hg_ hnew_;(first | rw [← Ny104.out] at ho20 | (simp only [Int.reduceToNat] at ho20;rw [← Ny104.out] at ho20));have n0_:=Aside0.mk (Kd.R_elder' (pR_ HO103.out) (Kd.R_base ho20) hb);have n1_:=Aside0.mk (Kd.R_lower (Kd.R_new' ho20 (Kd.R_lt (pR_ HO103.out))) (below_size bel_));have n2_:=Aside0.mk (below_step bel_ hb);clear HO103;clear HB;have HO103:=n0_;have HO106:=n1_;have HB:=n2_;clear n0_ n1_ n2_;clear hb ho20) | ((with_reducible refine gate_dst (N:=12) rfl ?_);(try (refine gate_guard (by rfl) ?_;dsimp only));refine Kd.R_lit Kd.string _ 9 ?hg (N:=12) ?hd (xs:=([(⟨#[97,10]⟩:ByteArray),(⟨#[98,10]⟩:ByteArray),(⟨#[121,10]⟩:ByteArray)]:List ByteArray)) (inner:=[.string (⟨#[97,10]⟩:ByteArray), .string (⟨#[98,10]⟩:ByteArray), .string (⟨#[121,10]⟩:ByteArray)]) (ok:=fun _=>True) (okp:=fun _=>True) ?hr ?hp (fun _ hk=>hk) trivial (Below.refl _ _) (Nat.le_refl _) (by simp) ?_;(case hd=>rfl);(case hg=>rfl);(case hr=>first | (go_simp;done) | (go_simp;rfl));(case hp=>exact (Reps.one (show Kd.M Kd.string _ _ _ (⟨#[97,10]⟩:ByteArray) [.string (⟨#[97,10]⟩:ByteArray)] from rfl) (Reps.one (show Kd.M Kd.string _ _ _ (⟨#[98,10]⟩:ByteArray) [.string (⟨#[98,10]⟩:ByteArray)] from rfl) (Reps.one (show Kd.M Kd.string _ _ _ (⟨#[121,10]⟩:ByteArray) [.string (⟨#[121,10]⟩:ByteArray)] from rfl) (Reps.none _ _)))));intro v108 w21 ho22 hb hg_ hnew_;clear hg_ hnew_;(first | rw [← Ny107.out] at ho22 | (simp only [Int.reduceToNat] at ho22;rw [← Ny107.out] at ho22));have n0_:=Aside0.mk (Kd.R_elder' (pR_ HO103.out) (Kd.R_base ho22) hb);have n1_:=Aside0.mk (Kd.R_elder' (pR_ HO106.out) (Kd.R_base ho22) hb);have n2_:=Aside0.mk (Kd.R_lower (Kd.R_new' (Kd.R_new' ho22 (Kd.R_lt (pR_ HO103.out))) (Kd.R_lt (pR_ HO106.out))) (below_size bel_));have n3_:=Aside0.mk (below_step bel_ hb);clear HO103;clear HO106;clear HB;have HO103:=n0_;have HO106:=n1_;have HO109:=n2_;have HB:=n3_;clear n0_ n1_ n2_ n3_;clear hb ho22;obtain ⟨Ao23,co23,eo23⟩:=Kd.R_slice HO106.out;subst eo23;obtain ⟨Ao24,co24,eo24⟩:=Kd.R_slice HO109.out;subst eo24) | ((with_reducible refine gate_dst (N:=13) rfl ?_);(try (refine gate_guard (by rfl) ?_;dsimp only));refine Kd.N_lit (Kd.slice 9 Kd.string) _ 22 ?hg (N':=13) ?hd (xs:=([y104,y107]:List (List ByteArray))) (inner:=[.slice Ao23 y104.length co23, .slice Ao24 y107.length co24]) (ok:=(fun k_=>some k_≠(v102:Value).ownBlock)) (okp:=(fun k_=>some k_≠(v102:Value).ownBlock)) ?hr ?hp (fun _ hk=>hk) ((show ∀ k_,w21.heap.size≤k_→(fun k_=>some k_≠(v102:Value).ownBlock) k_ from fun k_ hk=>Kd.fresh' (Kd.R_lt (pR_ HO103.out)) k_ hk) _ (Nat.le_refl _)) (Below.refl _ _) (Nat.le_refl _) (by simp) ?_;(case hd=>rfl);(case hg=>rfl);(case hr=>first | (go_simp;done) | (go_simp;rfl));(case hp=>first | exact (Reps.one (show Kd.FK (Kd.slice 9 Kd.string) _ _ y104 [.slice Ao23 y104.length co23] from (Kd.FK_slice_mk (Kd.R_reads' (Kd.R_mono (ok':=(fun k_=>some k_≠(v102:Value).ownBlock)) (HO106.out) (fun k_ hk=>hk.1.2))).2.1 (Kd.R_F (Kd.R_mono (ok':=(fun k_=>some k_≠(v102:Value).ownBlock)) (HO106.out) (fun k_ hk=>hk.1.2))))) (Reps.one (show Kd.FK (Kd.slice 9 Kd.string) _ _ y107 [.slice Ao24 y107.length co24] from (Kd.FK_slice_mk (Kd.R_reads' (Kd.R_mono (ok':=(fun k_=>some k_≠(v102:Value).ownBlock)) (HO109.out) (fun k_ hk=>hk.1.2))).2.1 (Kd.R_F (Kd.R_mono (ok':=(fun k_=>some k_≠(v102:Value).ownBlock)) (HO109.out) (fun k_ hk=>hk.1.2))))) (Reps.none _ _))) | exact (Reps.one (show Kd.FK (Kd.slice 9 Kd.string) _ _ y104 [.slice Ao23 y104.length co23] from (Kd.FK_slice_mk (Kd.R_reads' (Kd.R_mono (ok':=(fun k_=>some k_≠(v102:Value).ownBlock)) (HO106.out) (fun k_ hk=>hk.1.2))).2.1 (Kd.R_F (Kd.R_mono (ok':=(fun k_=>some k_≠(v102:Value).ownBlock)) (Kd.R_drewN HO106.out _) (fun k_ hk=>hk.1.2))))) (Reps.one (show Kd.FK (Kd.slice 9 Kd.string) _ _ y107 [.slice Ao24 y107.length co24] from (Kd.FK_slice_mk (Kd.R_reads' (Kd.R_mono (ok':=(fun k_=>some k_≠(v102:Value).ownBlock)) (HO109.out) (fun k_ hk=>hk.1.2))).2.1 (Kd.R_F (Kd.R_mono (ok':=(fun k_=>some k_≠(v102:Value).ownBlock)) (Kd.R_drewN HO109.out _) (fun k_ hk=>hk.1.2))))) (Reps.none _ _))));intro v111 w25 ho26 hb hg_ hnew_;clear hg_ hnew_;(first | rw [← Ny110.out] at ho26 | (simp only [Int.reduceToNat] at ho26;rw [← Ny110.out] at ho26));have n0_:=Aside0.mk (Kd.R_below (pR_ HO103.out) hb);have n1_:=Aside0.mk (Kd.N_lower ho26 (below_size bel_));have n2_:=Aside0.mk (below_step bel_ hb);clear HO103;clear HB;clear HO106;clear HO109;have HO103:=n0_;have HO112:=n1_;have HB:=n2_;clear n0_ n1_ n2_;clear hb ho26;obtain ⟨Ao27,co27,eo27⟩:=Kd.R_slice HO103.out;subst eo27;obtain ⟨Ao28,co28,eo28⟩:=Kd.N_slice HO112.out;subst eo28) | ((with_reducible refine gate_callee (f:=18) rfl ?_);refine goesL_ (some 15) rfl rfl Tryz.func18 (by kernel_rfl) rfl #[.slice Ao27 y101.length co27, .slice Ao28 y110.length co28, .agg #[.int .i64 0, .bool false]] rfl (by (try simp only [List.map_toArray,List.map_cons,List.map_nil]);first | done | rfl | (simp only [List.length_drop,List.length_take];rfl)) ?_;(with_reducible refine (merge_Merge.calls (fun k_=>some k_=(.slice Ao27 y101.length co27:Value).ownBlock) _ _ y101 (fun k_=>some k_≠(.slice Ao27 y101.length co27:Value).ownBlock) _ _ y110 0 false t113 t116 _ ?side1 ?side2 A1.out).mono ?_);(case side1=>exact Kd.R_V (Kd.R_tight rfl (Kd.R_apart' (HO103.out) (Kd.N_typed HO112.out) (by decide))));(case side2=>exact Kd.N_V (HO112.out));rintro e w29 ⟨v114,rfl,ho0,hb⟩;refine ⟨_,rfl,?_⟩;have n0_:=Aside0.mk (Kd.R_below (pR_ HO103.out) hb);have n1_:=Aside0.mk (Kd.N_elder' (by (with_reducible repeat (first | apply Kd.N_alloc | apply Kd.N_drewN | apply Kd.N_drew));exact HO112.out) (Kd.N_base ho0) hb);have n2_:=Aside0.mk (Kd.N_lower (Kd.N_mono (ok':=fun k_=>True) ho0 (fun k_ hk_=>trivial)) (below_size bel_));have n3_:=Aside0.mk (below_step bel_ hb);clear HO103;clear HO112;clear HB;have HO103:=n0_;have HO112:=n1_;have HO115:=n2_;have HB:=n3_;clear n0_ n1_ n2_ n3_;(try clear hb);(try clear hb2);(try clear hk);(try clear hi);(try clear ho0)) | ((with_reducible refine gate_dst (N:=20) rfl ?_);(try (refine gate_guard (by rfl) ?_;dsimp only));refine Kd.R_lit Kd.string _ 9 ?hg (N:=20) ?hd (xs:=([(⟨#[120,10]⟩:ByteArray),(⟨#[98,10]⟩:ByteArray),(⟨#[99,10]⟩:ByteArray)]:List ByteArray)) (inner:=[.string (⟨#[120,10]⟩:ByteArray), .string (⟨#[98,10]⟩:ByteArray), .string (⟨#[99,10]⟩:ByteArray)]) (ok:=fun _=>True) (okp:=fun _=>True) ?hr ?hp (fun _ hk=>hk) trivial (Below.refl _ _) (Nat.le_refl _) (by simp) ?_;(case hd=>rfl);(case hg=>rfl);(case hr=>first | (go_simp;done) | (go_simp;rfl));(case hp=>exact (Reps.one (show Kd.M Kd.string _ _ _ (⟨#[120,10]⟩:ByteArray) [.string (⟨#[120,10]⟩:ByteArray)] from rfl) (Reps.one (show Kd.M Kd.string _ _ _ (⟨#[98,10]⟩:ByteArray) [.string (⟨#[98,10]⟩:ByteArray)] from rfl) (Reps.one (show Kd.M Kd.string _ _ _ (⟨#[99,10]⟩:ByteArray) [.string (⟨#[99,10]⟩:ByteArray)] from rfl) (Reps.none _ _)))));intro v118 w30 ho31 hb hg_ hnew_;clear hg_ hnew_;(first | rw [← Ny117.out] at ho31 | (simp only [Int.reduceToNat] at ho31;rw [← Ny117.out] at ho31));have n0_:=Aside0.mk (Kd.R_elder' (pR_ HO103.out) (Kd.R_base ho31) hb);have n1_:=Aside0.mk (Kd.N_elder' (by (with_reducible repeat (first | apply Kd.N_alloc | apply Kd.N_drewN | apply Kd.N_drew));exact HO112.out) (Kd.R_base ho31) hb);have n2_:=Aside0.mk (Kd.N_elder' (by (with_reducible repeat (first | apply Kd.N_alloc | apply Kd.N_drewN | apply Kd.N_drew));exact HO115.out) (Kd.R_base ho31) hb);have n3_:=Aside0.mk (Kd.R_lower (Kd.R_new' ho31 (Kd.R_lt (pR_ HO103.out))) (below_size bel_));have n4_:=Aside0.mk (below_step bel_ hb);clear HO103;clear HO112;clear HO115;clear HB;have HO103:=n0_;have HO112:=n1_;have HO115:=n2_;have HO119:=n3_;have HB:=n4_;clear n0_ n1_ n2_ n3_ n4_;clear hb ho31) | ((with_reducible refine gate_dst (N:=21) rfl ?_);(try (refine gate_guard (by rfl) ?_;dsimp only));refine Kd.R_lit Kd.string _ 9 ?hg (N:=21) ?hd (xs:=([(⟨#[122,10]⟩:ByteArray),(⟨#[98,10]⟩:ByteArray),(⟨#[121,10]⟩:ByteArray)]:List ByteArray)) (inner:=[.string (⟨#[122,10]⟩:ByteArray), .string (⟨#[98,10]⟩:ByteArray), .string (⟨#[121,10]⟩:ByteArray)]) (ok:=fun _=>True) (okp:=fun _=>True) ?hr ?hp (fun _ hk=>hk) trivial (Below.refl _ _) (Nat.le_refl _) (by simp) ?_;(case hd=>rfl);(case hg=>rfl);(case hr=>first | (go_simp;done) | (go_simp;rfl));(case hp=>exact (Reps.one (show Kd.M Kd.string _ _ _ (⟨#[122,10]⟩:ByteArray) [.string (⟨#[122,10]⟩:ByteArray)] from rfl) (Reps.one (show Kd.M Kd.string _ _ _ (⟨#[98,10]⟩:ByteArray) [.string (⟨#[98,10]⟩:ByteArray)] from rfl) (Reps.one (show Kd.M Kd.string _ _ _ (⟨#[121,10]⟩:ByteArray) [.string (⟨#[121,10]⟩:ByteArray)] from rfl) (Reps.none _ _)))));intro v121 w32 ho33 hb hg_ hnew_;clear hg_ hnew_;(first | rw [← Ny120.out] at ho33 | (simp only [Int.reduceToNat] at ho33;rw [← Ny120.out] at ho33));have n0_:=Aside0.mk (Kd.R_elder' (pR_ HO103.out) (Kd.R_base ho33) hb);have n1_:=Aside0.mk (Kd.N_elder' (by (with_reducible repeat (first | apply Kd.N_alloc | apply Kd.N_drewN | apply Kd.N_drew));exact HO112.out) (Kd.R_base ho33) hb);have n2_:=Aside0.mk (Kd.N_elder' (by (with_reducible repeat (first | apply Kd.N_alloc | apply Kd.N_drewN | apply Kd.N_drew));exact HO115.out) (Kd.R_base ho33) hb);have n3_:=Aside0.mk (Kd.R_elder' (pR_ HO119.out) (Kd.R_base ho33) hb);have n4_:=Aside0.mk (Kd.R_lower (Kd.R_new' (Kd.R_new' ho33 (Kd.R_lt (pR_ HO103.out))) (Kd.R_lt (pR_ HO119.out))) (below_size bel_));have n5_:=Aside0.mk (below_step bel_ hb);clear HO103;clear HO112;clear HO115;clear HO119;clear HB;have HO103:=n0_;have HO112:=n1_;have HO115:=n2_;have HO119:=n3_;have HO122:=n4_;have HB:=n5_;clear n0_ n1_ n2_ n3_ n4_ n5_;clear hb ho33;obtain ⟨Ao34,co34,eo34⟩:=Kd.R_slice HO119.out;subst eo34;obtain ⟨Ao35,co35,eo35⟩:=Kd.R_slice HO122.out;subst eo35) | ((with_reducible refine gate_dst (N:=22) rfl ?_);(try (refine gate_guard (by rfl) ?_;dsimp only));refine Kd.N_lit (Kd.slice 9 Kd.string) _ 22 ?hg (N':=22) ?hd (xs:=([y117,y120]:List (List ByteArray))) (inner:=[.slice Ao34 y117.length co34, .slice Ao35 y120.length co35]) (ok:=(fun k_=>some k_≠(.slice Ao27 y101.length co27:Value).ownBlock∧some k_≠(.slice Ao28 y110.length co28:Value).ownBlock∧some k_≠(v114:Value).ownBlock)) (okp:=(fun k_=>some k_≠(.slice Ao27 y101.length co27:Value).ownBlock∧some k_≠(.slice Ao28 y110.length co28:Value).ownBlock∧some k_≠(v114:Value).ownBlock)) ?hr ?hp (fun _ hk=>hk) ((show ∀ k_,w32.heap.size≤k_→(fun k_=>some k_≠(.slice Ao27 y101.length co27:Value).ownBlock∧some k_≠(.slice Ao28 y110.length co28:Value).ownBlock∧some k_≠(v114:Value).ownBlock) k_ from fun k_ hk=>⟨Kd.fresh' (Kd.R_lt (pR_ HO103.out)) k_ hk,Kd.fresh' (Kd.N_lt (by (with_reducible repeat (first | apply Kd.N_alloc | apply Kd.N_drewN | apply Kd.N_drew));exact HO112.out)) k_ hk,Kd.fresh' (Kd.N_lt (by (with_reducible repeat (first | apply Kd.N_alloc | apply Kd.N_drewN | apply Kd.N_drew));exact HO115.out)) k_ hk⟩) _ (Nat.le_refl _)) (Below.refl _ _) (Nat.le_refl _) (by simp) ?_;(case hd=>rfl);(case hg=>rfl);(case hr=>first | (go_simp;done) | (go_simp;rfl));(case hp=>exact (Reps.one (show Kd.FK (Kd.slice 9 Kd.string) _ _ y117 [.slice Ao34 y117.length co34] from (Kd.FK_slice_mk (Kd.R_reads' (Kd.R_mono (ok':=(fun k_=>some k_≠(.slice Ao27 y101.length co27:Value).ownBlock∧some k_≠(.slice Ao28 y110.length co28:Value).ownBlock∧some k_≠(v114:Value).ownBlock)) (Kd.R_apart' (Kd.R_apart' (HO119.out) (Kd.N_typed HO112.out) (by decide)) (Kd.N_typed HO115.out) (by decide)) (fun k_ hk=>⟨hk.1.1.1.2,⟨hk.1.2,hk.2⟩⟩))).2.1 (Kd.R_F (Kd.R_mono (ok':=(fun k_=>some k_≠(.slice Ao27 y101.length co27:Value).ownBlock∧some k_≠(.slice Ao28 y110.length co28:Value).ownBlock∧some k_≠(v114:Value).ownBlock)) (Kd.R_apart' (Kd.R_apart' (HO119.out) (Kd.N_typed HO112.out) (by decide)) (Kd.N_typed HO115.out) (by decide)) (fun k_ hk=>⟨hk.1.1.1.2,⟨hk.1.2,hk.2⟩⟩))))) (Reps.one (show Kd.FK (Kd.slice 9 Kd.string) _ _ y120 [.slice Ao35 y120.length co35] from (Kd.FK_slice_mk (Kd.R_reads' (Kd.R_mono (ok':=(fun k_=>some k_≠(.slice Ao27 y101.length co27:Value).ownBlock∧some k_≠(.slice Ao28 y110.length co28:Value).ownBlock∧some k_≠(v114:Value).ownBlock)) (Kd.R_apart' (Kd.R_apart' (HO122.out) (Kd.N_typed HO112.out) (by decide)) (Kd.N_typed HO115.out) (by decide)) (fun k_ hk=>⟨hk.1.1.1.2,⟨hk.1.2,hk.2⟩⟩))).2.1 (Kd.R_F (Kd.R_mono (ok':=(fun k_=>some k_≠(.slice Ao27 y101.length co27:Value).ownBlock∧some k_≠(.slice Ao28 y110.length co28:Value).ownBlock∧some k_≠(v114:Value).ownBlock)) (Kd.R_apart' (Kd.R_apart' (HO122.out) (Kd.N_typed HO112.out) (by decide)) (Kd.N_typed HO115.out) (by decide)) (fun k_ hk=>⟨hk.1.1.1.2,⟨hk.1.2,hk.2⟩⟩))))) (Reps.none _ _))));intro v124 w36 ho37 hb hg_ hnew_;clear hg_ hnew_;(first | rw [← Ny123.out] at ho37 | (simp only [Int.reduceToNat] at ho37;rw [← Ny123.out] at ho37));have n0_:=Aside0.mk (Kd.R_below (pR_ HO103.out) hb);have n1_:=Aside0.mk (Kd.N_elder' (by (with_reducible repeat (first | apply Kd.N_alloc | apply Kd.N_drewN | apply Kd.N_drew));exact HO112.out) (Kd.N_base ho37) hb);have n2_:=Aside0.mk (Kd.N_elder' (by (with_reducible repeat (first | apply Kd.N_alloc | apply Kd.N_drewN | apply Kd.N_drew));exact HO115.out) (Kd.N_base ho37) hb);have n3_:=Aside0.mk (Kd.N_lower ho37 (below_size bel_));have n4_:=Aside0.mk (below_step bel_ hb);clear HO103;clear HO112;clear HO115;clear HB;clear HO119;clear HO122;have HO103:=n0_;have HO112:=n1_;have HO115:=n2_;have HO125:=n3_;have HB:=n4_;clear n0_ n1_ n2_ n3_ n4_;clear hb ho37;obtain ⟨Ao38,co38,eo38⟩:=Kd.N_slice HO125.out;subst eo38) | ((with_reducible refine gate_callee (f:=18) rfl ?_);refine goesL_ (some 24) rfl rfl Tryz.func18 (by kernel_rfl) rfl #[.slice Ao27 y101.length co27, .slice Ao38 y123.length co38, .agg #[.int .i64 0, .bool false]] rfl (by (try simp only [List.map_toArray,List.map_cons,List.map_nil]);first | done | rfl | (simp only [List.length_drop,List.length_take];rfl)) ?_;(with_reducible refine (merge_Merge.calls (fun k_=>some k_=(.slice Ao27 y101.length co27:Value).ownBlock) _ _ y101 (fun k_=>(some k_≠(.slice Ao27 y101.length co27:Value).ownBlock∧(some k_≠(.slice Ao28 y110.length co28:Value).ownBlock∧some k_≠(v114:Value).ownBlock))) _ _ y123 0 false t126 t129 _ ?side1 ?side2 A2.out).mono ?_);(case side1=>exact Kd.R_V (Kd.R_tight rfl (Kd.R_apart' (Kd.R_apart' (Kd.R_apart' (HO103.out) (Kd.N_typed HO112.out) (by decide)) (Kd.N_typed HO115.out) (by decide)) (Kd.N_typed HO125.out) (by decide))));(case side2=>exact Kd.N_V (HO125.out));rintro e w39 ⟨v127,rfl,ho0,hb⟩;refine ⟨_,rfl,?_⟩;have n0_:=Aside0.mk (Kd.R_below (pR_ HO103.out) hb);have n1_:=Aside0.mk (Kd.N_elder' (by (with_reducible repeat (first | apply Kd.N_alloc | apply Kd.N_drewN | apply Kd.N_drew));exact HO112.out) (Kd.N_base ho0) hb);have n2_:=Aside0.mk (Kd.N_elder' (by (with_reducible repeat (first | apply Kd.N_alloc | apply Kd.N_drewN | apply Kd.N_drew));exact HO115.out) (Kd.N_base ho0) hb);have n3_:=Aside0.mk (Kd.N_elder' (by (with_reducible repeat (first | apply Kd.N_alloc | apply Kd.N_drewN | apply Kd.N_drew));exact HO125.out) (Kd.N_base ho0) hb);have n4_:=Aside0.mk (Kd.N_lower (Kd.N_mono (ok':=fun k_=>some k_≠(.slice Ao28 y110.length co28:Value).ownBlock∧some k_≠(v114:Value).ownBlock) ho0 (fun k_ hk_=>⟨Or.elim hk_ (fun hs_=>Or.elim hs_ (fun hs_=>((Kd.R_apart' (Kd.R_apart' (Kd.R_apart' (HO103.out) (Kd.N_typed HO112.out) (by decide)) (Kd.N_typed HO115.out) (by decide)) (Kd.N_typed HO125.out) (by decide)).1 k_ hs_.symm).1.1.2) (fun hs_=>hs_.2.1)) (fun hn_=>(Kd.fresh' (Kd.N_lt (by (with_reducible repeat (first | apply Kd.N_alloc | apply Kd.N_drewN | apply Kd.N_drew));exact HO112.out)) k_ hn_)),Or.elim hk_ (fun hs_=>Or.elim hs_ (fun hs_=>((Kd.R_apart' (Kd.R_apart' (Kd.R_apart' (HO103.out) (Kd.N_typed HO112.out) (by decide)) (Kd.N_typed HO115.out) (by decide)) (Kd.N_typed HO125.out) (by decide)).1 k_ hs_.symm).1.2) (fun hs_=>hs_.2.2)) (fun hn_=>(Kd.fresh' (Kd.N_lt (by (with_reducible repeat (first | apply Kd.N_alloc | apply Kd.N_drewN | apply Kd.N_drew));exact HO115.out)) k_ hn_))⟩)) (below_size bel_));have n5_:=Aside0.mk (below_step bel_ hb);clear HO103;clear HO112;clear HO115;clear HO125;clear HB;have HO103:=n0_;have HO112:=n1_;have HO115:=n2_;have HO125:=n3_;have HO128:=n4_;have HB:=n5_;clear n0_ n1_ n2_ n3_ n4_ n5_;(try clear hb);(try clear hb2);(try clear hk);(try clear hi);(try clear ho0)) | ((with_reducible refine gate_callee (f:=18) rfl ?_);refine goesL_ (some 30) rfl rfl Tryz.func18 (by kernel_rfl) rfl #[.slice Ao27 y101.length co27, .slice none 0 0, .agg #[.int .i64 0, .bool false]] rfl (by (try simp only [List.map_toArray,List.map_cons,List.map_nil]);first | done | rfl | (simp only [List.length_drop,List.length_take];rfl)) ?_;(refine (merge_Merge.calls (fun k_=>some k_=(.slice Ao27 y101.length co27:Value).ownBlock) _ _ y101 (fun k_=>False) _ _ ([]:List (List ByteArray)) 0 false t130 t133 _ ?side1 ?side2 A3.out).mono ?_);(case side1=>exact Kd.R_V (Kd.R_tight rfl (Kd.R_apart' (Kd.R_apart' (Kd.R_apart' (Kd.R_apart' (HO103.out) (Kd.N_typed HO112.out) (by decide)) (Kd.N_typed HO115.out) (by decide)) (Kd.N_typed HO125.out) (by decide)) (Kd.N_typed HO128.out) (by decide))));(case side2=>exact Kd.V_nil _ _ _ _ _);rintro e w40 ⟨v131,rfl,ho0,hb⟩;refine ⟨_,rfl,?_⟩;have n0_:=Aside0.mk (Kd.R_below (pR_ HO103.out) hb);have n1_:=Aside0.mk (Kd.N_elder' (by (with_reducible repeat (first | apply Kd.N_alloc | apply Kd.N_drewN | apply Kd.N_drew));exact HO112.out) (Kd.N_base ho0) hb);have n2_:=Aside0.mk (Kd.N_elder' (by (with_reducible repeat (first | apply Kd.N_alloc | apply Kd.N_drewN | apply Kd.N_drew));exact HO115.out) (Kd.N_base ho0) hb);have n3_:=Aside0.mk (Kd.N_elder' (by (with_reducible repeat (first | apply Kd.N_alloc | apply Kd.N_drewN | apply Kd.N_drew));exact HO125.out) (Kd.N_base ho0) hb);have n4_:=Aside0.mk (Kd.N_elder' (by (with_reducible repeat (first | apply Kd.N_alloc | apply Kd.N_drewN | apply Kd.N_drew));exact HO128.out) (Kd.N_base ho0) hb);have n5_:=Aside0.mk (Kd.N_lower (Kd.N_mono (ok':=fun k_=>some k_≠(.slice Ao28 y110.length co28:Value).ownBlock∧some k_≠(v114:Value).ownBlock∧some k_≠(.slice Ao38 y123.length co38:Value).ownBlock∧some k_≠(v127:Value).ownBlock) ho0 (fun k_ hk_=>⟨Or.elim hk_ (fun hs_=>Or.elim hs_ (fun hs_=>((Kd.R_apart' (Kd.R_apart' (Kd.R_apart' (Kd.R_apart' (HO103.out) (Kd.N_typed HO112.out) (by decide)) (Kd.N_typed HO115.out) (by decide)) (Kd.N_typed HO125.out) (by decide)) (Kd.N_typed HO128.out) (by decide)).1 k_ hs_.symm).1.1.1.2) (fun hs_=>(hs_).elim)) (fun hn_=>(Kd.fresh' (Kd.N_lt (by (with_reducible repeat (first | apply Kd.N_alloc | apply Kd.N_drewN | apply Kd.N_drew));exact HO112.out)) k_ hn_)),Or.elim hk_ (fun hs_=>Or.elim hs_ (fun hs_=>((Kd.R_apart' (Kd.R_apart' (Kd.R_apart' (Kd.R_apart' (HO103.out) (Kd.N_typed HO112.out) (by decide)) (Kd.N_typed HO115.out) (by decide)) (Kd.N_typed HO125.out) (by decide)) (Kd.N_typed HO128.out) (by decide)).1 k_ hs_.symm).1.1.2) (fun hs_=>(hs_).elim)) (fun hn_=>(Kd.fresh' (Kd.N_lt (by (with_reducible repeat (first | apply Kd.N_alloc | apply Kd.N_drewN | apply Kd.N_drew));exact HO115.out)) k_ hn_)),Or.elim hk_ (fun hs_=>Or.elim hs_ (fun hs_=>((Kd.R_apart' (Kd.R_apart' (Kd.R_apart' (Kd.R_apart' (HO103.out) (Kd.N_typed HO112.out) (by decide)) (Kd.N_typed HO115.out) (by decide)) (Kd.N_typed HO125.out) (by decide)) (Kd.N_typed HO128.out) (by decide)).1 k_ hs_.symm).1.2) (fun hs_=>(hs_).elim)) (fun hn_=>(Kd.fresh' (Kd.N_lt (by (with_reducible repeat (first | apply Kd.N_alloc | apply Kd.N_drewN | apply Kd.N_drew));exact HO125.out)) k_ hn_)),Or.elim hk_ (fun hs_=>Or.elim hs_ (fun hs_=>((Kd.R_apart' (Kd.R_apart' (Kd.R_apart' (Kd.R_apart' (HO103.out) (Kd.N_typed HO112.out) (by decide)) (Kd.N_typed HO115.out) (by decide)) (Kd.N_typed HO125.out) (by decide)) (Kd.N_typed HO128.out) (by decide)).1 k_ hs_.symm).2) (fun hs_=>(hs_).elim)) (fun hn_=>(Kd.fresh' (Kd.N_lt (by (with_reducible repeat (first | apply Kd.N_alloc | apply Kd.N_drewN | apply Kd.N_drew));exact HO128.out)) k_ hn_))⟩)) (below_size bel_));have n6_:=Aside0.mk (below_step bel_ hb);clear HO103;clear HO112;clear HO115;clear HO125;clear HO128;clear HB;have HO103:=n0_;have HO112:=n1_;have HO115:=n2_;have HO125:=n3_;have HO128:=n4_;have HO132:=n5_;have HB:=n6_;clear n0_ n1_ n2_ n3_ n4_ n5_ n6_;(try clear hb);(try clear hb2);(try clear hk);(try clear hi);(try clear ho0);obtain ⟨Ao41,co41,eo41⟩:=Kd.N_slice HO115.out;subst eo41;have p134:0≤(0:Int):=(by omega);have q134:0 < (t113.length:Int):=dt_;obtain ⟨ad134,A134_1,c134_1,A134_2,c134_2,A134_3,c134_3,e134,hx134_0,hx134_1,hx134_2,hx134_3,hl134_1,hi134_1,hl134_2,hi134_2,hl134_3,hi134_3⟩:=at_T66 (Kd.N_reads' HO115.out).2.2 0 p134 q134;(try rw [← Nbq14.out] at hx134_0);cases e134;obtain ⟨ce134,hce134,hMe134,hcc134⟩:=Kd.N_get HO115.out z66 0 p134 (by first | exact q134 | exact dt_ | (have e_:=(Kd.N_reads' HO115.out).1;omega));obtain ⟨ua134_1,uc134_1,ua134_2,uc134_2,ua134_3,uc134_3,rfl,ul134_1,ge134_1,ul134_2,ge134_2,ul134_3,ge134_3⟩:=k66_openF hMe134;have hv134_1:=hcc134 1 _ rfl;rw [add_field _ _ 1 (by omega)] at hv134_1;replace hv134_1:=Option.some.inj (hv134_1.symm.trans hx134_1);injection hv134_1 with hva_ hvn_ hvc_;rw [hva_] at ge134_1;rw [hvc_] at ul134_1;have HL134_1:=Aside0.mk (show Kd.V Kd.string 9 _ w.heap.size _ _ ((rd_T66 t113 0).f1) from Kd.V_mk ul134_1 ge134_1);clear hva_ hvn_ hvc_ ge134_1 ul134_1;have hv134_2:=hcc134 2 _ rfl;rw [add_field _ _ 2 (by omega)] at hv134_2;replace hv134_2:=Option.some.inj (hv134_2.symm.trans hx134_2);injection hv134_2 with hva_ hvn_ hvc_;rw [hva_] at ge134_2;rw [hvc_] at ul134_2;have HL134_2:=Aside0.mk (show Kd.V Kd.string 9 _ w.heap.size _ _ ((rd_T66 t113 0).f2) from Kd.V_mk ul134_2 ge134_2);clear hva_ hvn_ hvc_ ge134_2 ul134_2;have hv134_3:=hcc134 3 _ rfl;rw [add_field _ _ 3 (by omega)] at hv134_3;replace hv134_3:=Option.some.inj (hv134_3.symm.trans hx134_3);injection hv134_3 with hva_ hvn_ hvc_;rw [hva_] at ge134_3;rw [hvc_] at ul134_3;have HL134_3:=Aside0.mk (show Kd.V (Kd.slice 9 Kd.string) 22 _ w.heap.size _ _ ((rd_T66 t113 0).f3) from Kd.V_mk ul134_3 ge134_3);clear hva_ hvn_ hvc_ ge134_3 ul134_3;clear hcc134 hce134;have qi134:(0 < t113.length)=True:=eq_true (by omega);(try rw [show ((0:Int)).toNat=0 from rfl] at hx134_0);(try rw [show 0 * 4=0 from rfl] at hx134_0);(try rw [Addr.add_zero'] at hx134_0);(try rw [show ((0:Int)).toNat=0 from rfl] at hx134_1);(try rw [show 0 * 4=0 from rfl] at hx134_1);(try rw [Addr.add_zero'] at hx134_1);(try rw [show ((0:Int)).toNat=0 from rfl] at hx134_2);(try rw [show 0 * 4=0 from rfl] at hx134_2);(try rw [Addr.add_zero'] at hx134_2);(try rw [show ((0:Int)).toNat=0 from rfl] at hx134_3);(try rw [show 0 * 4=0 from rfl] at hx134_3);(try rw [Addr.add_zero'] at hx134_3);have HR134_1:=Aside0.mk hi134_1;have HC134_1:=Aside0.mk hl134_1;clear hi134_1 hl134_1;have HR134_2:=Aside0.mk hi134_2;have HC134_2:=Aside0.mk hl134_2;clear hi134_2 hl134_2;have HR134_3:=Aside0.mk hi134_3;have HC134_3:=Aside0.mk hl134_3;clear hi134_3 hl134_3;replace p134:=eq_true p134;replace q134:=eq_true q134;have p135:0≤(0:Int):=(by omega);have q135:0 < (t113.length:Int):=dt_;obtain ⟨ad135,A135_1,c135_1,A135_2,c135_2,A135_3,c135_3,e135,hx135_0,hx135_1,hx135_2,hx135_3,hl135_1,hi135_1,hl135_2,hi135_2,hl135_3,hi135_3⟩:=at_T66 (Kd.N_reads' HO115.out).2.2 0 p135 q135;(try rw [← Nbq14.out] at hx135_0);obtain rfl:ad134=ad135:=(by injection e135);obtain ⟨ce135,hce135,hMe135,hcc135⟩:=Kd.N_get HO115.out z66 0 p135 (by first | exact q135 | exact dt_ | (have e_:=(Kd.N_reads' HO115.out).1;omega));obtain ⟨ua135_1,uc135_1,ua135_2,uc135_2,ua135_3,uc135_3,rfl,ul135_1,ge135_1,ul135_2,ge135_2,ul135_3,ge135_3⟩:=k66_openF hMe135;have hv135_1:=hcc135 1 _ rfl;rw [add_field _ _ 1 (by omega)] at hv135_1;replace hv135_1:=Option.some.inj (hv135_1.symm.trans hx135_1);injection hv135_1 with hva_ hvn_ hvc_;rw [hva_] at ge135_1;rw [hvc_] at ul135_1;have HL135_1:=Aside0.mk (show Kd.V Kd.string 9 _ w.heap.size _ _ ((rd_T66 t113 0).f1) from Kd.V_mk ul135_1 ge135_1);clear hva_ hvn_ hvc_ ge135_1 ul135_1;have hv135_2:=hcc135 2 _ rfl;rw [add_field _ _ 2 (by omega)] at hv135_2;replace hv135_2:=Option.some.inj (hv135_2.symm.trans hx135_2);injection hv135_2 with hva_ hvn_ hvc_;rw [hva_] at ge135_2;rw [hvc_] at ul135_2;have HL135_2:=Aside0.mk (show Kd.V Kd.string 9 _ w.heap.size _ _ ((rd_T66 t113 0).f2) from Kd.V_mk ul135_2 ge135_2);clear hva_ hvn_ hvc_ ge135_2 ul135_2;have hv135_3:=hcc135 3 _ rfl;rw [add_field _ _ 3 (by omega)] at hv135_3;replace hv135_3:=Option.some.inj (hv135_3.symm.trans hx135_3);injection hv135_3 with hva_ hvn_ hvc_;rw [hva_] at ge135_3;rw [hvc_] at ul135_3;have HL135_3:=Aside0.mk (show Kd.V (Kd.slice 9 Kd.string) 22 _ w.heap.size _ _ ((rd_T66 t113 0).f3) from Kd.V_mk ul135_3 ge135_3);clear hva_ hvn_ hvc_ ge135_3 ul135_3;clear hcc135 hce135;have qi135:(0 < t113.length)=True:=eq_true (by omega);(try rw [show ((0:Int)).toNat=0 from rfl] at hx135_0);(try rw [show 0 * 4=0 from rfl] at hx135_0);(try rw [Addr.add_zero'] at hx135_0);(try rw [show ((0:Int)).toNat=0 from rfl] at hx135_1);(try rw [show 0 * 4=0 from rfl] at hx135_1);(try rw [Addr.add_zero'] at hx135_1);(try rw [show ((0:Int)).toNat=0 from rfl] at hx135_2);(try rw [show 0 * 4=0 from rfl] at hx135_2);(try rw [Addr.add_zero'] at hx135_2);(try rw [show ((0:Int)).toNat=0 from rfl] at hx135_3);(try rw [show 0 * 4=0 from rfl] at hx135_3);(try rw [Addr.add_zero'] at hx135_3);have HR135_1:=Aside0.mk hi135_1;have HC135_1:=Aside0.mk hl135_1;clear hi135_1 hl135_1;have HR135_2:=Aside0.mk hi135_2;have HC135_2:=Aside0.mk hl135_2;clear hi135_2 hl135_2;have HR135_3:=Aside0.mk hi135_3;have HC135_3:=Aside0.mk hl135_3;clear hi135_3 hl135_3;replace p135:=eq_true p135;replace q135:=eq_true q135;have ea_:=Option.some.inj (hx134_1.symm.trans hx135_1);injection ea_ with ea_ en_ ec_;subst ea_;subst ec_;clear en_;have ea_:=Option.some.inj (hx134_2.symm.trans hx135_2);injection ea_ with ea_ en_ ec_;subst ea_;subst ec_;clear en_;have ea_:=Option.some.inj (hx134_3.symm.trans hx135_3);injection ea_ with ea_ en_ ec_;subst ea_;subst ec_;clear en_;have p136:0≤(2:Int):=(by omega);have q136:2 < (((rd_T66 t113 0).f1).length:Int):=dt_;obtain ⟨ad136,e136,hx136_0⟩:=Kd.at_string (by repeat (first | (with_reducible exact HR135_1.out) | (with_reducible refine Kd.C_alloc ?_ _) | (with_reducible refine Kd.C_drewN ?_ _) | (with_reducible refine Kd.C_drew ?_) | exact HR135_1.out)) 2 p136 q136;cases e136;(try simp only [show (2:Int).toNat=2 from rfl,Nat.reduceMul,Nat.reduceEqDiff,Go.Addr.add, ↓reduceIte] at hx136_0);have qi136:(2 < ((rd_T66 t113 0).f1).length)=True:=eq_true (by omega);(try rw [show ((2:Int)).toNat=2 from rfl] at hx136_0);replace p136:=eq_true p136;replace q136:=eq_true q136;obtain ⟨Ao42,co42,eo42⟩:=Kd.N_slice HO128.out;subst eo42;have p137:0≤(0:Int):=(by omega);have q137:0 < (t126.length:Int):=dt_;obtain ⟨ad137,A137_1,c137_1,A137_2,c137_2,A137_3,c137_3,e137,hx137_0,hx137_1,hx137_2,hx137_3,hl137_1,hi137_1,hl137_2,hi137_2,hl137_3,hi137_3⟩:=at_T66 (Kd.N_reads' HO128.out).2.2 0 p137 q137;(try rw [← Nbq14.out] at hx137_0);cases e137;obtain ⟨ce137,hce137,hMe137,hcc137⟩:=Kd.N_get HO128.out z66 0 p137 (by first | exact q137 | exact dt_ | (have e_:=(Kd.N_reads' HO128.out).1;omega));obtain ⟨ua137_1,uc137_1,ua137_2,uc137_2,ua137_3,uc137_3,rfl,ul137_1,ge137_1,ul137_2,ge137_2,ul137_3,ge137_3⟩:=k66_openF hMe137;have hv137_1:=hcc137 1 _ rfl;rw [add_field _ _ 1 (by omega)] at hv137_1;replace hv137_1:=Option.some.inj (hv137_1.symm.trans hx137_1);injection hv137_1 with hva_ hvn_ hvc_;rw [hva_] at ge137_1;rw [hvc_] at ul137_1;have HL137_1:=Aside0.mk (show Kd.V Kd.string 9 _ w.heap.size _ _ ((rd_T66 t126 0).f1) from Kd.V_mk ul137_1 ge137_1);clear hva_ hvn_ hvc_ ge137_1 ul137_1;have hv137_2:=hcc137 2 _ rfl;rw [add_field _ _ 2 (by omega)] at hv137_2;replace hv137_2:=Option.some.inj (hv137_2.symm.trans hx137_2);injection hv137_2 with hva_ hvn_ hvc_;rw [hva_] at ge137_2;rw [hvc_] at ul137_2;have HL137_2:=Aside0.mk (show Kd.V Kd.string 9 _ w.heap.size _ _ ((rd_T66 t126 0).f2) from Kd.V_mk ul137_2 ge137_2);clear hva_ hvn_ hvc_ ge137_2 ul137_2;have hv137_3:=hcc137 3 _ rfl;rw [add_field _ _ 3 (by omega)] at hv137_3;replace hv137_3:=Option.some.inj (hv137_3.symm.trans hx137_3);injection hv137_3 with hva_ hvn_ hvc_;rw [hva_] at ge137_3;rw [hvc_] at ul137_3;have HL137_3:=Aside0.mk (show Kd.V (Kd.slice 9 Kd.string) 22 _ w.heap.size _ _ ((rd_T66 t126 0).f3) from Kd.V_mk ul137_3 ge137_3);clear hva_ hvn_ hvc_ ge137_3 ul137_3;clear hcc137 hce137;have qi137:(0 < t126.length)=True:=eq_true (by omega);(try rw [show ((0:Int)).toNat=0 from rfl] at hx137_0);(try rw [show 0 * 4=0 from rfl] at hx137_0);(try rw [Addr.add_zero'] at hx137_0);(try rw [show ((0:Int)).toNat=0 from rfl] at hx137_1);(try rw [show 0 * 4=0 from rfl] at hx137_1);(try rw [Addr.add_zero'] at hx137_1);(try rw [show ((0:Int)).toNat=0 from rfl] at hx137_2);(try rw [show 0 * 4=0 from rfl] at hx137_2);(try rw [Addr.add_zero'] at hx137_2);(try rw [show ((0:Int)).toNat=0 from rfl] at hx137_3);(try rw [show 0 * 4=0 from rfl] at hx137_3);(try rw [Addr.add_zero'] at hx137_3);have HR137_1:=Aside0.mk hi137_1;have HC137_1:=Aside0.mk hl137_1;clear hi137_1 hl137_1;have HR137_2:=Aside0.mk hi137_2;have HC137_2:=Aside0.mk hl137_2;clear hi137_2 hl137_2;have HR137_3:=Aside0.mk hi137_3;have HC137_3:=Aside0.mk hl137_3;clear hi137_3 hl137_3;replace p137:=eq_true p137;replace q137:=eq_true q137;have p138:0≤(1:Int):=(by omega);have q138:1 < (t126.length:Int):=dt_;obtain ⟨ad138,A138_1,c138_1,A138_2,c138_2,A138_3,c138_3,e138,hx138_0,hx138_1,hx138_2,hx138_3,hl138_1,hi138_1,hl138_2,hi138_2,hl138_3,hi138_3⟩:=at_T66 (Kd.N_reads' HO128.out).2.2 1 p138 q138;(try rw [← Nbq14.out] at hx138_0);obtain rfl:ad137=ad138:=(by injection e138);obtain ⟨ce138,hce138,hMe138,hcc138⟩:=Kd.N_get HO128.out z66 1 p138 (by first | exact q138 | exact dt_ | (have e_:=(Kd.N_reads' HO128.out).1;omega));obtain ⟨ua138_1,uc138_1,ua138_2,uc138_2,ua138_3,uc138_3,rfl,ul138_1,ge138_1,ul138_2,ge138_2,ul138_3,ge138_3⟩:=k66_openF hMe138;have hv138_1:=hcc138 1 _ rfl;rw [add_field _ _ 1 (by omega)] at hv138_1;replace hv138_1:=Option.some.inj (hv138_1.symm.trans hx138_1);injection hv138_1 with hva_ hvn_ hvc_;rw [hva_] at ge138_1;rw [hvc_] at ul138_1;have HL138_1:=Aside0.mk (show Kd.V Kd.string 9 _ w.heap.size _ _ ((rd_T66 t126 1).f1) from Kd.V_mk ul138_1 ge138_1);clear hva_ hvn_ hvc_ ge138_1 ul138_1;have hv138_2:=hcc138 2 _ rfl;rw [add_field _ _ 2 (by omega)] at hv138_2;replace hv138_2:=Option.some.inj (hv138_2.symm.trans hx138_2);injection hv138_2 with hva_ hvn_ hvc_;rw [hva_] at ge138_2;rw [hvc_] at ul138_2;have HL138_2:=Aside0.mk (show Kd.V Kd.string 9 _ w.heap.size _ _ ((rd_T66 t126 1).f2) from Kd.V_mk ul138_2 ge138_2);clear hva_ hvn_ hvc_ ge138_2 ul138_2;have hv138_3:=hcc138 3 _ rfl;rw [add_field _ _ 3 (by omega)] at hv138_3;replace hv138_3:=Option.some.inj (hv138_3.symm.trans hx138_3);injection hv138_3 with hva_ hvn_ hvc_;rw [hva_] at ge138_3;rw [hvc_] at ul138_3;have HL138_3:=Aside0.mk (show Kd.V (Kd.slice 9 Kd.string) 22 _ w.heap.size _ _ ((rd_T66 t126 1).f3) from Kd.V_mk ul138_3 ge138_3);clear hva_ hvn_ hvc_ ge138_3 ul138_3;clear hcc138 hce138;(try simp only [show (1:Int).toNat=1 from rfl,Nat.reduceMul,Nat.reduceEqDiff,Go.Addr.add, ↓reduceIte] at hx138_0);(try simp only [show (1:Int).toNat=1 from rfl,Nat.reduceMul,Nat.reduceEqDiff,Go.Addr.add, ↓reduceIte] at hx138_1);(try simp only [show (1:Int).toNat=1 from rfl,Nat.reduceMul,Nat.reduceEqDiff,Go.Addr.add, ↓reduceIte] at hx138_2);(try simp only [show (1:Int).toNat=1 from rfl,Nat.reduceMul,Nat.reduceEqDiff,Go.Addr.add, ↓reduceIte] at hx138_3);have qi138:(1 < t126.length)=True:=eq_true (by omega);(try rw [show ((1:Int)).toNat=1 from rfl] at hx138_0);(try rw [show 1 * 4=4 from rfl] at hx138_0);(try rw [show ((1:Int)).toNat=1 from rfl] at hx138_1);(try rw [show 1 * 4=4 from rfl] at hx138_1);(try rw [show ((1:Int)).toNat=1 from rfl] at hx138_2);(try rw [show 1 * 4=4 from rfl] at hx138_2);(try rw [show ((1:Int)).toNat=1 from rfl] at hx138_3);(try rw [show 1 * 4=4 from rfl] at hx138_3);have HR138_1:=Aside0.mk hi138_1;have HC138_1:=Aside0.mk hl138_1;clear hi138_1 hl138_1;have HR138_2:=Aside0.mk hi138_2;have HC138_2:=Aside0.mk hl138_2;clear hi138_2 hl138_2;have HR138_3:=Aside0.mk hi138_3;have HC138_3:=Aside0.mk hl138_3;clear hi138_3 hl138_3;replace p138:=eq_true p138;replace q138:=eq_true q138)));go_ret;exact ⟨by first | rfl | (simp [errW_none,errW_some] <;> rfl) | (simp [*,errW_none,errW_some] <;> rfl),bel_⟩)
            (· (rw [if_neg c16] at H);exact absurd H (by simp))
           (· replace c15:=Bool.eq_false_iff.mpr c15;subst c15;(have H1:(some false)=some r:=by rw [if_neg (show ¬ (false=true) by decide)] at H;exact H);clear H;have H:=H1;clear H1;exact absurd (Option.some.inj H) (by rw [hrt_];decide))
          (· (rw [if_neg c13] at H);exact absurd H (by simp))
         (· (rw [if_neg c12] at H);have c12b0:((t126.length:Int) == 2)=false:=beq_eq_false_iff_ne.mpr c12;have c12b1:((t126.length:Int) != 2)=true:=bne_iff_ne.mpr c12;exact absurd (Option.some.inj H) (by rw [hrt_];decide))
        (· (rw [if_neg c11] at H);have c11b0:((rdOf ByteArray.empty ((rd_T66 t113 0).f1) 2).toList == ([121,10]:List UInt8))=false:=beq_eq_false_iff_ne.mpr c11;have c11b1:((rdOf ByteArray.empty ((rd_T66 t113 0).f1) 2).toList != ([121,10]:List UInt8))=true:=bne_iff_ne.mpr c11;exact absurd (Option.some.inj H) (by rw [hrt_];decide))
       (· (rw [if_neg c10] at H);exact absurd H (by simp))
      (· (rw [if_neg c9] at H);have c9b0:((((rd_T66 t113 0).f1).length:Int) == 3)=false:=beq_eq_false_iff_ne.mpr c9;have c9b1:((((rd_T66 t113 0).f1).length:Int) != 3)=true:=bne_iff_ne.mpr c9;exact absurd (Option.some.inj H) (by rw [hrt_];decide))
     (· (rw [if_neg c8] at H);exact absurd H (by simp))
    (· (rw [if_neg c7] at H);have c7b0:((t113.length:Int) == 1)=false:=beq_eq_false_iff_ne.mpr c7;have c7b1:((t113.length:Int) != 1)=true:=bne_iff_ne.mpr c7;exact absurd (Option.some.inj H) (by rw [hrt_];decide))
   (· (rw [if_neg c6] at H);have c6b0:(t133 == 1)=false:=beq_eq_false_iff_ne.mpr c6;have c6b1:(t133 != 1)=true:=bne_iff_ne.mpr c6;exact absurd (Option.some.inj H) (by rw [hrt_];decide))
  (· (rw [if_neg c5] at H);have c5b0:(t129 == 0)=false:=beq_eq_false_iff_ne.mpr c5;have c5b1:(t129 != 0)=true:=bne_iff_ne.mpr c5;exact absurd (Option.some.inj H) (by rw [hrt_];decide))
 (· (rw [if_neg c4] at H);have c4b0:(t116 == 0)=false:=beq_eq_false_iff_ne.mpr c4;have c4b1:(t116 != 0)=true:=bne_iff_ne.mpr c4;exact absurd (Option.some.inj H) (by rw [hrt_];decide))
def sennitlaw08_all.f (l0:List (S66)) (a1:Int):Option (List ByteArray × Bool):=(pick_Choose.f l0 0).bind fun t101=>(if a1=0 then ((pick_Clean.f l0).bind fun t104=>(some (t101,t104))) else (some (t101,false)))
end Go.Proofs.YtbbhdbeaikclcaaGreat.X
