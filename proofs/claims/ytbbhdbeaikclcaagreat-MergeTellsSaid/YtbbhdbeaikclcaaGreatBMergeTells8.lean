/-
  Parts of one proof, one behind the other: XTiles3, XMerge5, XKn1, XLn1, XMRef, XMFav, XMPick, XMKind, XRUn, XRPar, XRefB, XRefC, XRefD, XHn1, XSame7.
-/
import Derived.Test.YtbbhdbeaikclcaaGreatBMergeTells7
set_option linter.unusedVariables false
set_option linter.unusedSimpArgs false
set_option maxRecDepth 100000
set_option maxHeartbeats 8000000
namespace Go.Proofs.YtbbhdbeaikclcaaGreat.X
open Go.RowKit Go.Proofs.YtbbhdbeaikclcaaGreatW.PrintWords Go.Proofs.YtbbhdbeaikclcaaGreatW.PrintLast Go.Proofs.YtbbhdbeaikclcaaGreatW.PrintMore
theorem parts_sum : ∀ (sides:List (List ByteArray)) (s s':List Nat),s.length=sides.length→s'.length=sides.length→(∀ i,i < sides.length→s.getD i 0≤s'.getD i 0∧s'.getD i 0≤(sides.getD i []).length)→((partsF (spansN s s') sides).map List.length).sum+s.sum=s'.sum
 | [],s,s',h,h',_=>by
  (rw[List.eq_nil_of_length_eq_zero h,List.eq_nil_of_length_eq_zero h'];rfl)
 | y :: ys,[],s',h,h',_=>by simp at h
 | y :: ys,a :: s,[],h,h',_=>by simp at h'
 | y :: ys,a :: s,a' :: s',h,h',hi=>by
  have ih:=parts_sum ys s s' (by simpa using h) (by simpa using h') (fun i hl=>by simpa using hi (i+1) (by simpa using hl));have h0:=hi 0 (by simp);(simp only[List.getD_cons_zero] at h0);have e:partsF (spansN (a :: s) (a' :: s')) (y :: ys)=cutL y a a' :: partsF (spansN s s') ys:=rfl;rw[e,List.map_cons,List.sum_cons,List.sum_cons,List.sum_cons,cutL_len h0.2];omega
theorem sum_lt : ∀ (s s':List Nat),s'.length=s.length→(∀ i,i < s.length→s.getD i 0≤s'.getD i 0)→(∃ i,i < s.length∧s.getD i 0 < s'.getD i 0)→s.sum < s'.sum
 | [],s',h,_,hx=>by obtain⟨i,hi,_⟩:=hx;simp at hi
 | a :: s,[],h,_,_=>by simp at h
 | a :: s,a' :: s',h,hle,hx=>by
  have h0:=hle 0 (by simp);(simp only[List.getD_cons_zero] at h0);(have hle' : ∀ i,i < s.length→s.getD i 0≤s'.getD i 0:=fun i hi=>by simpa using hle (i+1) (by simpa using hi));rw[List.sum_cons,List.sum_cons]
  by_cases hx' : ∃ i,i < s.length∧s.getD i 0 < s'.getD i 0
  (· have:=sum_lt s s' (by simpa using h) hle' hx';omega)
  ·
   have he:s=s':=ext_getD (by simpa using h.symm) (fun i hi=>by
    have h1:=hle' i hi;(have h2 : ¬ s.getD i 0 < s'.getD i 0:=fun h=>hx' ⟨i,hi,h⟩)
    omega)
   obtain⟨i,hi,hlt⟩:=hx
   cases i with
   | zero=>simp only[List.getD_cons_zero] at hlt;rw[he];omega
   | succ i=>exact absurd ⟨i,by simpa using hi,by simpa using hlt⟩ hx'
def chunkN (base:List ByteArray) (sides:List (List ByteArray)) (c:Chunk):Nat:=(cutS base c.f1).length+((partsF c.f2 sides).map List.length).sum
theorem tiles_ok {base:List ByteArray} {sides:List (List ByteArray)} : ∀ (cs:List Chunk) (p:Bool) (b:Nat) (s:List Nat),Tiles base sides p b s cs→(∀ c ∈ cs,ChunkOk base sides c)∧cs.length+b+s.sum≤base.length+(sides.map List.length).sum∧(cs.map (chunkN base sides)).sum+b+s.sum=base.length+(sides.map List.length).sum
 | [],p,b,s,h=>by
  obtain⟨h1,h2⟩:=h;rw[h1,h2];exact⟨fun c hc=>(by cases hc),by simp,by simp⟩
 | c :: cs,p,b,s,h=>by
  obtain⟨b',s',h1,h2,h3,h4,h5,h6,h7,h8,h9,h10⟩:=h;obtain⟨i1,i2,i3⟩:=tiles_ok cs c.f0 b' s' h10;have hsum:=parts_sum sides s s' h3 h4 h7
  have hcut:(cutS base c.f1).length=b' - b:=by
   rw[h1];exact cutL_len h6
  have hlt:b+s.sum < b'+s'.sum:=by
   have hne:b < b' ∨ ∃ i,i < sides.length∧s.getD i 0 < s'.getD i 0:=by
    cases hf:c.f0 with
    | true=>exact .inl (h8 hf).1
    | false=>exact(h9 hf).2
   rcases hne with hne|hne
   (· omega);(· have:=sum_lt s s' (by rw[h3,h4]) (fun i hi=>(h7 i (by rw[← h3];exact hi)).1) (by rw[h3];exact hne);omega)
  refine⟨fun x hx=>?_,?_,?_⟩
  ·
   rcases List.mem_cons.1 hx with rfl|hx
   (· refine⟨by rw[h2,spansN_len (by rw[h3,h4]),h3],by rw[h1];exact⟨by show (0:Int)≤(b:Int);omega,by show (b:Int)≤(b':Int);omega,by show (b':Int)≤_;omega⟩,fun i hi=>?_⟩;have:=h7 i hi;(rw[getD_get hi] at this);rw[h2,spansN_get (by rw[h3,h4]) (by rw[h3];exact hi)];exact⟨by show (0:Int)≤((s.getD i 0:Nat):Int);omega,by show ((s.getD i 0:Nat):Int)≤((s'.getD i 0:Nat):Int);omega,by show ((s'.getD i 0:Nat):Int)≤(sides[i].length:Int);omega⟩);(· exact i1 x hx)
  (· (rw[List.length_cons];omega));(· rw[List.map_cons,List.sum_cons];(have:chunkN base sides c=(b' - b)+((partsF (spansN s s') sides).map List.length).sum:=by rw[chunkN,hcut,h2]);rw[this];omega)
theorem mem_sum {l:List Nat} {x:Nat} (h:x ∈ l):x≤l.sum:=by
 obtain⟨a,b,rfl⟩:=List.append_of_mem h;(rw[List.sum_append,List.sum_cons];omega)
theorem pieceF_len (x:List ByteArray) (l:List (List ByteArray)) (fav:Int) (un:Bool):(pieceF x l fav un).f1.length≤x.length+(l.map List.length).sum:=by
 (have hmem : ∀ y ∈ l,y.length≤(l.map List.length).sum:=fun y hy=>mem_sum (List.mem_map_of_mem hy));have hind:=differF_ind x _ l rfl;unfold pieceF;split;(· (show x.length≤_;omega))
 ·
  split;(· rename_i h1;show ((differF x l).getD 0 []).length≤_;rw[getD_get (by omega)];have:=hmem _ (hind.1 _ (List.getElem_mem (show 0 < (differF x l).length by omega)));omega)
  ·
   split;(· rename_i h2;show (l.getD (fav - 1).toNat []).length≤_;rw[getD_get (by omega)];have:=hmem _ (List.getElem_mem (show (fav - 1).toNat < l.length by omega));omega)
   ·
    split;(· show (unionF (differF x l)).length≤_;(rw[unionF_len _ _ rfl];omega));(· exact Nat.zero_le _)
theorem mergePiece_len (base:List ByteArray) (sides:List (List ByteArray)) (fav:Int) (un:Bool) (c:Chunk):(mergePiece base sides fav un c).f1.length≤chunkN base sides c:=by
 unfold mergePiece chunkN;split;(· (show (cutS base c.f1).length≤_;omega));(· exact pieceF_len _ _ _ _)
theorem tsum_le {α:Type} (f:α→Piece) (g:α→Nat) : ∀ (l:List α),(∀ x,(f x).f1.length≤g x)→tsum (l.map f)≤(l.map g).sum
 | [],_=>Nat.le_refl _
 | x :: l,h=>by
  have:=tsum_le f g l h;have h0:=h x;(simp only[tsum,List.map_cons,List.sum_cons] at this ⊢);omega
theorem sides_sum {sides:List (List ByteArray)} {n m:Nat}:(sides.length≤n)→(∀ y ∈ sides,y.length≤m)→(sides.map List.length).sum≤n * m:=fun h1 h2=>total_le h1 h2
theorem merge_ok {base:List ByteArray} {sides:List (List ByteArray)} (fav:Int) (un:Bool) (hc:chunksOk base sides=true):MergeOk base sides fav un:=by
 refine⟨hc,fun h0=>?_⟩;obtain⟨h1,h2,_,h4⟩:=wrongF_zero (chunksF_wrong base sides h0)
 have e:(chunksF base sides).1=alignF base.length (sizesF sides) (matchesF base sides):=by
  have:=chunksF_wrong base sides h0;rw[chunksF,if_neg (fun h=>h this)]
 obtain⟨i1,i2,i3⟩:=tiles_ok _ _ _ _ (align_tiles base sides);have hb:=h4 base List.mem_cons_self;have hs:=sides_sum (n:=16) (m:=2000) (by simpa using h2) (fun y hy=>h4 y (List.mem_cons_of_mem _ hy));rw[e];refine⟨i1,by omega,?_⟩;have:=tsum_le (mergePiece base sides fav un) (chunkN base sides) (alignF base.length (sizesF sides) (matchesF base sides)) (mergePiece_len base sides fav un);omega
def spanOkB (s:Spanx) (n:Nat):Bool:=decide (0≤s.f0) && (decide (s.f0≤s.f1) && decide (s.f1≤(n:Int)))
theorem spanOkB_iff {s:Spanx} {n:Nat}:spanOkB s n=true↔SpanOk s n:=by
 (rw[spanOkB,Bool.and_eq_true,Bool.and_eq_true,decide_eq_true_eq,decide_eq_true_eq,decide_eq_true_eq];rfl)
def chunkOkB (base:List ByteArray) (sides:List (List ByteArray)) (c:Chunk):Bool:=decide (c.f2.length=sides.length) && (spanOkB c.f1 base.length && (List.range sides.length).all (fun i=>spanOkB (c.f2.getD i z45) (sides.getD i []).length))
theorem chunkOkB_iff {base:List ByteArray} {sides:List (List ByteArray)} {c:Chunk}:chunkOkB base sides c=true↔ChunkOk base sides c:=by
 rw[chunkOkB,Bool.and_eq_true,Bool.and_eq_true,decide_eq_true_eq,spanOkB_iff,List.all_eq_true];constructor
 ·
  rintro⟨h1,h2,h3⟩;refine⟨h1,h2,fun i hi=>?_⟩;have:=spanOkB_iff.1 (h3 i (List.mem_range.2 hi))
  rwa [getD_get hi] at this
 (· rintro⟨h1,h2,h3⟩;refine⟨h1,h2,fun i hi=>?_⟩;have hi:=List.mem_range.1 hi;rw[getD_get hi];exact spanOkB_iff.2 (h3 i hi))
def mergeOkB (base:List ByteArray) (sides:List (List ByteArray)) (fav:Int) (un:Bool):Bool :=
  chunksOk base sides && (decide ((chunksF base sides).2≠0) || ((chunksF base sides).1.all (chunkOkB base sides) && (decide ((chunksF base sides).1.length≤1000000) && decide (tsum ((chunksF base sides).1.map (mergePiece base sides fav un))≤1000000))))
theorem mergeOkB_iff {base:List ByteArray} {sides:List (List ByteArray)} {fav:Int} {un:Bool}:mergeOkB base sides fav un=true↔MergeOk base sides fav un:=by
 rw[mergeOkB,Bool.and_eq_true,Bool.or_eq_true,Bool.and_eq_true,Bool.and_eq_true,decide_eq_true_eq,decide_eq_true_eq,decide_eq_true_eq,List.all_eq_true];constructor
 ·
  rintro⟨h1,h2⟩;refine⟨h1,fun h0=>?_⟩
  rcases h2 with h2|⟨h2,h3,h4⟩
  (· exact absurd h0 h2);(· exact⟨fun c hc=>chunkOkB_iff.1 (h2 c hc),h3,h4⟩)
 ·
  rintro⟨h1,h2⟩;refine⟨h1,?_⟩
  by_cases h0:(chunksF base sides).2=0
  (· obtain⟨a,b,c⟩:=h2 h0;exact .inr ⟨fun x hx=>chunkOkB_iff.2 (a x hx),b,c⟩);(· exact .inl h0)
def merge_Merge.f (l0:List ByteArray) (l1:List (List ByteArray)) (a2_0:Int) (a2_1:Bool):Option (List S66 × Int):=if mergeOkB l0 l1 a2_0 a2_1=true then some (mergeF l0 l1 a2_0 a2_1) else none
theorem merge_Merge.calls (P0_:Nat→Prop) (A0:Option Addr) (c0:Nat) (l0:List ByteArray) (P1_:Nat→Prop) (A1:Option Addr) (c1:Nat) (l1:List (List ByteArray)) (a2_0:Int) (a2_1:Bool) (r1:List (S66)) (r2:Int) (w:World) (hs0:Kd.V Kd.string 9 w w.heap.size (fun k_=>P0_ k_) (.slice A0 l0.length c0) l0) (hs1:Kd.V (Kd.slice 9 Kd.string) 22 w w.heap.size (fun k_=>P1_ k_) (.slice A1 l1.length c1) l1) (h:merge_Merge.f l0 l1 a2_0 a2_1=some (r1,r2)) :
    Calls Tryz.prog 18 #[.slice A0 l0.length c0, .slice A1 l1.length c1, .agg #[.int .i64 a2_0, .bool a2_1]] w fun e w' => ∃ v0_:Value,e = .returned (.tuple #[v0_, .int .i64 r2])∧Kd.N k66 66 w' w.heap.size (fun k_=>((P0_ k_∨P1_ k_)∨w.heap.size≤k_)) v0_ r1∧Below w.heap.size w w':=by
 (unfold merge_Merge.f at h);(split at h);(· rename_i hf;have h:=Option.some.inj h;obtain⟨_,hc0,hf0⟩:=Kd.V_at hs0;obtain⟨_,hc1,hf1⟩:=Kd.V_at hs1;have:=merge_Merge (fun k=>P0_ k∨P1_ k) A0 c0 l0 A1 c1 l1 a2_0 a2_1 w (Kd.F_mono hf0 (fun k hk => .inl hk)) hc0 (Kd.F_mono hf1 (fun k hk => .inr hk)) hc1 (mergeOkB_iff.1 hf);(rw[h] at this);refine this.mono ?_;rintro e w' ⟨v,he,hn,hb⟩;exact⟨v,he,hn,hb⟩);(· cases h)
def pick_Choose.f (l0:List S66) (a1:Int):Option (List ByteArray):=if l0.length≤1000000000∧a1≤1000000000 ∧ -1000000000≤a1∧(chooseF l0 a1).length≤1000000000 then some (chooseF l0 a1) else none
def pick_Clean.f (l0:List S66):Option Bool:=if l0.length≤1000000000 then some (cleanB l0) else none
end Go.Proofs.YtbbhdbeaikclcaaGreat.X
namespace Go.Proofs.YtbbhdbeaikclcaaGreat.X
open Go.RowKit Go.Proofs.YtbbhdbeaikclcaaGreatW.PrintWords Go.Proofs.YtbbhdbeaikclcaaGreatW.PrintLast Go.Proofs.YtbbhdbeaikclcaaGreatW.PrintMore
attribute [local go_sem] max2_int min2_int max_two min_two max_three min_three max_four min_four
def sennitlaw08_awake.f  : Option (Bool):=(some (([(⟨#[97,10]⟩:ByteArray),(⟨#[98,10]⟩:ByteArray),(⟨#[99,10]⟩:ByteArray)]:List ByteArray):List ByteArray)).bind fun y101=>((merge_Merge.f y101 (([(([(⟨#[120,10]⟩:ByteArray),(⟨#[98,10]⟩:ByteArray),(⟨#[99,10]⟩:ByteArray)]:List ByteArray)),(([(⟨#[97,10]⟩:ByteArray),(⟨#[98,10]⟩:ByteArray),(⟨#[121,10]⟩:ByteArray)]:List ByteArray))]:List (List ByteArray))) 0 false).bind fun bt113=>((merge_Merge.f y101 (([(([(⟨#[120,10]⟩:ByteArray),(⟨#[98,10]⟩:ByteArray),(⟨#[99,10]⟩:ByteArray)]:List ByteArray)),(([(⟨#[122,10]⟩:ByteArray),(⟨#[98,10]⟩:ByteArray),(⟨#[121,10]⟩:ByteArray)]:List ByteArray))]:List (List ByteArray))) 0 false).bind fun bt126=>((merge_Merge.f y101 ([]:List (List ByteArray)) 0 false).bind fun bt130=>(if bt113.2=0 then (if bt126.2=0 then (if bt130.2=1 then (if (bt113.1.length:Int)=1 then (if 0 < (bt113.1.length:Int) then (if (((rd_T66 bt113.1 0).f1).length:Int)=3 then (if 2 < (((rd_T66 bt113.1 0).f1).length:Int) then (if (rdOf ByteArray.empty ((rd_T66 bt113.1 0).f1) 2).toList=([121,10]:List UInt8) then (if (bt126.1.length:Int)=2 then (if 0 < (bt126.1.length:Int) then (if (rd_T66 bt126.1 0).f0=true then (if 1 < (bt126.1.length:Int) then (some ((((rd_T66 bt126.1 1).f1).length:Int) == 2)) else (none)) else (some false)) else (none)) else (some false)) else (some false)) else (none)) else (some false)) else (none)) else (some false)) else (some false)) else (some false)) else (some false)))))
theorem sennitlaw08_awake.true_:sennitlaw08_awake.f=some true:=by decide +kernel
theorem sennitlaw08_awake.calls  (r:Bool) (w:World) (h:sennitlaw08_awake.f  = some r) :
    Calls Tryz.prog 13 #[] w fun e w'=>e = .returned (.bool r)∧Below w.heap.size w w':=by
 have hrt_:r=true:=Option.some.inj (h.symm.trans sennitlaw08_awake.true_);have hu34:=Tryz.underlying34;have HB:=Aside0.mk (Below.refl w.heap.size w);have H:=h;(rw[sennitlaw08_awake.f] at H);clear h;obtain⟨y101,hy101⟩ : ∃ y_:List ByteArray,y_=(([(⟨#[97,10]⟩:ByteArray),(⟨#[98,10]⟩:ByteArray),(⟨#[99,10]⟩:ByteArray)]:List ByteArray)):=⟨_,rfl⟩;(replace H:((merge_Merge.f y101 (([(([(⟨#[120,10]⟩:ByteArray),(⟨#[98,10]⟩:ByteArray),(⟨#[99,10]⟩:ByteArray)]:List ByteArray)),(([(⟨#[97,10]⟩:ByteArray),(⟨#[98,10]⟩:ByteArray),(⟨#[121,10]⟩:ByteArray)]:List ByteArray))]:List (List ByteArray))) 0 false).bind fun bt113=>((merge_Merge.f y101 (([(([(⟨#[120,10]⟩:ByteArray),(⟨#[98,10]⟩:ByteArray),(⟨#[99,10]⟩:ByteArray)]:List ByteArray)),(([(⟨#[122,10]⟩:ByteArray),(⟨#[98,10]⟩:ByteArray),(⟨#[121,10]⟩:ByteArray)]:List ByteArray))]:List (List ByteArray))) 0 false).bind fun bt126=>((merge_Merge.f y101 ([]:List (List ByteArray)) 0 false).bind fun bt130=>(if bt113.2=0 then (if bt126.2=0 then (if bt130.2=1 then (if (bt113.1.length:Int)=1 then (if 0 < (bt113.1.length:Int) then (if (((rd_T66 bt113.1 0).f1).length:Int)=3 then (if 2 < (((rd_T66 bt113.1 0).f1).length:Int) then (if (rdOf ByteArray.empty ((rd_T66 bt113.1 0).f1) 2).toList=([121,10]:List UInt8) then (if (bt126.1.length:Int)=2 then (if 0 < (bt126.1.length:Int) then (if (rd_T66 bt126.1 0).f0=true then (if 1 < (bt126.1.length:Int) then (some ((((rd_T66 bt126.1 1).f1).length:Int) == 2)) else (none)) else (some false)) else (none)) else (some false)) else (some false)) else (none)) else (some false)) else (none)) else (some false)) else (some false)) else (some false)) else (some false)))))=some r:=by first|(rw[hy101];with_reducible exact H)|(have H2_:=(Option.bind_some _ _).symm.trans H;rw[hy101];with_reducible exact H2_)|(have H2_:=(Option.bind_some _ _).symm.trans H;with_reducible exact H2_)|with_reducible exact H|(rw[hy101];exact H)|exact H);have Ny101:=Aside0.mk hy101;clear hy101;obtain⟨y104,hy104⟩ : ∃ y_:List ByteArray,y_=(([(⟨#[120,10]⟩:ByteArray),(⟨#[98,10]⟩:ByteArray),(⟨#[99,10]⟩:ByteArray)]:List ByteArray)):=⟨_,rfl⟩;(replace H:((merge_Merge.f y101 (([y104,(([(⟨#[97,10]⟩:ByteArray),(⟨#[98,10]⟩:ByteArray),(⟨#[121,10]⟩:ByteArray)]:List ByteArray))]:List (List ByteArray))) 0 false).bind fun bt113=>((merge_Merge.f y101 (([(([(⟨#[120,10]⟩:ByteArray),(⟨#[98,10]⟩:ByteArray),(⟨#[99,10]⟩:ByteArray)]:List ByteArray)),(([(⟨#[122,10]⟩:ByteArray),(⟨#[98,10]⟩:ByteArray),(⟨#[121,10]⟩:ByteArray)]:List ByteArray))]:List (List ByteArray))) 0 false).bind fun bt126=>((merge_Merge.f y101 ([]:List (List ByteArray)) 0 false).bind fun bt130=>(if bt113.2=0 then (if bt126.2=0 then (if bt130.2=1 then (if (bt113.1.length:Int)=1 then (if 0 < (bt113.1.length:Int) then (if (((rd_T66 bt113.1 0).f1).length:Int)=3 then (if 2 < (((rd_T66 bt113.1 0).f1).length:Int) then (if (rdOf ByteArray.empty ((rd_T66 bt113.1 0).f1) 2).toList=([121,10]:List UInt8) then (if (bt126.1.length:Int)=2 then (if 0 < (bt126.1.length:Int) then (if (rd_T66 bt126.1 0).f0=true then (if 1 < (bt126.1.length:Int) then (some ((((rd_T66 bt126.1 1).f1).length:Int) == 2)) else (none)) else (some false)) else (none)) else (some false)) else (some false)) else (none)) else (some false)) else (none)) else (some false)) else (some false)) else (some false)) else (some false)))))=some r:=by first|(rw[hy104];with_reducible exact H)|(have H2_:=(Option.bind_some _ _).symm.trans H;rw[hy104];with_reducible exact H2_)|(have H2_:=(Option.bind_some _ _).symm.trans H;with_reducible exact H2_)|with_reducible exact H|(rw[hy104];exact H)|exact H);have Ny104:=Aside0.mk hy104;clear hy104;obtain⟨y107,hy107⟩ : ∃ y_:List ByteArray,y_=(([(⟨#[97,10]⟩:ByteArray),(⟨#[98,10]⟩:ByteArray),(⟨#[121,10]⟩:ByteArray)]:List ByteArray)):=⟨_,rfl⟩;(replace H:((merge_Merge.f y101 (([y104,y107]:List (List ByteArray))) 0 false).bind fun bt113=>((merge_Merge.f y101 (([(([(⟨#[120,10]⟩:ByteArray),(⟨#[98,10]⟩:ByteArray),(⟨#[99,10]⟩:ByteArray)]:List ByteArray)),(([(⟨#[122,10]⟩:ByteArray),(⟨#[98,10]⟩:ByteArray),(⟨#[121,10]⟩:ByteArray)]:List ByteArray))]:List (List ByteArray))) 0 false).bind fun bt126=>((merge_Merge.f y101 ([]:List (List ByteArray)) 0 false).bind fun bt130=>(if bt113.2=0 then (if bt126.2=0 then (if bt130.2=1 then (if (bt113.1.length:Int)=1 then (if 0 < (bt113.1.length:Int) then (if (((rd_T66 bt113.1 0).f1).length:Int)=3 then (if 2 < (((rd_T66 bt113.1 0).f1).length:Int) then (if (rdOf ByteArray.empty ((rd_T66 bt113.1 0).f1) 2).toList=([121,10]:List UInt8) then (if (bt126.1.length:Int)=2 then (if 0 < (bt126.1.length:Int) then (if (rd_T66 bt126.1 0).f0=true then (if 1 < (bt126.1.length:Int) then (some ((((rd_T66 bt126.1 1).f1).length:Int) == 2)) else (none)) else (some false)) else (none)) else (some false)) else (some false)) else (none)) else (some false)) else (none)) else (some false)) else (some false)) else (some false)) else (some false)))))=some r:=by first|(rw[hy107];with_reducible exact H)|(have H2_:=(Option.bind_some _ _).symm.trans H;rw[hy107];with_reducible exact H2_)|(have H2_:=(Option.bind_some _ _).symm.trans H;with_reducible exact H2_)|with_reducible exact H|(rw[hy107];exact H)|exact H);have Ny107:=Aside0.mk hy107;clear hy107;obtain⟨y110,hy110⟩ : ∃ y_:List (List ByteArray),y_=(([y104,y107]:List (List ByteArray))):=⟨_,rfl⟩
 (replace H:((merge_Merge.f y101 y110 0 false).bind fun bt113=>((merge_Merge.f y101 (([(([(⟨#[120,10]⟩:ByteArray),(⟨#[98,10]⟩:ByteArray),(⟨#[99,10]⟩:ByteArray)]:List ByteArray)),(([(⟨#[122,10]⟩:ByteArray),(⟨#[98,10]⟩:ByteArray),(⟨#[121,10]⟩:ByteArray)]:List ByteArray))]:List (List ByteArray))) 0 false).bind fun bt126=>((merge_Merge.f y101 ([]:List (List ByteArray)) 0 false).bind fun bt130=>(if bt113.2=0 then (if bt126.2=0 then (if bt130.2=1 then (if (bt113.1.length:Int)=1 then (if 0 < (bt113.1.length:Int) then (if (((rd_T66 bt113.1 0).f1).length:Int)=3 then (if 2 < (((rd_T66 bt113.1 0).f1).length:Int) then (if (rdOf ByteArray.empty ((rd_T66 bt113.1 0).f1) 2).toList=([121,10]:List UInt8) then (if (bt126.1.length:Int)=2 then (if 0 < (bt126.1.length:Int) then (if (rd_T66 bt126.1 0).f0=true then (if 1 < (bt126.1.length:Int) then (some ((((rd_T66 bt126.1 1).f1).length:Int) == 2)) else (none)) else (some false)) else (none)) else (some false)) else (some false)) else (none)) else (some false)) else (none)) else (some false)) else (some false)) else (some false)) else (some false)))))=some r:=by first|(rw[hy110];with_reducible exact H)|(have H2_:=(Option.bind_some _ _).symm.trans H;rw[hy110];with_reducible exact H2_)|(have H2_:=(Option.bind_some _ _).symm.trans H;with_reducible exact H2_)|with_reducible exact H|(rw[hy110];exact H)|exact H);have Ny110:=Aside0.mk hy110;clear hy110;replace H:=Option.bind_eq_some_iff.mp H;obtain⟨⟨t113,t116⟩,A10,H⟩:=H;(try dsimp only at H);have A1:=Aside0.mk A10;clear A10;obtain⟨y117,hy117⟩ : ∃ y_:List ByteArray,y_=(([(⟨#[120,10]⟩:ByteArray),(⟨#[98,10]⟩:ByteArray),(⟨#[99,10]⟩:ByteArray)]:List ByteArray)):=⟨_,rfl⟩;(replace H:((merge_Merge.f y101 (([y117,(([(⟨#[122,10]⟩:ByteArray),(⟨#[98,10]⟩:ByteArray),(⟨#[121,10]⟩:ByteArray)]:List ByteArray))]:List (List ByteArray))) 0 false).bind fun bt126=>((merge_Merge.f y101 ([]:List (List ByteArray)) 0 false).bind fun bt130=>(if t116=0 then (if bt126.2=0 then (if bt130.2=1 then (if (t113.length:Int)=1 then (if 0 < (t113.length:Int) then (if (((rd_T66 t113 0).f1).length:Int)=3 then (if 2 < (((rd_T66 t113 0).f1).length:Int) then (if (rdOf ByteArray.empty ((rd_T66 t113 0).f1) 2).toList=([121,10]:List UInt8) then (if (bt126.1.length:Int)=2 then (if 0 < (bt126.1.length:Int) then (if (rd_T66 bt126.1 0).f0=true then (if 1 < (bt126.1.length:Int) then (some ((((rd_T66 bt126.1 1).f1).length:Int) == 2)) else (none)) else (some false)) else (none)) else (some false)) else (some false)) else (none)) else (some false)) else (none)) else (some false)) else (some false)) else (some false)) else (some false))))=some r:=by first|(rw[hy117];with_reducible exact H)|(have H2_:=(Option.bind_some _ _).symm.trans H;rw[hy117];with_reducible exact H2_)|(have H2_:=(Option.bind_some _ _).symm.trans H;with_reducible exact H2_)|with_reducible exact H|(rw[hy117];exact H)|exact H);have Ny117:=Aside0.mk hy117;clear hy117;obtain⟨y120,hy120⟩ : ∃ y_:List ByteArray,y_=(([(⟨#[122,10]⟩:ByteArray),(⟨#[98,10]⟩:ByteArray),(⟨#[121,10]⟩:ByteArray)]:List ByteArray)):=⟨_,rfl⟩;(replace H:((merge_Merge.f y101 (([y117,y120]:List (List ByteArray))) 0 false).bind fun bt126=>((merge_Merge.f y101 ([]:List (List ByteArray)) 0 false).bind fun bt130=>(if t116=0 then (if bt126.2=0 then (if bt130.2=1 then (if (t113.length:Int)=1 then (if 0 < (t113.length:Int) then (if (((rd_T66 t113 0).f1).length:Int)=3 then (if 2 < (((rd_T66 t113 0).f1).length:Int) then (if (rdOf ByteArray.empty ((rd_T66 t113 0).f1) 2).toList=([121,10]:List UInt8) then (if (bt126.1.length:Int)=2 then (if 0 < (bt126.1.length:Int) then (if (rd_T66 bt126.1 0).f0=true then (if 1 < (bt126.1.length:Int) then (some ((((rd_T66 bt126.1 1).f1).length:Int) == 2)) else (none)) else (some false)) else (none)) else (some false)) else (some false)) else (none)) else (some false)) else (none)) else (some false)) else (some false)) else (some false)) else (some false))))=some r:=by first|(rw[hy120];with_reducible exact H)|(have H2_:=(Option.bind_some _ _).symm.trans H;rw[hy120];with_reducible exact H2_)|(have H2_:=(Option.bind_some _ _).symm.trans H;with_reducible exact H2_)|with_reducible exact H|(rw[hy120];exact H)|exact H);have Ny120:=Aside0.mk hy120;clear hy120;obtain⟨y123,hy123⟩ : ∃ y_:List (List ByteArray),y_=(([y117,y120]:List (List ByteArray))):=⟨_,rfl⟩;(replace H:((merge_Merge.f y101 y123 0 false).bind fun bt126=>((merge_Merge.f y101 ([]:List (List ByteArray)) 0 false).bind fun bt130=>(if t116=0 then (if bt126.2=0 then (if bt130.2=1 then (if (t113.length:Int)=1 then (if 0 < (t113.length:Int) then (if (((rd_T66 t113 0).f1).length:Int)=3 then (if 2 < (((rd_T66 t113 0).f1).length:Int) then (if (rdOf ByteArray.empty ((rd_T66 t113 0).f1) 2).toList=([121,10]:List UInt8) then (if (bt126.1.length:Int)=2 then (if 0 < (bt126.1.length:Int) then (if (rd_T66 bt126.1 0).f0=true then (if 1 < (bt126.1.length:Int) then (some ((((rd_T66 bt126.1 1).f1).length:Int) == 2)) else (none)) else (some false)) else (none)) else (some false)) else (some false)) else (none)) else (some false)) else (none)) else (some false)) else (some false)) else (some false)) else (some false))))=some r:=by first|(rw[hy123];with_reducible exact H)|(have H2_:=(Option.bind_some _ _).symm.trans H;rw[hy123];with_reducible exact H2_)|(have H2_:=(Option.bind_some _ _).symm.trans H;with_reducible exact H2_)|with_reducible exact H|(rw[hy123];exact H)|exact H);have Ny123:=Aside0.mk hy123;clear hy123;replace H:=Option.bind_eq_some_iff.mp H;obtain⟨⟨t126,t129⟩,A20,H⟩:=H;(try dsimp only at H);have A2:=Aside0.mk A20;clear A20;replace H:=Option.bind_eq_some_iff.mp H
 obtain⟨⟨t130,t133⟩,A30,H⟩:=H;(try dsimp only at H);have A3:=Aside0.mk A30;clear A30
 by_cases c4:t116=0
 ·
  (rw[if_pos c4] at H);have c4b0:(t116 == 0)=true:=beq_iff_eq.mpr c4;have c4b1:(t116 != 0)=false:=bne_eq_false_iff_eq.mpr c4;clear c4
  by_cases c5:t129=0
  ·
   (rw[if_pos c5] at H);have c5b0:(t129 == 0)=true:=beq_iff_eq.mpr c5;have c5b1:(t129 != 0)=false:=bne_eq_false_iff_eq.mpr c5;clear c5
   by_cases c6:t133=1
   ·
    (rw[if_pos c6] at H);have c6b0:(t133 == 1)=true:=beq_iff_eq.mpr c6;have c6b1:(t133 != 1)=false:=bne_eq_false_iff_eq.mpr c6;clear c6
    by_cases c7:(t113.length:Int)=1
    ·
     (rw[if_pos c7] at H);have c7b0:((t113.length:Int) == 1)=true:=beq_iff_eq.mpr c7;have c7b1:((t113.length:Int) != 1)=false:=bne_eq_false_iff_eq.mpr c7;clear c7
     by_cases c8:0 < (t113.length:Int)
     ·
      (rw[if_pos c8] at H);have c8b0:decide (0 < (t113.length:Int))=true:=decide_eq_true c8;have c8b1:decide (0 < t113.length)=true:=decide_eq_true (by omega);clear c8
      by_cases c9:(((rd_T66 t113 0).f1).length:Int)=3
      ·
       (rw[if_pos c9] at H);have c9b0:((((rd_T66 t113 0).f1).length:Int) == 3)=true:=beq_iff_eq.mpr c9;have c9b1:((((rd_T66 t113 0).f1).length:Int) != 3)=false:=bne_eq_false_iff_eq.mpr c9;clear c9
       by_cases c10:2 < (((rd_T66 t113 0).f1).length:Int)
       ·
        (rw[if_pos c10] at H);have c10b0:decide (2 < (((rd_T66 t113 0).f1).length:Int))=true:=decide_eq_true c10;have c10b1:decide (2 < ((rd_T66 t113 0).f1).length)=true:=decide_eq_true (by omega);clear c10
        by_cases c11:(rdOf ByteArray.empty ((rd_T66 t113 0).f1) 2).toList=([121,10]:List UInt8)
        ·
         (rw[if_pos c11] at H);have c11b0:((rdOf ByteArray.empty ((rd_T66 t113 0).f1) 2).toList == ([121,10]:List UInt8))=true:=beq_iff_eq.mpr c11;have c11b1:((rdOf ByteArray.empty ((rd_T66 t113 0).f1) 2).toList != ([121,10]:List UInt8))=false:=bne_eq_false_iff_eq.mpr c11;clear c11
         by_cases c12:(t126.length:Int)=2
         ·
          (rw[if_pos c12] at H);have c12b0:((t126.length:Int) == 2)=true:=beq_iff_eq.mpr c12;have c12b1:((t126.length:Int) != 2)=false:=bne_eq_false_iff_eq.mpr c12;clear c12
          by_cases c13:0 < (t126.length:Int)
          ·
           (rw[if_pos c13] at H);have c13b0:decide (0 < (t126.length:Int))=true:=decide_eq_true c13;have c13b1:decide (0 < t126.length)=true:=decide_eq_true (by omega);clear c13;obtain⟨bq14,hbq14⟩ : ∃ b_:Bool,b_=((rd_T66 t126 0).f0):=⟨_,rfl⟩;(replace H:(if bq14=true then (if 1 < (t126.length:Int) then (some ((((rd_T66 t126 1).f1).length:Int) == 2)) else (none)) else (some false))=some r:=by rw[← hbq14] at H;exact H);have Nbq14:=Aside0.mk hbq14;clear hbq14
           by_cases c15:bq14=true
           ·
            subst c15;have H1:=H;(rw[if_pos rfl] at H1);clear H;have H:=H1;clear H1
            by_cases c16:1 < (t126.length:Int)
            (· (rw[if_pos c16] at H);have c16b0:decide (1 < (t126.length:Int))=true:=decide_eq_true c16;have c16b1:decide (1 < t126.length)=true:=decide_eq_true (by omega);clear c16;obtain rfl:=Option.some.inj H;go_enter Tryz.func13,Tryz.ntmps13;(go_wp2_with (first|((with_reducible refine gate_dst (N:=8) rfl ?_);(try(refine gate_guard (by rfl) ?_;dsimp only));refine Kd.R_lit Kd.string _ 9 ?hg (N:=8) ?hd (xs:=([(⟨#[97,10]⟩:ByteArray),(⟨#[98,10]⟩:ByteArray),(⟨#[99,10]⟩:ByteArray)]:List ByteArray)) (inner:=[.string (⟨#[97,10]⟩:ByteArray), .string (⟨#[98,10]⟩:ByteArray), .string (⟨#[99,10]⟩:ByteArray)]) (ok:=fun _=>True) (okp:=fun _=>True) ?hr ?hp (fun _ hk=>hk) trivial (Below.refl _ _) (Nat.le_refl _) (by simp) ?_;(case hd=>rfl);(case hg=>rfl);(case hr=>first|(go_simp;done)|(go_simp;rfl));(case hp=>exact(Reps.one (show Kd.M Kd.string _ _ _ (⟨#[97,10]⟩:ByteArray) [.string (⟨#[97,10]⟩:ByteArray)] from rfl) (Reps.one (show Kd.M Kd.string _ _ _ (⟨#[98,10]⟩:ByteArray) [.string (⟨#[98,10]⟩:ByteArray)] from rfl) (Reps.one (show Kd.M Kd.string _ _ _ (⟨#[99,10]⟩:ByteArray) [.string (⟨#[99,10]⟩:ByteArray)] from rfl) (Reps.none _ _)))));intro v102 w17 ho18 hb hg_ hnew_;clear hg_ hnew_;(first|rw[← Ny101.out] at ho18|(simp only[Int.reduceToNat] at ho18;rw[← Ny101.out] at ho18));have HO103:=Aside0.mk (Kd.R_lower ho18 (below_size bel_));replace HB:=Aside0.mk (below_step bel_ hb);clear hb ho18)|((with_reducible refine gate_dst (N:=11) rfl ?_);(try(refine gate_guard (by rfl) ?_;dsimp only));refine Kd.R_lit Kd.string _ 9 ?hg (N:=11) ?hd (xs:=([(⟨#[120,10]⟩:ByteArray),(⟨#[98,10]⟩:ByteArray),(⟨#[99,10]⟩:ByteArray)]:List ByteArray)) (inner:=[.string (⟨#[120,10]⟩:ByteArray), .string (⟨#[98,10]⟩:ByteArray), .string (⟨#[99,10]⟩:ByteArray)]) (ok:=fun _=>True) (okp:=fun _=>True) ?hr ?hp (fun _ hk=>hk) trivial (Below.refl _ _) (Nat.le_refl _) (by simp) ?_;(case hd=>rfl);(case hg=>rfl);(case hr=>first|(go_simp;done)|(go_simp;rfl));(case hp=>exact(Reps.one (show Kd.M Kd.string _ _ _ (⟨#[120,10]⟩:ByteArray) [.string (⟨#[120,10]⟩:ByteArray)] from rfl) (Reps.one (show Kd.M Kd.string _ _ _ (⟨#[98,10]⟩:ByteArray) [.string (⟨#[98,10]⟩:ByteArray)] from rfl) (Reps.one (show Kd.M Kd.string _ _ _ (⟨#[99,10]⟩:ByteArray) [.string (⟨#[99,10]⟩:ByteArray)] from rfl) (Reps.none _ _)))));intro v105 w19 ho20 hb hg_ hnew_;clear hg_ hnew_;(first|rw[← Ny104.out] at ho20|(simp only[Int.reduceToNat] at ho20;rw[← Ny104.out] at ho20));have HO106:=Aside0.mk (Kd.R_lower (Kd.R_new' ho20 (Kd.R_lt (pR_ HO103.out))) (below_size bel_));replace HO103:=Aside0.mk (Kd.R_elder' (pR_ HO103.out) (Kd.R_base ho20) hb);replace HB:=Aside0.mk (below_step bel_ hb);clear hb ho20)|((with_reducible refine gate_dst (N:=12) rfl ?_);(try(refine gate_guard (by rfl) ?_;dsimp only));refine Kd.R_lit Kd.string _ 9 ?hg (N:=12) ?hd (xs:=([(⟨#[97,10]⟩:ByteArray),(⟨#[98,10]⟩:ByteArray),(⟨#[121,10]⟩:ByteArray)]:List ByteArray)) (inner:=[.string (⟨#[97,10]⟩:ByteArray), .string (⟨#[98,10]⟩:ByteArray), .string (⟨#[121,10]⟩:ByteArray)]) (ok:=fun _=>True) (okp:=fun _=>True) ?hr ?hp (fun _ hk=>hk) trivial (Below.refl _ _) (Nat.le_refl _) (by simp) ?_;(case hd=>rfl);(case hg=>rfl);(case hr=>first|(go_simp;done)|(go_simp;rfl));(case hp=>exact(Reps.one (show Kd.M Kd.string _ _ _ (⟨#[97,10]⟩:ByteArray) [.string (⟨#[97,10]⟩:ByteArray)] from rfl) (Reps.one (show Kd.M Kd.string _ _ _ (⟨#[98,10]⟩:ByteArray) [.string (⟨#[98,10]⟩:ByteArray)] from rfl) (Reps.one (show Kd.M Kd.string _ _ _ (⟨#[121,10]⟩:ByteArray) [.string (⟨#[121,10]⟩:ByteArray)] from rfl) (Reps.none _ _)))));intro v108 w21 ho22 hb hg_ hnew_;clear hg_ hnew_;(first|rw[← Ny107.out] at ho22|(simp only[Int.reduceToNat] at ho22;rw[← Ny107.out] at ho22));have HO109:=Aside0.mk (Kd.R_lower (Kd.R_new' (Kd.R_new' ho22 (Kd.R_lt (pR_ HO103.out))) (Kd.R_lt (pR_ HO106.out))) (below_size bel_));replace HO103:=Aside0.mk (Kd.R_elder' (pR_ HO103.out) (Kd.R_base ho22) hb);replace HO106:=Aside0.mk (Kd.R_elder' (pR_ HO106.out) (Kd.R_base ho22) hb);replace HB:=Aside0.mk (below_step bel_ hb);clear hb ho22;obtain⟨Ao23,co23,eo23⟩:=Kd.R_slice HO106.out;subst eo23;obtain⟨Ao24,co24,eo24⟩:=Kd.R_slice HO109.out;subst eo24)|((with_reducible refine gate_dst (N:=13) rfl ?_);(try(refine gate_guard (by rfl) ?_;dsimp only));refine Kd.N_lit (Kd.slice 9 Kd.string) _ 22 ?hg (N':=13) ?hd (xs:=([y104,y107]:List (List ByteArray))) (inner:=[.slice Ao23 y104.length co23, .slice Ao24 y107.length co24]) (ok:=(fun k_=>some k_≠(v102:Value).ownBlock)) (okp:=(fun k_=>some k_≠(v102:Value).ownBlock)) ?hr ?hp (fun _ hk=>hk) ((show ∀ k_,w21.heap.size≤k_→(fun k_=>some k_≠(v102:Value).ownBlock) k_ from fun k_ hk=>Kd.fresh' (Kd.R_lt (pR_ HO103.out)) k_ hk) _ (Nat.le_refl _)) (Below.refl _ _) (Nat.le_refl _) (by simp) ?_;(case hd=>rfl);(case hg=>rfl);(case hr=>first|(go_simp;done)|(go_simp;rfl));(case hp=>first|exact(Reps.one (show Kd.FK (Kd.slice 9 Kd.string) _ _ y104 [.slice Ao23 y104.length co23] from (Kd.FK_slice_mk (Kd.R_reads' (Kd.R_mono (ok':=(fun k_=>some k_≠(v102:Value).ownBlock)) (HO106.out) (fun k_ hk=>hk.1.2))).2.1 (Kd.R_F (Kd.R_mono (ok':=(fun k_=>some k_≠(v102:Value).ownBlock)) (HO106.out) (fun k_ hk=>hk.1.2))))) (Reps.one (show Kd.FK (Kd.slice 9 Kd.string) _ _ y107 [.slice Ao24 y107.length co24] from (Kd.FK_slice_mk (Kd.R_reads' (Kd.R_mono (ok':=(fun k_=>some k_≠(v102:Value).ownBlock)) (HO109.out) (fun k_ hk=>hk.1.2))).2.1 (Kd.R_F (Kd.R_mono (ok':=(fun k_=>some k_≠(v102:Value).ownBlock)) (HO109.out) (fun k_ hk=>hk.1.2))))) (Reps.none _ _)))|exact(Reps.one (show Kd.FK (Kd.slice 9 Kd.string) _ _ y104 [.slice Ao23 y104.length co23] from (Kd.FK_slice_mk (Kd.R_reads' (Kd.R_mono (ok':=(fun k_=>some k_≠(v102:Value).ownBlock)) (HO106.out) (fun k_ hk=>hk.1.2))).2.1 (Kd.R_F (Kd.R_mono (ok':=(fun k_=>some k_≠(v102:Value).ownBlock)) (Kd.R_drewN HO106.out _) (fun k_ hk=>hk.1.2))))) (Reps.one (show Kd.FK (Kd.slice 9 Kd.string) _ _ y107 [.slice Ao24 y107.length co24] from (Kd.FK_slice_mk (Kd.R_reads' (Kd.R_mono (ok':=(fun k_=>some k_≠(v102:Value).ownBlock)) (HO109.out) (fun k_ hk=>hk.1.2))).2.1 (Kd.R_F (Kd.R_mono (ok':=(fun k_=>some k_≠(v102:Value).ownBlock)) (Kd.R_drewN HO109.out _) (fun k_ hk=>hk.1.2))))) (Reps.none _ _))));intro v111 w25 ho26 hb hg_ hnew_;clear hg_ hnew_;(first|rw[← Ny110.out] at ho26|(simp only[Int.reduceToNat] at ho26;rw[← Ny110.out] at ho26));replace HO103:=Aside0.mk (Kd.R_below (pR_ HO103.out) hb);have HO112:=Aside0.mk (Kd.N_lower ho26 (below_size bel_));replace HB:=Aside0.mk (below_step bel_ hb);clear HO106;clear HO109;clear hb ho26;obtain⟨Ao27,co27,eo27⟩:=Kd.R_slice HO103.out;subst eo27;obtain⟨Ao28,co28,eo28⟩:=Kd.N_slice HO112.out;subst eo28)|((with_reducible refine gate_callee (f:=18) rfl ?_);refine goesL_ (some 15) rfl rfl Tryz.func18 (by kernel_rfl) rfl #[.slice Ao27 y101.length co27, .slice Ao28 y110.length co28, .agg #[.int .i64 0, .bool false]] rfl am_ ?_;(with_reducible refine(merge_Merge.calls (fun k_=>some k_=(.slice Ao27 y101.length co27:Value).ownBlock) _ _ y101 (fun k_=>some k_≠(.slice Ao27 y101.length co27:Value).ownBlock) _ _ y110 0 false t113 t116 _ ?side1 ?side2 A1.out).mono ?_);(case side1=>exact Kd.R_V (Kd.R_tight rfl (Kd.R_apart' (HO103.out) (Kd.N_typed HO112.out) (by decide))));(case side2=>exact Kd.N_V (HO112.out));rintro e w29 ⟨v114,rfl,ho0,hb⟩;refine⟨_,rfl,?_⟩;replace HO103:=Aside0.mk (Kd.R_below (pR_ HO103.out) hb);replace HO112:=Aside0.mk (Kd.N_elder' (pN_ HO112.out) (Kd.N_base ho0) hb);have HO115:=Aside0.mk (Kd.N_lower (Kd.N_mono (ok':=fun k_=>True) ho0 (fun k_ hk_=>trivial)) (below_size bel_));replace HB:=Aside0.mk (below_step bel_ hb);(try clear hb);(try clear hb2);(try clear hk);(try clear hi);(try clear ho0))|((with_reducible refine gate_dst (N:=20) rfl ?_);(try(refine gate_guard (by rfl) ?_;dsimp only));refine Kd.R_lit Kd.string _ 9 ?hg (N:=20) ?hd (xs:=([(⟨#[120,10]⟩:ByteArray),(⟨#[98,10]⟩:ByteArray),(⟨#[99,10]⟩:ByteArray)]:List ByteArray)) (inner:=[.string (⟨#[120,10]⟩:ByteArray), .string (⟨#[98,10]⟩:ByteArray), .string (⟨#[99,10]⟩:ByteArray)]) (ok:=fun _=>True) (okp:=fun _=>True) ?hr ?hp (fun _ hk=>hk) trivial (Below.refl _ _) (Nat.le_refl _) (by simp) ?_;(case hd=>rfl);(case hg=>rfl);(case hr=>first|(go_simp;done)|(go_simp;rfl));(case hp=>exact(Reps.one (show Kd.M Kd.string _ _ _ (⟨#[120,10]⟩:ByteArray) [.string (⟨#[120,10]⟩:ByteArray)] from rfl) (Reps.one (show Kd.M Kd.string _ _ _ (⟨#[98,10]⟩:ByteArray) [.string (⟨#[98,10]⟩:ByteArray)] from rfl) (Reps.one (show Kd.M Kd.string _ _ _ (⟨#[99,10]⟩:ByteArray) [.string (⟨#[99,10]⟩:ByteArray)] from rfl) (Reps.none _ _)))));intro v118 w30 ho31 hb hg_ hnew_;clear hg_ hnew_;(first|rw[← Ny117.out] at ho31|(simp only[Int.reduceToNat] at ho31;rw[← Ny117.out] at ho31));replace HO112:=Aside0.mk (Kd.N_elder' (pN_ HO112.out) (Kd.R_base ho31) hb);replace HO115:=Aside0.mk (Kd.N_elder' (pN_ HO115.out) (Kd.R_base ho31) hb);have HO119:=Aside0.mk (Kd.R_lower (Kd.R_new' ho31 (Kd.R_lt (pR_ HO103.out))) (below_size bel_));replace HO103:=Aside0.mk (Kd.R_elder' (pR_ HO103.out) (Kd.R_base ho31) hb);replace HB:=Aside0.mk (below_step bel_ hb);clear hb ho31)|((with_reducible refine gate_dst (N:=21) rfl ?_);(try(refine gate_guard (by rfl) ?_;dsimp only));refine Kd.R_lit Kd.string _ 9 ?hg (N:=21) ?hd (xs:=([(⟨#[122,10]⟩:ByteArray),(⟨#[98,10]⟩:ByteArray),(⟨#[121,10]⟩:ByteArray)]:List ByteArray)) (inner:=[.string (⟨#[122,10]⟩:ByteArray), .string (⟨#[98,10]⟩:ByteArray), .string (⟨#[121,10]⟩:ByteArray)]) (ok:=fun _=>True) (okp:=fun _=>True) ?hr ?hp (fun _ hk=>hk) trivial (Below.refl _ _) (Nat.le_refl _) (by simp) ?_;(case hd=>rfl);(case hg=>rfl);(case hr=>first|(go_simp;done)|(go_simp;rfl));(case hp=>exact(Reps.one (show Kd.M Kd.string _ _ _ (⟨#[122,10]⟩:ByteArray) [.string (⟨#[122,10]⟩:ByteArray)] from rfl) (Reps.one (show Kd.M Kd.string _ _ _ (⟨#[98,10]⟩:ByteArray) [.string (⟨#[98,10]⟩:ByteArray)] from rfl) (Reps.one (show Kd.M Kd.string _ _ _ (⟨#[121,10]⟩:ByteArray) [.string (⟨#[121,10]⟩:ByteArray)] from rfl) (Reps.none _ _)))));intro v121 w32 ho33 hb hg_ hnew_;clear hg_ hnew_;(first|rw[← Ny120.out] at ho33|(simp only[Int.reduceToNat] at ho33;rw[← Ny120.out] at ho33));replace HO112:=Aside0.mk (Kd.N_elder' (pN_ HO112.out) (Kd.R_base ho33) hb);replace HO115:=Aside0.mk (Kd.N_elder' (pN_ HO115.out) (Kd.R_base ho33) hb);have HO122:=Aside0.mk (Kd.R_lower (Kd.R_new' (Kd.R_new' ho33 (Kd.R_lt (pR_ HO103.out))) (Kd.R_lt (pR_ HO119.out))) (below_size bel_));replace HO103:=Aside0.mk (Kd.R_elder' (pR_ HO103.out) (Kd.R_base ho33) hb);replace HO119:=Aside0.mk (Kd.R_elder' (pR_ HO119.out) (Kd.R_base ho33) hb);replace HB:=Aside0.mk (below_step bel_ hb);clear hb ho33;obtain⟨Ao34,co34,eo34⟩:=Kd.R_slice HO119.out;subst eo34;obtain⟨Ao35,co35,eo35⟩:=Kd.R_slice HO122.out;subst eo35)|((with_reducible refine gate_dst (N:=22) rfl ?_);(try(refine gate_guard (by rfl) ?_;dsimp only));refine Kd.N_lit (Kd.slice 9 Kd.string) _ 22 ?hg (N':=22) ?hd (xs:=([y117,y120]:List (List ByteArray))) (inner:=[.slice Ao34 y117.length co34, .slice Ao35 y120.length co35]) (ok:=(fun k_=>some k_≠(.slice Ao27 y101.length co27:Value).ownBlock∧some k_≠(.slice Ao28 y110.length co28:Value).ownBlock∧some k_≠(v114:Value).ownBlock)) (okp:=(fun k_=>some k_≠(.slice Ao27 y101.length co27:Value).ownBlock∧some k_≠(.slice Ao28 y110.length co28:Value).ownBlock∧some k_≠(v114:Value).ownBlock)) ?hr ?hp (fun _ hk=>hk) ((show ∀ k_,w32.heap.size≤k_→(fun k_=>some k_≠(.slice Ao27 y101.length co27:Value).ownBlock∧some k_≠(.slice Ao28 y110.length co28:Value).ownBlock∧some k_≠(v114:Value).ownBlock) k_ from fun k_ hk=>⟨Kd.fresh' (Kd.R_lt (pR_ HO103.out)) k_ hk,Kd.fresh' (Kd.N_lt (pN_ HO112.out)) k_ hk,Kd.fresh' (Kd.N_lt (pN_ HO115.out)) k_ hk⟩) _ (Nat.le_refl _)) (Below.refl _ _) (Nat.le_refl _) (by simp) ?_;(case hd=>rfl);(case hg=>rfl);(case hr=>first|(go_simp;done)|(go_simp;rfl));(case hp=>exact(Reps.one (show Kd.FK (Kd.slice 9 Kd.string) _ _ y117 [.slice Ao34 y117.length co34] from (Kd.FK_slice_mk (Kd.R_reads' (Kd.R_mono (ok':=(fun k_=>some k_≠(.slice Ao27 y101.length co27:Value).ownBlock∧some k_≠(.slice Ao28 y110.length co28:Value).ownBlock∧some k_≠(v114:Value).ownBlock)) (Kd.R_apart' (Kd.R_apart' (HO119.out) (Kd.N_typed HO112.out) (by decide)) (Kd.N_typed HO115.out) (by decide)) (fun k_ hk=>⟨hk.1.1.1.2,⟨hk.1.2,hk.2⟩⟩))).2.1 (Kd.R_F (Kd.R_mono (ok':=(fun k_=>some k_≠(.slice Ao27 y101.length co27:Value).ownBlock∧some k_≠(.slice Ao28 y110.length co28:Value).ownBlock∧some k_≠(v114:Value).ownBlock)) (Kd.R_apart' (Kd.R_apart' (HO119.out) (Kd.N_typed HO112.out) (by decide)) (Kd.N_typed HO115.out) (by decide)) (fun k_ hk=>⟨hk.1.1.1.2,⟨hk.1.2,hk.2⟩⟩))))) (Reps.one (show Kd.FK (Kd.slice 9 Kd.string) _ _ y120 [.slice Ao35 y120.length co35] from (Kd.FK_slice_mk (Kd.R_reads' (Kd.R_mono (ok':=(fun k_=>some k_≠(.slice Ao27 y101.length co27:Value).ownBlock∧some k_≠(.slice Ao28 y110.length co28:Value).ownBlock∧some k_≠(v114:Value).ownBlock)) (Kd.R_apart' (Kd.R_apart' (HO122.out) (Kd.N_typed HO112.out) (by decide)) (Kd.N_typed HO115.out) (by decide)) (fun k_ hk=>⟨hk.1.1.1.2,⟨hk.1.2,hk.2⟩⟩))).2.1 (Kd.R_F (Kd.R_mono (ok':=(fun k_=>some k_≠(.slice Ao27 y101.length co27:Value).ownBlock∧some k_≠(.slice Ao28 y110.length co28:Value).ownBlock∧some k_≠(v114:Value).ownBlock)) (Kd.R_apart' (Kd.R_apart' (HO122.out) (Kd.N_typed HO112.out) (by decide)) (Kd.N_typed HO115.out) (by decide)) (fun k_ hk=>⟨hk.1.1.1.2,⟨hk.1.2,hk.2⟩⟩))))) (Reps.none _ _))));intro v124 w36 ho37 hb hg_ hnew_;clear hg_ hnew_;(first|rw[← Ny123.out] at ho37|(simp only[Int.reduceToNat] at ho37;rw[← Ny123.out] at ho37));replace HO103:=Aside0.mk (Kd.R_below (pR_ HO103.out) hb);replace HO112:=Aside0.mk (Kd.N_elder' (pN_ HO112.out) (Kd.N_base ho37) hb);replace HO115:=Aside0.mk (Kd.N_elder' (pN_ HO115.out) (Kd.N_base ho37) hb);have HO125:=Aside0.mk (Kd.N_lower ho37 (below_size bel_));replace HB:=Aside0.mk (below_step bel_ hb);clear HO119;clear HO122;clear hb ho37;obtain⟨Ao38,co38,eo38⟩:=Kd.N_slice HO125.out;subst eo38)|((with_reducible refine gate_callee (f:=18) rfl ?_);refine goesL_ (some 24) rfl rfl Tryz.func18 (by kernel_rfl) rfl #[.slice Ao27 y101.length co27, .slice Ao38 y123.length co38, .agg #[.int .i64 0, .bool false]] rfl am_ ?_;(with_reducible refine(merge_Merge.calls (fun k_=>some k_=(.slice Ao27 y101.length co27:Value).ownBlock) _ _ y101 (fun k_=>(some k_≠(.slice Ao27 y101.length co27:Value).ownBlock∧(some k_≠(.slice Ao28 y110.length co28:Value).ownBlock∧some k_≠(v114:Value).ownBlock))) _ _ y123 0 false t126 t129 _ ?side1 ?side2 A2.out).mono ?_);(case side1=>exact Kd.R_V (Kd.R_tight rfl (Kd.R_apart' (Kd.R_apart' (Kd.R_apart' (HO103.out) (Kd.N_typed HO112.out) (by decide)) (Kd.N_typed HO115.out) (by decide)) (Kd.N_typed HO125.out) (by decide))));(case side2=>exact Kd.N_V (HO125.out));rintro e w39 ⟨v127,rfl,ho0,hb⟩;refine⟨_,rfl,?_⟩;have HO128:=Aside0.mk (Kd.N_lower (Kd.N_mono (ok':=fun k_=>some k_≠(.slice Ao28 y110.length co28:Value).ownBlock∧some k_≠(v114:Value).ownBlock) ho0 (fun k_ hk_=>⟨Or.elim hk_ (fun hs_=>Or.elim hs_ (fun hs_=>((Kd.R_apart' (Kd.R_apart' (Kd.R_apart' (HO103.out) (Kd.N_typed HO112.out) (by decide)) (Kd.N_typed HO115.out) (by decide)) (Kd.N_typed HO125.out) (by decide)).1 k_ hs_.symm).1.1.2) (fun hs_=>hs_.2.1)) (fun hn_=>(Kd.fresh' (Kd.N_lt (pN_ HO112.out)) k_ hn_)),Or.elim hk_ (fun hs_=>Or.elim hs_ (fun hs_=>((Kd.R_apart' (Kd.R_apart' (Kd.R_apart' (HO103.out) (Kd.N_typed HO112.out) (by decide)) (Kd.N_typed HO115.out) (by decide)) (Kd.N_typed HO125.out) (by decide)).1 k_ hs_.symm).1.2) (fun hs_=>hs_.2.2)) (fun hn_=>(Kd.fresh' (Kd.N_lt (pN_ HO115.out)) k_ hn_))⟩)) (below_size bel_));replace HO103:=Aside0.mk (Kd.R_below (pR_ HO103.out) hb);replace HO112:=Aside0.mk (Kd.N_elder' (pN_ HO112.out) (Kd.N_base ho0) hb);replace HO115:=Aside0.mk (Kd.N_elder' (pN_ HO115.out) (Kd.N_base ho0) hb);replace HO125:=Aside0.mk (Kd.N_elder' (pN_ HO125.out) (Kd.N_base ho0) hb);replace HB:=Aside0.mk (below_step bel_ hb);(try clear hb);(try clear hb2);(try clear hk);(try clear hi);(try clear ho0))|((with_reducible refine gate_callee (f:=18) rfl ?_);refine goesL_ (some 30) rfl rfl Tryz.func18 (by kernel_rfl) rfl #[.slice Ao27 y101.length co27, .slice none 0 0, .agg #[.int .i64 0, .bool false]] rfl am_ ?_;(refine(merge_Merge.calls (fun k_=>some k_=(.slice Ao27 y101.length co27:Value).ownBlock) _ _ y101 (fun k_=>False) _ _ ([]:List (List ByteArray)) 0 false t130 t133 _ ?side1 ?side2 A3.out).mono ?_);(case side1=>exact Kd.R_V (Kd.R_tight rfl (Kd.R_apart' (Kd.R_apart' (Kd.R_apart' (Kd.R_apart' (HO103.out) (Kd.N_typed HO112.out) (by decide)) (Kd.N_typed HO115.out) (by decide)) (Kd.N_typed HO125.out) (by decide)) (Kd.N_typed HO128.out) (by decide))));(case side2=>exact Kd.V_nil _ _ _ _ _);rintro e w40 ⟨v131,rfl,ho0,hb⟩;refine⟨_,rfl,?_⟩;have HO132:=Aside0.mk (Kd.N_lower (Kd.N_mono (ok':=fun k_=>some k_≠(.slice Ao28 y110.length co28:Value).ownBlock∧some k_≠(v114:Value).ownBlock∧some k_≠(.slice Ao38 y123.length co38:Value).ownBlock∧some k_≠(v127:Value).ownBlock) ho0 (fun k_ hk_=>⟨Or.elim hk_ (fun hs_=>Or.elim hs_ (fun hs_=>((Kd.R_apart' (Kd.R_apart' (Kd.R_apart' (Kd.R_apart' (HO103.out) (Kd.N_typed HO112.out) (by decide)) (Kd.N_typed HO115.out) (by decide)) (Kd.N_typed HO125.out) (by decide)) (Kd.N_typed HO128.out) (by decide)).1 k_ hs_.symm).1.1.1.2) (fun hs_=>(hs_).elim)) (fun hn_=>(Kd.fresh' (Kd.N_lt (pN_ HO112.out)) k_ hn_)),Or.elim hk_ (fun hs_=>Or.elim hs_ (fun hs_=>((Kd.R_apart' (Kd.R_apart' (Kd.R_apart' (Kd.R_apart' (HO103.out) (Kd.N_typed HO112.out) (by decide)) (Kd.N_typed HO115.out) (by decide)) (Kd.N_typed HO125.out) (by decide)) (Kd.N_typed HO128.out) (by decide)).1 k_ hs_.symm).1.1.2) (fun hs_=>(hs_).elim)) (fun hn_=>(Kd.fresh' (Kd.N_lt (pN_ HO115.out)) k_ hn_)),Or.elim hk_ (fun hs_=>Or.elim hs_ (fun hs_=>((Kd.R_apart' (Kd.R_apart' (Kd.R_apart' (Kd.R_apart' (HO103.out) (Kd.N_typed HO112.out) (by decide)) (Kd.N_typed HO115.out) (by decide)) (Kd.N_typed HO125.out) (by decide)) (Kd.N_typed HO128.out) (by decide)).1 k_ hs_.symm).1.2) (fun hs_=>(hs_).elim)) (fun hn_=>(Kd.fresh' (Kd.N_lt (pN_ HO125.out)) k_ hn_)),Or.elim hk_ (fun hs_=>Or.elim hs_ (fun hs_=>((Kd.R_apart' (Kd.R_apart' (Kd.R_apart' (Kd.R_apart' (HO103.out) (Kd.N_typed HO112.out) (by decide)) (Kd.N_typed HO115.out) (by decide)) (Kd.N_typed HO125.out) (by decide)) (Kd.N_typed HO128.out) (by decide)).1 k_ hs_.symm).2) (fun hs_=>(hs_).elim)) (fun hn_=>(Kd.fresh' (Kd.N_lt (pN_ HO128.out)) k_ hn_))⟩)) (below_size bel_));replace HO103:=Aside0.mk (Kd.R_below (pR_ HO103.out) hb);replace HO112:=Aside0.mk (Kd.N_elder' (pN_ HO112.out) (Kd.N_base ho0) hb);replace HO115:=Aside0.mk (Kd.N_elder' (pN_ HO115.out) (Kd.N_base ho0) hb);replace HO125:=Aside0.mk (Kd.N_elder' (pN_ HO125.out) (Kd.N_base ho0) hb);replace HO128:=Aside0.mk (Kd.N_elder' (pN_ HO128.out) (Kd.N_base ho0) hb);replace HB:=Aside0.mk (below_step bel_ hb);(try clear hb);(try clear hb2);(try clear hk);(try clear hi);(try clear ho0);obtain⟨Ao41,co41,eo41⟩:=Kd.N_slice HO115.out;subst eo41;have p134:0≤(0:Int):=(by omega);have q134:0 < (t113.length:Int):=dt_;obtain⟨ad134,A134_1,c134_1,A134_2,c134_2,A134_3,c134_3,e134,hx134_0,hx134_1,hx134_2,hx134_3,hl134_1,hi134_1,hl134_2,hi134_2,hl134_3,hi134_3⟩:=at_T66 (Kd.N_reads' HO115.out).2.2 0 p134 q134;(try rw[← Nbq14.out] at hx134_0);cases e134;obtain⟨ce134,hce134,hMe134,hcc134⟩:=Kd.N_get HO115.out z66 0 p134 (by first|exact q134|exact dt_|(have e_:=(Kd.N_reads' HO115.out).1;omega));obtain⟨ua134_1,uc134_1,ua134_2,uc134_2,ua134_3,uc134_3,rfl,ul134_1,ge134_1,ul134_2,ge134_2,ul134_3,ge134_3⟩:=k66_openF hMe134;have hv134_1:=hcc134 1 _ rfl;rw[add_field _ _ 1 (by omega)] at hv134_1;replace hv134_1:=Option.some.inj (hv134_1.symm.trans hx134_1);injection hv134_1 with hva_ hvn_ hvc_;rw[hva_] at ge134_1;rw[hvc_] at ul134_1;have HL134_1:=Aside0.mk (show Kd.V Kd.string 9 _ w.heap.size _ _ ((rd_T66 t113 0).f1) from Kd.V_mk ul134_1 ge134_1);clear hva_ hvn_ hvc_ ge134_1 ul134_1;have hv134_2:=hcc134 2 _ rfl;rw[add_field _ _ 2 (by omega)] at hv134_2;replace hv134_2:=Option.some.inj (hv134_2.symm.trans hx134_2);injection hv134_2 with hva_ hvn_ hvc_;rw[hva_] at ge134_2;rw[hvc_] at ul134_2;have HL134_2:=Aside0.mk (show Kd.V Kd.string 9 _ w.heap.size _ _ ((rd_T66 t113 0).f2) from Kd.V_mk ul134_2 ge134_2);clear hva_ hvn_ hvc_ ge134_2 ul134_2;have hv134_3:=hcc134 3 _ rfl;rw[add_field _ _ 3 (by omega)] at hv134_3;replace hv134_3:=Option.some.inj (hv134_3.symm.trans hx134_3);injection hv134_3 with hva_ hvn_ hvc_;rw[hva_] at ge134_3;rw[hvc_] at ul134_3;have HL134_3:=Aside0.mk (show Kd.V (Kd.slice 9 Kd.string) 22 _ w.heap.size _ _ ((rd_T66 t113 0).f3) from Kd.V_mk ul134_3 ge134_3);clear hva_ hvn_ hvc_ ge134_3 ul134_3;clear hcc134 hce134;have qi134:(0 < t113.length)=True:=eq_true (by omega);(try rw[show ((0:Int)).toNat=0 from rfl] at hx134_0);(try rw[show 0 * 4=0 from rfl] at hx134_0);(try rw[Addr.add_zero'] at hx134_0);(try rw[show ((0:Int)).toNat=0 from rfl] at hx134_1);(try rw[show 0 * 4=0 from rfl] at hx134_1);(try rw[Addr.add_zero'] at hx134_1);(try rw[show ((0:Int)).toNat=0 from rfl] at hx134_2);(try rw[show 0 * 4=0 from rfl] at hx134_2);(try rw[Addr.add_zero'] at hx134_2);(try rw[show ((0:Int)).toNat=0 from rfl] at hx134_3);(try rw[show 0 * 4=0 from rfl] at hx134_3);(try rw[Addr.add_zero'] at hx134_3);have HR134_1:=Aside0.mk hi134_1;have HC134_1:=Aside0.mk hl134_1;clear hi134_1 hl134_1;have HR134_2:=Aside0.mk hi134_2;have HC134_2:=Aside0.mk hl134_2;clear hi134_2 hl134_2;have HR134_3:=Aside0.mk hi134_3;have HC134_3:=Aside0.mk hl134_3;clear hi134_3 hl134_3;replace p134:=eq_true p134;replace q134:=eq_true q134;have p135:0≤(0:Int):=(by omega);have q135:0 < (t113.length:Int):=dt_;obtain⟨ad135,A135_1,c135_1,A135_2,c135_2,A135_3,c135_3,e135,hx135_0,hx135_1,hx135_2,hx135_3,hl135_1,hi135_1,hl135_2,hi135_2,hl135_3,hi135_3⟩:=at_T66 (Kd.N_reads' HO115.out).2.2 0 p135 q135;(try rw[← Nbq14.out] at hx135_0);obtain rfl:ad134=ad135:=(by injection e135);obtain⟨ce135,hce135,hMe135,hcc135⟩:=Kd.N_get HO115.out z66 0 p135 (by first|exact q135|exact dt_|(have e_:=(Kd.N_reads' HO115.out).1;omega));obtain⟨ua135_1,uc135_1,ua135_2,uc135_2,ua135_3,uc135_3,rfl,ul135_1,ge135_1,ul135_2,ge135_2,ul135_3,ge135_3⟩:=k66_openF hMe135;have hv135_1:=hcc135 1 _ rfl;rw[add_field _ _ 1 (by omega)] at hv135_1;replace hv135_1:=Option.some.inj (hv135_1.symm.trans hx135_1);injection hv135_1 with hva_ hvn_ hvc_;rw[hva_] at ge135_1;rw[hvc_] at ul135_1;have HL135_1:=Aside0.mk (show Kd.V Kd.string 9 _ w.heap.size _ _ ((rd_T66 t113 0).f1) from Kd.V_mk ul135_1 ge135_1);clear hva_ hvn_ hvc_ ge135_1 ul135_1;have hv135_2:=hcc135 2 _ rfl;rw[add_field _ _ 2 (by omega)] at hv135_2;replace hv135_2:=Option.some.inj (hv135_2.symm.trans hx135_2);injection hv135_2 with hva_ hvn_ hvc_;rw[hva_] at ge135_2;rw[hvc_] at ul135_2;have HL135_2:=Aside0.mk (show Kd.V Kd.string 9 _ w.heap.size _ _ ((rd_T66 t113 0).f2) from Kd.V_mk ul135_2 ge135_2);clear hva_ hvn_ hvc_ ge135_2 ul135_2;have hv135_3:=hcc135 3 _ rfl;rw[add_field _ _ 3 (by omega)] at hv135_3;replace hv135_3:=Option.some.inj (hv135_3.symm.trans hx135_3);injection hv135_3 with hva_ hvn_ hvc_;rw[hva_] at ge135_3;rw[hvc_] at ul135_3;have HL135_3:=Aside0.mk (show Kd.V (Kd.slice 9 Kd.string) 22 _ w.heap.size _ _ ((rd_T66 t113 0).f3) from Kd.V_mk ul135_3 ge135_3);clear hva_ hvn_ hvc_ ge135_3 ul135_3;clear hcc135 hce135;have qi135:(0 < t113.length)=True:=eq_true (by omega);(try rw[show ((0:Int)).toNat=0 from rfl] at hx135_0);(try rw[show 0 * 4=0 from rfl] at hx135_0);(try rw[Addr.add_zero'] at hx135_0);(try rw[show ((0:Int)).toNat=0 from rfl] at hx135_1);(try rw[show 0 * 4=0 from rfl] at hx135_1);(try rw[Addr.add_zero'] at hx135_1);(try rw[show ((0:Int)).toNat=0 from rfl] at hx135_2);(try rw[show 0 * 4=0 from rfl] at hx135_2);(try rw[Addr.add_zero'] at hx135_2);(try rw[show ((0:Int)).toNat=0 from rfl] at hx135_3);(try rw[show 0 * 4=0 from rfl] at hx135_3);(try rw[Addr.add_zero'] at hx135_3);have HR135_1:=Aside0.mk hi135_1;have HC135_1:=Aside0.mk hl135_1;clear hi135_1 hl135_1;have HR135_2:=Aside0.mk hi135_2;have HC135_2:=Aside0.mk hl135_2;clear hi135_2 hl135_2;have HR135_3:=Aside0.mk hi135_3;have HC135_3:=Aside0.mk hl135_3;clear hi135_3 hl135_3;replace p135:=eq_true p135;replace q135:=eq_true q135;have ea_:=Option.some.inj (hx134_1.symm.trans hx135_1);injection ea_ with ea_ en_ ec_;subst ea_;subst ec_;clear en_;have ea_:=Option.some.inj (hx134_2.symm.trans hx135_2);injection ea_ with ea_ en_ ec_;subst ea_;subst ec_;clear en_;have ea_:=Option.some.inj (hx134_3.symm.trans hx135_3);injection ea_ with ea_ en_ ec_;subst ea_;subst ec_;clear en_;have p136:0≤(2:Int):=(by omega);have q136:2 < (((rd_T66 t113 0).f1).length:Int):=dt_;obtain⟨ad136,e136,hx136_0⟩:=Kd.at_string (pC_ HR135_1.out) 2 p136 q136;cases e136;(try simp only[show (2:Int).toNat=2 from rfl,Nat.reduceMul,Nat.reduceEqDiff,Go.Addr.add, ↓reduceIte] at hx136_0);have qi136:(2 < ((rd_T66 t113 0).f1).length)=True:=eq_true (by omega);(try rw[show ((2:Int)).toNat=2 from rfl] at hx136_0);replace p136:=eq_true p136;replace q136:=eq_true q136;obtain⟨Ao42,co42,eo42⟩:=Kd.N_slice HO128.out;subst eo42;have p137:0≤(0:Int):=(by omega);have q137:0 < (t126.length:Int):=dt_;obtain⟨ad137,A137_1,c137_1,A137_2,c137_2,A137_3,c137_3,e137,hx137_0,hx137_1,hx137_2,hx137_3,hl137_1,hi137_1,hl137_2,hi137_2,hl137_3,hi137_3⟩:=at_T66 (Kd.N_reads' HO128.out).2.2 0 p137 q137;(try rw[← Nbq14.out] at hx137_0);cases e137;obtain⟨ce137,hce137,hMe137,hcc137⟩:=Kd.N_get HO128.out z66 0 p137 (by first|exact q137|exact dt_|(have e_:=(Kd.N_reads' HO128.out).1;omega));obtain⟨ua137_1,uc137_1,ua137_2,uc137_2,ua137_3,uc137_3,rfl,ul137_1,ge137_1,ul137_2,ge137_2,ul137_3,ge137_3⟩:=k66_openF hMe137;have hv137_1:=hcc137 1 _ rfl;rw[add_field _ _ 1 (by omega)] at hv137_1;replace hv137_1:=Option.some.inj (hv137_1.symm.trans hx137_1);injection hv137_1 with hva_ hvn_ hvc_;rw[hva_] at ge137_1;rw[hvc_] at ul137_1;have HL137_1:=Aside0.mk (show Kd.V Kd.string 9 _ w.heap.size _ _ ((rd_T66 t126 0).f1) from Kd.V_mk ul137_1 ge137_1);clear hva_ hvn_ hvc_ ge137_1 ul137_1;have hv137_2:=hcc137 2 _ rfl;rw[add_field _ _ 2 (by omega)] at hv137_2;replace hv137_2:=Option.some.inj (hv137_2.symm.trans hx137_2);injection hv137_2 with hva_ hvn_ hvc_;rw[hva_] at ge137_2;rw[hvc_] at ul137_2;have HL137_2:=Aside0.mk (show Kd.V Kd.string 9 _ w.heap.size _ _ ((rd_T66 t126 0).f2) from Kd.V_mk ul137_2 ge137_2);clear hva_ hvn_ hvc_ ge137_2 ul137_2;have hv137_3:=hcc137 3 _ rfl;rw[add_field _ _ 3 (by omega)] at hv137_3;replace hv137_3:=Option.some.inj (hv137_3.symm.trans hx137_3);injection hv137_3 with hva_ hvn_ hvc_;rw[hva_] at ge137_3;rw[hvc_] at ul137_3;have HL137_3:=Aside0.mk (show Kd.V (Kd.slice 9 Kd.string) 22 _ w.heap.size _ _ ((rd_T66 t126 0).f3) from Kd.V_mk ul137_3 ge137_3);clear hva_ hvn_ hvc_ ge137_3 ul137_3;clear hcc137 hce137;have qi137:(0 < t126.length)=True:=eq_true (by omega);(try rw[show ((0:Int)).toNat=0 from rfl] at hx137_0);(try rw[show 0 * 4=0 from rfl] at hx137_0);(try rw[Addr.add_zero'] at hx137_0);(try rw[show ((0:Int)).toNat=0 from rfl] at hx137_1);(try rw[show 0 * 4=0 from rfl] at hx137_1);(try rw[Addr.add_zero'] at hx137_1);(try rw[show ((0:Int)).toNat=0 from rfl] at hx137_2);(try rw[show 0 * 4=0 from rfl] at hx137_2);(try rw[Addr.add_zero'] at hx137_2);(try rw[show ((0:Int)).toNat=0 from rfl] at hx137_3);(try rw[show 0 * 4=0 from rfl] at hx137_3);(try rw[Addr.add_zero'] at hx137_3);have HR137_1:=Aside0.mk hi137_1;have HC137_1:=Aside0.mk hl137_1;clear hi137_1 hl137_1;have HR137_2:=Aside0.mk hi137_2;have HC137_2:=Aside0.mk hl137_2;clear hi137_2 hl137_2;have HR137_3:=Aside0.mk hi137_3;have HC137_3:=Aside0.mk hl137_3;clear hi137_3 hl137_3;replace p137:=eq_true p137;replace q137:=eq_true q137;have p138:0≤(1:Int):=(by omega);have q138:1 < (t126.length:Int):=dt_;obtain⟨ad138,A138_1,c138_1,A138_2,c138_2,A138_3,c138_3,e138,hx138_0,hx138_1,hx138_2,hx138_3,hl138_1,hi138_1,hl138_2,hi138_2,hl138_3,hi138_3⟩:=at_T66 (Kd.N_reads' HO128.out).2.2 1 p138 q138;(try rw[← Nbq14.out] at hx138_0);obtain rfl:ad137=ad138:=(by injection e138);obtain⟨ce138,hce138,hMe138,hcc138⟩:=Kd.N_get HO128.out z66 1 p138 (by first|exact q138|exact dt_|(have e_:=(Kd.N_reads' HO128.out).1;omega));obtain⟨ua138_1,uc138_1,ua138_2,uc138_2,ua138_3,uc138_3,rfl,ul138_1,ge138_1,ul138_2,ge138_2,ul138_3,ge138_3⟩:=k66_openF hMe138;have hv138_1:=hcc138 1 _ rfl;rw[add_field _ _ 1 (by omega)] at hv138_1;replace hv138_1:=Option.some.inj (hv138_1.symm.trans hx138_1);injection hv138_1 with hva_ hvn_ hvc_;rw[hva_] at ge138_1;rw[hvc_] at ul138_1;have HL138_1:=Aside0.mk (show Kd.V Kd.string 9 _ w.heap.size _ _ ((rd_T66 t126 1).f1) from Kd.V_mk ul138_1 ge138_1);clear hva_ hvn_ hvc_ ge138_1 ul138_1;have hv138_2:=hcc138 2 _ rfl;rw[add_field _ _ 2 (by omega)] at hv138_2;replace hv138_2:=Option.some.inj (hv138_2.symm.trans hx138_2);injection hv138_2 with hva_ hvn_ hvc_;rw[hva_] at ge138_2;rw[hvc_] at ul138_2;have HL138_2:=Aside0.mk (show Kd.V Kd.string 9 _ w.heap.size _ _ ((rd_T66 t126 1).f2) from Kd.V_mk ul138_2 ge138_2);clear hva_ hvn_ hvc_ ge138_2 ul138_2;have hv138_3:=hcc138 3 _ rfl;rw[add_field _ _ 3 (by omega)] at hv138_3;replace hv138_3:=Option.some.inj (hv138_3.symm.trans hx138_3);injection hv138_3 with hva_ hvn_ hvc_;rw[hva_] at ge138_3;rw[hvc_] at ul138_3;have HL138_3:=Aside0.mk (show Kd.V (Kd.slice 9 Kd.string) 22 _ w.heap.size _ _ ((rd_T66 t126 1).f3) from Kd.V_mk ul138_3 ge138_3);clear hva_ hvn_ hvc_ ge138_3 ul138_3;clear hcc138 hce138;(try simp only[show (1:Int).toNat=1 from rfl,Nat.reduceMul,Nat.reduceEqDiff,Go.Addr.add, ↓reduceIte] at hx138_0);(try simp only[show (1:Int).toNat=1 from rfl,Nat.reduceMul,Nat.reduceEqDiff,Go.Addr.add, ↓reduceIte] at hx138_1);(try simp only[show (1:Int).toNat=1 from rfl,Nat.reduceMul,Nat.reduceEqDiff,Go.Addr.add, ↓reduceIte] at hx138_2);(try simp only[show (1:Int).toNat=1 from rfl,Nat.reduceMul,Nat.reduceEqDiff,Go.Addr.add, ↓reduceIte] at hx138_3);have qi138:(1 < t126.length)=True:=eq_true (by omega);(try rw[show ((1:Int)).toNat=1 from rfl] at hx138_0);(try rw[show 1 * 4=4 from rfl] at hx138_0);(try rw[show ((1:Int)).toNat=1 from rfl] at hx138_1);(try rw[show 1 * 4=4 from rfl] at hx138_1);(try rw[show ((1:Int)).toNat=1 from rfl] at hx138_2);(try rw[show 1 * 4=4 from rfl] at hx138_2);(try rw[show ((1:Int)).toNat=1 from rfl] at hx138_3);(try rw[show 1 * 4=4 from rfl] at hx138_3);have HR138_1:=Aside0.mk hi138_1;have HC138_1:=Aside0.mk hl138_1;clear hi138_1 hl138_1;have HR138_2:=Aside0.mk hi138_2;have HC138_2:=Aside0.mk hl138_2;clear hi138_2 hl138_2;have HR138_3:=Aside0.mk hi138_3;have HC138_3:=Aside0.mk hl138_3;clear hi138_3 hl138_3;replace p138:=eq_true p138;replace q138:=eq_true q138)));go_ret;exact⟨by first|rfl|(simp[errW_none,errW_some] <;> rfl)|(simp[*,errW_none,errW_some] <;> rfl),bel_⟩)
            (· exact nx_ c16 H)
           (· replace c15:=Bool.eq_false_iff.mpr c15;subst c15;have H1:=H;(rw[if_neg (show ¬ (false=true) by decide)] at H1);clear H;have H:=H1;clear H1;exact absurd (Option.some.inj H) (by rw[hrt_];decide))
          (· exact nx_ c13 H)
         (· (rw[if_neg c12] at H);have c12b0:((t126.length:Int) == 2)=false:=beq_eq_false_iff_ne.mpr c12;have c12b1:((t126.length:Int) != 2)=true:=bne_iff_ne.mpr c12;exact absurd (Option.some.inj H) (by rw[hrt_];decide))
        (· (rw[if_neg c11] at H);have c11b0:((rdOf ByteArray.empty ((rd_T66 t113 0).f1) 2).toList == ([121,10]:List UInt8))=false:=beq_eq_false_iff_ne.mpr c11;have c11b1:((rdOf ByteArray.empty ((rd_T66 t113 0).f1) 2).toList != ([121,10]:List UInt8))=true:=bne_iff_ne.mpr c11;exact absurd (Option.some.inj H) (by rw[hrt_];decide))
       (· exact nx_ c10 H)
      (· (rw[if_neg c9] at H);have c9b0:((((rd_T66 t113 0).f1).length:Int) == 3)=false:=beq_eq_false_iff_ne.mpr c9;have c9b1:((((rd_T66 t113 0).f1).length:Int) != 3)=true:=bne_iff_ne.mpr c9;exact absurd (Option.some.inj H) (by rw[hrt_];decide))
     (· exact nx_ c8 H)
    (· (rw[if_neg c7] at H);have c7b0:((t113.length:Int) == 1)=false:=beq_eq_false_iff_ne.mpr c7;have c7b1:((t113.length:Int) != 1)=true:=bne_iff_ne.mpr c7;exact absurd (Option.some.inj H) (by rw[hrt_];decide))
   (· (rw[if_neg c6] at H);have c6b0:(t133 == 1)=false:=beq_eq_false_iff_ne.mpr c6;have c6b1:(t133 != 1)=true:=bne_iff_ne.mpr c6;exact absurd (Option.some.inj H) (by rw[hrt_];decide))
  (· (rw[if_neg c5] at H);have c5b0:(t129 == 0)=false:=beq_eq_false_iff_ne.mpr c5;have c5b1:(t129 != 0)=true:=bne_iff_ne.mpr c5;exact absurd (Option.some.inj H) (by rw[hrt_];decide))
 (· (rw[if_neg c4] at H);have c4b0:(t116 == 0)=false:=beq_eq_false_iff_ne.mpr c4;have c4b1:(t116 != 0)=true:=bne_iff_ne.mpr c4;exact absurd (Option.some.inj H) (by rw[hrt_];decide))
def sennitlaw08_all.f (l0:List (S66)) (a1:Int):Option (List ByteArray × Bool):=(pick_Choose.f l0 0).bind fun t101=>(if a1=0 then ((pick_Clean.f l0).bind fun t104=>(some (t101,t104))) else (some (t101,false)))
end Go.Proofs.YtbbhdbeaikclcaaGreat.X
namespace Go.Proofs.YtbbhdbeaikclcaaGreat.X
open Go.RowKit Go.Proofs.YtbbhdbeaikclcaaGreatW.PrintWords Go.Proofs.YtbbhdbeaikclcaaGreatW.PrintLast Go.Proofs.YtbbhdbeaikclcaaGreatW.PrintMore
theorem ref_same01_l0 (a b:List ByteArray) (hl:a.length=b.length) (hm:a.length≤1000000000) : ∀ (r i:Nat),i+r=a.length→Gives (fun k=>sennitref01_Same.l0 k a b (i:Int)) (decide (a.drop i=b.drop i))
 | 0,i,hi=>Gives.of fun k=>by
  show sennitref01_Same.l0 (k+1) a b (i:Int)=_;rw[sennitref01_Same.l0,if_neg (by omega),List.drop_of_length_le (by omega),List.drop_of_length_le (by omega)];simp
 | r+1,i,hi=>by
  have ha:=dropCons (l:=a) (i:=i) (by omega);have hb:=dropCons (l:=b) (i:=i) (by omega)
  by_cases e:a[i]=b[i]
  ·
   (refine((ref_same01_l0 a b hl hm r (i+1) (by omega)).eq ?_).step fun k=>?_);(· simp only[ha,hb,e,List.cons.injEq,true_and]);(· show sennitref01_Same.l0 (k+1) a b (i:Int)=_;rw[sennitref01_Same.l0,if_pos (by omega),if_pos (by omega),if_pos (by omega),rdOfN (by omega),rdOfN (by omega),if_pos (strEq.2 e),gw1 (by omega)])
  (· (refine Gives.of fun k=>?_);show sennitref01_Same.l0 (k+1) a b (i:Int)=_;rw[sennitref01_Same.l0,if_pos (by omega),if_pos (by omega),if_pos (by omega),rdOfN (by omega),rdOfN (by omega),if_neg (fun h=>e (strEq.1 h))];simp only[ha,hb,e,List.cons.injEq,false_and,decide_false])
theorem ref_same01 (a b:List ByteArray) (hm:a.length≤1000000000):Gives (fun k=>sennitref01_Same.f k a b) (decide (a=b)):=by
 by_cases h:a.length=b.length
 (· (refine(ref_same01_l0 a b h hm a.length 0 (by omega)).same fun k=>?_);show sennitref01_Same.f k a b=_;(rw[sennitref01_Same.f,if_pos (by omega)];rfl));(· (refine Gives.pure fun k=>?_);show sennitref01_Same.f k a b=_;(have : ¬ a=b:=fun e=>h (by rw[e]));rw[sennitref01_Same.f,if_neg (by omega),decide_eq_false this])
def fewB (l:List ByteArray) (n:Nat):Bool:=decide (l.length≤n ∧ ∀ s ∈ l,s.size≤100)
theorem ref_few01_l0 (l:List ByteArray) (n:Nat) (hn:n≤1000000) : ∀ (r i k:Nat),i+r=n+1→2 * r+2≤k→sennitref01_Few.l0 k l (n:Int) (i:Int)=some (decide (l.length≤n ∧ ∀ s ∈ l.drop i,s.size≤100))
 | 0,i,k+2,hi,hk=>by
  (have e:((l.length:Int)≤(n:Int))=(l.length≤n):=by simp);rw[sennitref01_Few.l0]
  by_cases h:(i:Int) < l.length
  (· rw[if_pos h,decide_eq_false (show ¬ ((i:Int)≤(n:Int)) by omega),sennitref01_Few.j1,if_neg (by decide),decide_eq_false (by omega),decide_eq_false (by omega)]);(· rw[if_neg h,sennitref01_Few.j1,if_neg (by decide),List.drop_of_length_le (by omega)];simp)
 | r+1,i,k+2,hi,hk=>by
  rw[sennitref01_Few.l0]
  by_cases h:(i:Int) < l.length
  ·
   have hd:l.drop i=l[i] :: l.drop (i+1):=List.drop_eq_getElem_cons (by omega);rw[if_pos h,decide_eq_true (show ((i:Int)≤(n:Int)) by omega),sennitref01_Few.j1,if_pos rfl,if_pos (by omega),if_pos h,rdOfN (by omega),hd]
   by_cases h2:100 < l[i].size
   (· rw[if_pos (by omega),decide_eq_false];rintro⟨_,h3⟩;have:=h3 l[i] List.mem_cons_self;omega);(· rw[if_neg (by omega),gw1 (by omega)];have:=ref_few01_l0 l n hn r (i+1) k (by omega) (by omega);rw[this];simp only[List.forall_mem_cons,show l[i].size≤100 from by omega,true_and])
  (· rw[if_neg h,sennitref01_Few.j1,if_neg (by decide),List.drop_of_length_le (by omega)];simp)
theorem ref_few01 (l:List ByteArray) (n:Nat) (hn:n≤1000000):Gives (fun k=>sennitref01_Few.f k l (n:Int)) (fewB l n) :=
  ⟨2 * (n+1)+2,fun k hk=>by
    have:=ref_few01_l0 l n hn (n+1) 0 k (by omega) hk
    simpa [sennitref01_Few.f,fewB] using this⟩
theorem byte10 (c:UInt8):((c.toNat:Int)=10)↔c=10:=by
 constructor;(· intro h;(have:c.toNat=10:=by omega);exact UInt8.toNat_inj.1 this);(· (rintro rfl;rfl))
theorem index10 (u:List UInt8):(¬ (10:UInt8) ∈ u∧Lib.indexByte u 10 = -1)∨(∃ a b,u=a ++ 10 :: b ∧ ¬ (10:UInt8) ∈ a∧Lib.indexByte u 10=(a.length:Int)):=by
 induction u with
 | nil=>left;simp[Lib.indexByte]
 | cons x xs ih =>
  simp only[Lib.indexByte]
  by_cases e:x=10
  (· (right;exact⟨[],xs,by rw[e];rfl,by simp,by simp[e]⟩))
  ·
   (have e':(x == 10)=false:=by simp[e]);(have e2 : ¬ (10:UInt8)=x:=fun h=>e h.symm);rw[e']
   rcases ih with ⟨h1,h2⟩|⟨a,b,h0,h1,h2⟩
   (· (left;simp[h1,h2,e2]));(· right;refine⟨x :: a,b,by rw[h0];rfl,by simp[e2,h1],?_⟩;rw[if_neg (by decide),if_neg (by simp;omega),h2];simp)
theorem closed_eq (s:ByteArray):lineClosed s=(decide (s.data.toList.count 10=1) && decide (s.data.toList.getLast? = some 10)):=by
 have hs:=sizeLen s;rw[lineClosed,← Bool.decide_and,decide_eq_decide]
 rcases index10 s.data.toList with ⟨h1,h2⟩|⟨a,b,h0,h1,h2⟩
 (· (rw[h2,List.count_eq_zero.2 h1];omega))
 ·
  rw[h2,hs,h0,List.count_append,List.count_eq_zero.2 h1,List.count_cons_self,List.length_append,List.length_cons]
  cases b with
  | nil=>simp
  | cons y t =>
   rw[List.getLast?_append,List.getLast?_cons_cons];constructor;(· (intro ⟨_,h⟩;rw[List.length_cons] at h;omega))
   ·
    rintro⟨h3,h4⟩
    have h5:(y :: t).getLast? = some 10:=by
     cases hg:(y :: t).getLast? with
     | none=>simp at hg
     | some z=>rw[hg] at h4;exact h4
    have:=List.count_pos_iff.2 (List.mem_of_getLast? h5);omega
theorem open_eq (s:ByteArray):lineOpen s=(decide (0 < s.size) && decide (s.data.toList.count 10=0)):=by
 rw[lineOpen,← Bool.decide_and,decide_eq_decide,List.count_eq_zero]
 rcases index10 s.data.toList with ⟨h1,h2⟩|⟨a,b,h0,h1,h2⟩
 (· (rw[h2];simp[h1]))
 ·
  rw[h2];(have:(10:UInt8) ∈ s.data.toList:=by rw[h0];simp);constructor;(· (rintro⟨h,_⟩;omega));(· (rintro⟨_,h⟩;exact absurd this h))
theorem ref_feeds_l0 (s:ByteArray) (hs:s.size≤1000000000) : ∀ (r i k:Nat) (n:Nat),i+r=s.size→n≤i→r+1≤k→sennitref01_feeds.l0 k s (n:Int) (i:Int)=some (((n+(s.data.toList.drop i).count 10:Nat):Int))
 | 0,i,k+1,n,hi,hn,_=>by
  rw[sennitref01_feeds.l0,if_neg (by omega),List.drop_of_length_le (by rw[← sizeLen];omega)];simp
 | r+1,i,k+1,n,hi,hn,hk=>by
  have hd:=dropCons (l:=s.data.toList) (i:=i) (by rw[← sizeLen];omega);rw[sennitref01_feeds.l0,if_pos (by omega),if_pos (by omega),btN (by omega),hd];obtain⟨c,hc⟩ : ∃ c,s.data.toList[i]'(by rw[← sizeLen];omega)=c:=⟨_,rfl⟩;rw[hc,gw1 (i:=i) (by omega),gw1 (i:=n) (by omega)]
  by_cases e:c=10
  ·
   rw[if_pos ((byte10 c).2 e),e,List.count_cons_self,ref_feeds_l0 s hs r (i+1) k (n+1) (by omega) (by omega) (by omega)]
   congr 1;omega
  (· rw[if_neg (fun h=>e ((byte10 c).1 h)),List.count_cons_of_ne e,ref_feeds_l0 s hs r (i+1) k n (by omega) (by omega) (by omega)])
theorem ref_feeds (s:ByteArray) (hs:s.size≤1000000000) (k:Nat) (hk:s.size+1≤k):sennitref01_feeds.f k s=some ((s.data.toList.count 10:Nat):Int):=by
 have:=ref_feeds_l0 s hs s.size 0 k 0 (by omega) (by omega) hk;simpa [sennitref01_feeds.f] using this
theorem last_idx (s:ByteArray) (h:0 < s.size):s.data.toList.getLast? = some (s.data.toList[s.size - 1]'(by rw[← sizeLen];omega)):=by
 rw[List.getLast?_eq_getElem?,List.getElem?_eq_getElem (by simp at h ⊢;omega)];simp
theorem ref_line (s:ByteArray) (hs:s.size≤1000000000) (k:Nat) (hk:s.size+1≤k):sennitref01_Line.f k s=some (lineClosed s):=by
 rw[sennitref01_Line.f,ref_feeds s hs k hk,Option.bind_some,closed_eq]
 by_cases h1:s.data.toList.count 10=1
 ·
  have hp:0 < s.size:=by
   rw[sizeLen];exact List.length_pos_iff.2 (fun e=>by rw[e] at h1;simp at h1)
  (have ew:wrap64 ((s.size:Int) - 1)=((s.size - 1:Nat):Int):=by rw[gw (by omega) (by omega)];omega);rw[if_pos (by omega),ew,if_pos (by omega),if_pos (by omega),btN (by omega),last_idx s hp]
  congr 1
  rw[decide_eq_true h1,Bool.true_and,Bool.eq_iff_iff];simp only[beq_iff_eq,decide_eq_true_eq,Option.some.injEq,byte10]
 (· rw[if_neg (by omega),decide_eq_false h1];rfl)
theorem ref_may_l0 (l:List ByteArray) (hl:l.length≤1000000) (M:Nat) (hM:M≤1000000) (hs : ∀ s ∈ l,s.size≤M) : ∀ (r i k:Nat),i+r=l.length→r+M+2≤k→sennitref01_May.l0 k l (i:Int)=some (mayL (l.drop i))
 | 0,i,k+1,hi,_=>by
  rw[sennitref01_May.l0,if_neg (by omega),List.drop_of_length_le (by omega)];rfl
 | r+1,i,k+1,hi,hk=>by
  (have hil:i < l.length:=by omega);have hd:=dropCons hil;have hz:l[i].size≤M:=hs _ (List.getElem_mem _);have ih:=ref_may_l0 l hl M hM hs r (i+1) k (by omega) (by omega);have hln:=ref_line l[i] (by omega) k (by omega);have hfd:=ref_feeds l[i] (by omega) k (by omega);rw[sennitref01_May.l0,if_pos (by omega),rdOfN hil,gw1 (by omega),gw (x:=(l.length:Int) - 1) (by omega) (by omega),hln,hfd,ih,hd]
  have hm:mayL (l[i] :: l.drop (i+1))=((lineClosed l[i] || ((decide (0 < l[i].size) && decide (l[i].data.toList.count 10=0)) && (l.drop (i+1)).isEmpty)) && mayL (l.drop (i+1))):=by
   rw[mayL,open_eq]
  have hnil:((l.drop (i+1)).isEmpty=true)↔((i:Int)=(l.length:Int) - 1):=by
   (rw[List.isEmpty_iff,List.drop_eq_nil_iff];omega)
  rw[hm];obtain⟨m,hm⟩ : ∃ m,mayL (l.drop (i+1))=m:=⟨_,rfl⟩;obtain⟨c,hc⟩ : ∃ c,lineClosed l[i]=c:=⟨_,rfl⟩;rw[hm,hc];simp only[Option.bind_some];clear hm hln hfd ih hd hc
  by_cases e1:(i:Int)=(l.length:Int) - 1
  ·
   rw[if_pos e1,if_pos (by omega),hnil.2 e1,Bool.and_true]
   by_cases e2:0 < l[i].size
   ·
    rw[if_pos (by omega),decide_eq_true e2,Bool.true_and]
    by_cases e3:l[i].data.toList.count 10=0
    (· rw[if_pos (by omega),decide_eq_true e3];(cases c <;> cases m <;> rfl));(· rw[if_neg (by omega),decide_eq_false e3];(cases c <;> cases m <;> rfl))
   (· rw[if_neg (by omega),decide_eq_false e2];(cases c <;> cases m <;> rfl))
  ·
   have:(l.drop (i+1)).isEmpty=false:=by
    cases hh:(l.drop (i+1)).isEmpty;(· rfl);(· exact absurd (hnil.1 hh) e1)
   rw[if_neg e1,if_pos (by omega),this,Bool.and_false];(cases c <;> cases m <;> rfl)
theorem ref_May01 (l:List ByteArray) (hl:l.length≤1000000) (hs : ∀ s ∈ l,s.size≤1000000):Gives (fun k=>sennitref01_May.f k l) (mayL l) :=
  ⟨l.length+1000000+2,fun k hk=>by
    have:=ref_may_l0 l hl 1000000 (Nat.le_refl _) hs l.length 0 k (by omega) hk
    simpa [sennitref01_May.f] using this⟩
def FewT (result:List ByteArray) (ls:List (List ByteArray)):Prop:=(result.length≤16 ∧ ∀ s ∈ result,s.size≤100)∧ls.length≤6 ∧ ∀ l ∈ ls,l.length≤16 ∧ ∀ s ∈ l,s.size≤100
theorem ref_Few08 (result:List ByteArray) (ls:List (List ByteArray)) : ∃ b,Gives (fun k=>sennitref08_Few.f k result ls) b∧(b=true→FewT result ls):=by
 have he:Gives (fun k=>sennitref01_Few.f k result 16) (fewB result 16):=ref_few01 result 16 (by omega)
 have hlast : ∀ i:Nat,(i=ls.length∨i=7)→(∀ l ∈ ls.take i,fewB l 16=true) → ∃ b,Gives (fun k=>sennitref08_Few.j1 k result ls (i:Int) false) b∧(b=true→fewB result 16=true∧ls.length≤6 ∧ ∀ l ∈ ls,fewB l 16=true):=by
  intro i hi hP;refine⟨fewB result 16 && decide ((ls.length:Int)≤6),Gives.last he fun k hk=>?_,fun h=>?_⟩;(· show sennitref08_Few.j1 (k+1) result ls (i:Int) false=_;rw[sennitref08_Few.j1,if_neg (by decide),hk,Option.bind_some];(cases fewB result 16 <;> rfl));(· (rw[Bool.and_eq_true] at h);have h6:=of_decide_eq_true h.2;(rw[List.take_of_length_le (by omega)] at hP);exact⟨h.1,by omega,hP⟩)
 have hmain : ∀ (r i:Nat),i+r=min ls.length 7→(∀ l ∈ ls.take i,fewB l 16=true) → ∃ b,Gives (fun k=>sennitref08_Few.l0 k result ls (i:Int)) b∧(b=true→fewB result 16=true∧ls.length≤6 ∧ ∀ l ∈ ls,fewB l 16=true):=by
  intro r
  induction r with
  | zero =>
   intro i hi hP;obtain⟨b,h1,h2⟩:=hlast i (by omega) hP;refine⟨b,h1.step fun k=>?_,h2⟩;show sennitref08_Few.l0 (k+1) result ls (i:Int)=_;rw[sennitref08_Few.l0]
   by_cases h:i < ls.length
   (· rw[if_pos (by omega),decide_eq_false (by omega)]);(· rw[if_neg (by omega)])
  | succ r ih =>
   intro i hi hP;(have hil:i < ls.length:=by omega);have e:rd_L1 ls (i:Int)=ls[i]:=getN hil;have hf:=ref_few01 ls[i] 16 (by omega)
   have h0 : ∀ b,Gives (fun k=>sennitref08_Few.j1 k result ls (i:Int) true) b→Gives (fun k=>sennitref08_Few.l0 k result ls (i:Int)) b:=fun b hb=>hb.step fun k=>by
    show sennitref08_Few.l0 (k+1) result ls (i:Int)=_;rw[sennitref08_Few.l0,if_pos (by omega),decide_eq_true (by omega)]
   cases hb:fewB ls[i] 16 with
   | true =>
    obtain⟨b,h1,h2⟩:=ih (i+1) (by omega) (fun l hl=>by
     (rw[← List.take_append_getElem hil] at hl)
     rcases List.mem_append.1 hl with hl|hl
     (· exact hP l hl)
     ·
      rw[List.mem_singleton.1 hl];exact hb)
    refine⟨b,h0 b (Gives.call hf h1 fun k hk=>?_),h2⟩;show sennitref08_Few.j1 (k+1) result ls (i:Int) true=_;(have hk':sennitref01_Few.f k ls[i] 16=some true:=by rw[← hb];exact hk);rw[sennitref08_Few.j1,if_pos rfl,if_pos (by omega),if_pos (by omega),e,hk',Option.bind_some,if_pos rfl,gw1 (by omega)]
   | false =>
    refine⟨false,h0 false (Gives.last hf fun k hk=>?_),fun h=>by cases h⟩;show sennitref08_Few.j1 (k+1) result ls (i:Int) true=_;(have hk':sennitref01_Few.f k ls[i] 16=some false:=by rw[← hb];exact hk);rw[sennitref08_Few.j1,if_pos rfl,if_pos (by omega),if_pos (by omega),e,hk',Option.bind_some,if_neg (by decide)]
 obtain⟨b,h1,h2⟩:=hmain (min ls.length 7) 0 (by omega) (by simp);refine⟨b,h1.same fun k=>rfl,fun h=>?_⟩;obtain⟨h3,h4,h5⟩:=h2 h;exact⟨of_decide_eq_true h3,h4,fun l hl=>of_decide_eq_true (h5 l hl)⟩
section
variable {result:List ByteArray} {ls:List (List ByteArray)}
theorem ref_wrong_l0 (h : ∀ l ∈ ls,l.length≤2000 ∧ ∀ s ∈ l,s.size≤1000000) (hn:ls.length≤1000) : ∀ (r i:Nat) (m:Bool),i+r=ls.length→Gives (fun k=>sennitref08_wrong.l0 k ls m false (i:Int)) (if (m && (ls.drop i).all mayL)=true then 0 else 2):=by
 intro r
 induction r with
 | zero =>
  intro i m hi;(refine Gives.of fun k=>?_);show sennitref08_wrong.l0 (k+1) ls m false (i:Int)=_;rw[sennitref08_wrong.l0,if_neg (by omega),List.drop_of_length_le (by omega)];(cases m <;> rfl)
 | succ r ih =>
  intro i m hi;(have hil:i < ls.length:=by omega);have e:rd_L1 ls (i:Int)=ls[i]:=getN hil;have hz:=h ls[i] (List.getElem_mem _);rw[dropCons hil,List.all_cons]
  cases m with
  | true =>
   have hm:=ref_May01 ls[i] (by omega) hz.2;have:=ih (i+1) (mayL ls[i]) (by omega);rw[Bool.true_and];(refine Gives.call hm this fun k hk=>?_);show sennitref08_wrong.l0 (k+1) ls true false (i:Int)=_;rw[sennitref08_wrong.l0,if_pos (by omega),if_pos rfl,if_pos (by omega),e,hk,Option.bind_some,if_neg (by decide),gw1 (by omega),decide_eq_false (by omega)]
  | false =>
   have:=ih (i+1) false (by omega);(refine(this.eq rfl).step fun k=>?_);show sennitref08_wrong.l0 (k+1) ls false false (i:Int)=_;rw[sennitref08_wrong.l0,if_pos (by omega),if_neg (by decide),if_neg (by decide),if_pos (by omega),e,gw1 (by omega),decide_eq_false (by omega)]
theorem ref_wrong08 (h:FewT result ls):Gives (fun k=>sennitref08_wrong.f k result ls) (wrongF mayL (result :: ls)):=by
 obtain⟨⟨h1,h2⟩,h3,h4⟩:=h
 by_cases h0:ls.length=0
 ·
  (have e:wrongF mayL (result :: ls)=1:=by rw[wrongF,if_pos (by simp;omega)]);rw[e];(refine(Gives.of (f:=fun k=>sennitref08_wrong.j0 k result ls true) fun k=>?_).same fun k=>?_);(· show sennitref08_wrong.j0 (k+1) result ls true=_;rw[sennitref08_wrong.j0,if_pos rfl]);(· show sennitref08_wrong.f k result ls=_;rw[sennitref08_wrong.f,if_pos (by omega)])
 ·
  have hl:(result :: ls).any longL=false:=by
   rw[List.any_eq_false];intro l hl
   rcases List.mem_cons.1 hl with rfl|hl
   (· (simp[longL];omega));(· (have:=(h4 l hl).1;simp[longL];omega))
  have e:wrongF mayL (result :: ls)=(if (mayL result && (ls.drop 0).all mayL)=true then 0 else 2):=by
   rw[wrongF,if_neg (by simp;omega),hl,if_neg (show ¬ false=true by decide),List.drop_zero]
   by_cases hm:(mayL result && ls.all mayL)=true
   (· rw[if_pos hm,if_neg];(rw[← List.all_cons (f:=mayL)] at hm);simp only[List.any_eq_true,not_exists,not_and];intro x hx hc;(rw[List.all_eq_true.1 hm x hx] at hc;cases hc))
   ·
    rw[if_neg hm,if_pos];(rw[← List.all_cons (f:=mayL),List.all_eq_true] at hm);rw[List.any_eq_true];apply Classical.byContradiction;intro hc;apply hm;intro x hx
    cases hmx:mayL x with
    | true=>rfl
    | false=>exact absurd ⟨x,hx,by rw[hmx];rfl⟩ hc
  rw[e];have hm:=ref_May01 result (by omega) (fun s hs=>by have:=h2 s hs;omega);have hw:=ref_wrong_l0 (ls:=ls) (fun l hl=>⟨by have:=(h4 l hl).1;omega,fun s hs=>by have:=(h4 l hl).2 s hs;omega⟩) (by omega) ls.length 0 (mayL result) (by omega);(refine(Gives.call hm hw (f:=fun k=>sennitref08_wrong.j0 k result ls false) fun k hk=>?_).same fun k=>?_);(· show sennitref08_wrong.j0 (k+1) result ls false=_;(rw[sennitref08_wrong.j0,if_neg (by decide),hk,Option.bind_some,decide_eq_false (by omega)];rfl));(· show sennitref08_wrong.f k result ls=_;rw[sennitref08_wrong.f,if_neg (by omega),decide_eq_false (by omega)])
end
theorem FewT.chunks {base:List ByteArray} {sides:List (List ByteArray)} (h:FewT base sides):chunksOk base sides=true:=by
 obtain⟨⟨h1,h2⟩,h3,h4⟩:=h;refine decide_eq_true ⟨by omega,by omega,?_⟩;intro l hl
 rcases List.mem_cons.1 hl with rfl|hl
 (· exact⟨by omega,fun s hs=>by have:=h2 s hs;omega⟩);(· have:=(h4 l hl).1;exact⟨by omega,fun s hs=>by have:=(h4 l hl).2 s hs;omega⟩)
theorem FewT.merge {base:List ByteArray} {sides:List (List ByteArray)} (h:FewT base sides) (fav:Int) (un:Bool):merge_Merge.f base sides fav un=some (mergeF base sides fav un):=by
 rw[merge_Merge.f,if_pos (mergeOkB_iff.2 (merge_ok fav un h.chunks))]
def Closed (l:List ByteArray):Prop := ∀ s ∈ l,lineClosed s=true
theorem may_append {b:List ByteArray} (hb:mayL b=true) : ∀ {a:List ByteArray},Closed a→mayL (a ++ b)=true
 | [],_=>hb
 | s :: a,h=>by
  rw[List.cons_append,mayL,h s List.mem_cons_self,Bool.true_or,Bool.true_and];exact may_append hb (fun x hx=>h x (List.mem_cons_of_mem _ hx))
theorem Closed.may {a:List ByteArray} (h:Closed a):mayL a=true:=by
 have:=may_append (b:=[]) rfl h
 rwa [List.append_nil] at this
theorem Closed.append {a b:List ByteArray} (h:Closed a) (k:Closed b):Closed (a ++ b):=fun s hs=>(List.mem_append.1 hs).elim (h s) (k s)
section
variable {base:List ByteArray} {sides:List (List ByteArray)}
end
theorem chooseF_append (a b:List Piece) (s:Int):chooseF (a ++ b) s=chooseF a s ++ chooseF b s:=by rw[chooseF,List.map_append,List.flatten_append];rfl
theorem chooseF_one (p:Piece) (s:Int):chooseF [p] s=chosen s p:=by simp[chooseF]
theorem chooseF_put (out:List Piece) (p:Piece) (s:Int):chooseF (putF out p) s=chooseF out s ++ chosen s p:=by
 unfold putF;split
 ·
  rename_i h;rw[chooseF_append,chooseF_one]
  congr 1
  (have e1:chosen s p=if 1≤s∧s≤(p.f3.length:Int) then p.f3.getD (s - 1).toNat [] else []:=by rw[chosen,if_neg (by rw[h];decide)]);(have e2:chosen s ⟨true,[],p.f2,p.f3⟩=if 1≤s∧s≤(p.f3.length:Int) then p.f3.getD (s - 1).toNat [] else []:=by rw[chosen,if_neg (by intro h;cases h)]);rw[e1,e2]
 ·
  rename_i h;(have hp:p.f0=false:=by cases hh:p.f0 with|true=>exact absurd hh h|false=>rfl);(have hc:chosen s p=p.f1:=by rw[chosen,if_pos hp]);split;(· rename_i h1;rw[hc,h1,List.append_nil])
  ·
   split
   ·
    rename_i h2;(rw[textLast,Bool.and_eq_true] at h2);have hl:=of_decide_eq_true h2.1;(have hf:(out.getD (out.length - 1) z66).f0=false:=by simpa using h2.2);rw[set_last hl,chooseF_append,chooseF_one,hc]
    conv=>rhs;rw[take_last hl z66,chooseF_append,chooseF_one]
    rw[chosen,if_pos hf,chosen,if_pos hf,List.append_assoc]
   (· rw[chooseF_append,chooseF_one,hc,chosen,if_pos rfl])
theorem chooseF_normal (s:Int) : ∀ (n:Nat) (l:List Piece),l.length=n→chooseF (normalF l) s=chooseF l s
 | 0,l,h=>by rw[List.eq_nil_of_length_eq_zero h];rfl
 | n+1,l,h=>by
  have e:l=l.take n ++ [l[n]]:=by
   have:=List.take_append_getElem (l:=l) (i:=n) (by omega);rw[this,List.take_of_length_le (by omega)]
  have ih:=chooseF_normal s n (l.take n) (by rw[List.length_take];omega);rw[e,normalF_snoc,chooseF_put,ih,chooseF_append,chooseF_one]
theorem clean_put (out:List Piece) (p:Piece):cleanB (putF out p)=(cleanB out && !p.f0):=by
 have happ : ∀ (a:List Piece) (q:Piece),cleanB (a ++ [q])=(cleanB a && !q.f0):=fun a q=>by
  (rw[cleanB,cleanB,List.any_append];simp)
 unfold putF;split;(· rename_i h;rw[happ,h])
 ·
  rename_i h;(have hp:p.f0=false:=by cases hh:p.f0 with|true=>exact absurd hh h|false=>rfl);rw[hp];split;(· simp)
  ·
   split
   ·
    rename_i h2;(rw[textLast,Bool.and_eq_true] at h2);have hl:=of_decide_eq_true h2.1;rw[set_last hl,happ]
    conv=>rhs;rw[take_last hl z66,happ]
    simp
   (· rw[happ])
theorem clean_normal : ∀ (n:Nat) (l:List Piece),l.length=n→cleanB (normalF l)=cleanB l
 | 0,l,h=>by rw[List.eq_nil_of_length_eq_zero h];rfl
 | n+1,l,h=>by
  have e:l=l.take n ++ [l[n]]:=by
   have:=List.take_append_getElem (l:=l) (i:=n) (by omega);rw[this,List.take_of_length_le (by omega)]
  have ih:=clean_normal n (l.take n) (by rw[List.length_take];omega)
  have happ : ∀ (a:List Piece) (q:Piece),cleanB (a ++ [q])=(cleanB a && !q.f0):=fun a q=>by
   (rw[cleanB,cleanB,List.any_append];simp)
  rw[e,normalF_snoc,clean_put,ih,happ]
abbrev chunksL (base:List ByteArray) (sides:List (List ByteArray)):List Chunk:=alignF base.length (sizesF sides) (matchesF base sides)
abbrev piecesL (base:List ByteArray) (sides:List (List ByteArray)) (fav:Int) (un:Bool):List Piece:=(chunksL base sides).map (mergePiece base sides fav un)
theorem chunksF_eq {base:List ByteArray} {sides:List (List ByteArray)} (h0:wrongF mayL (base :: sides)=0):chunksF base sides=(chunksL base sides,0):=by
 rw[chunksF,if_neg (fun h=>h h0)]
theorem mergeF_eq {base:List ByteArray} {sides:List (List ByteArray)} {fav:Int} {un:Bool} (h0:wrongF mayL (base :: sides)=0) (hf : ¬ (fav < 0∨(sides.length:Int) < fav∨(0 < fav∧un=true))):mergeF base sides fav un=(normalF (piecesL base sides fav un),0):=by
 rw[mergeF,chunksF_eq h0,if_neg (fun h=>h rfl),if_neg hf]
theorem chosen_len (base:List ByteArray) (sides:List (List ByteArray)) (fav:Int) (un:Bool) (s:Int) (c:Chunk):(chosen s (mergePiece base sides fav un c)).length≤chunkN base sides c:=by
 have h1:=mergePiece_len base sides fav un c;unfold chosen;split;(· exact h1)
 ·
  split
  ·
   rename_i hs
   have hm:(mergePiece base sides fav un c).f3=partsF c.f2 sides∨(mergePiece base sides fav un c).f3=[]:=by
    unfold mergePiece;split;(· exact .inr rfl)
    ·
     unfold pieceF;split;(· exact .inr rfl)
     ·
      split;(· exact .inr rfl)
      ·
       split;(· exact .inr rfl)
       ·
        split;(· exact .inr rfl);(· exact .inl rfl)
   rcases hm with hm|hm
   (· (rw[hm] at hs ⊢);rw[getD_get (by omega)];have:=mem_sum (List.mem_map_of_mem (f:=List.length) (List.getElem_mem (show (s - 1).toNat < (partsF c.f2 sides).length by omega)));(unfold chunkN;omega));(· (rw[hm];exact Nat.zero_le _))
  (· exact Nat.zero_le _)
theorem flat_le {α:Type} (f:α→List ByteArray) (g:α→Nat) : ∀ (l:List α),(∀ x,(f x).length≤g x)→((l.map f).flatten).length≤(l.map g).sum
 | [],_=>Nat.le_refl _
 | x :: l,h=>by
  have:=flat_le f g l h;have h0:=h x;(simp only[List.map_cons,List.flatten_cons,List.length_append,List.sum_cons] at this ⊢);omega
theorem FewT.total {base:List ByteArray} {sides:List (List ByteArray)} (h:FewT base sides):((chunksL base sides).map (chunkN base sides)).sum≤112∧(chunksL base sides).length≤112:=by
 obtain⟨i1,i2,i3⟩:=tiles_ok (chunksL base sides) _ _ _ (align_tiles base sides);have hs:=sides_sum (n:=6) (m:=16) h.2.1 (fun y hy=>(h.2.2 y hy).1);have hb:=h.1.1;(constructor <;> omega)
theorem FewT.chosenLe {base:List ByteArray} {sides:List (List ByteArray)} (h:FewT base sides) (fav:Int) (un:Bool) (s:Int):(chooseF (piecesL base sides fav un) s).length≤112:=by
 have:=flat_le (fun c=>chosen s (mergePiece base sides fav un c)) (chunkN base sides) (chunksL base sides) (chosen_len base sides fav un s);(have e:chooseF (piecesL base sides fav un) s=((chunksL base sides).map (fun c=>chosen s (mergePiece base sides fav un c))).flatten:=by rw[chooseF,List.map_map];rfl);rw[e];exact Nat.le_trans this h.total.1
theorem FewT.normal {base:List ByteArray} {sides:List (List ByteArray)} (h:FewT base sides) (fav:Int) (un:Bool):(normalF (piecesL base sides fav un)).length≤112:=by
 have:=(tsum_normal _ (piecesL base sides fav un) rfl).2;(rw[List.length_map] at this);exact Nat.le_trans this h.total.2
theorem FewT.choose {base:List ByteArray} {sides:List (List ByteArray)} (h:FewT base sides) (fav:Int) (un:Bool) (s:Int) (h1:s≤1000) (h2:0≤s):pick_Choose.f (normalF (piecesL base sides fav un)) s=some (chooseF (piecesL base sides fav un) s):=by
 have:=h.normal fav un;have:=h.chosenLe fav un s;rw[pick_Choose.f,chooseF_normal s _ _ rfl,if_pos ⟨by omega,by omega,by omega,by omega⟩]
theorem FewT.clean {base:List ByteArray} {sides:List (List ByteArray)} (h:FewT base sides) (fav:Int) (un:Bool):pick_Clean.f (normalF (piecesL base sides fav un))=some (cleanB (piecesL base sides fav un)):=by
 have:=h.normal fav un;rw[pick_Clean.f,clean_normal _ _ rfl,if_pos (by omega)]
theorem tiles_parts {base:List ByteArray} {sides:List (List ByteArray)} {c:Chunk} (h:ChunkOk base sides c):(partsF c.f2 sides).length=sides.length:=partsF_len h.1
theorem chunk_ok {base:List ByteArray} {sides:List (List ByteArray)} {c:Chunk} (h:c ∈ chunksL base sides):ChunkOk base sides c:=(tiles_ok _ _ _ _ (align_tiles base sides)).1 c h
theorem choose_clean {l:List Chunk} {f:Chunk→Piece} (h : ∀ c ∈ l,(f c).f0=false) (s:Int):chooseF (l.map f) s=(l.map (fun c=>(f c).f1)).flatten:=by
 rw[chooseF,List.map_map]
 congr 1
 exact List.map_congr_left (fun c hc=>by show chosen s (f c)=_;rw[chosen,if_pos (h c hc)])
theorem piece_short {m:Nat} {x:List ByteArray} {l:List (List ByteArray)} (fav:Int) (un:Bool) (hx:Short m x) (hl : ∀ y ∈ l,Short m y):Short (m+l.length) (pieceF x l fav un).f1:=by
 have hd:=(differF_ind x _ l rfl).1;(have up : ∀ y,Short m y→Short (m+l.length) y:=fun y hy s hs=>by have:=hy s hs;omega);unfold pieceF;split;(· exact up _ hx)
 ·
  split;(· refine up _ (hl _ (hd _ ?_));(rw[getD_get (by omega)];exact List.getElem_mem _))
  ·
   split;(· refine up _ (hl _ ?_);(rw[getD_get (by omega)];exact List.getElem_mem _))
   ·
    split;(· intro s hs;have h1:=unionF_short (m:=m) _ (differF x l) rfl (fun y hy=>hl y (hd y hy)) s hs;have h2:=differF_len x _ l rfl;omega);(· (exact fun s hs=>by cases hs))
theorem FewT.short {base:List ByteArray} {sides:List (List ByteArray)} (h:FewT base sides) (fav:Int) (un:Bool) (hc : ∀ c ∈ chunksL base sides,(mergePiece base sides fav un c).f0=false):Short 106 (chooseF (piecesL base sides fav un) 0):=by
 rw[choose_clean hc];intro s hs;obtain⟨t,ht,hst⟩:=List.mem_flatten.1 hs;obtain⟨c,hcm,rfl⟩:=List.mem_map.1 ht;(have hbase:Short 100 (cutS base c.f1):=fun s hs=>h.1.2 s (cutL_mem hs))
 have hparts : ∀ y ∈ partsF c.f2 sides,Short 100 y:=fun y hy=>by
  obtain⟨i,hi,rfl⟩:=partsF_at (chunk_ok hcm).1 y hy;(exact fun s hs=>(h.2.2 _ (List.getElem_mem hi)).2 s (cutL_mem hs))
 have h3:=tiles_parts (chunk_ok hcm);have h4:=h.2.1;(unfold mergePiece at hst);(split at hst);(· (have:=hbase s hst;omega));(· (have:=piece_short fav un hbase hparts s hst;omega))
theorem wrong_may {base:List ByteArray} {sides:List (List ByteArray)} (h0:wrongF mayL (base :: sides)=0):(∀ l ∈ base :: sides,mayL l=true)∧1≤sides.length:=by
 obtain⟨h1,_,h3,_⟩:=wrongF_zero h0;exact⟨h3,by simp only[List.length_cons] at h1;omega⟩
theorem any_mem {y:List ByteArray} {out:List (List ByteArray)}:out.any (fun z=>decide (y=z))=true↔y ∈ out:=by
 rw[List.any_eq_true];constructor;(· rintro⟨z,hz,h⟩;(rw[of_decide_eq_true h];exact hz));(· (exact fun h=>⟨y,h,decide_eq_true rfl⟩))
theorem list_snoc {α:Type} {l:List α} {n:Nat} (h:l.length=n+1) : ∃ (k:List α) (y:α),l=k ++ [y]∧k.length=n :=
  ⟨l.take n,l[n],by
    have:=List.take_append_getElem (l:=l) (i:=n) (by omega)
    rw[this,List.take_of_length_le (by omega)],by rw[List.length_take];omega⟩
theorem differF_mem (x:List ByteArray) : ∀ (n:Nat) (l:List (List ByteArray)),l.length=n → ∀ z,z ∈ differF x l↔z ∈ l∧z≠x
 | 0,l,h,z=>by rw[List.eq_nil_of_length_eq_zero h];exact⟨fun h=>(by cases h),fun h=>(by have h2:=h.1;cases h2)⟩
 | n+1,l,h,z=>by
  obtain⟨k,y,rfl,hk⟩:=list_snoc h;have ih:=differF_mem x n k hk;rw[differF_snoc,differStep];split
  ·
   rename_i hc;have hy:y≠x:=of_decide_eq_false hc.1;rw[List.mem_append,List.mem_append,ih z,List.mem_singleton];constructor
   ·
    rintro(h|rfl);(· exact⟨.inl h.1,h.2⟩);(· exact⟨.inr rfl,hy⟩)
   ·
    rintro⟨h|h,h2⟩;(· exact .inl ⟨h,h2⟩);(· exact .inr h)
  ·
   rename_i hc;rw[ih z,List.mem_append,List.mem_singleton];constructor;(· (rintro⟨h,h2⟩;exact⟨.inl h,h2⟩))
   ·
    rintro⟨h|rfl,h2⟩;(· exact⟨h,h2⟩)
    ·
     have h3:(differF x k).any (fun w=>decide (z=w))=true:=by
      cases h4:(differF x k).any (fun w=>decide (z=w)) with
      | true=>rfl
      | false=>exact absurd ⟨decide_eq_false h2,h4⟩ hc
     exact(ih z).1 (any_mem.1 h3)
theorem rdL {xs:List (List ByteArray)} {i:Nat} (h:i < xs.length):rd_L1 xs (i:Int)=xs[i]:=getN h
section
variable {x:List ByteArray} {l:List (List ByteArray)}
theorem ref_Differing_l1 (hl:l.length≤1000000) (hm : ∀ y ∈ l,y.length≤1000000) {i:Nat} (hi:i < l.length) {out:List (List ByteArray)} (ho:out.length≤1000000) {R:List (List ByteArray)} : ∀ (r j:Nat) (known:Bool),j+r=i→Gives (fun k=>sennitref06_Differing.l0 k x l (if (known || ((l.take i).drop j).any (fun z=>decide (l[i]=z)))=true then out else out ++ [l[i]]) ((i+1:Nat):Int)) R→Gives (fun k=>sennitref06_Differing.l1 k x l out (i:Int) known (j:Int)) R
 | 0,j,known,hj,hg=>by
  have e:(l.take i).drop j=[]:=List.drop_of_length_le (by rw[List.length_take];omega);(rw[e,List.any_nil,Bool.or_false] at hg);(refine hg.step fun k=>?_);show sennitref06_Differing.l1 (k+1) x l out (i:Int) known (j:Int)=_;rw[sennitref06_Differing.l1,if_neg (by omega)]
  cases known with
  | true=>rw[if_pos rfl,gw1 (by omega),if_pos rfl]
  | false=>rw[if_neg (by decide),if_pos (by omega),if_pos (by omega),if_pos (by omega),rdL hi,gw1 (by omega),if_neg (by decide)]
 | r+1,j,known,hj,hg=>by
  (have hji:j < (l.take i).length:=by rw[List.length_take];omega)
  have e:(l.take i).drop j=l[j] :: (l.take i).drop (j+1):=by
   rw[dropCons hji,List.getElem_take]
  (rw[e,List.any_cons,← Bool.or_assoc] at hg)
  cases known with
  | true =>
   (refine(ref_Differing_l1 hl hm hi ho r (j+1) true (by omega) (hg.same fun k=>?_)).step fun k=>?_);(· simp);(· show sennitref06_Differing.l1 (k+1) x l out (i:Int) true (j:Int)=_;rw[sennitref06_Differing.l1,if_pos (by omega),if_pos rfl,gw1 (by omega)])
  | false =>
   have hs:=ref_same01 l[i] l[j] (by have:=hm _ (List.getElem_mem hi);omega);(rw[Bool.false_or] at hg);(refine Gives.call hs (ref_Differing_l1 hl hm hi ho r (j+1) (decide (l[i]=l[j])) (by omega) hg) fun k hk=>?_);show sennitref06_Differing.l1 (k+1) x l out (i:Int) false (j:Int)=_;rw[sennitref06_Differing.l1,if_pos (by omega),if_neg (by decide),if_pos (by omega),if_pos (by omega),if_pos (by omega),if_pos (by omega),rdL hi,rdL (by omega),hk,Option.bind_some,gw1 (by omega)]
theorem ref_Differing_l0 (hl:l.length≤1000000) (hm : ∀ y ∈ l,y.length≤1000000) : ∀ (r i:Nat),i+r=l.length→Gives (fun k=>sennitref06_Differing.l0 k x l (differF x (l.take i)) (i:Int)) (differF x l)
 | 0,i,hi=>Gives.of fun k=>by
  show sennitref06_Differing.l0 (k+1) x l _ (i:Int)=_;rw[sennitref06_Differing.l0,if_neg (by omega),List.take_of_length_le (by omega)]
 | r+1,i,hi=>by
  (have hil:i < l.length:=by omega);have hs:=ref_same01 l[i] x (by have:=hm _ (List.getElem_mem hil);omega);have ih:=ref_Differing_l0 hl hm r (i+1) (by omega);have ho:=differF_len x _ (l.take i) rfl
  have htk:differF x (l.take (i+1))=if (decide (l[i]=x) || ((l.take i).drop 0).any (fun z=>decide (l[i]=z)))=true then differF x (l.take i) else differF x (l.take i) ++ [l[i]]:=by
   rw[← List.take_append_getElem hil,differF_snoc,differStep,List.drop_zero];have hmem:=differF_mem x _ (l.take i) rfl l[i]
   by_cases h1:l[i]=x
   (· rw[if_neg (fun h=>of_decide_eq_false h.1 h1),decide_eq_true h1,Bool.true_or,if_pos rfl])
   ·
    rw[decide_eq_false h1,Bool.false_or]
    by_cases h2:(l.take i).any (fun z=>decide (l[i]=z))=true
    (· rw[if_pos h2,if_neg (fun h=>by have:=any_mem.2 (hmem.2 ⟨any_mem.1 h2,h1⟩);rw[h.2] at this;cases this)])
    ·
     rw[if_neg h2,if_pos ⟨rfl,by
      cases hc:(differF x (l.take i)).any (fun z=>decide (l[i]=z)) with
      | false=>rfl
      | true=>exact absurd (any_mem.2 (hmem.1 (any_mem.1 hc)).1) h2⟩]
  (rw[htk] at ih);(refine Gives.call hs (ref_Differing_l1 hl hm hil (out:=differF x (l.take i)) (by rw[List.length_take] at ho;omega) i 0 (decide (l[i]=x)) (by omega) ih) fun k hk=>?_);show sennitref06_Differing.l0 (k+1) x l _ (i:Int)=_;(rw[sennitref06_Differing.l0,if_pos (by omega),if_pos (by omega),rdL hil,hk,Option.bind_some];rfl)
theorem ref_Differing (hl:l.length≤1000000) (hm : ∀ y ∈ l,y.length≤1000000):Gives (fun k=>sennitref06_Differing.f k x l) (differF x l):=by
 have:=ref_Differing_l0 (x:=x) hl hm l.length 0 (by omega);exact this
end
theorem ref_Open01 (l:List ByteArray) (hl:l.length≤1000000000) (hs:Short 1000000000 l):sennitref01_Open.f l=some (openB l):=by
 rw[sennitref01_Open.f,openB]
 by_cases h:0 < l.length
 ·
  (have ew:wrap64 ((l.length:Int) - 1)=((l.length - 1:Nat):Int):=by rw[gw (by omega) (by omega)];omega);(have hi:l.length - 1 < l.length:=by omega);have hz:=hs _ (List.getElem_mem hi);rw[if_neg (by omega),ew,if_pos (by omega),if_pos (by omega),rdOfN hi,getD_get hi,decide_eq_true h,Bool.true_and];obtain⟨s,hs'⟩ : ∃ s,l[l.length - 1]=s:=⟨_,rfl⟩;(rw[hs'] at hz ⊢)
  by_cases h0:s.size=0
  (· have he:s.data.toList=[]:=List.eq_nil_of_length_eq_zero (by rw[← sizeLen];exact h0);(rw[if_pos (by omega),endsLF,he];rfl))
  ·
   (have ew2:wrap64 ((s.size:Int) - 1)=((s.size - 1:Nat):Int):=by rw[gw (by omega) (by omega)];omega);rw[if_neg (by omega),ew2,if_pos (by omega),if_pos (by omega),btN (by omega),endsLF,last_idx s (by omega)]
   congr 1
   rw[bne]
   congr 1
   rw[Bool.eq_iff_iff];simp only[beq_iff_eq,decide_eq_true_eq,Option.some.injEq,byte10]
 (· (rw[if_pos (by omega),decide_eq_false h];rfl))
def endLast (x:List ByteArray):List ByteArray:=x.set (x.length - 1) (x.getD (x.length - 1) ByteArray.empty ++ lf)
def behindB (r:List (List ByteArray)):Bool:=r.any (fun y=>decide (0 < y.length))
def unX (b:Bool) (x:List ByteArray):List ByteArray:=if (b && openB x)=true then endLast x else x
def unionU:List (List ByteArray)→List ByteArray
  | []=>[]
  | x :: r=>unX (behindB r) x ++ unionU r
theorem unX_len (b:Bool) (x:List ByteArray):(unX b x).length=x.length:=by
 unfold unX endLast;(split <;> simp)
theorem open_app (o x:List ByteArray) (h:0 < x.length):openB (o ++ x)=openB x:=by
 have e:(o ++ x).getD ((o ++ x).length - 1) ByteArray.empty=x.getD (x.length - 1) ByteArray.empty:=by
  rw[List.getD_eq_getElem?_getD,List.getD_eq_getElem?_getD,List.getElem?_append_right (by rw[List.length_append];omega)]
  congr 2
  (rw[List.length_append];omega)
 rw[openB,openB,e,decide_eq_true h,decide_eq_true (by rw[List.length_append];omega)]
theorem end_app (o x:List ByteArray) (h:0 < x.length):endLast (o ++ x)=o ++ endLast x:=by
 have e:(o ++ x).getD ((o ++ x).length - 1) ByteArray.empty=x.getD (x.length - 1) ByteArray.empty:=by
  rw[List.getD_eq_getElem?_getD,List.getD_eq_getElem?_getD,List.getElem?_append_right (by rw[List.length_append];omega)]
  congr 2
  (rw[List.length_append];omega)
 rw[endLast,endLast,e,List.set_append_right _ _ (by rw[List.length_append];omega)]
 congr 2
 (rw[List.length_append];omega)
theorem unX_app (b:Bool) (o x:List ByteArray) (h:0 < x.length):unX b (o ++ x)=o ++ unX b x:=by
 rw[unX,unX,open_app o x h,end_app o x h];(split <;> rfl)
theorem unX_nil (b:Bool):unX b []=[]:=by
 (rw[unX,show openB []=false from rfl,Bool.and_false];rfl)
theorem unX_false (x:List ByteArray):unX false x=x:=by
 (rw[unX,Bool.false_and];rfl)
theorem behind_cons (x:List ByteArray) (r:List (List ByteArray)):behindB (x :: r)=(decide (0 < x.length) || behindB r):=rfl
theorem fold_U : ∀ (l:List (List ByteArray)) (out:List ByteArray),l.foldl unionStep out=unX (behindB l) out ++ unionU l
 | [],out=>by rw[show behindB []=false from rfl,unX_false,unionU,List.append_nil];rfl
 | x :: r,out=>by
  rw[List.foldl_cons,fold_U r,unionU,behind_cons]
  by_cases h:0 < x.length
  ·
   have e:unionStep out x=unX true out ++ x:=by
    rw[unionStep,unX,Bool.true_and,endLast]
    by_cases ho:openB out=true
    (· rw[if_pos ⟨h,ho⟩,if_pos ho]);(· rw[if_neg (fun q=>ho q.2),if_neg ho])
   rw[e,unX_app _ _ _ h,decide_eq_true h,Bool.true_or,List.append_assoc]
  (· have hx:x=[]:=List.eq_nil_of_length_eq_zero (by omega);subst hx;(have e:unionStep out []=out:=by rw[unionStep,if_neg (fun q=>h q.1),List.append_nil]);rw[e,decide_eq_false h,Bool.false_or,unX_nil,List.nil_append])
theorem unionF_U (l:List (List ByteArray)):unionF l=unionU l:=by
 rw[unionF,fold_U,unX_nil,List.nil_append]
theorem unX_get {b:Bool} {x:List ByteArray} {j:Nat} (hj:j < x.length) (h':j < (unX b x).length):(unX b x)[j]=if j+1=x.length∧(b && openB x)=true then x[j] ++ lf else x[j]:=by
 have hg:(unX b x)[j]? = some (if j+1=x.length∧(b && openB x)=true then x[j] ++ lf else x[j]):=by
  rw[unX]
  by_cases h:(b && openB x)=true
  ·
   rw[if_pos h,endLast,List.getElem?_set]
   by_cases e:j+1=x.length
   (· (have e2:x.length - 1=j:=by omega);rw[e2,if_pos rfl,if_pos hj,if_pos ⟨e,h⟩,getD_get hj]);(· rw[if_neg (by omega),if_neg (fun q=>e q.1),List.getElem?_eq_getElem hj])
  (· rw[if_neg h,if_neg (fun q=>h q.2),List.getElem?_eq_getElem hj])
 (rw[List.getElem?_eq_getElem h'] at hg);exact Option.some.inj hg
section
variable {l:List (List ByteArray)}
theorem ref_union_l2 (hl:l.length≤1000000) {i:Nat} (hi:i < l.length) (hm:l[i].length≤1000000) (hz:Short 1000000000 l[i]) {out:List ByteArray} (ho:out.length≤1000000000) {b:Bool} {R:List ByteArray} (hg:Gives (fun k=>sennitref07_union.l0 k l (out ++ unX b l[i]) ((i+1:Nat):Int)) R) : ∀ (r j:Nat),j+r=l[i].length→Gives (fun k=>sennitref07_union.l2 k l (out ++ (unX b l[i]).take j) (i:Int) b (j:Int)) R
 | 0,j,hj=>by
  (refine hg.step fun k=>?_);show sennitref07_union.l2 (k+1) l _ (i:Int) b (j:Int)=_;rw[sennitref07_union.l2,if_pos (by omega),if_pos (by omega),rdL hi,if_neg (by omega),gw1 (by omega),List.take_of_length_le (by rw[unX_len];omega)]
 | r+1,j,hj=>by
  (have hji:j < l[i].length:=by omega);have ih:=ref_union_l2 hl hi hm hz ho hg r (j+1) (by omega);(have hx:j < (unX b l[i]).length:=by rw[unX_len];exact hji);(rw[← List.take_append_getElem hx,← List.append_assoc,unX_get hji hx] at ih);have hop:=ref_Open01 l[i] (by omega) hz;have hsz:=hz _ (List.getElem_mem hji);(have hout:(out ++ (unX b l[i]).take j).length≤2000000000:=by rw[List.length_append,List.length_take,unX_len];omega);(have ew:wrap64 ((l[i].length:Int) - 1)=((l[i].length - 1:Nat):Int):=by rw[gw (by omega) (by omega)];omega);(refine ih.step fun k=>?_);show sennitref07_union.l2 (k+1) l _ (i:Int) b (j:Int)=_;rw[sennitref07_union.l2,if_pos (by omega),if_pos (by omega),rdL hi,if_pos (by omega),if_pos (by omega),ew,rdOfN hji,hop,Option.bind_some]
  by_cases hlast:j+1=l[i].length
  ·
   rw[if_pos (by omega)]
   cases b with
   | false=>rw[if_neg (by decide),if_pos (by omega),gw1 (by omega),if_neg (by rintro⟨_,q⟩;rw[Bool.false_and] at q;cases q)]
   | true =>
    rw[if_pos rfl]
    cases ho2:openB l[i] with
    | true=>rw[if_pos rfl,if_pos (by omega),if_pos (by omega),gw1 (by omega),if_pos ⟨hlast,rfl⟩]
    | false=>rw[if_neg (by decide),if_pos (by omega),gw1 (by omega),if_neg (by rintro⟨_,q⟩;cases q)]
  (· rw[if_neg (by omega),if_pos (by omega),gw1 (by omega),if_neg (fun q=>hlast q.1)])
theorem ref_union_l1 (hl:l.length≤1000000) {i:Nat} {out:List ByteArray} {R:List ByteArray} : ∀ (r j:Nat) (known:Bool),j+r=l.length→Gives (fun k=>sennitref07_union.l2 k l out (i:Int) (known || behindB (l.drop j)) 0) R→Gives (fun k=>sennitref07_union.l1 k l out (i:Int) known (j:Int)) R
 | 0,j,known,hj,hg=>by
  (rw[List.drop_of_length_le (by omega),show behindB []=false from rfl,Bool.or_false] at hg);(refine hg.step fun k=>?_);show sennitref07_union.l1 (k+1) l out (i:Int) known (j:Int)=_;rw[sennitref07_union.l1,if_neg (by omega)]
 | r+1,j,known,hj,hg=>by
  (have hjl:j < l.length:=by omega);(rw[dropCons hjl,behind_cons,← Bool.or_assoc] at hg)
  cases known with
  | true =>
   (rw[Bool.true_or,Bool.true_or] at hg);(refine(ref_union_l1 hl r (j+1) true (by omega) (by rw[Bool.true_or];exact hg)).step fun k=>?_);show sennitref07_union.l1 (k+1) l out (i:Int) true (j:Int)=_;rw[sennitref07_union.l1,if_pos (by omega),if_pos rfl,gw1 (by omega)]
  | false =>
   (rw[Bool.false_or] at hg);(have ed:decide ((l[j].length:Int) > 0)=decide (0 < l[j].length):=by rw[decide_eq_decide];omega);(refine(ref_union_l1 hl r (j+1) (decide (0 < l[j].length)) (by omega) hg).step fun k=>?_);show sennitref07_union.l1 (k+1) l out (i:Int) false (j:Int)=_;rw[sennitref07_union.l1,if_pos (by omega),if_neg (by decide),if_pos (by omega),rdL hjl,gw1 (by omega),ed]
theorem ref_union_l0 (hl:l.length≤1000000) (hm : ∀ y ∈ l,y.length≤1000000∧Short 1000000000 y) : ∀ (r i:Nat) (out:List ByteArray),i+r=l.length→out.length+((l.drop i).map List.length).sum≤1000000000→Gives (fun k=>sennitref07_union.l0 k l out (i:Int)) (out ++ unionU (l.drop i))
 | 0,i,out,hi,hs=>Gives.of fun k=>by
  show sennitref07_union.l0 (k+1) l out (i:Int)=_;rw[sennitref07_union.l0,if_neg (by omega),List.drop_of_length_le (by omega),unionU,List.append_nil]
 | r+1,i,out,hi,hs=>by
  (have hil:i < l.length:=by omega);have hmi:=hm _ (List.getElem_mem hil);(rw[dropCons hil] at hs ⊢);(rw[List.map_cons,List.sum_cons] at hs);have ih:=ref_union_l0 hl hm r (i+1) (out ++ unX (behindB (l.drop (i+1))) l[i]) (by omega) (by rw[List.length_append,unX_len];omega);(rw[List.append_assoc] at ih);have h2:=ref_union_l2 hl hil hmi.1 hmi.2 (out:=out) (by omega) ih l[i].length 0 (by omega);(rw[List.take_zero,List.append_nil] at h2);have h1:=ref_union_l1 hl (i:=i) (out:=out) (l.length - (i+1)) (i+1) false (by omega) (by rw[Bool.false_or];exact h2);(refine h1.step fun k=>?_);show sennitref07_union.l0 (k+1) l out (i:Int)=_;rw[sennitref07_union.l0,if_pos (by omega),gw1 (by omega)]
theorem ref_union07 (hl:l.length≤1000000) (hm : ∀ y ∈ l,y.length≤1000000∧Short 1000000000 y) (hs:(l.map List.length).sum≤1000000000):Gives (fun k=>sennitref07_union.f k l) (unionF l):=by
 have h:=ref_union_l0 hl hm l.length 0 [] (by omega) (by rw[List.drop_zero];simpa using hs);(rw[List.nil_append,List.drop_zero,← unionF_U] at h);exact h
end
theorem rdSp {xs:List Spanx} {i:Nat} (h:i < xs.length):rd_T45 xs (i:Int)=xs[i]:=getN h
theorem ref_within {s:Spanx} {n:Nat} (h:SpanOk s n):sennitref06_within.f s.f0 s.f1 (n:Int)=some true:=by
 obtain⟨h1,h2,h3⟩:=h;rw[sennitref06_within.f,if_pos h1,if_pos h2,decide_eq_true h3]
section
variable {base:List ByteArray} {sides:List (List ByteArray)} {c:Chunk}
theorem span_at (hc:ChunkOk base sides c) {i:Nat} (hi:i < sides.length) (h2:i < c.f2.length):SpanOk c.f2[i] sides[i].length:=by
 have h:=hc.2.2 i hi;(have e:c.f2.getD i z45=c.f2[i]:=by simp[h2]);(rw[e] at h);exact h
theorem ref_Parts_l1 (hc:ChunkOk base sides c) (hs:sides.length≤1000000) : ∀ (r i:Nat),i+r=sides.length→Gives (fun k=>sennitref06_Parts.l1 k base sides (partsF (c.f2.take i) (sides.take i)) (i:Int) c.f0 c.f1.f0 c.f1.f1 c.f2) (cutS base c.f1,partsF c.f2 sides,(0:Int))
 | 0,i,hi=>Gives.of fun k=>by
  have h0:=hc.1;obtain⟨h1,h2,h3⟩:=hc.2.1;show sennitref06_Parts.l1 (k+1) base sides _ (i:Int) c.f0 c.f1.f0 c.f1.f1 c.f2=_;(rw[sennitref06_Parts.l1,if_neg (by omega),if_pos h1,if_pos h2,if_pos h3,List.take_of_length_le (l:=c.f2) (by omega),List.take_of_length_le (l:=sides) (by omega)];rfl)
 | r+1,i,hi=>by
  (have hil:i < sides.length:=by omega);(have hil2:i < c.f2.length:=by have:=hc.1;omega);obtain⟨h1,h2,h3⟩:=span_at hc hil hil2;have ih:=ref_Parts_l1 hc hs r (i+1) (by omega);(rw[partsF_succ hil2 hil] at ih);have hln:(partsF (c.f2.take i) (sides.take i)).length=(sides.take i).length:=partsF_len (by rw[List.length_take,List.length_take,hc.1]);(rw[List.length_take] at hln);(refine ih.step fun k=>?_);show sennitref06_Parts.l1 (k+1) base sides _ (i:Int) c.f0 c.f1.f0 c.f1.f1 c.f2=_;(rw[sennitref06_Parts.l1,if_pos (by omega),if_pos (by omega),if_pos (by omega),rdSp hil2,rdL hil,if_pos h1,if_pos h2,if_pos h3,if_pos (by omega),gw1 (by omega)];rfl)
theorem ref_Parts_l0 (hc:ChunkOk base sides c) (hs:sides.length≤1000000) : ∀ (r i:Nat),i+r=sides.length→Gives (fun k=>sennitref06_Parts.l0 k base sides true (i:Int) c.f0 c.f1.f0 c.f1.f1 c.f2) (cutS base c.f1,partsF c.f2 sides,(0:Int))
 | 0,i,hi=>(ref_Parts_l1 hc hs sides.length 0 (by omega)).step fun k=>by
  show sennitref06_Parts.l0 (k+1) base sides true (i:Int) c.f0 c.f1.f0 c.f1.f1 c.f2=_;(rw[sennitref06_Parts.l0,if_neg (by omega),if_pos rfl];rfl)
 | r+1,i,hi=>by
  (have hil:i < sides.length:=by omega);(have hil2:i < c.f2.length:=by have:=hc.1;omega);(refine(ref_Parts_l0 hc hs r (i+1) (by omega)).step fun k=>?_);show sennitref06_Parts.l0 (k+1) base sides true (i:Int) c.f0 c.f1.f0 c.f1.f1 c.f2=_;rw[sennitref06_Parts.l0,if_pos (by omega),if_pos rfl,if_pos (by omega),if_pos (by omega),rdSp hil2,rdL hil,ref_within (span_at hc hil hil2),Option.bind_some,gw1 (by omega)]
theorem ref_Parts06 (hc:ChunkOk base sides c) (hs:sides.length≤1000000):Gives (fun k=>sennitref06_Parts.f k c.f0 c.f1.f0 c.f1.f1 c.f2 base sides) (cutS base c.f1,partsF c.f2 sides,(0:Int)) :=
  (ref_Parts_l0 hc hs sides.length 0 (by omega)).same fun k=>by
    show sennitref06_Parts.f k c.f0 c.f1.f0 c.f1.f1 c.f2 base sides=_
    rw[sennitref06_Parts.f,if_pos (by rw[hc.1]),ref_within hc.2.1,Option.bind_some];rfl
end
abbrev AlSt:=List Chunk × Chunk
def gapSt (ms:List (List Int)) (k:Nat) (st:AlSt):AlSt:=if emptyB (chunkR st.2 (k:Int) (placesR ms k 0))=true then st else (st.1 ++ [chunkR st.2 (k:Int) (placesR ms k 0)],chunkR st.2 (k:Int) (placesR ms k 0))
def oneC (ms:List (List Int)) (k:Nat) (last:Chunk):Chunk:=⟨true,(chunkR last ((k:Int)+1) (placesR ms k 1)).f1,(chunkR last ((k:Int)+1) (placesR ms k 1)).f2⟩
def lastC (l:List Chunk):Chunk:=l.getD (l.length - 1) z48
def putSt (t:Bool) (one:Chunk) (out:List Chunk):AlSt:=if t=true then (out.take (out.length - 1) ++ [joinR (lastC out) one],joinR (lastC out) one) else (out ++ [one],one)
def stepSt (ms:List (List Int)) (k:Nat) (st:AlSt):AlSt:=if stableB ms k=true then putSt (togB ms k) (oneC ms k (gapSt ms k st).2) (gapSt ms k st).1 else st
def runSt (ms:List (List Int)):Nat→Nat→AlSt→AlSt
  | 0,_,st=>st
  | r+1,k,st=>runSt ms r (k+1) (stepSt ms k st)
def endSt (m:Nat) (sizes:List Int) (st:AlSt):List Chunk:=if emptyB (chunkR st.2 (m:Int) sizes)=true then st.1 else st.1 ++ [chunkR st.2 (m:Int) sizes]
def alignR (m:Nat) (sizes:List Int) (ms:List (List Int)):List Chunk:=endSt m sizes (runSt ms m 0 ([],z48))
def StOk (ms:List (List Int)) (k:Nat) (st:AlSt):Prop:=(st.2.f2=[]∨st.2.f2.length=ms.length)∧(∀ c ∈ st.1,c.f2.length=ms.length)∧st.1.length≤2 * k∧(0 < k→stableB ms (k - 1)=true→0 < st.1.length)
theorem lastC_mem {l:List Chunk} (h:0 < l.length):lastC l ∈ l:=by
 (rw[lastC,getD_get (by omega)];exact List.getElem_mem _)
theorem gapSt_ok {ms:List (List Int)} {k:Nat} {st:AlSt} (h:StOk ms k st):((gapSt ms k st).2.f2=[]∨(gapSt ms k st).2.f2.length=ms.length)∧(∀ c ∈ (gapSt ms k st).1,c.f2.length=ms.length)∧(gapSt ms k st).1.length≤2 * k+1∧st.1.length≤(gapSt ms k st).1.length:=by
 obtain⟨h1,h2,h3,h4⟩:=h;have hc:=chunkR_len st.2 (k:Int) (placesR_len ms k 0) h1;unfold gapSt;split;(· exact⟨h1,h2,by omega,Nat.le_refl _⟩)
 ·
  refine⟨.inr hc,fun c hcm=>?_,by simp only[List.length_append,List.length_singleton];omega,by simp⟩
  rcases List.mem_append.1 hcm with hcm|hcm
  (· exact h2 c hcm);(· (rw[List.mem_singleton.1 hcm];exact hc))
theorem oneC_len {ms:List (List Int)} {k:Nat} {last:Chunk} (h:last.f2=[]∨last.f2.length=ms.length):(oneC ms k last).f2.length=ms.length:=chunkR_len last ((k:Int)+1) (placesR_len ms k 1) h
theorem stepSt_ok {ms:List (List Int)} {k:Nat} {st:AlSt} (h:StOk ms k st):StOk ms (k+1) (stepSt ms k st):=by
 obtain⟨g1,g2,g3,g4⟩:=gapSt_ok h;obtain⟨h1,h2,h3,h4⟩:=h;have ho:=oneC_len (k:=k) g1;unfold stepSt
 by_cases hs:stableB ms k=true
 ·
  rw[if_pos hs];unfold putSt
  by_cases ht:togB ms k=true
  ·
   rw[if_pos ht];(rw[togB,Bool.and_eq_true,Bool.and_eq_true,decide_eq_true_eq] at ht);(have hp:0 < (gapSt ms k st).1.length:=by have:=h4 ht.1.1 ht.1.2;omega);have hj:=joinR_len (g2 _ (lastC_mem hp)) ho;refine⟨.inr hj,fun c hc=>?_,by simp only[List.length_append,List.length_singleton,List.length_take];omega,fun _ _=>by simp⟩
   rcases List.mem_append.1 hc with hc|hc
   (· exact g2 c (List.mem_of_mem_take hc));(· (rw[List.mem_singleton.1 hc];exact hj))
  ·
   rw[if_neg ht];refine⟨.inr ho,fun c hc=>?_,by simp only[List.length_append,List.length_singleton];omega,fun _ _=>by simp⟩
   rcases List.mem_append.1 hc with hc|hc
   (· exact g2 c hc);(· (rw[List.mem_singleton.1 hc];exact ho))
 (· rw[if_neg hs];exact⟨h1,h2,by omega,fun _ h=>absurd h hs⟩)
def ChunkAt (w:World) (g B:Nat) (c:Chunk) (vs:Value):Prop:=w.heap[g]? = some (.cells #[.bool c.f0, .int .i64 c.f1.f0, .int .i64 c.f1.f1,vs] 48 (0,0))∧Kd.R k45 45 w B (fun _=>True) vs c.f2
theorem ChunkAt.below {w w':World} {g B:Nat} {c:Chunk} {vs:Value} (h:ChunkAt w g B c vs) (hb:Below w.heap.size w w'):ChunkAt w' g B c vs:=⟨far_keep h.1 hb,Kd.R_below h.2 hb⟩
theorem ChunkAt.spans {w:World} {g B:Nat} {c:Chunk} {vs:Value} (h:ChunkAt w g B c vs):Kd.R k45 45 w B (fun _=>True) vs c.f2:=h.2
theorem ChunkAt.blk {w:World} {g B:Nat} {c:Chunk} {vs:Value} (h:ChunkAt w g B c vs):w.heap[g]? = some (.cells #[.bool c.f0, .int .i64 c.f1.f0, .int .i64 c.f1.f1,vs] 48 (0,0)):=h.1
theorem ChunkAt.cell {w:World} {g B:Nat} {c:Chunk} {vs:Value} (h:ChunkAt w g B c vs):w.cell? ⟨g,0,none⟩=some (.bool c.f0)∧w.cell? ⟨g,1,none⟩=some (.int .i64 c.f1.f0)∧w.cell? ⟨g,2,none⟩=some (.int .i64 c.f1.f1)∧w.cell? ⟨g,3,none⟩=some vs:=⟨cell_blk h.1 rfl,cell_blk h.1 rfl,cell_blk h.1 rfl,cell_blk h.1 rfl⟩
theorem ChunkAt.frozen {w:World} {g B:Nat} {c:Chunk} {vs:Value} (h:ChunkAt w g B c vs) (j:Nat):w.frozen? ⟨g,j,none⟩=false:=frozen_of_row _ _ _ _ _ h.1
def AlI (W w:World) (g:Nat) (ok:Nat→Prop) (vo vs:Value) (out:List Chunk) (last:Chunk):Prop:=Below W.heap.size W w∧ChunkAt w g W.heap.size last vs∧Kd.R k48 48 w W.heap.size ok vo out∧W.heap.size≤g
section
variable {W w w':World} {g:Nat} {ok ok':Nat→Prop} {vo vs:Value} {out:List Chunk} {last:Chunk}
theorem AlI.below (h:AlI W w g ok vo vs out last) (hb:Below w.heap.size w w'):AlI W w' g ok vo vs out last:=⟨far_ h.1 hb,h.2.1.below hb,Kd.R_below h.2.2.1 hb,h.2.2.2⟩
theorem AlI.bel (h:AlI W w g ok vo vs out last):Below W.heap.size W w:=h.1
theorem AlI.lst (h:AlI W w g ok vo vs out last):ChunkAt w g W.heap.size last vs:=h.2.1
theorem AlI.row (h:AlI W w g ok vo vs out last):Kd.R k48 48 w W.heap.size ok vo out:=h.2.2.1
theorem AlI.ge (h:AlI W w g ok vo vs out last):W.heap.size≤g:=h.2.2.2
theorem AlI.bound (h:AlI W w g ok vo vs out last):AlI W w g (fun k=>ok k∧k < w.heap.size) vo vs out last:=⟨h.1,h.2.1,Kd.R_mono (Kd.R_bound h.2.2.1) (fun k hk=>⟨hk.1,hk.2.2.1⟩),h.2.2.2⟩
theorem AlI.mono (h:AlI W w g ok vo vs out last) (hk : ∀ k,ok k→ok' k):AlI W w g ok' vo vs out last:=⟨h.1,h.2.1,Kd.R_mono h.2.2.1 hk,h.2.2.2⟩
def T45 (w:World) (k:Nat):Prop := ∃ cells,w.heap[k]? = some (.cells cells 45 (0,0))
theorem spans_typed {B:Nat} {l:List Spanx} {ok:Nat→Prop} (h:Kd.R k45 45 w B ok vs l):Kd.R k45 45 w B (T45 w) vs l:=Kd.R_mono (Kd.R_bound h) (fun k hk=>by
  obtain⟨_,_,_,q,hq,hc⟩:=hk
  have hall : ∀ q,q ∈ 45 :: k45.E→q=45:=by decide
  rw[hall q hq] at hc
  exact hc)
theorem AlI.other (h:AlI W w g ok vo vs out last) {g':Nat} (hs:w'.heap.size=w.heap.size) (hk : ∀ k,k≠g'→w'.heap[k]? = w.heap[k]?) (hb:Below W.heap.size W w') (hg:g≠g') (ho : ∀ k,ok k→k≠g') {cs:Array Value} (ht:w.heap[g']? = some (.cells cs 48 (0,0))):AlI W w' g ok vo vs out last:=by
 refine⟨hb,⟨(hk g hg).trans h.2.1.1,?_⟩,Kd.R_step h.2.2.1 (fun k hk' _=>hk k (ho k hk')),h.2.2.2⟩;refine Kd.R_mono (Kd.R_step (spans_typed h.2.1.2) (fun k hk' _=>hk k (fun e=>?_))) (fun _ _=>trivial);obtain⟨cells,hc⟩:=hk';(rw[e,ht] at hc);(injection hc with hc);(injection hc with _ e2 _);exact absurd e2 (by decide)
theorem spans_other {B:Nat} {l:List Spanx} (h:Kd.R k45 45 w B (fun _=>True) vs l) {g':Nat} (hk : ∀ k,k≠g'→w'.heap[k]? = w.heap[k]?) {cs:Array Value} (ht:w.heap[g']? = some (.cells cs 48 (0,0))):Kd.R k45 45 w' B (fun _=>True) vs l:=by
 refine Kd.R_mono (Kd.R_step (spans_typed h) (fun k hk' _=>hk k (fun e=>?_))) (fun _ _=>trivial);obtain⟨cells,hc⟩:=hk';(rw[e,ht] at hc);(injection hc with hc);(injection hc with _ e2 _);exact absurd e2 (by decide)
theorem T45.ne {k g':Nat} {cs:Array Value} (h:T45 w k) (hg:w.heap[g']? = some (.cells cs 48 (0,0))):k≠g':=fun e=>by
  obtain⟨cells,hc⟩:=h
  rw[e,hg] at hc
  injection hc with hc
  injection hc with _ e2 _
  exact absurd e2 (by decide)
theorem T45.own {k B:Nat} (h:T45 w k) (hO:Kd.R k48 48 w B ok vo out):some k≠vo.ownBlock:=fun e=>by
  obtain⟨cells,hc⟩:=Kd.R_typed hO k e.symm
  exact h.ne hc rfl
theorem ChunkAt.grow {w1:World} {g' B:Nat} {c:Chunk} (h:ChunkAt w g' B c vs) {B':Nat} (hO:Kd.R k48 48 w B' ok vo out) (hok : ∀ k,ok k→k≠g') (hg:w.grownBy w1 vo.ownBlock):ChunkAt w1 g' B c vs:=⟨blk_grown h.1 hg (Kd.R_away hO hok),Kd.R_over' h.2 (Kd.R_typed hO) (by decide) hg⟩
theorem AlI.grow {w1:World} {vo':Value} {out':List Chunk} (h:AlI W w g ok vo vs out last) (hok : ∀ k,ok k→k≠g) (hg:w.grownBy w1 vo.ownBlock) (hb:Below W.heap.size W w1) (hr:Kd.R k48 48 w1 W.heap.size ok' vo' out'):AlI W w1 g ok' vo' vs out' last:=⟨hb,h.lst.grow h.row hok hg,hr,h.ge⟩
theorem AlI.put (h:AlI W w g ok vo vs out last) (hok : ∀ k,ok k→k≠g) (hb:Below W.heap.size W w') (hk : ∀ k,k≠g→w'.heap[k]? = w.heap[k]?) {c:Chunk} {vs':Value} (hc:w'.heap[g]? = some (.cells #[.bool c.f0, .int .i64 c.f1.f0, .int .i64 c.f1.f1,vs'] 48 (0,0))) (hs:Kd.R k45 45 w W.heap.size (fun _=>True) vs' c.f2):AlI W w' g ok vo vs' out c:=⟨hb,⟨hc,spans_other hs hk h.lst.1⟩,Kd.R_step h.row (fun k hk' _=>hk k (hok k hk')),h.ge⟩
theorem AlI.take {A:Option Addr} {n c m:Nat} (h:AlI W w g ok (.slice A n c) vs out last) (hm:m≤out.length):AlI W w g ok (.slice A m c) vs (out.take m) last:=⟨h.1,h.2.1,Kd.R_take h.2.2.1 hm,h.2.2.2⟩
theorem put4 {g':Nat} {a b c d:Value} (h:w.heap[g']? = some (.cells #[a,b,c,d] 48 (0,0))) (x0 x1 x2 x3:Value) : ∃ w5,(((w.setCell ⟨g',0,none⟩ x0).setCell ⟨g',1,none⟩ x1).setCell ⟨g',2,none⟩ x2).setCell ⟨g',3,none⟩ x3=w5∧Aside0 (w5.heap[g']? = some (.cells #[x0,x1,x2,x3] 48 (0,0)))∧Aside0 (∀ k,k≠g'→w5.heap[k]? = w.heap[k]?)∧Aside0 (w5.heap.size=w.heap.size)∧Aside0 (∀ B w0,B≤g'→Below B w0 w→Below B w0 w5):=by
 have h1:=blk_put h 0 x0 (cs':=#[x0,b,c,d]) rfl;have h2:=blk_put h1 1 x1 (cs':=#[x0,x1,c,d]) rfl;have h3:=blk_put h2 2 x2 (cs':=#[x0,x1,x2,d]) rfl;have h4:=blk_put h3 3 x3 (cs':=#[x0,x1,x2,x3]) rfl;exact⟨_,rfl,⟨h4⟩,⟨fun k hk=>by rw[heap_set_other hk,heap_set_other hk,heap_set_other hk,heap_set_other hk]⟩,⟨by simp[World.setCell]⟩,⟨fun B w0 hB hb=>(((hb.setCell (p:=⟨g',0,none⟩) hB _).setCell (p:=⟨g',1,none⟩) hB _).setCell (p:=⟨g',2,none⟩) hB _).setCell (p:=⟨g',3,none⟩) hB _⟩⟩
end
theorem ref_Align05 (m:Nat) (A1:Option Addr) (c1:Nat) (sizes:List Int) (A2:Option Addr) (c2:Nat) (ms:List (List Int)) (W:World) (hr1:Kd.C (Kd.int .i64) W A1 sizes.length sizes) (hc1:sizes.length≤c1) (hr2:Kd.C KIa W A2 ms.length ms) (hc2:ms.length≤c2)
    (hn:sizes.length=ms.length) (hn1:1≤ms.length) (hn2:ms.length≤16) (hm:m≤40000) (hl:AllLen ms m) (hv:ValsIn ms) (hmay:Gives (fun K=>sennitref05_may.f K (m:Int) sizes ms) true) :
    Calls Tryz.prog 42 #[.int .i64 (m:Int), .slice A1 sizes.length c1, .slice A2 ms.length c2] W fun e w' => ∃ v0_:Value,e = .returned (.tuple #[v0_, .int .i64 0])∧Kd.R k48 48 w' W.heap.size (fun _=>True) v0_ (alignR m sizes ms)∧Below W.heap.size W w':=by
 obtain⟨K0,hk0⟩:=hmay;have HMAY:Aside0 (sennitref05_may.f K0 (m:Int) sizes ms=some true):=⟨hk0 K0 (Nat.le_refl _)⟩;have HR1:=Aside0.mk hr1;have HR2:=Aside0.mk hr2;have HL:=Aside0.mk hl;have HV:=Aside0.mk hv;clear hr1 hr2 hl hv hk0;obtain⟨n,hnn⟩ : ∃ n,ms.length=n:=⟨_,rfl⟩;have HN:=Aside0.mk hnn;have HSN:=Aside0.mk hn;clear hnn hn;(rw[HN.out] at hn1 hn2 hc2);(rw[HSN.out,HN.out] at hc1);obtain⟨FIN,hFIN⟩ : ∃ s,runSt ms m 0 ([],z48)=s:=⟨_,rfl⟩;have HFIN:=Aside0.mk hFIN;have HAR:Aside0 (alignR m sizes ms=endSt m sizes FIN):=⟨by rw[alignR,hFIN]⟩;rw[HAR.out];clear hFIN;go_enter Tryz.func42,Tryz.ntmps42;(go_wp2_with fail);refine(sennitref05_may.calls K0 (m:Int) A1 c1 sizes A2 c2 ms true W HR1.out (by rw[HSN.out,HN.out];exact hc1) HR2.out (by rw[HN.out];exact hc2) HMAY.out).mono ?_;rintro e w0' ⟨rfl,n0,hw0⟩;obtain⟨w0,hw0'⟩ : ∃ w_,w_=w0':=⟨_,rfl⟩;(rw[← hw0'] at hw0 ⊢);have HB0:Aside0 (Below W.heap.size W w0):=⟨by rw[hw0];exact pw_below_drewN (Below.refl _ _) n0⟩;clear hw0 hw0';(go_wp2_with fail);obtain⟨wa,hwa⟩ : ∃ wa,w0.alloc (.cells #[.bool false, .int .i64 0, .int .i64 0, .slice none 0 0] 48)=wa:=⟨_,rfl⟩;(have hba:Below w0.heap.size w0 wa:=by rw[← hwa];exact newBelow _ _);(have hga:wa.heap[w0.heap.size]? = some (.cells #[.bool false, .int .i64 0, .int .i64 0, .slice none 0 0] 48 (0,0)):=by rw[← hwa];exact blk_new _ _);obtain⟨g,hg⟩ : ∃ g,w0.heap.size=g:=⟨_,rfl⟩;have hI0:AlI W wa g (fun k=>k≠g) (.slice none 0 0) (.slice none 0 0) [] z48:=⟨far_ HB0.out hba,⟨by rw[← hg];exact hga,Kd.R_nil _ _ _ _ _⟩,Kd.R_nil _ _ _ _ _,by rw[← hg];exact HB0.out.size⟩;rw[hwa,hg];have HI0:=Aside0.mk hI0;clear hwa hba hga hg hI0 HB0 HMAY
 go_loopw [8,10] (fun s8 s10 wr => ∃ (k:Nat) (out:List Chunk) (last:Chunk) (vs:Value),s10 = .int .i64 k∧k≤m∧Aside0 (StOk ms k (out,last))∧Aside0 (runSt ms (m - k) k (out,last)=FIN)∧Aside0 (AlI W wr g (fun k=>k≠g) s8 vs out last)) (fun _ s10 _=>m - (intOf s10).toNat)
 (case atStart=>exact⟨0,[],z48,_,rfl,Nat.zero_le _,⟨⟨.inl rfl,fun c hc=>(by cases hc),Nat.zero_le _,fun h=>absurd h (Nat.lt_irrefl 0)⟩⟩,HFIN,HI0⟩)
 case round =>
  obtain⟨k,out,last,vs,rfl,hk,HOK,HFN,HI⟩:=hrel
  by_cases hlt:k < m
  ·
   (have hkk:m - k=(m - (k+1))+1:=by omega);(have hfn:runSt ms (m - (k+1)) (k+1) (stepSt ms k (out,last))=FIN:=by rw[← HFN.out,hkk];rfl);have hok2:=stepSt_ok HOK.out;obtain⟨Kst,hst⟩:=ref_stable05 (k:=k) HL.out HV.out hlt (by rw[HN.out];omega);obtain⟨x,hx⟩ : ∃ x,stableB ms k=x:=⟨_,rfl⟩;have HST:Aside0 (sennitref05_stable.f Kst ms (k:Int)=some x):=⟨by rw[← hx];exact hst Kst (Nat.le_refl _)⟩;have HX:=Aside0.mk hx;have HFN2:=Aside0.mk hfn;have HOK2:=Aside0.mk hok2;obtain⟨Ao,co,hvo⟩:=Kd.R_slice HI.out.row;subst hvo;obtain⟨As,cs,hvs,hls,hCs⟩:=Kd.R_reads HI.out.lst.spans;subst hvs;have HLS:=Aside0.mk hls;have d1:decide ((k:Int) < (m:Int))=true:=decide_eq_true (by omega);have d2:decide (k < m)=true:=decide_eq_true hlt;clear hkk hfn hok2 hst hx hls hCs;(go_wp2_with fail);refine(sennitref05_stable.calls Kst A2 c2 ms (k:Int) x wr (Kd.C_below HR2.out HI.out.bel) (by rw[HN.out];exact hc2) HST.out).mono ?_;rintro e w1' ⟨rfl,n1,hw1⟩;obtain⟨w1,hw1'⟩ : ∃ w_,w_=w1':=⟨_,rfl⟩;(rw[← hw1'] at hw1 ⊢);have HI1:Aside0 (AlI W w1 g (fun k=>k≠g) (.slice Ao out.length co) (.slice As last.f2.length cs) out last):=⟨HI.out.below (by rw[hw1];exact pw_below_drewN (Below.refl _ _) n1)⟩;clear hw1 hw1' HI HST
   cases x with
   | false =>
    (have e1:stepSt ms k (out,last)=(out,last):=by rw[stepSt,HX.out,if_neg (by decide)]);(rw[e1] at HFN2 HOK2);clear e1;go_wp2;go_roundw;(case measure=>simp[intOf];omega);(case rel=>exact⟨k+1,out,last,_,by go_num,by omega,HOK2,HFN2,HI1⟩)
   | true =>
    (have hstep:stepSt ms k (out,last)=putSt (togB ms k) (oneC ms k (gapSt ms k (out,last)).2) (gapSt ms k (out,last)).1:=by rw[stepSt,HX.out,if_pos rfl]);(rw[hstep] at HFN2 HOK2);obtain⟨q1,q2,q3,q4⟩:=gapSt_ok HOK.out
    have q5:togB ms k=true→0 < (gapSt ms k (out,last)).1.length:=fun ht=>by
     (rw[togB,Bool.and_eq_true,Bool.and_eq_true,decide_eq_true_eq] at ht);have:=HOK.out.2.2.2 ht.1.1 ht.1.2;exact Nat.lt_of_lt_of_le this q4
    have HQ:=Aside0.mk (And.intro q1 (And.intro q2 (And.intro q3 q5)))
    -- the gap
    obtain⟨P,hP⟩ : ∃ P,placesR ms k 0=P:=⟨_,rfl⟩;obtain⟨KP0,hKP⟩:=ref_places05 (k:=k) HL.out HV.out hlt (by rw[HN.out];omega) 0 (by decide) (by decide);have hp0:=hKP KP0 (Nat.le_refl _);(dsimp only at hp0);(rw[hP] at hp0);have HP0:=Aside0.mk hp0;(have hPl:P.length=n:=by rw[← hP,placesR_len,HN.out]);obtain⟨KG,hKG⟩:=ref_chunk05 last (k:Int) P (by rw[hPl,← HN.out];exact HOK.out.1) (by omega);have hg0:=hKG KG (Nat.le_refl _);(dsimp only at hg0);obtain⟨G,hG⟩ : ∃ G,chunkR last (k:Int) P=G:=⟨_,rfl⟩;(rw[hG] at hg0);have HG0:=Aside0.mk hg0;(have hGl:G.f2.length=n:=by rw[← hG];exact chunkR_len last (k:Int) hPl (by rw[← HN.out];exact HOK.out.1));obtain⟨KE,hKE⟩:=ref_empty05 G (by omega);obtain⟨E,hE⟩ : ∃ E,emptyB G=E:=⟨_,rfl⟩;have he0:=hKE KE (Nat.le_refl _);(dsimp only at he0);(rw[hE] at he0);have HE0:=Aside0.mk he0;(have hgap:gapSt ms k (out,last)=if E=true then (out,last) else (out ++ [G],G):=by rw[gapSt];dsimp only;rw[hP,hG,hE]);have HGAP:=Aside0.mk hgap;have HIb:=Aside0.mk HI1.out.bound;obtain⟨z0,z1,z2,z3⟩:=HI1.out.lst.cell;have HR2w:Aside0 (∀ w',Below W.heap.size W w'→Kd.C KIa w' A2 ms.length ms):=⟨fun w' hb=>Kd.C_below HR2.out hb⟩;(have hcc2:ms.length≤c2:=by rw[HN.out];exact hc2);have HCC2:=Aside0.mk hcc2;clear hstep q1 q2 q3 q4 q5 hP hKP hp0 hPl hKG hg0 hG hGl hKE hE he0 hgap hcc2 HX;go_wp2;refine start_ (n:=8) (S:=fun w'=>w'.cell? ⟨g,0,none⟩=some (.bool last.f0)∧w'.cell? ⟨g,1,none⟩=some (.int .i64 last.f1.f0)∧w'.cell? ⟨g,2,none⟩=some (.int .i64 last.f1.f1)∧w'.cell? ⟨g,3,none⟩=some (.slice As last.f2.length cs)) (ds:=[7]) (bm_ 8 0) (by kernel_rfl) rfl rfl ⟨z0,z1,z2,z3⟩ (fun hHeld=>?_);refine pq_ (i:=1) (N:=some 29) (bm_ 8 2) ?_;refine pq_ (i:=2) (N:=some 30) (bm_ 8 6) ?_;refine pq_ (i:=3) (N:=some 31) (bm_ 8 14) ?_;refine tq_ (i:=0) (N:=some 28) (bm_ 8 15) hHeld ?_;refine join_ (σ:=Value × Value × Nat) 1 (bm_ 8 127) (fun s=>[(32,s.1),(33, .agg #[.bool G.f0, .int .i64 G.f1.f0, .int .i64 G.f1.f1,s.2.1]),(11, .pointer (some ⟨s.2.2,0,none⟩))]) (fun s w'=>Aside0 (AlI W w' g (fun k=>k≠g∧k < w1.heap.size) (.slice Ao out.length co) (.slice As last.f2.length cs) out last)∧Aside0 (Kd.R k45 45 w' W.heap.size (fun _=>True) s.2.1 G.f2)∧Aside0 (w'.heap[s.2.2]? = some (.cells #[.bool false, .int .i64 0, .int .i64 0, .slice none 0 0] 48 (0,0)))∧Aside0 (w1.heap.size≤s.2.2)) ?_ ?_;rotate_left
    ·
     intro hCont;refine two_ (i:=4) (j:=6) (Ni:=some 32) (Nj:=some 11) (bm_ 8 31) (bm_ 8 79) rfl rfl rfl rfl (by kernel_rfl) (by decide) (by decide) (fun K hK=>?_) (fun K hK=>?_)
     ·
      skip;refine goes_ Tryz.func83 (by kernel_rfl) rfl #[.slice A2 ms.length c2, .int .i64 (k:Int), .int .i64 0] (by rfl) rfl rfl (by simp only[List.map_toArray,List.map_cons,List.map_nil];rfl) ?_;(with_reducible refine(sennitref05_places.calls KP0 A2 c2 ms (k:Int) 0 P _ (HR2w.out _ (far_ HIb.out.bel (Below.refl w1.heap.size w1).drew)) HCC2.out HP0.out).mono ?_);rintro e wxa ⟨vp,rfl,hr3,hb3⟩;obtain⟨Ap,cp,hvp,hlp,hCp⟩:=Kd.R_reads hr3;subst hvp;refine⟨_,rfl,?_⟩;have HBwxa:Aside0 (Below w1.heap.size w1 wxa):=⟨far_ (Below.refl w1.heap.size w1).drew hb3⟩;have HPwxa:=Aside0.mk hCp;have HLP:=Aside0.mk hlp;clear hr3 hb3 hlp hCp;refine hK.out _ _ ⟨(HIb.out.below HBwxa.out).lst.cell.1,(HIb.out.below HBwxa.out).lst.cell.2.1,(HIb.out.below HBwxa.out).lst.cell.2.2.1,(HIb.out.below HBwxa.out).lst.cell.2.2.2⟩ (fun hHeld=>?_);clear hK K;refine nq_ (N:=some 32) ?_;refine two_ (i:=5) (j:=6) (Ni:=some 33) (Nj:=some 11) (bm_ 8 63) (bm_ 8 95) rfl rfl rfl rfl (by kernel_rfl) (by decide) (by decide) (fun K hK=>?_) (fun K hK=>?_)
      ·
       skip;refine goes_ Tryz.func82 (by kernel_rfl) rfl #[.agg #[.bool last.f0, .int .i64 last.f1.f0, .int .i64 last.f1.f1, .slice As last.f2.length cs], .int .i64 (k:Int), .slice Ap P.length cp] (by rfl) rfl rfl (by simp only[List.map_toArray,List.map_cons,List.map_nil];rfl) ?_;(with_reducible refine(sennitref05_chunk.calls KG last.f0 last.f1.f0 last.f1.f1 As cs last.f2 (k:Int) Ap cp P G.f0 G.f1.f0 G.f1.f1 G.f2 _ (Kd.R_reads' (HIb.out.below HBwxa.out).lst.spans).2.2 HLS.out HPwxa.out HLP.out HG0.out).mono ?_);rintro e wxb ⟨vc,rfl,hr4,hb4⟩;refine⟨_,rfl,?_⟩;have HBwxb:Aside0 (Below w1.heap.size w1 wxb):=⟨far_ HBwxa.out hb4⟩;have HGCwxb:Aside0 (Kd.R k45 45 wxb W.heap.size (fun _=>True) vc G.f2):=⟨Kd.R_lower hr4 (far_ HIb.out.bel HBwxa.out).size⟩;clear hr4;have hb4_:=hb4;clear hb4;refine hK.out _ _ ⟨(HIb.out.below HBwxb.out).lst.cell.1,(HIb.out.below HBwxb.out).lst.cell.2.1,(HIb.out.below HBwxb.out).lst.cell.2.2.1,(HIb.out.below HBwxb.out).lst.cell.2.2.2⟩ (fun hHeld=>?_);clear hK K;refine nq_ (N:=some 33) ?_;refine one_ (i:=6) (N:=some 11) (bm_ 8 127) rfl rfl (by kernel_rfl) (by decide) (fun K hK=>?_);refine box_step (by rfl) (N:=11) rfl (cs:=#[.bool false, .int .i64 0, .int .i64 0, .slice none 0 0]) (t:=48) ?hr ?_;(case hr=>first|(go_simp;done)|(go_simp;rfl));intro gc hgc wxc hbx hb2;have HXwxc:=Aside0.mk hbx;have HBwxc:Aside0 (Below w1.heap.size w1 wxc):=⟨far_ HBwxb.out hb2⟩;have HGE:Aside0 (w1.heap.size≤gc):=⟨by rw[hgc];exact(HBwxb.out).size⟩;have hb2_:=hb2;clear hgc hbx hb2;have HGCwxc:Aside0 (Kd.R k45 45 wxc W.heap.size (fun _=>True) vc G.f2):=⟨Kd.R_below HGCwxb.out hb2_⟩;refine hK.out _ _ ⟨(HIb.out.below HBwxc.out).lst.cell.1,(HIb.out.below HBwxc.out).lst.cell.2.1,(HIb.out.below HBwxc.out).lst.cell.2.2.1,(HIb.out.below HBwxc.out).lst.cell.2.2.2⟩ (fun hHeld=>?_);clear hK K;refine nq_ (N:=some 11) ?_;exact norm_ (by simp only[putAll,Act.put,List.setIfInBounds_toArray,List.set_cons_zero,List.set_cons_succ]) (hCont (.slice Ap P.length cp,vc,gc) _ ⟨⟨HIb.out.below HBwxc.out⟩,HGCwxc,HXwxc,HGE⟩)
      ·
       skip;refine box_step (by rfl) (N:=11) rfl (cs:=#[.bool false, .int .i64 0, .int .i64 0, .slice none 0 0]) (t:=48) ?hr ?_;(case hr=>first|(go_simp;done)|(go_simp;rfl));intro gc hgc wxb hbx hb2;have HXwxb:=Aside0.mk hbx;have HBwxb:Aside0 (Below w1.heap.size w1 wxb):=⟨far_ HBwxa.out hb2⟩;have HGE:Aside0 (w1.heap.size≤gc):=⟨by rw[hgc];exact(HBwxa.out).size⟩;have hb2_:=hb2;clear hgc hbx hb2;have HPwxb:Aside0 (Kd.C (Kd.int .i64) wxb Ap P.length P):=⟨Kd.C_below HPwxa.out hb2_⟩;refine hK.out _ _ ⟨(HIb.out.below HBwxb.out).lst.cell.1,(HIb.out.below HBwxb.out).lst.cell.2.1,(HIb.out.below HBwxb.out).lst.cell.2.2.1,(HIb.out.below HBwxb.out).lst.cell.2.2.2⟩ (fun hHeld=>?_);clear hK K;refine nq_ (N:=some 11) ?_;refine one_ (i:=5) (N:=some 33) (bm_ 8 127) rfl rfl (by kernel_rfl) (by decide) (fun K hK=>?_);refine goes_ Tryz.func82 (by kernel_rfl) rfl #[.agg #[.bool last.f0, .int .i64 last.f1.f0, .int .i64 last.f1.f1, .slice As last.f2.length cs], .int .i64 (k:Int), .slice Ap P.length cp] (by rfl) rfl rfl (by simp only[List.map_toArray,List.map_cons,List.map_nil];rfl) ?_;(with_reducible refine(sennitref05_chunk.calls KG last.f0 last.f1.f0 last.f1.f1 As cs last.f2 (k:Int) Ap cp P G.f0 G.f1.f0 G.f1.f1 G.f2 _ (Kd.R_reads' (HIb.out.below HBwxb.out).lst.spans).2.2 HLS.out HPwxb.out HLP.out HG0.out).mono ?_);rintro e wxc ⟨vc,rfl,hr4,hb4⟩;refine⟨_,rfl,?_⟩;have HBwxc:Aside0 (Below w1.heap.size w1 wxc):=⟨far_ HBwxb.out hb4⟩;have HGCwxc:Aside0 (Kd.R k45 45 wxc W.heap.size (fun _=>True) vc G.f2):=⟨Kd.R_lower hr4 (far_ HIb.out.bel HBwxb.out).size⟩;have HXwxc:=Aside0.mk (far_keep HXwxb.out hb4);clear hr4 hb4;refine hK.out _ _ ⟨(HIb.out.below HBwxc.out).lst.cell.1,(HIb.out.below HBwxc.out).lst.cell.2.1,(HIb.out.below HBwxc.out).lst.cell.2.2.1,(HIb.out.below HBwxc.out).lst.cell.2.2.2⟩ (fun hHeld=>?_);clear hK K;refine nq_ (N:=some 33) ?_;exact norm_ (by simp only[putAll,Act.put,List.setIfInBounds_toArray,List.set_cons_zero,List.set_cons_succ]) (hCont (.slice Ap P.length cp,vc,gc) _ ⟨⟨HIb.out.below HBwxc.out⟩,HGCwxc,HXwxc,HGE⟩)
     ·
      skip;refine box_step (by rfl) (N:=11) rfl (cs:=#[.bool false, .int .i64 0, .int .i64 0, .slice none 0 0]) (t:=48) ?hr ?_;(case hr=>first|(go_simp;done)|(go_simp;rfl));intro gc hgc wxa hbx hb2;have HXwxa:=Aside0.mk hbx;have HBwxa:Aside0 (Below w1.heap.size w1 wxa):=⟨far_ (Below.refl w1.heap.size w1).drew hb2⟩;have HGE:Aside0 (w1.heap.size≤gc):=⟨by rw[hgc];exact((Below.refl w1.heap.size w1).drew).size⟩;clear hgc hbx hb2;refine hK.out _ _ ⟨(HIb.out.below HBwxa.out).lst.cell.1,(HIb.out.below HBwxa.out).lst.cell.2.1,(HIb.out.below HBwxa.out).lst.cell.2.2.1,(HIb.out.below HBwxa.out).lst.cell.2.2.2⟩ (fun hHeld=>?_);clear hK K;refine nq_ (N:=some 11) ?_;refine one_ (i:=4) (N:=some 32) (bm_ 8 95) rfl rfl (by kernel_rfl) (by decide) (fun K hK=>?_);refine goes_ Tryz.func83 (by kernel_rfl) rfl #[.slice A2 ms.length c2, .int .i64 (k:Int), .int .i64 0] (by rfl) rfl rfl (by simp only[List.map_toArray,List.map_cons,List.map_nil];rfl) ?_;(with_reducible refine(sennitref05_places.calls KP0 A2 c2 ms (k:Int) 0 P _ (HR2w.out _ (far_ HIb.out.bel HBwxa.out)) HCC2.out HP0.out).mono ?_);rintro e wxb ⟨vp,rfl,hr3,hb3⟩;obtain⟨Ap,cp,hvp,hlp,hCp⟩:=Kd.R_reads hr3;subst hvp;refine⟨_,rfl,?_⟩;have HBwxb:Aside0 (Below w1.heap.size w1 wxb):=⟨far_ HBwxa.out hb3⟩;have HPwxb:=Aside0.mk hCp;have HLP:=Aside0.mk hlp;have HXwxb:=Aside0.mk (far_keep HXwxa.out hb3);clear hr3 hb3 hlp hCp;refine hK.out _ _ ⟨(HIb.out.below HBwxb.out).lst.cell.1,(HIb.out.below HBwxb.out).lst.cell.2.1,(HIb.out.below HBwxb.out).lst.cell.2.2.1,(HIb.out.below HBwxb.out).lst.cell.2.2.2⟩ (fun hHeld=>?_);clear hK K;refine nq_ (N:=some 32) ?_;refine one_ (i:=5) (N:=some 33) (bm_ 8 127) rfl rfl (by kernel_rfl) (by decide) (fun K hK=>?_);refine goes_ Tryz.func82 (by kernel_rfl) rfl #[.agg #[.bool last.f0, .int .i64 last.f1.f0, .int .i64 last.f1.f1, .slice As last.f2.length cs], .int .i64 (k:Int), .slice Ap P.length cp] (by rfl) rfl rfl (by simp only[List.map_toArray,List.map_cons,List.map_nil];rfl) ?_;(with_reducible refine(sennitref05_chunk.calls KG last.f0 last.f1.f0 last.f1.f1 As cs last.f2 (k:Int) Ap cp P G.f0 G.f1.f0 G.f1.f1 G.f2 _ (Kd.R_reads' (HIb.out.below HBwxb.out).lst.spans).2.2 HLS.out HPwxb.out HLP.out HG0.out).mono ?_);rintro e wxc ⟨vc,rfl,hr4,hb4⟩;refine⟨_,rfl,?_⟩;have HBwxc:Aside0 (Below w1.heap.size w1 wxc):=⟨far_ HBwxb.out hb4⟩;have HGCwxc:Aside0 (Kd.R k45 45 wxc W.heap.size (fun _=>True) vc G.f2):=⟨Kd.R_lower hr4 (far_ HIb.out.bel HBwxb.out).size⟩;have HXwxc:=Aside0.mk (far_keep HXwxb.out hb4);clear hr4 hb4;refine hK.out _ _ ⟨(HIb.out.below HBwxc.out).lst.cell.1,(HIb.out.below HBwxc.out).lst.cell.2.1,(HIb.out.below HBwxc.out).lst.cell.2.2.1,(HIb.out.below HBwxc.out).lst.cell.2.2.2⟩ (fun hHeld=>?_);clear hK K;refine nq_ (N:=some 33) ?_;exact norm_ (by simp only[putAll,Act.put,List.setIfInBounds_toArray,List.set_cons_zero,List.set_cons_succ]) (hCont (.slice Ap P.length cp,vc,gc) _ ⟨⟨HIb.out.below HBwxc.out⟩,HGCwxc,HXwxc,HGE⟩)
    rintro⟨vp,vc,gc⟩ wxd ⟨HID,HGD,HXD,HGE⟩;(dsimp only at HID HGD HXD HGE ⊢);obtain⟨Ag,cg,hvc,hlg,hCg⟩:=Kd.R_reads HGD.out;subst hvc;have HLG:=Aside0.mk hlg;clear hlg hCg;have hHeld:=HID.out.lst.cell;have x0:=cell_blk (j:=0) HXD.out rfl;have x1:=cell_blk (j:=1) HXD.out rfl;have x2:=cell_blk (j:=2) HXD.out rfl;have x3:=cell_blk (j:=3) HXD.out rfl;have f0:=frozen_of_row _ _ 0 _ _ HXD.out;have f1:=frozen_of_row _ _ 1 _ _ HXD.out;have f2:=frozen_of_row _ _ 2 _ _ HXD.out;have f3:=frozen_of_row _ _ 3 _ _ HXD.out;refine norm_ (a':=?_) ?_ ?_;rotate_left;(· simp only[putAll,Act.put,List.setIfInBounds_toArray,List.set_cons_zero,List.set_cons_succ];rfl);refine last_ (i:=7) (N:=none) (bm_ 8 255) rfl rfl (by kernel_rfl) (by decide) (fun K hK=>?_);refine skip_ (w1:=?_) (by rfl) rfl ?_ ?_;rotate_left;(· go_simp;rfl);refine hK.out _ _ ?_;clear hK K;refine done_ (by kernel_rfl) ?_;obtain⟨w5,hw5,X5,K5,S5,B5⟩:=put4 HXD.out (.bool G.f0) (.int .i64 G.f1.f0) (.int .i64 G.f1.f1) (.slice Ag G.f2.length cg);rw[hw5];(have hne:g≠gc:=by have:=blk_lt HI1.out.lst.blk;have:=HGE.out;omega);have HI5:Aside0 (AlI W w5 g (fun k=>k≠g∧k < w1.heap.size) (.slice Ao out.length co) (.slice As last.f2.length cs) out last):=⟨HID.out.other S5.out K5.out (B5.out _ _ (Nat.le_trans HI1.out.bel.size HGE.out) HID.out.bel) hne (fun k hk=>by have:=HGE.out;omega) HXD.out⟩;have HG5:Aside0 (ChunkAt w5 gc W.heap.size G (.slice Ag G.f2.length cg)):=⟨⟨X5.out,spans_other HGD.out K5.out HXD.out⟩⟩;have HNE:=Aside0.mk hne;obtain⟨y0,y1,y2,y3⟩:=HG5.out.cell;clear hw5 X5 K5 S5 B5 HXD HGD HID x0 x1 x2 x3 f0 f1 f2 f3 hne z0 z1 z2 z3 HIb;(go_wp2_with fail);refine(sennitref05_Empty.calls KE G.f0 G.f1.f0 G.f1.f1 Ag cg G.f2 E w5 (Kd.R_reads' HG5.out.spans).2.2 HLG.out HE0.out).mono ?_;rintro e w6 ⟨rfl,hb6⟩;have HI6:=Aside0.mk (HI5.out.below hb6);have HG6:=Aside0.mk (HG5.out.below hb6);have HGL:Aside0 (∀ k,k≠g∧k < w1.heap.size→k≠gc):=⟨fun k hk=>by have:=HGE.out;omega⟩;clear hb6 HI5 HG5 y0 y1 y2 y3 HE0 HI1;have HLEN:Aside0 (out.length≤2 * k):=⟨HOK.out.2.2.1⟩;(have hk40:k≤40000:=by omega);cases E
    case' false =>
     (rw[if_neg (by decide)] at HGAP);(rw[HGAP.out] at HFN2 HOK2 HQ);(dsimp only at HFN2 HOK2 HQ);(have y0:=fun o=>cell_alloc_of HG6.out.cell.1 o);(have y1:=fun o=>cell_alloc_of HG6.out.cell.2.1 o);(have y2:=fun o=>cell_alloc_of HG6.out.cell.2.2.1 o);(have y3:=fun o=>cell_alloc_of HG6.out.cell.2.2.2 o);obtain⟨u0,u1,u2,u3⟩:=HG6.out.cell;(go_wp2_with (first|(at_builtin;refine Kd.R_append k48 (w0:=W) W.heap.size rfl (.tmp 37) (.tmp 39) 26 48 (.agg #[.bool false, .int .i64 0, .int .i64 0, .slice none 0 0]) 48 rfl Tryz.underlying26 info48 rfl (by decide) (by decide) (.slice Ao out.length co) out G [.bool G.f0, .int .i64 G.f1.f0, .int .i64 G.f1.f1, .slice Ag G.f2.length cg] (fun k=>k≠g∧k≠gc) (T45 w6) rfl rfl (k48_mkM _ _ _ G (spans_typed HG6.out.spans)) (fun k hk=>⟨⟨hk.ne HI6.out.lst.blk,hk.ne HG6.out.blk⟩,hk.own HI6.out.row⟩) (fun k hk=>by have h1:=blk_lt HI6.out.lst.blk;have h2:=blk_lt HG6.out.blk;exact⟨by omega,by omega⟩) (Kd.R_mono HI6.out.row (fun k hk=>⟨hk.1,HGL.out k hk⟩)) HI6.out.bel HI6.out.bel.size (by have:=HLEN.out;(try simp only[List.length_take]);omega) ?_;intro v7 w7 ho_ hb_ hg_ hat_;obtain⟨A7,k7,hv7⟩:=Kd.R_slice ho_;subst hv7;have HI7a:=Aside0.mk (HI6.out.grow (fun k hk=>hk.1) hg_ hb_ ho_);have HG7a:=Aside0.mk (HG6.out.grow HI6.out.row HGL.out hg_);obtain⟨v0,v1,v2,v3⟩:=HG7a.out.cell;obtain⟨t0,t1,t2,t3⟩:=HI7a.out.lst.cell;have r0:=HI7a.out.lst.frozen 0;have r1:=HI7a.out.lst.frozen 1;have r2:=HI7a.out.lst.frozen 2;have r3:=HI7a.out.lst.frozen 3;clear ho_ hb_ hg_ hat_ y0 y1 y2 y3 u0 u1 u2 u3)));obtain⟨w8,hw_,X8,K8,S8,B8⟩:=put4 HI7a.out.lst.blk (.bool G.f0) (.int .i64 G.f1.f0) (.int .i64 G.f1.f1) (.slice Ag G.f2.length cg);rw[hw_];have HI8:Aside0 (AlI W w8 g (fun k=>k≠g) (.slice A7 (out ++ [G]).length k7) (.slice Ag G.f2.length cg) (out ++ [G]) G):=⟨(HI7a.out.mono (fun k hk=>hk.1)).put (fun _ h=>h) (B8.out _ _ HI7a.out.ge HI7a.out.bel) K8.out X8.out HG7a.out.spans⟩;obtain⟨out1,ho1⟩ : ∃ o,out ++ [G]=o:=⟨_,rfl⟩;(have hl1:out.length+1=out1.length:=by rw[← ho1];simp);rw[hl1];(rw[ho1] at HI8 HFN2 HOK2 HQ);have HLS1:=HLG;clear hw_ X8 K8 S8 B8 HI7a HG7a HI6 HG6 ho1 hl1 v0 v1 v2 v3 t0 t1 t2 t3 r0 r1 r2 r3 HLS HLEN HOK HFN HGAP;obtain⟨last1,rfl⟩ : ∃ l,l=G:=⟨_,rfl⟩;obtain⟨As1,rfl⟩ : ∃ l,l=Ag:=⟨_,rfl⟩;obtain⟨cs1,rfl⟩ : ∃ l,l=cg:=⟨_,rfl⟩;obtain⟨A8,rfl⟩ : ∃ l,l=A7:=⟨_,rfl⟩;obtain⟨k8,rfl⟩ : ∃ l,l=k7:=⟨_,rfl⟩;clear HGL HLG HGE HNE
    case' true =>
     (rw[if_pos rfl] at HGAP);(rw[HGAP.out] at HFN2 HOK2 HQ);(dsimp only at HFN2 HOK2 HQ);go_wp2;have HI8:=Aside0.mk (HI6.out.mono (ok':=fun k=>k≠g) (fun k hk=>hk.1));have HLS1:=HLS;clear HG6 HLG HI6 HLS HLEN HOK HFN HGAP HGL HGE HNE;obtain⟨w8,rfl⟩ : ∃ l,l=w6:=⟨_,rfl⟩;obtain⟨out1,rfl⟩ : ∃ l,l=out:=⟨_,rfl⟩;obtain⟨last1,rfl⟩ : ∃ l,l=last:=⟨_,rfl⟩;obtain⟨As1,rfl⟩ : ∃ l,l=As:=⟨_,rfl⟩;obtain⟨cs1,rfl⟩ : ∃ l,l=cs:=⟨_,rfl⟩;obtain⟨A8,rfl⟩ : ∃ l,l=Ao:=⟨_,rfl⟩;obtain⟨k8,rfl⟩ : ∃ l,l=co:=⟨_,rfl⟩
    all_goals
     obtain⟨P1,hP⟩ : ∃ P,placesR ms k 1=P:=⟨_,rfl⟩;obtain⟨KP1,hKP⟩:=ref_places05 (k:=k) HL.out HV.out hlt (by rw[HN.out];omega) 1 (by decide) (by decide);have hp0:=hKP KP1 (Nat.le_refl _);(dsimp only at hp0);(rw[hP] at hp0);have HP1:=Aside0.mk hp0;(have hPl:P1.length=n:=by rw[← hP,placesR_len,HN.out]);obtain⟨KG1,hKG⟩:=ref_chunk05 last1 ((k:Int)+1) P1 (by rw[hPl,← HN.out];exact HQ.out.1) (by omega);have hg0:=hKG KG1 (Nat.le_refl _);(dsimp only at hg0);obtain⟨G1,hG⟩ : ∃ G,chunkR last1 ((k:Int)+1) P1=G:=⟨_,rfl⟩;(rw[hG] at hg0);have HG1:=Aside0.mk hg0;(have hGl:G1.f2.length=n:=by rw[← hG];exact chunkR_len last1 ((k:Int)+1) hPl (by rw[← HN.out];exact HQ.out.1));have HG1L:=Aside0.mk hGl;obtain⟨one,hone⟩ : ∃ o:Chunk,(⟨true,G1.f1,G1.f2⟩:Chunk)=o:=⟨_,rfl⟩;have HONE:Aside0 (oneC ms k last1=one):=⟨by rw[oneC,hP,hG,hone]⟩;have HO0:Aside0 (one.f0=true∧one.f1=G1.f1∧one.f2=G1.f2):=⟨by rw[← hone];exact⟨rfl,rfl,rfl⟩⟩;(rw[HONE.out] at HFN2 HOK2);obtain⟨KT,hKT⟩:=ref_tog05 (k:=k) HL.out HV.out hlt (by omega) (by rw[HN.out];omega);obtain⟨T,hT⟩ : ∃ T,togB ms k=T:=⟨_,rfl⟩;have ht0:=hKT KT (Nat.le_refl _);(dsimp only at ht0);(rw[hT] at ht0 HFN2 HOK2 HQ);have HT0:=Aside0.mk ht0;have HLEN:Aside0 (out1.length≤2 * k+1):=⟨HQ.out.2.2.1⟩;have HIb:=Aside0.mk HI8.out.bound;obtain⟨z0,z1,z2,z3⟩:=HI8.out.lst.cell;have hw1_:IntKind.i64.wrap ((k:Int)+1)=(k:Int)+1:=IntWalk.i64_in _ (by omega);have hw2_:wrap64 ((k:Int)+1)=(k:Int)+1:=gw (by omega) (by omega);clear hP hKP hp0 hPl hKG hg0 hG hGl hKT hT ht0 hone;refine start_ (n:=9) (S:=fun w'=>w'.cell? ⟨g,0,none⟩=some (.bool last1.f0)∧w'.cell? ⟨g,1,none⟩=some (.int .i64 last1.f1.f0)∧w'.cell? ⟨g,2,none⟩=some (.int .i64 last1.f1.f1)∧w'.cell? ⟨g,3,none⟩=some (.slice As1 last1.f2.length cs1)) (ds:=[8]) (bm_ 9 0) (by kernel_rfl) rfl rfl ⟨z0,z1,z2,z3⟩ (fun hHeld=>?_);refine pq_ (i:=1) (N:=some 43) (bm_ 9 2) ?_;refine pq_ (i:=2) (N:=some 44) (bm_ 9 6) ?_;refine pq_ (i:=3) (N:=some 45) (bm_ 9 14) ?_;refine pq_ (i:=4) (N:=some 46) (bm_ 9 30) ?_;refine tq_ (i:=0) (N:=some 42) (bm_ 9 31) hHeld ?_;refine join_ (σ:=Value × Value × Nat) 1 (bm_ 9 255) (fun s=>[(47,s.1),(48, .agg #[.bool G1.f0, .int .i64 G1.f1.f0, .int .i64 G1.f1.f1,s.2.1]),(12, .pointer (some ⟨s.2.2,0,none⟩))]) (fun s w'=>Aside0 (AlI W w' g (fun k=>k≠g∧k < w8.heap.size) (.slice A8 out1.length k8) (.slice As1 last1.f2.length cs1) out1 last1)∧Aside0 (Kd.R k45 45 w' W.heap.size (fun _=>True) s.2.1 G1.f2)∧Aside0 (w'.heap[s.2.2]? = some (.cells #[.bool false, .int .i64 0, .int .i64 0, .slice none 0 0] 48 (0,0)))∧Aside0 (w8.heap.size≤s.2.2)) ?_ ?_;rotate_left
     ·
      intro hCont;refine two_ (i:=5) (j:=7) (Ni:=some 47) (Nj:=some 12) (bm_ 9 63) (bm_ 9 159) rfl rfl rfl rfl (by kernel_rfl) (by decide) (by decide) (fun K hK=>?_) (fun K hK=>?_)
      ·
       skip;refine goes_ Tryz.func83 (by kernel_rfl) rfl #[.slice A2 ms.length c2, .int .i64 (k:Int), .int .i64 1] (by rfl) rfl rfl (by simp only[List.map_toArray,List.map_cons,List.map_nil];rfl) ?_;(with_reducible refine(sennitref05_places.calls KP1 A2 c2 ms (k:Int) 1 P1 _ (HR2w.out _ (far_ HIb.out.bel (Below.refl w8.heap.size w8).drew)) HCC2.out HP1.out).mono ?_);rintro e wya ⟨vp,rfl,hr3,hb3⟩;obtain⟨Ap,cp,hvp,hlp,hCp⟩:=Kd.R_reads hr3;subst hvp;refine⟨_,rfl,?_⟩;have HBwya:Aside0 (Below w8.heap.size w8 wya):=⟨far_ (Below.refl w8.heap.size w8).drew hb3⟩;have HPwya:=Aside0.mk hCp;have HLP:=Aside0.mk hlp;clear hr3 hb3 hlp hCp;refine hK.out _ _ ⟨(HIb.out.below HBwya.out).lst.cell.1,(HIb.out.below HBwya.out).lst.cell.2.1,(HIb.out.below HBwya.out).lst.cell.2.2.1,(HIb.out.below HBwya.out).lst.cell.2.2.2⟩ (fun hHeld=>?_);clear hK K;refine nq_ (N:=some 47) ?_;refine two_ (i:=6) (j:=7) (Ni:=some 48) (Nj:=some 12) (bm_ 9 127) (bm_ 9 191) rfl rfl rfl rfl (by kernel_rfl) (by decide) (by decide) (fun K hK=>?_) (fun K hK=>?_)
       ·
        skip;refine goes_ Tryz.func82 (by kernel_rfl) rfl #[.agg #[.bool last1.f0, .int .i64 last1.f1.f0, .int .i64 last1.f1.f1, .slice As1 last1.f2.length cs1], .int .i64 ((k:Int)+1), .slice Ap P1.length cp] (by rfl) rfl rfl (by simp only[List.map_toArray,List.map_cons,List.map_nil];rfl) ?_;(with_reducible refine(sennitref05_chunk.calls KG1 last1.f0 last1.f1.f0 last1.f1.f1 As1 cs1 last1.f2 ((k:Int)+1) Ap cp P1 G1.f0 G1.f1.f0 G1.f1.f1 G1.f2 _ (Kd.R_reads' (HIb.out.below HBwya.out).lst.spans).2.2 HLS1.out HPwya.out HLP.out HG1.out).mono ?_);rintro e wyb ⟨vc,rfl,hr4,hb4⟩;refine⟨_,rfl,?_⟩;have HBwyb:Aside0 (Below w8.heap.size w8 wyb):=⟨far_ HBwya.out hb4⟩;have HGCwyb:Aside0 (Kd.R k45 45 wyb W.heap.size (fun _=>True) vc G1.f2):=⟨Kd.R_lower hr4 (far_ HIb.out.bel HBwya.out).size⟩;clear hr4;have hb4_:=hb4;clear hb4;refine hK.out _ _ ⟨(HIb.out.below HBwyb.out).lst.cell.1,(HIb.out.below HBwyb.out).lst.cell.2.1,(HIb.out.below HBwyb.out).lst.cell.2.2.1,(HIb.out.below HBwyb.out).lst.cell.2.2.2⟩ (fun hHeld=>?_);clear hK K;refine nq_ (N:=some 48) ?_;refine one_ (i:=7) (N:=some 12) (bm_ 9 255) rfl rfl (by kernel_rfl) (by decide) (fun K hK=>?_);refine box_step (by rfl) (N:=12) rfl (cs:=#[.bool false, .int .i64 0, .int .i64 0, .slice none 0 0]) (t:=48) ?hr ?_;(case hr=>first|(go_simp;done)|(go_simp;rfl));intro gc hgc wyc hbx hb2;have HXwyc:=Aside0.mk hbx;have HBwyc:Aside0 (Below w8.heap.size w8 wyc):=⟨far_ HBwyb.out hb2⟩;have HGE:Aside0 (w8.heap.size≤gc):=⟨by rw[hgc];exact(HBwyb.out).size⟩;have hb2_:=hb2;clear hgc hbx hb2;have HGCwyc:Aside0 (Kd.R k45 45 wyc W.heap.size (fun _=>True) vc G1.f2):=⟨Kd.R_below HGCwyb.out hb2_⟩;refine hK.out _ _ ⟨(HIb.out.below HBwyc.out).lst.cell.1,(HIb.out.below HBwyc.out).lst.cell.2.1,(HIb.out.below HBwyc.out).lst.cell.2.2.1,(HIb.out.below HBwyc.out).lst.cell.2.2.2⟩ (fun hHeld=>?_);clear hK K;refine nq_ (N:=some 12) ?_;exact norm_ (by simp only[putAll,Act.put,List.setIfInBounds_toArray,List.set_cons_zero,List.set_cons_succ]) (hCont (.slice Ap P1.length cp,vc,gc) _ ⟨⟨HIb.out.below HBwyc.out⟩,HGCwyc,HXwyc,HGE⟩)
       ·
        skip;refine box_step (by rfl) (N:=12) rfl (cs:=#[.bool false, .int .i64 0, .int .i64 0, .slice none 0 0]) (t:=48) ?hr ?_;(case hr=>first|(go_simp;done)|(go_simp;rfl));intro gc hgc wyb hbx hb2;have HXwyb:=Aside0.mk hbx;have HBwyb:Aside0 (Below w8.heap.size w8 wyb):=⟨far_ HBwya.out hb2⟩;have HGE:Aside0 (w8.heap.size≤gc):=⟨by rw[hgc];exact(HBwya.out).size⟩;have hb2_:=hb2;clear hgc hbx hb2;have HPwyb:Aside0 (Kd.C (Kd.int .i64) wyb Ap P1.length P1):=⟨Kd.C_below HPwya.out hb2_⟩;refine hK.out _ _ ⟨(HIb.out.below HBwyb.out).lst.cell.1,(HIb.out.below HBwyb.out).lst.cell.2.1,(HIb.out.below HBwyb.out).lst.cell.2.2.1,(HIb.out.below HBwyb.out).lst.cell.2.2.2⟩ (fun hHeld=>?_);clear hK K;refine nq_ (N:=some 12) ?_;refine one_ (i:=6) (N:=some 48) (bm_ 9 255) rfl rfl (by kernel_rfl) (by decide) (fun K hK=>?_);refine goes_ Tryz.func82 (by kernel_rfl) rfl #[.agg #[.bool last1.f0, .int .i64 last1.f1.f0, .int .i64 last1.f1.f1, .slice As1 last1.f2.length cs1], .int .i64 ((k:Int)+1), .slice Ap P1.length cp] (by rfl) rfl rfl (by simp only[List.map_toArray,List.map_cons,List.map_nil];rfl) ?_;(with_reducible refine(sennitref05_chunk.calls KG1 last1.f0 last1.f1.f0 last1.f1.f1 As1 cs1 last1.f2 ((k:Int)+1) Ap cp P1 G1.f0 G1.f1.f0 G1.f1.f1 G1.f2 _ (Kd.R_reads' (HIb.out.below HBwyb.out).lst.spans).2.2 HLS1.out HPwyb.out HLP.out HG1.out).mono ?_);rintro e wyc ⟨vc,rfl,hr4,hb4⟩;refine⟨_,rfl,?_⟩;have HBwyc:Aside0 (Below w8.heap.size w8 wyc):=⟨far_ HBwyb.out hb4⟩;have HGCwyc:Aside0 (Kd.R k45 45 wyc W.heap.size (fun _=>True) vc G1.f2):=⟨Kd.R_lower hr4 (far_ HIb.out.bel HBwyb.out).size⟩;have HXwyc:=Aside0.mk (far_keep HXwyb.out hb4);clear hr4 hb4;refine hK.out _ _ ⟨(HIb.out.below HBwyc.out).lst.cell.1,(HIb.out.below HBwyc.out).lst.cell.2.1,(HIb.out.below HBwyc.out).lst.cell.2.2.1,(HIb.out.below HBwyc.out).lst.cell.2.2.2⟩ (fun hHeld=>?_);clear hK K;refine nq_ (N:=some 48) ?_;exact norm_ (by simp only[putAll,Act.put,List.setIfInBounds_toArray,List.set_cons_zero,List.set_cons_succ]) (hCont (.slice Ap P1.length cp,vc,gc) _ ⟨⟨HIb.out.below HBwyc.out⟩,HGCwyc,HXwyc,HGE⟩)
      ·
       skip;refine box_step (by rfl) (N:=12) rfl (cs:=#[.bool false, .int .i64 0, .int .i64 0, .slice none 0 0]) (t:=48) ?hr ?_;(case hr=>first|(go_simp;done)|(go_simp;rfl));intro gc hgc wya hbx hb2;have HXwya:=Aside0.mk hbx;have HBwya:Aside0 (Below w8.heap.size w8 wya):=⟨far_ (Below.refl w8.heap.size w8).drew hb2⟩;have HGE:Aside0 (w8.heap.size≤gc):=⟨by rw[hgc];exact((Below.refl w8.heap.size w8).drew).size⟩;clear hgc hbx hb2;refine hK.out _ _ ⟨(HIb.out.below HBwya.out).lst.cell.1,(HIb.out.below HBwya.out).lst.cell.2.1,(HIb.out.below HBwya.out).lst.cell.2.2.1,(HIb.out.below HBwya.out).lst.cell.2.2.2⟩ (fun hHeld=>?_);clear hK K;refine nq_ (N:=some 12) ?_;refine one_ (i:=5) (N:=some 47) (bm_ 9 191) rfl rfl (by kernel_rfl) (by decide) (fun K hK=>?_);refine goes_ Tryz.func83 (by kernel_rfl) rfl #[.slice A2 ms.length c2, .int .i64 (k:Int), .int .i64 1] (by rfl) rfl rfl (by simp only[List.map_toArray,List.map_cons,List.map_nil];rfl) ?_;(with_reducible refine(sennitref05_places.calls KP1 A2 c2 ms (k:Int) 1 P1 _ (HR2w.out _ (far_ HIb.out.bel HBwya.out)) HCC2.out HP1.out).mono ?_);rintro e wyb ⟨vp,rfl,hr3,hb3⟩;obtain⟨Ap,cp,hvp,hlp,hCp⟩:=Kd.R_reads hr3;subst hvp;refine⟨_,rfl,?_⟩;have HBwyb:Aside0 (Below w8.heap.size w8 wyb):=⟨far_ HBwya.out hb3⟩;have HPwyb:=Aside0.mk hCp;have HLP:=Aside0.mk hlp;have HXwyb:=Aside0.mk (far_keep HXwya.out hb3);clear hr3 hb3 hlp hCp;refine hK.out _ _ ⟨(HIb.out.below HBwyb.out).lst.cell.1,(HIb.out.below HBwyb.out).lst.cell.2.1,(HIb.out.below HBwyb.out).lst.cell.2.2.1,(HIb.out.below HBwyb.out).lst.cell.2.2.2⟩ (fun hHeld=>?_);clear hK K;refine nq_ (N:=some 47) ?_;refine one_ (i:=6) (N:=some 48) (bm_ 9 255) rfl rfl (by kernel_rfl) (by decide) (fun K hK=>?_);refine goes_ Tryz.func82 (by kernel_rfl) rfl #[.agg #[.bool last1.f0, .int .i64 last1.f1.f0, .int .i64 last1.f1.f1, .slice As1 last1.f2.length cs1], .int .i64 ((k:Int)+1), .slice Ap P1.length cp] (by rfl) rfl rfl (by simp only[List.map_toArray,List.map_cons,List.map_nil];rfl) ?_;(with_reducible refine(sennitref05_chunk.calls KG1 last1.f0 last1.f1.f0 last1.f1.f1 As1 cs1 last1.f2 ((k:Int)+1) Ap cp P1 G1.f0 G1.f1.f0 G1.f1.f1 G1.f2 _ (Kd.R_reads' (HIb.out.below HBwyb.out).lst.spans).2.2 HLS1.out HPwyb.out HLP.out HG1.out).mono ?_);rintro e wyc ⟨vc,rfl,hr4,hb4⟩;refine⟨_,rfl,?_⟩;have HBwyc:Aside0 (Below w8.heap.size w8 wyc):=⟨far_ HBwyb.out hb4⟩;have HGCwyc:Aside0 (Kd.R k45 45 wyc W.heap.size (fun _=>True) vc G1.f2):=⟨Kd.R_lower hr4 (far_ HIb.out.bel HBwyb.out).size⟩;have HXwyc:=Aside0.mk (far_keep HXwyb.out hb4);clear hr4 hb4;refine hK.out _ _ ⟨(HIb.out.below HBwyc.out).lst.cell.1,(HIb.out.below HBwyc.out).lst.cell.2.1,(HIb.out.below HBwyc.out).lst.cell.2.2.1,(HIb.out.below HBwyc.out).lst.cell.2.2.2⟩ (fun hHeld=>?_);clear hK K;refine nq_ (N:=some 48) ?_;exact norm_ (by simp only[putAll,Act.put,List.setIfInBounds_toArray,List.set_cons_zero,List.set_cons_succ]) (hCont (.slice Ap P1.length cp,vc,gc) _ ⟨⟨HIb.out.below HBwyc.out⟩,HGCwyc,HXwyc,HGE⟩)
     rintro⟨vp,vc,gc⟩ wyd ⟨HID,HGD,HXD,HGE⟩;(dsimp only at HID HGD HXD HGE ⊢);obtain⟨Ah,ch,hvc,hlg,hCg⟩:=Kd.R_reads HGD.out;subst hvc;have HLG:=Aside0.mk hlg;clear hlg hCg;have hHeld:=HID.out.lst.cell;have x0:=cell_blk (j:=0) HXD.out rfl;have x1:=cell_blk (j:=1) HXD.out rfl;have x2:=cell_blk (j:=2) HXD.out rfl;have x3:=cell_blk (j:=3) HXD.out rfl;have f0:=frozen_of_row _ _ 0 _ _ HXD.out;have f1:=frozen_of_row _ _ 1 _ _ HXD.out;have f2:=frozen_of_row _ _ 2 _ _ HXD.out;have f3:=frozen_of_row _ _ 3 _ _ HXD.out;refine norm_ (a':=?_) ?_ ?_;rotate_left;(· simp only[putAll,Act.put,List.setIfInBounds_toArray,List.set_cons_zero,List.set_cons_succ];rfl);refine last_ (i:=8) (N:=none) (bm_ 9 511) rfl rfl (by kernel_rfl) (by decide) (fun K hK=>?_);refine skip_ (w1:=?_) (by rfl) rfl ?_ ?_;rotate_left;(· go_simp;rfl);refine hK.out _ _ ?_;clear hK K;refine done_ (by kernel_rfl) ?_;clear hw1_ hw2_;obtain⟨w9,hw9,X9,K9,S9,B9⟩:=put4 HXD.out (.bool G1.f0) (.int .i64 G1.f1.f0) (.int .i64 G1.f1.f1) (.slice Ah G1.f2.length ch);rw[hw9];(have hne:g≠gc:=by have:=blk_lt HI8.out.lst.blk;have:=HGE.out;omega);have HI9:Aside0 (AlI W w9 g (fun k=>k≠g∧k < w8.heap.size) (.slice A8 out1.length k8) (.slice As1 last1.f2.length cs1) out1 last1):=⟨HID.out.other S9.out K9.out (B9.out _ _ (Nat.le_trans HI8.out.bel.size HGE.out) HID.out.bel) hne (fun k hk=>by have:=HGE.out;omega) HXD.out⟩;have HG9:Aside0 (ChunkAt w9 gc W.heap.size G1 (.slice Ah G1.f2.length ch)):=⟨⟨X9.out,spans_other HGD.out K9.out HXD.out⟩⟩;have HNE:=Aside0.mk hne;have HGL:Aside0 (∀ k,k≠g∧k < w8.heap.size→k≠gc):=⟨fun k hk=>by have:=HGE.out;omega⟩;have HWG:Aside0 (W.heap.size≤gc):=⟨Nat.le_trans HI8.out.bel.size HGE.out⟩;have y0:=HG9.out.cell.1;have r0:=HG9.out.frozen 0;clear hw9 X9 K9 S9 B9 HXD HGD HID x0 x1 x2 x3 f0 f1 f2 f3 hne z0 z1 z2 z3 HIb;(go_wp2_with fail);obtain⟨w10,hw10⟩ : ∃ w_,w9.setCell ⟨gc,0,none⟩ (.bool true)=w_:=⟨_,rfl⟩;(have hk10 : ∀ k,k≠gc→w10.heap[k]? = w9.heap[k]? := fun k hk=>by rw[← hw10];exact heap_set_other hk _);(have hx10:w10.heap[gc]? = some (.cells #[.bool true, .int .i64 G1.f1.f0, .int .i64 G1.f1.f1, .slice Ah G1.f2.length ch] 48 (0,0)):=by rw[← hw10];exact blk_put HG9.out.blk 0 (.bool true) rfl);have HI10:Aside0 (AlI W w10 g (fun k=>k≠g∧k < w8.heap.size) (.slice A8 out1.length k8) (.slice As1 last1.f2.length cs1) out1 last1):=⟨HI9.out.other (by rw[← hw10];simp[World.setCell]) hk10 (by rw[← hw10];exact HI9.out.bel.setCell (p:=⟨gc,0,none⟩) (Nat.le_trans HI8.out.bel.size HGE.out) _) HNE.out HGL.out HG9.out.blk⟩;have HG10:Aside0 (ChunkAt w10 gc W.heap.size one (.slice Ah one.f2.length ch)):=⟨⟨by rw[HO0.out.1,HO0.out.2.1,HO0.out.2.2];exact hx10,by rw[HO0.out.2.2];exact spans_other HG9.out.spans hk10 HG9.out.blk⟩⟩;have HL1:Aside0 (one.f2.length=n):=⟨by rw[HO0.out.2.2];exact HG1L.out⟩;have HLGO:Aside0 (one.f2.length≤ch):=⟨by rw[HO0.out.2.2];exact HLG.out⟩;rw[hw10];clear hw10 hk10 hx10 y0 r0 HI9 HG9;refine(sennitref05_together.calls KT A2 c2 ms (k:Int) T w10 (HR2w.out _ HI10.out.bel) HCC2.out HT0.out).mono ?_;rintro e w11' ⟨rfl,n11,hw11⟩;obtain⟨w11,hw11'⟩ : ∃ w_,w_=w11':=⟨_,rfl⟩;(rw[← hw11'] at hw11 ⊢);(have hb11:Below w10.heap.size w10 w11:=by rw[hw11];exact pw_below_drewN (Below.refl _ _) n11);have HI11:=Aside0.mk (HI10.out.below hb11);have HG11:=Aside0.mk (HG10.out.below hb11);clear hw11 hw11' hb11 HI10 HG10 HI8;(have a0:=fun o=>cell_alloc_of HG11.out.cell.1 o);(have a1:=fun o=>cell_alloc_of HG11.out.cell.2.1 o);(have a2:=fun o=>cell_alloc_of HG11.out.cell.2.2.1 o);(have a3:=fun o=>cell_alloc_of HG11.out.cell.2.2.2 o);obtain⟨b0,b1,b2,b3⟩:=HG11.out.cell
     cases T with
     | false =>
      have HFN3:Aside0 (runSt ms (m - (k+1)) (k+1) (out1 ++ [one],one)=FIN):=⟨HFN2.out⟩;have HOK3:Aside0 (StOk ms (k+1) (out1 ++ [one],one)):=⟨HOK2.out⟩;clear HFN2 HOK2;(go_wp2_with (first|(at_builtin;refine Kd.R_append k48 (w0:=W) W.heap.size rfl (.tmp 66) (.tmp 68) 26 48 (.agg #[.bool false, .int .i64 0, .int .i64 0, .slice none 0 0]) 48 rfl Tryz.underlying26 info48 rfl (by decide) (by decide) (.slice A8 out1.length k8) out1 one [.bool one.f0, .int .i64 one.f1.f0, .int .i64 one.f1.f1, .slice Ah one.f2.length ch] (fun k=>k≠g∧k≠gc) (T45 w11) rfl rfl (k48_mkM _ _ _ one (spans_typed HG11.out.spans)) (fun k hk=>⟨⟨hk.ne HI11.out.lst.blk,hk.ne HG11.out.blk⟩,hk.own HI11.out.row⟩) (fun k hk=>by have h1:=blk_lt HI11.out.lst.blk;have h2:=blk_lt HG11.out.blk;exact⟨by omega,by omega⟩) (Kd.R_mono HI11.out.row (fun k hk=>⟨hk.1,HGL.out k hk⟩)) HI11.out.bel HI11.out.bel.size (by have:=HLEN.out;(try simp only[List.length_take]);omega) ?_;intro vz wz ho_ hb_ hg_ hat_;obtain⟨Az,kz,hvz⟩:=Kd.R_slice ho_;subst hvz;have HIz:=Aside0.mk (HI11.out.grow (fun k hk=>hk.1) hg_ hb_ ho_);have HGz:=Aside0.mk (HG11.out.grow HI11.out.row HGL.out hg_);obtain⟨v0,v1,v2,v3⟩:=HGz.out.cell;obtain⟨t0,t1,t2,t3⟩:=HIz.out.lst.cell;have r0:=HIz.out.lst.frozen 0;have r1:=HIz.out.lst.frozen 1;have r2:=HIz.out.lst.frozen 2;have r3:=HIz.out.lst.frozen 3;clear ho_ hb_ hg_ hat_ a0 a1 a2 a3 b0 b1 b2 b3)));obtain⟨wl,hwl,Xl,Kl,Sl,Bl⟩:=put4 HIz.out.lst.blk (.bool one.f0) (.int .i64 one.f1.f0) (.int .i64 one.f1.f1) (.slice Ah one.f2.length ch);rw[hwl];have HIl:Aside0 (AlI W wl g (fun k=>k≠g) (.slice Az (out1 ++ [one]).length kz) (.slice Ah one.f2.length ch) (out1 ++ [one]) one):=⟨(HIz.out.mono (fun k hk=>hk.1)).put (fun _ h=>h) (Bl.out _ _ HIz.out.ge HIz.out.bel) Kl.out Xl.out HGz.out.spans⟩;(have hlz:(out1 ++ [one]).length=out1.length+1:=by first|(simp;done)|(simp only[List.length_append,List.length_singleton,List.length_take];omega));(rw[hlz] at HIl);clear hwl Xl Kl Sl Bl HIz HGz hlz v0 v1 v2 v3 t0 t1 t2 t3 r0 r1 r2 r3;go_roundw;(case measure=>simp[intOf];omega);(case rel=>exact⟨k+1,out1 ++ [one],one,_,by go_num,by omega,HOK3,HFN3,HIl⟩)
     | true =>
      clear a0 a1 a2 a3;have hpos:0 < out1.length:=HQ.out.2.2.2 (by trivial);obtain⟨q,hq⟩ : ∃ q,out1.length - 1=q:=⟨_,rfl⟩;(have hql:out1.length=q+1:=by omega);obtain⟨ad,A3,c3,hA8,e0,e1,e2,e3,l3,C3⟩:=at_T48 (Kd.R_reads' HI11.out.row).2.2 (q:Int) (by omega) (by omega)
      have hL:rd_T48 out1 (q:Int)=lastC out1:=by
       show out1.getD (q:Int).toNat _=out1.getD (out1.length - 1) _;rw[Int.toNat_natCast,hq]
      obtain⟨L,hLL⟩ : ∃ L,lastC out1=L:=⟨_,rfl⟩;(have hLlen:L.f2.length=n:=by rw[← hLL,← HN.out];exact HQ.out.2.1 _ (lastC_mem hpos));(rw[hL,hLL,Int.toNat_natCast] at e0 e1 e2 e3);(rw[hL,hLL] at l3 C3);subst hA8;obtain⟨KL,hKL⟩:=ref_longer05 L one (by rw[hLlen,HL1.out]) (by omega);have hj0:=hKL KL (Nat.le_refl _);(dsimp only at hj0);obtain⟨J,hJ⟩ : ∃ J,joinR L one=J:=⟨_,rfl⟩;(rw[hJ] at hj0);have HJ0:=Aside0.mk hj0;have HFN3:Aside0 (runSt ms (m - (k+1)) (k+1) (out1.take q ++ [J],J)=FIN):=⟨by have:=HFN2.out;rw[putSt,if_pos rfl,hq,hLL,hJ] at this;exact this⟩;have HOK3:Aside0 (StOk ms (k+1) (out1.take q ++ [J],J)):=⟨by have:=HOK2.out;rw[putSt,if_pos rfl,hq,hLL,hJ] at this;exact this⟩
      have hcut : ∀ W:World,(Instr.slice 26 (.slice (some ad) out1.length k8) none (some (.int .i64 (q:Int))) none).run Tryz.prog W = .ok (.slice (some ad) q k8) W:=by
       obtain⟨i0,hi0,_⟩:=Option.map_eq_some_iff.1 info48;have h:=cut_to (P:=Tryz.prog) 26 48 .i64 Tryz.underlying26 hi0 (some ad) out1.length k8 (q:Int) (by omega) (by omega) (Kd.R_reads' HI11.out.row).2.1;(rw[Int.toNat_natCast] at h);exact h
      have HC3:=Aside0.mk C3;have Hl3:=Aside0.mk l3;have HQL:=Aside0.mk hql;(have hlt1:q < out1.length:=by omega);have hlen_:=HLEN.out;(have hs1:wrap64 ((out1.length:Int) - 1)=(q:Int):=by rw[gw (by omega) (by omega)];omega);(have hs2:IntKind.i64.wrap ((out1.length:Int) - 1)=(q:Int):=by rw[IntWalk.i64_in _ (by omega)];omega);clear hlen_ HFN2 HOK2 hpos hq hql hL hLL hLlen hKL hj0 hJ l3 C3;go_wp2;refine start_ (n:=9) (S:=fun w'=>w'.cell? (ad.add (q * 4))=some (.bool L.f0)∧w'.cell? ⟨(ad.add (q * 4)).block,(ad.add (q * 4)).off+1,none⟩=some (.int .i64 L.f1.f0)∧w'.cell? ⟨(ad.add (q * 4)).block,(ad.add (q * 4)).off+2,none⟩=some (.int .i64 L.f1.f1)∧w'.cell? ⟨(ad.add (q * 4)).block,(ad.add (q * 4)).off+3,none⟩=some (.slice A3 L.f2.length c3)∧w'.cell? ⟨gc,0,none⟩=some (.bool one.f0)∧w'.cell? ⟨gc,1,none⟩=some (.int .i64 one.f1.f0)∧w'.cell? ⟨gc,2,none⟩=some (.int .i64 one.f1.f1)∧w'.cell? ⟨gc,3,none⟩=some (.slice Ah one.f2.length ch)) (ds:=[7,8]) (bm_ 9 0) (by kernel_rfl) rfl rfl ⟨e0,e1,e2,e3,b0,b1,b2,b3⟩ (fun hHeld=>?_);refine pq_ (i:=0) (N:=some 53) (bm_ 9 1) ?_;refine pq_ (i:=1) (N:=some 54) (bm_ 9 3) ?_;refine pq_ (i:=2) (N:=some 55) (bm_ 9 7) ?_;refine pq_ (i:=3) (N:=some 56) (bm_ 9 15) ?_;refine pq_ (i:=4) (N:=some 57) (bm_ 9 31) ?_;refine tq_ (i:=5) (N:=some 58) (bm_ 9 63) hHeld ?_;refine tq_ (i:=6) (N:=some 59) (bm_ 9 127) hHeld ?_;refine last_ (i:=7) (N:=some 60) (bm_ 9 255) rfl rfl (by kernel_rfl) (by decide) (fun K hK=>?_);refine goes_ Tryz.func86 (by kernel_rfl) rfl #[.agg #[.bool L.f0, .int .i64 L.f1.f0, .int .i64 L.f1.f1, .slice A3 L.f2.length c3], .agg #[.bool one.f0, .int .i64 one.f1.f0, .int .i64 one.f1.f1, .slice Ah one.f2.length ch]] (by rfl) rfl rfl (by simp only[List.map_toArray,List.map_cons,List.map_nil];rfl) ?_;(with_reducible refine(sennitref05_longer.calls KL L.f0 L.f1.f0 L.f1.f1 A3 c3 L.f2 one.f0 one.f1.f0 one.f1.f1 Ah ch one.f2 J.f0 J.f1.f0 J.f1.f1 J.f2 _ (Kd.C_below HC3.out (Below.refl _ _).drew) Hl3.out (Kd.R_reads' (HG11.out.below (Below.refl _ _).drew).spans).2.2 HLGO.out HJ0.out).mono ?_);rintro e w12 ⟨vj,rfl,hr4,hb4⟩;refine⟨_,rfl,?_⟩;obtain⟨Aj,cj,hvj,hlj,hCj⟩:=Kd.R_reads hr4;subst hvj;have HB12:Aside0 (Below w11.heap.size w11 w12):=⟨far_ (Below.refl w11.heap.size w11).drew hb4⟩;have HJR:Aside0 (Kd.R k45 45 w12 W.heap.size (fun _=>True) (.slice Aj J.f2.length cj) J.f2):=⟨Kd.R_lower hr4 HI11.out.bel.drew.size⟩;have HG12:=Aside0.mk (HG11.out.below HB12.out);have HI12:=Aside0.mk (HI11.out.below HB12.out);obtain⟨p0,p1,p2,p3⟩:=HG12.out.cell;have r0:=HG12.out.frozen 0;have r1:=HG12.out.frozen 1;have r2:=HG12.out.frozen 2;have r3:=HG12.out.frozen 3;clear hlj hCj hr4 hb4;refine hK.out _ _ ?_;clear hK K;refine nq_ (N:=some 60) ?_;refine last_ (i:=8) (N:=none) (bm_ 9 511) rfl rfl (by kernel_rfl) (by decide) (fun K hK=>?_);refine skip_ (w1:=?_) (by rfl) rfl ?_ ?_;rotate_left;(· go_simp;rfl);refine hK.out _ _ ?_;clear hK K;refine done_ (by kernel_rfl) ?_;obtain⟨w13,hw13,X13,K13,S13,B13⟩:=put4 HG12.out.blk (.bool J.f0) (.int .i64 J.f1.f0) (.int .i64 J.f1.f1) (.slice Aj J.f2.length cj);rw[hw13]
      have HI13:Aside0 (AlI W w13 g (fun k=>k≠g∧k < w8.heap.size) (.slice (some ad) q k8) (.slice As1 last1.f2.length cs1) (out1.take q) last1):=⟨(HI12.out.other S13.out K13.out (B13.out _ _ HWG.out HI12.out.bel) HNE.out HGL.out HG12.out.blk).take (by have:=HQL.out;omega)⟩;have HG13:Aside0 (ChunkAt w13 gc W.heap.size J (.slice Aj J.f2.length cj)):=⟨⟨X13.out,spans_other HJR.out K13.out HG12.out.blk⟩⟩;clear hw13 X13 K13 S13 B13 p0 p1 p2 p3 r0 r1 r2 r3 e0 e1 e2 e3 b0 b1 b2 b3 HI12 HG12 HI11 HG11 HB12 HJR HC3;(have a0:=fun o=>cell_alloc_of HG13.out.cell.1 o);(have a1:=fun o=>cell_alloc_of HG13.out.cell.2.1 o);(have a2:=fun o=>cell_alloc_of HG13.out.cell.2.2.1 o);(have a3:=fun o=>cell_alloc_of HG13.out.cell.2.2.2 o);obtain⟨b0,b1,b2,b3⟩:=HG13.out.cell;(go_wp2_with (first|(at_builtin;refine Kd.R_append k48 (w0:=W) W.heap.size rfl (.tmp 66) (.tmp 68) 26 48 (.agg #[.bool false, .int .i64 0, .int .i64 0, .slice none 0 0]) 48 rfl Tryz.underlying26 info48 rfl (by decide) (by decide) (.slice (some ad) q k8) (out1.take q) J [.bool J.f0, .int .i64 J.f1.f0, .int .i64 J.f1.f1, .slice Aj J.f2.length cj] (fun k=>k≠g∧k≠gc) (T45 w13) rfl rfl (k48_mkM _ _ _ J (spans_typed HG13.out.spans)) (fun k hk=>⟨⟨hk.ne HI13.out.lst.blk,hk.ne HG13.out.blk⟩,hk.own HI13.out.row⟩) (fun k hk=>by have h1:=blk_lt HI13.out.lst.blk;have h2:=blk_lt HG13.out.blk;exact⟨by omega,by omega⟩) (Kd.R_mono HI13.out.row (fun k hk=>⟨hk.1,HGL.out k hk⟩)) HI13.out.bel HI13.out.bel.size (by have:=HLEN.out;(try simp only[List.length_take]);omega) ?_;intro vz wz ho_ hb_ hg_ hat_;obtain⟨Az,kz,hvz⟩:=Kd.R_slice ho_;subst hvz;have HIz:=Aside0.mk (HI13.out.grow (fun k hk=>hk.1) hg_ hb_ ho_);have HGz:=Aside0.mk (HG13.out.grow HI13.out.row HGL.out hg_);obtain⟨v0,v1,v2,v3⟩:=HGz.out.cell;obtain⟨t0,t1,t2,t3⟩:=HIz.out.lst.cell;have r0:=HIz.out.lst.frozen 0;have r1:=HIz.out.lst.frozen 1;have r2:=HIz.out.lst.frozen 2;have r3:=HIz.out.lst.frozen 3;clear ho_ hb_ hg_ hat_ a0 a1 a2 a3 b0 b1 b2 b3)));obtain⟨wl,hwl,Xl,Kl,Sl,Bl⟩:=put4 HIz.out.lst.blk (.bool J.f0) (.int .i64 J.f1.f0) (.int .i64 J.f1.f1) (.slice Aj J.f2.length cj);rw[hwl];have HIl:Aside0 (AlI W wl g (fun k=>k≠g) (.slice Az (out1.take q ++ [J]).length kz) (.slice Aj J.f2.length cj) (out1.take q ++ [J]) J):=⟨(HIz.out.mono (fun k hk=>hk.1)).put (fun _ h=>h) (Bl.out _ _ HIz.out.ge HIz.out.bel) Kl.out Xl.out HGz.out.spans⟩;(have hlz:(out1.take q ++ [J]).length=min q out1.length+1:=by first|(simp;done)|(simp only[List.length_append,List.length_singleton,List.length_take];omega));(rw[hlz] at HIl);clear hwl Xl Kl Sl Bl HIz HGz hlz v0 v1 v2 v3 t0 t1 t2 t3 r0 r1 r2 r3;go_roundw;(case measure=>simp[intOf];omega);(case rel=>exact⟨k+1,out1.take q ++ [J],J,_,by go_num,by omega,HOK3,HFN3,HIl⟩)
  ·
   (have hkm:k=m:=by omega);subst hkm;(have hfe:FIN=(out,last):=by rw[← HFN.out,Nat.sub_self];rfl);subst hfe;obtain⟨Ao,co,hvo⟩:=Kd.R_slice HI.out.row;subst hvo;obtain⟨As,cs,hvs,hls,hCs⟩:=Kd.R_reads HI.out.lst.spans;subst hvs;have HLS:=Aside0.mk hls;obtain⟨KG,hKG⟩:=ref_chunk05 last (k:Int) sizes (by rw[HSN.out];exact HOK.out.1) (by rw[HSN.out,HN.out];omega);have hg0:=hKG KG (Nat.le_refl _);(dsimp only at hg0);obtain⟨G,hG⟩ : ∃ G,chunkR last (k:Int) sizes=G:=⟨_,rfl⟩;(rw[hG] at hg0);have HG0:=Aside0.mk hg0;(have hGl:G.f2.length=ms.length:=by rw[← hG];exact chunkR_len last (k:Int) HSN.out HOK.out.1);obtain⟨KE,hKE⟩:=ref_empty05 G (by rw[hGl,HN.out];omega);obtain⟨E,hE⟩ : ∃ E,emptyB G=E:=⟨_,rfl⟩;have he0:=hKE KE (Nat.le_refl _);(dsimp only at he0);(rw[hE] at he0);have HE0:=Aside0.mk he0;have HEND:Aside0 (endSt k sizes (out,last)=if E=true then out else out ++ [G]):=⟨by rw[endSt];dsimp only;rw[hG,hE]⟩;have HLEN:Aside0 (out.length≤2 * k):=⟨HOK.out.2.2.1⟩;(have hc1':sizes.length≤c1:=by rw[HSN.out,HN.out];exact hc1);have HC1:=Aside0.mk hc1';obtain⟨z0,z1,z2,z3⟩:=HI.out.lst.cell;clear hls hCs hKG hg0 hG hGl hKE hE he0 hc1' HFN HOK;(go_wp2_with fail);refine(sennitref05_chunk.calls KG last.f0 last.f1.f0 last.f1.f1 As cs last.f2 (k:Int) A1 c1 sizes G.f0 G.f1.f0 G.f1.f1 G.f2 wr (Kd.R_reads' HI.out.lst.spans).2.2 HLS.out (Kd.C_below HR1.out HI.out.bel) HC1.out HG0.out).mono ?_;rintro e w2 ⟨vc,rfl,hr4,hb4⟩;obtain⟨Ag,cg,hvc,hlg,hCg⟩:=Kd.R_reads hr4;subst hvc;have HLG:=Aside0.mk hlg;have HI2:=Aside0.mk (HI.out.below hb4);have HGR:Aside0 (Kd.R k45 45 w2 W.heap.size (fun _=>True) (.slice Ag G.f2.length cg) G.f2):=⟨Kd.R_lower hr4 HI.out.bel.size⟩;have HIb:=Aside0.mk HI2.out.bound;clear hr4 hb4 hlg hCg z0 z1 z2 z3 HI;(go_wp2_with (first|((with_reducible refine gate_dst (N:=13) rfl ?_);refine box_event ?hg (N:=13) ?hd (cs:=#[.bool false, .int .i64 0, .int .i64 0, .slice none 0 0]) (t:=48) ?hr ?_;(case hd=>rfl);(case hg=>rfl);(case hr=>first|(go_simp;done)|(go_simp;rfl));intro gc hgc w3 hbx hb3;have HBX:=Aside0.mk hbx;have HB3:=Aside0.mk hb3;have HGC:=Aside0.mk hgc;have x0:=cell_blk (j:=0) HBX.out rfl;have x1:=cell_blk (j:=1) HBX.out rfl;have x2:=cell_blk (j:=2) HBX.out rfl;have x3:=cell_blk (j:=3) HBX.out rfl;have f0:=frozen_of_row _ _ 0 _ _ HBX.out;have f1:=frozen_of_row _ _ 1 _ _ HBX.out;have f2:=frozen_of_row _ _ 2 _ _ HBX.out;have f3:=frozen_of_row _ _ 3 _ _ HBX.out;clear hbx hb3 hgc)));obtain⟨w5,hw5,X5,K5,S5,B5⟩:=put4 HBX.out (.bool G.f0) (.int .i64 G.f1.f0) (.int .i64 G.f1.f1) (.slice Ag G.f2.length cg);rw[hw5];have HI3:=Aside0.mk (HIb.out.below HB3.out);have HGE:Aside0 (w2.heap.size≤gc):=⟨Nat.le_of_eq HGC.out.symm⟩;(have hne:g≠gc:=by have:=blk_lt HI2.out.lst.blk;have:=HGE.out;omega);have HI5:Aside0 (AlI W w5 g (fun k_=>k_≠g∧k_ < w2.heap.size) (.slice Ao out.length co) (.slice As last.f2.length cs) out last):=⟨HI3.out.other S5.out K5.out (B5.out _ _ (Nat.le_trans HI2.out.bel.size HGE.out) HI3.out.bel) hne (fun k hk=>by have:=HGE.out;omega) HBX.out⟩;have HG5:Aside0 (ChunkAt w5 gc W.heap.size G (.slice Ag G.f2.length cg)):=⟨⟨X5.out,spans_other (Kd.R_below HGR.out HB3.out) K5.out HBX.out⟩⟩;have HGL:Aside0 (∀ k,k≠g∧k < w2.heap.size→k≠gc):=⟨fun k hk=>by have:=HGE.out;omega⟩;clear hw5 X5 K5 S5 B5 HBX HB3 HI3 HIb HGR HI2 hne x0 x1 x2 x3 f0 f1 f2 f3;refine(sennitref05_Empty.calls KE G.f0 G.f1.f0 G.f1.f1 Ag cg G.f2 E w5 (Kd.R_reads' HG5.out.spans).2.2 HLG.out HE0.out).mono ?_;rintro e w6 ⟨rfl,hb6⟩;have HI6:=Aside0.mk (HI5.out.below hb6);have HG6:=Aside0.mk (HG5.out.below hb6);clear hb6 HI5 HG5 HE0
   cases E with
   | true =>
    go_wp2;go_ret2;refine⟨.slice Ao out.length co,rfl,?_,HI6.out.bel⟩;rw[HEND.out,if_pos (by trivial)];exact Kd.R_mono HI6.out.row (fun _ _=>trivial)
   | false =>
    (have a0:=fun o=>cell_alloc_of HG6.out.cell.1 o);(have a1:=fun o=>cell_alloc_of HG6.out.cell.2.1 o);(have a2:=fun o=>cell_alloc_of HG6.out.cell.2.2.1 o);(have a3:=fun o=>cell_alloc_of HG6.out.cell.2.2.2 o);obtain⟨b0,b1,b2,b3⟩:=HG6.out.cell;(go_wp2_with (first|(at_builtin;refine Kd.R_append k48 (w0:=W) W.heap.size rfl (.tmp 78) (.tmp 80) 26 48 (.agg #[.bool false, .int .i64 0, .int .i64 0, .slice none 0 0]) 48 rfl Tryz.underlying26 info48 rfl (by decide) (by decide) (.slice Ao out.length co) out G [.bool G.f0, .int .i64 G.f1.f0, .int .i64 G.f1.f1, .slice Ag G.f2.length cg] (fun k_=>k_≠g∧k_≠gc) (T45 w6) rfl rfl (k48_mkM _ _ _ G (spans_typed HG6.out.spans)) (fun k hk=>⟨⟨hk.ne HI6.out.lst.blk,hk.ne HG6.out.blk⟩,hk.own HI6.out.row⟩) (fun k hk=>by have h1:=blk_lt HI6.out.lst.blk;have h2:=blk_lt HG6.out.blk;exact⟨by omega,by omega⟩) (Kd.R_mono HI6.out.row (fun k hk=>⟨hk.1,HGL.out k hk⟩)) HI6.out.bel HI6.out.bel.size (by have:=HLEN.out;(try simp only[List.length_take]);omega) ?_;intro vz wz ho_ hb_ hg_ hat_;obtain⟨Az,kz,hvz⟩:=Kd.R_slice ho_;subst hvz;have HRz:=Aside0.mk ho_;have HBz:=Aside0.mk hb_;clear ho_ hb_ hg_ hat_)));go_ret2;refine⟨.slice Az (out.length+1) kz,rfl,?_,HBz.out⟩;rw[HEND.out,if_neg (by simp)];have hR:=HRz.out;(rw[show (out ++ [G]).length=out.length+1 by simp] at hR);exact Kd.R_mono hR (fun _ _=>trivial)
theorem zipWith_zip {α β γ:Type} (f:α→β→γ) : ∀ (l:List α) (m:List β),List.zipWith f l m=(List.zip l m).map (fun x=>f x.1 x.2)
 | [],_=>rfl
 | _ :: _,[]=>rfl
 | a :: l,b :: m=>by rw[List.zipWith_cons_cons,List.zip_cons_cons,List.map_cons,zipWith_zip f l m]
theorem spans_eq {s t:List Int} (h:t.length=s.length):spansF s t s.length=List.zipWith (fun f t=>(⟨f,t⟩:Spanx)) s t:=by
 rw[spansF,List.take_of_length_le (by rw[List.length_zipWith];exact Nat.min_le_left _ _)]
theorem empty_eq (st:Bool) (b b':Int) {s t:List Int} (h:t.length=s.length):emptyB ⟨st,⟨b,b'⟩,spansF s t s.length⟩ = !someB b b' s t s.length:=by
 rw[emptyB,someB];dsimp only;(rw[spans_eq h,List.take_of_length_le (by rw[List.length_zip];exact Nat.min_le_left _ _),zipWith_zip,List.any_map];rfl)
theorem spans_ends : ∀ {s t:List Int},t.length=s.length→(List.zipWith (fun f t=>(⟨f,t⟩:Spanx)) s t).map (·.f1)=t
 | [],[],_=>rfl
 | a :: s,b :: t,h=>by
  rw[List.zipWith_cons_cons,List.map_cons,spans_ends (by simpa using h)]
def PosC (n:Nat) (last:Chunk) (b:Int) (s:List Int):Prop:=last.f1.f1=b∧endsOf last.f2 n=s∧s.length=n
theorem pos_spans {n:Nat} (hn:0 < n) (st:Bool) (b b':Int) {s t:List Int} (hs:s.length=n) (ht:t.length=n):PosC n ⟨st,⟨b,b'⟩,spansF s t s.length⟩ b' t:=by
 refine⟨rfl,?_,ht⟩;show endsOf (spansF s t s.length) n=t;rw[spans_eq (by omega),endsOf,if_neg,spans_ends (by omega)];intro e;have:=congrArg List.length e;(rw[List.length_zipWith,hs,ht] at this);(simp at this);omega
theorem chunk_pos {n:Nat} {last:Chunk} {b:Int} {s:List Int} (h:PosC n last b s) (base:Int) {t:List Int} (ht:t.length=n):chunkR last base t=⟨false,⟨b,base⟩,spansF s t s.length⟩:=by
 obtain⟨h1,h2,h3⟩:=h;rw[chunkR,ht,h1,h2]
theorem places_col (ms:List (List Int)) (k:Nat):placesR ms k 0=colK ms k:=by
 rw[placesR,colK];exact List.map_congr_left (fun l _=>Int.add_zero _)
theorem places_ends (ms:List (List Int)) (k:Nat):placesR ms k 1=ends ms (k+1):=by
 (rw[placesR,ends,colK,List.map_map];rfl)
theorem colK_len (ms:List (List Int)) (k:Nat):(colK ms k).length=ms.length:=by rw[colK,List.length_map]
theorem ends_len (ms:List (List Int)) (k:Nat):(ends ms k).length=ms.length:=by rw[ends,List.length_map,colK_len]
theorem gap_pos {ms:List (List Int)} {k:Nat} {out:List Chunk} {last:Chunk} {b:Int} {s:List Int} (hn:0 < ms.length) (h:PosC ms.length last b s) (he:someB b (k:Int) s (colK ms k) s.length=false→b=(k:Int)∧s=colK ms k) :
    (gapSt ms k (out,last)).1=out ++ gapC false b (k:Int) s (colK ms k)∧PosC ms.length (gapSt ms k (out,last)).2 (k:Int) (colK ms k):=by
 have hs:=h.2.2;have hc:=colK_len ms k;rw[gapSt];dsimp only;rw[places_col,chunk_pos h (k:Int) hc,empty_eq _ _ _ (by omega),gapC]
 cases hb:someB b (k:Int) s (colK ms k) s.length with
 | false =>
  obtain⟨rfl,rfl⟩:=he hb;rw[if_pos (by rfl),if_neg (by decide),List.append_nil];exact⟨rfl,h⟩
 | true =>
  rw[if_neg (by decide),if_pos rfl];exact⟨rfl,pos_spans hn _ _ _ hs hc⟩
theorem runGo_stop (m:Nat) (ms:List (List Int)) : ∀ (r a:Nat),m≤a+r→runGo m ms r a < m→joinB ms (runGo m ms r a)=false
 | 0,a,h,h2=>by rw[runGo] at h2;omega
 | r+1,a,h,h2=>by
  (rw[runGo] at h2 ⊢)
  by_cases hc:a < m∧joinB ms a=true
  (· (rw[if_pos hc] at h2 ⊢);exact runGo_stop m ms r (a+1) (by omega) h2);(· (rw[if_neg hc] at h2 ⊢);exact Bool.eq_false_iff.2 (fun hj=>hc ⟨h2,hj⟩))
theorem tog_join {ms:List (List Int)} {k:Nat} (h:togB ms k=true):joinB ms k=true:=by
 (rw[togB,Bool.and_eq_true,Bool.and_eq_true,decide_eq_true_eq] at h);obtain⟨⟨_,h1⟩,h2⟩:=h;(rw[stableB,List.all_eq_true] at h1);(rw[nextB,List.all_eq_true] at h2);rw[joinB,List.all_eq_true];intro l hl;have a1:=of_decide_eq_true (h1 l hl);have a2:=of_decide_eq_true (h2 l hl);exact decide_eq_true ⟨by omega,a2⟩
theorem join_tog {ms:List (List Int)} {k:Nat} (h0:0 < k) (hs:stableB ms (k - 1)=true) (h:joinB ms k=true):togB ms k=true∧stableB ms k=true∧colK ms k=ends ms k:=by
 (rw[joinB,List.all_eq_true] at h)
 have hn:nextB ms k=true:=by
  rw[nextB,List.all_eq_true];(exact fun l hl=>decide_eq_true (of_decide_eq_true (h l hl)).2)
 refine⟨by rw[togB,hs,hn,decide_eq_true h0];rfl,?_,?_⟩;(· rw[stableB,List.all_eq_true];(exact fun l hl=>decide_eq_true (of_decide_eq_true (h l hl)).1));(· rw[ends,colK,colK,List.map_map];exact List.map_congr_left (fun l hl=>(of_decide_eq_true (h l hl)).2))
theorem join_spans : ∀ {a b c:List Int},b.length=a.length→c.length=b.length→List.zipWith (fun (x y:Spanx)=>(⟨x.f0,y.f1⟩:Spanx)) (List.zipWith (fun f t=>(⟨f,t⟩:Spanx)) a b) (List.zipWith (fun f t=>(⟨f,t⟩:Spanx)) b c)=List.zipWith (fun f t=>(⟨f,t⟩:Spanx)) a c
 | [],[],[],_,_=>rfl
 | x :: a,y :: b,z :: c,h1,h2=>by
  simp only[List.zipWith_cons_cons];rw[join_spans (by simpa using h1) (by simpa using h2)]
theorem zip_self {x:Int × Int} : ∀ {s:List Int},x ∈ List.zip s s→x.1=x.2
 | [],h=>by cases h
 | a :: s,h=>by
  (rw[List.zip_cons_cons] at h)
  rcases List.mem_cons.1 h with rfl|h
  (· rfl);(· exact zip_self h)
theorem someB_self (b:Int) (s:List Int):someB b b s s s.length=false:=by
 rw[someB,decide_eq_false (Int.lt_irrefl b),Bool.false_or,List.any_eq_false];intro x hx;have:=zip_self (List.mem_of_mem_take hx);simp[this]
def runC (ms:List (List Int)) (k j:Nat):Chunk:=⟨true,⟨(k:Int),(j:Int)⟩,spansF (colK ms k) (ends ms j) (colK ms k).length⟩
theorem runC_pos {ms:List (List Int)} (hn:0 < ms.length) (k j:Nat):PosC ms.length (runC ms k j) (j:Int) (ends ms j):=pos_spans hn _ _ _ (colK_len ms k) (ends_len ms j)
theorem one_run {ms:List (List Int)} {k:Nat} {last:Chunk} (h:PosC ms.length last (k:Int) (colK ms k)):oneC ms k last=runC ms k (k+1):=by
 (rw[oneC,places_ends,chunk_pos h _ (ends_len ms (k+1)),runC];rfl)
theorem step_run {ms:List (List Int)} (hn:0 < ms.length) {k j:Nat} (h0:0 < j) (hs:stableB ms (j - 1)=true) (hj:joinB ms j=true) (O:List Chunk):stepSt ms j (O ++ [runC ms k j],runC ms k j)=(O ++ [runC ms k (j+1)],runC ms k (j+1)):=by
 obtain⟨h1,h2,h3⟩:=join_tog h0 hs hj;have hp:=runC_pos hn k j
 have hg:gapSt ms j (O ++ [runC ms k j],runC ms k j)=(O ++ [runC ms k j],runC ms k j):=by
  rw[gapSt];dsimp only;rw[places_col,h3,chunk_pos hp (j:Int) (ends_len ms j),empty_eq _ _ _ rfl,someB_self,if_pos (by rfl)]
 have ho:oneC ms j (runC ms k j)=⟨true,⟨(j:Int),((j+1:Nat):Int)⟩,spansF (ends ms j) (ends ms (j+1)) (ends ms j).length⟩:=by
  (rw[oneC,places_ends,chunk_pos hp _ (ends_len ms (j+1))];rfl)
 have hl:lastC (O ++ [runC ms k j])=runC ms k j:=by
  rw[lastC,List.length_append,List.length_singleton,Nat.add_sub_cancel,getD_get (by simp)];simp
 have hjn:joinR (runC ms k j) (oneC ms j (runC ms k j))=runC ms k (j+1):=by
  rw[ho,joinR,runC,runC];dsimp only;rw[spans_eq (by rw[ends_len,colK_len]),spans_eq (by rw[ends_len,ends_len]),spans_eq (by rw[ends_len,colK_len]),join_spans (by rw[ends_len,colK_len]) (by rw[ends_len,ends_len])]
 rw[stepSt,if_pos h2,hg,putSt,if_pos h1];dsimp only;rw[hl,hjn,List.length_append,List.length_singleton,Nat.add_sub_cancel,List.take_left'];rfl
theorem run_on {ms:List (List Int)} (hn:0 < ms.length) {k en m:Nat} (hen:en≤m) (hs:stableB ms k=true) (hj : ∀ j,k < j→j < en→joinB ms j=true) (O:List Chunk) : ∀ (r j:Nat),k < j→j+r=en→runSt ms (m - j) j (O ++ [runC ms k j],runC ms k j)=runSt ms (m - en) en (O ++ [runC ms k en],runC ms k en)
 | 0,j,hkj,he=>by
  (obtain rfl:j=en:=by omega);rfl
 | r+1,j,hkj,he=>by
  have hst:stableB ms (j - 1)=true:=by
   by_cases e:j - 1=k
   (· (rw[e];exact hs));(· have:=hj (j - 1) (by omega) (by omega);(rw[joinB,List.all_eq_true] at this);rw[stableB,List.all_eq_true];(exact fun l hl=>decide_eq_true (of_decide_eq_true (this l hl)).1))
  (have hm:m - j=(m - (j+1))+1:=by omega);rw[hm,runSt,step_run hn (by omega) hst (hj j hkj (by omega)) O];exact run_on hn hen hs hj O r (j+1) (by omega) (by omega)
theorem rest_eq {ms:List (List Int)} {m:Nat} {sizes:List Int} (hn:0 < ms.length) (hsz:sizes.length=ms.length) (hmono : ∀ l ∈ ms,∀ i j,i < j→j < m→0≤l.getD i 0→0≤l.getD j 0→l.getD i 0 < l.getD j 0) :
    ∀ (r k:Nat) (out:List Chunk) (last:Chunk) (b:Int) (s:List Int),k≤m→m+1≤r+k→PosC ms.length last b s→(k < m→togB ms k=false)→b≤(k:Int)→(∀ i (h:i < ms.length),∀ j,k≤j→j < m→0≤ms[i].getD j 0→s.getD i 0≤ms[i].getD j 0) →
      endSt m sizes (runSt ms (m - k) k (out,last))=out ++ restGo m sizes ms r k b s
  | 0,k,out,last,b,s,hk,hr,hp,ht,hb,hs=>by omega
  | r+1,k,out,last,b,s,hk,hr,hp,ht,hb,hs=>by
    rw[restGo]
    by_cases hlt:k < m
    · rw[if_pos hlt]
      have hm:m - k=(m - (k+1))+1:=by omega
      rw[hm,runSt]
      by_cases hst:stableB ms k=true
      · rw[if_pos hst]
        obtain⟨en1,en2⟩:=runF_gt m ms k hlt
        obtain⟨en,hen⟩ : ∃ en,runF m ms k=en:=⟨_,rfl⟩
        have hstop:en < m→joinB ms en=false:=fun h=>by
          rw[← hen] at h ⊢
          exact runGo_stop m ms _ _ (by omega) h
        have hjn : ∀ j,k < j→j < en→joinB ms j=true:=fun j h1 h2=>by
          rw[← hen] at h2
          exact runGo_join m ms _ _ j (by omega) h2
        rw[hen] at en1 en2 ⊢
        have hst':=hst
        rw[stableB,List.all_eq_true] at hst'
        have hg:=gap_pos (ms:=ms) (k:=k) (out:=out) hn hp (fun hf=>by
          rw[someB,Bool.or_eq_false_iff,List.any_eq_false] at hf
          have hbk:=of_decide_eq_false hf.1
          refine⟨by omega,?_⟩
          have hsl:=hp.2.2
          refine List.ext_getElem (by rw[hsl,colK_len]) (fun i h1 h2=>?_)
          have hi:i < ms.length:=by omega
          have hc:(colK ms k)[i]=ms[i].getD k 0:=by simp[colK]
          have hle:=hs i hi k (Nat.le_refl _) hlt (of_decide_eq_true (hst' _ (List.getElem_mem hi)))
          rw[getD_get h1] at hle
          have hx:=hf.2 (s[i],(colK ms k)[i]) (by
            rw[List.take_of_length_le (by rw[List.length_zip];exact Nat.min_le_left _ _)]
            exact List.mem_iff_getElem.2 ⟨i,by rw[List.length_zip,colK_len,hsl];omega,by rw[List.getElem_zip]⟩)
          have hx' : ¬ s[i] < (colK ms k)[i]:=fun h=>hx (decide_eq_true h)
          rw[hc] at hx' ⊢
          omega)
        have hstep:stepSt ms k (out,last)=((out ++ gapC false b (k:Int) s (colK ms k)) ++ [runC ms k (k+1)],runC ms k (k+1)):=by
          rw[stepSt,if_pos hst,putSt,if_neg (by rw[ht hlt];decide),one_run hg.2,hg.1]
        have hrun:=run_on (m:=m) hn en2 hst hjn (out ++ gapC false b (k:Int) s (colK ms k)) (en - (k+1)) (k+1) (by omega) (by omega)
        have htog:en < m→togB ms en=false:=fun he=>Bool.eq_false_iff.2 (fun h=>by
          have:=tog_join h
          rw[hstop he] at this
          cases this)
        have ih:=rest_eq hn hsz hmono r en ((out ++ gapC false b (k:Int) s (colK ms k)) ++ [runC ms k en]) (runC ms k en) (en:Int) (ends ms en) en2 (by omega) (runC_pos hn k en) htog (Int.le_refl _) (fun i hi j h1 h2 h3=>by
          have e1:(ends ms en).getD i 0=ms[i].getD (en - 1) 0+1:=by
            rw[getD_get (by rw[ends_len];exact hi)]
            simp[ends,colK]
          have h4:0≤ms[i].getD (en - 1) 0:=by
            by_cases e:en - 1=k
            · rw[e];exact of_decide_eq_true (hst' _ (List.getElem_mem hi))
            · have:=hjn (en - 1) (by omega) (by omega)
              rw[joinB,List.all_eq_true] at this
              exact(of_decide_eq_true (this _ (List.getElem_mem hi))).1
          have:=hmono _ (List.getElem_mem hi) (en - 1) j (by omega) h2 h4 h3
          omega)
        have hgt:gapC true (k:Int) (en:Int) (colK ms k) (ends ms en)=[runC ms k en]:=by
          rw[gapC,if_pos,runC]
          rw[someB,decide_eq_true (by omega),Bool.true_or]
        rw[hstep,hrun,ih,hgt]
        simp
      · rw[if_neg hst,stepSt,if_neg hst]
        refine rest_eq hn hsz hmono r (k+1) out last b s (by omega) (by omega) hp (fun _=>?_) (by omega) (fun i hi j h1 h2 h3=>hs i hi j (by omega) h2 h3)
        have:stableB ms k=false:=Bool.eq_false_iff.2 hst
        rw[togB,Nat.add_sub_cancel,this,Bool.and_false];rfl
    · rw[if_neg hlt]
      obtain rfl:k=m:=by omega
      rw[Nat.sub_self]
      show endSt k sizes (out,last)=_
      rw[endSt]
      dsimp only
      rw[chunk_pos hp (k:Int) hsz,empty_eq _ _ _ (by rw[hsz,hp.2.2]),gapC]
      cases someB b (k:Int) s sizes s.length with
      | false=>rw[if_pos (by rfl),if_neg (by decide),List.append_nil]
      | true=>rw[if_neg (by decide),if_pos rfl]
theorem alignR_eq {ms:List (List Int)} {m:Nat} {sizes:List Int} (hn:0 < ms.length) (hsz:sizes.length=ms.length) (hmono : ∀ l ∈ ms,∀ i j,i < j→j < m→0≤l.getD i 0→0≤l.getD j 0→l.getD i 0 < l.getD j 0):alignR m sizes ms=alignF m sizes ms:=by
 rw[alignF_rest,alignR]
 have h:=rest_eq hn hsz hmono (m+1) 0 [] z48 0 (List.replicate ms.length 0) (Nat.zero_le _) (by omega) ⟨rfl,rfl,List.length_replicate⟩ (fun _=>rfl) (by decide) (fun i hi j _ _ h=>by
  rw[List.getD_eq_getElem?_getD,List.getElem?_replicate]
  split <;> simpa using h)
 (rw[Nat.sub_zero,List.nil_append] at h);exact h
def upB (hi:Nat):Nat→List Int→Bool
  | _,[]=>true
  | lo,x :: r=>if x = -1 then upB hi lo r else decide ((lo:Int)≤x∧x < (hi:Int)) && upB hi (x.toNat+1) r
theorem fits_upB {p:List ByteArray} : ∀ {ms:List Int} {ss:List ByteArray} {lo:Nat},Fits p ms ss lo→upB p.length lo ms=true
 | [],_,_,_=>rfl
 | m :: ms,[],_,h=>by have:=h.len;simp at this
 | m :: ms,s :: ss,lo,h=>by
  rcases h with ⟨h,hF⟩|⟨q,h,h1,h2,h3⟩
  (· (rw[upB,if_pos h];exact fits_upB hF));(· have hq:=(List.getElem?_eq_some_iff.1 h2).1;rw[upB,if_neg (by omega),decide_eq_true (by omega),Bool.true_and,h,Int.toNat_natCast];exact fits_upB h3)
theorem upB_vals {hi:Nat} (hh:hi≤1000000) : ∀ {ms:List Int} {lo:Nat},upB hi lo ms=true → ∀ i, -1≤ms.getD i 0∧ms.getD i 0≤1000000
 | [],_,_,i=>by simp
 | x :: r,lo,h,i=>by
  (rw[upB] at h)
  have hx:(-1≤x∧x≤1000000) ∧ ∃ lo',upB hi lo' r=true:=by
   (split at h);(· (rename_i e;exact⟨by omega,lo,h⟩));(· (rw[Bool.and_eq_true,decide_eq_true_eq] at h);exact⟨by omega,_,h.2⟩)
  obtain⟨h1,lo',h2⟩:=hx
  cases i with
  | zero=>simpa using h1
  | succ i=>have:=upB_vals hh h2 i;simpa using this
theorem upB_may_l0 {ms:List Int} {hi:Nat} (hm:ms.length≤1000000) (hp:hi≤1000000) : ∀ (r i lo:Nat),i+r=ms.length→upB hi lo (ms.drop i)=true→Gives (fun K=>sennitref04_May.l0 K ms (hi:Int) (lo:Int) (i:Int)) true
 | 0,i,lo,hi',hF=>Gives.of fun K=>by
  show sennitref04_May.l0 (K+1) ms (hi:Int) (lo:Int) (i:Int)=_;rw[sennitref04_May.l0,if_neg (by omega)]
 | r+1,i,lo,hi',hF=>by
  (have hil:i < ms.length:=by omega);(rw[dropCons hil,upB] at hF)
  by_cases h:ms[i] = -1
  (· (rw[if_pos h] at hF);(refine(upB_may_l0 hm hp r (i+1) lo (by omega) hF).step fun K=>?_);show sennitref04_May.l0 (K+1) ms (hi:Int) (lo:Int) (i:Int)=_;rw[sennitref04_May.l0,if_pos (by omega),if_pos (by omega),rdN hil,if_pos h,gw1 (by omega)]);(· (rw[if_neg h,Bool.and_eq_true,decide_eq_true_eq] at hF);(have e:(((ms[i].toNat+1:Nat)):Int)=ms[i]+1:=by omega);(refine(upB_may_l0 hm hp r (i+1) (ms[i].toNat+1) (by omega) hF.2).step fun K=>?_);show sennitref04_May.l0 (K+1) ms (hi:Int) (lo:Int) (i:Int)=_;rw[sennitref04_May.l0,if_pos (by omega),if_pos (by omega),rdN hil,if_neg h,if_neg (by omega),if_neg (by omega),gw (x:=ms[i]+1) (by omega) (by omega),gw1 (by omega),e])
theorem upB_may {ms:List Int} {hi:Nat} (hm:ms.length≤1000000) (hp:hi≤1000000) (h:upB hi 0 ms=true):Gives (fun K=>sennitref04_May.f K ms (hi:Int)) true:=by
 (refine(upB_may_l0 hm hp ms.length 0 0 (by omega) h).same fun K=>?_);show sennitref04_May.f K ms (hi:Int)=_;(rw[sennitref04_May.f,if_neg (by omega)];rfl)
def alignOkB (a0:Int) (l1:List Int) (l2:List (List Int)):Bool :=
  decide (0≤a0∧a0≤40000∧l1.length=l2.length∧1≤l2.length∧l2.length≤16) && l2.all (fun l=>decide (l.length=a0.toNat)) && (List.zip l2 l1).all (fun x=>decide (0≤x.2∧x.2≤1000000) && upB x.2.toNat 0 x.1)
theorem alignOkB_at {a0:Int} {l1:List Int} {l2:List (List Int)} (h:alignOkB a0 l1 l2=true):(0≤a0∧a0≤40000∧l1.length=l2.length∧1≤l2.length∧l2.length≤16)∧AllLen l2 a0.toNat ∧ ∀ i (hi:i < l2.length),0≤l1.getD i 0∧l1.getD i 0≤1000000∧upB (l1.getD i 0).toNat 0 l2[i]=true:=by
 (rw[alignOkB,Bool.and_eq_true,Bool.and_eq_true,decide_eq_true_eq,List.all_eq_true,List.all_eq_true] at h);obtain⟨⟨h1,h2⟩,h3⟩:=h;refine⟨h1,fun l hl=>of_decide_eq_true (h2 l hl),fun i hi=>?_⟩;(have hi1:i < l1.length:=by omega);have:=h3 (l2[i],l1[i]) (List.mem_iff_getElem.2 ⟨i,by rw[List.length_zip];omega,by rw[List.getElem_zip]⟩);(rw[Bool.and_eq_true,decide_eq_true_eq] at this);rw[getD_get hi1];exact⟨this.1.1,this.1.2,this.2⟩
def sennitref05_Align.f (a0:Int) (l1:List Int) (l2:List (List Int)):Option (List (S48) × Int):=if alignOkB a0 l1 l2=true then some (alignR a0.toNat l1 l2,0) else none
theorem sennitref05_Align.calls (a0:Int) (A1:Option Addr) (c1:Nat) (l1:List Int) (A2:Option Addr) (c2:Nat) (l2:List (List Int)) (r1:List (S48)) (r2:Int) (w:World) (hr1:Kd.C (Kd.int .i64) w A1 l1.length l1) (hc1:l1.length≤c1) (hr2:Kd.C (Kd.slice 3 (Kd.int .i64)) w A2 l2.length l2) (hc2:l2.length≤c2) (h:sennitref05_Align.f a0 l1 l2=some (r1,r2)) :
    Calls Tryz.prog 42 #[.int .i64 a0, .slice A1 l1.length c1, .slice A2 l2.length c2] w fun e w' => ∃ v0_:Value,e = .returned (.tuple #[v0_, .int .i64 r2])∧Kd.N k48 48 w' w.heap.size (fun k_=>w.heap.size≤k_) v0_ r1∧Below w.heap.size w w':=by
 (rw[sennitref05_Align.f] at h);(split at h)
 ·
  rename_i hok;obtain⟨⟨h1,h2,h3,h4,h5⟩,h6,h7⟩:=alignOkB_at hok;obtain⟨e1,e2⟩:=Prod.mk.inj (Option.some.inj h);obtain⟨m,rfl⟩:=Int.eq_ofNat_of_zero_le h1;(rw[Int.toNat_natCast] at e1 h6);subst e1 e2;(refine(ref_Align05 m A1 c1 l1 A2 c2 l2 w hr1 hc1 hr2 hc2 h3 h4 h5 (by omega) h6 (fun l hl i=>?_) (ref_may05 h3 h4 h5 h6 (fun i hi=>?_))).mono fun e w' ⟨v,he,hR,hb⟩=>⟨v,he,Kd.R_N (Kd.R_mono (Kd.R_bound hR) (fun k hk=>hk.2.1)),hb⟩);(· obtain⟨j,hj,rfl⟩:=List.mem_iff_getElem.1 hl;obtain⟨a,b,c⟩:=h7 j hj;exact upB_vals (by omega) c i);(· obtain⟨a,b,c⟩:=h7 i hi;have hlen:=h6 _ (List.getElem_mem hi);have:=upB_may (by omega) (by omega) c;(rw[show ((((l1.getD i 0).toNat:Nat)):Int)=l1.getD i 0 by omega] at this);exact this)
 (· cases h)
end Go.Proofs.YtbbhdbeaikclcaaGreat.X
namespace Go.Proofs.YtbbhdbeaikclcaaGreat.X
open Go.RowKit Go.Proofs.YtbbhdbeaikclcaaGreatW.PrintWords Go.Proofs.YtbbhdbeaikclcaaGreatW.PrintLast Go.Proofs.YtbbhdbeaikclcaaGreatW.PrintMore
attribute [local go_sem] max2_int min2_int max_two min_two max_three min_three max_four min_four
def sennitref08_Chunks.f (k:Nat) (l0:List ByteArray) (l1:List (List ByteArray)):Option ((List (S48)) × Int):=(sennitref08_wrong.f k l0 l1).bind fun t101=>(if t101=0 then ((some (([l0]:List (List ByteArray)):List (List ByteArray))).bind fun y102=>(if y102.length+l1.length < 5864062014805 then ((sennitref02_All.f k (y102 ++ l1)).bind fun t108=>(if 0 < (t108.length:Int) then (if 1≤(t108.length:Int) then ((sennitref05_Matches.f k (rd_L16 t108 0) (t108.drop 1)).bind fun bt117=>((sennitref05_Align.f (l0.length:Int) bt117.1 bt117.2).bind fun bt123=>(some (bt123.1,bt123.2)))) else (none)) else (none))) else (none))) else (some (([]:List (S48)),t101)))
def sennitref08_Chunks.T7:Bool × List (List Nat × List Nat):=(true,[([],[]),([0],[0]),([1],[1]),([],[]),([3],[3]),([2,4],[2,4]),([5],[5]),([6],[6]),([6],[6]),([7,5,0,1,2,3,4,5,6,7],[7]),([8,9,0,1,2,3,4,5,6,7,8,9],[8])])
def sennitref08_Chunks.B7:List Nat:=[0,1,3,0,8,31,63,127,127,255,1023]
theorem sennitref08_Chunks.tab7:rtab .any (opsOf Tryz.f16 7)=sennitref08_Chunks.T7:=by kernel_rfl
theorem sennitref08_Chunks.bits7:waitsOk sennitref08_Chunks.T7.2 sennitref08_Chunks.B7=true:=by kernel_rfl
theorem sennitref08_Chunks.calls (k:Nat) (P0_:Nat→Prop) (A0:Option Addr) (c0:Nat) (l0:List ByteArray) (P1_:Nat→Prop) (A1:Option Addr) (c1:Nat) (l1:List (List ByteArray)) (r1:List (S48)) (r2:Int) (w:World) (hs0:Kd.V Kd.string 9 w w.heap.size (fun k_=>P0_ k_) (.slice A0 l0.length c0) l0) (hs1:Kd.V (Kd.slice 9 Kd.string) 22 w w.heap.size (fun k_=>P1_ k_) (.slice A1 l1.length c1) l1) (h:sennitref08_Chunks.f k l0 l1=some (r1,r2)) :
    Calls Tryz.prog 16 #[.slice A0 l0.length c0, .slice A1 l1.length c1] w fun e w' => ∃ v0_:Value,e = .returned (.tuple #[v0_, .int .i64 r2])∧Kd.N k48 48 w' w.heap.size (fun k_=>((P0_ k_∨P1_ k_)∨w.heap.size≤k_)) v0_ r1∧Below w.heap.size w w':=by
 have HO0:=Aside0.mk (show Kd.V Kd.string 9 w w.heap.size (fun k_=>((P0_ k_∨P1_ k_)∨w.heap.size≤k_)) (.slice A0 l0.length c0) l0 from Kd.V_mono hs0 (fun k_ hk => .inl (.inl hk)));have HO1:=Aside0.mk (show Kd.V (Kd.slice 9 Kd.string) 22 w w.heap.size (fun k_=>((P0_ k_∨P1_ k_)∨w.heap.size≤k_)) (.slice A1 l1.length c1) l1 from Kd.V_mono hs1 (fun k_ hk => .inl (.inr hk)));have HB:=Aside0.mk (Below.refl w.heap.size w);have H:=h;(rw[sennitref08_Chunks.f] at H);clear h;replace H:=Option.bind_eq_some_iff.mp H;obtain⟨t101,A30,H⟩:=H;(try dsimp only at H);have A3:=Aside0.mk A30;clear A30
 by_cases c4:t101=0
 ·
  (rw[if_pos c4] at H);have c4b0:(t101 == 0)=true:=beq_iff_eq.mpr c4;have c4b1:(t101 != 0)=false:=bne_eq_false_iff_eq.mpr c4;clear c4;obtain⟨y102,hy102⟩ : ∃ y_:List (List ByteArray),y_=(([l0]:List (List ByteArray))):=⟨_,rfl⟩;((try rw[Option.bind_some] at H);rw[← hy102] at H);have Ny102:=Aside0.mk hy102;clear hy102
  by_cases c5:y102.length+l1.length < 5864062014805
  ·
   (rw[if_pos c5] at H);have LMc5:=Aside0.mk c5;clear c5;obtain⟨y105,hy105⟩ : ∃ y_:List (List ByteArray),y_=(y102 ++ l1):=⟨_,rfl⟩;((try rw[Option.bind_some] at H);rw[← hy105] at H);have Ny105:=Aside0.mk hy105;clear hy105;replace H:=Option.bind_eq_some_iff.mp H;obtain⟨t108,A60,H⟩:=H;(try dsimp only at H);have A6:=Aside0.mk A60;clear A60
   by_cases c7:0 < (t108.length:Int)
   ·
    (rw[if_pos c7] at H);have c7b0:decide (0 < (t108.length:Int))=true:=decide_eq_true c7;have c7b1:decide (0 < t108.length)=true:=decide_eq_true (by omega);clear c7
    by_cases c8:1≤(t108.length:Int)
    ·
     (rw[if_pos c8] at H);have c8b0:=eq_true c8;have c8b1:decide (1≤(t108.length:Int))=true:=decide_eq_true c8;clear c8;obtain⟨y112,hy112⟩ : ∃ y_:List (List Int),y_=(t108.drop 1):=⟨_,rfl⟩;((try rw[Option.bind_some] at H);rw[← hy112] at H);have Ny112:=Aside0.mk hy112;clear hy112;replace H:=Option.bind_eq_some_iff.mp H;obtain⟨⟨t117,t118⟩,A90,H⟩:=H;(try dsimp only at H);have A9:=Aside0.mk A90;clear A90;replace H:=Option.bind_eq_some_iff.mp H;obtain⟨⟨t123,t126⟩,A100,H⟩:=H;(try dsimp only at H);have A10:=Aside0.mk A100;clear A100;(simp only[Option.some.injEq,Prod.mk.injEq] at H);obtain⟨rfl,rfl⟩:=H;go_enter Tryz.func16,Tryz.ntmps16
     (try go_wp2_with (first|((with_reducible refine gate_callee (f:=39) rfl ?_);refine goesL_ (some 13) rfl rfl Tryz.func39 (by kernel_rfl) rfl #[.slice A0 l0.length c0, .slice A1 l1.length c1] rfl am_ ?_;(with_reducible refine(sennitref08_wrong.calls k _ _ l0 _ _ l1 t101 _ ?side1 ?side2 ?side3 ?side4 A3.out).mono ?_);(case side1=>repeat(first|exact(Kd.V_reads' HO0.out).2.2|(with_reducible refine Kd.C_alloc ?_ _)|(with_reducible refine Kd.C_drewN ?_ _)|(with_reducible refine Kd.C_drew ?_)));(case side2=>exact(Kd.V_reads' HO0.out).2.1);(case side3=>repeat(first|exact(Kd.V_reads' HO1.out).2.2|(with_reducible refine Kd.C_alloc ?_ _)|(with_reducible refine Kd.C_drewN ?_ _)|(with_reducible refine Kd.C_drew ?_)));(case side4=>exact(Kd.V_reads' HO1.out).2.1);rintro e w' ⟨rfl,⟨nd,rfl⟩⟩;refine⟨_,rfl,?_⟩)|((with_reducible refine gate_dst (N:=18) rfl ?_);refine Kd.N_lit (Kd.slice 9 Kd.string) _ 22 ?hg (N':=18) ?hd (xs:=([l0]:List (List ByteArray))) (inner:=[.slice A0 l0.length c0]) (ok:=(fun k_=>((P0_ k_∨P1_ k_)∨w.heap.size≤k_))) (okp:=(fun k_=>((P0_ k_∨P1_ k_)∨w.heap.size≤k_))) ?hr ?hp (fun _ hk=>hk) ((show ∀ k_,w.heap.size≤k_→(fun k_=>((P0_ k_∨P1_ k_)∨w.heap.size≤k_)) k_ from fun k_ hk=>(.inr (Nat.le_trans (below_size bel_) hk))) _ (Nat.le_refl _)) (Below.refl _ _) (Nat.le_refl _) (by simp) ?_;(case hd=>rfl);(case hg=>rfl);(case hr=>first|(go_simp;done)|(go_simp;rfl));(case hp=>first|exact(Reps.one (show Kd.FK (Kd.slice 9 Kd.string) _ _ l0 [.slice A0 l0.length c0] from (Kd.FK_slice_mk (Kd.V_reads' (Kd.V_mono (ok':=(fun k_=>((P0_ k_∨P1_ k_)∨w.heap.size≤k_))) (HO0.out) (fun k_ hk=>hk))).2.1 (Kd.V_F (Kd.V_mono (ok':=(fun k_=>((P0_ k_∨P1_ k_)∨w.heap.size≤k_))) (HO0.out) (fun k_ hk=>hk))))) (Reps.none _ _))|exact(Reps.one (show Kd.FK (Kd.slice 9 Kd.string) _ _ l0 [.slice A0 l0.length c0] from (Kd.FK_slice_mk (Kd.V_reads' (Kd.V_mono (ok':=(fun k_=>((P0_ k_∨P1_ k_)∨w.heap.size≤k_))) (HO0.out) (fun k_ hk=>hk))).2.1 (Kd.V_F (Kd.V_mono (ok':=(fun k_=>((P0_ k_∨P1_ k_)∨w.heap.size≤k_))) (Kd.V_drewN HO0.out _) (fun k_ hk=>hk))))) (Reps.none _ _)));intro v103 w11 ho12 hb hg_ hnew_;clear hg_ hnew_;(first|rw[← Ny102.out] at ho12|(simp only[Int.reduceToNat] at ho12;rw[← Ny102.out] at ho12));replace HO0:=Aside0.mk (Kd.V_elder' (pV_ HO0.out) (Kd.N_base ho12) hb);replace HO1:=Aside0.mk (Kd.V_elder' (pV_ HO1.out) (Kd.N_base ho12) hb);have HO104:=Aside0.mk (Kd.N_lower ho12 (below_size bel_));replace HB:=Aside0.mk (below_step bel_ hb);clear hb ho12)|((with_reducible refine gate_builtin (b := .append) (xs:=#[.tmp 19, .tmp 20]) rfl ?_);at_builtin;refine Kd.N_append_rows (Kd.slice 9 Kd.string) (w0:=w) w.heap.size rfl (.tmp 19) (.tmp 20) 23 22 (.slice none 0 0) 24 rfl Tryz.underlying23 info22 rfl (by decide) (by omega) v103 y102 l1 _ _ _ (fun k_=>((P0_ k_∨P1_ k_)∨w.heap.size≤k_)) (fun k_=>((fun k_=>((P0_ k_∨P1_ k_)∨w.heap.size≤k_))) k_∧some k_≠(v103:Value).ownBlock) rfl rfl ?aO ?aR (fun _ hk=>hk) ?aF ?aB ?aS ?aL ?_;(case aR=>exact(by skip;exact Kd.V_F (Kd.V_mono (ok':=(fun k_=>((fun k_=>((P0_ k_∨P1_ k_)∨w.heap.size≤k_))) k_∧some k_≠(v103:Value).ownBlock)) (HO1.out) (fun k_ hk=>⟨hk.1,hk.2⟩))));(case aB=>exact bel_);(case aF=>exact(fun k_ hk=>(.inr (Nat.le_trans (below_size bel_) hk))));(case aO=>exact(pN_ HO104.out));(case aS=>exact(below_size bel_));(case aL=>have:=LMc5.out;omega);intro v106 w13 ho hb hg hat;rw[← Ny105.out] at ho;replace HO0:=Aside0.mk (Kd.V_afterv (ok:=(fun k_=>((P0_ k_∨P1_ k_)∨w.heap.size≤k_))) (pV_ HO0.out) hg hat);replace HO1:=Aside0.mk (Kd.V_afterv (ok:=(fun k_=>((P0_ k_∨P1_ k_)∨w.heap.size≤k_))) (pV_ HO1.out) hg hat);replace HB:=Aside0.mk (hb);have HO107:=Aside0.mk (ho);clear HO104;clear ho hb hg hat;obtain⟨Ao14,co14,eo14⟩:=Kd.N_slice HO107.out;subst eo14)|((with_reducible refine gate_callee (f:=40) rfl ?_);refine goesL_ (some 23) rfl rfl Tryz.func40 (by kernel_rfl) rfl #[.slice Ao14 y105.length co14] rfl am_ ?_;(with_reducible refine(sennitref02_All.calls k _ _ y105 t108 _ ?side1 ?side2 A6.out).mono ?_);(case side1=>repeat(first|exact(Kd.N_reads' HO107.out).2.2|(with_reducible refine Kd.C_alloc ?_ _)|(with_reducible refine Kd.C_drewN ?_ _)|(with_reducible refine Kd.C_drew ?_)));(case side2=>exact(Kd.N_reads' HO107.out).2.1);rintro e w15 ⟨v109,rfl,ho0,hb⟩;refine⟨_,rfl,?_⟩;replace HO0:=Aside0.mk (Kd.V_elder' (pV_ HO0.out) (Kd.N_base (Kd.S_N ho0)) hb);replace HO1:=Aside0.mk (Kd.V_elder' (pV_ HO1.out) (Kd.N_base (Kd.S_N ho0)) hb);have HO110:=Aside0.mk (Kd.N_lower (Kd.N_mono (ok':=fun k_=>((P0_ k_∨P1_ k_)∨w.heap.size≤k_)∧some k_≠(.slice Ao14 y105.length co14:Value).ownBlock) (Kd.S_N (Kd.S_bound ho0)) (fun k_ hk_=>⟨(.inr (Nat.le_trans (below_size bel_) hk_.2.1)),(Kd.fresh' (Kd.N_lt (pN_ HO107.out)) k_ hk_.2.1)⟩)) (below_size bel_));replace HO107:=Aside0.mk (Kd.N_elder' (pN_ HO107.out) (Kd.N_base (Kd.S_N ho0)) hb);replace HB:=Aside0.mk (below_step bel_ hb);(try clear hb);(try clear hb2);(try clear hk);(try clear hi);(try clear ho0))))
     replace HO0:=Aside0.mk (Kd.V_drew HO0.out);replace HO1:=Aside0.mk (Kd.V_drew HO1.out);replace HO107:=Aside0.mk (Kd.N_drew HO107.out);replace HO110:=Aside0.mk (Kd.N_drew HO110.out);replace HB:=Aside0.mk (below_drew1 HB.out);obtain⟨Ao17,co17,eo17⟩:=Kd.N_slice HO110.out;(first|subst eo17|(injection eo17 with f1_ f2_ f3_;have f4_:=f1_.symm;have f5_:=f3_.symm;clear f1_ f2_ f3_;subst f4_;subst f5_));have p111:0≤(0:Int):=(by omega);have q111:0 < (t108.length:Int):=dt_;obtain⟨ad111,A111_0,c111_0,e111,hx111_0,hl111_0,hi111_0⟩:=at_L16 (Kd.N_reads' HO110.out).2.2 0 p111 q111;cases e111;obtain⟨ce111,hce111,hMe111,hcc111⟩:=Kd.N_get HO110.out [] 0 p111 (by first|exact q111|exact dt_|(have e_:=(Kd.N_reads' HO110.out).1;omega));obtain⟨ua111_0,uc111_0,rfl,ul111_0,ge111_0⟩:=Kd.FK_slice_open hMe111;have hv111_0:=hcc111 0 _ rfl;(rw[Nat.add_zero,show ((Kd.slice 3 (Kd.int .i64))).sz=1 from rfl,Nat.mul_one] at hv111_0);replace hv111_0:=Option.some.inj (hv111_0.symm.trans hx111_0);(injection hv111_0 with hva_ hvn_ hvc_);(rw[hva_] at ge111_0);(rw[hvc_] at ul111_0);have HL111_0:=Aside0.mk (show Kd.V (Kd.int .i64) 3 _ w.heap.size _ _ (rd_L16 t108 0) from Kd.V_mk ul111_0 ge111_0);clear hva_ hvn_ hvc_ ge111_0 ul111_0;clear hcc111 hce111;have qi111:(0 < t108.length)=True:=eq_true (by omega);(try rw[show ((0:Int)).toNat=0 from rfl] at hx111_0);(try rw[Addr.add_zero'] at hx111_0);have HR111_0:=Aside0.mk hi111_0;have HC111_0:=Aside0.mk hl111_0;clear hi111_0 hl111_0;replace p111:=eq_true p111;replace q111:=eq_true q111;have q18:(1:Int)≤((t108.length:Int):Int):=dt_;obtain⟨i018,hi018,_,hsz18,_⟩:=info_parts info72;have hroom18:t108.length≤co17:=(Kd.N_reads' HO110.out).2.1;have hC18:Kd.F (Kd.slice 3 (Kd.int .i64)) _ _ (some ad111) t108.length t108:=(Kd.V_at (base:=w.heap.size) (Kd.N_V HO110.out)).2.2;have hcut18:=cut_from (P:=Tryz.prog) 70 72 .i64 Tryz.underlying70 hi018 1 hsz18 (some ad111) t108.length co17 1 (by omega) q18;have hr18:=Kd.F_cut (m:=(1:Int).toNat) (c:=co17) hC18 (by omega) hroom18;obtain⟨A18,hA18⟩ : ∃ A1,A1=(if co17=(1:Int).toNat then (some ad111) else ((some ad111):Option Addr).map (·.add ((1:Int).toNat * 1))):=⟨_,rfl⟩;obtain⟨c18,hc18⟩ : ∃ c1,c1=co17 - (1:Int).toNat:=⟨_,rfl⟩;have hy18:y112.length=t108.length - (1:Int).toNat:=(by rw[Ny112.out,List.length_drop] <;> omega);(rw[show (t108).drop (1:Int).toNat=y112 from Ny112.out.symm] at hr18);replace hr18:Kd.F (Kd.slice 3 (Kd.int .i64)) _ _ A18 y112.length y112:=(by rw[hA18];exact hr18);(rw[← hy18,← hA18,← hc18] at hcut18);have HO116:=Aside0.mk (show Kd.V (Kd.slice 3 (Kd.int .i64)) 72 _ w.heap.size _ (.slice A18 y112.length c18) y112 from Kd.V_mk (by rw[hy18,hc18];exact Nat.sub_le_sub_right hroom18 _) hr18);have HC116:=Aside0.mk (show y112.length≤c18 from by rw[hy18,hc18];exact Nat.sub_le_sub_right hroom18 _);clear hr18 hC18 hroom18 hi018 hsz18 hc18;have KY18:=Aside0.mk hy18;have KA18:=Aside0.mk hA18;clear hy18 hA18;replace q18:=eq_true q18;(refine start_ (n:=11) (S:=fun w'=>w'.cell? ad111=some (.slice A111_0 (rd_L16 t108 0).length c111_0)) (ds:=[]) (bm_ 11 0) (by kernel_rfl) rfl rfl (hx111_0) (fun hHeld=>?_);refine with_tabW sennitref08_Chunks.tab7 sennitref08_Chunks.bits7 (fun HT_ HW_=>?_));(generalize w15.drew=w16 at HO0 HO1 HO107 HO110 HB HL111_0 HO116 HR111_0 hx111_0 hHeld ⊢);refine pq_ (i:=0) (N:=some 25) (hc:=any_of HT_.out (by kernel_rfl)) (bm_ 11 1) ?_;refine pq_ (i:=1) (N:=some 26) (hc:=any_of HT_.out (by kernel_rfl)) (bm_ 11 3) ?_;refine pq_ (i:=3) (N:=some 28) (hc:=any_of HT_.out (by kernel_rfl)) (bm_ 11 11) ?_;refine pq_ (i:=4) (N:=some 29) (hc:=any_of HT_.out (by kernel_rfl)) (bm_ 11 27) ?_;refine tq_ (i:=2) (N:=some 27) (hc:=take_ofW HT_.out HW_.out (by kernel_rfl)) (bm_ 11 31) hHeld ?_
     refine one_ (i:=5) (N:=some 30) (bm_ 11 63) rfl rfl (one_of HT_.out (by kernel_rfl)) (by decide) (fun K hK=>?_);refine goes_ Tryz.func41 (by kernel_rfl) rfl #[.slice A111_0 (rd_L16 t108 0).length c111_0, .slice A18 y112.length c18] (by rfl) rfl rfl am_ ?_;(with_reducible refine(sennitref05_Matches.calls k _ _ (rd_L16 t108 0) _ _ y112 t117 t118 _ ?side1 ?side2 ?side3 ?side4 A9.out).mono ?_);(case side1=>exact pC_ HR111_0.out);(case side2=>exact HC111_0.out);(case side3=>repeat(first|exact(Kd.V_reads' HO116.out).2.2|(with_reducible refine Kd.C_alloc ?_ _)|(with_reducible refine Kd.C_drewN ?_ _)|(with_reducible refine Kd.C_drew ?_)));(case side4=>exact(Kd.V_reads' HO116.out).2.1);rintro e w19 ⟨v119,v121,rfl,ho0,ho1,hb⟩;have HS0_:=(hb.cell (World.block_lt_of_cell? _ _ (hHeld))).trans (hHeld);refine⟨_,rfl,?_⟩;replace HO0:=Aside0.mk (Kd.V_mono (Kd.V_told (Kd.V_told (Kd.V_old (pV_ HO0.out) hb) (Kd.R_base ho0)) (Kd.N_base (nb_ ho1))) (fun _ h_=>h_.1));replace HO1:=Aside0.mk (Kd.V_mono (Kd.V_told (Kd.V_told (Kd.V_old (pV_ HO1.out) hb) (Kd.R_base ho0)) (Kd.N_base (nb_ ho1))) (fun _ h_=>h_.1));replace HL111_0:=Aside0.mk (Kd.V_mono (Kd.V_told (Kd.V_told (Kd.V_old (pV_ HL111_0.out) hb) (Kd.R_base ho0)) (Kd.N_base (nb_ ho1))) (fun _ h_=>h_.1));replace HO116:=Aside0.mk (Kd.V_mono (Kd.V_told (Kd.V_told (Kd.V_old (pV_ HO116.out) hb) (Kd.R_base ho0)) (Kd.N_base (nb_ ho1))) (fun _ h_=>h_.1));have HO120:=Aside0.mk (Kd.R_lower (Kd.R_newM (M:=fun k_=>(w.heap.size≤k_)) ho0 (below_size bel_) (fun k_ h_=>h_)) (below_size bel_));have HO122:=Aside0.mk (Kd.N_lower (Kd.N_mono (ok':=fun k_=>((P0_ k_∨P1_ k_)∨w.heap.size≤k_)∧some k_≠(v119:Value).ownBlock∧some k_≠(.slice Ao14 y105.length co14:Value).ownBlock∧some k_≠(.slice (some ad111) t108.length co17:Value).ownBlock) (Kd.S_N (Kd.S_bound ho1)) (fun k_ hk_=>⟨(.inr (Nat.le_trans (below_size bel_) hk_.2.1)),hk_.1,(Kd.fresh' (Kd.N_lt (pN_ HO107.out)) k_ hk_.2.1),(Kd.fresh' (Kd.N_lt (pN_ HO110.out)) k_ hk_.2.1)⟩)) (below_size bel_));replace HO107:=Aside0.mk (Kd.N_mono (Kd.N_told (Kd.N_told (Kd.N_old (pN_ HO107.out) hb) (Kd.R_base ho0)) (Kd.N_base (nb_ ho1))) (fun _ h_=>h_.1));replace HO110:=Aside0.mk (Kd.N_mono (Kd.N_told (Kd.N_told (Kd.N_old (pN_ HO110.out) hb) (Kd.R_base ho0)) (Kd.N_base (nb_ ho1))) (fun _ h_=>h_.1));replace HR111_0:=Aside0.mk (Kd.C_below (pC_ HR111_0.out) hb);replace HB:=Aside0.mk (below_step bel_ hb);(try clear hb);(try clear hb2);(try clear hk);(try clear hi);(try clear ho0);(try clear ho1);refine hK.out _ _ (HS0_) (fun hHeld=>?_);clear hK K;refine nq_ (N:=some 30) ?_;refine pq_ (i:=6) (N:=some 24) (hc:=any_of HT_.out (by kernel_rfl)) (bm_ 11 127) ?_;refine pure_ (i:=7) (N:=some 31) (v:=?_) (a':=?_) (bm_ 11 255) rfl rfl (any_of HT_.out (by kernel_rfl)) (fun _ _ _ h=>h) (Or.inl ⟨by rfl,?_⟩) ?_ ?_;rotate_left
     (· intro w';go_simp;(with_reducible rfl));rotate_left;(· simp only[Act.put,List.setIfInBounds_toArray,List.set_cons_zero,List.set_cons_succ,i64_w,i32_w];rfl);refine pq_ (i:=8) (N:=some 32) (hc:=any_of HT_.out (by kernel_rfl)) (bm_ 11 511) ?_;refine pq_ (i:=9) (N:=some 9) (hc:=any_of HT_.out (by kernel_rfl)) (bm_ 11 1023) ?_;refine pq_ (i:=10) (N:=some 10) (hc:=any_of HT_.out (by kernel_rfl)) (bm_ 11 2047) ?_;refine done_ (done_of HT_.out (by kernel_rfl)) ?_;obtain⟨Ao20,co20,eo20⟩:=Kd.R_slice HO120.out;subst eo20;obtain⟨Ao21,co21,eo21⟩:=Kd.N_slice HO122.out;subst eo21
     (try go_wp2_with (first|((with_reducible refine gate_callee (f:=42) rfl ?_);refine goesL_ (some 37) rfl rfl Tryz.func42 (by kernel_rfl) rfl #[.int .i64 (l0.length:Int), .slice Ao20 t117.length co20, .slice Ao21 t118.length co21] rfl am_ ?_;(with_reducible refine(sennitref05_Align.calls (l0.length:Int) _ _ t117 _ _ t118 t123 t126 _ ?side1 ?side2 ?side3 ?side4 A10.out).mono ?_);(case side1=>repeat(first|exact(Kd.R_reads' HO120.out).2.2|(with_reducible refine Kd.C_alloc ?_ _)|(with_reducible refine Kd.C_drewN ?_ _)|(with_reducible refine Kd.C_drew ?_)));(case side2=>exact(Kd.R_reads' HO120.out).2.1);(case side3=>repeat(first|exact(Kd.N_reads' HO122.out).2.2|(with_reducible refine Kd.C_alloc ?_ _)|(with_reducible refine Kd.C_drewN ?_ _)|(with_reducible refine Kd.C_drew ?_)));(case side4=>exact(Kd.N_reads' HO122.out).2.1);rintro e w22 ⟨v124,rfl,ho0,hb⟩;refine⟨_,rfl,?_⟩;replace HO0:=Aside0.mk (Kd.V_elder' (pV_ HO0.out) (Kd.N_base (nb_ ho0)) hb);replace HO1:=Aside0.mk (Kd.V_elder' (pV_ HO1.out) (Kd.N_base (nb_ ho0)) hb);replace HL111_0:=Aside0.mk (Kd.V_elder' (pV_ HL111_0.out) (Kd.N_base (nb_ ho0)) hb);replace HO116:=Aside0.mk (Kd.V_elder' (pV_ HO116.out) (Kd.N_base (nb_ ho0)) hb);have HO125:=Aside0.mk (Kd.N_lower (Kd.N_mono (ok':=fun k_=>((P0_ k_∨P1_ k_)∨w.heap.size≤k_)∧some k_≠(.slice Ao14 y105.length co14:Value).ownBlock∧some k_≠(.slice (some ad111) t108.length co17:Value).ownBlock∧some k_≠(.slice Ao20 t117.length co20:Value).ownBlock∧some k_≠(.slice Ao21 t118.length co21:Value).ownBlock) ho0 (fun k_ hk_=>⟨(.inr (Nat.le_trans (below_size bel_) hk_)),(Kd.fresh' (Kd.N_lt (pN_ HO107.out)) k_ hk_),(Kd.fresh' (Kd.N_lt (pN_ HO110.out)) k_ hk_),(Kd.fresh' (Kd.R_lt (pR_ HO120.out)) k_ hk_),(Kd.fresh' (Kd.N_lt (pN_ HO122.out)) k_ hk_)⟩)) (below_size bel_));replace HO107:=Aside0.mk (Kd.N_elder' (pN_ HO107.out) (Kd.N_base (nb_ ho0)) hb);replace HO110:=Aside0.mk (Kd.N_elder' (pN_ HO110.out) (Kd.N_base (nb_ ho0)) hb);replace HO120:=Aside0.mk (Kd.R_below (pR_ HO120.out) hb);replace HO122:=Aside0.mk (Kd.N_elder' (pN_ HO122.out) (Kd.N_base (nb_ ho0)) hb);replace HR111_0:=Aside0.mk (Kd.C_below (pC_ HR111_0.out) hb);replace HB:=Aside0.mk (below_step bel_ hb);(try clear hb);(try clear hb2);(try clear hk);(try clear hi);(try clear ho0))));go_ret2;exact⟨_,ew_,Kd.N_mono (pN_ HO125.out) (fun _ hk=>hk.1),bel_⟩
    (· exact nx_ c8 H)
   (· exact nx_ c7 H)
  (· exact nx_ c5 H)
 (· (rw[if_neg c4] at H);have c4b0:(t101 == 0)=false:=beq_eq_false_iff_ne.mpr c4;have c4b1:(t101 != 0)=true:=bne_iff_ne.mpr c4;(simp only[Option.some.injEq,Prod.mk.injEq] at H);obtain⟨rfl,rfl⟩:=H;go_enter Tryz.func16,Tryz.ntmps16;(go_wp2_with (first|((with_reducible refine gate_callee (f:=39) rfl ?_);refine goesL_ (some 13) rfl rfl Tryz.func39 (by kernel_rfl) rfl #[.slice A0 l0.length c0, .slice A1 l1.length c1] rfl am_ ?_;(with_reducible refine(sennitref08_wrong.calls k _ _ l0 _ _ l1 t101 _ ?side1 ?side2 ?side3 ?side4 A3.out).mono ?_);(case side1=>repeat(first|exact(Kd.V_reads' HO0.out).2.2|(with_reducible refine Kd.C_alloc ?_ _)|(with_reducible refine Kd.C_drewN ?_ _)|(with_reducible refine Kd.C_drew ?_)));(case side2=>exact(Kd.V_reads' HO0.out).2.1);(case side3=>repeat(first|exact(Kd.V_reads' HO1.out).2.2|(with_reducible refine Kd.C_alloc ?_ _)|(with_reducible refine Kd.C_drewN ?_ _)|(with_reducible refine Kd.C_drew ?_)));(case side4=>exact(Kd.V_reads' HO1.out).2.1);rintro e w' ⟨rfl,⟨nd,rfl⟩⟩;refine⟨_,rfl,?_⟩)));go_ret2;exact⟨_,ew_,by first|exact Kd.S_nil _ _ _ _ _|exact Kd.N_nil _ _ _ _ _|exact Kd.V_nil _ _ _ _ _|exact Kd.Q_nil _ _ _ _ _|exact Kd.R_nil _ _ _ _ _,bel_⟩)
end Go.Proofs.YtbbhdbeaikclcaaGreat.X
namespace Go.Proofs.YtbbhdbeaikclcaaGreat.X
open Go.RowKit Go.Proofs.YtbbhdbeaikclcaaGreatW.PrintWords Go.Proofs.YtbbhdbeaikclcaaGreatW.PrintLast Go.Proofs.YtbbhdbeaikclcaaGreatW.PrintMore
def eqP (p q:Piece):Bool:=decide (p.f0=q.f0∧p.f1=q.f1∧p.f2=q.f2∧p.f3=q.f3)
theorem eqP_iff {p q:Piece}:eqP p q=true↔p=q:=by
 rw[eqP,decide_eq_true_eq];constructor;(· rintro⟨h0,h1,h2,h3⟩;(cases p;cases q);(dsimp only at h0 h1 h2 h3);rw[h0,h1,h2,h3]);(· (rintro rfl;exact⟨rfl,rfl,rfl,rfl⟩))
def eqPs:List Piece→List Piece→Bool
  | [],[]=>true
  | p :: a,q :: b=>eqP p q && eqPs a b
  | _,_=>false
theorem eqPs_iff : ∀ {a b:List Piece},eqPs a b=true↔a=b
 | [],[]=>by simp[eqPs]
 | [],q :: b=>by simp[eqPs]
 | p :: a,[]=>by simp[eqPs]
 | p :: a,q :: b=>by rw[eqPs,Bool.and_eq_true,eqP_iff,eqPs_iff,List.cons.injEq]
def lowP (l:List Piece):Prop:=l.length≤1000000 ∧ ∀ p ∈ l,p.f1.length≤1000000∧p.f2.length≤1000000∧p.f3.length≤1000000 ∧ ∀ y ∈ p.f3,y.length≤1000000
instance (l:List Piece):Decidable (lowP l):=by unfold lowP;infer_instance
def sennitref07_Same.f (l0 l1:List (S66)):Option (Bool):=if eqPs l0 l1=true∧lowP l0 then some true else none
theorem same07_self {l:List Piece} (h:lowP l):sennitref07_Same.f l l=some true:=by rw[sennitref07_Same.f,if_pos ⟨eqPs_iff.2 rfl,h⟩]
theorem ref_all06 (l:List (List ByteArray)) (h1:l.length≤1000000) (h2 : ∀ y ∈ l,y.length≤1000000):Gives (fun k=>sennitref06_All.f k l l) true:=by
 have key : ∀ (r i:Nat),i+r=l.length→Gives (fun k=>sennitref06_All.l0 k l l (i:Int)) true:=by
  intro r
  induction r with
  | zero =>
   intro i hi;(refine Gives.of fun k=>?_);show sennitref06_All.l0 (k+1) l l (i:Int)=_;rw[sennitref06_All.l0,if_neg (by omega)]
  | succ r ih =>
   intro i hi;(have hil:i < l.length:=by omega);have hs:=ref_same01 l[i] l[i] (by have:=h2 _ (List.getElem_mem hil);omega);(rw[decide_eq_true rfl] at hs);(refine Gives.call hs (ih (i+1) (by omega)) fun k hk=>?_);show sennitref06_All.l0 (k+1) l l (i:Int)=_;have hr:rd_L1 l (i:Int)=l[i]:=getN hil;rw[sennitref06_All.l0,if_pos (by omega),if_pos (by omega),if_pos (by omega),hr,hk,Option.bind_some,if_pos rfl,gw1 (by omega)]
 (refine(key l.length 0 (by omega)).same fun k=>?_);show sennitref06_All.f k l l=_;(rw[sennitref06_All.f,if_pos rfl];rfl)
theorem sennitref07_Same.calls (A0:Option Addr) (c0:Nat) (l0:List (S66)) (A1:Option Addr) (c1:Nat) (l1:List (S66)) (r:Bool) (w:World) (hr0:Kd.C k66 w A0 l0.length l0) (hc0:l0.length≤c0) (hr1:Kd.C k66 w A1 l1.length l1) (hc1:l1.length≤c1) (h:sennitref07_Same.f l0 l1=some r) :
    Calls Tryz.prog 20 #[.slice A0 l0.length c0, .slice A1 l1.length c1] w fun e w'=>e = .returned (.bool r)∧Below w.heap.size w w':=by
 (unfold sennitref07_Same.f at h);(split at h)
 ·
  rename_i hh;obtain⟨he,hlow⟩:=hh;obtain rfl:=eqPs_iff.1 he;obtain rfl:=Option.some.inj h;clear he h;have HC0:=Aside0.mk hr0;have HC1:=Aside0.mk hr1;have hl:=hlow.1;have HL:=Aside0.mk hlow.2;clear hr0 hr1 hlow;go_enter Tryz.func20,Tryz.ntmps20;(go_wp2_with fail)
  go_loopw [5] (fun iv wr => ∃ (k:Nat),iv = .int .i64 k∧k≤l0.length∧Aside0 (Below w.heap.size w wr)) (fun iv _=>l0.length - (intOf iv).toNat)
  (case atStart=>exact⟨0,rfl,Nat.zero_le _,⟨Below.refl _ _⟩⟩)
  case round =>
   obtain⟨k,rfl,hk,HB⟩:=hrel
   by_cases hlt:k < l0.length
   ·
    obtain⟨ad,B1,d1,B2,d2,B3,d3,rfl,x0,x1,x2,x3,m1,g1,m2,g2,m3,g3⟩:=at_T66 HC0.out (k:Int) (by omega) (by omega);obtain⟨ae,D1,f1,D2,f2,D3,f3,rfl,y0,y1,y2,y3,n1,q1,n2,q2,n3,q3⟩:=at_T66 HC1.out (k:Int) (by omega) (by omega);have hx:rd_T66 l0 (k:Int)=l0[k]:=getN hlt;obtain⟨x,hxe⟩ : ∃ x,l0[k]=x:=⟨_,rfl⟩;have hlx:=HL.out _ (List.getElem_mem hlt);(rw[hxe] at hlx);(rw[hx,hxe] at x0 x1 x2 x3 m1 g1 m2 g2 m3 g3 y0 y1 y2 y3 n1 q1 n2 q2 n3 q3);(have kk:(k:Int).toNat=k:=by omega);(rw[kk] at x0 x1 x2 x3 y0 y1 y2 y3);obtain⟨K1,H1⟩:=ref_same01 x.f1 x.f1 (by omega);obtain⟨K2,H2⟩:=ref_same01 x.f2 x.f2 (by omega);obtain⟨K3,H3⟩:=ref_all06 x.f3 (by omega) hlx.2.2.2;have S1:Aside0 (sennitref01_Same.f K1 x.f1 x.f1=some true):=⟨(H1 K1 (Nat.le_refl _)).trans (by rw[decide_eq_true rfl])⟩;have S2:Aside0 (sennitref01_Same.f K2 x.f2 x.f2=some true):=⟨(H2 K2 (Nat.le_refl _)).trans (by rw[decide_eq_true rfl])⟩;have S3:Aside0 (sennitref06_All.f K3 x.f3 x.f3=some true):=⟨H3 K3 (Nat.le_refl _)⟩;have M1:=Aside0.mk m1;have M2:=Aside0.mk m2;have M3:=Aside0.mk m3;have N1:=Aside0.mk n1;have N2:=Aside0.mk n2;have N3:=Aside0.mk n3;have G1:=Aside0.mk g1;have G2:=Aside0.mk g2;have G3:=Aside0.mk g3;have Q1:=Aside0.mk q1;have Q2:=Aside0.mk q2;have Q3:=Aside0.mk q3;(have kp : ∀ (a:Addr) (u:Value),w.cell? a=some u → ∀ w',Below w.heap.size w w'→w'.cell? a=some u:=fun a u hu w' hb=>(hb.cell (World.block_lt_of_cell? w _ hu)).trans hu);have X0:=Aside0.mk (kp _ _ x0);have X1:=Aside0.mk (kp _ _ x1);have X2:=Aside0.mk (kp _ _ x2);have X3:=Aside0.mk (kp _ _ x3);have Y0:=Aside0.mk (kp _ _ y0);have Y1:=Aside0.mk (kp _ _ y1);have Y2:=Aside0.mk (kp _ _ y2);have Y3:=Aside0.mk (kp _ _ y3);clear kk hx hxe hlx H1 H2 H3 m1 g1 m2 g2 m3 g3 n1 q1 n2 q2 n3 q3 x0 x1 x2 x3 y0 y1 y2 y3 kp;obtain⟨b,hb⟩ : ∃ b,x.f0=b:=⟨_,rfl⟩;(rw[hb] at X0 Y0);(have c1:(b != b)=false:=by simp);(have c2:(b == b)=true:=by simp);clear hb;(go_wp2_with fail);refine start_ (n:=53) (S:=fun w'=>w'.cell? (ad.add (k * 4))=some (.bool b)∧w'.cell? ⟨(ad.add (k * 4)).block,(ad.add (k * 4)).off+1,none⟩=some (.slice B1 x.f1.length d1)∧w'.cell? ⟨(ad.add (k * 4)).block,(ad.add (k * 4)).off+2,none⟩=some (.slice B2 x.f2.length d2)∧w'.cell? ⟨(ad.add (k * 4)).block,(ad.add (k * 4)).off+3,none⟩=some (.slice B3 x.f3.length d3)∧w'.cell? (ae.add (k * 4))=some (.bool b)∧w'.cell? ⟨(ae.add (k * 4)).block,(ae.add (k * 4)).off+1,none⟩=some (.slice D1 x.f1.length f1)∧w'.cell? ⟨(ae.add (k * 4)).block,(ae.add (k * 4)).off+2,none⟩=some (.slice D2 x.f2.length f2)∧w'.cell? ⟨(ae.add (k * 4)).block,(ae.add (k * 4)).off+3,none⟩=some (.slice D3 x.f3.length f3)) (ds:=[]) (bm_ 53 0) (by kernel_rfl) rfl rfl ⟨X0.out _ HB.out.drew,X1.out _ HB.out.drew,X2.out _ HB.out.drew,X3.out _ HB.out.drew,Y0.out _ HB.out.drew,Y1.out _ HB.out.drew,Y2.out _ HB.out.drew,Y3.out _ HB.out.drew⟩ (fun hHeld=>?_);refine pq_ (i:=0) (N:=some 17) (bm_ 53 1) ?_;refine pq_ (i:=1) (N:=some 18) (bm_ 53 3) ?_;refine pq_ (i:=2) (N:=some 19) (bm_ 53 7) ?_;refine pure_ (i:=3) (N:=some 20) (v:=?_) (a':=?_) (bm_ 53 15) rfl rfl (by kernel_rfl) (fun _ _ _ h=>h) (Or.inl ⟨by rfl,?_⟩) ?_ ?_;rotate_left;(· intro w';go_simp;(with_reducible rfl));rotate_left
    (· simp only[Act.put,List.setIfInBounds_toArray,List.set_cons_zero,List.set_cons_succ,i64_w,i32_w];rfl);refine pq_ (i:=5) (N:=some 22) (bm_ 53 47) ?_;refine pq_ (i:=6) (N:=some 23) (bm_ 53 111) ?_;refine pq_ (i:=7) (N:=some 24) (bm_ 53 239) ?_;refine pq_ (i:=8) (N:=some 25) (bm_ 53 495) ?_;refine tq_ (i:=4) (N:=some 21) (bm_ 53 511) hHeld ?_;refine tq_ (i:=9) (N:=some 26) (bm_ 53 1023) hHeld ?_;refine pq_ (i:=10) (N:=some 27) (bm_ 53 2047) ?_;refine pq_ (i:=11) (N:=some 28) (bm_ 53 4095) ?_
    refine pq_ (i:=12) (N:=some 29) (bm_ 53 8191) ?_;refine pq_ (i:=13) (N:=some 30) (bm_ 53 16383) ?_;refine pq_ (i:=14) (N:=some 31) (bm_ 53 32767) ?_;refine pq_ (i:=15) (N:=some 32) (bm_ 53 65535) ?_;refine pq_ (i:=17) (N:=some 34) (bm_ 53 196607) ?_;refine pq_ (i:=18) (N:=some 35) (bm_ 53 458751) ?_;refine pq_ (i:=19) (N:=some 36) (bm_ 53 983039) ?_;refine pq_ (i:=20) (N:=some 37) (bm_ 53 2031615) ?_;refine tq_ (i:=16) (N:=some 33) (bm_ 53 2097151) hHeld ?_
    refine tq_ (i:=21) (N:=some 38) (bm_ 53 4194303) hHeld ?_;refine one_ (i:=22) (N:=some 39) (bm_ 53 8388607) rfl rfl (by kernel_rfl) (by decide) (fun K hK=>?_);refine goes_ Tryz.func26 (by kernel_rfl) rfl #[.slice B1 x.f1.length d1, .slice D1 x.f1.length f1] (by rfl) rfl rfl (by simp only[List.map_toArray,List.map_cons,List.map_nil];rfl) ?_;(with_reducible refine(sennitref01_Same.calls K1 B1 d1 x.f1 D1 f1 x.f1 true _ (Kd.C_below G1.out HB.out.drew) M1.out (Kd.C_below Q1.out HB.out.drew) N1.out S1.out).mono ?_);rintro e w3' ⟨rfl,n3,hn3⟩;obtain⟨w3,hw3⟩ : ∃ w3,w3=w3':=⟨_,rfl⟩;rw[← hw3];(rw[← hw3] at hn3);refine⟨_,rfl,?_⟩;have HB3:Aside0 (Below w.heap.size w w3):=⟨by rw[hn3];exact pw_below_drewN HB.out.drew n3⟩;clear hn3 hw3;refine hK.out _ _ ⟨X0.out _ HB3.out,X1.out _ HB3.out,X2.out _ HB3.out,X3.out _ HB3.out,Y0.out _ HB3.out,Y1.out _ HB3.out,Y2.out _ HB3.out,Y3.out _ HB3.out⟩ (fun hHeld=>?_);clear hK K;refine nq_ (N:=some 39) ?_;refine pq_ (i:=23) (N:=some 40) (bm_ 53 16777215) ?_;refine pq_ (i:=24) (N:=some 41) (bm_ 53 33554431) ?_;refine pq_ (i:=25) (N:=some 42) (bm_ 53 67108863) ?_;refine pq_ (i:=26) (N:=some 43) (bm_ 53 134217727) ?_;refine pq_ (i:=27) (N:=some 44) (bm_ 53 268435455) ?_;refine pq_ (i:=28) (N:=some 45) (bm_ 53 536870911) ?_
    refine pq_ (i:=29) (N:=some 46) (bm_ 53 1073741823) ?_;refine pq_ (i:=31) (N:=some 48) (bm_ 53 3221225471) ?_;refine pq_ (i:=32) (N:=some 49) (bm_ 53 7516192767) ?_;refine pq_ (i:=33) (N:=some 50) (bm_ 53 16106127359) ?_;refine pq_ (i:=34) (N:=some 51) (bm_ 53 33285996543) ?_;refine tq_ (i:=30) (N:=some 47) (bm_ 53 34359738367) hHeld ?_;refine tq_ (i:=35) (N:=some 52) (bm_ 53 68719476735) hHeld ?_;refine one_ (i:=36) (N:=some 53) (bm_ 53 137438953471) rfl rfl (by kernel_rfl) (by decide) (fun K hK=>?_);refine goes_ Tryz.func26 (by kernel_rfl) rfl #[.slice B2 x.f2.length d2, .slice D2 x.f2.length f2] (by rfl) rfl rfl (by simp only[List.map_toArray,List.map_cons,List.map_nil];rfl) ?_;(with_reducible refine(sennitref01_Same.calls K2 B2 d2 x.f2 D2 f2 x.f2 true _ (Kd.C_below G2.out HB3.out) M2.out (Kd.C_below Q2.out HB3.out) N2.out S2.out).mono ?_);rintro e w4' ⟨rfl,n4,hn4⟩;obtain⟨w4,hw4⟩ : ∃ w4,w4=w4':=⟨_,rfl⟩;rw[← hw4];(rw[← hw4] at hn4);refine⟨_,rfl,?_⟩;have HB4:Aside0 (Below w.heap.size w w4):=⟨by rw[hn4];exact pw_below_drewN HB3.out n4⟩;clear hn4 hw4;refine hK.out _ _ ⟨X0.out _ HB4.out,X1.out _ HB4.out,X2.out _ HB4.out,X3.out _ HB4.out,Y0.out _ HB4.out,Y1.out _ HB4.out,Y2.out _ HB4.out,Y3.out _ HB4.out⟩ (fun hHeld=>?_);clear hK K;refine nq_ (N:=some 53) ?_
    refine pq_ (i:=37) (N:=some 54) (bm_ 53 274877906943) ?_;refine pq_ (i:=38) (N:=some 55) (bm_ 53 549755813887) ?_;refine pq_ (i:=39) (N:=some 56) (bm_ 53 1099511627775) ?_;refine pq_ (i:=40) (N:=some 57) (bm_ 53 2199023255551) ?_;refine pq_ (i:=41) (N:=some 58) (bm_ 53 4398046511103) ?_;refine pq_ (i:=42) (N:=some 59) (bm_ 53 8796093022207) ?_;refine pq_ (i:=43) (N:=some 60) (bm_ 53 17592186044415) ?_;refine pq_ (i:=45) (N:=some 62) (bm_ 53 52776558133247) ?_;refine pq_ (i:=46) (N:=some 63) (bm_ 53 123145302310911) ?_
    refine pq_ (i:=47) (N:=some 64) (bm_ 53 263882790666239) ?_;refine pq_ (i:=48) (N:=some 65) (bm_ 53 545357767376895) ?_;refine tq_ (i:=44) (N:=some 61) (bm_ 53 562949953421311) hHeld ?_;refine tq_ (i:=49) (N:=some 66) (bm_ 53 1125899906842623) hHeld ?_;refine one_ (i:=50) (N:=some 67) (bm_ 53 2251799813685247) rfl rfl (by kernel_rfl) (by decide) (fun K hK=>?_);refine goes_ Tryz.func47 (by kernel_rfl) rfl #[.slice B3 x.f3.length d3, .slice D3 x.f3.length f3] (by rfl) rfl rfl (by simp only[List.map_toArray,List.map_cons,List.map_nil];rfl) ?_;(with_reducible refine(sennitref06_All.calls K3 B3 d3 x.f3 D3 f3 x.f3 true _ (Kd.C_below G3.out HB4.out) M3.out (Kd.C_below Q3.out HB4.out) N3.out S3.out).mono ?_);rintro e w5' ⟨rfl,n5,hn5⟩;obtain⟨w5,hw5⟩ : ∃ w5,w5=w5':=⟨_,rfl⟩;rw[← hw5];(rw[← hw5] at hn5);refine⟨_,rfl,?_⟩;have HB5:Aside0 (Below w.heap.size w w5):=⟨by rw[hn5];exact pw_below_drewN HB4.out n5⟩;clear hn5 hw5;refine hK.out _ _ ⟨X0.out _ HB5.out,X1.out _ HB5.out,X2.out _ HB5.out,X3.out _ HB5.out,Y0.out _ HB5.out,Y1.out _ HB5.out,Y2.out _ HB5.out,Y3.out _ HB5.out⟩ (fun hHeld=>?_);clear hK K;refine nq_ (N:=some 67) ?_;refine pq_ (i:=51) (N:=some 68) (bm_ 53 4503599627370495) ?_;refine pq_ (i:=52) (N:=some 69) (bm_ 53 9007199254740991) ?_;refine done_ (by kernel_rfl) ?_;go_wp2;go_roundw;(case measure=>simp[intOf];omega);(case rel=>exact⟨k+1,by go_num,by omega,HB5⟩)
   (· (have hk':k=l0.length:=by omega);subst hk';clear hk hlt;go_wp2;go_ret;exact⟨rfl,HB.out⟩)
 (· cases h)
end Go.Proofs.YtbbhdbeaikclcaaGreat.X
