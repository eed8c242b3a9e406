/-
  Parts of one proof, one behind the other: XIntern2, XShelf, XStr1, XMn1, XUnion, XPiece, XContains, XMay, XAlign3, XParts, XNormal, XNormal2, XLcs3, XLcs4, XAlign4, XAlign5.
-/
import Derived.Test.YtbbhdbeaikclcaaGreatBMergeChunks5
import Derived.Shelf.Strings.Search1
import Derived.Shelf.Strings.Search2
import Derived.Shelf.Strings.Search3
import Derived.Shelf.LaysM
import Derived.Shelf.Strings.Shaped
import Derived.Shelf.Strings.Prefix
import Derived.Shelf.Bits.Mul64
import Derived.Shelf.Slices.Equal
import Derived.Ground.Names2Prog
import Derived.Shelf.Slices.Clone
import Derived.Shelf.Slices.Empties2
import Derived.Test.YtbbhdbeaikclcaaGreatProg
import Derived.BigRegion
import Derived.WalkMore
import Derived.Handy
import Derived.Laws.NewBlocks
import Derived.Deep.WholeRow
import Derived.Deep.MidRow
import Derived.OwnWalk
import Derived.Laws.CopyOwn
import Derived.StillTailTactics
import Derived.Deep.RegionLaw
set_option linter.unusedVariables false
set_option linter.unusedSimpArgs false
namespace Go.Proofs.YtbbhdbeaikclcaaGreat.X
open Go.RowKit Go.Proofs.YtbbhdbeaikclcaaGreatW.PrintWords Go.Proofs.YtbbhdbeaikclcaaGreatW.PrintLast Go.Proofs.YtbbhdbeaikclcaaGreatW.PrintMore
open Go.Maps
theorem TableIn.same {W W':World} {B g:Nat} {t:List ByteArray} (h:TableIn W B g t) (hh:W'.heap=W.heap):TableIn W' B g t:=by
 obtain ⟨gm,tv,D,h1,h2,h3,h4,h5,h6⟩:=h;obtain ⟨es,cl,h7,h8⟩:=h4;exact ⟨gm,tv,D,by rw [hh];exact h1,h2,h3,⟨es,cl,by rw [hh];exact h7,h8⟩,h5,Kd.R_move h6 (fun k _=>by rw [hh])⟩
theorem TableIn.step {W W':World} {B g:Nat} {t:List ByteArray} (h:TableIn W B g t) (hh : ∀ k,k < W.heap.size→(∀ cells q fr,W.heap[k]? = some (.cells cells q fr)→q=153∨q=9)→W'.heap[k]? = W.heap[k]?):TableIn W' B g t:=by
 obtain ⟨gm,tv,D,h1,h2,h3,h4,h5,h6⟩:=h;obtain ⟨es,cl,h7,h8⟩:=h4;have l7:gm < W.heap.size:=(Array.getElem?_eq_some_iff.1 h7).1;refine ⟨gm,tv,D,(hh g (blk_lt h1) (fun c q fr e=>by rw [h1] at e;cases e;exact .inl rfl)).trans h1,h2,h3,⟨es,cl,(hh gm l7 (fun c q fr e=>by rw [h7] at e;cases e)).trans h7,h8⟩,h5,Kd.R_map h6 (fun k c q fr e hq=>hh k (Array.getElem?_eq_some_iff.1 e).1 (fun c' q' fr' e'=>?_))⟩;(rw [e] at e');cases e';exact .inr (by simpa [Kd.string,Kd.scalar] using hq)
abbrev KI:Kd (List Int):=Kd.slice 3 (Kd.int .i64)
/-- The rows behind k files, and j texts of the next. -/
def rowsAt (files:List (List ByteArray)) (k j:Nat):List (List Int) :=
  idsMany [] (files.take k) ++ (idsOne (tabOf [] (files.take k)) ((files.getD k []).take j)).2 :: List.replicate (files.length - k - 1) []
theorem rowsAt_start (files:List (List ByteArray)) (k:Nat) (h:k < files.length):idsMany [] (files.take k) ++ List.replicate (files.length - k) []=rowsAt files k 0:=by
 (have:files.length - k=(files.length - k - 1)+1:=by omega);rw [rowsAt,this,List.replicate_succ];simp [idsOne]
theorem rowsAt_end (files:List (List ByteArray)) (k:Nat) (h:k < files.length):rowsAt files k (files.getD k []).length=idsMany [] (files.take (k+1)) ++ List.replicate (files.length - (k+1)) []:=by
 have h2:files.take (k+1)=files.take k ++ [files.getD k []]:=by
  (rw [← List.take_append_getElem h];simp [h])
 rw [rowsAt,List.take_length,h2,idsMany_snoc,show files.length - k - 1=files.length - (k+1) by omega];simp
theorem rowsAt_len (files:List (List ByteArray)) (k j:Nat) (h:k < files.length):(rowsAt files k j).length=files.length:=by
 (simp [rowsAt,idsMany_length];omega)
theorem rowsAt_get (files:List (List ByteArray)) (k j:Nat) (h:k < files.length):(rowsAt files k j).getD k []=(idsOne (tabOf [] (files.take k)) ((files.getD k []).take j)).2:=by
 (have hl:(idsMany [] (files.take k)).length=k:=by rw [idsMany_length,List.length_take];omega);rw [rowsAt,List.getD_eq_getElem?_getD,List.getElem?_append_right (by omega),hl];simp
theorem rowsAt_set (files:List (List ByteArray)) (k j:Nat) (h:k < files.length) (hj:j < (files.getD k []).length):(rowsAt files k j).set k ((idsOne (tabOf [] (files.take k)) ((files.getD k []).take j)).2 ++ [(place (files.getD k [])[j] (idsOne (tabOf [] (files.take k)) ((files.getD k []).take j)).1:Int)])=rowsAt files k (j+1):=by
 (have hl:(idsMany [] (files.take k)).length=k:=by rw [idsMany_length,List.length_take];omega);rw [rowsAt,List.set_append_right _ _ (by omega),hl,Nat.sub_self,List.set_cons_zero,rowsAt,← List.take_append_getElem hj,idsOne_snoc]
def tabAt (files:List (List ByteArray)) (k j:Nat):List ByteArray:=(idsOne (tabOf [] (files.take k)) ((files.getD k []).take j)).1
theorem tabAt_step (files:List (List ByteArray)) (k j:Nat) (hj:j < (files.getD k []).length):addT (tabAt files k j) (files.getD k [])[j]=tabAt files k (j+1):=by
 rw [tabAt,tabAt,← List.take_append_getElem hj,idsOne_snoc]
theorem tabAt_end (files:List (List ByteArray)) (k:Nat) (h:k < files.length):tabAt files k (files.getD k []).length=tabOf [] (files.take (k+1)):=by
 have h2:files.take (k+1)=files.take k ++ [files.getD k []]:=by
  (rw [← List.take_append_getElem h];simp [h])
 rw [tabAt,List.take_length,h2,tabOf_snoc]
theorem tabAt_start (files:List (List ByteArray)) (k:Nat):tabAt files k 0=tabOf [] (files.take k):=by
 simp [tabAt,idsOne]
/-- How many texts. -/
def total (files:List (List ByteArray)):Nat:=(files.map List.length).sum
theorem tabOf_le : ∀ (t:List ByteArray) (ls:List (List ByteArray)),(tabOf t ls).length≤t.length+total ls
 | t,[]=>by simp [tabOf,total]
 | t,l :: ls=>by
  have h1:=tabOf_le (idsOne t l).1 ls;have h2:=idsOne_table_le t l;(simp only [tabOf,total,List.map_cons,List.sum_cons] at h1 ⊢);omega
theorem total_take (files:List (List ByteArray)) (k:Nat) (h:k < files.length):total (files.take k)+(files.getD k []).length≤total files:=by
 have h1:files=files.take k ++ files.drop k:=(List.take_append_drop k files).symm;(have h2:files.drop k=files.getD k [] :: files.drop (k+1):=by rw [List.drop_eq_getElem_cons h];simp [h])
 have:total files=total (files.take k)+total (files.drop k):=by
  unfold total;rw [← List.sum_append,← List.map_append,List.take_append_drop]
 rw [this,h2];simp [total]
theorem tabAt_le (files:List (List ByteArray)) (k j:Nat) (h:k < files.length):(tabAt files k j).length≤total files:=by
 have h1:=idsOne_table_le (tabOf [] (files.take k)) ((files.getD k []).take j);have h2:=tabOf_le [] (files.take k);have h3:=total_take files k h;(rw [List.length_take] at h1);(simp only [List.length_nil] at h2);(rw [tabAt];omega)
def intern_All.f (files:List (List ByteArray)):Option (List (List Int)):=if files.length≤1000∧total files≤1000000 ∧ ∀ l ∈ files,∀ s ∈ l,s.size≤maxLen then some (idsAll files) else none
theorem S_types2 {W:World} {B:Nat} {v:Value} {rows:List (List Int)} (h:Kd.S KI 72 W B (fun _=>True) v rows):Kd.S KI 72 W B (fun k => ∃ q,(q=72∨q=3)∧k < W.heap.size ∧ ∃ cells,W.heap[k]? = some (.cells cells q (0,0))) v rows :=
  Kd.S_mono (Kd.S_bound h) (fun k hk=>by
    obtain ⟨_,_,hlt,q,hq,hc⟩:=hk
    refine ⟨q,?_,hlt,hc⟩
    simpa [KI,Kd.slice,Kd.int,Kd.scalar] using hq)
theorem idstep {W W':World} {k:Nat} (hk:IdKeeps W W') (h : ∃ q,(q=72∨q=3)∧k < W.heap.size ∧ ∃ cells,W.heap[k]? = some (.cells cells q (0,0))):W'.heap[k]? = W.heap[k]? := by
 obtain ⟨q,hq,_,cells,hc⟩:=h;rw [hc];exact hk.2 k cells q _ hc (by rcases hq with rfl | rfl <;> decide) (by rcases hq with rfl | rfl <;> decide)
/-- A row appended to, stored back. -/
theorem rows_put {W W3:World} {B go n c2 k:Nat} {v1 v3:Value} {rows:List (List Int)} {row row':List Int} {oki:Nat→Prop}
    (hH:Kd.H KI 72 W B (fun _=>True) (.slice (some ⟨go,0,none⟩) n c2) rows (k:Int) (fun q=>oki q∨True∧W.heap.size≤q) [v1])
    (hv:Kd.R (Kd.int .i64) 3 W B (fun q=>oki q∨W.heap.size≤q) v1 row) (hg:W.grownBy W3 v1.ownBlock)
    (hr:Kd.R (Kd.int .i64) 3 W3 B (fun q=>oki q∨W.heap.size≤q) v3 row') (ho : ∀ q,oki q→q≠go) (hgo:go < W.heap.size) (hn:rows.length=n) (hk:k < n) :
    Kd.S KI 72 (W3.setCell ⟨go,k,none⟩ v3) B (fun _=>True) (.slice (some ⟨go,0,none⟩) n c2) (rows.set k row'):=by
 have h3:=Kd.H_grown hH hg (fun q hq=>by
  rcases hv.1 q hq with h | h
  (· exact .inl h)
  ·
   exact .inr ⟨trivial,h⟩)
 (have hone : ∀ q ∈ [v3],q.oneCell'=true:=fun q hq=>by rw [List.mem_singleton.1 hq];exact (Kd.R_val hr).2);have h4:=(Kd.H_seg h3 (by omega) (by omega) (seg:=[v3]) (j:=0) (by simp [KI,Kd.slice]) hone).1;(have e:(k:Int).toNat * KI.sz+0=k:=by simp [KI,Kd.slice]);(rw [e] at h4)
 have h5:=Kd.H_back (x':=row') (okp:=fun q=>oki q∨W.heap.size≤q) h4 ⟨v3,rfl,Kd.R_far (p:=⟨go,k,none⟩) hr (fun q hq=>by
  rcases hq with h | h
  (· exact ho q h)
  ·
   show q≠go
   omega) _⟩ (fun q hq=>hq.imp id (fun h=>⟨trivial,h⟩))
 (rw [Int.toNat_natCast] at h5);exact h5
theorem table_put {W W3:World} {B g go k:Nat} {t:List ByteArray} {v1 v3:Value} {row:List Int} {okx:Nat→Prop} {gc:Array Value} (h:TableIn W B g t) (hv:Kd.R (Kd.int .i64) 3 W B okx v1 row) (hg:W.grownBy W3 v1.ownBlock)
    (hb:W3.heap[go]? = some (.cells gc 72 (0,0))):TableIn (W3.setCell ⟨go,k,none⟩ v3) B g t:=by
 refine (h.step (W':=W3) (fun q hq ht=>hg.block q hq (fun e=>?_))).step (fun q hq ht=>?_)
 ·
  obtain ⟨cells,hc⟩:=Kd.R_typed hv q e.symm
  rcases ht _ _ _ hc with h | h <;> exact absurd h (by decide)
 ·
  refine heap_set_other (fun e=>?_) _;subst e
  rcases ht _ _ _ hb with h | h <;> exact absurd h (by decide)
set_option maxRecDepth 100000 in
set_option maxHeartbeats 8000000 in
theorem intern_All.calls (A0:Option Addr) (c0:Nat) (l0:List (List ByteArray)) (r:List (List Int)) (w:World) (hr0:Kd.C (Kd.slice 9 Kd.string) w A0 l0.length l0) (hc0:l0.length≤c0) (h:intern_All.f l0=some r) :
    Calls Tryz.prog 35 #[.slice A0 l0.length c0] w fun e w' => ∃ v0_:Value,e = .returned v0_∧Kd.S KI 72 w' w.heap.size (fun _=>True) v0_ r∧Below w.heap.size w w':=by
 have HR0:=Aside0.mk hr0;have HC0:=Aside0.mk hc0;clear hr0 hc0;(unfold intern_All.f at h);(split at h)
 ·
  rename_i hf;obtain ⟨hfl,htot,hsz⟩:=hf;have h:=Option.some.inj h;subst h;have HSZ:=Aside0.mk hsz;clear hsz;obtain ⟨B,hBe⟩ : ∃ B,w.heap.size=B:=⟨_,rfl⟩;have hBw:B≤w.heap.size:=Nat.le_of_eq hBe.symm;have HBe:=Aside0.mk hBe;clear hBe;go_enter Tryz.func35,Tryz.ntmps35;(go_wp2_with fail);refine (intern_New _).mono ?_;rintro e w1 ⟨g,rfl,HT1,HB1⟩;(rw [HBe.out] at HT1 HB1);(go_wp2_with ((with_reducible refine gate_dst (N:=12) rfl ?_);go_loud (refine Kd.S_make KI (w0:=w) B 72 rfl (N:=12) rfl 70 _ _ rfl (l0.length:Int) rfl rfl Tryz.underlying70 (.slice none 0 0) 24 info72 rfl (by decide) (by omega) [] (ok:=fun _=>True) (okp:=fun _=>True) ⟨_,rfl,Kd.R_nil _ _ _ _ _⟩ (fun _ hk=>hk) trivial (by omega) (by omega) HB1.out (Nat.le_trans hBw HB1.out.size) ?_;intro v2 w2 hs2 hb2 hg2 hnew2;have HS2:=Aside0.mk hs2;have HB2:=Aside0.mk hb2;have HT2:Aside0 (TableIn w2 B g []):=⟨HT1.out.step (fun k hk _=>hg2.block k hk (by simp))⟩;have HZ2:=Aside0.mk hg2.size;clear hs2 hb2 hg2 hnew2)));(have hrep : ∀ n:Nat,((n:Int)).toNat=n:=fun n=>Int.toNat_natCast n);(rw [hrep] at HS2);obtain ⟨A2,c2,rfl⟩:=Kd.S_slice HS2.out;have HN:Aside0 ((List.replicate l0.length ([]:List Int)).length=l0.length):=⟨by simp⟩;(rw [HN.out] at HS2 ⊢);clear hrep
  go_loopw [15] (fun i wr => ∃ k:Nat,k≤l0.length∧i = .int .i64 k∧Aside0 (Kd.S KI 72 wr B (fun _=>True) (.slice A2 l0.length c2) (idsMany [] (l0.take k) ++ List.replicate (l0.length - k) []))∧Aside0 (TableIn wr B g (tabOf [] (l0.take k)))∧Aside0 (Below B w wr)) (fun i _=>l0.length - (intOf i).toNat)
  (case atStart=>exact ⟨0,Nat.zero_le _,rfl,by simpa [idsMany] using HS2,HT2,HB2⟩)
  case round =>
   obtain ⟨k,hk,rfl,HS,HT,HB⟩:=hrel
   by_cases hlt:k < l0.length
   ·
    obtain ⟨ad,A5,c5,rfl,hrow,hc5,hC5⟩:=at_slice HR0.out k hlt;replace hrow:=(HB.out.cell (by rw [← HBe.out];exact World.block_lt_of_cell? w _ hrow)).trans hrow
    obtain ⟨go,rfl⟩ : ∃ go,A2=some ⟨go,0,none⟩:=by
     obtain ⟨go,cap,e,_⟩:=Kd.S_form HS.out (by simp [idsMany_length];omega);(injection e with e1 e2 e3);exact ⟨go,e1⟩
    obtain ⟨l,hl⟩ : ∃ l,l0.getD k []=l:=⟨_,rfl⟩;have HL:=Aside0.mk hl;(rw [hl] at hrow hc5 hC5);have HC5:=Aside0.mk hC5;have Hc5:=Aside0.mk hc5;(have hlm:l ∈ l0:=by rw [← hl,getD_get hlt];exact List.getElem_mem hlt);have HLM:=Aside0.mk hlm;have htk:=total_take l0 k hlt;(rw [hl] at htk);clear hC5 hc5 hl hlm;have HW0:=Aside0.mk (HB.out);(go_wp2_with fail)
    go_loopw [22] (fun i wj => ∃ j:Nat,j≤l.length∧i = .int .i64 j∧Aside0 (Kd.S KI 72 wj B (fun _=>True) (.slice (some ⟨go,0,none⟩) l0.length c2) (rowsAt l0 k j))∧Aside0 (TableIn wj B g (tabAt l0 k j))∧Aside0 (Below B w wj)) (fun i _=>l.length - (intOf i).toNat)
    (case atStart=>exact ⟨0,Nat.zero_le _,rfl,by rw [← rowsAt_start l0 k hlt];exact HS,by rw [tabAt_start];exact HT,HB⟩)
    case round =>
     obtain ⟨j,hj,rfl,HSj,HTj,HBj⟩:=hrel;clear HS HT HB
     by_cases hjl:j < l.length
     ·
      obtain ⟨ads,rfl,hstr⟩:=at_str HC5.out j hjl;replace hstr:=(HBj.out.cell (by rw [← HBe.out];exact World.block_lt_of_cell? w _ hstr)).trans hstr;(have hsm:l.getD j ByteArray.empty ∈ l:=by rw [getD_get hjl];exact List.getElem_mem hjl);have hrl:=rowsAt_len l0 k j hlt
      have hrs:(rowsAt l0 k j).set k ((rowsAt l0 k j).getD k [] ++ [(place (l.getD j ByteArray.empty) (tabAt l0 k j):Int)])=rowsAt l0 k (j+1):=by
       rw [rowsAt_get l0 k j hlt,← rowsAt_set l0 k j hlt (by rw [HL.out];exact hjl)]
       congr 3
       simp only [tabAt,HL.out,getD_get hjl]
      have hts:addT (tabAt l0 k j) (l.getD j ByteArray.empty)=tabAt l0 k (j+1):=by
       rw [← tabAt_step l0 k j (by rw [HL.out];exact hjl)];simp only [HL.out,getD_get hjl]
      have hrowlen:((rowsAt l0 k j).getD k []).length≤1000000:=by
       rw [rowsAt_get l0 k j hlt,idsOne_length,List.length_take];omega
      obtain ⟨s,hse⟩ : ∃ s,l.getD j ByteArray.empty=s:=⟨_,rfl⟩;(rw [hse] at hstr hsm hrs hts);have hsz:s.size≤maxLen:=HSZ.out l HLM.out s hsm;obtain ⟨row,hrow2⟩ : ∃ row,(rowsAt l0 k j).getD k []=row:=⟨_,rfl⟩;have HROW:=Aside0.mk hrow2;(rw [hrow2] at hrs hrowlen);have HRS:=Aside0.mk hrs;have HTS:=Aside0.mk hts;have htl:=tabAt_le l0 k j hlt;clear hrs hts hsm hse hrow2;obtain ⟨oki,c,hcl,hM,hcc,hfz,hoki,hH⟩:=Kd.S_elem (S_types2 HSj.out) [] (k:Int) (by omega) (by omega);(rw [Int.toNat_natCast,HROW.out] at hM);obtain ⟨v1,rfl,hv1⟩:=hM;obtain ⟨A1,c1,rfl⟩:=Kd.R_slice hv1
      have hcell:wr.cell? ⟨go,k,none⟩=some (.slice A1 row.length c1):=by
       have:=hcc 0 _ rfl;simpa [KI,Kd.slice] using this
      obtain ⟨gcells,hgb⟩:=Kd.S_typed HSj.out go rfl;have hgo:=blk_lt hgb;have hkg:(k:Int).toNat=k:=Int.toNat_natCast k;have HH:=Aside0.mk hH;have HV1:=Aside0.mk hv1;have HOKI:=Aside0.mk hoki;have HGB:=Aside0.mk hgb;clear hcc hfz hoki hv1 hcl hH hgb hkg;have hBj:B≤wr.heap.size:=Nat.le_trans hBw HBj.out.size;have hkI:((k:Int) < (l0.length:Int))=True:=eq_true (by omega);have hkI0:(0≤(k:Int))=True:=eq_true (by omega);go_wp2;refine start_ (n:=13) (S:=fun w'=>w'.cell? ⟨go,k,none⟩=some (.slice A1 row.length c1)) (ds:=[10,12]) #[false,false,false,false,false,false,false,false,false,false,false,false,false] (by kernel_rfl) rfl rfl (hcell) (fun hHeld=>?_);refine pq_ (i:=0) (N:=some 26) #[true,false,false,false,false,false,false,false,false,false,false,false,false] ?_;refine pq_ (i:=1) (N:=some 27) #[true,true,false,false,false,false,false,false,false,false,false,false,false] ?_;refine pq_ (i:=2) (N:=some 28) #[true,true,true,false,false,false,false,false,false,false,false,false,false] ?_;refine pq_ (i:=3) (N:=some 29) #[true,true,true,true,false,false,false,false,false,false,false,false,false] ?_;refine pq_ (i:=4) (N:=some 30) #[true,true,true,true,true,false,false,false,false,false,false,false,false] ?_;refine pq_ (i:=6) (N:=some 32) #[true,true,true,true,true,false,true,false,false,false,false,false,false] ?_;refine pq_ (i:=7) (N:=some 33) #[true,true,true,true,true,false,true,true,false,false,false,false,false] ?_;refine tq_ (i:=5) (N:=some 31) #[true,true,true,true,true,true,true,true,false,false,false,false,false] hHeld ?_;refine one_ (i:=8) (N:=some 34) #[true,true,true,true,true,true,true,true,true,false,false,false,false] rfl rfl (by kernel_rfl) (by decide) (fun K hK=>?_);refine goes_ Tryz.func67 (by kernel_rfl) rfl #[.pointer (some ⟨g,0,none⟩), .string s] (by rfl) rfl rfl (by simp only [List.map_toArray,List.map_cons,List.map_nil];rfl) ?_;(with_reducible refine (table_Id g B (tabAt l0 k j) s wr.drew (HTj.out.same rfl) hsz (by omega) (by simpa using hBj)).mono ?_);rintro e w2 ⟨rfl,HT2,HB2,HK2⟩;refine ⟨_,rfl,?_⟩;have hg2:w2.heap[go]? = some (.cells gcells 72 (0,0)):=HK2.out.2 go gcells _ _ HGB.out (by decide) (by decide);(have hcell2:w2.cell? ⟨go,k,none⟩=some (.slice A1 row.length c1):=by rw [← hcell];simp only [World.cell?,hg2,HGB.out]);have HG2:=Aside0.mk hg2;have hv2:Kd.R (Kd.int .i64) 3 w2 B (fun q=>oki q∨w2.heap.size≤q) (.slice A1 row.length c1) row:=Kd.R_mono (Kd.R_step HV1.out (fun q hq _=>idstep HK2.out (HOKI.out q hq).1)) (fun q h => .inl h);have HV2:=Aside0.mk hv2;have HH2:=Aside0.mk (Kd.H_widen (Kd.H_mono (Kd.H_step HH.out (fun q hq _ _=>idstep HK2.out hq)) (fun q _=>trivial) (ok':=fun _=>True)));have HBW2:=Aside0.mk (Nat.le_trans hBj HK2.out.1);clear hg2 hv2;refine hK.out _ _ (hcell2) (fun hHeld=>?_);clear hK K;refine nq_ (N:=some 34) ?_;refine one_ (i:=9) (N:=some 35) #[true,true,true,true,true,true,true,true,true,true,false,false,false] rfl rfl (by kernel_rfl) (by decide) (fun K hK=>?_);refine value_ (w1:=?_) (v:=?_) (by rfl) rfl ?_ ?_;rotate_left 2
      ·
       go_simp;constructor;(· rfl);(· rfl)
      refine hK.out _ _ (cell_alloc_of hcell2 _) (fun hHeld=>?_);clear hK K;refine nq_ (N:=some 35) ?_;refine last_ (i:=10) (N:=some 36) #[true,true,true,true,true,true,true,true,true,true,true,false,false] rfl rfl (by kernel_rfl) (by decide) (fun K hK=>?_);refine Kd.R_append_step (Kd.int .i64) (w0:=w2) B (by rfl) (.tmp 31) (.tmp 35) 72 3 (.int .i64 0) 8 rfl Tryz.underlying72 info3 rfl (by decide) (by decide) (.slice A1 row.length c1) row (place s (tabAt l0 k j):Int) [.int .i64 (place s (tabAt l0 k j):Int)] (fun q=>oki q∨w2.heap.size≤q) (fun _=>False) rfl rfl rfl (fun _ h=>h.elim) (fun _ h => .inr h) ?aO (Below.refl _ _) HBW2.out (by omega) ?_;(case aO=>exact HV2.out);intro v3 w3 hr3 hb3 hg3 hat3;obtain ⟨A3,c3,hv3⟩:=Kd.R_slice hr3;subst hv3;have hgn:some go≠(Value.slice A1 row.length c1).ownBlock:=Kd.R_ne HV2.out HG2.out (by decide);have hgo2:go < w2.heap.size:=blk_lt HG2.out;have hg3b:=(hg3.block go hgo2 hgn).trans HG2.out;(have hcell3:w3.cell? ⟨go,k,none⟩=some (.slice A1 row.length c1):=by rw [← hcell2];simp only [World.cell?,hg3b,HG2.out]);have hfr3:w3.frozen? ⟨go,k,none⟩=false:=frozen_of_row _ _ _ _ _ hg3b;have HR3:=Aside0.mk hr3;have HB3:=Aside0.mk hb3;have HG3:=Aside0.mk hg3;have HG3B:=Aside0.mk hg3b;clear hr3 hb3 hg3 hg3b hat3 hgn hcell2;refine hK.out _ _ ?_;clear hK K;refine nq_ (N:=some 36) ?_;refine pq_ (i:=11) (N:=some 37) #[true,true,true,true,true,true,true,true,true,true,true,true,false] ?_;refine last_ (i:=12) (N:=none) #[true,true,true,true,true,true,true,true,true,true,true,true,true] rfl rfl (by kernel_rfl) (by decide) (fun K hK=>?_);refine skip_ (w1:=?_) (by rfl) rfl ?_ ?_;rotate_left;(· go_simp;rfl);refine hK.out _ _ ?_;clear hK K;refine done_ (by kernel_rfl) ?_;clear hcell hcell3 hfr3;go_wp2;go_roundw;(case measure=>simp [intOf];omega)
      case rel =>
       have hr3':=HR3.out;(rw [List.length_append,List.length_singleton] at hr3');refine ⟨j+1,by omega,by go_num,?_,?_,?_⟩;(· exact ⟨by rw [← HRS.out];exact rows_put HH2.out HV2.out HG3.out hr3' (fun q hq=>(HOKI.out q hq).2) hgo2 hrl hlt⟩);(· exact ⟨by rw [← HTS.out];exact table_put HT2.out HV2.out HG3.out HG3B.out⟩);(· exact ⟨((HBj.out.drew.trans HB2.out).trans HB3.out).setCell (p:=⟨go,k,none⟩) (Kd.S_base HSj.out go rfl) _⟩)
     (· (have hj':j=l.length:=by omega);subst hj';go_wp2;go_roundw;(case measure=>simp [intOf];omega);(case rel=>exact ⟨k+1,by omega,by go_num,by rw [← rowsAt_end l0 k hlt,HL.out];exact HSj,by rw [← tabAt_end l0 k hlt,HL.out];exact HTj,HBj⟩))
   (· (have hk':k=l0.length:=by omega);subst hk';go_wp2;go_ret;exact ⟨_,rfl,by simpa [idsAll,HBe.out] using HS.out,by rw [HBe.out];exact HB.out⟩)
 (· cases h)
end Go.Proofs.YtbbhdbeaikclcaaGreat.X
namespace Go.Proofs
open Go.Shelf
def Tryz.lays143_ren:Go.Shelf.Ren:=⟨fun | 143=>93 | 219=>107 | 217=>118 | 225=>119 | 224=>120 | 267=>121 | 266=>128 | 314=>129 | n=>n,fun | 9=>9 | 3=>3 | 4=>4 | 5=>5 | 46=>157 | 146=>170 | 51=>108 | n=>n,fun | 1=>0 | n=>n⟩
theorem Tryz.lays143:Go.Proofs.Lays.n143 Tryz.prog Tryz.lays143_ren:={
  mixed:=by kernel_rfl
  f143:=Tryz.func93.trans (congrArg some (by kernel_rfl))
  f217:=Tryz.func118.trans (congrArg some (by kernel_rfl))
  f219:=Tryz.func107.trans (congrArg some (by kernel_rfl))
  f224:=Tryz.func120.trans (congrArg some (by kernel_rfl))
  f225:=Tryz.func119.trans (congrArg some (by kernel_rfl))
  f266:=Tryz.func128.trans (congrArg some (by kernel_rfl))
  f267:=Tryz.func121.trans (congrArg some (by kernel_rfl))
  f314:=Tryz.func129.trans (congrArg some (by kernel_rfl))
  t3:=Tryz.underlying3
  a3:=Tryz.isAgg3
  z3:=Tryz.sizeOf3
  v3:=Tryz.zeroValue3
  t4:=Tryz.underlying4
  a4:=Tryz.isAgg4
  z4:=Tryz.sizeOf4
  v4:=Tryz.zeroValue4
  t5:=Tryz.underlying5
  a5:=Tryz.isAgg5
  z5:=Tryz.sizeOf5
  v5:=Tryz.zeroValue5
  t9:=Tryz.underlying9
  a9:=Tryz.isAgg9
  z9:=Tryz.sizeOf9
  v9:=Tryz.zeroValue9
  t46:=Tryz.underlying157
  a46:=Tryz.isAgg157
  z46:=Tryz.sizeOf157
  v46:=Tryz.zeroValue157
  t51:=Tryz.underlying108
  a51:=Tryz.isAgg108
  z51:=Tryz.sizeOf108
  v51:=Tryz.zeroValue108
  t146:=Tryz.underlying170
  a146:=Tryz.isAgg170
  z146:=Tryz.sizeOf170
  v146:=Tryz.zeroValue170
  g1:=by kernel_rfl }
open Go.RowKit Go.Lib in
/-- strings.Index: "Index returns the index of the first instance of substr in s, or -1 if substr is not present in s.": AT A substr OF ONE BYTE c: IT RETURNS 'Lib.indexByte s c'; the world is as it was. (LAID: no walk: one application.) -/
theorem Tryz.strings_Index_one (s:ByteArray) (c:UInt8) (w:World) :
    Calls Tryz.prog 93 #[.string s, .string ⟨#[c]⟩] w fun e w'=>e = .returned (.int .i64 (Lib.indexByte s.data.toList c))∧w'=w:=Any.strings_Index_one Tryz.lays143 s c w
def Tryz.lays212_ren:Go.Shelf.Ren:=⟨fun | 212=>98 | 263=>111 | 264=>112 | n=>n,fun | 46=>157 | 51=>108 | 146=>170 | 53=>172 | 148=>173 | n=>n,fun | n=>n⟩
theorem Tryz.lays212:Go.Proofs.Lays.n212 Tryz.prog Tryz.lays212_ren:={
  mixed:=by kernel_rfl
  f212:=Tryz.func98.trans (congrArg some (by kernel_rfl))
  f263:=Tryz.func111.trans (congrArg some (by kernel_rfl))
  f264:=Tryz.func112.trans (congrArg some (by kernel_rfl))
  t46:=Tryz.underlying157
  a46:=Tryz.isAgg157
  z46:=Tryz.sizeOf157
  v46:=Tryz.zeroValue157
  t51:=Tryz.underlying108
  a51:=Tryz.isAgg108
  z51:=Tryz.sizeOf108
  v51:=Tryz.zeroValue108
  t53:=Tryz.underlying172
  a53:=Tryz.isAgg172
  z53:=Tryz.sizeOf172
  v53:=Tryz.zeroValue172
  t146:=Tryz.underlying170
  a146:=Tryz.isAgg170
  z146:=Tryz.sizeOf170
  v146:=Tryz.zeroValue170
  t148:=Tryz.underlying173
  a148:=Tryz.isAgg173
  z148:=Tryz.sizeOf173
  v148:=Tryz.zeroValue173 }
open Go.RowKit Go.Lib in
/-- math/bits.Mul: "Mul returns the full-width product of x and y": on a machine of 64 bits: Mul64's. (LAID: no walk: one application.) -/
theorem Tryz.bits_Mul (x y:Nat) (hx:x < 18446744073709551616) (hy:y < 18446744073709551616) (w:World) :
    Calls Tryz.prog 98 #[.int .u64 x, .int .u64 y] w fun e w'=>e = .returned (.tuple #[.int .u64 ((x * y / 18446744073709551616:Nat):Int), .int .u64 ((x * y % 18446744073709551616:Nat):Int)])∧w'=w:=Any.bits_Mul Tryz.lays212 x y hx hy w
end Go.Proofs
namespace Go.Proofs.YtbbhdbeaikclcaaGreat.X
open Go.RowKit Go.Proofs.YtbbhdbeaikclcaaGreatW.PrintWords Go.Proofs.YtbbhdbeaikclcaaGreatW.PrintLast Go.Proofs.YtbbhdbeaikclcaaGreatW.PrintMore
def strings_Index.f (s sub:ByteArray):Option Int:=match sub.data.toList with | [c]=>some (Lib.indexByte s.data.toList c) | _=>none
theorem one_byte {sub:ByteArray} {c:UInt8} (h:sub.data.toList=[c]):sub=⟨#[c]⟩:=ByteArray.ext (Array.toList_inj.1 h)
theorem strings_Index.calls (a0 a1:ByteArray) (r:Int) (w:World) (h:strings_Index.f a0 a1=some r):Calls Tryz.prog 93 #[.string a0, .string a1] w fun e w'=>e = .returned (.int .i64 r)∧Drawn0 w w':=by
 (unfold strings_Index.f at h);(split at h);(· rename_i c e;obtain rfl:=one_byte e;have h:=Option.some.inj h;subst h;refine (Tryz.strings_Index_one a0 c w).mono ?_;rintro e w1 ⟨rfl,he⟩;exact ⟨rfl,he ▸ Drawn0.refl _⟩);(· cases h)
end Go.Proofs.YtbbhdbeaikclcaaGreat.X
namespace Go.Proofs.YtbbhdbeaikclcaaGreat.X
open Go.RowKit Go.Proofs.YtbbhdbeaikclcaaGreatW.PrintWords Go.Proofs.YtbbhdbeaikclcaaGreatW.PrintLast Go.Proofs.YtbbhdbeaikclcaaGreatW.PrintMore
attribute [local go_sem] max2_int min2_int max_two min_two max_three min_three max_four min_four
def lines_May.l0:Nat→List ByteArray→List ByteArray→Int→Int→Option (Bool)
  | 0,_,_,_,_=>none
  | k+1,x0,x7,x8,x9=>if x9 < x8 then (if 0≤x9 then (if x9 < (x7.length:Int) then ((strings_Index.f (rdOf ByteArray.empty x7 x9) (⟨#[10]⟩:ByteArray)).bind fun t102=>(if t102 < 0 then (if ((rdOf ByteArray.empty x7 x9).size:Int) > 0 then (if (x9=(wrap64 ((x0.length:Int) - 1))) then (lines_May.l0 k x0 x7 x8 (wrap64 (x9+1))) else (some false)) else (some false)) else (if t102=(wrap64 (((rdOf ByteArray.empty x7 x9).size:Int) - 1)) then (lines_May.l0 k x0 x7 x8 (wrap64 (x9+1))) else (some false)))) else (none)) else (none)) else (some true)
def lines_May.f (k:Nat) (l0:List ByteArray):Option (Bool):=lines_May.l0 k l0 l0 (l0.length:Int) 0
set_option maxHeartbeats 8000000 in
set_option maxRecDepth 100000 in
theorem lines_May.calls (k:Nat) (A0:Option Addr) (c0:Nat) (l0:List ByteArray) (r:Bool) (w:World) (hr0:Kd.C Kd.string w A0 l0.length l0) (hc0:l0.length≤c0) (h:lines_May.f k l0=some r) :
    Calls Tryz.prog 63 #[.slice A0 l0.length c0] w fun e w'=>e = .returned (.bool r)∧Drawn0 w w':=by
 have HR0:=Aside0.mk hr0;have HC0:=Aside0.mk hc0;clear hr0 hc0;have H:(lines_May.l0 k l0 l0 (l0.length:Int) 0)=some r:=h;clear h;have H':=Aside0.mk H;clear H;go_enter Tryz.func63,Tryz.ntmps63;go_wp2
 go_loopg [9] k (fun kq v9 w' => ∃ (x9_1:Int),v9 = .int .i64 x9_1∧Aside0 (lines_May.l0 kq l0 l0 (l0.length:Int) x9_1=some r)∧Aside0 (kq≤k)∧Drawn0 w w')
 (case atStart=>exact ⟨(0),rs_,H',⟨Nat.le_refl _⟩,d0_⟩)
 case round =>
  clear H';obtain ⟨x9_1,rfl,HA,HK1,⟨m1,rfl⟩⟩:=hrel
  cases gk with
  | zero=>exact absurd HA.out (by simp [lines_May.l0])
  | succ k1 =>
   have H:=HA.out;clear HA;(simp only [lines_May.l0] at H)
   by_cases c2:x9_1 < (l0.length:Int)
   ·
    (rw [if_pos c2] at H);have c2b0:decide (x9_1 < (l0.length:Int))=true:=decide_eq_true c2;clear c2
    by_cases c3:0≤x9_1
    ·
     (rw [if_pos c3] at H);have c3b0:decide (0≤x9_1)=true:=decide_eq_true c3;clear c3
     by_cases c4:x9_1 < (l0.length:Int)
     ·
      (rw [if_pos c4] at H);have c4b0:decide (x9_1 < (l0.length:Int))=true:=decide_eq_true c4;clear c4;replace H:=Option.bind_eq_some_iff.mp H;obtain ⟨t102,A50,H⟩:=H;replace H:(if t102 < 0 then (if ((rdOf ByteArray.empty l0 x9_1).size:Int) > 0 then (if (x9_1=(wrap64 ((l0.length:Int) - 1))) then (lines_May.l0 k1 l0 l0 (l0.length:Int) (wrap64 (x9_1+1))) else (some false)) else (some false)) else (if t102=(wrap64 (((rdOf ByteArray.empty l0 x9_1).size:Int) - 1)) then (lines_May.l0 k1 l0 l0 (l0.length:Int) (wrap64 (x9_1+1))) else (some false)))=some r:=H;have A5:=Aside0.mk A50;clear A50
      by_cases c6:t102 < 0
      ·
       (rw [if_pos c6] at H);have c6b0:decide (t102 < 0)=true:=decide_eq_true c6;clear c6
       by_cases c7:((rdOf ByteArray.empty l0 x9_1).size:Int) > 0
       ·
        (rw [if_pos c7] at H);have c7b0:decide (0 < ((rdOf ByteArray.empty l0 x9_1).size:Int))=true:=decide_eq_true c7;have c7b1:decide (0 < (rdOf ByteArray.empty l0 x9_1).size)=true:=decide_eq_true (by omega);clear c7
        by_cases c8:(x9_1=(wrap64 ((l0.length:Int) - 1)))
        ·
         (rw [if_pos c8] at H);have c8b0:(x9_1 == (wrap64 ((l0.length:Int) - 1)))=true:=beq_iff_eq.mpr c8;have c8b1:(x9_1 != (wrap64 ((l0.length:Int) - 1)))=false:=bne_eq_false_iff_eq.mpr c8;clear c8;have H':=Aside0.mk H;clear H;have p101:0≤(x9_1:Int):=dt_;have q101:x9_1 < (l0.length:Int):=dt_;obtain ⟨ad101,e101,hx101_0⟩:=Kd.at_string HR0.out x9_1 p101 q101;cases e101;replace p101:=eq_true p101;replace q101:=eq_true q101;(go_wp2_with (first | ((with_reducible refine gate_callee (f:=93) rfl ?_);refine goesL_ (some 15) rfl rfl Tryz.func93 (by kernel_rfl) rfl #[.string (rdOf ByteArray.empty l0 x9_1), .string (⟨#[10]⟩:ByteArray)] rfl (by (try simp only [List.map_toArray,List.map_cons,List.map_nil]);first | done | rfl | (simp only [List.length_drop,List.length_take];rfl)) ?_;(with_reducible refine (strings_Index.calls (rdOf ByteArray.empty l0 x9_1) (⟨#[10]⟩:ByteArray) t102 _ A5.out).mono ?_);rintro e w' ⟨rfl,⟨nd,rfl⟩⟩;refine ⟨_,rfl,?_⟩)))
         go_roundg k1
         (case measure=>have:=HK1.out;omega);(case rel=>exact ⟨(wrap64 (x9_1+1)),rs_,H',⟨by have:=HK1.out;omega⟩,d0_⟩)
        (· (rw [if_neg c8] at H);have c8b0:(x9_1 == (wrap64 ((l0.length:Int) - 1)))=false:=beq_eq_false_iff_ne.mpr c8;have c8b1:(x9_1 != (wrap64 ((l0.length:Int) - 1)))=true:=bne_iff_ne.mpr c8;obtain rfl:=Option.some.inj H;have p101:0≤(x9_1:Int):=dt_;have q101:x9_1 < (l0.length:Int):=dt_;obtain ⟨ad101,e101,hx101_0⟩:=Kd.at_string HR0.out x9_1 p101 q101;cases e101;replace p101:=eq_true p101;replace q101:=eq_true q101;(go_wp2_with (first | ((with_reducible refine gate_callee (f:=93) rfl ?_);refine goesL_ (some 15) rfl rfl Tryz.func93 (by kernel_rfl) rfl #[.string (rdOf ByteArray.empty l0 x9_1), .string (⟨#[10]⟩:ByteArray)] rfl (by (try simp only [List.map_toArray,List.map_cons,List.map_nil]);first | done | rfl | (simp only [List.length_drop,List.length_take];rfl)) ?_;(with_reducible refine (strings_Index.calls (rdOf ByteArray.empty l0 x9_1) (⟨#[10]⟩:ByteArray) t102 _ A5.out).mono ?_);rintro e w' ⟨rfl,⟨nd,rfl⟩⟩;refine ⟨_,rfl,?_⟩)));go_ret;exact ⟨by first | rfl | (simp;done) | (simp [*];done),d0_⟩)
       (· (rw [if_neg c7] at H);have c7b0:decide (0 < ((rdOf ByteArray.empty l0 x9_1).size:Int))=false:=decide_eq_false c7;have c7b1:decide (0 < (rdOf ByteArray.empty l0 x9_1).size)=false:=decide_eq_false (by omega);clear c7;obtain rfl:=Option.some.inj H;have p101:0≤(x9_1:Int):=dt_;have q101:x9_1 < (l0.length:Int):=dt_;obtain ⟨ad101,e101,hx101_0⟩:=Kd.at_string HR0.out x9_1 p101 q101;cases e101;replace p101:=eq_true p101;replace q101:=eq_true q101;(go_wp2_with (first | ((with_reducible refine gate_callee (f:=93) rfl ?_);refine goesL_ (some 15) rfl rfl Tryz.func93 (by kernel_rfl) rfl #[.string (rdOf ByteArray.empty l0 x9_1), .string (⟨#[10]⟩:ByteArray)] rfl (by (try simp only [List.map_toArray,List.map_cons,List.map_nil]);first | done | rfl | (simp only [List.length_drop,List.length_take];rfl)) ?_;(with_reducible refine (strings_Index.calls (rdOf ByteArray.empty l0 x9_1) (⟨#[10]⟩:ByteArray) t102 _ A5.out).mono ?_);rintro e w' ⟨rfl,⟨nd,rfl⟩⟩;refine ⟨_,rfl,?_⟩)));go_ret;exact ⟨by first | rfl | (simp;done) | (simp [*];done),d0_⟩)
      ·
       (rw [if_neg c6] at H);have c6b0:decide (t102 < 0)=false:=decide_eq_false c6;clear c6
       by_cases c9:t102=(wrap64 (((rdOf ByteArray.empty l0 x9_1).size:Int) - 1))
       ·
        (rw [if_pos c9] at H);have c9b0:(t102 == (wrap64 (((rdOf ByteArray.empty l0 x9_1).size:Int) - 1)))=true:=beq_iff_eq.mpr c9;have c9b1:(t102 != (wrap64 (((rdOf ByteArray.empty l0 x9_1).size:Int) - 1)))=false:=bne_eq_false_iff_eq.mpr c9;clear c9;have H':=Aside0.mk H;clear H;have p101:0≤(x9_1:Int):=dt_;have q101:x9_1 < (l0.length:Int):=dt_;obtain ⟨ad101,e101,hx101_0⟩:=Kd.at_string HR0.out x9_1 p101 q101;cases e101;replace p101:=eq_true p101;replace q101:=eq_true q101;(go_wp2_with (first | ((with_reducible refine gate_callee (f:=93) rfl ?_);refine goesL_ (some 15) rfl rfl Tryz.func93 (by kernel_rfl) rfl #[.string (rdOf ByteArray.empty l0 x9_1), .string (⟨#[10]⟩:ByteArray)] rfl (by (try simp only [List.map_toArray,List.map_cons,List.map_nil]);first | done | rfl | (simp only [List.length_drop,List.length_take];rfl)) ?_;(with_reducible refine (strings_Index.calls (rdOf ByteArray.empty l0 x9_1) (⟨#[10]⟩:ByteArray) t102 _ A5.out).mono ?_);rintro e w' ⟨rfl,⟨nd,rfl⟩⟩;refine ⟨_,rfl,?_⟩)))
        go_roundg k1
        (case measure=>have:=HK1.out;omega);(case rel=>exact ⟨(wrap64 (x9_1+1)),rs_,H',⟨by have:=HK1.out;omega⟩,d0_⟩)
       (· (rw [if_neg c9] at H);have c9b0:(t102 == (wrap64 (((rdOf ByteArray.empty l0 x9_1).size:Int) - 1)))=false:=beq_eq_false_iff_ne.mpr c9;have c9b1:(t102 != (wrap64 (((rdOf ByteArray.empty l0 x9_1).size:Int) - 1)))=true:=bne_iff_ne.mpr c9;obtain rfl:=Option.some.inj H;have p101:0≤(x9_1:Int):=dt_;have q101:x9_1 < (l0.length:Int):=dt_;obtain ⟨ad101,e101,hx101_0⟩:=Kd.at_string HR0.out x9_1 p101 q101;cases e101;replace p101:=eq_true p101;replace q101:=eq_true q101;(go_wp2_with (first | ((with_reducible refine gate_callee (f:=93) rfl ?_);refine goesL_ (some 15) rfl rfl Tryz.func93 (by kernel_rfl) rfl #[.string (rdOf ByteArray.empty l0 x9_1), .string (⟨#[10]⟩:ByteArray)] rfl (by (try simp only [List.map_toArray,List.map_cons,List.map_nil]);first | done | rfl | (simp only [List.length_drop,List.length_take];rfl)) ?_;(with_reducible refine (strings_Index.calls (rdOf ByteArray.empty l0 x9_1) (⟨#[10]⟩:ByteArray) t102 _ A5.out).mono ?_);rintro e w' ⟨rfl,⟨nd,rfl⟩⟩;refine ⟨_,rfl,?_⟩)));go_ret;exact ⟨by first | rfl | (simp;done) | (simp [*];done),d0_⟩)
     (· (rw [if_neg c4] at H);exact absurd H (by simp))
    (· (rw [if_neg c3] at H);exact absurd H (by simp))
   (· (rw [if_neg c2] at H);have c2b0:decide (x9_1 < (l0.length:Int))=false:=decide_eq_false c2;clear c2;obtain rfl:=Option.some.inj H;go_wp2;go_ret;exact ⟨by first | rfl | (simp;done) | (simp [*];done),d0_⟩)
def stringslite_HasSuffix.f (a0:ByteArray) (a1:ByteArray):Option (Bool):=if (a0.size:Int) ≥ (a1.size:Int) then (if 0≤(wrap64 ((a0.size:Int) - (a1.size:Int))) then (if (wrap64 ((a0.size:Int) - (a1.size:Int)))≤(a0.size:Int) then (some ((a0.extract ((wrap64 ((a0.size:Int) - (a1.size:Int))):Int).toNat a0.size).toList == a1.toList)) else (none)) else (none)) else (some false)
set_option maxHeartbeats 8000000 in
set_option maxRecDepth 100000 in
theorem stringslite_HasSuffix.calls (a0:ByteArray) (a1:ByteArray) (r:Bool) (w:World) (h:stringslite_HasSuffix.f a0 a1=some r) :
    Calls Tryz.prog 134 #[.string a0, .string a1] w fun e w'=>e = .returned (.bool r)∧Drawn0 w w':=by
 have H:(if (a0.size:Int) ≥ (a1.size:Int) then (if 0≤(wrap64 ((a0.size:Int) - (a1.size:Int))) then (if (wrap64 ((a0.size:Int) - (a1.size:Int)))≤(a0.size:Int) then (some ((a0.extract ((wrap64 ((a0.size:Int) - (a1.size:Int))):Int).toNat a0.size).toList == a1.toList)) else (none)) else (none)) else (some false))=some r:=h;clear h
 by_cases c3:(a0.size:Int) ≥ (a1.size:Int)
 ·
  (rw [if_pos c3] at H);have c3b0:decide ((a1.size:Int)≤(a0.size:Int))=true:=decide_eq_true c3;have c3b1:decide (a1.size≤a0.size)=true:=decide_eq_true (Int.ofNat_le.mp c3);clear c3;obtain ⟨ji4,hji4⟩ : ∃ j_:Int,(wrap64 ((a0.size:Int) - (a1.size:Int)))=j_:=⟨_,rfl⟩;(replace H:(if 0≤(ji4) then (if (ji4)≤(a0.size:Int) then (some ((a0.extract ((ji4):Int).toNat a0.size).toList == a1.toList)) else (none)) else (none))=some r:=by first | (rw [hji4] at H;exact H) | (simp only [hji4] at H ⊢;exact H));have hji4w:(IntKind.i64.wrap ((a0.size:Int) - (a1.size:Int)))=ji4:=(i64_w _).trans hji4
  by_cases c5:0≤(ji4)
  ·
   (rw [if_pos c5] at H);have c5b0:=eq_true c5;have c5b1:decide (0≤(ji4))=true:=decide_eq_true c5;clear c5
   by_cases c6:(ji4)≤(a0.size:Int)
   (· (rw [if_pos c6] at H);have c6b0:=eq_true c6;have c6b1:decide ((ji4)≤(a0.size:Int))=true:=decide_eq_true c6;clear c6;obtain rfl:=Option.some.inj H;go_enter Tryz.func134,Tryz.ntmps134;go_wp2;go_ret;exact ⟨by first | rfl | (simp;done) | (simp only [← hji4] <;> (first | rfl | simp)) | (simp [*];done),d0_⟩);(· (rw [if_neg c6] at H);exact absurd H (by simp))
  (· (rw [if_neg c5] at H);exact absurd H (by simp))
 (· (rw [if_neg c3] at H);have c3b0:decide ((a1.size:Int)≤(a0.size:Int))=false:=decide_eq_false c3;have c3b1:decide (a1.size≤a0.size)=false:=decide_eq_false (fun h=>c3 (Int.ofNat_le.mpr h));clear c3;obtain rfl:=Option.some.inj H;go_enter Tryz.func134,Tryz.ntmps134;go_wp2;go_ret;exact ⟨by first | rfl | (simp;done) | (simp [*];done),d0_⟩)
def strings_HasSuffix.f (a0:ByteArray) (a1:ByteArray):Option (Bool):=(stringslite_HasSuffix.f a0 a1).bind fun t103=>(some t103)
set_option maxHeartbeats 8000000 in
set_option maxRecDepth 100000 in
theorem strings_HasSuffix.calls (a0:ByteArray) (a1:ByteArray) (r:Bool) (w:World) (h:strings_HasSuffix.f a0 a1=some r) :
    Calls Tryz.prog 127 #[.string a0, .string a1] w fun e w'=>e = .returned (.bool r)∧Drawn0 w w':=by
 have H:((stringslite_HasSuffix.f a0 a1).bind fun t103=>(some t103))=some r:=h;clear h;replace H:=Option.bind_eq_some_iff.mp H;obtain ⟨t103,A30,H⟩:=H;replace H:(some t103)=some r:=H;have A3:=Aside0.mk A30;clear A30;obtain rfl:=Option.some.inj H;go_enter Tryz.func127,Tryz.ntmps127;(go_wp2_with (first | ((with_reducible refine gate_callee (f:=134) rfl ?_);refine goesL_ (some 7) rfl rfl Tryz.func134 (by kernel_rfl) rfl #[.string a0, .string a1] rfl (by (try simp only [List.map_toArray,List.map_cons,List.map_nil]);first | done | rfl | (simp only [List.length_drop,List.length_take];rfl)) ?_;(with_reducible refine (stringslite_HasSuffix.calls a0 a1 t103 _ A3.out).mono ?_);rintro e w' ⟨rfl,⟨nd,rfl⟩⟩;refine ⟨_,rfl,?_⟩)));go_ret;exact ⟨by first | rfl | (simp;done) | (simp [*];done),d0_⟩
def lines_Open.f (l0:List ByteArray):Option (Bool):=if (l0.length:Int) > 0 then (if 0≤(wrap64 ((l0.length:Int) - 1)) then (if (wrap64 ((l0.length:Int) - 1)) < (l0.length:Int) then ((strings_HasSuffix.f (rdOf ByteArray.empty l0 (wrap64 ((l0.length:Int) - 1))) (⟨#[10]⟩:ByteArray)).bind fun t105=>(some (!t105))) else (none)) else (none)) else (some false)
set_option maxHeartbeats 8000000 in
set_option maxRecDepth 100000 in
theorem lines_Open.calls (A0:Option Addr) (c0:Nat) (l0:List ByteArray) (r:Bool) (w:World) (hr0:Kd.C Kd.string w A0 l0.length l0) (hc0:l0.length≤c0) (h:lines_Open.f l0=some r) :
    Calls Tryz.prog 116 #[.slice A0 l0.length c0] w fun e w'=>e = .returned (.bool r)∧Drawn0 w w':=by
 have HR0:=Aside0.mk hr0;have HC0:=Aside0.mk hc0;clear hr0 hc0;have H:(if (l0.length:Int) > 0 then (if 0≤(wrap64 ((l0.length:Int) - 1)) then (if (wrap64 ((l0.length:Int) - 1)) < (l0.length:Int) then ((strings_HasSuffix.f (rdOf ByteArray.empty l0 (wrap64 ((l0.length:Int) - 1))) (⟨#[10]⟩:ByteArray)).bind fun t105=>(some (!t105))) else (none)) else (none)) else (some false))=some r:=h;clear h
 by_cases c2:(l0.length:Int) > 0
 ·
  (rw [if_pos c2] at H);have c2b0:decide (0 < (l0.length:Int))=true:=decide_eq_true c2;have c2b1:decide (0 < l0.length)=true:=decide_eq_true (by omega);clear c2;obtain ⟨ji3,hji3⟩ : ∃ j_:Int,(wrap64 ((l0.length:Int) - 1))=j_:=⟨_,rfl⟩;(replace H:(if 0≤(ji3) then (if (ji3) < (l0.length:Int) then ((strings_HasSuffix.f (rdOf ByteArray.empty l0 (ji3)) (⟨#[10]⟩:ByteArray)).bind fun t105=>(some (!t105))) else (none)) else (none))=some r:=by first | (rw [hji3] at H;exact H) | (simp only [hji3] at H ⊢;exact H));have hji3w:(IntKind.i64.wrap ((l0.length:Int) - 1))=ji3:=(i64_w _).trans hji3
  by_cases c4:0≤(ji3)
  ·
   (rw [if_pos c4] at H);have c4b0:decide (0≤(ji3))=true:=decide_eq_true c4;clear c4
   by_cases c5:(ji3) < (l0.length:Int)
   (· (rw [if_pos c5] at H);have c5b0:decide ((ji3) < (l0.length:Int))=true:=decide_eq_true c5;clear c5;replace H:=Option.bind_eq_some_iff.mp H;obtain ⟨t105,A60,H⟩:=H;replace H:(some (!t105))=some r:=H;have A6:=Aside0.mk A60;clear A60;obtain rfl:=Option.some.inj H;have p104:0≤((ji3):Int):=dt_;have q104:(ji3) < (l0.length:Int):=dt_;obtain ⟨ad104,e104,hx104_0⟩:=Kd.at_string HR0.out (ji3) p104 q104;cases e104;replace p104:=eq_true p104;replace q104:=eq_true q104;go_enter Tryz.func116,Tryz.ntmps116;(go_wp2_with (first | (go_at_call 127;(with_reducible refine (strings_HasSuffix.calls (rdOf ByteArray.empty l0 (ji3)) (⟨#[10]⟩:ByteArray) t105 _ A6.out).mono ?_);rintro e w' ⟨rfl,⟨nd,rfl⟩⟩)));go_ret;exact ⟨by first | rfl | (simp;done) | (simp only [← hji3] <;> (first | rfl | simp)) | (simp [*];done),d0_⟩);(· (rw [if_neg c5] at H);exact absurd H (by simp))
  (· (rw [if_neg c4] at H);exact absurd H (by simp))
 (· (rw [if_neg c2] at H);have c2b0:decide (0 < (l0.length:Int))=false:=decide_eq_false c2;have c2b1:decide (0 < l0.length)=false:=decide_eq_false (by omega);clear c2;obtain rfl:=Option.some.inj H;go_enter Tryz.func116,Tryz.ntmps116;go_wp2;go_ret;exact ⟨by first | rfl | (simp;done) | (simp [*];done),d0_⟩)
end Go.Proofs.YtbbhdbeaikclcaaGreat.X
namespace Go.Proofs.YtbbhdbeaikclcaaGreat.X
open Go.RowKit Go.Proofs.YtbbhdbeaikclcaaGreatW.PrintWords Go.Proofs.YtbbhdbeaikclcaaGreatW.PrintLast Go.Proofs.YtbbhdbeaikclcaaGreatW.PrintMore
def endsLF (s:ByteArray):Bool:=decide (s.data.toList.getLast? = some 10)
theorem cut_last (s:ByteArray) (h:0 < s.size):(s.extract (s.size - 1) s.size).data.toList=[s.data.toList.getD (s.size - 1) 0]:=by
 have hl:s.size=s.data.toList.length:=sizeLen s;(have hlt:s.size - 1 < s.data.toList.length:=by omega)
 have:(s.extract (s.size - 1) s.size).data.toList=s.data.toList.drop (s.size - 1):=by
  rw [ByteArray.data_extract,Array.toList_extract,List.extract];rw [List.take_of_length_le];(rw [List.length_drop];omega)
 rw [this,List.drop_eq_getElem_cons hlt,List.drop_of_length_le (by omega),getD_get hlt]
theorem hasLF (s:ByteArray) (hs:s.size≤1000000000000000):strings_HasSuffix.f s ⟨#[10]⟩=some (endsLF s):=by
 have h10:(⟨#[10]⟩:ByteArray).size=1:=rfl;rw [strings_HasSuffix.f,stringslite_HasSuffix.f,h10]
 by_cases h:0 < s.size
 ·
  (have ew:wrap64 ((s.size:Int) - ((1:Nat):Int))=((s.size - 1:Nat):Int):=by rw [gw (by omega) (by omega)];omega);rw [if_pos (by omega),ew,if_pos (by omega),if_pos (by omega),Option.bind_some]
  congr 1
  rw [strBeq,endsLF,Int.toNat_natCast,decide_eq_decide];have hl:s.size=s.data.toList.length:=sizeLen s
  have hlast:s.data.toList.getLast? = some (s.data.toList.getD (s.size - 1) 0):=by
   rw [List.getLast?_eq_getElem?,hl,List.getElem?_eq_getElem (by omega),getD_get (by omega)]
  rw [hlast];have hcut:=cut_last s h;constructor;(· intro e;(rw [e] at hcut);have:(10:UInt8)=s.data.toList.getD (s.size - 1) 0:=(List.cons.inj hcut).1;rw [← this]);(· intro e;(rw [Option.some.inj e] at hcut);exact ByteArray.ext (Array.toList_inj.1 hcut))
 (· (have h0:s.size=0:=by omega);have hl:s.data.toList=[]:=List.eq_nil_of_length_eq_zero (by rw [← sizeLen];exact h0);(rw [if_neg (by omega),Option.bind_some,endsLF,hl];rfl))
/-- Is the last text open? -/
def openB (l:List ByteArray):Bool:=decide (0 < l.length) && !endsLF (l.getD (l.length - 1) ByteArray.empty)
theorem openB_f (l:List ByteArray) (hl:l.length≤1000000000000) (hs : ∀ s ∈ l,s.size≤1000000000000000):lines_Open.f l=some (openB l):=by
 rw [lines_Open.f,openB]
 by_cases h:0 < l.length
 (· (have ew:wrap64 ((l.length:Int) - 1)=((l.length - 1:Nat):Int):=by rw [gw (by omega) (by omega)];omega);have hz:=hs _ (List.getElem_mem (show l.length - 1 < l.length by omega));(have hg:l.getD (l.length - 1) ByteArray.empty=l[l.length - 1]:=by simp [show l.length - 1 < l.length by omega]);(rw [if_pos (by omega),ew,if_pos (by omega),if_pos (by omega),rdOfN (by omega),hasLF _ hz,Option.bind_some,decide_eq_true h,hg];rfl));(· (rw [if_neg (by omega),decide_eq_false h];rfl))
abbrev lf:ByteArray:=⟨#[10]⟩
/-- One more list behind what there is: what is open is ended. -/
def unionStep (out k:List ByteArray):List ByteArray:=(if 0 < k.length∧openB out=true then out.set (out.length - 1) (out.getD (out.length - 1) ByteArray.empty ++ lf) else out) ++ k
def unionF (l:List (List ByteArray)):List ByteArray:=l.foldl unionStep []
theorem unionStep_len (out k:List ByteArray):(unionStep out k).length=out.length+k.length:=by
 (unfold unionStep;split <;> simp)
theorem unionF_snoc (l:List (List ByteArray)) (y:List ByteArray):unionF (l ++ [y])=unionStep (unionF l) y:=by rw [unionF,unionF,List.foldl_append];rfl
/-- All texts are so short. -/
def Short (n:Nat) (l:List ByteArray):Prop := ∀ s ∈ l,s.size≤n
theorem unionStep_short {n m:Nat} {out k:List ByteArray} (h:Short n out) (hk:Short m k) (hm:m≤n):Short (n+1) (unionStep out k):=by
 intro s hs;(unfold unionStep at hs)
 rcases List.mem_append.1 hs with hs | hs
 ·
  (split at hs)
  ·
   rename_i hc
   rcases List.mem_or_eq_of_mem_set hs with hs | rfl
   (· (have:=h s hs;omega))
   ·
    rw [ByteArray.size_append]
    have hl:0 < out.length:=by
     have:=hc.2;(rw [openB,Bool.and_eq_true] at this);exact of_decide_eq_true this.1
    (have hg:out.getD (out.length - 1) ByteArray.empty=out[out.length - 1]:=by simp [show out.length - 1 < out.length by omega]);rw [hg];have:=h _ (List.getElem_mem (show out.length - 1 < out.length by omega));have e:lf.size=1:=rfl;omega
  (· (have:=h s hs;omega))
 (· (have:=hk s hs;omega))
theorem unionF_short {m:Nat} : ∀ (n:Nat) (l:List (List ByteArray)),l.length=n→(∀ y ∈ l,Short m y)→Short (m+n) (unionF l)
 | 0,l,h,_=>by rw [List.eq_nil_of_length_eq_zero h];intro s hs;simp [unionF] at hs
 | n+1,l,h,hm=>by
  have e:l=l.take n ++ [l[n]]:=by
   have:=List.take_append_getElem (l:=l) (i:=n) (by omega);rw [this,List.take_of_length_le (by omega)]
  rw [e,unionF_snoc];have h1:=unionF_short n (l.take n) (by rw [List.length_take];omega) (fun y hy=>hm y (List.mem_of_mem_take hy));exact unionStep_short h1 (hm _ (List.getElem_mem _)) (Nat.le_add_right _ _)
theorem unionF_len : ∀ (n:Nat) (l:List (List ByteArray)),l.length=n→(unionF l).length=(l.map List.length).sum
 | 0,l,h=>by rw [List.eq_nil_of_length_eq_zero h];rfl
 | n+1,l,h=>by
  have e:l=l.take n ++ [l[n]]:=by
   have:=List.take_append_getElem (l:=l) (i:=n) (by omega);rw [this,List.take_of_length_le (by omega)]
  (rw [e,unionF_snoc,unionStep_len,unionF_len n _ (by rw [List.length_take];omega),List.map_append,List.sum_append];simp)
def UnIn (w0 W:World) (B gb:Nat) (out:List ByteArray):Prop :=
  ∃ vo,W.heap[gb]? = some (.cells #[vo] 22 (0,0))∧B≤gb∧Kd.R Kd.string 9 W B (fun _=>True) vo out∧Below B w0 W
theorem UnIn.bel {w0 W:World} {B gb:Nat} {out:List ByteArray} (h:UnIn w0 W B gb out):Below B w0 W:=by
 (obtain ⟨vo,q1,q2,q4,q5⟩:=h;exact q5)
set_option maxRecDepth 100000 in
set_option maxHeartbeats 4000000 in
theorem union_1 (w0 w:World) (B gb:Nat) (out k:List ByteArray) (A:Option Addr) (c:Nat) (hB:B=w0.heap.size) (h:UnIn w0 w B gb out) (hC:Kd.F Kd.string w (fun j=>j < B) A k.length k) (hc:k.length≤c) (hz:Short 1000000000000 out) (hl:out.length+k.length≤1000000000) :
    Calls Tryz.prog 115 #[.slice A k.length c, .pointer (some ⟨gb,0,none⟩)] w fun e w'=>e = .returned (.tuple #[])∧Aside0 (UnIn w0 w' B gb (unionStep out k)):=by
 obtain ⟨vo,q1,q2,q4,q5⟩:=h;obtain ⟨Ao,co,rfl⟩:=Kd.R_slice q4;have HBW:Aside0 (B≤w.heap.size):=⟨by rw [hB];exact (by rw [hB] at q5;exact q5.size)⟩;have Q1:=Aside0.mk q1;have Q4:=Aside0.mk q4;have Q5:=Aside0.mk q5;have HC:=Aside0.mk hC;have HL:=Aside0.mk hl;have yb:w.cell? ⟨gb,0,none⟩=some (.slice Ao out.length co):=cell_blk q1 rfl;obtain ⟨_,loc,hOC⟩:=Kd.R_reads' q4;have HOC:=Aside0.mk hOC;have HOP:Aside0 (lines_Open.f out=some (openB out)):=⟨openB_f out (by omega) (fun s hs=>by have:=hz s hs;omega)⟩;obtain ⟨q,hq⟩ : ∃ q,openB out=q:=⟨_,rfl⟩;have HQ:=Aside0.mk hq;clear q1 q4 q5 hC hl hB hOC hq
 by_cases hk:0 < k.length
 ·
  have d1:decide ((0:Int) < (k.length:Int))=true:=decide_eq_true (by omega);have d2:decide (0 < k.length)=true:=decide_eq_true hk;go_enter Tryz.func115,Tryz.ntmps115;(go_wp2_with fail);refine (lines_Open.calls Ao co out (openB out) _ HOC.out loc HOP.out).mono ?_;rintro e w1' ⟨rfl,n1,hn1⟩;obtain ⟨w1,hw1⟩ : ∃ w1,w1=w1':=⟨_,rfl⟩;rw [← hw1];(rw [← hw1] at hn1);have HB1:Aside0 (Below w.heap.size w w1):=⟨by rw [hn1];exact pw_below_drewN (Below.refl _ _) n1⟩;clear hw1 hn1;have Q11:=Aside0.mk (farKeep Q1.out HB1.out);have Q41:=Aside0.mk (Kd.R_below Q4.out HB1.out);have HF1:=Aside0.mk (Kd.F_below HC.out HB1.out);have HC1:=Aside0.mk (Kd.F_now HF1.out);have Q51:Aside0 (Below B w0 w1):=⟨Q5.out.trans (HB1.out.mono HBW.out)⟩;have HBW1:Aside0 (B≤w1.heap.size):=⟨Nat.le_trans HBW.out HB1.out.size⟩;have yb1:w1.cell? ⟨gb,0,none⟩=some (.slice Ao out.length co):=cell_blk Q11.out rfl;rw [HQ.out];clear yb
  cases q with
  | false =>
   have HU:Aside0 (unionStep out k=out ++ k):=⟨by rw [unionStep,if_neg (fun h=>by rw [HQ.out] at h;cases h.2)]⟩;(go_wp2_with (first | (at_builtin;refine Kd.R_append_rows Kd.string (Rr:=Kd.string.K w1) (w0:=w0) B rfl (.tmp 18) (.tmp 19) 22 9 (.string ⟨#[]⟩) 16 rfl Tryz.underlying22 info9 rfl (by decide) (by decide) (.slice Ao out.length co) out k A k.length c (fun _=>True) (fun _=>False) rfl rfl Q41.out HC1.out (fun _ _ h=>h) (fun _ h=>h.elim) (fun _ _=>trivial) Q51.out HBW1.out (by have:=HL.out;omega) ?_;intro v2 w2 ho2 hb2 hg2 hat2;obtain ⟨A2',c2',hv2⟩:=Kd.R_slice ho2;subst hv2;have g2:=(hg2.block gb (blk_lt Q11.out) (Kd.R_ne Q41.out Q11.out (by decide))).trans Q11.out;have z2:w2.cell? ⟨gb,0,none⟩=some (.slice Ao out.length co):=cell_blk g2 rfl;have f2:w2.frozen? ⟨gb,0,none⟩=false:=frozen_of_row _ _ _ _ _ g2;have HO2:=Aside0.mk ho2;have HB2:=Aside0.mk hb2;have G2:=Aside0.mk g2;clear ho2 hb2 hg2 hat2 g2 yb1)));go_end0;exact ⟨rfl,⟨⟨.slice A2' (out ++ k).length c2',by rw [heap_set_same G2.out];simp,q2,by rw [HU.out];exact Kd.R_set HO2.out G2.out (by decide) _ _,HB2.out.setCell (p:=⟨gb,0,none⟩) q2 _⟩⟩⟩
  | true =>
   have hol:0 < out.length:=by
    have:=HQ.out;(rw [openB,Bool.and_eq_true] at this);exact of_decide_eq_true this.1
   obtain ⟨go,cap,hgo,hgB,hgl,cellsO,hgc⟩:=Kd.R_form Q41.out hol;(injection hgo with hgo1 _ hgo3);(subst hgo1;subst hgo3);obtain ⟨m,hm⟩ : ∃ m,m=out.length - 1:=⟨_,rfl⟩;obtain ⟨xm,fm⟩:=Kd.R_cell ByteArray.empty Q41.out (m:Int) (by omega) (by omega);have hput:=Kd.R_putg Q41.out (m:Int) (out.getD m ByteArray.empty ++ lf);(rw [rdOf,Int.toNat_natCast] at xm);(rw [Int.toNat_natCast] at fm hput);obtain ⟨s,hs⟩ : ∃ s,out.getD m ByteArray.empty=s:=⟨_,rfl⟩;(rw [hs] at xm hput);obtain ⟨hput1,hput2⟩:=hput;have HU:Aside0 (unionStep out k=out.set m (s ++ lf) ++ k):=⟨by rw [unionStep,if_pos ⟨hk,HQ.out⟩,← hm,hs]⟩;have hL:=HL.out;have HP1:=Aside0.mk hput1;have HP2:=Aside0.mk hput2;have hne:gb≠go:=blkNe Q11.out hgc (by decide);have hsz:(out.set m (s ++ lf)).length=out.length:=List.length_set;have g3:(w1.setCell ⟨go,m,none⟩ (.string (s ++ lf))).heap[gb]? = some (.cells #[.slice (some ⟨go,0,none⟩) out.length co] 22 (0,0)):=setKeep Q11.out hne _;have yb3:(w1.setCell ⟨go,m,none⟩ (.string (s ++ lf))).cell? ⟨gb,0,none⟩=some (.slice (some ⟨go,0,none⟩) out.length co):=cell_blk g3 rfl;have G3:=Aside0.mk g3;have HC3:Aside0 (Kd.C Kd.string (w1.setCell ⟨go,m,none⟩ (.string (s ++ lf))) A k.length k):=⟨Kd.F_now (Kd.F_step HF1.out (fun j hj _=>heap_set_other (by omega) _))⟩;have HB3:Aside0 (Below B w0 (w1.setCell ⟨go,m,none⟩ (.string (s ++ lf)))):=⟨Q51.out.setCell (p:=⟨go,m,none⟩) hgB _⟩
   have hss:s.size≤1000000000000:=by
    (rw [← hs,getD_get (by omega)];exact hz _ (List.getElem_mem _))
   have HMM:=Aside0.mk hm;subst hm;clear hput1 hput2 g3 hs hgc hne;(go_wp2_with (first | (at_builtin;refine Kd.R_append_rows Kd.string (Rr:=Kd.string.K (w1.setCell ⟨go,out.length - 1,none⟩ (.string (s ++ lf)))) (w0:=w0) B rfl (.tmp 18) (.tmp 19) 22 9 (.string ⟨#[]⟩) 16 rfl Tryz.underlying22 info9 rfl (by decide) (by decide) (.slice (some ⟨go,0,none⟩) out.length co) (out.set (out.length - 1) (s ++ lf)) k A k.length c (fun _=>True) (fun _=>False) rfl rfl HP1.out HC3.out (fun _ _ h=>h) (fun _ h=>h.elim) (fun _ _=>trivial) HB3.out (Nat.le_trans HBW1.out HP2.out.size) (by have:=HL.out;omega) ?_;intro v2 w2 ho2 hb2 hg2 hat2;obtain ⟨A2',c2',hv2⟩:=Kd.R_slice ho2;subst hv2;have g2:=(hg2.block gb (blk_lt G3.out) (Kd.R_ne HP1.out G3.out (by decide))).trans G3.out;have z2:w2.cell? ⟨gb,0,none⟩=some (.slice (some ⟨go,0,none⟩) out.length co):=cell_blk g2 rfl;have f2:w2.frozen? ⟨gb,0,none⟩=false:=frozen_of_row _ _ _ _ _ g2;have HO2:=Aside0.mk ho2;have HB2:=Aside0.mk hb2;have G2:=Aside0.mk g2;clear ho2 hb2 hg2 hat2 g2 yb3)));go_end0;refine ⟨rfl,⟨⟨.slice A2' (out.set (out.length - 1) (s ++ lf) ++ k).length c2',?_,q2,by rw [HU.out];exact Kd.R_set HO2.out G2.out (by decide) _ _,HB2.out.setCell (p:=⟨gb,0,none⟩) q2 _⟩⟩⟩;(rw [heap_set_same G2.out];simp)
 (· have hk0:k=[]:=List.eq_nil_of_length_eq_zero (by omega);subst hk0;have HU:Aside0 (unionStep out []=out ++ []):=⟨by rw [unionStep,if_neg (fun h=>by have:=h.1;simp at this)]⟩;go_enter Tryz.func115,Tryz.ntmps115;(go_wp2_with (first | (at_builtin;refine Kd.R_append_rows Kd.string (Rr:=Kd.string.K w) (w0:=w0) B rfl (.tmp 18) (.tmp 19) 22 9 (.string ⟨#[]⟩) 16 rfl Tryz.underlying22 info9 rfl (by decide) (by decide) (.slice Ao out.length co) out [] A 0 c (fun _=>True) (fun _=>False) rfl rfl Q4.out (Kd.F_now HC.out) (fun _ _ h=>h) (fun _ h=>h.elim) (fun _ _=>trivial) Q5.out HBW.out (by have:=HL.out;omega) ?_;intro v2 w2 ho2 hb2 hg2 hat2;obtain ⟨A2',c2',hv2⟩:=Kd.R_slice ho2;subst hv2;have g2:=(hg2.block gb (blk_lt Q1.out) (Kd.R_ne Q4.out Q1.out (by decide))).trans Q1.out;have z2:w2.cell? ⟨gb,0,none⟩=some (.slice Ao out.length co):=cell_blk g2 rfl;have f2:w2.frozen? ⟨gb,0,none⟩=false:=frozen_of_row _ _ _ _ _ g2;have HO2:=Aside0.mk ho2;have HB2:=Aside0.mk hb2;have G2:=Aside0.mk g2;clear ho2 hb2 hg2 hat2 g2 yb)));go_end0;exact ⟨rfl,⟨⟨.slice A2' (out ++ []).length c2',by rw [heap_set_same G2.out];simp,q2,by rw [HU.out];exact Kd.R_set HO2.out G2.out (by decide) _ _,HB2.out.setCell (p:=⟨gb,0,none⟩) q2 _⟩⟩⟩)
set_option maxRecDepth 100000 in
set_option maxHeartbeats 4000000 in
theorem pick_union (A:Option Addr) (c:Nat) (l:List (List ByteArray)) (w:World) (hC:Kd.C (Kd.slice 9 Kd.string) w A l.length l) (hc:l.length≤c) (hn:l.length≤1000000) (hz : ∀ y ∈ l,Short 1000000000 y) (hs:(l.map List.length).sum≤1000000000) :
    Calls Tryz.prog 103 #[.slice A l.length c] w fun e w' => ∃ v,e = .returned v∧Aside0 (Kd.R Kd.string 9 w' w.heap.size (fun _=>True) v (unionF l))∧Aside0 (Below w.heap.size w w'):=by
 have HC:=Aside0.mk hC;have HF:Aside0 (Kd.F (Kd.slice 9 Kd.string) w (fun k=>k < w.heap.size) A l.length l):=⟨Kd.C_F (Kd.heap_slice _ Kd.heap_string) hC⟩;have HZ:=Aside0.mk hz;have HS:=Aside0.mk hs;(have hmf : ∀ (fn:Fn) (first cap:Array Value) (w:World),(Instr.makeFunc fn first cap).run Tryz.prog w = .ok (.func fn first cap) w:=fun _ _ _ _=>rfl);clear hC hz hs;go_enter Tryz.func103,Tryz.ntmps103;(go_wp2_with fail);obtain ⟨w1,hw1⟩ : ∃ w1,w.alloc (.cells #[.slice none 0 0] 22)=w1:=⟨_,rfl⟩;have HI1:Aside0 (UnIn w w1 w.heap.size w.heap.size []):=⟨⟨.slice none 0 0,by rw [← hw1];exact blk_new _ _,Nat.le_refl _,Kd.R_nil _ _ _ _ _,by rw [← hw1];exact newBelow _ _⟩⟩;rw [hw1];clear hw1
 go_loopw [10] (fun iv wr => ∃ (k:Nat),iv = .int .i64 k∧k≤l.length∧Aside0 (UnIn w wr w.heap.size w.heap.size (unionF (l.take k)))) (fun iv _=>l.length - (intOf iv).toNat)
 (case atStart=>exact ⟨0,rfl,Nat.zero_le _,HI1⟩)
 case round =>
  obtain ⟨k,rfl,hk,HI⟩:=hrel;have HBr:Aside0 (Below w.heap.size w wr):=⟨HI.out.bel⟩
  by_cases hlt:k < l.length
  ·
   obtain ⟨ad,cs,rfl,hcl,hFK,hcell,_⟩:=Kd.F_get (Kd.F_below HF.out HBr.out) [] (k:Int) (by omega) (by omega);(have hy:l.getD (k:Int).toNat []=l[k]:=by simp [hlt]);(have htk:unionF (l.take (k+1))=unionStep (unionF (l.take k)) l[k]:=by rw [← List.take_append_getElem hlt,unionF_snoc]);have hsh:=unionF_short (m:=1000000000) k (l.take k) (by rw [List.length_take];omega) (fun y hy=>HZ.out y (List.mem_of_mem_take hy))
   have hln:(unionF (l.take k)).length+l[k].length≤1000000000:=by
    have:=HS.out;rw [unionF_len _ _ rfl];(have e:l=l.take k ++ (l[k] :: l.drop (k+1)):=by rw [← dropCons hlt,List.take_append_drop])
    have h2:(l.map List.length).sum=((l.take k).map List.length).sum+(l[k].length+((l.drop (k+1)).map List.length).sum):=by
     conv=>lhs;rw [e]
     rw [List.map_append,List.sum_append,List.map_cons,List.sum_cons]
    omega
   obtain ⟨y,hye⟩ : ∃ y,l[k]=y:=⟨_,rfl⟩;(rw [hy,hye] at hFK);(rw [hye] at htk hln);obtain ⟨Ay,cy,rfl,ly,hFy⟩:=Kd.FK_slice_open hFK;have xy:=hcell 0 _ rfl;(have kk:(k:Int).toNat=k:=by omega);(rw [kk] at xy)
   replace xy:wr.cell? (ad.add k)=some (.slice Ay y.length cy):=by
    (have e:k * (Kd.slice 9 Kd.string).sz+0=k:=by show k * 1+0=k;omega);(rw [e] at xy;exact xy)
   have HTK:=Aside0.mk htk;have HFY:=Aside0.mk hFy;have HSH:Aside0 (Short 1000000000000 (unionF (l.take k))):=⟨fun s hs=>by have:=hsh s hs;omega⟩;have HLN:=Aside0.mk hln;clear kk hy hye htk hFK hcell hFy hsh hln;(go_wp2_with fail);refine (union_1 w _ w.heap.size w.heap.size _ y Ay cy rfl HI.out HFY.out ly HSH.out HLN.out).mono ?_;rintro e w2 ⟨rfl,HI2⟩;go_wp2;go_roundw;(case measure=>simp [intOf];omega);(case rel=>exact ⟨k+1,by go_num,by omega,by rw [HTK.out];exact HI2⟩)
  (· (have hk':k=l.length:=by omega);subst hk';(rw [List.take_length] at HI);obtain ⟨vo,q1,q2,q4,q5⟩:=HI.out;have cb:wr.cell? ⟨w.heap.size,0,none⟩=some vo:=cell_blk q1 rfl;have Q4:=Aside0.mk q4;clear q1 q4 q5;go_wp2;go_ret;exact ⟨_,rfl,Q4,HBr⟩)
/-- What becomes of a base, and parts. -/
def pieceF (x:List ByteArray) (l:List (List ByteArray)) (fav:Int) (un:Bool):Piece :=
  if (differF x l).length=0 then ⟨false,x,[],[]⟩
  else if (differF x l).length=1 then ⟨false,(differF x l).getD 0 [],[],[]⟩
  else if 1≤fav∧fav≤(l.length:Int) then ⟨false,l.getD (fav - 1).toNat [],[],[]⟩
  else if un=true then ⟨false,unionF (differF x l),[],[]⟩
  else ⟨true,[],x,l⟩
theorem differF_ind (x:List ByteArray) : ∀ (n:Nat) (l:List (List ByteArray)),l.length=n→(∀ y ∈ differF x l,y ∈ l)∧((differF x l).map List.length).sum≤(l.map List.length).sum
 | 0,l,h=>by rw [List.eq_nil_of_length_eq_zero h];exact ⟨fun y hy=>hy,Nat.le_refl _⟩
 | n+1,l,h=>by
  have e:l=l.take n ++ [l[n]]:=by
   have:=List.take_append_getElem (l:=l) (i:=n) (by omega);rw [this,List.take_of_length_le (by omega)]
  obtain ⟨i1,i2⟩:=differF_ind x n (l.take n) (by rw [List.length_take];omega);rw [e,differF_snoc,List.map_append,List.sum_append];unfold differStep;split
  ·
   refine ⟨fun y hy=>?_,?_⟩
   ·
    rcases List.mem_append.1 hy with hy | hy
    (· exact List.mem_append_left _ (i1 y hy));(· exact List.mem_append_right _ hy)
   (· (rw [List.map_append,List.sum_append];omega))
  (· exact ⟨fun y hy=>List.mem_append_left _ (i1 y hy),by omega⟩)
/-- A piece's cells, and what they lead to. -/
def PieceAt (W:World) (ok:Nat→Prop) (p:Piece) (cs:Array Value):Prop :=
  ∃ A1 c1 A2 c2 A3 c3,cs=#[.bool p.f0, .slice A1 p.f1.length c1, .slice A2 p.f2.length c2, .slice A3 p.f3.length c3]∧p.f1.length≤c1∧Kd.F Kd.string W ok A1 p.f1.length p.f1∧p.f2.length≤c2∧Kd.F Kd.string W ok A2 p.f2.length p.f2∧p.f3.length≤c3∧Kd.F KSs W ok A3 p.f3.length p.f3
theorem PieceAt.text {W:World} {ok:Nat→Prop} {b:Bool} {s:List ByteArray} {A:Option Addr} {n c:Nat} (hn:s.length=n) (hc:n≤c) (h:Kd.F Kd.string W ok A n s):PieceAt W ok ⟨b,s,[],[]⟩ #[.bool b, .slice A n c, .slice none 0 0, .slice none 0 0]:=by
 subst hn;exact ⟨A,c,none,0,none,0,rfl,hc,h,Nat.le_refl _,Kd.F_nil _ _ _,Nat.le_refl _,Kd.F_nil _ _ _⟩
/-- Four cells written. -/
def set4 (W:World) (g:Nat) (a b c d:Value):World:=(((W.setCell ⟨g,0,none⟩ a).setCell ⟨g,1,none⟩ b).setCell ⟨g,2,none⟩ c).setCell ⟨g,3,none⟩ d
theorem set4_same {W:World} {g:Nat} {t:TypeId} {a b c d a' b' c' d':Value} (h:W.heap[g]? = some (.cells #[a,b,c,d] t (0,0))):(set4 W g a' b' c' d').heap[g]? = some (.cells #[a',b',c',d'] t (0,0)) :=
  heap_set_same (heap_set_same (heap_set_same (heap_set_same h _) _) _) _
theorem set4_other {W:World} {g k:Nat} {a b c d:Value} (h:k≠g):(set4 W g a b c d).heap[k]? = W.heap[k]? := by
 rw [set4,heap_set_other h,heap_set_other h,heap_set_other h,heap_set_other h]
theorem set4_below {w W:World} {B g:Nat} {a b c d:Value} (h:Below B w W) (hg:B≤g):Below B w (set4 W g a b c d) :=
  (((h.setCell (p:=⟨g,0,none⟩) hg a).setCell (p:=⟨g,1,none⟩) hg b).setCell (p:=⟨g,2,none⟩) hg c).setCell (p:=⟨g,3,none⟩) hg d
theorem PieceAt.set4 {W:World} {ok ok':Nat→Prop} {p:Piece} {cs:Array Value} {g:Nat} {a b c d:Value} (h:PieceAt W ok' p cs) (hok : ∀ k,ok' k→k≠g) (ho : ∀ k,ok' k→ok k):PieceAt (set4 W g a b c d) ok p cs:=by
 obtain ⟨A1,c1,A2,c2,A3,c3,e,l1,f1,l2,f2,l3,f3⟩:=h;exact ⟨A1,c1,A2,c2,A3,c3,e,l1,Kd.F_mono (Kd.F_step f1 (fun k hk _=>set4_other (hok k hk))) ho,l2,Kd.F_mono (Kd.F_step f2 (fun k hk _=>set4_other (hok k hk))) ho,l3,Kd.F_mono (Kd.F_step f3 (fun k hk _=>set4_other (hok k hk))) ho⟩
set_option maxRecDepth 100000 in
set_option maxHeartbeats 8000000 in
theorem pick_Piece (P:Nat→Prop) (x:List ByteArray) (Ax:Option Addr) (cx:Nat) (A:Option Addr) (c:Nat) (l:List (List ByteArray)) (fav:Int) (un:Bool) (w:World) (hx:Kd.F Kd.string w P Ax x.length x) (lx:x.length≤cx) (hF:Kd.F KSs w P A l.length l) (hc:l.length≤c) (hn:l.length≤1000000)
    (hz : ∀ y ∈ l,Short 1000000000 y) (hs:(l.map List.length).sum≤1000000000) :
    Calls Tryz.prog 89 #[.slice Ax x.length cx, .slice A l.length c, .agg #[.int .i64 fav, .bool un]] w fun e w' => ∃ cs,e = .returned (.agg cs)∧Aside0 (PieceAt w' (fun k=>P k∨w.heap.size≤k) (pieceF x l fav un) cs)∧Aside0 (Below w.heap.size w w'):=by
 have HX:=Aside0.mk hx;have HF:=Aside0.mk hF;have HZ:=Aside0.mk hz;have HS:=Aside0.mk hs
 have hm : ∀ y ∈ l,y.length≤1000000000000:=fun y hy=>by
  obtain ⟨a,b,rfl⟩:=List.append_of_mem hy;(rw [List.map_append,List.sum_append,List.map_cons,List.sum_cons] at hs);omega
 have HM:=Aside0.mk hm;obtain ⟨p,hp⟩ : ∃ p,pieceF x l fav un=p:=⟨_,rfl⟩;have HPF0:=Aside0.mk hp;rw [hp];clear hx hF hz hs hm hp;go_enter Tryz.func89,Tryz.ntmps89;(go_wp2_with fail);obtain ⟨w1,hw1⟩ : ∃ w1,(w.alloc (.cells #[.int .i64 fav, .bool un] 34)).alloc (.cells #[.bool false, .slice none 0 0, .slice none 0 0, .slice none 0 0] 66)=w1:=⟨_,rfl⟩;(have g0:w1.heap[w.heap.size]? = some (.cells #[.int .i64 fav, .bool un] 34 (0,0)):=by rw [← hw1];exact newKeep (blk_new _ _) _)
 have g1:w1.heap[w.heap.size+1]? = some (.cells #[.bool false, .slice none 0 0, .slice none 0 0, .slice none 0 0] 66 (0,0)):=by
  rw [← hw1];have:=blk_new (w.alloc (.cells #[.int .i64 fav, .bool un] 34)) (.cells #[.bool false, .slice none 0 0, .slice none 0 0, .slice none 0 0] 66);simpa using this
 have HB1:Aside0 (Below w.heap.size w w1):=⟨by rw [← hw1];exact (newBelow _ _).alloc (by simp) _⟩;rw [hw1];clear hw1;(have hs1:w.heap.size+2≤w1.heap.size:=by have:=blk_lt g1;omega);refine (content_Differing (fun k=>P k∧k < w.heap.size) x Ax cx A c l w1 (Kd.C_below (Kd.F_now HX.out) HB1.out) lx (Kd.F_old HF.out HB1.out) hc hn HM.out).mono ?_;rintro e w2 ⟨vd,rfl,HD,hb2⟩;have HB2:Aside0 (Below w.heap.size w w2):=⟨far_ HB1.out hb2.out⟩;have G0:=Aside0.mk (farKeep g0 hb2.out);have G1:=Aside0.mk (farKeep g1 hb2.out);have HSZ:Aside0 (w.heap.size+2≤w1.heap.size∧w1.heap.size≤w2.heap.size):=⟨hs1,hb2.out.size⟩;obtain ⟨Ad,cd,rfl⟩:=Kd.N_slice HD.out;have hind:=differF_ind x _ l rfl;have HDI:=Aside0.mk hind;have hX2:Aside0 (Kd.F Kd.string w2 (fun k=>P k∧k < w.heap.size) Ax x.length x):=⟨Kd.F_old HX.out HB2.out⟩;have hF2:Aside0 (Kd.F KSs w2 (fun k=>P k∧k < w.heap.size) A l.length l):=⟨Kd.F_old HF.out HB2.out⟩;have HPF:Aside0 (p=if (differF x l).length=0 then ⟨false,x,[],[]⟩ else if (differF x l).length=1 then ⟨false,(differF x l).getD 0 [],[],[]⟩ else if 1≤fav∧fav≤(l.length:Int) then ⟨false,l.getD (fav - 1).toNat [],[],[]⟩ else if un=true then ⟨false,unionF (differF x l),[],[]⟩ else ⟨true,[],x,l⟩):=⟨by rw [← HPF0.out];rfl⟩;have HDL:=Aside0.mk (differF_len x l.length l rfl);obtain ⟨d,hd⟩ : ∃ d,differF x l=d:=⟨_,rfl⟩;(rw [hd] at HD HDI HPF HDL);rw [hd];(have y2 : ∀ j v,(#[.bool false, .slice none 0 0, .slice none 0 0, .slice none 0 0]:Array Value)[j]? = some v→w2.cell? ⟨w.heap.size+1,j,none⟩=some v:=fun j v h=>cell_blk G1.out h);have ya:=y2 0 _ rfl;have yb:=y2 1 _ rfl;have yc:=y2 2 _ rfl;have yd:=y2 3 _ rfl;(have fz : ∀ j,w2.frozen? ⟨w.heap.size+1,j,none⟩=false:=fun j=>frozen_of_row _ _ _ _ _ G1.out);have fa:=fz 0;have h0:w2.cell? ⟨w.heap.size,0,none⟩=some (.int .i64 fav):=cell_blk G0.out rfl;have h1:w2.cell? ⟨w.heap.size,1,none⟩=some (.bool un):=cell_blk G0.out rfl;clear hd hind g0 g1 hb2 hs1 y2;have HOK1:Aside0 (∀ k,(P k∧k < w.heap.size)→k≠w.heap.size+1):=⟨fun k hk=>by omega⟩;have HOK2:Aside0 (∀ k,(P k∧k < w.heap.size)→P k∨w.heap.size≤k):=⟨fun k hk => .inl hk.1⟩
 by_cases n0:d.length=0
 (· (rw [if_pos n0] at HPF);(have d1:((d.length:Int) == 0)=true:=by rw [beq_iff_eq];omega);go_wp2;refine bodyPost_ret (results_cell_row rfl _ _ (w.heap.size+1) 66 #[.bool false, .slice Ax x.length cx, .slice none 0 0, .slice none 0 0] (0,0) _ rfl (set4_same G1.out) Tryz.underlying66 rfl (by kernel_rfl)) rfl ?_;exact ⟨_,rfl,⟨by rw [HPF.out];exact PieceAt.set4 (PieceAt.text rfl lx hX2.out) HOK1.out HOK2.out⟩,⟨set4_below HB2.out (by omega)⟩⟩)
 ·
  (rw [if_neg n0] at HPF);(have d1:((d.length:Int) == 0)=false:=by rw [beq_eq_false_iff_ne];omega)
  by_cases n1:d.length=1
  (· (rw [if_pos n1] at HPF);(have d2:((d.length:Int) == 1)=true:=by rw [beq_iff_eq];omega);obtain ⟨gd,cap,hv,hgB,hgl,_⟩:=Kd.N_form HD.out (by omega);(injection hv with hv1 _ hv3);(subst hv1;subst hv3);obtain ⟨cs,hcl,hFK,hcell,_⟩:=Kd.N_elem HD.out [] 0 (by omega) (by omega);obtain ⟨Ay,cy,rfl,ly,hFy⟩:=Kd.FK_slice_open hFK;have xy:w2.cell? ⟨gd,0,none⟩=some (.slice Ay (d.getD (0:Int).toNat []).length cy):=hcell 0 _ rfl;have HFY:=Aside0.mk hFy;obtain ⟨y,hy⟩ : ∃ y,d.getD (0:Int).toNat []=y:=⟨_,rfl⟩;have hy':d.getD 0 []=y:=hy;(rw [hy] at xy ly HFY);(rw [hy'] at HPF);clear hFK hcell hcl hFy hy hy';go_wp2;refine bodyPost_ret (results_cell_row rfl _ _ (w.heap.size+1) 66 #[.bool false, .slice Ay y.length cy, .slice none 0 0, .slice none 0 0] (0,0) _ rfl (set4_same G1.out) Tryz.underlying66 rfl (by kernel_rfl)) rfl ?_;exact ⟨_,rfl,⟨by rw [HPF.out];exact PieceAt.set4 (PieceAt.text rfl ly HFY.out) (fun k hk=>by have:=HSZ.out.1;rcases hk.1 with hk | hk <;> omega) (fun k hk=>by have:=HSZ.out.1;rcases hk.1 with hk | hk;exact .inl hk.1;exact .inr (by omega))⟩,⟨set4_below HB2.out (by omega)⟩⟩)
  ·
   (rw [if_neg n1] at HPF);(have d2:((d.length:Int) == 1)=false:=by rw [beq_eq_false_iff_ne];omega)
   by_cases hf:1≤fav∧fav≤(l.length:Int)
   ·
    (rw [if_pos hf] at HPF);obtain ⟨j,rfl⟩ : ∃ j:Nat,fav=(j:Int)+1:=⟨(fav - 1).toNat,by omega⟩;(have hjl:j < l.length:=by omega);obtain ⟨ad,cs1,rfl,hcl,hFK,hcell,_⟩:=Kd.F_get hF2.out [] (j:Int) (by omega) (by omega);(rw [Int.toNat_natCast] at hFK hcell);(rw [show ((j:Int)+1 - 1).toNat=j by omega] at HPF);obtain ⟨Ay,cy,rfl,ly,hFy⟩:=Kd.FK_slice_open hFK;have xy:=hcell 0 _ rfl
    replace xy:w2.cell? (ad.add j)=some (.slice Ay (l.getD j []).length cy):=by
     (have e:j * KSs.sz+0=j:=by show j * 1+0=j;omega);(rw [e] at xy;exact xy)
    have HFY:=Aside0.mk hFy;obtain ⟨y,hy⟩ : ∃ y,l.getD j []=y:=⟨_,rfl⟩;(rw [hy] at xy ly HFY HPF);have e1:decide (1≤(j:Int)+1)=true:=decide_eq_true (by omega);have e2:decide ((j:Int)+1≤(l.length:Int))=true:=decide_eq_true (by omega);(have e3:wrap64 ((j:Int)+1 - 1)=(j:Int):=by rw [gw (by omega) (by omega)];omega);(have e4:(j:Int) < (l.length:Int):=by omega);(have e5:(0:Int)≤(j:Int):=by omega);clear hFK hcell hcl hFy hy;go_wp2;refine bodyPost_ret (results_cell_row rfl _ _ (w.heap.size+1) 66 #[.bool false, .slice Ay y.length cy, .slice none 0 0, .slice none 0 0] (0,0) _ rfl (set4_same G1.out) Tryz.underlying66 rfl (by kernel_rfl)) rfl ?_;exact ⟨_,rfl,⟨by rw [HPF.out];exact PieceAt.set4 (PieceAt.text rfl ly HFY.out) HOK1.out HOK2.out⟩,⟨set4_below HB2.out (by omega)⟩⟩
   ·
    (rw [if_neg hf] at HPF);obtain ⟨hrd1,hrd2,hrd3⟩:=Kd.N_reads' HD.out;have HRD:=Aside0.mk hrd3;clear hrd1 hrd3
    cases un with
    | true =>
     (rw [if_pos rfl] at HPF);(have hshort : ∀ y ∈ d,Short 1000000000 y:=fun y hy=>HZ.out y (HDI.out.1 y hy));have hsum:(d.map List.length).sum≤1000000000:=Nat.le_trans HDI.out.2 HS.out;have hdl:d.length≤1000000:=Nat.le_trans HDL.out hn;have HSH:=Aside0.mk hshort;have HSUM:=Aside0.mk hsum;clear hshort hsum
     by_cases hf1:1≤fav
     (· (have hf2 : ¬ fav≤(l.length:Int):=fun h=>hf ⟨hf1,h⟩);have e1:decide (1≤fav)=true:=decide_eq_true hf1;have e2:decide (fav≤(l.length:Int))=false:=decide_eq_false hf2;(go_wp2_with fail);refine (pick_union Ad cd d w2 HRD.out hrd2 hdl HSH.out HSUM.out).mono ?_;rintro e w3 ⟨v3,rfl,HR3,HB3⟩;obtain ⟨A3,c3,rfl⟩:=Kd.R_slice HR3.out;have G13:=Aside0.mk (farKeep G1.out HB3.out);have ya3:w3.cell? ⟨w.heap.size+1,0,none⟩=some (.bool false):=cell_blk G13.out rfl;have yb3:w3.cell? ⟨w.heap.size+1,1,none⟩=some (.slice none 0 0):=cell_blk G13.out rfl;have yc3:w3.cell? ⟨w.heap.size+1,2,none⟩=some (.slice none 0 0):=cell_blk G13.out rfl;have yd3:w3.cell? ⟨w.heap.size+1,3,none⟩=some (.slice none 0 0):=cell_blk G13.out rfl;(have fz3 : ∀ j,w3.frozen? ⟨w.heap.size+1,j,none⟩=false:=fun j=>frozen_of_row _ _ _ _ _ G13.out);have fa3:=fz3 0;clear ya yb yc yd fa fz h0 h1;go_wp2;refine bodyPost_ret (results_cell_row rfl _ _ (w.heap.size+1) 66 #[.bool false, .slice A3 (unionF d).length c3, .slice none 0 0, .slice none 0 0] (0,0) _ rfl (set4_same G13.out) Tryz.underlying66 rfl (by kernel_rfl)) rfl ?_;exact ⟨_,rfl,⟨by rw [HPF.out];exact PieceAt.set4 (PieceAt.text rfl (Kd.R_reads' HR3.out).2.1 (Kd.R_F (Kd.R_bound HR3.out))) (fun k hk=>by have:=HSZ.out;have:=hk.2.1;omega) (fun k hk => .inr (by have:=HSZ.out;have:=hk.2.1;omega))⟩,⟨set4_below (far_ HB2.out HB3.out) (by omega)⟩⟩);(· have e1:decide (1≤fav)=false:=decide_eq_false hf1;(go_wp2_with fail);refine (pick_union Ad cd d w2 HRD.out hrd2 hdl HSH.out HSUM.out).mono ?_;rintro e w3 ⟨v3,rfl,HR3,HB3⟩;obtain ⟨A3,c3,rfl⟩:=Kd.R_slice HR3.out;have G13:=Aside0.mk (farKeep G1.out HB3.out);have ya3:w3.cell? ⟨w.heap.size+1,0,none⟩=some (.bool false):=cell_blk G13.out rfl;have yb3:w3.cell? ⟨w.heap.size+1,1,none⟩=some (.slice none 0 0):=cell_blk G13.out rfl;have yc3:w3.cell? ⟨w.heap.size+1,2,none⟩=some (.slice none 0 0):=cell_blk G13.out rfl;have yd3:w3.cell? ⟨w.heap.size+1,3,none⟩=some (.slice none 0 0):=cell_blk G13.out rfl;(have fz3 : ∀ j,w3.frozen? ⟨w.heap.size+1,j,none⟩=false:=fun j=>frozen_of_row _ _ _ _ _ G13.out);have fa3:=fz3 0;clear ya yb yc yd fa fz h0 h1;go_wp2;refine bodyPost_ret (results_cell_row rfl _ _ (w.heap.size+1) 66 #[.bool false, .slice A3 (unionF d).length c3, .slice none 0 0, .slice none 0 0] (0,0) _ rfl (set4_same G13.out) Tryz.underlying66 rfl (by kernel_rfl)) rfl ?_;exact ⟨_,rfl,⟨by rw [HPF.out];exact PieceAt.set4 (PieceAt.text rfl (Kd.R_reads' HR3.out).2.1 (Kd.R_F (Kd.R_bound HR3.out))) (fun k hk=>by have:=HSZ.out;have:=hk.2.1;omega) (fun k hk => .inr (by have:=HSZ.out;have:=hk.2.1;omega))⟩,⟨set4_below (far_ HB2.out HB3.out) (by omega)⟩⟩)
    | false =>
     (rw [if_neg (by decide)] at HPF)
     have HEND:Aside0 (∀ cs,cs=#[.bool true, .slice none 0 0, .slice Ax x.length cx, .slice A l.length c]→PieceAt (set4 w2 (w.heap.size+1) (.bool true) (.slice none 0 0) (.slice Ax x.length cx) (.slice A l.length c)) (fun k=>P k∨w.heap.size≤k) p cs):=⟨fun cs hcs=>by
      rw [HPF.out,hcs]
      exact PieceAt.set4 (p:=(⟨true,[],x,l⟩:Piece)) ⟨none,0,Ax,cx,A,c,rfl,Nat.le_refl _,Kd.F_nil _ _ _,lx,hX2.out,hc,hF2.out⟩ HOK1.out HOK2.out⟩
     by_cases hf1:1≤fav
     (· (have hf2 : ¬ fav≤(l.length:Int):=fun h=>hf ⟨hf1,h⟩);have e1:decide (1≤fav)=true:=decide_eq_true hf1;have e2:decide (fav≤(l.length:Int))=false:=decide_eq_false hf2;go_wp2;refine bodyPost_ret (results_cell_row rfl _ _ (w.heap.size+1) 66 #[.bool true, .slice none 0 0, .slice Ax x.length cx, .slice A l.length c] (0,0) _ rfl (set4_same G1.out) Tryz.underlying66 rfl (by kernel_rfl)) rfl ?_;exact ⟨_,rfl,⟨HEND.out _ rfl⟩,⟨set4_below HB2.out (by omega)⟩⟩);(· have e1:decide (1≤fav)=false:=decide_eq_false hf1;go_wp2;refine bodyPost_ret (results_cell_row rfl _ _ (w.heap.size+1) 66 #[.bool true, .slice none 0 0, .slice Ax x.length cx, .slice A l.length c] (0,0) _ rfl (set4_same G1.out) Tryz.underlying66 rfl (by kernel_rfl)) rfl ?_;exact ⟨_,rfl,⟨HEND.out _ rfl⟩,⟨set4_below HB2.out (by omega)⟩⟩)
/-- A function that asks something of a list of texts, and only reads. -/
def Asks (fn:Nat) (p:List ByteArray→Bool) (L:List (List ByteArray)):Prop :=
  ∀ (l:List ByteArray),l ∈ L → ∀ (A:Option Addr) (c:Nat) (w:World),Kd.C Kd.string w A l.length l→l.length≤c→Calls Tryz.prog fn #[.slice A l.length c] w fun e w'=>e = .returned (.bool (p l))∧Drawn0 w w'
/-- The first place whose list is so; -1: none. -/
def findL (p:List ByteArray→Bool) (L:List (List ByteArray)):Int:=match L.findIdx? p with | some i=>(i:Int) | none => -1
theorem find_go {p:List ByteArray→Bool} {L:List (List ByteArray)} {k:Nat} (hk:k < L.length) (h : ∀ l ∈ L.take k,p l=false) (hp:p L[k]=true):findL p L=(k:Int):=by
 have:L.findIdx? p=some k:=by
  rw [List.findIdx?_eq_some_iff_getElem]
  exact ⟨hk,hp,fun j hj=>by
   have:L[j] ∈ L.take k:=by
    (rw [List.mem_take_iff_getElem];exact ⟨j,by omega,rfl⟩)
   rw [h _ this];decide⟩
 rw [findL,this]
theorem find_none {p:List ByteArray→Bool} {L:List (List ByteArray)} (h : ∀ l ∈ L,p l=false):findL p L = -1:=by
 have:L.findIdx? p=none:=List.findIdx?_eq_none_iff.2 (fun x hx=>by rw [h x hx]);rw [findL,this]
set_option maxRecDepth 100000 in
set_option maxHeartbeats 2000000 in
theorem indexFunc_1 (p:List ByteArray→Bool) (A:Option Addr) (c:Nat) (L:List (List ByteArray)) (w:World) (hp:Asks 62 p L) (hC:Kd.C (Kd.slice 9 Kd.string) w A L.length L) (hc:L.length≤c) (hL:L.length≤1000000) :
    Calls Tryz.prog 94 #[.slice A L.length c, .func (.func 62) #[] #[]] w fun e w'=>e = .returned (.int .i64 (findL p L))∧Drawn0 w w':=by
 have HC:=Aside0.mk hC;have HP:=Aside0.mk hp;clear hC hp;go_enter Tryz.func94,Tryz.ntmps94;(go_wp2_with fail)
 go_loopw [8,5] (fun i _ wr => ∃ (k:Nat),k≤L.length∧i = .int .i64 k∧Aside0 (∀ l ∈ L.take k,p l=false)∧Aside0 (Drawn0 w wr)) (fun i _ _=>L.length - (intOf i).toNat)
 (case atStart=>exact ⟨0,Nat.zero_le _,rfl,⟨by simp⟩,⟨Drawn0.refl _⟩⟩)
 case round =>
  obtain ⟨k,hk,rfl,HF,HD⟩:=hrel
  by_cases hlt:k < L.length
  ·
   obtain ⟨ad,A5,c5,rfl,hrow,hc5,hC5⟩:=at_slice HC.out k hlt;obtain ⟨n,hn⟩:=HD.out;subst hn;(replace hrow:(w.drewN n).cell? (ad.add k)=some (.slice A5 (L.getD k []).length c5):=by simpa using hrow);obtain ⟨l,hle⟩ : ∃ l,L.getD k []=l:=⟨_,rfl⟩;(have hlm:l ∈ L:=by rw [← hle,getD_get hlt];exact List.getElem_mem hlt);(have hlk:L[k]=l:=by rw [← hle,getD_get hlt]);have HLK:=Aside0.mk hlk;(rw [hle] at hrow hc5 hC5);have HC5:Aside0 (Kd.C Kd.string (w.drewN n) A5 l.length l):=⟨Kd.C_drewN hC5 _⟩;have Hc5:=Aside0.mk hc5;have HLM:=Aside0.mk hlm;clear hc5 hC5 hle hlm hlk;cases hpl:p l
   ·
    have HPL:=Aside0.mk hpl;clear hpl;(go_wp2_with fail);refine (HP.out l HLM.out A5 c5 _ HC5.out Hc5.out).mono ?_;rintro e' w' ⟨rfl,n2,rfl⟩;rw [HPL.out];go_wp2;go_roundw;(case measure=>simp [intOf];omega)
    case rel=>exact ⟨k+1,by omega,by go_num,⟨fun y hy=>by
     (rw [← List.take_append_getElem hlt] at hy)
     rcases List.mem_append.1 hy with hy | hy
     (· exact HF.out y hy)
     ·
      rw [List.mem_singleton.1 hy,HLK.out];exact HPL.out⟩,⟨by first | exact ⟨_,rfl⟩ | exact ⟨_,World.drewN_drewN _ _ _⟩⟩⟩
   (· have HPL:=Aside0.mk hpl;clear hpl;have HFK:Aside0 (findL p L=(k:Int)):=⟨find_go hlt HF.out (by rw [HLK.out];exact HPL.out)⟩;(go_wp2_with fail);refine (HP.out l HLM.out A5 c5 _ HC5.out Hc5.out).mono ?_;rintro e' w' ⟨rfl,n2,rfl⟩;rw [HPL.out];go_wp2;go_ret;exact ⟨by rw [HFK.out];rfl,by first | exact ⟨_,rfl⟩ | exact ⟨_,World.drewN_drewN _ _ _⟩⟩)
  (· (have hk':k=L.length:=by omega);subst hk';(rw [List.take_length] at HF);have HFN:=Aside0.mk (find_none HF.out);have HD':=HD.out;go_wp2;go_ret;exact ⟨by rw [HFN.out];rfl,HD'⟩)
theorem containsFunc_1 (p:List ByteArray→Bool) (A:Option Addr) (c:Nat) (L:List (List ByteArray)) (w:World) (hp:Asks 62 p L) (hC:Kd.C (Kd.slice 9 Kd.string) w A L.length L) (hc:L.length≤c) (hL:L.length≤1000000) :
    Calls Tryz.prog 65 #[.slice A L.length c, .func (.func 62) #[] #[]] w fun e w'=>e = .returned (.bool (L.any p))∧Drawn0 w w':=by
 obtain ⟨q,hq⟩ : ∃ q,findL p L=q:=⟨_,rfl⟩
 have hany:L.any p=decide (q ≥ 0):=by
  rw [← hq,findL]
  cases h:L.findIdx? p with
  | none =>
   have:=List.findIdx?_eq_none_iff.1 h;show _=false;rw [List.any_eq_false];(exact fun x hx=>by rw [this x hx];decide)
  | some i =>
   obtain ⟨hi,h1,_⟩:=List.findIdx?_eq_some_iff_getElem.1 h;have:decide ((i:Int) ≥ 0)=true:=decide_eq_true (by omega);show _=decide ((i:Int) ≥ 0);rw [this,List.any_eq_true];exact ⟨_,List.getElem_mem hi,h1⟩
 have HANY:=Aside0.mk hany;have HQ:=Aside0.mk hq;have HC:=Aside0.mk hC;have HP:=Aside0.mk hp;clear hany hq hC hp;go_enter Tryz.func65,Tryz.ntmps65;(go_wp2_with fail);refine (indexFunc_1 p A c L _ HP.out HC.out hc hL).mono ?_;rintro e w1 ⟨rfl,n,rfl⟩;rw [HQ.out];go_wp2;go_ret;exact ⟨by rw [HANY.out];rfl,⟨n,rfl⟩⟩
set_option maxRecDepth 100000 in
set_option maxHeartbeats 2000000 in
theorem indexFunc_2 (p:List ByteArray→Bool) (A:Option Addr) (c:Nat) (L:List (List ByteArray)) (w:World) (hp:Asks 64 p L) (hC:Kd.C (Kd.slice 9 Kd.string) w A L.length L) (hc:L.length≤c) (hL:L.length≤1000000) :
    Calls Tryz.prog 94 #[.slice A L.length c, .func (.func 64) #[] #[]] w fun e w'=>e = .returned (.int .i64 (findL p L))∧Drawn0 w w':=by
 have HC:=Aside0.mk hC;have HP:=Aside0.mk hp;clear hC hp;go_enter Tryz.func94,Tryz.ntmps94;(go_wp2_with fail)
 go_loopw [8,5] (fun i _ wr => ∃ (k:Nat),k≤L.length∧i = .int .i64 k∧Aside0 (∀ l ∈ L.take k,p l=false)∧Aside0 (Drawn0 w wr)) (fun i _ _=>L.length - (intOf i).toNat)
 (case atStart=>exact ⟨0,Nat.zero_le _,rfl,⟨by simp⟩,⟨Drawn0.refl _⟩⟩)
 case round =>
  obtain ⟨k,hk,rfl,HF,HD⟩:=hrel
  by_cases hlt:k < L.length
  ·
   obtain ⟨ad,A5,c5,rfl,hrow,hc5,hC5⟩:=at_slice HC.out k hlt;obtain ⟨n,hn⟩:=HD.out;subst hn;(replace hrow:(w.drewN n).cell? (ad.add k)=some (.slice A5 (L.getD k []).length c5):=by simpa using hrow);obtain ⟨l,hle⟩ : ∃ l,L.getD k []=l:=⟨_,rfl⟩;(have hlm:l ∈ L:=by rw [← hle,getD_get hlt];exact List.getElem_mem hlt);(have hlk:L[k]=l:=by rw [← hle,getD_get hlt]);have HLK:=Aside0.mk hlk;(rw [hle] at hrow hc5 hC5);have HC5:Aside0 (Kd.C Kd.string (w.drewN n) A5 l.length l):=⟨Kd.C_drewN hC5 _⟩;have Hc5:=Aside0.mk hc5;have HLM:=Aside0.mk hlm;clear hc5 hC5 hle hlm hlk;cases hpl:p l
   ·
    have HPL:=Aside0.mk hpl;clear hpl;(go_wp2_with fail);refine (HP.out l HLM.out A5 c5 _ HC5.out Hc5.out).mono ?_;rintro e' w' ⟨rfl,n2,rfl⟩;rw [HPL.out];go_wp2;go_roundw;(case measure=>simp [intOf];omega)
    case rel=>exact ⟨k+1,by omega,by go_num,⟨fun y hy=>by
     (rw [← List.take_append_getElem hlt] at hy)
     rcases List.mem_append.1 hy with hy | hy
     (· exact HF.out y hy)
     ·
      rw [List.mem_singleton.1 hy,HLK.out];exact HPL.out⟩,⟨by first | exact ⟨_,rfl⟩ | exact ⟨_,World.drewN_drewN _ _ _⟩⟩⟩
   (· have HPL:=Aside0.mk hpl;clear hpl;have HFK:Aside0 (findL p L=(k:Int)):=⟨find_go hlt HF.out (by rw [HLK.out];exact HPL.out)⟩;(go_wp2_with fail);refine (HP.out l HLM.out A5 c5 _ HC5.out Hc5.out).mono ?_;rintro e' w' ⟨rfl,n2,rfl⟩;rw [HPL.out];go_wp2;go_ret;exact ⟨by rw [HFK.out];rfl,by first | exact ⟨_,rfl⟩ | exact ⟨_,World.drewN_drewN _ _ _⟩⟩)
  (· (have hk':k=L.length:=by omega);subst hk';(rw [List.take_length] at HF);have HFN:=Aside0.mk (find_none HF.out);have HD':=HD.out;go_wp2;go_ret;exact ⟨by rw [HFN.out];rfl,HD'⟩)
theorem containsFunc_2 (p:List ByteArray→Bool) (A:Option Addr) (c:Nat) (L:List (List ByteArray)) (w:World) (hp:Asks 64 p L) (hC:Kd.C (Kd.slice 9 Kd.string) w A L.length L) (hc:L.length≤c) (hL:L.length≤1000000) :
    Calls Tryz.prog 65 #[.slice A L.length c, .func (.func 64) #[] #[]] w fun e w'=>e = .returned (.bool (L.any p))∧Drawn0 w w':=by
 obtain ⟨q,hq⟩ : ∃ q,findL p L=q:=⟨_,rfl⟩
 have hany:L.any p=decide (q ≥ 0):=by
  rw [← hq,findL]
  cases h:L.findIdx? p with
  | none =>
   have:=List.findIdx?_eq_none_iff.1 h;show _=false;rw [List.any_eq_false];(exact fun x hx=>by rw [this x hx];decide)
  | some i =>
   obtain ⟨hi,h1,_⟩:=List.findIdx?_eq_some_iff_getElem.1 h;have:decide ((i:Int) ≥ 0)=true:=decide_eq_true (by omega);show _=decide ((i:Int) ≥ 0);rw [this,List.any_eq_true];exact ⟨_,List.getElem_mem hi,h1⟩
 have HANY:=Aside0.mk hany;have HQ:=Aside0.mk hq;have HC:=Aside0.mk hC;have HP:=Aside0.mk hp;clear hany hq hC hp;go_enter Tryz.func65,Tryz.ntmps65;(go_wp2_with fail);refine (indexFunc_2 p A c L _ HP.out HC.out hc hL).mono ?_;rintro e w1 ⟨rfl,n,rfl⟩;rw [HQ.out];go_wp2;go_ret;exact ⟨by rw [HANY.out];rfl,⟨n,rfl⟩⟩
def longL (l:List ByteArray):Bool:=decide (2000 < l.length)
theorem wrong_long (L:List (List ByteArray)) (hL : ∀ l ∈ L,l.length≤1000000000000):Asks 64 longL L:=by
 intro l hl A c w hC hc;have hb:=hL l hl;(have hb2:(l.length:Int)≤1000000000000:=by omega)
 by_cases h:2000 < l.length
 (· rw [longL,decide_eq_true h];go_enter Tryz.func64,Tryz.ntmps64;go_wp2;go_ret;exact ⟨by simp;omega,Drawn0.refl _⟩);(· rw [longL,decide_eq_false h];go_enter Tryz.func64,Tryz.ntmps64;go_wp2;go_ret;exact ⟨by simp;omega,Drawn0.refl _⟩)
theorem wrong_odd (may:List ByteArray→Bool) (L:List (List ByteArray)) (hm : ∀ l ∈ L,Gives (fun k=>lines_May.f k l) (may l)):Asks 62 (fun l => !may l) L:=by
 intro l hl A c w hC hc;obtain ⟨k,hk⟩:=hm l hl;have hk:=hk k (Nat.le_refl _);have HK:=Aside0.mk hk;have HC:=Aside0.mk hC;clear hk hC hm;have HK:Aside0 (lines_May.f k l=some (may l)):=HK;(show Calls _ _ _ _ fun e w'=>e = .returned (.bool (!may l))∧Drawn0 w w');obtain ⟨m,hm⟩ : ∃ m,may l=m:=⟨_,rfl⟩;(rw [hm] at HK ⊢);clear hm;go_enter Tryz.func62,Tryz.ntmps62;(go_wp2_with fail);refine (lines_May.calls k A c l m _ HC.out hc HK.out).mono ?_;rintro e w1 ⟨rfl,n,rfl⟩;go_wp2;go_ret;exact ⟨rfl,⟨n,rfl⟩⟩
def wrongF (may:List ByteArray→Bool) (L:List (List ByteArray)):Int :=
  if L.length < 2∨17 < L.length then 1 else if L.any (fun l => !may l)=true then 2 else if L.any longL=true then 4 else 0
set_option maxHeartbeats 2000000 in
theorem wrong_calls (may:List ByteArray→Bool) (A:Option Addr) (c:Nat) (L:List (List ByteArray)) (w:World) (hm : ∀ l ∈ L,Gives (fun k=>lines_May.f k l) (may l)) (hl : ∀ l ∈ L,l.length≤1000000000000) (hC:Kd.C (Kd.slice 9 Kd.string) w A L.length L) (hc:L.length≤c) (hL:L.length≤1000000) :
    Calls Tryz.prog 34 #[.slice A L.length c] w fun e w'=>e = .returned (.int .i64 (wrongF may L))∧Drawn0 w w':=by
 have HC:=Aside0.mk hC;have H1:=Aside0.mk (wrong_odd may L hm);have H2:=Aside0.mk (wrong_long L hl);clear hC hm hl;obtain ⟨n,hn⟩ : ∃ n,L.length=n:=⟨_,rfl⟩;have HN:=Aside0.mk hn;unfold wrongF
 have hcall1 : ∀ (p:List ByteArray→Bool) (W:World),Asks 62 p L→Kd.C (Kd.slice 9 Kd.string) W A L.length L→Calls Tryz.prog 65 #[.slice A n c, .func (.func 62) #[] #[]] W fun e w'=>e = .returned (.bool (L.any p))∧Drawn0 W w':=by
  intro p W h1 h2;rw [← hn];exact containsFunc_1 p A c L W h1 h2 hc hL
 have HCALL1:=Aside0.mk hcall1
 have hcall2 : ∀ (p:List ByteArray→Bool) (W:World),Asks 64 p L→Kd.C (Kd.slice 9 Kd.string) W A L.length L→Calls Tryz.prog 65 #[.slice A n c, .func (.func 64) #[] #[]] W fun e w'=>e = .returned (.bool (L.any p))∧Drawn0 W w':=by
  intro p W h1 h2;rw [← hn];exact containsFunc_2 p A c L W h1 h2 hc hL
 have HCALL2:=Aside0.mk hcall2;obtain ⟨b1,hb1⟩ : ∃ b,L.any (fun l => !may l)=b:=⟨_,rfl⟩;obtain ⟨b2,hb2⟩ : ∃ b,L.any longL=b:=⟨_,rfl⟩;rw [hb1,hb2,hn];(rw [hn] at hc hL);have HB1:=Aside0.mk hb1;have HB2:=Aside0.mk hb2;clear hb1 hb2 hn hcall1 hcall2
 by_cases h2:n < 2
 (· have d1:decide ((n:Int) < 2)=true:=decide_eq_true (by omega);rw [if_pos (.inl h2)];go_enter Tryz.func34,Tryz.ntmps34;go_wp2;go_ret;exact ⟨rfl,Drawn0.refl _⟩)
 ·
  have d1:decide ((n:Int) < 2)=false:=decide_eq_false (by omega)
  by_cases h17:17 < n
  (· have d2:decide (17 < (n:Int))=true:=decide_eq_true (by omega);rw [if_pos (.inr h17)];go_enter Tryz.func34,Tryz.ntmps34;go_wp2;go_ret;exact ⟨rfl,Drawn0.refl _⟩)
  ·
   have d2:decide (17 < (n:Int))=false:=decide_eq_false (by omega);rw [if_neg (by omega)];cases b1
   ·
    cases b2
    all_goals
     go_enter Tryz.func34,Tryz.ntmps34;(go_wp2_with fail);refine (HCALL1.out _ _ H1.out HC.out).mono ?_;rintro e w1 ⟨rfl,n1,rfl⟩;rw [HB1.out];(go_wp2_with fail);refine (HCALL2.out _ _ H2.out (Kd.C_drewN HC.out _)).mono ?_;rintro e w1 ⟨rfl,n2,rfl⟩;rw [HB2.out];go_wp2;go_ret;exact ⟨rfl,by first | exact ⟨_,rfl⟩ | exact ⟨_,World.drewN_drewN _ _ _⟩⟩
   (· go_enter Tryz.func34,Tryz.ntmps34;(go_wp2_with fail);refine (HCALL1.out _ _ H1.out HC.out).mono ?_;rintro e w1 ⟨rfl,n1,rfl⟩;rw [HB1.out];go_wp2;go_ret;exact ⟨rfl,⟨_,rfl⟩⟩)
/-- May a text be a line: ended, or not. -/
def lineClosed (s:ByteArray):Bool:=decide (0≤Lib.indexByte s.data.toList 10∧Lib.indexByte s.data.toList 10=(s.size:Int) - 1)
def lineOpen (s:ByteArray):Bool:=decide (Lib.indexByte s.data.toList 10 < 0∧0 < s.size)
def mayL:List ByteArray→Bool
  | []=>true
  | s :: t=>(lineClosed s || (lineOpen s && t.isEmpty)) && mayL t
theorem may_l0 (l:List ByteArray) (hl:l.length≤1000000000000) (hz : ∀ s ∈ l,s.size≤1000000000000000) : ∀ (r i:Nat),i+r=l.length→Gives (fun k=>lines_May.l0 k l l (l.length:Int) (i:Int)) (mayL (l.drop i))
 | 0,i,hi=>Gives.of fun k=>by
  show lines_May.l0 (k+1) l l (l.length:Int) (i:Int)=_;rw [lines_May.l0,if_neg (by omega),List.drop_of_length_le (by omega)];rfl
 | r+1,i,hi=>by
  (have hil:i < l.length:=by omega);have hzi:=hz l[i] (List.getElem_mem _);have ih:=may_l0 l hl hz r (i+1) (by omega)
  have e : ∀ k,lines_May.l0 (k+1) l l (l.length:Int) (i:Int)=if Lib.indexByte l[i].data.toList 10 < 0 then (if (l[i].size:Int) > 0 then (if (i:Int)=(l.length:Int) - 1 then lines_May.l0 k l l (l.length:Int) ((i+1:Nat):Int) else some false) else some false) else (if Lib.indexByte l[i].data.toList 10=(l[i].size:Int) - 1 then lines_May.l0 k l l (l.length:Int) ((i+1:Nat):Int) else some false):=fun k=>by
   rw [lines_May.l0,if_pos (by omega),if_pos (by omega),if_pos (by omega),rdOfN hil,gw1 (by omega),gw (by omega) (by omega),gw (by omega) (by omega)];rfl
  have hle:((l.drop (i+1)).isEmpty=true)↔i+1=l.length:=by
   (rw [List.isEmpty_iff,List.drop_eq_nil_iff];omega)
  rw [dropCons hil,mayL]
  by_cases h1:Lib.indexByte l[i].data.toList 10 < 0
  ·
   have hc:lineClosed l[i]=false:=decide_eq_false (by omega);rw [hc,Bool.false_or]
   by_cases h2:0 < l[i].size
   ·
    have ho:lineOpen l[i]=true:=decide_eq_true ⟨h1,h2⟩;rw [ho,Bool.true_and]
    by_cases h3:i+1=l.length
    ·
     rw [hle.2 h3,Bool.true_and]
     exact ih.step fun k=>by
      show lines_May.l0 (k+1) l l (l.length:Int) (i:Int)=_;rw [e k,if_pos h1,if_pos (by omega),if_pos (by omega)]
    ·
     have:(l.drop (i+1)).isEmpty=false:=by
      cases hh:(l.drop (i+1)).isEmpty;(· rfl);(· exact absurd (hle.1 hh) h3)
     rw [this,Bool.false_and]
     exact Gives.of fun k=>by
      show lines_May.l0 (k+1) l l (l.length:Int) (i:Int)=_;rw [e k,if_pos h1,if_pos (by omega),if_neg (by omega)]
   ·
    have ho:lineOpen l[i]=false:=decide_eq_false (by omega);rw [ho,Bool.false_and,Bool.false_and]
    exact Gives.of fun k=>by
     show lines_May.l0 (k+1) l l (l.length:Int) (i:Int)=_;rw [e k,if_pos h1,if_neg (by omega)]
  ·
   have ho:lineOpen l[i]=false:=decide_eq_false (by omega);rw [ho,Bool.false_and,Bool.or_false]
   by_cases h2:Lib.indexByte l[i].data.toList 10=(l[i].size:Int) - 1
   ·
    have hc:lineClosed l[i]=true:=decide_eq_true ⟨by omega,h2⟩;rw [hc,Bool.true_and]
    exact ih.step fun k=>by
     show lines_May.l0 (k+1) l l (l.length:Int) (i:Int)=_;rw [e k,if_neg h1,if_pos h2]
   ·
    have hc:lineClosed l[i]=false:=decide_eq_false (by omega);rw [hc,Bool.false_and]
    exact Gives.of fun k=>by
     show lines_May.l0 (k+1) l l (l.length:Int) (i:Int)=_;rw [e k,if_neg h1,if_neg h2]
theorem may_gives (l:List ByteArray) (hl:l.length≤1000000000000) (hz : ∀ s ∈ l,s.size≤1000000000000000):Gives (fun k=>lines_May.f k l) (mayL l) :=
  (may_l0 l hl hz l.length 0 (by omega)).same fun k=>rfl
section
variable {P:Program} {ops:Array Oper} {Q:Exit→Act→World→Prop}
/-- A call of a closure, in a drawn region. -/
theorem goesC_ {oi:Oper} {N:Option Tmp} {a:Act} {w:World} {K:Act→World→Prop} {f:FuncId} {fn:Func} {cal:Operand} {asx:Array Operand} {ts:Array TypeId} (hf:P.funcs[f]? = some fn) (hname:(fn.name == "runtime.NumGoroutine")=false) (hb:fn.body.isSome=true) (cap args:Array Value)
    (hw:Region.wanted oi (yielded ops a.tmps)=true) (hN:oi.dst=N) (hop:oi.op = .call { callee := .value cal,args:=asx,argTypes:=ts }) (hcal:a.eval cal = .func (.func f) #[] cap) (hargs:asx.map a.eval ++ cap=args)
    (h:Calls P f args w fun e w' => ∃ v,e = .returned v∧K (a.put N v) w'):if Region.wanted oi (yielded ops a.tmps)=true then Oper.wp P oi a w K Q else K (a.put N undef) w:=by
 refine call_ f args hw hN ?_ h;have he:=enters_ hf hname hb args w;unfold execOp;simp [hop,resolve,Deferred.ofValue,invoke,hcal,hargs,he]
end
abbrev Chunk:=S48
abbrev Spanx:=S45
theorem set_keepA {W:World} {b g j:Nat} {o:Obj} (h:W.heap[b]? = some o) (hne:b≠g) (v:Value):(W.setCell ⟨g,j,none⟩ v).heap[b]? = some o:=(heap_set_other hne v).trans h
theorem blk_neA {W:World} {a b:Nat} {cs cs':Array Value} {t t':TypeId} (h:W.heap[a]? = some (.cells cs t (0,0))) (k:W.heap[b]? = some (.cells cs' t' (0,0))) (ht:t≠t'):a≠b:=by
 rintro rfl;(rw [h] at k);(injection k with k);(injection k with _ e _);exact ht e
/-- The cutter, where it stands. -/
def CutIn (w0 W:World) (B g gs:Nat) (base:Int) (sides:List Int) (out:List Chunk):Prop :=
  ∃ vo,W.heap[g]? = some (.cells #[.int .i64 base, .slice (some ⟨gs,0,none⟩) sides.length sides.length,vo] 126 (0,0))∧B≤g ∧
    W.heap[gs]? = some (.cells (sides.map (Value.int .i64)).toArray 3 (0,0))∧B≤gs∧Kd.S k48 48 W B (fun _=>True) vo out∧Below B w0 W
/-- All blocks stay but two. -/
def AKeeps (g gs:Nat) (W W':World):Prop:=W.heap.size≤W'.heap.size ∧ ∀ k,k < W.heap.size→k≠g→k≠gs→W'.heap[k]? = W.heap[k]?
theorem AKeeps.refl (g gs:Nat) (W:World):AKeeps g gs W W:=⟨Nat.le_refl _,fun _ _ _ _=>rfl⟩
theorem AKeeps.below {g gs:Nat} {W W1 W2:World} (h:AKeeps g gs W W1) (hb:Below W1.heap.size W1 W2):AKeeps g gs W W2:=⟨Nat.le_trans h.1 hb.size,fun k hk h1 h2=>(hb.block k (by have:=h.1;omega)).trans (h.2 k hk h1 h2)⟩
/-- All blocks of cells stay but two, and those of chunks. -/
def CKeeps (g gs:Nat) (W W':World):Prop:=W.heap.size≤W'.heap.size ∧ ∀ (k:Nat) (cells:Array Value) (q:TypeId) (fr:Nat × Nat),k≠g→k≠gs→W.heap[k]? = some (.cells cells q fr)→q≠48→W'.heap[k]? = some (.cells cells q fr)
theorem AKeeps.toC {g gs:Nat} {W W':World} (h:AKeeps g gs W W'):CKeeps g gs W W':=⟨h.1,fun k c q fr a b hk _=>(h.2 k (Array.getElem?_eq_some_iff.1 hk).1 a b).trans hk⟩
def spansF (sides ats:List Int) (i:Nat):List Spanx:=(List.zipWith (fun f t=>(⟨f,t⟩:Spanx)) sides ats).take i
def someB (base0 base:Int) (sides ats:List Int) (i:Nat):Bool:=decide (base0 < base) || ((List.zip sides ats).take i).any (fun x=>decide (x.1 < x.2))
def cutOut (stable:Bool) (base0 base:Int) (sides ats:List Int) (out:List Chunk):List Chunk :=
  if someB base0 base sides ats sides.length=true then out ++ [⟨stable,⟨base0,base⟩,spansF sides ats sides.length⟩] else out
theorem far_keep {W W':World} {k:Nat} {o:Obj} (h:W.heap[k]? = some o) (hb:Below W.heap.size W W'):W'.heap[k]? = some o:=(hb.block k (Array.getElem?_eq_some_iff.1 h).1).trans h
theorem spansF_len {sides ats:List Int} {i:Nat} (h:ats.length=sides.length) (hi:i≤sides.length):(spansF sides ats i).length=i:=by
 (rw [spansF,List.length_take,List.length_zipWith,h,Nat.min_self];omega)
theorem spansF_succ {sides ats:List Int} {i:Nat} (h:ats.length=sides.length) (hi:i < sides.length):spansF sides ats (i+1)=spansF sides ats i ++ [⟨sides.getD i 0,ats.getD i 0⟩]:=by
 (have hl:i < (List.zipWith (fun f t=>(⟨f,t⟩:Spanx)) sides ats).length:=by rw [List.length_zipWith,h,Nat.min_self];exact hi);rw [spansF,spansF,← List.take_append_getElem hl,List.getElem_zipWith,getD_get hi,getD_get (by omega)]
theorem someB_succ {base0 base:Int} {sides ats:List Int} {i:Nat} (h:ats.length=sides.length) (hi:i < sides.length):someB base0 base sides ats (i+1)=(someB base0 base sides ats i || decide (sides.getD i 0 < ats.getD i 0)):=by
 (have hl:i < (List.zip sides ats).length:=by rw [List.length_zip,h,Nat.min_self];exact hi);rw [someB,someB,← List.take_append_getElem hl,List.any_append,List.getElem_zip,getD_get hi,getD_get (by omega),Bool.or_assoc];simp
/-- In the loop: so many sides moved on, so many spans laid. -/
def ToI (w0 w W:World) (B g gs:Nat) (stable:Bool) (base0 base:Int) (sides ats:List Int) (vo:Value) (i j:Nat) (vk:Value):Prop :=
  AKeeps g gs w W∧W.heap[g]? = some (.cells #[.int .i64 base0, .slice (some ⟨gs,0,none⟩) sides.length sides.length,vo] 126 (0,0)) ∧
    W.heap[gs]? = some (.cells ((ats.take i ++ sides.drop i).map (Value.int .i64)).toArray 3 (0,0)) ∧
    W.heap[w.heap.size]? = some (.cells #[.bool stable, .int .i64 base0, .int .i64 base,vk] 48 (0,0)) ∧
    Kd.R k45 45 W w.heap.size (fun _=>True) vk (spansF sides ats j)∧Below B w0 W
section
variable {w0 w W W':World} {B g gs i j:Nat} {stable:Bool} {base0 base:Int} {sides ats:List Int} {vo vk:Value}
theorem ToI.below (h:ToI w0 w W B g gs stable base0 base sides ats vo i j vk) (hb:Below W.heap.size W W') (hB:B≤W.heap.size):ToI w0 w W' B g gs stable base0 base sides ats vo i j vk:=by
 obtain ⟨h1,h2,h3,h4,h5,h6⟩:=h;(have keep : ∀ {k:Nat} {o:Obj},W.heap[k]? = some o→W'.heap[k]? = some o:=fun {k o} h=>(hb.block k (Array.getElem?_eq_some_iff.1 h).1).trans h);exact ⟨h1.below hb,keep h2,keep h3,keep h4,Kd.R_below h5 hb,h6.trans (hb.mono hB)⟩
theorem ToI.spans (h:ToI w0 w W B g gs stable base0 base sides ats vo i j vk):Kd.R k45 45 W w.heap.size (fun _=>True) vk (spansF sides ats j):=h.2.2.2.2.1
theorem ToI.chunk (h:ToI w0 w W B g gs stable base0 base sides ats vo i j vk):W.heap[w.heap.size]? = some (.cells #[.bool stable, .int .i64 base0, .int .i64 base,vk] 48 (0,0)):=h.2.2.2.1
theorem ToI.bel (h:ToI w0 w W B g gs stable base0 base sides ats vo i j vk):Below B w0 W:=h.2.2.2.2.2
theorem ToI.keeps (h:ToI w0 w W B g gs stable base0 base sides ats vo i j vk):AKeeps g gs w W:=h.1
theorem ToI.side (h:ToI w0 w W B g gs stable base0 base sides ats vo i j vk) (hi:i < sides.length) (hn:ats.length=sides.length):W.cell? ⟨gs,i,none⟩=some (.int .i64 (sides.getD i 0)):=by
 refine cell_blk h.2.2.1 ?_;(have hl:(ats.take i).length=i:=by rw [List.length_take];omega)
 have e:(ats.take i ++ sides.drop i)[i]? = some (sides.getD i 0):=by
  rw [List.getElem?_append_right (by omega),hl,Nat.sub_self,List.getElem?_drop,Nat.add_zero,List.getElem?_eq_getElem hi,getD_get hi]
 show ((ats.take i ++ sides.drop i).map (Value.int .i64)).toArray[i]? = _;(rw [List.getElem?_toArray,List.getElem?_map,e];rfl)
theorem ToI.move (h:ToI w0 w W B g gs stable base0 base sides ats vo i j vk) (hi:i < sides.length) (hn:ats.length=sides.length) (hg:g < w.heap.size) (hgs:gs < w.heap.size) (hB:B≤gs) (hne:g≠gs) :
    ToI w0 w (W.setCell ⟨gs,i,none⟩ (.int .i64 (ats.getD i 0))) B g gs stable base0 base sides ats vo (i+1) j vk:=by
 obtain ⟨h1,h2,h3,h4,h5,h6⟩:=h;refine ⟨⟨by simpa [World.setCell] using h1.1,fun k hk a b=>(heap_set_other b _).trans (h1.2 k hk a b)⟩,set_keepA h2 hne _,?_,set_keepA h4 (by omega) _,Kd.R_set h5 h3 (by decide) _ _,h6.setCell (p:=⟨gs,i,none⟩) hB _⟩;rw [heap_set_same h3];(have hl:(ats.take i).length=i:=by rw [List.length_take];omega)
 have e:(ats.take i ++ sides.drop i).set i (ats.getD i 0)=ats.take (i+1) ++ sides.drop (i+1):=by
  (rw [List.set_append_right _ _ (by omega),hl,Nat.sub_self,dropCons hi,List.set_cons_zero,getD_get (by omega),← List.take_append_getElem (by omega:i < ats.length),List.append_assoc];rfl)
 rw [← e,List.map_set,← List.setIfInBounds_toArray]
theorem ToI.lay {W3:World} {A:Option Addr} {c n:Nat} {v3:Value} (h:ToI w0 w W B g gs stable base0 base sides ats vo i j (.slice A n c)) (hg3:W.grownBy W3 (Value.slice A n c).ownBlock) (hb3:Below w.heap.size W W3) (hr3:Kd.R k45 45 W3 w.heap.size (fun _=>True) v3 (spansF sides ats (j+1)))
    (hg:g < w.heap.size) (hgs:gs < w.heap.size) (hB:B≤w.heap.size):ToI w0 w (W3.setCell ⟨w.heap.size,3,none⟩ v3) B g gs stable base0 base sides ats vo i (j+1) v3:=by
 obtain ⟨h1,h2,h3,h4,h5,h6⟩:=h;have k4:=(hg3.block _ (blk_lt h4) (Kd.R_ne h5 h4 (by decide))).trans h4;refine ⟨⟨by have:=hg3.size;have:=h1.1;simp [World.setCell];omega,fun k hk a b=>?_⟩,set_keepA ((hg3.block _ (blk_lt h2) (Kd.R_ne h5 h2 (by decide))).trans h2) (by omega) _,set_keepA ((hg3.block _ (blk_lt h3) (Kd.R_ne h5 h3 (by decide))).trans h3) (by omega) _,by rw [heap_set_same k4];rfl,Kd.R_set hr3 k4 (by decide) _ _,(h6.trans (hb3.mono hB)).setCell (p:=⟨w.heap.size,3,none⟩) hB _⟩;rw [heap_set_other (by omega)];refine (hg3.block k (Nat.lt_of_lt_of_le hk h1.1) (fun e=>?_)).trans (h1.2 k hk a b);have:=Kd.R_base h5 k e.symm;omega
theorem out_keep {out:List Chunk} (h5:Kd.S k48 48 w B (fun _=>True) vo out) {cs cs':Array Value} (h1:w.heap[g]? = some (.cells cs 126 (0,0))) (h3:w.heap[gs]? = some (.cells cs' 3 (0,0))) (hk:AKeeps g gs w W):Kd.S k48 48 W B (fun k=>k < w.heap.size) vo out:=by
 have a:=Kd.S_types (Kd.S_types h5 h1 (by decide)) h3 (by decide);have b:=Kd.S_bound a;exact Kd.S_mono (Kd.S_step b (fun k hk' hlt=>hk.2 k hlt hk'.1.1.2 hk'.1.2)) (fun k hk'=>hk'.2.2.1)
theorem cut_done {out:List Chunk} (hg:W.heap[g]? = some (.cells #[.int .i64 base0, .slice (some ⟨gs,0,none⟩) sides.length sides.length,vo] 126 (0,0))) (h3:W.heap[gs]? = some (.cells ((ats.take sides.length ++ sides.drop sides.length).map (Value.int .i64)).toArray 3 (0,0)))
    (hS:Kd.S k48 48 W B (fun _=>True) vo out) (hb:Below B w0 W) (hBg:B≤g) (hBgs:B≤gs) (hne:g≠gs) (hn:ats.length=sides.length):CutIn w0 (W.setCell ⟨g,0,none⟩ (.int .i64 base)) B g gs base ats out:=by
 (rw [List.take_of_length_le (by omega),List.drop_of_length_le (Nat.le_refl _),List.append_nil] at h3);exact ⟨vo,by rw [heap_set_same hg,hn];rfl,hBg,set_keepA h3 (fun e=>hne e.symm) _,hBgs,Kd.S_set hS hg (by decide) _ _,hb.setCell (p:=⟨g,0,none⟩) hBg _⟩
theorem AKeeps.set (h:AKeeps g gs w W) (j:Nat) (v:Value):AKeeps g gs w (W.setCell ⟨g,j,none⟩ v):=⟨by simpa [World.setCell] using h.1,fun k hk a b=>(heap_set_other a _).trans (h.2 k hk a b)⟩
end
set_option maxRecDepth 100000 in
set_option maxHeartbeats 8000000 in
theorem cut_toF (F:FuncId) (fn:Func) (hfn:Tryz.prog.funcs[F]? = some fn) (hname:(fn.name == "runtime.NumGoroutine")=false) (hbody:fn.body.isSome=true) (cap:Array Value) (w0 w:World) (B g gs:Nat) (stable:Bool) (base0 base:Int) (sides ats:List Int) (out:List Chunk) (h:CutIn w0 w B g gs base0 sides out) (hB:B=w0.heap.size) (hn:ats.length=sides.length) (hs:sides.length≤1000) (ho:out.length≤100000)
    (hat : ∀ W',AKeeps g gs w W' → ∀ i,i < sides.length→Calls Tryz.prog F (#[.int .i64 (i:Int)] ++ cap) W' fun e w''=>e = .returned (.int .i64 (ats.getD i 0))∧Drawn0 W' w'') :
    Calls Tryz.prog 74 #[.pointer (some ⟨g,0,none⟩), .bool stable, .int .i64 base, .func (.func F) #[] cap] w fun e w'=>e = .returned (.tuple #[])∧Aside0 (CutIn w0 w' B g gs base ats (cutOut stable base0 base sides ats out))∧Aside0 (CKeeps g gs w w'):=by
 obtain ⟨vo,h1,h2,h3,h4,h5,h6⟩:=h;have HFN:=Aside0.mk (And.intro hfn (And.intro hname hbody));clear hfn hname hbody;have H1:=Aside0.mk h1;have H3:=Aside0.mk h3;have H5:=Aside0.mk h5;have H6:=Aside0.mk h6;have HAT:=Aside0.mk hat;have HN:=Aside0.mk hn;have c0:w.cell? ⟨g,0,none⟩=some (.int .i64 base0):=cell_blk h1 rfl;have c1:w.cell? ⟨g,1,none⟩=some (.slice (some ⟨gs,0,none⟩) sides.length sides.length):=cell_blk h1 rfl;have HBW:Aside0 (B≤w.heap.size):=⟨by rw [hB];exact H6.out.size⟩;have HGL:Aside0 (g < w.heap.size):=⟨blk_lt h1⟩;have HGSL:Aside0 (gs < w.heap.size):=⟨blk_lt h3⟩;have HNE:Aside0 (g≠gs):=⟨blk_neA h1 h3 (by decide)⟩;(have c0o : ∀ o,(w.alloc o).cell? ⟨g,0,none⟩=some (.int .i64 base0):=fun o=>cell_alloc_of c0 o);(have c1o : ∀ o,(w.alloc o).cell? ⟨g,1,none⟩=some (.slice (some ⟨gs,0,none⟩) sides.length sides.length):=fun o=>cell_alloc_of c1 o);clear h1 h3 h5 h6 hat hn;go_enter Tryz.func74,Tryz.ntmps74;(go_wp2_with fail)
 go_loopw [9,31] (fun s9 s31 wr => ∃ (i:Nat) (vk:Value),s9 = .bool (someB base0 base sides ats i)∧s31 = .int .i64 i∧i≤sides.length∧Aside0 (ToI w0 w wr B g gs stable base0 base sides ats vo i i vk)) (fun _ s31 _=>sides.length - (intOf s31).toNat)
 case atStart =>
  (have hb : ∀ o,Below w.heap.size w (w.alloc o):=fun o=>(Below.refl _ w).alloc (Nat.le_refl _) o);exact ⟨0, .slice none 0 0,by simp [someB],rfl,Nat.zero_le _,⟨(AKeeps.refl g gs w).below (hb _),far_keep H1.out (hb _),by simpa using far_keep H3.out (hb _),blk_new _ _,Kd.R_nil _ _ _ _ _,H6.out.trans ((hb _).mono HBW.out)⟩⟩
 case round =>
  obtain ⟨i,vk,rfl,rfl,hi,HI⟩:=hrel
  by_cases hlt:i < sides.length
  ·
   have d1:decide ((i:Int) < (sides.length:Int))=true:=decide_eq_true (by omega);have d2:decide (i < sides.length)=true:=decide_eq_true hlt;obtain ⟨Ak,ck,hvk⟩:=Kd.R_slice HI.out.spans;(rw [spansF_len HN.out hi] at hvk);subst hvk;have xi:=HI.out.side hlt HN.out;have y3:wr.cell? ⟨w.heap.size,3,none⟩=some (.slice Ak i ck):=cell_blk HI.out.chunk rfl;obtain ⟨f,hf⟩ : ∃ f,sides.getD i 0=f:=⟨_,rfl⟩;obtain ⟨t,ht⟩ : ∃ t,ats.getD i 0=t:=⟨_,rfl⟩;have hat:=HAT.out;have HFF:=Aside0.mk hf;have HTT:=Aside0.mk ht;(rw [hf] at xi);have HATI:Aside0 (∀ W',AKeeps g gs w W'→Calls Tryz.prog F (#[.int .i64 (i:Int)] ++ cap) W' fun e w''=>e = .returned (.int .i64 t)∧Drawn0 W' w''):=⟨fun W' hW=>by rw [← ht];exact hat W' hW i hlt⟩;have hBr:B≤wr.heap.size:=Nat.le_trans HBW.out HI.out.keeps.1;clear hat hf ht;go_wp2;refine start_ (n:=11) (S:=fun w'=>w'.cell? ⟨w.heap.size,3,none⟩=some (.slice Ak i ck)) (ds:=[8,10]) #[false,false,false,false,false,false,false,false,false,false,false] (by kernel_rfl) rfl rfl (y3) (fun hHeld=>?_);refine pq_ (i:=0) (N:=some 36) #[true,false,false,false,false,false,false,false,false,false,false] ?_;refine pq_ (i:=2) (N:=some 38) #[true,false,true,false,false,false,false,false,false,false,false] ?_;refine pq_ (i:=3) (N:=some 39) #[true,false,true,true,false,false,false,false,false,false,false] ?_;refine pq_ (i:=4) (N:=some 40) #[true,false,true,true,true,false,false,false,false,false,false] ?_;refine tq_ (i:=1) (N:=some 37) #[true,true,true,true,true,false,false,false,false,false,false] hHeld ?_;refine one_ (i:=5) (N:=some 41) #[true,true,true,true,true,true,false,false,false,false,false] rfl rfl (by kernel_rfl) (by decide) (fun K hK=>?_);refine goesC_ HFN.out.1 HFN.out.2.1 HFN.out.2.2 cap (#[.int .i64 (i:Int)] ++ cap) (by rfl) rfl rfl (by rfl) (by simp only [List.map_toArray,List.map_cons,List.map_nil];rfl) ?_;(with_reducible refine (HATI.out wr.drew (HI.out.keeps.below (Below.refl _ _).drew)).mono ?_);rintro e w2' ⟨rfl,n2,hn2⟩;obtain ⟨w2,hw2⟩ : ∃ w2,w2=w2':=⟨_,rfl⟩;rw [← hw2];(rw [← hw2] at hn2);clear hw2;refine ⟨_,rfl,?_⟩;have HB2:Aside0 (Below wr.heap.size wr w2):=⟨by rw [hn2];exact pw_below_drewN (Below.refl _ _).drew n2⟩;clear hn2;have HI2:=Aside0.mk (HI.out.below HB2.out hBr);have y32:w2.cell? ⟨w.heap.size,3,none⟩=some (.slice Ak i ck):=cell_blk HI2.out.chunk rfl;refine hK.out _ _ (y32) (fun hHeld=>?_);clear hK K;refine nq_ (N:=some 41) ?_;refine pq_ (i:=6) (N:=some 42) #[true,true,true,true,true,true,true,false,false,false,false] ?_;refine one_ (i:=7) (N:=some 43) #[true,true,true,true,true,true,true,true,false,false,false] rfl rfl (by kernel_rfl) (by decide) (fun K hK=>?_);refine value_ (w1:=?_) (v:=?_) (by rfl) rfl ?_ ?_;rotate_left 2
   ·
    go_simp;constructor;(· rfl);(· rfl)
   refine hK.out _ _ (cell_alloc_of y32 _) (fun hHeld=>?_);clear hK K;refine nq_ (N:=some 43) ?_;refine last_ (i:=8) (N:=some 44) #[true,true,true,true,true,true,true,true,true,false,false] rfl rfl (by kernel_rfl) (by decide) (fun K hK=>?_);refine Kd.R_append_step k45 (w0:=w2) w.heap.size (by rfl) (.tmp 37) (.tmp 43) 46 45 (.agg #[.int .i64 0, .int .i64 0]) 16 rfl Tryz.underlying46 info45 rfl (by decide) (by decide) (.slice Ak i ck) (spansF sides ats i) ⟨f,t⟩ [.int .i64 f, .int .i64 t] (fun _=>True) (fun _=>False) rfl rfl (k45_mkM _ _ _ _) (fun _ h=>h.elim) (fun _ _=>trivial) ?aO (Below.refl _ _) HI2.out.keeps.1 (by rw [spansF_len HN.out hi];omega) ?_;(case aO=>exact HI2.out.spans);intro v3 w3 hr3 hb3 hg3 hat3;obtain ⟨A3,c3,hv3⟩:=Kd.R_slice hr3;subst hv3;have hgn:some w.heap.size≠(Value.slice Ak i ck).ownBlock:=Kd.R_ne HI2.out.spans HI2.out.chunk (by decide);have g3:=(hg3.block w.heap.size (blk_lt HI2.out.chunk) hgn).trans HI2.out.chunk;have y33:w3.cell? ⟨w.heap.size,3,none⟩=some (.slice Ak i ck):=cell_blk g3 rfl;have fr3:w3.frozen? ⟨w.heap.size,3,none⟩=false:=frozen_of_row _ _ _ _ _ g3;have HR3:=Aside0.mk hr3;have HB3:=Aside0.mk hb3;have HG3:=Aside0.mk hg3;have G3:=Aside0.mk g3;clear hr3 hb3 hg3 g3 hat3 hgn y32;refine hK.out _ _ ?_;clear hK K;refine nq_ (N:=some 44) ?_;refine pq_ (i:=9) (N:=some 45) #[true,true,true,true,true,true,true,true,true,true,false] ?_;refine last_ (i:=10) (N:=none) #[true,true,true,true,true,true,true,true,true,true,true] rfl rfl (by kernel_rfl) (by decide) (fun K hK=>?_);refine skip_ (w1:=?_) (by rfl) rfl ?_ ?_;rotate_left;(· go_simp;rfl);refine hK.out _ _ ?_;clear hK K;refine done_ (by kernel_rfl) ?_;clear y3 y33 fr3
   have hr3s:Kd.R k45 45 w3 w.heap.size (fun _=>True) (.slice A3 ((spansF sides ats i).length+1) c3) (spansF sides ats (i+1)):=by
    rw [spansF_succ HN.out hlt,HFF.out,HTT.out];have:=HR3.out;(rw [List.length_append,List.length_singleton] at this);exact this
   have HI4:=Aside0.mk (HI2.out.lay HG3.out HB3.out hr3s HGL.out HGSL.out HBW.out);obtain ⟨w4,hw4⟩ : ∃ w4,w3.setCell ⟨w.heap.size,3,none⟩ (.slice A3 ((spansF sides ats i).length+1) c3)=w4:=⟨_,rfl⟩;(rw [hw4] at HI4 ⊢);clear hr3s hw4;obtain ⟨sb,hsb⟩ : ∃ sb,someB base0 base sides ats i=sb:=⟨_,rfl⟩;have HSB:=Aside0.mk hsb;rw [hsb];clear hsb
   cases sb with
   | true =>
    ·
     skip;have y1:w4.cell? ⟨g,1,none⟩=some (.slice (some ⟨gs,0,none⟩) sides.length sides.length):=cell_blk HI4.out.2.1 rfl;go_wp2;refine start_ (n:=10) (S:=fun w'=>w'.cell? ⟨g,1,none⟩=some (.slice (some ⟨gs,0,none⟩) sides.length sides.length)) (ds:=[9]) #[false,false,false,false,false,false,false,false,false,false] (by kernel_rfl) rfl rfl (y1) (fun hHeld=>?_);refine pq_ (i:=0) (N:=some 54) #[true,false,false,false,false,false,false,false,false,false] ?_;refine pq_ (i:=1) (N:=some 55) #[true,true,false,false,false,false,false,false,false,false] ?_;refine pq_ (i:=2) (N:=some 56) #[true,true,true,false,false,false,false,false,false,false] ?_;refine pq_ (i:=4) (N:=some 58) #[true,true,true,false,true,false,false,false,false,false] ?_;refine pq_ (i:=5) (N:=some 59) #[true,true,true,false,true,true,false,false,false,false] ?_;refine pq_ (i:=6) (N:=some 60) #[true,true,true,false,true,true,true,false,false,false] ?_;refine tq_ (i:=3) (N:=some 57) #[true,true,true,true,true,true,true,false,false,false] hHeld ?_;refine one_ (i:=7) (N:=some 61) #[true,true,true,true,true,true,true,true,false,false] rfl rfl (by kernel_rfl) (by decide) (fun K hK=>?_);refine goesC_ HFN.out.1 HFN.out.2.1 HFN.out.2.2 cap (#[.int .i64 (i:Int)] ++ cap) (by rfl) rfl rfl (by rfl) (by simp only [List.map_toArray,List.map_cons,List.map_nil];rfl) ?_;(with_reducible refine (HATI.out w4.drew (HI4.out.keeps.below (Below.refl _ _).drew)).mono ?_);rintro e w7' ⟨rfl,n7,hn7⟩;obtain ⟨w7,hw7⟩ : ∃ w7,w7=w7':=⟨_,rfl⟩;rw [← hw7];(rw [← hw7] at hn7);clear hw7;refine ⟨_,rfl,?_⟩;have HB7:Aside0 (Below w4.heap.size w4 w7):=⟨by rw [hn7];exact pw_below_drewN (Below.refl _ _).drew n7⟩;clear hn7;have HI7:=Aside0.mk (HI4.out.below HB7.out (Nat.le_trans HBW.out HI4.out.keeps.1));have y17:w7.cell? ⟨g,1,none⟩=some (.slice (some ⟨gs,0,none⟩) sides.length sides.length):=cell_blk HI7.out.2.1 rfl;(have x7:w7.cell? ⟨gs,i,none⟩=some (.int .i64 f):=by rw [← HFF.out];exact HI7.out.side hlt HN.out);have fr7:w7.frozen? ⟨gs,i,none⟩=false:=frozen_of_row _ _ _ _ _ HI7.out.2.2.1;refine hK.out _ _ (y17) (fun hHeld=>?_);clear hK K;refine nq_ (N:=some 61) ?_;refine pq_ (i:=8) (N:=some 62) #[true,true,true,true,true,true,true,true,true,false] ?_;refine last_ (i:=9) (N:=none) #[true,true,true,true,true,true,true,true,true,true] rfl rfl (by kernel_rfl) (by decide) (fun K hK=>?_);refine skip_ (w1:=?_) (by rfl) rfl ?_ ?_;rotate_left;(· go_simp;rfl);refine hK.out _ _ ?_;clear hK K;refine done_ (by kernel_rfl) ?_;clear y1 y17 x7 fr7;go_wp2;go_roundw;(case measure=>simp [intOf];omega);(case rel=>exact ⟨i+1,_,by rw [someB_succ HN.out hlt,HSB.out,HFF.out,HTT.out];rfl,by go_num,by omega,⟨by rw [← HTT.out];exact HI7.out.move hlt HN.out HGL.out HGSL.out h4 HNE.out⟩⟩)
   | false =>
    ·
     (have hent : ∀ args w,(callFunc F args).run Tryz.prog w = .ok (.enter F args) w:=fun args w=>enters_ HFN.out.1 HFN.out.2.1 HFN.out.2.2 args w);(go_wp2_with fail);(try rw [hent,Oper.upon_enter]);clear hent;refine (HATI.out w4 HI4.out.keeps).mono ?_;rintro e w5' ⟨rfl,n5,hn5⟩;obtain ⟨w5,hw5⟩ : ∃ w5,w5=w5':=⟨_,rfl⟩;rw [← hw5];(rw [← hw5] at hn5);clear hw5;have HB5:Aside0 (Below w4.heap.size w4 w5):=⟨by rw [hn5];exact pw_below_drewN (Below.refl _ _) n5⟩;have HI5:=Aside0.mk (HI4.out.below HB5.out (Nat.le_trans HBW.out HI4.out.keeps.1));clear hn5;have y1:w5.cell? ⟨g,1,none⟩=some (.slice (some ⟨gs,0,none⟩) sides.length sides.length):=cell_blk HI5.out.2.1 rfl;go_wp2;refine start_ (n:=10) (S:=fun w'=>w'.cell? ⟨g,1,none⟩=some (.slice (some ⟨gs,0,none⟩) sides.length sides.length)) (ds:=[9]) #[false,false,false,false,false,false,false,false,false,false] (by kernel_rfl) rfl rfl (y1) (fun hHeld=>?_);refine pq_ (i:=0) (N:=some 54) #[true,false,false,false,false,false,false,false,false,false] ?_;refine pq_ (i:=1) (N:=some 55) #[true,true,false,false,false,false,false,false,false,false] ?_;refine pq_ (i:=2) (N:=some 56) #[true,true,true,false,false,false,false,false,false,false] ?_;refine pq_ (i:=4) (N:=some 58) #[true,true,true,false,true,false,false,false,false,false] ?_;refine pq_ (i:=5) (N:=some 59) #[true,true,true,false,true,true,false,false,false,false] ?_;refine pq_ (i:=6) (N:=some 60) #[true,true,true,false,true,true,true,false,false,false] ?_;refine tq_ (i:=3) (N:=some 57) #[true,true,true,true,true,true,true,false,false,false] hHeld ?_;refine one_ (i:=7) (N:=some 61) #[true,true,true,true,true,true,true,true,false,false] rfl rfl (by kernel_rfl) (by decide) (fun K hK=>?_);refine goesC_ HFN.out.1 HFN.out.2.1 HFN.out.2.2 cap (#[.int .i64 (i:Int)] ++ cap) (by rfl) rfl rfl (by rfl) (by simp only [List.map_toArray,List.map_cons,List.map_nil];rfl) ?_;(with_reducible refine (HATI.out w5.drew (HI5.out.keeps.below (Below.refl _ _).drew)).mono ?_);rintro e w7' ⟨rfl,n7,hn7⟩;obtain ⟨w7,hw7⟩ : ∃ w7,w7=w7':=⟨_,rfl⟩;rw [← hw7];(rw [← hw7] at hn7);clear hw7;refine ⟨_,rfl,?_⟩;have HB7:Aside0 (Below w5.heap.size w5 w7):=⟨by rw [hn7];exact pw_below_drewN (Below.refl _ _).drew n7⟩;clear hn7;have HI7:=Aside0.mk (HI5.out.below HB7.out (Nat.le_trans HBW.out HI5.out.keeps.1));have y17:w7.cell? ⟨g,1,none⟩=some (.slice (some ⟨gs,0,none⟩) sides.length sides.length):=cell_blk HI7.out.2.1 rfl;(have x7:w7.cell? ⟨gs,i,none⟩=some (.int .i64 f):=by rw [← HFF.out];exact HI7.out.side hlt HN.out);have fr7:w7.frozen? ⟨gs,i,none⟩=false:=frozen_of_row _ _ _ _ _ HI7.out.2.2.1;refine hK.out _ _ (y17) (fun hHeld=>?_);clear hK K;refine nq_ (N:=some 61) ?_;refine pq_ (i:=8) (N:=some 62) #[true,true,true,true,true,true,true,true,true,false] ?_;refine last_ (i:=9) (N:=none) #[true,true,true,true,true,true,true,true,true,true] rfl rfl (by kernel_rfl) (by decide) (fun K hK=>?_);refine skip_ (w1:=?_) (by rfl) rfl ?_ ?_;rotate_left;(· go_simp;rfl);refine hK.out _ _ ?_;clear hK K;refine done_ (by kernel_rfl) ?_;clear y1 y17 x7 fr7;go_wp2;go_roundw;(case measure=>simp [intOf];omega);(case rel=>exact ⟨i+1,_,by rw [someB_succ HN.out hlt,HSB.out,HFF.out,HTT.out];simp,by go_num,by omega,⟨by rw [← HTT.out];exact HI7.out.move hlt HN.out HGL.out HGSL.out h4 HNE.out⟩⟩)
  ·
   (have hin:i=sides.length:=by omega);subst hin;have d1:decide ((sides.length:Int) < (sides.length:Int))=false:=decide_eq_false (by omega);have HS:Aside0 (Kd.S k48 48 wr B (fun k=>k < w.heap.size) vo out):=⟨out_keep H5.out H1.out H3.out HI.out.keeps⟩;obtain ⟨Ao,co,hvo⟩:=Kd.S_slice HS.out;subst hvo;obtain ⟨Ak,ck,hvk⟩:=Kd.R_slice HI.out.spans;have hsl:=spansF_len (i:=sides.length) HN.out (Nat.le_refl _);obtain ⟨sb,hsb⟩ : ∃ sb,someB base0 base sides ats sides.length=sb:=⟨_,rfl⟩;have HSB:=Aside0.mk hsb;rw [hsb];clear hsb
   cases sb with
   | false =>
    (· have HO:Aside0 (cutOut stable base0 base sides ats out=out):=⟨by rw [cutOut,HSB.out,if_neg (by decide)]⟩;have e0:wr.cell? ⟨g,0,none⟩=some (.int .i64 base0):=cell_blk HI.out.2.1 rfl;have f0:wr.frozen? ⟨g,0,none⟩=false:=frozen_of_row _ _ _ _ _ HI.out.2.1;clear hsl hvk;go_wp2;go_end0;exact ⟨rfl,⟨by rw [HO.out];exact cut_done HI.out.2.1 HI.out.2.2.1 (Kd.S_mono HS.out (fun _ _=>trivial)) HI.out.bel h2 h4 HNE.out HN.out⟩,⟨(HI.out.keeps.set 0 _).toC⟩⟩)
   | true =>
    ·
     have HO:Aside0 (cutOut stable base0 base sides ats out=out ++ [⟨stable,⟨base0,base⟩,spansF sides ats sides.length⟩]):=⟨by rw [cutOut,HSB.out,if_pos rfl]⟩;have HVK:=Aside0.mk hvk;have hchunk:=HI.out.chunk;(rw [hvk,hsl] at hchunk);have y2:wr.cell? ⟨g,2,none⟩=some (.slice Ao out.length co):=cell_blk HI.out.2.1 rfl;have z0:wr.cell? ⟨w.heap.size,0,none⟩=some (.bool stable):=cell_blk hchunk rfl;have z1:wr.cell? ⟨w.heap.size,1,none⟩=some (.int .i64 base0):=cell_blk hchunk rfl;have z2:wr.cell? ⟨w.heap.size,2,none⟩=some (.int .i64 base):=cell_blk hchunk rfl;have z3:wr.cell? ⟨w.heap.size,3,none⟩=some (.slice Ak sides.length ck):=cell_blk hchunk rfl
     have HP:Aside0 (Kd.R k45 45 wr B (fun k=>w.heap.size≤k) (.slice Ak sides.length ck) (spansF sides ats sides.length)):=⟨by
      have:=HI.out.spans;(rw [hvk,hsl] at this)
      exact Kd.R_lower (Kd.R_mono (Kd.R_bound this) (fun k hk=>hk.2.1)) HBW.out⟩
     have HPM:Aside0 ((k48).M wr.drew B (fun k=>w.heap.size≤k) ⟨stable,⟨base0,base⟩,spansF sides ats sides.length⟩ [.bool stable, .int .i64 base0, .int .i64 base, .slice Ak sides.length ck]):=⟨k48_mkM _ _ _ ⟨stable,⟨base0,base⟩,spansF sides ats sides.length⟩ (Kd.R_drew HP.out)⟩;clear hsl hvk hchunk;go_wp2;refine start_ (n:=11) (S:=fun w'=>w'.cell? ⟨g,2,none⟩=some (.slice Ao out.length co)∧w'.cell? ⟨w.heap.size,0,none⟩=some (.bool stable)∧w'.cell? ⟨w.heap.size,1,none⟩=some (.int .i64 base0)∧w'.cell? ⟨w.heap.size,2,none⟩=some (.int .i64 base)∧w'.cell? ⟨w.heap.size,3,none⟩=some (.slice Ak sides.length ck)) (ds:=[7,10]) #[false,false,false,false,false,false,false,false,false,false,false] (by kernel_rfl) rfl rfl ⟨y2,z0,z1,z2,z3⟩ (fun hHeld=>?_);refine pq_ (i:=0) (N:=some 65) #[true,false,false,false,false,false,false,false,false,false,false] ?_;refine pq_ (i:=1) (N:=some 66) #[true,true,false,false,false,false,false,false,false,false,false] ?_;refine pq_ (i:=2) (N:=some 67) #[true,true,true,false,false,false,false,false,false,false,false] ?_;refine pq_ (i:=3) (N:=some 68) #[true,true,true,true,false,false,false,false,false,false,false] ?_;refine tq_ (i:=4) (N:=some 69) #[true,true,true,true,true,false,false,false,false,false,false] hHeld ?_;refine tq_ (i:=5) (N:=some 70) #[true,true,true,true,true,true,false,false,false,false,false] hHeld ?_;refine one_ (i:=6) (N:=some 71) #[true,true,true,true,true,true,true,false,false,false,false] rfl rfl (by kernel_rfl) (by decide) (fun K hK=>?_);refine value_ (w1:=?_) (v:=?_) (by rfl) rfl ?_ ?_;rotate_left 2
     ·
      go_simp;constructor;(· rfl);(· rfl)
     refine hK.out _ _ ⟨cell_alloc_of y2 _,cell_alloc_of z0 _,cell_alloc_of z1 _,cell_alloc_of z2 _,cell_alloc_of z3 _⟩ (fun hHeld=>?_);clear hK K;refine nq_ (N:=some 71) ?_;refine last_ (i:=7) (N:=some 72) #[true,true,true,true,true,true,true,true,false,false,false] rfl rfl (by kernel_rfl) (by decide) (fun K hK=>?_);refine Kd.S_append_step k48 (w0:=wr.drew) (W:=wr.drew) B (by rfl) (.tmp 69) (.tmp 71) 26 48 (.agg #[.bool false, .int .i64 0, .int .i64 0, .slice none 0 0]) 48 rfl Tryz.underlying26 info48 rfl (by decide) (by decide) (.slice Ao out.length co) out ⟨stable,⟨base0,base⟩,spansF sides ats sides.length⟩ [.bool stable, .int .i64 base0, .int .i64 base, .slice Ak sides.length ck] (fun _=>True) (fun k=>w.heap.size≤k) rfl rfl HPM.out (fun k hk=>⟨trivial,Kd.S_away HS.out (fun j hj=>by omega)⟩) (fun _ _=>trivial) ?aO (Below.refl _ _) ?aS (by omega) ?_;(case aO=>exact Kd.S_mono (Kd.S_drew HS.out) (fun k hk=>⟨trivial,by omega⟩));(case aS=>exact Nat.le_trans HBW.out HI.out.keeps.1);intro v9 w9 hs9 hb9 hg9 hat9;obtain ⟨A9,c9,hv9⟩:=Kd.S_slice hs9;subst hv9;have hgn:some g≠(Value.slice Ao out.length co).ownBlock:=Kd.S_ne HS.out HI.out.2.1 (by decide);have g9:w9.heap[g]? = some (.cells #[.int .i64 base0, .slice (some ⟨gs,0,none⟩) sides.length sides.length, .slice Ao out.length co] 126 (0,0)):=(hg9.block g (blk_lt HI.out.2.1) hgn).trans HI.out.2.1;have y29:w9.cell? ⟨g,2,none⟩=some (.slice Ao out.length co):=cell_blk g9 rfl;have fr9:w9.frozen? ⟨g,2,none⟩=false:=frozen_of_row _ _ _ _ _ g9;have HS9:=Aside0.mk hs9;have HB9:=Aside0.mk hb9;have HG9:=Aside0.mk hg9;have G9:=Aside0.mk g9;clear hs9 hb9 hg9 g9 hat9 hgn;refine hK.out _ _ ?_;clear hK K;refine nq_ (N:=some 72) ?_;refine pq_ (i:=8) (N:=some 73) #[true,true,true,true,true,true,true,true,true,false,false] ?_;refine pq_ (i:=9) (N:=some 74) #[true,true,true,true,true,true,true,true,true,true,false] ?_;refine last_ (i:=10) (N:=none) #[true,true,true,true,true,true,true,true,true,true,true] rfl rfl (by kernel_rfl) (by decide) (fun K hK=>?_);refine skip_ (w1:=?_) (by rfl) rfl ?_ ?_;rotate_left;(· go_simp;rfl);refine hK.out _ _ ?_;clear hK K;refine done_ (by kernel_rfl) ?_
     have hs9':Kd.S k48 48 w9 B (fun _=>True) (.slice A9 (out.length+1) c9) (out ++ [⟨stable,⟨base0,base⟩,spansF sides ats sides.length⟩]):=by
      have:=HS9.out;(rw [List.length_append,List.length_singleton] at this);exact this
     obtain ⟨w10,hw10⟩ : ∃ w10,w9.setCell ⟨g,2,none⟩ (.slice A9 (out.length+1) c9)=w10:=⟨_,rfl⟩;rw [hw10];have G10:Aside0 (w10.heap[g]? = some (.cells #[.int .i64 base0, .slice (some ⟨gs,0,none⟩) sides.length sides.length, .slice A9 (out.length+1) c9] 126 (0,0))):=⟨by rw [← hw10,heap_set_same G9.out];rfl⟩
     have g3:w10.heap[gs]? = some (.cells ((ats.take sides.length ++ sides.drop sides.length).map (Value.int .i64)).toArray 3 (0,0)):=by
      rw [← hw10];exact set_keepA ((HG9.out.block gs (blk_lt HI.out.2.2.1) (Kd.S_ne HS.out HI.out.2.2.1 (by decide))).trans HI.out.2.2.1) (fun e=>HNE.out e.symm) _
     have G3:=Aside0.mk g3;have S10:Aside0 (Kd.S k48 48 w10 B (fun _=>True) (.slice A9 (out.length+1) c9) (out ++ [⟨stable,⟨base0,base⟩,spansF sides ats sides.length⟩])):=⟨by rw [← hw10];exact Kd.S_set hs9' G9.out (by decide) 2 _⟩;have B10:Aside0 (Below B w0 w10):=⟨by rw [← hw10];exact (HI.out.bel.drew.trans HB9.out).setCell (p:=⟨g,2,none⟩) h2 _⟩
     have K10:Aside0 (CKeeps g gs w w10):=⟨by
      rw [← hw10];refine ⟨by have:=HG9.out.size;have:=HI.out.keeps.1;simp [World.setCell] at *;omega,fun k cs q fr a b hk hq=>?_⟩;have hkl:=(Array.getElem?_eq_some_iff.1 hk).1;have hkr:wr.heap[k]? = some (.cells cs q fr):=(HI.out.keeps.2 k hkl a b).trans hk;rw [heap_set_other a];refine (HG9.out.block k (blk_lt hkr) (fun e=>?_)).trans hkr;obtain ⟨cells,hc⟩:=Kd.S_typed HS.out k e.symm;(rw [hkr] at hc);(injection hc with hc);(injection hc with _ e2 _)
      exact hq e2⟩
     have e0:w10.cell? ⟨g,0,none⟩=some (.int .i64 base0):=cell_blk G10.out rfl;have f0:w10.frozen? ⟨g,0,none⟩=false:=frozen_of_row _ _ _ _ _ G10.out;clear g3 hs9' hw10 y2 z0 z1 z2 z3 y29 fr9;go_wp2;go_end0;refine ⟨rfl,⟨by rw [HO.out];exact cut_done G10.out G3.out S10.out B10.out h2 h4 HNE.out HN.out⟩,⟨⟨by have:=K10.out.1;simpa [World.setCell] using this,fun k cs q fr a b hk hq=>(heap_set_other a _).trans (K10.out.2 k cs q fr a b hk hq)⟩⟩⟩
/-- A span is one of a list's places. -/
def SpanOk (s:Spanx) (n:Nat):Prop:=0≤s.f0∧s.f0≤s.f1∧s.f1≤(n:Int)
def cutS {α:Type} (l:List α) (s:Spanx):List α:=cutL l s.f0.toNat s.f1.toNat
def partsF (spans:List Spanx) (sides:List (List ByteArray)):List (List ByteArray):=List.zipWith (fun s l=>cutS l s) spans sides
theorem partsF_len {spans:List Spanx} {sides:List (List ByteArray)} (h:spans.length=sides.length):(partsF spans sides).length=sides.length:=by
 rw [partsF,List.length_zipWith,h,Nat.min_self]
theorem partsF_succ {spans:List Spanx} {sides:List (List ByteArray)} {i:Nat} (h1:i < spans.length) (h2:i < sides.length):partsF (spans.take (i+1)) (sides.take (i+1))=partsF (spans.take i) (sides.take i) ++ [cutS sides[i] spans[i]]:=by
 (rw [partsF,partsF,← List.take_append_getElem h1,← List.take_append_getElem h2,List.zipWith_append (by rw [List.length_take,List.length_take];omega)];rfl)
set_option maxHeartbeats 2000000 in
/-- What is cut, where the span is one. -/
theorem parts_cut (gk:Nat) (A:Option Addr) (c:Nat) (l:List ByteArray) (f t:Nat) (w:World) (hc:l.length≤c) (h1:f≤t) (h2:t≤l.length) (hm:l.length≤1000000000000) :
    Calls Tryz.prog 101 #[.slice A l.length c, .agg #[.int .i64 (f:Int), .int .i64 (t:Int)], .pointer (some ⟨gk,0,none⟩)] w fun e w'=>e = .returned (.slice (cutA A f t) (t - f) (t - f))∧Aside0 (Below w.heap.size w w'):=by
 have HB:Aside0 (∀ o,Below w.heap.size w (w.alloc o)):=⟨fun o=>newBelow w o⟩
 have hcut : ∀ W:World,(Instr.slice 22 (.slice A l.length c) (some (.int .i64 (f:Int))) (some (.int .i64 (t:Int))) (some (.int .i64 (t:Int)))).run Tryz.prog W = .ok (.slice (cutA A f t) (t - f) (t - f)) W:=by
  obtain ⟨i0,hi0,hz0⟩:=Option.map_eq_some_iff.1 info9;(simp only [Prod.mk.injEq] at hz0);obtain ⟨hz,hsz,hby⟩:=hz0;exact run_cut3 22 9 Tryz.underlying22 hi0 hsz A l.length c f t h1 h2 hc
 have d1:decide ((f:Int) < 0)=false:=decide_eq_false (by omega);have d2:decide ((t:Int) < (f:Int))=false:=decide_eq_false (by omega);have d3:decide ((l.length:Int) < (t:Int))=false:=decide_eq_false (by omega);have d4:decide (t < f)=false:=decide_eq_false (by omega);have d5:decide (l.length < t)=false:=decide_eq_false (by omega);go_enter Tryz.func101,Tryz.ntmps101;go_wp2;go_ret;exact ⟨rfl,⟨HB.out _⟩⟩
theorem FK_cut {W:World} {ok:Nat→Prop} {A:Option Addr} {n:Nat} {l:List ByteArray} (h:Kd.F Kd.string W ok A n l) (hn:l.length=n):Kd.FK KSs W ok l [.slice A n n]:=by
 subst hn;exact Kd.FK_slice_mk (Nat.le_refl _) h
set_option maxRecDepth 100000 in
set_option maxHeartbeats 4000000 in
theorem content_Parts (P:Nat→Prop) (st:Bool) (bs:Spanx) (As:Option Addr) (cs:Nat) (ss:List Spanx) (A0:Option Addr) (c0:Nat) (l0:List ByteArray) (A1:Option Addr) (c1:Nat) (l1:List (List ByteArray)) (w:World)
    (hs:Kd.C k45 w As ss.length ss) (hcs:ss.length≤cs) (h0:Kd.F Kd.string w P A0 l0.length l0) (hc0:l0.length≤c0) (h1:Kd.F KSs w P A1 l1.length l1) (hc1:l1.length≤c1)
    (hlen:ss.length=l1.length) (hb:SpanOk bs l0.length) (hok : ∀ i (h:i < l1.length),SpanOk (ss.getD i z45) l1[i].length) (hn:l1.length≤1000000) (hm0:l0.length≤1000000000000) (hm : ∀ y ∈ l1,y.length≤1000000000000) :
    Calls Tryz.prog 88 #[.agg #[.bool st, .int .i64 bs.f0, .int .i64 bs.f1, .slice As ss.length cs], .slice A0 l0.length c0, .slice A1 l1.length c1] w fun e w' => ∃ At v,e = .returned (.tuple #[.slice At (cutS l0 bs).length (cutS l0 bs).length,v, .int .i64 0]) ∧
      Aside0 (Kd.F Kd.string w' (fun k=>P k∧k < w.heap.size) At (cutS l0 bs).length (cutS l0 bs))∧Aside0 (Kd.N KSs 22 w' w.heap.size (fun k=>P k∨w.heap.size≤k) v (partsF ss l1))∧Aside0 (Below w.heap.size w w'):=by
  obtain ⟨bf,bt⟩:=bs
  obtain ⟨hb1,hb2,hb3⟩:=hb
  dsimp only at hb1 hb2 hb3
  obtain ⟨f0,rfl⟩ : ∃ f:Nat,bf=(f:Int):=⟨bf.toNat,by omega⟩
  obtain ⟨t0,rfl⟩ : ∃ f:Nat,bt=(f:Int):=⟨bt.toNat,by omega⟩
  have hcl:(cutS l0 ⟨(f0:Int),(t0:Int)⟩)=cutL l0 f0 t0:=rfl
  rw [hcl]
  have hcl2:(cutL l0 f0 t0).length=t0 - f0:=cutL_len (by omega)
  have HF0:Aside0 (Kd.F Kd.string w P (cutA A0 f0 t0) (t0 - f0) (cutL l0 f0 t0)):=⟨by rw [← hcl2];exact F_cutA rfl h0 (by omega) (by omega)⟩
  rw [hcl2]
  have HS:=Aside0.mk hs
  have HF1:=Aside0.mk h1
  have HOK:=Aside0.mk hok
  have HM:=Aside0.mk hm
  have HLEN:=Aside0.mk hlen
  have d1:decide ((ss.length:Int)=(l1.length:Int))=true:=decide_eq_true (by omega)
  have d2:((ss.length:Int) == (l1.length:Int))=true:=by rw [beq_iff_eq];omega
  have hmf : ∀ (fn:Fn) (first cap:Array Value) (w:World),(Instr.makeFunc fn first cap).run Tryz.prog w = .ok (.func fn first cap) w:=fun _ _ _ _=>rfl
  have HT0:Aside0 (f0≤t0∧t0≤l0.length):=⟨by omega,by omega⟩
  clear hs h0 h1 hok hm hcl hcl2 hb1 hb2 hb3 hlen
  go_enter Tryz.func88,Tryz.ntmps88
  go_wp2_with fail
  obtain ⟨w1,hw1⟩ : ∃ w1,(w.alloc (.cells #[.bool st, .int .i64 (f0:Int), .int .i64 (t0:Int), .slice As ss.length cs] 48)).alloc (.cells #[.bool true] 4)=w1:=⟨_,rfl⟩
  have G0:Aside0 (w1.heap[w.heap.size]? = some (.cells #[.bool st, .int .i64 (f0:Int), .int .i64 (t0:Int), .slice As ss.length cs] 48 (0,0))):=⟨by rw [← hw1];exact newKeep (blk_new _ _) _⟩
  have G1:Aside0 (w1.heap[w.heap.size+1]? = some (.cells #[.bool true] 4 (0,0))):=⟨by
    rw [← hw1]
    have:=blk_new (w.alloc (.cells #[.bool st, .int .i64 (f0:Int), .int .i64 (t0:Int), .slice As ss.length cs] 48)) (.cells #[.bool true] 4)
    simpa using this⟩
  have HB1:Aside0 (Below w.heap.size w w1):=⟨by rw [← hw1];exact (newBelow _ _).alloc (by simp) _⟩
  rw [hw1]
  clear hw1
  refine (parts_cut (w.heap.size+1) A0 c0 l0 f0 t0 w1 hc0 HT0.out.1 HT0.out.2 hm0).mono ?_
  rintro e w2 ⟨rfl,hb2⟩
  have HB2:Aside0 (Below w.heap.size w w2):=⟨far_ HB1.out hb2.out⟩
  have G02:=Aside0.mk (farKeep G0.out hb2.out)
  have G12:=Aside0.mk (farKeep G1.out hb2.out)
  have z3:w2.cell? ⟨w.heap.size,3,none⟩=some (.slice As ss.length cs):=cell_blk G02.out rfl
  clear hb2 G0 G1 HB1
  go_wp2_with fail
  go_loopw [12,13,30] (fun v _ iv wr => ∃ (k:Nat) (Ao:Option Addr) (co:Nat),v = .slice Ao (partsF (ss.take k) (l1.take k)).length co∧iv = .int .i64 k∧k≤ss.length∧Aside0 (Kd.N KSs 22 wr w.heap.size (fun k=>P k∨w.heap.size≤k) (.slice Ao (partsF (ss.take k) (l1.take k)).length co) (partsF (ss.take k) (l1.take k)))∧Aside0 (wr.heap[w.heap.size+1]? = some (.cells #[.bool true] 4 (0,0)))∧Aside0 (Below w.heap.size w wr)) (fun _ _ iv _=>ss.length - (intOf iv).toNat)
  case atStart=>exact ⟨0,_,_,rfl,rfl,Nat.zero_le _,⟨Kd.N_nil _ _ _ _ _⟩,G12,HB2⟩
  case round =>
    obtain ⟨k,Ao,co,rfl,rfl,hk,HO,HG,HBr⟩:=hrel
    by_cases hlt:k < ss.length
    · have e1:decide ((k:Int) < (ss.length:Int))=true:=decide_eq_true (by omega)
      have e2:decide (k < ss.length)=true:=decide_eq_true hlt
      have hlt1:k < l1.length:=by have:=HLEN.out;omega
      have e3:(k:Int) < (l1.length:Int):=by omega
      have e4:(0:Int)≤(k:Int):=by omega
      obtain ⟨as_,rfl,xf,xt⟩:=at_T45 HS.out (k:Int) (by omega) (by omega)
      have hx:rd_T45 ss (k:Int)=ss[k]:=getN hlt
      have hokk:=HOK.out k hlt1
      rw [getD_get hlt] at hokk
      have hsucc:=partsF_succ hlt hlt1
      obtain ⟨⟨sf,st_⟩,hse⟩ : ∃ s,ss[k]=s:=⟨_,rfl⟩
      rw [hse] at hokk hsucc
      rw [hx,hse] at xf xt
      obtain ⟨ho1,ho2,ho3⟩:=hokk
      dsimp only at ho1 ho2 ho3 xf xt
      obtain ⟨f,rfl⟩ : ∃ f:Nat,sf=(f:Int):=⟨sf.toNat,by omega⟩
      obtain ⟨t,rfl⟩ : ∃ f:Nat,st_=(f:Int):=⟨st_.toNat,by omega⟩
      replace xf:=(HBr.out.cell (World.block_lt_of_cell? w _ xf)).trans xf
      replace xt:=(HBr.out.cell (World.block_lt_of_cell? w _ xt)).trans xt
      have kk:(k:Int).toNat=k:=by omega
      rw [kk] at xf xt
      obtain ⟨a1,cs1,rfl,hcl,hFK,hcell,_⟩:=Kd.F_get (Kd.F_old HF1.out HBr.out) [] (k:Int) (by omega) (by omega)
      have hy:l1.getD (k:Int).toNat []=l1[k]:=by simp [hlt1]
      have hmy:=HM.out _ (List.getElem_mem hlt1)
      obtain ⟨y,hye⟩ : ∃ y,l1[k]=y:=⟨_,rfl⟩
      rw [hy,hye] at hFK
      rw [hye] at hmy hsucc ho3
      obtain ⟨Ay,cy,rfl,ly,hFy⟩:=Kd.FK_slice_open hFK
      have xy:=hcell 0 _ rfl
      rw [kk] at xy
      replace xy:wr.cell? (a1.add k)=some (.slice Ay y.length cy):=by
        have e:k * KSs.sz+0=k:=by show k * 1+0=k;omega
        rw [e] at xy;exact xy
      have hft:f≤t:=by omega
      have hty:t≤y.length:=by omega
      have HFC:Aside0 (Kd.F Kd.string wr (fun k=>P k∧k < w.heap.size) (cutA Ay f t) (t - f) (cutL y f t)):=⟨by
        have:=F_cutA (d:=Kd.string) rfl hFy hft hty
        rwa [cutL_len hty] at this⟩
      have HCL:Aside0 ((cutL y f t).length=t - f):=⟨cutL_len hty⟩
      obtain ⟨out,hout⟩ : ∃ out,partsF (ss.take k) (l1.take k)=out:=⟨_,rfl⟩
      have houl:out.length≤1000000:=by rw [← hout,partsF_len (by rw [List.length_take,List.length_take];omega),List.length_take];omega
      rw [hout] at HO hsucc ⊢
      have HTK:Aside0 (partsF (ss.take (k+1)) (l1.take (k+1))=out ++ [cutL y f t]):=⟨hsucc⟩
      have HOUL:=Aside0.mk houl
      have HBw:Aside0 (w.heap.size≤wr.heap.size):=⟨HBr.out.size⟩
      have xy' : ∀ o,(wr.alloc o).cell? (a1.add k)=some (.slice Ay y.length cy):=fun o=>cell_alloc_of xy o
      clear kk hy hye hcl hFK hcell hFy hout houl hx hse hsucc ho1 ho2 ho3 xy
      go_wp2
      obtain ⟨w3,hw3⟩ : ∃ w3,wr.alloc (.cells #[.int .i64 (f:Int), .int .i64 (t:Int)] 45)=w3:=⟨_,rfl⟩
      have g3:w3.heap[wr.heap.size]? = some (.cells #[.int .i64 (f:Int), .int .i64 (t:Int)] 45 (0,0)):=by rw [← hw3];exact blk_new _ _
      have yf:w3.cell? ⟨wr.heap.size,0,none⟩=some (.int .i64 (f:Int)):=cell_blk g3 rfl
      have yt:w3.cell? ⟨wr.heap.size,1,none⟩=some (.int .i64 (t:Int)):=cell_blk g3 rfl
      have yy:w3.cell? (a1.add k)=some (.slice Ay y.length cy):=by rw [← hw3];exact xy' _
      have HB3:Aside0 (Below wr.heap.size wr w3):=⟨by rw [← hw3];exact newBelow _ _⟩
      rw [hw3]
      clear hw3 g3 xy' xf xt
      refine start_ (n:=11) (S:=fun w'=>w'.cell? (a1.add k)=some (.slice Ay y.length cy)∧w'.cell? ⟨wr.heap.size,0,none⟩=some (.int .i64 (f:Int))∧w'.cell? ⟨wr.heap.size,1,none⟩=some (.int .i64 (t:Int))) (ds:=[7,8,9]) #[false,false,false,false,false,false,false,false,false,false,false] (by kernel_rfl) rfl rfl ⟨yy,yf,yt⟩ (fun hHeld=>?_)
      refine pure_ (i:=0) (N:=some 35) (v:=?_) (a':=?_) #[true,false,false,false,false,false,false,false,false,false,false] rfl rfl (by kernel_rfl) (fun _ _ _ h=>h) (Or.inl ⟨by rfl,?_⟩) ?_ ?_
      rotate_left
      · intro w'
        go_simp
        with_reducible rfl
      rotate_left
      · simp only [Act.put,List.setIfInBounds_toArray,List.set_cons_zero,List.set_cons_succ,i64_w,i32_w]
        rfl
      refine pure_ (i:=1) (N:=some 36) (v:=?_) (a':=?_) #[true,true,false,false,false,false,false,false,false,false,false] rfl rfl (by kernel_rfl) (fun _ _ _ h=>h) (Or.inl ⟨by rfl,?_⟩) ?_ ?_
      rotate_left
      · intro w'
        go_simp
        with_reducible rfl
      rotate_left
      · simp only [Act.put,List.setIfInBounds_toArray,List.set_cons_zero,List.set_cons_succ,i64_w,i32_w]
        rfl
      refine pure_ (i:=2) (N:=some 37) (v:=?_) (a':=?_) #[true,true,true,false,false,false,false,false,false,false,false] rfl rfl (by kernel_rfl) (fun _ _ _ h=>h) (Or.inl ⟨by rfl,?_⟩) ?_ ?_
      rotate_left
      · intro w'
        go_simp
        with_reducible rfl
      rotate_left
      · simp only [Act.put,List.setIfInBounds_toArray,List.set_cons_zero,List.set_cons_succ,i64_w,i32_w]
        rfl
      refine pure_ (i:=3) (N:=some 38) (v:=?_) (a':=?_) #[true,true,true,true,false,false,false,false,false,false,false] rfl rfl (by kernel_rfl) (fun _ _ _ h=>h) (Or.inl ⟨by rfl,?_⟩) ?_ ?_
      rotate_left
      · intro w'
        go_simp
        with_reducible rfl
      rotate_left
      · simp only [Act.put,List.setIfInBounds_toArray,List.set_cons_zero,List.set_cons_succ,i64_w,i32_w]
        rfl
      refine pure_ (i:=4) (N:=some 39) (v:=?_) (a':=?_) #[true,true,true,true,true,false,false,false,false,false,false] rfl rfl (by kernel_rfl) (fun _ _ _ h=>h) (Or.inl ⟨by rfl,?_⟩) ?_ ?_
      rotate_left
      · intro w'
        go_simp
        with_reducible rfl
      rotate_left
      · simp only [Act.put,List.setIfInBounds_toArray,List.set_cons_zero,List.set_cons_succ,i64_w,i32_w]
        rfl
      refine take_ (i:=5) (N:=some 40) (v:=?_) (a':=?_) #[true,true,true,true,true,true,false,false,false,false,false] rfl rfl (by kernel_rfl) (fun _ _ _ h=>h) (Or.inl ⟨by rfl,?_⟩) hHeld ?_ ?_
      rotate_left
      · rintro w' ⟨s0,s1,s2⟩
        go_simp
        with_reducible rfl
      rotate_left
      · simp only [Act.put,List.setIfInBounds_toArray,List.set_cons_zero,List.set_cons_succ,i64_w,i32_w]
        rfl
      refine take_ (i:=6) (N:=some 41) (v:=?_) (a':=?_) #[true,true,true,true,true,true,true,false,false,false,false] rfl rfl (by kernel_rfl) (fun _ _ _ h=>h) (Or.inl ⟨by rfl,?_⟩) hHeld ?_ ?_
      rotate_left
      · rintro w' ⟨s0,s1,s2⟩
        go_simp
        with_reducible rfl
      rotate_left
      · simp only [Act.put,List.setIfInBounds_toArray,List.set_cons_zero,List.set_cons_succ,i64_w,i32_w]
        rfl
      refine last_ (i:=7) (N:=some 42) #[true,true,true,true,true,true,true,true,false,false,false] rfl rfl (by kernel_rfl) (by decide) (fun K hK=>?_)
      refine goesC_ Tryz.func101 (by kernel_rfl) rfl #[.pointer (some ⟨w.heap.size+1,0,none⟩)] #[.slice Ay y.length cy, .agg #[.int .i64 (f:Int), .int .i64 (t:Int)], .pointer (some ⟨w.heap.size+1,0,none⟩)] (by rfl) rfl rfl (by rfl) (by simp only [List.map_toArray,List.map_cons,List.map_nil];rfl) ?_
      with_reducible refine (parts_cut (w.heap.size+1) Ay cy y f t w3.drew ly hft hty hmy).mono ?_
      rintro e w4 ⟨rfl,hb4⟩
      refine ⟨_,rfl,?_⟩
      have HB4:Aside0 (Below wr.heap.size wr w4):=⟨far_ HB3.out ((Below.refl _ _).drew.trans hb4.out)⟩
      clear hb4
      refine hK.out _ _ ?_
      clear hK K
      refine norm_ (a':=?_) ?_ ?_
      rotate_left
      · show Act.put _ (some 42) _=_
        simp only [Act.put,List.setIfInBounds_toArray,List.set_cons_zero,List.set_cons_succ,i64_w,i32_w]
        rfl
      refine last_ (i:=8) (N:=some 43) #[true,true,true,true,true,true,true,true,true,false,false] rfl rfl (by kernel_rfl) (by decide) (fun K hK=>?_)
      refine value_ (w1:=?_) (v:=?_) (by rfl) rfl ?_ ?_
      rotate_left 2
      · go_simp
        constructor
        · rfl
        · rfl
      refine hK.out _ _ ?_
      clear hK K
      refine norm_ (a':=?_) ?_ ?_
      rotate_left
      · show Act.put _ (some 43) _=_
        simp only [Act.put,List.setIfInBounds_toArray,List.set_cons_zero,List.set_cons_succ,i64_w,i32_w]
        rfl
      refine last_ (i:=9) (N:=some 44) #[true,true,true,true,true,true,true,true,true,true,false] rfl rfl (by kernel_rfl) (by decide) (fun K hK=>?_)
      refine Kd.N_append_step KSs (w0:=w) (W:=w4) w.heap.size (by rfl) (.tmp 35) (.tmp 43) 23 22 (.slice none 0 0) 24 rfl Tryz.underlying23 info22 rfl Nat.zero_lt_one (by decide) (.slice Ao out.length co) out (cutL y f t) [.slice (cutA Ay f t) (t - f) (t - f)] (fun k=>P k∨w.heap.size≤k) (fun k=>P k∧k < w.heap.size) rfl rfl (FK_cut (Kd.F_below HFC.out HB4.out) HCL.out) (fun k hk=>⟨.inl hk.1,fun e=>by have:=Kd.N_base HO.out k e.symm;have:=hk.2;omega⟩) (fun k hk => .inr (Nat.le_trans (Nat.le_trans HBw.out HB4.out.size) hk)) (Kd.N_below HO.out HB4.out) (far_ HBr.out HB4.out) (Nat.le_trans HBw.out HB4.out.size) (by have:=HOUL.out;omega) ?_
      intro v5 w5 ho5 hb5 hg5 hat5
      obtain ⟨A5,c5,hv5⟩:=Kd.N_slice ho5
      subst hv5
      have HO5:=Aside0.mk ho5
      have HB5:=Aside0.mk hb5
      have HG5:=Aside0.mk hg5
      clear ho5 hb5 hg5 hat5
      refine hK.out _ _ ?_
      clear hK K
      refine norm_ (a':=?_) ?_ ?_
      rotate_left
      · show Act.put _ (some 44) _=_
        simp only [Act.put,List.setIfInBounds_toArray,List.set_cons_zero,List.set_cons_succ,i64_w,i32_w]
        rfl
      refine pure_ (i:=10) (N:=some 12) (v:=?_) (a':=?_) #[true,true,true,true,true,true,true,true,true,true,true] rfl rfl (by kernel_rfl) (fun _ _ _ h=>h) (Or.inl ⟨by rfl,?_⟩) ?_ ?_
      rotate_left
      · intro w'
        go_simp
        with_reducible rfl
      rotate_left
      · simp only [Act.put,List.setIfInBounds_toArray,List.set_cons_zero,List.set_cons_succ,i64_w,i32_w]
        rfl
      refine done_ (by kernel_rfl) ?_
      clear yf yt yy
      go_wp2
      go_roundw
      case measure=>simp [intOf];omega
      case rel =>
        have h14:=farKeep HG.out HB4.out
        refine ⟨k+1,A5,c5,by rw [HTK.out,List.length_append,List.length_singleton],by go_num,by omega,⟨by rw [HTK.out];exact HO5.out⟩,⟨(HG5.out.block _ (blk_lt h14) (Kd.N_ne (Kd.N_below HO.out HB4.out) h14 (by decide))).trans h14⟩,HB5⟩
    · have hk':k=ss.length:=by omega
      subst hk'
      have e1:decide ((ss.length:Int) < (ss.length:Int))=false:=decide_eq_false (by omega)
      have hl1:l1.take ss.length=l1:=by rw [HLEN.out,List.take_length]
      rw [List.take_length,hl1] at HO ⊢
      have zk:wr.cell? ⟨w.heap.size+1,0,none⟩=some (.bool true):=cell_blk HG.out rfl
      have HF:=Aside0.mk (Kd.F_old HF0.out HBr.out)
      clear hl1
      go_wp2
      go_ret3
      exact ⟨_,_,rfl,HF,HO,HBr⟩
theorem at_piece {W:World} {ok:Nat→Prop} {A:Option Addr} {n:Nat} {xs:List Piece} (h:Kd.F k66 W ok A n xs) (k:Nat) (hk:k < n) :
    ∃ ad A1 c1 A2 c2 A3 c3,A=some ad∧W.cell? (ad.add (k * 4))=some (.bool (xs.getD k z66).f0)∧W.cell? ⟨(ad.add (k * 4)).block,(ad.add (k * 4)).off+1,none⟩=some (.slice A1 (xs.getD k z66).f1.length c1) ∧
      W.cell? ⟨(ad.add (k * 4)).block,(ad.add (k * 4)).off+2,none⟩=some (.slice A2 (xs.getD k z66).f2.length c2)∧W.cell? ⟨(ad.add (k * 4)).block,(ad.add (k * 4)).off+3,none⟩=some (.slice A3 (xs.getD k z66).f3.length c3) ∧
      (xs.getD k z66).f1.length≤c1∧Kd.F Kd.string W ok A1 (xs.getD k z66).f1.length (xs.getD k z66).f1∧(xs.getD k z66).f2.length≤c2∧Kd.F Kd.string W ok A2 (xs.getD k z66).f2.length (xs.getD k z66).f2∧(xs.getD k z66).f3.length≤c3∧Kd.F KSs W ok A3 (xs.getD k z66).f3.length (xs.getD k z66).f3:=by
  obtain ⟨ad,cs,e,hcl,hFK,hcell,_⟩:=Kd.F_get h z66 (k:Int) (by omega) (by omega)
  rw [Int.toNat_natCast] at hFK hcell
  have hc : ∀ j u,cs[j]? = some u→W.cell? (ad.add (k * 4+j))=some u:=hcell
  obtain ⟨A1,c1,A2,c2,A3,c3,rfl,l1,g1,l2,g2,l3,g3⟩:=k66_openF hFK
  exact ⟨ad,A1,c1,A2,c2,A3,c3,e,hc 0 _ rfl,by rw [← add_field _ _ 1 (by omega)];exact hc 1 _ rfl,by rw [← add_field _ _ 2 (by omega)];exact hc 2 _ rfl,by rw [← add_field _ _ 3 (by omega)];exact hc 3 _ rfl,l1,g1,l2,g2,l3,g3⟩
/-- Is the last piece a text? -/
def textLast (out:List Piece):Bool:=decide (0 < out.length) && !(out.getD (out.length - 1) z66).f0
/-- What a row of pieces is, one more behind it. -/
def putF (out:List Piece) (p:Piece):List Piece :=
  if p.f0=true then out ++ [⟨true,[],p.f2,p.f3⟩]
  else if p.f1=[] then out
  else if textLast out=true then out.set (out.length - 1) ⟨(out.getD (out.length - 1) z66).f0,(out.getD (out.length - 1) z66).f1 ++ p.f1,(out.getD (out.length - 1) z66).f2,(out.getD (out.length - 1) z66).f3⟩
  else out ++ [⟨false,p.f1,[],[]⟩]
def normalF (l:List Piece):List Piece:=l.foldl putF []
theorem normalF_snoc (l:List Piece) (p:Piece):normalF (l ++ [p])=putF (normalF l) p:=by rw [normalF,normalF,List.foldl_append];rfl
theorem putF_len (out:List Piece) (p:Piece):(putF out p).length≤out.length+1:=by
 unfold putF;split;(· simp)
 ·
  split;(· omega)
  ·
   split;(· (rw [List.length_set];omega));(· simp)
/-- The row, where it stands; its pieces lead to what was there (P), or is new. -/
def RowIn (w0 W:World) (B gw:Nat) (P:Nat→Prop) (out:List Piece):Prop :=
  ∃ vo,W.heap[gw]? = some (.cells #[vo] 143 (0,0))∧B≤gw∧Kd.N k66 66 W B (fun k=>(P k∧k < B∨B≤k)∧k≠gw) vo out∧Below B w0 W
theorem RowIn.bel {w0 W:World} {B gw:Nat} {P:Nat→Prop} {out:List Piece} (h:RowIn w0 W B gw P out):Below B w0 W:=by
 (obtain ⟨vo,q1,q2,q4,q5⟩:=h;exact q5)
theorem RowIn.below {w0 W W':World} {B gw:Nat} {P:Nat→Prop} {out:List Piece} (h:RowIn w0 W B gw P out) (hb:Below W.heap.size W W') (hB:B≤W.heap.size):RowIn w0 W' B gw P out:=by
 obtain ⟨vo,q1,q2,q4,q5⟩:=h;exact ⟨vo,farKeep q1 hb,q2,Kd.N_below q4 hb,q5.trans (hb.mono hB)⟩
set_option maxRecDepth 100000 in
set_option maxHeartbeats 4000000 in
theorem row_last (w:World) (B gw:Nat) (ok:Nat→Prop) (vo:Value) (out:List Piece) (q1:w.heap[gw]? = some (.cells #[vo] 143 (0,0))) (q4:Kd.N k66 66 w B ok vo out) (hl:out.length≤1000000000) :
    Calls Tryz.prog 104 #[.pointer (some ⟨gw,0,none⟩)] w fun e w' => ∃ p:Option Addr,e = .returned (.pointer p)∧Aside0 ((textLast out=false∧p=none)∨(textLast out=true ∧ ∃ go co,vo = .slice (some ⟨go,0,none⟩) out.length co∧p=some ⟨go,(out.length - 1) * 4,none⟩))∧w'=w:=by
 obtain ⟨Ao,co,rfl⟩:=Kd.N_slice q4;have yw:w.cell? ⟨gw,0,none⟩=some (.slice Ao out.length co):=cell_blk q1 rfl;have Q4:=Aside0.mk q4
 by_cases h0:out.length=0
 (· have ht:Aside0 (textLast out=false):=⟨by rw [textLast,decide_eq_false (by omega)];rfl⟩;(have d1:((out.length:Int) == 0)=true:=by rw [beq_iff_eq];omega);clear q1 q4;go_enter Tryz.func104,Tryz.ntmps104;go_wp2;go_ret;exact ⟨none,rfl,⟨.inl ⟨ht.out,rfl⟩⟩,rfl⟩)
 ·
  (have d1:((out.length:Int) == 0)=false:=by rw [beq_eq_false_iff_ne];omega);obtain ⟨go,cap,hv,hgB,hgl,cellsO,hgc⟩:=Kd.N_form q4 (by omega);(injection hv with hv1 _ hv3);(subst hv1;subst hv3);obtain ⟨c,hcl,hFK,hcell,hfr⟩:=Kd.N_elem q4 z66 ((out.length - 1:Nat):Int) (by omega) (by omega);(rw [Int.toNat_natCast] at hFK hcell);obtain ⟨A1,c1,A2,c2,A3,c3,rfl,_⟩:=k66_openF hFK;have xb:w.cell? ⟨go,(out.length - 1) * 4,none⟩=some (.bool (out.getD (out.length - 1) z66).f0):=hcell 0 _ rfl;obtain ⟨b,hb⟩ : ∃ b,(out.getD (out.length - 1) z66).f0=b:=⟨_,rfl⟩;have ht:Aside0 (textLast out = !b):=⟨by rw [textLast,decide_eq_true (by omega),hb];rfl⟩;(rw [hb] at xb);clear hb q1 q4 hFK hcell hcl hgc hfr
  cases b with
  | true =>
   go_enter Tryz.func104,Tryz.ntmps104;go_wp2;go_ret;exact ⟨none,rfl,⟨.inl ⟨ht.out,rfl⟩⟩,rfl⟩
  | false =>
   go_enter Tryz.func104,Tryz.ntmps104;go_wp2;go_ret;exact ⟨_,rfl,⟨Or.inr ⟨ht.out,rfl⟩⟩,rfl⟩
/-- The last piece's text is another one. -/
theorem text_put {W:World} {B gw go n co:Nat} {P:Nat→Prop} {out:List Piece} {A:Option Addr} {m c:Nat} {t:List ByteArray} (h:Kd.N k66 66 W B (fun k=>(P k∧k < B∨B≤k)∧k≠gw) (.slice (some ⟨go,0,none⟩) n co) out) (hn:0 < n)
    (ht:Kd.F Kd.string W (fun k=>((P k∧k < B∨B≤k)∧k≠gw)∧k≠go) A m t) (hm:t.length=m) (hc:m≤c) :
    Kd.N k66 66 (W.setCell ⟨go,(n - 1) * 4+1,none⟩ (.slice A m c)) B (fun k=>(P k∧k < B∨B≤k)∧k≠gw) (.slice (some ⟨go,0,none⟩) n co) (out.set (n - 1) ⟨(out.getD (n - 1) z66).f0,t,(out.getD (n - 1) z66).f2,(out.getD (n - 1) z66).f3⟩)∧W.grownBy (W.setCell ⟨go,(n - 1) * 4+1,none⟩ (.slice A m c)) (some go):=by
 subst hm;obtain ⟨cs,hcl,hFK,hcell,hfr⟩:=Kd.N_elem h z66 ((n - 1:Nat):Int) (by omega) (by omega);have hcc:=hcell;(rw [Int.toNat_natCast] at hFK);obtain ⟨A1,c1,A2,c2,A3,c3,rfl,l1,g1,l2,g2,l3,g3⟩:=k66_openF hFK;have hmk:=k66_mkF W (fun k=>((P k∧k < B∨B≤k)∧k≠gw)∧k≠go) (⟨(out.getD (n - 1) z66).f0,t,(out.getD (n - 1) z66).f2,(out.getD (n - 1) z66).f3⟩:Piece) hc ht l2 g2 l3 g3;have hs:=Kd.N_seg h ((n - 1:Nat):Int) (by omega) (by omega) (seg:=[.slice A t.length c]) (j:=1) hcl hcc (by show 1+1≤4;omega) hmk (fun k hk=>hk);(rw [Int.toNat_natCast] at hs);exact hs
set_option maxRecDepth 100000 in
set_option maxHeartbeats 8000000 in
theorem row_put (w0 w:World) (B gw:Nat) (P:Nat→Prop) (out:List Piece) (b:Bool) (s1 s2:List ByteArray) (s3:List (List ByteArray)) (A1:Option Addr) (c1:Nat) (A2:Option Addr) (c2:Nat) (A3:Option Addr) (c3:Nat) (hB:B=w0.heap.size) (h:RowIn w0 w B gw P out)
    (l1:s1.length≤c1) (F1:Kd.F Kd.string w (fun k=>P k∧k < B) A1 s1.length s1) (l2:s2.length≤c2) (F2:Kd.F Kd.string w (fun k=>P k∧k < B) A2 s2.length s2) (l3:s3.length≤c3) (F3:Kd.F KSs w (fun k=>P k∧k < B) A3 s3.length s3) (hl:out.length≤100000000) (ht : ∀ p ∈ out,p.f1.length+s1.length≤1000000) :
    Calls Tryz.prog 90 #[.pointer (some ⟨gw,0,none⟩), .agg #[.bool b, .slice A1 s1.length c1, .slice A2 s2.length c2, .slice A3 s3.length c3]] w fun e w'=>e = .returned (.tuple #[])∧Aside0 (RowIn w0 w' B gw P (putF out ⟨b,s1,s2,s3⟩)):=by
 have H:=Aside0.mk h;obtain ⟨vo,q1,q2,q4,q5⟩:=h;obtain ⟨Ao,co,rfl⟩:=Kd.N_slice q4;have HBW:Aside0 (B≤w.heap.size):=⟨by rw [hB];exact (by rw [hB] at q5;exact q5.size)⟩;have Q1:=Aside0.mk q1;have Q4:=Aside0.mk q4;have Q5:=Aside0.mk q5;have HF1:=Aside0.mk F1;have HF2:=Aside0.mk F2;have HF3:=Aside0.mk F3;have HT:=Aside0.mk ht;have hgw:gw < w.heap.size:=blk_lt q1;clear q1 q4 q5 F1 F2 F3 ht hB;go_enter Tryz.func90,Tryz.ntmps90;(go_wp2_with fail);obtain ⟨w1,hw1⟩ : ∃ w1,w.alloc (.cells #[.bool b, .slice A1 s1.length c1, .slice A2 s2.length c2, .slice A3 s3.length c3] 66)=w1:=⟨_,rfl⟩;(have g1:w1.heap[w.heap.size]? = some (.cells #[.bool b, .slice A1 s1.length c1, .slice A2 s2.length c2, .slice A3 s3.length c3] 66 (0,0)):=by rw [← hw1];exact blk_new _ _);have HB1:Aside0 (Below w.heap.size w w1):=⟨by rw [← hw1];exact newBelow _ _⟩;rw [hw1];clear hw1;refine (row_last w1 B gw _ _ out (farKeep Q1.out HB1.out) (Kd.N_below Q4.out HB1.out) (by omega)).mono ?_;rintro e w1' ⟨p,rfl,HP,rfl⟩;have z0:w1'.cell? ⟨w.heap.size,0,none⟩=some (.bool b):=cell_blk g1 rfl;have z1:w1'.cell? ⟨w.heap.size,1,none⟩=some (.slice A1 s1.length c1):=cell_blk g1 rfl;have z2:w1'.cell? ⟨w.heap.size,2,none⟩=some (.slice A2 s2.length c2):=cell_blk g1 rfl;have z3:w1'.cell? ⟨w.heap.size,3,none⟩=some (.slice A3 s3.length c3):=cell_blk g1 rfl;have Q11:=Aside0.mk (farKeep Q1.out HB1.out);have Q41:=Aside0.mk (Kd.N_below Q4.out HB1.out);have Q51:Aside0 (Below B w0 w1'):=⟨Q5.out.trans (HB1.out.mono HBW.out)⟩;have zw:w1'.cell? ⟨gw,0,none⟩=some (.slice Ao out.length co):=cell_blk Q11.out rfl;have HF11:=Aside0.mk (Kd.F_below HF1.out HB1.out);have HF21:=Aside0.mk (Kd.F_below HF2.out HB1.out);have HF31:=Aside0.mk (Kd.F_below HF3.out HB1.out);have HFR:Aside0 (∀ k,w1'.heap.size≤k→(P k∧k < B∨B≤k)∧k≠gw):=⟨fun k hk=>by have:=HB1.out.size;have:=HBW.out;exact ⟨.inr (by omega),by omega⟩⟩;have HOKP:Aside0 (∀ k,(P k∧k < B)→((P k∧k < B∨B≤k)∧k≠gw)∧some k≠(Value.slice Ao out.length co).ownBlock):=⟨fun k hk=>⟨⟨.inl hk,by omega⟩,fun e=>by have:=Kd.N_base Q4.out k e.symm;omega⟩⟩;clear g1
 cases b with
 | true =>
  have HPUT:Aside0 (putF out ⟨true,s1,s2,s3⟩=out ++ [⟨true,[],s2,s3⟩]):=⟨rfl⟩;go_wp2;refine start_ (n:=15) (S:=fun w'=>w'.cell? ⟨gw,0,none⟩=some (.slice Ao out.length co)∧w'.cell? ⟨w.heap.size,2,none⟩=some (.slice A2 s2.length c2)∧w'.cell? ⟨w.heap.size,3,none⟩=some (.slice A3 s3.length c3)) (ds:=[11,14]) #[false,false,false,false,false,false,false,false,false,false,false,false,false,false,false] (by kernel_rfl) rfl rfl ⟨zw,z2,z3⟩ (fun hHeld=>?_);refine pq_ (i:=0) (N:=some 22) #[true,false,false,false,false,false,false,false,false,false,false,false,false,false,false] ?_;refine pq_ (i:=1) (N:=some 23) #[true,true,false,false,false,false,false,false,false,false,false,false,false,false,false] ?_;refine pq_ (i:=2) (N:=some 24) #[true,true,true,false,false,false,false,false,false,false,false,false,false,false,false] ?_;refine pq_ (i:=3) (N:=some 25) #[true,true,true,true,false,false,false,false,false,false,false,false,false,false,false] ?_;refine pq_ (i:=5) (N:=some 27) #[true,true,true,true,false,true,false,false,false,false,false,false,false,false,false] ?_;refine pq_ (i:=7) (N:=some 29) #[true,true,true,true,false,true,false,true,false,false,false,false,false,false,false] ?_;refine tq_ (i:=4) (N:=some 26) #[true,true,true,true,true,true,false,true,false,false,false,false,false,false,false] hHeld ?_;refine tq_ (i:=6) (N:=some 28) #[true,true,true,true,true,true,true,true,false,false,false,false,false,false,false] hHeld ?_;refine tq_ (i:=8) (N:=some 30) #[true,true,true,true,true,true,true,true,true,false,false,false,false,false,false] hHeld ?_;refine pq_ (i:=9) (N:=some 31) #[true,true,true,true,true,true,true,true,true,true,false,false,false,false,false] ?_;refine one_ (i:=10) (N:=some 32) #[true,true,true,true,true,true,true,true,true,true,true,false,false,false,false] rfl rfl (by kernel_rfl) (by decide) (fun K hK=>?_);refine value_ (w1:=?_) (v:=?_) (by rfl) rfl ?_ ?_;rotate_left 2
  ·
   go_simp;constructor;(· rfl);(· rfl)
  refine hK.out _ _ ⟨cell_alloc_of zw _,cell_alloc_of z2 _,cell_alloc_of z3 _⟩ (fun hHeld=>?_);clear hK K;refine nq_ (N:=some 32) ?_;refine last_ (i:=11) (N:=some 33) #[true,true,true,true,true,true,true,true,true,true,true,true,false,false,false] rfl rfl (by kernel_rfl) (by decide) (fun K hK=>?_);refine Kd.N_append_step k66 (w0:=w1'.drew) (W:=w1'.drew) B (by rfl) (.tmp 26) (.tmp 32) 35 66 (.agg #[.bool false, .slice none 0 0, .slice none 0 0, .slice none 0 0]) 80 rfl Tryz.underlying35 info66 rfl (by decide) (by decide) (.slice Ao out.length co) out (⟨true,[],s2,s3⟩:Piece) [.bool true, .slice none 0 0, .slice A2 s2.length c2, .slice A3 s3.length c3] (fun k=>(P k∧k < B∨B≤k)∧k≠gw) (fun k=>P k∧k < B) rfl rfl ?aF HOKP.out HFR.out (Kd.N_drew Q41.out) (Below.refl _ _) (Nat.le_trans HBW.out HB1.out.size) (by omega) ?_;(case aF=>exact k66_mkF _ _ (⟨true,[],s2,s3⟩:Piece) (Nat.le_refl 0) (Kd.F_nil Kd.string _ _) l2 (Kd.F_drew HF21.out) l3 (Kd.F_drew HF31.out));intro v9 w9 ho9 hb9 hg9 hat9;obtain ⟨A9,c9,hv9⟩:=Kd.N_slice ho9;subst hv9;have g9:w9.heap[gw]? = some (.cells #[.slice Ao out.length co] 143 (0,0)):=(hg9.block gw (blk_lt Q11.out) (Kd.N_ne Q41.out Q11.out (by decide))).trans Q11.out;have y9:w9.cell? ⟨gw,0,none⟩=some (.slice Ao out.length co):=cell_blk g9 rfl;have f9:w9.frozen? ⟨gw,0,none⟩=false:=frozen_of_row _ _ _ _ _ g9;have HO9:=Aside0.mk ho9;have HB9:=Aside0.mk hb9;have HG9:=Aside0.mk hg9;have G9:=Aside0.mk g9;clear ho9 hb9 hg9 hat9 g9 zw z2 z3;refine hK.out _ _ ?_;clear hK K;refine nq_ (N:=some 33) ?_;refine pq_ (i:=12) (N:=some 34) #[true,true,true,true,true,true,true,true,true,true,true,true,true,false,false] ?_;refine pq_ (i:=13) (N:=some 35) #[true,true,true,true,true,true,true,true,true,true,true,true,true,true,false] ?_;refine last_ (i:=14) (N:=none) #[true,true,true,true,true,true,true,true,true,true,true,true,true,true,true] rfl rfl (by kernel_rfl) (by decide) (fun K hK=>?_);refine skip_ (w1:=?_) (by rfl) rfl ?_ ?_;rotate_left;(· go_simp;rfl);refine hK.out _ _ ?_;clear hK K;refine done_ (by kernel_rfl) ?_;go_end0;exact ⟨rfl,⟨⟨.slice A9 (out ++ [(⟨true,[],s2,s3⟩:Piece)]).length c9,by rw [heap_set_same G9.out];simp,q2,by rw [HPUT.out];exact Kd.N_far HO9.out (fun k hk=>hk.2) _,(Q51.out.drew.trans HB9.out).setCell (p:=⟨gw,0,none⟩) q2 _⟩⟩⟩
 | false =>
  by_cases hs1:s1=[]
  (· have HPUT:Aside0 (putF out ⟨false,s1,s2,s3⟩=out):=⟨by rw [putF,if_neg (by intro h;cases h),if_pos hs1]⟩;(have hs1l:s1.length=0:=by rw [hs1];rfl);(have d1:((s1.length:Int) == 0)=true:=by rw [beq_iff_eq];omega);go_wp2;go_end0;exact ⟨rfl,⟨by rw [HPUT.out];exact H.out.below HB1.out HBW.out⟩⟩)
  ·
   have hs1l:0 < s1.length:=List.length_pos_iff.2 hs1;(have d1:((s1.length:Int) == 0)=false:=by rw [beq_eq_false_iff_ne];omega)
   rcases HP.out with ⟨htl,rfl⟩ | ⟨htl,go,co',hv,rfl⟩
   ·
    have HPUT:Aside0 (putF out ⟨false,s1,s2,s3⟩=out ++ [⟨false,s1,[],[]⟩]):=⟨by rw [putF,if_neg (by intro h;cases h),if_neg hs1,if_neg (by rw [htl];decide)]⟩;clear htl HP;go_wp2;refine start_ (n:=13) (S:=fun w'=>w'.cell? ⟨gw,0,none⟩=some (.slice Ao out.length co)∧w'.cell? ⟨w.heap.size,1,none⟩=some (.slice A1 s1.length c1)) (ds:=[9,12]) #[false,false,false,false,false,false,false,false,false,false,false,false,false] (by kernel_rfl) rfl rfl ⟨zw,z1⟩ (fun hHeld=>?_);refine pq_ (i:=0) (N:=some 7) #[true,false,false,false,false,false,false,false,false,false,false,false,false] ?_;refine pq_ (i:=1) (N:=some 8) #[true,true,false,false,false,false,false,false,false,false,false,false,false] ?_;refine pq_ (i:=2) (N:=some 9) #[true,true,true,false,false,false,false,false,false,false,false,false,false] ?_;refine pq_ (i:=3) (N:=some 10) #[true,true,true,true,false,false,false,false,false,false,false,false,false] ?_;refine pq_ (i:=5) (N:=some 12) #[true,true,true,true,false,true,false,false,false,false,false,false,false] ?_;refine tq_ (i:=4) (N:=some 11) #[true,true,true,true,true,true,false,false,false,false,false,false,false] hHeld ?_;refine tq_ (i:=6) (N:=some 13) #[true,true,true,true,true,true,true,false,false,false,false,false,false] hHeld ?_;refine pq_ (i:=7) (N:=some 14) #[true,true,true,true,true,true,true,true,false,false,false,false,false] ?_;refine one_ (i:=8) (N:=some 15) #[true,true,true,true,true,true,true,true,true,false,false,false,false] rfl rfl (by kernel_rfl) (by decide) (fun K hK=>?_);refine value_ (w1:=?_) (v:=?_) (by rfl) rfl ?_ ?_;rotate_left 2
    ·
     go_simp;constructor;(· rfl);(· rfl)
    refine hK.out _ _ ⟨cell_alloc_of zw _,cell_alloc_of z1 _⟩ (fun hHeld=>?_);clear hK K;refine nq_ (N:=some 15) ?_;refine last_ (i:=9) (N:=some 16) #[true,true,true,true,true,true,true,true,true,true,false,false,false] rfl rfl (by kernel_rfl) (by decide) (fun K hK=>?_);refine Kd.N_append_step k66 (w0:=w1'.drew) (W:=w1'.drew) B (by rfl) (.tmp 11) (.tmp 15) 35 66 (.agg #[.bool false, .slice none 0 0, .slice none 0 0, .slice none 0 0]) 80 rfl Tryz.underlying35 info66 rfl (by decide) (by decide) (.slice Ao out.length co) out (⟨false,s1,[],[]⟩:Piece) [.bool false, .slice A1 s1.length c1, .slice none 0 0, .slice none 0 0] (fun k=>(P k∧k < B∨B≤k)∧k≠gw) (fun k=>P k∧k < B) rfl rfl ?aF HOKP.out HFR.out (Kd.N_drew Q41.out) (Below.refl _ _) (Nat.le_trans HBW.out HB1.out.size) (by omega) ?_;(case aF=>exact k66_mkF _ _ (⟨false,s1,[],[]⟩:Piece) l1 (Kd.F_drew HF11.out) (Nat.le_refl 0) (Kd.F_nil Kd.string _ _) (Nat.le_refl 0) (Kd.F_nil KSs _ _));intro v9 w9 ho9 hb9 hg9 hat9;obtain ⟨A9,c9,hv9⟩:=Kd.N_slice ho9;subst hv9;have g9:w9.heap[gw]? = some (.cells #[.slice Ao out.length co] 143 (0,0)):=(hg9.block gw (blk_lt Q11.out) (Kd.N_ne Q41.out Q11.out (by decide))).trans Q11.out;have y9:w9.cell? ⟨gw,0,none⟩=some (.slice Ao out.length co):=cell_blk g9 rfl;have f9:w9.frozen? ⟨gw,0,none⟩=false:=frozen_of_row _ _ _ _ _ g9;have HO9:=Aside0.mk ho9;have HB9:=Aside0.mk hb9;have HG9:=Aside0.mk hg9;have G9:=Aside0.mk g9;clear ho9 hb9 hg9 hat9 g9 zw z1;refine hK.out _ _ ?_;clear hK K;refine nq_ (N:=some 16) ?_;refine pq_ (i:=10) (N:=some 17) #[true,true,true,true,true,true,true,true,true,true,true,false,false] ?_;refine pq_ (i:=11) (N:=some 18) #[true,true,true,true,true,true,true,true,true,true,true,true,false] ?_;refine last_ (i:=12) (N:=none) #[true,true,true,true,true,true,true,true,true,true,true,true,true] rfl rfl (by kernel_rfl) (by decide) (fun K hK=>?_);refine skip_ (w1:=?_) (by rfl) rfl ?_ ?_;rotate_left;(· go_simp;rfl);refine hK.out _ _ ?_;clear hK K;refine done_ (by kernel_rfl) ?_;go_end0;exact ⟨rfl,⟨⟨.slice A9 (out ++ [(⟨false,s1,[],[]⟩:Piece)]).length c9,by rw [heap_set_same G9.out];simp,q2,by rw [HPUT.out];exact Kd.N_far HO9.out (fun k hk=>hk.2) _,(Q51.out.drew.trans HB9.out).setCell (p:=⟨gw,0,none⟩) q2 _⟩⟩⟩
   ·
    (injection hv with hv1 _ hv3);(subst hv1;subst hv3)
    have hol:0 < out.length:=by
     (rw [textLast,Bool.and_eq_true] at htl);exact of_decide_eq_true htl.1
    (have hgd:out.getD (out.length - 1) z66 ∈ out:=by rw [getD_get (by omega)];exact List.getElem_mem _);have hlen:=HT.out _ hgd;obtain ⟨cs,hcl,hFK,hcell,hfr⟩:=Kd.N_elem Q41.out z66 ((out.length - 1:Nat):Int) (by omega) (by omega);(rw [Int.toNat_natCast] at hFK hcell hfr);obtain ⟨At,ct,A2',c2',A3',c3',rfl,lt_,gt_,_⟩:=k66_openF hFK;have yt:w1'.cell? ⟨go,(out.length - 1) * 4+1,none⟩=some (.slice At (out.getD (out.length - 1) z66).f1.length ct):=hcell 1 _ rfl;have HPUT:Aside0 (putF out ⟨false,s1,s2,s3⟩=out.set (out.length - 1) ⟨(out.getD (out.length - 1) z66).f0,(out.getD (out.length - 1) z66).f1 ++ s1,(out.getD (out.length - 1) z66).f2,(out.getD (out.length - 1) z66).f3⟩):=⟨by rw [putF,if_neg (by intro h;cases h),if_neg hs1,if_pos htl]⟩;obtain ⟨t,hte⟩ : ∃ t,(out.getD (out.length - 1) z66).f1=t:=⟨_,rfl⟩;(rw [hte] at hlen lt_ gt_ yt HPUT);have HGT:=Aside0.mk gt_;have HLEN:=Aside0.mk hlen;obtain ⟨w4,hw4⟩ : ∃ w4,w1'.drew.alloc (.cells #[.slice At t.length ct, .slice A1 s1.length c1] 22)=w4:=⟨_,rfl⟩;have HB4:Aside0 (Below w1'.heap.size w1' w4):=⟨by rw [← hw4];exact (Below.refl _ w1').drew.alloc (Nat.le_refl _) _⟩
    have HC4:Aside0 (Kd.C (Kd.slice 9 Kd.string) w4 (some ⟨w1'.heap.size,0,none⟩) [t,s1].length [t,s1]):=⟨by
     have k0:(Kd.slice 9 Kd.string).K w4 t [.slice At t.length ct]:=⟨At,ct,rfl,lt_,Kd.C_below (Kd.F_now HGT.out) HB4.out⟩;have k1:(Kd.slice 9 Kd.string).K w4 s1 [.slice A1 s1.length c1]:=⟨A1,c1,rfl,l1,Kd.C_below (Kd.F_now HF11.out) HB4.out⟩;(have qq:w4.heap[w1'.heap.size]? = some (.cells #[.slice At t.length ct, .slice A1 s1.length c1] 22 (0,0)):=by rw [← hw4];exact blk_new _ _)
     exact C_blk (d:=Kd.slice 9 Kd.string) (xs:=[t,s1]) (inner:=[.slice At t.length ct, .slice A1 s1.length c1]) qq (Reps.one k0 (Reps.one k1 (Reps.none _ _))) (by simp)⟩
    have HS4:Aside0 (w4.heap.size=w1'.heap.size+1):=⟨by rw [← hw4];simp⟩
    have HCON:Aside0 (Calls Tryz.prog 105 #[.slice (some ⟨w1'.heap.size,0,none⟩) 2 2] w4 fun e w' => ∃ v,e = .returned v∧Aside0 (Kd.R Kd.string 9 w' w4.heap.size (fun _=>True) v (t ++ s1))∧Aside0 (Below w4.heap.size w4 w')):=⟨by
     have:=concat_strs (some ⟨w1'.heap.size,0,none⟩) 2 [t,s1] w4 HC4.out (by simp) (by simp) (by simp;have:=HLEN.out;omega);(have e:([t,s1]:List (List ByteArray)).flatten=t ++ s1:=by simp);(rw [e] at this)
     exact this⟩
    have hgol:go < w1'.heap.size:=Kd.N_lt Q41.out go (by simp [Value.ownBlock]);have hgoB:B≤go:=Kd.N_base Q41.out go (by simp [Value.ownBlock]);clear htl HP hgd hFK hcell hcl hlen gt_ lt_ hte hfr;go_wp2;refine start_ (n:=12) (S:=fun w'=>w'.cell? ⟨go,(out.length - 1) * 4+1,none⟩=some (.slice At t.length ct)∧w'.cell? ⟨w.heap.size,1,none⟩=some (.slice A1 s1.length c1)) (ds:=[7,8,11]) #[false,false,false,false,false,false,false,false,false,false,false,false] (by kernel_rfl) rfl rfl ⟨yt,z1⟩ (fun hHeld=>?_);refine pq_ (i:=0) (N:=some 44) #[true,false,false,false,false,false,false,false,false,false,false,false] ?_;refine pq_ (i:=1) (N:=some 45) #[true,true,false,false,false,false,false,false,false,false,false,false] ?_;refine pq_ (i:=2) (N:=some 46) #[true,true,true,false,false,false,false,false,false,false,false,false] ?_;refine pq_ (i:=3) (N:=some 47) #[true,true,true,true,false,false,false,false,false,false,false,false] ?_;refine pq_ (i:=5) (N:=some 49) #[true,true,true,true,false,true,false,false,false,false,false,false] ?_;refine tq_ (i:=4) (N:=some 48) #[true,true,true,true,true,true,false,false,false,false,false,false] hHeld ?_;refine tq_ (i:=6) (N:=some 50) #[true,true,true,true,true,true,true,false,false,false,false,false] hHeld ?_;refine last_ (i:=7) (N:=some 51) #[true,true,true,true,true,true,true,true,false,false,false,false] rfl rfl (by kernel_rfl) (by decide) (fun K hK=>?_);refine value_ (w1:=?_) (v:=?_) (by rfl) rfl ?_ ?_;rotate_left 2
    ·
     go_simp;constructor;(· rfl);(· rfl)
    (try rw [hw4]);clear hw4;refine hK.out _ _ ?_;clear hK K;refine nq_ (N:=some 51) ?_;refine last_ (i:=8) (N:=some 52) #[true,true,true,true,true,true,true,true,true,false,false,false] rfl rfl (by kernel_rfl) (by decide) (fun K hK=>?_);refine goes_ Tryz.func105 (by kernel_rfl) rfl #[.slice (some ⟨w1'.heap.size,0,none⟩) 2 2] (by rfl) rfl rfl (by simp only [List.map_toArray,List.map_cons,List.map_nil];rfl) ?_;(with_reducible refine (HCON.out).mono ?_);rintro e w5 ⟨v5,rfl,HR5,HB5⟩;refine ⟨_,rfl,?_⟩;obtain ⟨A5,c5,hv5⟩:=Kd.R_slice HR5.out;subst hv5;have HB15:=Aside0.mk (far_ HB4.out HB5.out);have hN5:=Kd.N_below Q41.out HB15.out;obtain ⟨cs5,hcl5,hFK5,hcell5,hfr5⟩:=Kd.N_elem hN5 z66 ((out.length - 1:Nat):Int) (by omega) (by omega);have y5:w5.cell? ⟨go,(out.length - 1) * 4+1,none⟩=some (.slice At t.length ct):=(HB15.out.cell (p:=⟨go,(out.length - 1) * 4+1,none⟩) hgol).trans yt;have f5:w5.frozen? ⟨go,(out.length - 1) * 4+1,none⟩=false:=hfr5 1;have HN5:=Aside0.mk hN5;clear hN5 hFK5 hcell5 hfr5 hcl5 yt;refine hK.out _ _ ?_;clear hK K;refine nq_ (N:=some 52) ?_;refine pq_ (i:=9) (N:=some 53) #[true,true,true,true,true,true,true,true,true,true,false,false] ?_;refine pq_ (i:=10) (N:=some 54) #[true,true,true,true,true,true,true,true,true,true,true,false] ?_;refine last_ (i:=11) (N:=none) #[true,true,true,true,true,true,true,true,true,true,true,true] rfl rfl (by kernel_rfl) (by decide) (fun K hK=>?_);refine skip_ (w1:=?_) (by rfl) rfl ?_ ?_;rotate_left;(· go_simp;rfl);refine hK.out _ _ ?_;clear hK K;refine done_ (by kernel_rfl) ?_;go_end0
    have hF5:Kd.F Kd.string w5 (fun k=>((P k∧k < B∨B≤k)∧k≠gw)∧k≠go) A5 (t ++ s1).length (t ++ s1):=Kd.F_mono (Kd.R_F (Kd.R_bound HR5.out)) (fun k hk=>by
     have h1:=hk.2.1;have h2:=HS4.out;have h3:=HB1.out.size;have h4:=HBW.out
     exact ⟨⟨.inr (by omega),by omega⟩,by omega⟩)
    obtain ⟨hput,hgr⟩:=text_put HN5.out hol hF5 rfl (Kd.R_reads' HR5.out).2.1;have g5:=farKeep Q11.out HB15.out;refine ⟨rfl,⟨⟨.slice (some ⟨go,0,none⟩) out.length co,?_,q2,?_,(Q51.out.trans (HB15.out.mono (Nat.le_trans HBW.out HB1.out.size))).setCell (p:=⟨go,(out.length - 1) * 4+1,none⟩) hgoB _⟩⟩⟩;(· exact setKeep g5 (fun e=>Kd.N_ne HN5.out g5 (by decide) (by rw [e];simp [Value.ownBlock])) _);(· rw [HPUT.out];(rw [List.length_append] at hput);exact hput)
/-- How many texts' lines pieces have. -/
def tsum (l:List Piece):Nat:=(l.map (fun p=>p.f1.length)).sum
theorem tsum_append (a b:List Piece):tsum (a ++ b)=tsum a+tsum b:=by rw [tsum,List.map_append,List.sum_append];rfl
theorem tsum_one (p:Piece):tsum [p]=p.f1.length:=by simp [tsum]
theorem tsum_mem {l:List Piece} {p:Piece} (h:p ∈ l):p.f1.length≤tsum l:=by
 obtain ⟨a,b,rfl⟩:=List.append_of_mem h;(rw [tsum_append,show p :: b=[p] ++ b from rfl,tsum_append,tsum_one];omega)
theorem set_last {α:Type} {l:List α} (h:0 < l.length) (x:α):l.set (l.length - 1) x=l.take (l.length - 1) ++ [x]:=by
 rw [List.set_eq_take_append_cons_drop,if_pos (by omega),List.drop_of_length_le (by omega)]
theorem take_last {α:Type} {l:List α} (h:0 < l.length) (z:α):l=l.take (l.length - 1) ++ [l.getD (l.length - 1) z]:=by
 have:=List.take_append_getElem (l:=l) (i:=l.length - 1) (by omega);rw [getD_get (by omega),this,List.take_of_length_le (by omega)]
theorem tsum_put (out:List Piece) (p:Piece):tsum (putF out p)≤tsum out+p.f1.length:=by
 unfold putF;split;(· (rw [tsum_append,tsum_one];simp))
 ·
  split;(· omega)
  ·
   split
   ·
    rename_i h;(rw [textLast,Bool.and_eq_true] at h);have hl:=of_decide_eq_true h.1;rw [set_last hl,tsum_append,tsum_one]
    have h2:tsum out=tsum (out.take (out.length - 1))+(out.getD (out.length - 1) z66).f1.length:=by
     conv=>lhs;rw [take_last hl z66]
     rw [tsum_append,tsum_one]
    rw [h2];show _+((out.getD (out.length - 1) z66).f1 ++ p.f1).length≤_;(rw [List.length_append];omega)
   (· (rw [tsum_append,tsum_one];exact Nat.le_refl _))
theorem tsum_normal : ∀ (n:Nat) (l:List Piece),l.length=n→tsum (normalF l)≤tsum l∧(normalF l).length≤l.length
 | 0,l,h=>by rw [List.eq_nil_of_length_eq_zero h];exact ⟨Nat.le_refl _,Nat.le_refl _⟩
 | n+1,l,h=>by
  have e:l=l.take n ++ [l[n]]:=by
   have:=List.take_append_getElem (l:=l) (i:=n) (by omega);rw [this,List.take_of_length_le (by omega)]
  have ih:=tsum_normal n (l.take n) (by rw [List.length_take];omega);rw [e,normalF_snoc,tsum_append,tsum_one,List.length_append,List.length_singleton];have:=tsum_put (normalF (l.take n)) l[n];have:=putF_len (normalF (l.take n)) l[n];omega
theorem tsum_take (l:List Piece) (k:Nat) (hk:k < l.length):tsum (l.take k)+l[k].f1.length≤tsum l:=by
 (have e:l=l.take k ++ (l[k] :: l.drop (k+1)):=by rw [← dropCons hk,List.take_append_drop])
 have:tsum l=tsum (l.take k)+(l[k].f1.length+tsum (l.drop (k+1))):=by
  conv=>lhs;rw [e]
  rw [tsum_append,show l[k] :: l.drop (k+1)=[l[k]] ++ l.drop (k+1) from rfl,tsum_append,tsum_one]
 omega
set_option maxRecDepth 100000 in
set_option maxHeartbeats 4000000 in
theorem each_put (A:Option Addr) (c:Nat) (l:List Piece) (w0 w:World) (B gw:Nat) (P:Nat→Prop) (hB:B=w0.heap.size) (hF:Kd.F k66 w0 P A l.length l) (hc:l.length≤c) (h:RowIn w0 w B gw P []) (hl:l.length≤100000000) (hz:tsum l≤1000000) :
    Calls Tryz.prog 52 #[.slice A l.length c, .func (.func 90) #[.pointer (some ⟨gw,0,none⟩)] #[]] w fun e w'=>e = .returned (.tuple #[])∧Aside0 (RowIn w0 w' B gw P (normalF l)):=by
 have HF:=Aside0.mk hF;have H:=Aside0.mk h;have HZ:=Aside0.mk hz;have HBB:=Aside0.mk hB;clear hF h hz hB;go_enter Tryz.func52,Tryz.ntmps52;(go_wp2_with fail)
 go_loopw [8] (fun i wr => ∃ (k:Nat),k≤l.length∧i = .int .i64 k∧Aside0 (RowIn w0 wr B gw P (normalF (l.take k)))) (fun i _=>l.length - (intOf i).toNat)
 (case atStart=>exact ⟨0,Nat.zero_le _,rfl,H⟩)
 case round =>
  obtain ⟨k,hk,rfl,HI⟩:=hrel;have HBr:Aside0 (Below w0.heap.size w0 wr):=⟨by rw [← HBB.out];exact HI.out.bel⟩
  by_cases hlt:k < l.length
  (· obtain ⟨ad,A1,c1,A2,c2,A3,c3,rfl,x0,x1,x2,x3,l1,F1,l2,F2,l3,F3⟩:=at_piece (Kd.F_old HF.out HBr.out) k hlt;(rw [getD_get hlt] at x0 x1 x2 x3 l1 F1 l2 F2 l3 F3);(have htk:normalF (l.take (k+1))=putF (normalF (l.take k)) l[k]:=by rw [← List.take_append_getElem hlt,normalF_snoc]);have hts:=tsum_take l k hlt;have htn:=tsum_normal _ (l.take k) rfl;(have hle:(normalF (l.take k)).length≤100000000:=by have:=htn.2;rw [List.length_take] at this;omega);obtain ⟨x,hxe⟩ : ∃ x,l[k]=x:=⟨_,rfl⟩;(rw [hxe] at htk hts x0 x1 x2 x3 l1 F1 l2 F2 l3 F3);obtain ⟨b,s1,s2,s3⟩:=x;(dsimp only at x0 x1 x2 x3 l1 F1 l2 F2 l3 F3 hts);have HT:Aside0 (∀ p ∈ normalF (l.take k),p.f1.length+s1.length≤1000000):=⟨fun p hp=>by have:=tsum_mem hp;have:=HZ.out;have:=htn.1;omega⟩;(rw [← HBB.out] at F1 F2 F3);have HTK:=Aside0.mk htk;have HF1:=Aside0.mk F1;have HF2:=Aside0.mk F2;have HF3:=Aside0.mk F3;have HBw:Aside0 (B≤wr.heap.size):=⟨by rw [HBB.out];exact HBr.out.size⟩;clear hxe htk F1 F2 F3 hts htn;(go_wp2_with fail);refine (row_put w0 _ B gw P _ b s1 s2 s3 A1 c1 A2 c2 A3 c3 HBB.out (HI.out.below (newBelow _ _) HBw.out) l1 (Kd.F_alloc HF1.out _) l2 (Kd.F_alloc HF2.out _) l3 (Kd.F_alloc HF3.out _) hle HT.out).mono ?_;rintro e w1 ⟨rfl,HI1⟩;go_wp2;go_roundw;(case measure=>simp [intOf];omega);(case rel=>exact ⟨k+1,by omega,by go_num,by rw [HTK.out];exact HI1⟩));(· (have hk':k=l.length:=by omega);subst hk';(rw [List.take_length] at HI);go_wp2;go_end0;exact ⟨rfl,HI⟩)
set_option maxRecDepth 100000 in
set_option maxHeartbeats 2000000 in
theorem pick_Normal (P:Nat→Prop) (A:Option Addr) (c:Nat) (l:List Piece) (w:World) (hF:Kd.F k66 w P A l.length l) (hc:l.length≤c) (hl:l.length≤100000000) (hz:tsum l≤1000000) :
    Calls Tryz.prog 44 #[.slice A l.length c] w fun e w' => ∃ v0_:Value,e = .returned v0_∧Kd.N k66 66 w' w.heap.size (fun k=>P k∨w.heap.size≤k) v0_ (normalF l)∧Below w.heap.size w w':=by
 have HF:=Aside0.mk hF;have HZ:=Aside0.mk hz;clear hF hz;(have hmf : ∀ (fn:Fn) (first cap:Array Value) (w:World),(Instr.makeFunc fn first cap).run Tryz.prog w = .ok (.func fn first cap) w:=fun _ _ _ _=>rfl);go_enter Tryz.func44,Tryz.ntmps44;(go_wp2_with fail);obtain ⟨w2,hw2⟩ : ∃ w2,w.alloc (.cells #[.slice none 0 0] 143)=w2:=⟨_,rfl⟩;have hI:RowIn w w2 w.heap.size w.heap.size P []:=⟨.slice none 0 0,by rw [← hw2];exact blk_new _ _,Nat.le_refl _,Kd.N_nil _ _ _ _ _,by rw [← hw2];exact newBelow _ _⟩;rw [hw2];refine (each_put A c l w w2 w.heap.size _ P rfl HF.out hc hI hl HZ.out).mono ?_;clear hw2 hI;rintro e w3 ⟨rfl,HI⟩;obtain ⟨vo,q1,q2,q4,q5⟩:=HI.out;have c1:w3.cell? ⟨w.heap.size,0,none⟩=some vo:=cell_blk q1 rfl;have Q4:=Aside0.mk q4;have Q5:=Aside0.mk q5;clear q1 q2 q4 q5;go_wp2;go_ret;exact ⟨_,rfl,Kd.N_mono Q4.out (fun k hk=>hk.1.elim (fun h => .inl h.1) .inr),Q5.out⟩
theorem madeCells_one (z:Value) (n:Nat):madeCells #[z] (n * 1)=(List.replicate n z).toArray:=by
 apply Array.ext;(· simp [size_madeCells]);(· intro i h1 h2;simp [madeCells,Nat.mod_one])
/-- How the row stands when its first m places are laid. -/
def repRow (v:Int) (m n:Nat):List Value:=List.replicate m (.int .i64 v) ++ List.replicate (n - m) (.int .i64 0)
theorem repRow_length (v:Int) {m n:Nat} (h:m≤n):(repRow v m n).length=n:=by simp [repRow];omega
theorem splice_rep (v:Int) {m k n:Nat} (h:m+k≤n):splice (repRow v m n) m (List.replicate k (.int .i64 v))=repRow v (m+k) n:=by
 unfold splice repRow;have h1:(List.replicate m (Value.int .i64 v) ++ List.replicate (n - m) (Value.int .i64 0)).take m=List.replicate m (Value.int .i64 v):=List.take_left' (by simp)
 have h2:(List.replicate m (Value.int .i64 v) ++ List.replicate (n - m) (Value.int .i64 0)).drop (m+(List.replicate k (Value.int .i64 v)).length)=List.replicate (n - (m+k)) (Value.int .i64 0):=by
  rw [List.length_replicate,List.drop_append,List.drop_of_length_le (by simp),List.nil_append,List.length_replicate,List.drop_replicate]
  congr 1
  omega
 rw [h1,h2,← List.append_assoc,List.replicate_append_replicate]
theorem rep_cells {W:World} {ad:Addr} {v:Int} {m:Nat} (h:W.cell? ad=some (.int .i64 v)) (hm:m≤1) (j:Nat) (u:Value) (hj:(List.replicate m (Value.int .i64 v))[j]? = some u):W.cell? (ad.add j)=some u:=by
 (rw [List.getElem?_replicate] at hj);(split at hj);(· (have hj0:j=0:=by omega);subst hj0;(injection hj with hj);subst hj;rw [show ad.add 0=ad from by cases ad;simp [Addr.add]];exact h);(· cases hj)
theorem rep_cells_row {W:World} {g:Nat} {v:Int} {m k n:Nat} {t:TypeId} (h:W.heap[g]? = some (.cells (repRow v m n).toArray t (0,0))) (hk:k≤m) (j:Nat) (u:Value) (hj:(List.replicate k (Value.int .i64 v))[j]? = some u):W.cell? ((⟨g,0,none⟩:Addr).add j)=some u:=by
 (rw [List.getElem?_replicate] at hj);(split at hj);(· rename_i hjk;(injection hj with hj);subst hj;rw [add_plain,cell_of_row W g j _ t (0,0) h];simp [repRow,List.getElem?_append,List.getElem?_replicate,Nat.lt_of_lt_of_le hjk hk]);(· cases hj)
theorem rep_wrap {m n:Nat} (hlt:m < n) (hn:n≤2000):wrap64 ((m:Int)+((Nat.min m (n - m):Nat):Int))=((m+Nat.min m (n - m):Nat):Int):=by
 have h:Nat.min m (n - m)≤n - m:=Nat.min_le_right _ _;rw [IntWalk.wrap64_in _ (by omega)];exact (Int.natCast_add _ _).symm
theorem rep_measure {m n:Nat} (hlt:m < n) (h0:0 < m):n - (intOf (Value.int .i64 ((m+Nat.min m (n - m):Nat):Int))).toNat < n - (intOf (Value.int .i64 (m:Int))).toNat:=by
 show n - (m+min m (n - m)) < n - m;omega
set_option maxHeartbeats 4000000 in
set_option maxRecDepth 100000 in
theorem slices_Repeat_one (ad:Addr) (c:Nat) (v:Int) (n:Nat) (w:World) (hc:w.cell? ad=some (.int .i64 v)) (hn:n≤2000) :
    Calls Tryz.prog 70 #[.slice (some ad) 1 c, .int .i64 n] w fun e w' => ∃ v0_:Value,e = .returned v0_∧Kd.R (Kd.int .i64) 3 w' w.heap.size (fun _=>True) v0_ (List.replicate n v)∧Below w.heap.size w w':=by
 obtain ⟨i0,hi0,hz0⟩:=Option.map_eq_some_iff.1 info3;(simp only [Prod.mk.injEq] at hz0);obtain ⟨hz,hsz,hby⟩:=hz0
 have hmk : ∀ W:World,(Instr.makeSlice 72 (.int .i64 (n:Int)) (.int .i64 (n:Int))).run Tryz.prog W = .ok (.slice (some ⟨W.heap.size,0,none⟩) n n) (W.alloc (.cells (List.replicate n (.int .i64 0)).toArray 3)):=by
  intro W;have h:=run_make (P:=Tryz.prog) W 72 3 i0 (.int .i64 0) Tryz.underlying72 hi0 hz .i64 .i64 (n:Int) (n:Int) (by omega) (by omega) (by rw [hby];omega) (by omega);rw [h,hsz];simp only [Int.toNat_natCast];rw [show (Value.int IntKind.i64 0).cells=#[Value.int .i64 0] from rfl,madeCells_one]
 have Hc:=Aside0.mk hc;clear hc hi0 hz hsz hby i0;have p1:decide ((n:Int) < 0)=false:=decide_eq_false (by omega);go_enter Tryz.func70,Tryz.ntmps70;(go_wp2_with fail);refine (Tryz.bits_Mul 1 n (by omega) (by omega) _).mono ?_;rintro e w1 ⟨rfl,he⟩;obtain rfl:=he.symm;clear he;rw [show ((1 * n / 18446744073709551616:Nat):Int)=0 from by omega,show ((1 * n % 18446744073709551616:Nat):Int)=(n:Int) from by omega];(go_wp2_with ((with_reducible refine gate_builtin (b := .copy) (xs:=#[.tmp 31, .tmp 32]) rfl ?_);refine wpList_copy_splice rfl _ _ 72 72 rfl 3 Tryz.underlying72 (by kernel_rfl) (some ⟨w.heap.size,0,none⟩) (some ad) n n 1 c rfl rfl w.heap.size 0 (repRow v 0 n) 3 ?c0 (List.replicate (Nat.min 1 n) (.int .i64 v)) ?c1 ?c2 ?c3 ?c4 w.heap.size w ?c5 (Nat.le_refl _) ?_;(case c0=>exact blk_new _ _);(case c1=>exact List.length_replicate);(case c3=>rw [repRow_length v (Nat.zero_le n),List.length_replicate,Nat.zero_add];exact Nat.min_le_right 1 n);(case c4=>intro u hu;rw [List.eq_of_mem_replicate hu];rfl);(case c5=>exact below_alloc (Below.refl _ _) _);(case c2=>exact fun _=>⟨rfl,ad,rfl,rep_cells (cell_alloc_of Hc.out _) (Nat.min_le_left 1 n)⟩);intro w1 HG1 hb1;have HB1:=Aside0.mk hb1;clear hb1));(rw [splice_rep v (by show 0+min 1 n≤n;omega),Nat.zero_add] at HG1)
 go_loopw [8] (fun t8 W => ∃ m:Nat,t8 = .int .i64 m∧m≤n∧(0 < n→0 < m)∧Aside0 (W.heap[w.heap.size]? = some (.cells (repRow v m n).toArray 3 (0,0)))∧Aside0 (Below w.heap.size w W)) (fun t8 _=>n - (intOf t8).toNat)
 (case atStart=>exact ⟨Nat.min 1 n,rfl,Nat.min_le_right 1 n,fun h=>Nat.lt_min.2 ⟨by omega,h⟩,⟨HG1.out⟩,HB1⟩)
 case round =>
  obtain ⟨m,rfl,hm,hm0,HG,HB⟩:=hrel;clear HG1 HB1
  by_cases hlt:m < n
  ·
   go_wp2;(have hne : ¬ n=m:=by omega);have hmin:Nat.min m (n - m)≤n - m:=Nat.min_le_right _ _;refine start_ (n:=10) (S:=fun w'=>True) (ds:=[]) #[false,false,false,false,false,false,false,false,false,false] (by kernel_rfl) rfl rfl trivial (fun hHeld=>?_);refine pq_ (i:=0) (N:=some 38) #[true,false,false,false,false,false,false,false,false,false] ?_;refine pq_ (i:=1) (N:=some 39) #[true,true,false,false,false,false,false,false,false,false] ?_;refine pq_ (i:=2) (N:=some 40) #[true,true,true,false,false,false,false,false,false,false] ?_;refine pq_ (i:=3) (N:=some 41) #[true,true,true,true,false,false,false,false,false,false] ?_;refine pq_ (i:=4) (N:=some 42) #[true,true,true,true,true,false,false,false,false,false] ?_;refine pq_ (i:=5) (N:=some 43) #[true,true,true,true,true,true,false,false,false,false] ?_;refine pq_ (i:=6) (N:=some 44) #[true,true,true,true,true,true,true,false,false,false] ?_;refine one_ (i:=7) (N:=some 45) #[true,true,true,true,true,true,true,true,false,false] rfl rfl (by kernel_rfl) (by decide) (fun K hK=>?_);refine step_copy_splice rfl (.tmp 41) (.tmp 44) 72 72 rfl 3 Tryz.underlying72 (by kernel_rfl) (some ⟨w.heap.size,m,none⟩) (some ⟨w.heap.size,0,none⟩) (n - m) (n - m) m n (by simp [Act.eval,Act.put]) (by simp [Act.eval,Act.put]) w.heap.size m (repRow v m n) 3 HG.out (List.replicate (Nat.min m (n - m)) (.int .i64 v)) (by simp) (fun _=>⟨rfl,_,rfl,rep_cells_row HG.out (Nat.min_le_left _ _)⟩) (by rw [repRow_length v hm,List.length_replicate];show m+min m (n - m)≤n;omega) (by intro u hu;rw [List.eq_of_mem_replicate hu];rfl) w.heap.size w HB.out.drew (Nat.le_refl _) ?_;intro w3 HG3 hb3;refine hK.out _ _ trivial (fun hHeld=>?_);clear hK K;refine nq_ (N:=some 45) ?_;refine pq_ (i:=8) (N:=some 46) #[true,true,true,true,true,true,true,true,true,false] ?_;refine pq_ (i:=9) (N:=some 8) #[true,true,true,true,true,true,true,true,true,true] ?_;refine done_ (by kernel_rfl) ?_;(rw [splice_rep v (by show m+min m (n - m)≤n;omega)] at HG3);have HB3:=Aside0.mk hb3;have hw:=rep_wrap hlt hn;clear hb3 HB HG;go_wp2;go_roundw
   case measure =>
    rw [hw];exact rep_measure hlt (hm0 (by omega))
   (case rel=>exact ⟨m+Nat.min m (n - m),by rw [hw],by show m+min m (n - m)≤n;omega,by intro h;have:=hm0 h;omega,⟨HG3.out⟩,HB3⟩)
  ·
   (obtain rfl:m=n:=by omega);go_wp2;go_ret;refine ⟨_,rfl,?_,HB.out⟩;have h:=HG.out;(simp only [repRow,Nat.sub_self,List.replicate_zero,List.append_nil] at h);(rw [← List.map_replicate] at h);have h2:=R_int_of_cells h (Nat.le_refl _) (by rw [List.length_replicate];unfold maxLen;omega)
   rwa [List.length_replicate] at h2
/-- A block of numbers. -/
def NumsAt (k:IntKind) (W:World) (t g:Nat) (L:List Int):Prop:=W.heap[g]? = some (.cells (L.map (Value.int k)).toArray t (0,0))
/-- The two rows, and the variable that holds them. -/
def RowsAt (W:World) (N g3 g0 g1 m:Nat) (L0 L1:List Int):Prop :=
  N≤g3∧N≤g0∧N≤g1∧g3≠g0∧g3≠g1∧g0≠g1 ∧
    W.heap[g3]? = some (.cells #[.slice (some ⟨g0,0,none⟩) (m+1) (m+1), .slice (some ⟨g1,0,none⟩) (m+1) (m+1)] 169 (0,0)) ∧
    NumsAt .i64 W 3 g0 L0∧NumsAt .i64 W 3 g1 L1∧L0.length=m+1∧L1.length=m+1
theorem alloc3 (w:World) (o0 o1 o2:Obj):(((w.alloc o0).alloc o1).alloc o2).drew.heap[w.heap.size]? = some o0∧(((w.alloc o0).alloc o1).alloc o2).drew.heap[w.heap.size+1]? = some o1∧(((w.alloc o0).alloc o1).alloc o2).drew.heap[w.heap.size+1+1]? = some o2∧Below w.heap.size w (((w.alloc o0).alloc o1).alloc o2).drew:=by
 refine ⟨?_,?_,?_,(below_alloc (below_alloc (below_alloc (Below.refl _ _) _) _) _).drew⟩;(· show (((w.heap.push o0).push o1).push o2)[w.heap.size]? = _;simp only [Array.getElem?_push,Array.size_push];rw [if_neg (by omega),if_neg (by omega),if_pos trivial]);(· show (((w.heap.push o0).push o1).push o2)[w.heap.size+1]? = _;simp only [Array.getElem?_push,Array.size_push];rw [if_neg (by omega),if_pos trivial]);(· show (((w.heap.push o0).push o1).push o2)[w.heap.size+1+1]? = _;simp only [Array.getElem?_push,Array.size_push];rw [if_pos trivial])
theorem nums_rep {k:IntKind} {W:World} {t g n:Nat} (h:W.heap[g]? = some (.cells (Array.replicate n (Value.int k 0)) t (0,0))):NumsAt k W t g (List.replicate n 0):=by
 unfold NumsAt;rw [h];simp
theorem grown_far {w W:World} {g:Nat} (h:w.grownBy W (some g)) {p:Addr} (hp:w.heap.size≤p.block) (u:Value):w.grownBy (W.setCell p u) (some g) :=
  ⟨h.os,h.tape,h.output,by rw [show (W.setCell p u).heap.size=W.heap.size by simp];exact h.size,fun i hi hn=>(Below.heap_setCell W p u i (by omega)).trans (h.block i hi hn)⟩
theorem grown_set {w W:World} {g:Nat} (h:w.grownBy W (some g)) (j:Nat) (u:Value):w.grownBy (W.setCell ⟨g,j,none⟩ u) (some g) :=
  ⟨h.os,h.tape,h.output,by rw [show (W.setCell ⟨g,j,none⟩ u).heap.size=W.heap.size by simp];exact h.size,fun i hi hn=>(Below.heap_setCell W ⟨g,j,none⟩ u i (fun e=>hn (by rw [e]))).trans (h.block i hi hn)⟩
theorem grown_drewN {w W:World} {g:Nat} (h:w.grownBy W (some g)) (m:Nat):w.grownBy (W.drewN m) (some g):=⟨h.os,h.tape,h.output,h.size,h.block⟩
theorem grown_then {w W W2:World} {g:Nat} (h:w.grownBy W (some g)) (k:W.grownBy W2 (some g)):w.grownBy W2 (some g) :=
  ⟨k.os.trans h.os,k.tape.trans h.tape,k.output.trans h.output,Nat.le_trans h.size k.size,fun i hi hn=>(k.block i (Nat.lt_of_lt_of_le hi h.size) hn).trans (h.block i hi hn)⟩
theorem grown_alloc {w W:World} {g:Nat} (h:w.grownBy W (some g)) (o:Obj):w.grownBy (W.alloc o) (some g) :=
  grown_then h (World.grownBy_alloc W o _)
/-- Memory while it is reckoned. -/
def RState (w W:World) (g g3 g0 g1 gs:Nat) (sa sb x2 x3 x4:Value) (nm m:Nat) (L0 L1 S:List Int):Prop :=
  (w.heap.size≤gs∧gs≠g3∧gs≠g0∧gs≠g1∧g < w.heap.size)∧RowsAt W w.heap.size g3 g0 g1 m L0 L1 ∧
    W.heap[g]? = some (.cells #[sa,sb,x2,x3,x4, .slice (some ⟨gs,0,none⟩) nm nm, .int .i64 0] 119 (0,0))∧(NumsAt .u8 W 5 gs S∧S.length=nm)∧w.grownBy W (some g)
theorem nums_set {k:IntKind} {W:World} {t g:Nat} {L:List Int} (h:NumsAt k W t g L) (j:Nat) (v:Int):NumsAt k (W.setCell ⟨g,j,none⟩ (.int k v)) t g (L.set j v):=by
 unfold NumsAt;rw [heap_set_same h];simp [List.map_set]
theorem nums_other {k:IntKind} {W:World} {t g g' j:Nat} {L:List Int} (h:NumsAt k W t g L) (hne:g≠g') (v:Value):NumsAt k (W.setCell ⟨g',j,none⟩ v) t g L:=by
 unfold NumsAt;rw [heap_set_other hne];exact h
theorem nums_cell {k:IntKind} {W:World} {t g:Nat} {L:List Int} (h:NumsAt k W t g L) {j:Nat} {v:Int} (hj:L[j]? = some v):W.cell? ⟨g,j,none⟩=some (.int k v):=by
 refine cell_blk h ?_;simp [hj]
section
variable {w W:World} {g g3 g0 g1 gs:Nat} {sa sb x2 x3 x4:Value} {nm m:Nat} {L0 L1 S:List Int}
theorem RState.row (h:RState w W g g3 g0 g1 gs sa sb x2 x3 x4 nm m L0 L1 S) (j:Nat) (v:Int):RState w (W.setCell ⟨g1,j,none⟩ (.int .i64 v)) g g3 g0 g1 gs sa sb x2 x3 x4 nm m L0 (L1.set j v) S:=by
 obtain ⟨⟨e1,e2,e3,e4,e5⟩,⟨r1,r2,r3,r4,r5,r6,r7,r8,r9,r10,r11⟩,hg,⟨hs,hsl⟩,hk⟩:=h;refine ⟨⟨e1,e2,e3,e4,e5⟩,⟨r1,r2,r3,r4,r5,r6,?_,nums_other r8 r6 _,nums_set r9 j v,r10,by simpa using r11⟩,?_,⟨nums_other hs e4 _,hsl⟩,grown_far hk r3 _⟩;(· (rw [heap_set_other r5];exact r7));(· (rw [heap_set_other (by omega)];exact hg))
theorem RState.step (h:RState w W g g3 g0 g1 gs sa sb x2 x3 x4 nm m L0 L1 S) (j:Nat) (v:Int):RState w (W.setCell ⟨gs,j,none⟩ (.int .u8 v)) g g3 g0 g1 gs sa sb x2 x3 x4 nm m L0 L1 (S.set j v):=by
 obtain ⟨⟨e1,e2,e3,e4,e5⟩,⟨r1,r2,r3,r4,r5,r6,r7,r8,r9,r10,r11⟩,hg,⟨hs,hsl⟩,hk⟩:=h;refine ⟨⟨e1,e2,e3,e4,e5⟩,⟨r1,r2,r3,r4,r5,r6,?_,nums_other r8 (Ne.symm e3) _,nums_other r9 (Ne.symm e4) _,r10,r11⟩,?_,⟨nums_set hs j v,by simpa using hsl⟩,grown_far hk e1 _⟩;(· (rw [heap_set_other (Ne.symm e2)];exact r7));(· (rw [heap_set_other (by omega)];exact hg))
theorem RState.drewN (h:RState w W g g3 g0 g1 gs sa sb x2 x3 x4 nm m L0 L1 S) (n:Nat):RState w (W.drewN n) g g3 g0 g1 gs sa sb x2 x3 x4 nm m L0 L1 S:=by
 obtain ⟨e,r,hg,hs,hk⟩:=h;exact ⟨e,r,hg,hs,grown_drewN hk n⟩
theorem RState.swap (h:RState w W g g3 g0 g1 gs sa sb x2 x3 x4 nm m L0 L1 S):RState w ((W.setCell ⟨g3,0,none⟩ (.slice (some ⟨g1,0,none⟩) (m+1) (m+1))).setCell ⟨g3,1,none⟩ (.slice (some ⟨g0,0,none⟩) (m+1) (m+1))) g g3 g1 g0 gs sa sb x2 x3 x4 nm m L1 L0 S:=by
 obtain ⟨⟨e1,e2,e3,e4,e5⟩,⟨r1,r2,r3,r4,r5,r6,r7,r8,r9,r10,r11⟩,hg,⟨hs,hsl⟩,hk⟩:=h;refine ⟨⟨e1,e2,e4,e3,e5⟩,⟨r1,r3,r2,r5,r4,Ne.symm r6,?_,nums_other (nums_other r9 (Ne.symm r5) _) (Ne.symm r5) _,nums_other (nums_other r8 (Ne.symm r4) _) (Ne.symm r4) _,r11,r10⟩,?_,⟨nums_other (nums_other hs e2 _) e2 _,hsl⟩,grown_far (grown_far hk r1 _) r1 _⟩;(· (rw [heap_set_same (heap_set_same r7 _)];rfl));(· (rw [heap_set_other (by omega),heap_set_other (by omega)];exact hg))
end
theorem elem_cell {W:World} {A:Option Addr} {xs:List Int} {i:Nat} {x:Int} (h:Kd.C (Kd.int .i64) W A xs.length xs) (hx:xs[i]? = some x) : ∃ ad,A=some ad∧W.cell? (ad.add i)=some (.int .i64 x):=by
 have hi:=(List.getElem?_eq_some_iff.1 hx).1;obtain ⟨ad,e,hc⟩:=Kd.at_int h (i:Int) (by omega) (by omega);refine ⟨ad,e,?_⟩;(rw [Int.toNat_natCast] at hc);rw [hc];simp [rd,hx]
/-- A row from the place q on. -/
def RowFrom (a b:List Int) (i q:Nat) (L:List Int):Prop := ∀ j,q≤j→j≤b.length→L[j]? = some ((lcsL (a.drop i) (b.drop j):Nat):Int)
/-- The steps from the place c on; noughts ahead. -/
def StepsFrom (a b:List Int) (c:Nat) (S:List Int):Prop := ∀ x,x < a.length * b.length→S[x]? = some (if x < c then 0 else stepAt (a.drop (x / b.length)) (b.drop (x % b.length)))
theorem place_div {m i j:Nat} (hj:j < m):(i * m+j) / m=i∧(i * m+j) % m=j:=by
 constructor;(· rw [Nat.mul_comm,Nat.mul_add_div (by omega),Nat.div_eq_of_lt hj,Nat.add_zero]);(· rw [Nat.mul_comm,Nat.mul_add_mod,Nat.mod_eq_of_lt hj])
theorem place_lt {n m i j:Nat} (hi:i < n) (hj:j < m):i * m+j < n * m:=by
 have:(i+1) * m≤n * m:=Nat.mul_le_mul_right _ hi;(rw [Nat.succ_mul] at this);omega
theorem drop_cons' {l:List Int} {i:Nat} {x:Int} (h:l[i]? = some x):l.drop i=x :: l.drop (i+1):=by
 obtain ⟨hl,rfl⟩:=List.getElem?_eq_some_iff.1 h;exact List.drop_eq_getElem_cons hl
section
variable {a b L0 L1 S:List Int} {i j:Nat} {x y:Int}
theorem row_one (h:RowFrom a b i (j+1) L1) (hj:j < b.length) (hl:L1.length=b.length+1) {v:Int} (hv:v=((lcsL (a.drop i) (b.drop j):Nat):Int)):RowFrom a b i j (L1.set j v):=by
 intro k hk hkb
 rcases Nat.lt_or_ge j k with h1 | h1
 (· rw [List.getElem?_set_ne (by omega)];exact h k h1 hkb);(· (obtain rfl:k=j:=by omega);rw [List.getElem?_set_self (by omega),hv])
theorem lcs_eq (hx:a[i]? = some x) (hy:b[j]? = some y) (e:x=y):lcsL (a.drop i) (b.drop j)=lcsL (a.drop (i+1)) (b.drop (j+1))+1:=by
 rw [drop_cons' hx,drop_cons' hy,lcsL_cons,if_pos e]
theorem lcs_ne (hx:a[i]? = some x) (hy:b[j]? = some y) (e : ¬ x=y):lcsL (a.drop i) (b.drop j)=max (lcsL (a.drop (i+1)) (b.drop j)) (lcsL (a.drop i) (b.drop (j+1))):=by
 rw [drop_cons' hx,drop_cons' hy,lcsL_cons,if_neg e]
theorem step_eq (hx:a[i]? = some x) (hy:b[j]? = some y) (e:x=y):stepAt (a.drop i) (b.drop j)=0:=by
 rw [drop_cons' hx,drop_cons' hy,stepAt,if_pos e]
theorem step_old (hx:a[i]? = some x) (hy:b[j]? = some y) (e : ¬ x=y) (h:lcsL (a.drop i) (b.drop (j+1))≤lcsL (a.drop (i+1)) (b.drop j)):stepAt (a.drop i) (b.drop j)=1:=by
 rw [drop_cons' hx,drop_cons' hy,stepAt,if_neg e,if_pos]
 rwa [← drop_cons' hx,← drop_cons' hy]
theorem step_fresh (hx:a[i]? = some x) (hy:b[j]? = some y) (e : ¬ x=y) (h : ¬ lcsL (a.drop i) (b.drop (j+1))≤lcsL (a.drop (i+1)) (b.drop j)):stepAt (a.drop i) (b.drop j)=2:=by
 rw [drop_cons' hx,drop_cons' hy,stepAt,if_neg e,if_neg]
 rwa [← drop_cons' hx,← drop_cons' hy]
theorem steps_same (h:StepsFrom a b (i * b.length+(j+1)) S) (hj:j < b.length) (hs:stepAt (a.drop i) (b.drop j)=0):StepsFrom a b (i * b.length+j) S:=by
 intro k hk;rw [h k hk]
 by_cases e:k=i * b.length+j
 (· subst e;rw [if_pos (by omega),if_neg (by omega),(place_div hj).1,(place_div hj).2,hs])
 ·
  by_cases h2:k < i * b.length+j
  (· rw [if_pos (by omega),if_pos h2]);(· rw [if_neg (by omega),if_neg h2])
theorem steps_one (h:StepsFrom a b (i * b.length+(j+1)) S) (hj:j < b.length) (hl:S.length=a.length * b.length) {v:Int} (hs:stepAt (a.drop i) (b.drop j)=v):StepsFrom a b (i * b.length+j) (S.set (i * b.length+j) v):=by
 intro k hk
 by_cases e:k=i * b.length+j
 (· subst e;rw [List.getElem?_set_self (by omega),if_neg (by omega),(place_div hj).1,(place_div hj).2,hs])
 ·
  rw [List.getElem?_set_ne (Ne.symm e),h k hk]
  by_cases h2:k < i * b.length+j
  (· rw [if_pos (by omega),if_pos h2]);(· rw [if_neg (by omega),if_neg h2])
end
set_option maxHeartbeats 8000000 in
set_option maxRecDepth 100000 in
theorem reckon_calls (g N:Nat) (Aa Ab:Option Addr) (ca cb:Nat) (x2 x3 x4:Value) (a b:List Int) (w:World)
    (hg:w.heap[g]? = some (.cells #[.slice Aa a.length ca, .slice Ab b.length cb,x2,x3,x4, .slice none 0 0, .int .i64 0] 119 (0,0)))
    (ha:Kd.F (Kd.int .i64) w (fun k=>k≠g) Aa a.length a) (hb:Kd.F (Kd.int .i64) w (fun k=>k≠g) Ab b.length b) (hla:a.length≤2000) (hlb:b.length≤2000) :
    Calls Tryz.prog 97 #[.pointer (some ⟨g,0,none⟩)] w fun e w'=>e = .returned (.tuple #[])∧(∃ gs:Nat,w.heap.size≤gs∧w'.heap[g]? = some (.cells #[.slice Aa a.length ca, .slice Ab b.length cb,x2,x3,x4, .slice (some ⟨gs,0,none⟩) (a.length * b.length) (a.length * b.length), .int .i64 (lcsL a b:Int)] 119 (0,0))∧NumsAt .u8 w' 5 gs (stepsOf a b))∧w.grownBy w' (some g):=by
 have Hg:=Aside0.mk hg;have Ha:=Aside0.mk ha;have Hb:=Aside0.mk hb;have c1:w.cell? ⟨g,1,none⟩=some (.slice Ab b.length cb):=cell_blk hg rfl;clear hg ha hb;obtain ⟨i0,hi0,hz0⟩:=Option.map_eq_some_iff.1 info3;(simp only [Prod.mk.injEq] at hz0);obtain ⟨hz,hsz,hby⟩:=hz0
 have hmk : ∀ W:World,(Instr.makeSlice 72 (.int .i64 ((b.length:Int)+1)) (.int .i64 ((b.length:Int)+1))).run Tryz.prog W = .ok (.slice (some ⟨W.heap.size,0,none⟩) (b.length+1) (b.length+1)) (W.alloc (.cells ((List.replicate (b.length+1) 0).map (Value.int .i64)).toArray 3)):=by
  intro W;have h:=run_make (P:=Tryz.prog) W 72 3 i0 (.int .i64 0) Tryz.underlying72 hi0 hz .i64 .i64 ((b.length:Int)+1) ((b.length:Int)+1) (by omega) (by omega) (by rw [hby];omega) (by omega);rw [h,hsz];simp only [show ((b.length:Int)+1).toNat=b.length+1 from by omega];rw [show (Value.int IntKind.i64 0).cells=#[Value.int .i64 0] from rfl,madeCells_one,List.map_replicate]
 obtain ⟨j0,hj0,hy0⟩:=Option.map_eq_some_iff.1 info5;(simp only [Prod.mk.injEq] at hy0);obtain ⟨hyz,hysz,hyby⟩:=hy0
 have hp1:(a.length:Int) * (b.length:Int)≤4000000:=by
  have:=Nat.mul_le_mul hla hlb;rw [← Int.natCast_mul];omega
 have hp0:0≤(a.length:Int) * (b.length:Int):=by
  rw [← Int.natCast_mul];omega
 have hmk2 : ∀ W:World,(Instr.makeSlice 117 (.int .i64 ((a.length:Int) * (b.length:Int))) (.int .i64 ((a.length:Int) * (b.length:Int)))).run Tryz.prog W = .ok (.slice (some ⟨W.heap.size,0,none⟩) (a.length * b.length) (a.length * b.length)) (W.alloc (.cells ((List.replicate (a.length * b.length) 0).map (Value.int .u8)).toArray 5)):=by
  intro W;have h:=run_make (P:=Tryz.prog) W 117 5 j0 (.int .u8 0) Tryz.underlying117 hj0 hyz .i64 .i64 ((a.length:Int) * (b.length:Int)) ((a.length:Int) * (b.length:Int)) hp0 (by omega) (by rw [hyby];omega) (by omega);rw [h,hysz];simp only [show ((a.length:Int) * (b.length:Int)).toNat=a.length * b.length from by rw [← Int.natCast_mul];exact Int.toNat_natCast _];rw [show (Value.int IntKind.u8 0).cells=#[Value.int .u8 0] from rfl,madeCells_one,List.map_replicate]
 clear hi0 hz hsz hby i0 hj0 hyz hysz hyby j0;go_enter Tryz.func97,Tryz.ntmps97
 go_upto_region 1 with fail
 go_cut [3] (fun s3 W => ∃ g3 g0 g1:Nat,s3 = .pointer (some ⟨g3,0,none⟩)∧Aside0 (RowsAt W w.heap.size g3 g0 g1 b.length (List.replicate (b.length+1) 0) (List.replicate (b.length+1) 0))∧Aside0 (Below w.heap.size w W))
 case first =>
  go_region
  all_goals
   (go_wp2_with fail)
   go_meet
   first
   | exact ⟨w.heap.size,w.heap.size+1,w.heap.size+1+1,rfl,⟨⟨by omega,by omega,by omega,by omega,by omega,by omega,(alloc3 w _ _ _).1,nums_rep (alloc3 w _ _ _).2.1,nums_rep (alloc3 w _ _ _).2.2.1,by simp,by simp⟩⟩,⟨(alloc3 w _ _ _).2.2.2⟩⟩
   | exact ⟨w.heap.size,w.heap.size+1+1,w.heap.size+1,rfl,⟨⟨by omega,by omega,by omega,by omega,by omega,by omega,(alloc3 w _ _ _).1,nums_rep (alloc3 w _ _ _).2.2.1,nums_rep (alloc3 w _ _ _).2.1,by simp,by simp⟩⟩,⟨(alloc3 w _ _ _).2.2.2⟩⟩
   | exact ⟨w.heap.size+1,w.heap.size,w.heap.size+1+1,rfl,⟨⟨by omega,by omega,by omega,by omega,by omega,by omega,(alloc3 w _ _ _).2.1,nums_rep (alloc3 w _ _ _).1,nums_rep (alloc3 w _ _ _).2.2.1,by simp,by simp⟩⟩,⟨(alloc3 w _ _ _).2.2.2⟩⟩
   | exact ⟨w.heap.size+1,w.heap.size+1+1,w.heap.size,rfl,⟨⟨by omega,by omega,by omega,by omega,by omega,by omega,(alloc3 w _ _ _).2.1,nums_rep (alloc3 w _ _ _).2.2.1,nums_rep (alloc3 w _ _ _).1,by simp,by simp⟩⟩,⟨(alloc3 w _ _ _).2.2.2⟩⟩
   | exact ⟨w.heap.size+1+1,w.heap.size,w.heap.size+1,rfl,⟨⟨by omega,by omega,by omega,by omega,by omega,by omega,(alloc3 w _ _ _).2.2.1,nums_rep (alloc3 w _ _ _).1,nums_rep (alloc3 w _ _ _).2.1,by simp,by simp⟩⟩,⟨(alloc3 w _ _ _).2.2.2⟩⟩
   | exact ⟨w.heap.size+1+1,w.heap.size+1,w.heap.size,rfl,⟨⟨by omega,by omega,by omega,by omega,by omega,by omega,(alloc3 w _ _ _).2.2.1,nums_rep (alloc3 w _ _ _).2.1,nums_rep (alloc3 w _ _ _).1,by simp,by simp⟩⟩,⟨(alloc3 w _ _ _).2.2.2⟩⟩
 case rest =>
  obtain ⟨g3,g0,g1,rfl,HR,HB⟩:=hcut;have hgc:wc.heap[g]? = _:=(HB.out.block g (blk_lt Hg.out)).trans Hg.out;have d0:wc.cell? ⟨g,0,none⟩=some (.slice Aa a.length ca):=cell_blk hgc rfl;have d1:wc.cell? ⟨g,1,none⟩=some (.slice Ab b.length cb):=cell_blk hgc rfl;have d5:wc.cell? ⟨g,5,none⟩=some (.slice none 0 0):=cell_blk hgc rfl;have f5:wc.frozen? ⟨g,5,none⟩=false:=blk_frozen hgc _;have Hgc:=Aside0.mk hgc;clear hgc c1;have hgw:g < wc.heap.size:=blk_lt Hgc.out;(have hgne:g≠wc.heap.size:=by omega);(go_wp2_with (first | ((with_reducible refine gate_dst (N:=28) rfl ?_);refine event_at (v := .slice (some ⟨wc.heap.size,0,none⟩) (a.length * b.length) (a.length * b.length)) (w1:=wc.alloc (.cells ((List.replicate (a.length * b.length) 0).map (Value.int .u8)).toArray 5)) ?hg ?hr ?_;(case hg=>rfl);(case hr=>first | (go_simp;done) | (go_simp;rfl));intro w1 HW1;(have e5:w1.cell? ⟨g,5,none⟩=some (.slice none 0 0):=(by rw [HW1.out];exact cell_alloc_of d5 _));(have g5:w1.frozen? ⟨g,5,none⟩=false:=(by rw [HW1.out];rw [World.frozen?_alloc_past _ _ _ hgw];exact f5))) | ((with_reducible refine gate_store (t:=117) (p:=30) rfl ?_);refine store_at (t:=117) (p:=30) (v:=?vo_) (w1:=w1.setCell ⟨g,5,none⟩ (.slice (some ⟨wc.heap.size,0,none⟩) (a.length * b.length) (a.length * b.length))) ?hg ?ho ?hn ?hr ?_;(case ho=>rfl);(case hg=>rfl);(case hn=>rfl);(case hr=>first | (go_simp;done) | (go_simp;rfl));intro w2 HW2;(have q0:w2.cell? ⟨g,0,none⟩=some (.slice Aa a.length ca):=(by rw [HW2.out,HW1.out,World.cell?_setCell_other _ _ _ _ (by simp)];exact cell_alloc_of d0 _)))))
  have hst:RState w w2 g g3 g0 g1 wc.heap.size (.slice Aa a.length ca) (.slice Ab b.length cb) x2 x3 x4 (a.length * b.length) b.length (List.replicate (b.length+1) 0) (List.replicate (b.length+1) 0) (List.replicate (a.length * b.length) 0):=by
   obtain ⟨r1,r2,r3,r4,r5,r6,r7,r8,r9,r10,r11⟩:=HR.out;have hlt:g < w.heap.size:=blk_lt Hg.out;have l3:=blk_lt r7;have l0:=blk_lt r8;have l1:=blk_lt r9;(have hal : ∀ k,k < wc.heap.size→(wc.alloc (.cells ((List.replicate (a.length * b.length) 0).map (Value.int .u8)).toArray 5)).heap[k]? = wc.heap[k]? := fun k hk=>heap_alloc_old _ _ hk);(have hgn:w1.heap[g]? = some (.cells #[.slice Aa a.length ca, .slice Ab b.length cb,x2,x3,x4, .slice none 0 0, .int .i64 0] 119 (0,0)):=by rw [HW1.out,hal g hgw];exact Hgc.out);refine ⟨⟨HB.out.size,by omega,by omega,by omega,hlt⟩,⟨r1,r2,r3,r4,r5,r6,?_,?_,?_,r10,r11⟩,?_,⟨?_,by simp⟩,?_⟩;(· (rw [HW2.out,heap_set_other (by omega),HW1.out,hal g3 l3];exact r7));(· (unfold NumsAt;rw [HW2.out,heap_set_other (by omega),HW1.out,hal g0 l0];exact r8));(· (unfold NumsAt;rw [HW2.out,heap_set_other (by omega),HW1.out,hal g1 l1];exact r9));(· (rw [HW2.out,heap_set_same hgn];rfl));(· (unfold NumsAt;rw [HW2.out,heap_set_other (by omega),HW1.out];exact blk_new _ _));(· (rw [HW2.out,HW1.out];exact grown_set (grown_alloc (grown_of_below HB.out (some g)) _) _ _))
  have HST:=Aside0.mk hst;clear hst HW1 HW2 HR HB
  go_loopw [4] (fun s4 W => ∃ (x4_:Int) (g0_ g1_:Nat) (L0 L1 S:List Int),s4 = .int .i64 x4_ ∧ -1≤x4_∧x4_ < (a.length:Int)∧Aside0 (RState w W g g3 g0_ g1_ wc.heap.size (.slice Aa a.length ca) (.slice Ab b.length cb) x2 x3 x4 (a.length * b.length) b.length L0 L1 S)∧Aside0 (RowFrom a b (x4_+1).toNat 0 L0)∧Aside0 (L1[b.length]? = some 0)∧Aside0 (StepsFrom a b ((x4_+1).toNat * b.length) S)) (fun s4 _=>(intOf s4+1).toNat)
  case atStart =>
   (have hd:((a.length:Int) - 1+1).toNat=a.length:=by omega);refine ⟨(a.length:Int) - 1,g0,g1,_,_,_,rfl,by omega,by omega,HST,⟨?_⟩,⟨?_⟩,⟨?_⟩⟩;(· rw [hd];intro k hk1 hk2;rw [List.getElem?_replicate,if_pos (by omega)];simp);(· rw [List.getElem?_replicate,if_pos (by omega)]);(· rw [hd];intro k hk;rw [List.getElem?_replicate,if_pos hk,if_pos hk])
  case round =>
   obtain ⟨x4_,g0_,g1_,L0,L1,S,rfl,h1,h2,HS,HL0,HL1,HT⟩:=hrel
   by_cases hx:0≤x4_
   ·
    obtain ⟨i,rfl⟩:=Int.eq_ofNat_of_zero_le hx;have c30:wr.cell? ⟨g3,0,none⟩=some (.slice (some ⟨g0_,0,none⟩) (b.length+1) (b.length+1)):=cell_blk HS.out.2.1.2.2.2.2.2.2.1 rfl;have c31:wr.cell? ⟨g3,1,none⟩=some (.slice (some ⟨g1_,0,none⟩) (b.length+1) (b.length+1)):=cell_blk HS.out.2.1.2.2.2.2.2.2.1 rfl;go_wp2
    go_quiet (fail)
    go_wp2
    go_loopw [7] (fun s7 W => ∃ (x7:Int) (L1' S':List Int),s7 = .int .i64 x7 ∧ -1≤x7∧x7 < (b.length:Int)∧Aside0 (RState w W g g3 g0_ g1_ wc.heap.size (.slice Aa a.length ca) (.slice Ab b.length cb) x2 x3 x4 (a.length * b.length) b.length L0 L1' S')∧Aside0 (RowFrom a b i (x7+1).toNat L1')∧Aside0 (L1'[b.length]? = some 0)∧Aside0 (StepsFrom a b (i * b.length+(x7+1).toNat) S')) (fun s7 _=>(intOf s7+1).toNat)
    case atStart =>
     (have hd:((b.length:Int) - 1+1).toNat=b.length:=by omega);(have hd2:((i:Int)+1).toNat * b.length=i * b.length+b.length:=by rw [show ((i:Int)+1).toNat=i+1 from by omega,Nat.succ_mul]);refine ⟨(b.length:Int) - 1,L1,S,rfl,by omega,by omega,⟨HS.out.drewN _⟩,⟨?_⟩,HL1,⟨?_⟩⟩;(· rw [hd];intro k hk1 hk2;(obtain rfl:k=b.length:=by omega);rw [HL1.out];simp);(· (rw [hd,← hd2];exact HT.out))
    case round =>
     clear HS HL1 HT c30 c31;obtain ⟨x7,L1,S,rfl,h3,h4,HS,HR,HL1,HT⟩:=hrel
     by_cases hx7:0≤x7
     ·
      obtain ⟨j,rfl⟩:=Int.eq_ofNat_of_zero_le hx7;(have hi:i < a.length:=by omega);(have hj:j < b.length:=by omega);(rw [show ((j:Int)+1).toNat=j+1 from by omega] at HR HT);obtain ⟨x,hxa⟩ : ∃ x,a[i]? = some x:=⟨_,List.getElem?_eq_getElem hi⟩;obtain ⟨y,hyb⟩ : ∃ y,b[j]? = some y:=⟨_,List.getElem?_eq_getElem hj⟩;have Hxa:=Aside0.mk hxa;have Hyb:=Aside0.mk hyb;obtain ⟨ada,rfl,k1⟩:=elem_cell (Ha.out wr (fun k hk hlt=>HS.out.2.2.2.2.block k hlt (fun e=>hk (Option.some.inj e)))) hxa;obtain ⟨adb,rfl,k2⟩:=elem_cell (Hb.out wr (fun k hk hlt=>HS.out.2.2.2.2.block k hlt (fun e=>hk (Option.some.inj e)))) hyb;clear hxa hyb;have c0:wr.cell? ⟨g,0,none⟩=some (.slice (some ada) a.length ca):=cell_blk HS.out.2.2.1 rfl;have c1:wr.cell? ⟨g,1,none⟩=some (.slice (some adb) b.length cb):=cell_blk HS.out.2.2.1 rfl;obtain ⟨v0,hv0⟩ : ∃ v:Int,v=((lcsL (a.drop (i+1)) (b.drop (j+1)):Nat):Int):=⟨_,rfl⟩;obtain ⟨v1,hv1⟩ : ∃ v:Int,v=((lcsL (a.drop (i+1)) (b.drop j):Nat):Int):=⟨_,rfl⟩;obtain ⟨v2,hv2⟩ : ∃ v:Int,v=((lcsL (a.drop i) (b.drop (j+1)):Nat):Int):=⟨_,rfl⟩;obtain ⟨v3,hv3⟩ : ∃ v:Int,L1[j]? = some v:=⟨_,List.getElem?_eq_getElem (by have:=HS.out.2.1.2.2.2.2.2.2.2.2.2.2;omega)⟩
      have b0:0≤v0∧v0≤2000:=by
       have:=lcsL_le_right (a.drop (i+1)) (b.drop (j+1));(rw [List.length_drop] at this);omega
      have q0:=HL0.out (j+1) (by omega) (by omega);have q1:=HL0.out j (by omega) (by omega);have q2:=HR.out (j+1) (by omega) (by omega);(rw [show ((i:Int)+1).toNat=i+1 from by omega,← hv0] at q0);(rw [show ((i:Int)+1).toNat=i+1 from by omega,← hv1] at q1);(rw [← hv2] at q2);have Q0:=Aside0.mk q0;have Q1:=Aside0.mk q1;have Q2:=Aside0.mk q2;have Q3:=Aside0.mk hv3;have V0:=Aside0.mk hv0;have V1:=Aside0.mk hv1;have V2:=Aside0.mk hv2;clear q0 q1 q2 hv3 hv0 hv1 hv2;have s1:IntKind.i64.wrap ((j:Int)+1)=(j:Int)+1:=IntWalk.i64_in _ (by omega);(have s2:((j:Int)+1).toNat=j+1:=by omega)
      by_cases e:x=y
      ·
       have eb:(x == y)=true:=beq_iff_eq.2 e;have E:=Aside0.mk e;clear e;go_wp2
       go_quiet (fail)
       obtain ⟨wd,hwd⟩ : ∃ wd,wd=wr.drewN nq:=⟨_,rfl⟩;rw [← hwd];have HSd:=Aside0.mk (show RState w wd g g3 g0_ g1_ wc.heap.size (.slice (some ada) a.length ca) (.slice (some adb) b.length cb) x2 x3 x4 (a.length * b.length) b.length L0 L1 S by rw [hwd];exact HS.out.drewN _);have m0:wd.cell? ⟨g0_,j+1,none⟩=some (.int .i64 v0):=nums_cell HSd.out.2.1.2.2.2.2.2.2.2.1 Q0.out;have m3:wd.cell? ⟨g1_,j,none⟩=some (.int .i64 v3):=nums_cell HSd.out.2.1.2.2.2.2.2.2.2.2.1 Q3.out;have z3:wd.frozen? ⟨g1_,j,none⟩=false:=blk_frozen HSd.out.2.1.2.2.2.2.2.2.2.2.1 _;clear hwd c0 c1 k1 k2;go_wp2;go_roundw;(case measure=>simp [intOf])
       case rel =>
        (have hd:((j:Int) - 1+1).toNat=j:=by omega);refine ⟨(j:Int) - 1,L1.set j (v0+1),S,rfl,by omega,by omega,⟨HSd.out.row j (v0+1)⟩,⟨?_⟩,⟨?_⟩,⟨?_⟩⟩;(· (rw [hd];exact row_one HR.out hj (by have:=HSd.out.2.1.2.2.2.2.2.2.2.2.2.2;omega) (by rw [lcs_eq Hxa.out Hyb.out E.out,V0.out];rfl)));(· (rw [List.getElem?_set_ne (by omega)];exact HL1.out));(· (rw [hd];exact steps_same HT.out hj (step_eq Hxa.out Hyb.out E.out)))
      ·
       have eb:(x == y)=false:=beq_eq_false_iff_ne.2 e;have E:=Aside0.mk e;clear e;have hij:=place_lt hi hj
       have p1:(i:Int) * (b.length:Int)+(j:Int) < (a.length:Int) * (b.length:Int):=by
        (rw [← Int.natCast_mul,← Int.natCast_mul];omega)
       (have p0:0≤(i:Int) * (b.length:Int):=by rw [← Int.natCast_mul];omega);(have p2:((i:Int) * (b.length:Int)+(j:Int)).toNat=i * b.length+j:=by rw [← Int.natCast_mul];omega);obtain ⟨sv,hsv⟩ : ∃ v:Int,S[i * b.length+j]? = some v:=⟨_,List.getElem?_eq_getElem (by have:=HS.out.2.2.2.1.2;omega)⟩;have QS:=Aside0.mk hsv;clear hsv hij;go_wp2
       go_quiet (fail)
       go_wp2;obtain ⟨wd,hwd⟩ : ∃ wd,wd=wr.drewN nq:=⟨_,rfl⟩;rw [← hwd];have HSd:=Aside0.mk (show RState w wd g g3 g0_ g1_ wc.heap.size (.slice (some ada) a.length ca) (.slice (some adb) b.length cb) x2 x3 x4 (a.length * b.length) b.length L0 L1 S by rw [hwd];exact HS.out.drewN _);have m1:wd.cell? ⟨g0_,j,none⟩=some (.int .i64 v1):=nums_cell HSd.out.2.1.2.2.2.2.2.2.2.1 Q1.out;have m2:wd.cell? ⟨g1_,j+1,none⟩=some (.int .i64 v2):=nums_cell HSd.out.2.1.2.2.2.2.2.2.2.2.1 Q2.out;clear hwd c0 c1 k1 k2
       by_cases hle:v2≤v1
       ·
        have hle':=Aside0.mk hle;have hb:decide (v2≤v1)=true:=decide_eq_true hle;clear hle
        go_quiet (fail)
        obtain ⟨we,hwe⟩ : ∃ we,we=wd.drewN nq:=⟨_,rfl⟩;rw [← hwe];have HSe:=Aside0.mk (show RState w we g g3 g0_ g1_ wc.heap.size (.slice (some ada) a.length ca) (.slice (some adb) b.length cb) x2 x3 x4 (a.length * b.length) b.length L0 L1 S by rw [hwe];exact HSd.out.drewN _);clear hwe m1 m2;have m1:we.cell? ⟨g0_,j,none⟩=some (.int .i64 v1):=nums_cell HSe.out.2.1.2.2.2.2.2.2.2.1 Q1.out;have m2:we.cell? ⟨g1_,j+1,none⟩=some (.int .i64 v2):=nums_cell HSe.out.2.1.2.2.2.2.2.2.2.2.1 Q2.out;have m3:we.cell? ⟨g1_,j,none⟩=some (.int .i64 v3):=nums_cell HSe.out.2.1.2.2.2.2.2.2.2.2.1 Q3.out;have z3:we.frozen? ⟨g1_,j,none⟩=false:=blk_frozen HSe.out.2.1.2.2.2.2.2.2.2.2.1 _;have HS2:=Aside0.mk (HSe.out.row j v1);have n5:(we.setCell ⟨g1_,j,none⟩ (.int .i64 v1)).cell? ⟨g,5,none⟩=some (.slice (some ⟨wc.heap.size,0,none⟩) (a.length * b.length) (a.length * b.length)):=cell_blk HS2.out.2.2.1 rfl;have nS:(we.setCell ⟨g1_,j,none⟩ (.int .i64 v1)).cell? ⟨wc.heap.size,i * b.length+j,none⟩=some (.int .u8 sv):=nums_cell HS2.out.2.2.2.1.1 QS.out;have zS:(we.setCell ⟨g1_,j,none⟩ (.int .i64 v1)).frozen? ⟨wc.heap.size,i * b.length+j,none⟩=false:=blk_frozen HS2.out.2.2.2.1.1 _;go_wp2;go_roundw;(case measure=>simp [intOf])
        case rel =>
         (have hd:((j:Int) - 1+1).toNat=j:=by omega);(have hvv:lcsL (a.drop i) (b.drop (j+1))≤lcsL (a.drop (i+1)) (b.drop j)↔v2≤v1:=by rw [V1.out,V2.out];omega);refine ⟨(j:Int) - 1,L1.set j v1,S.set (i * b.length+j) 1,rfl,by omega,by omega,⟨HS2.out.step _ _⟩,⟨?_⟩,⟨?_⟩,⟨?_⟩⟩;(· (rw [hd];exact row_one HR.out hj (by have:=HSd.out.2.1.2.2.2.2.2.2.2.2.2.2;omega) (by rw [lcs_ne Hxa.out Hyb.out E.out];rw [Nat.max_eq_left (hvv.2 hle'.out)];exact V1.out)));(· (rw [List.getElem?_set_ne (by omega)];exact HL1.out));(· (rw [hd];exact steps_one HT.out hj HS.out.2.2.2.1.2 (step_old Hxa.out Hyb.out E.out (hvv.2 hle'.out))))
       ·
        have hle':=Aside0.mk hle;have hb:decide (v2≤v1)=false:=decide_eq_false hle;clear hle
        go_quiet (fail)
        obtain ⟨we,hwe⟩ : ∃ we,we=wd.drewN nq:=⟨_,rfl⟩;rw [← hwe];have HSe:=Aside0.mk (show RState w we g g3 g0_ g1_ wc.heap.size (.slice (some ada) a.length ca) (.slice (some adb) b.length cb) x2 x3 x4 (a.length * b.length) b.length L0 L1 S by rw [hwe];exact HSd.out.drewN _);clear hwe m1 m2;have m1:we.cell? ⟨g0_,j,none⟩=some (.int .i64 v1):=nums_cell HSe.out.2.1.2.2.2.2.2.2.2.1 Q1.out;have m2:we.cell? ⟨g1_,j+1,none⟩=some (.int .i64 v2):=nums_cell HSe.out.2.1.2.2.2.2.2.2.2.2.1 Q2.out;have m3:we.cell? ⟨g1_,j,none⟩=some (.int .i64 v3):=nums_cell HSe.out.2.1.2.2.2.2.2.2.2.2.1 Q3.out;have z3:we.frozen? ⟨g1_,j,none⟩=false:=blk_frozen HSe.out.2.1.2.2.2.2.2.2.2.2.1 _;have HS2:=Aside0.mk (HSe.out.row j v2);have n5:(we.setCell ⟨g1_,j,none⟩ (.int .i64 v2)).cell? ⟨g,5,none⟩=some (.slice (some ⟨wc.heap.size,0,none⟩) (a.length * b.length) (a.length * b.length)):=cell_blk HS2.out.2.2.1 rfl;have nS:(we.setCell ⟨g1_,j,none⟩ (.int .i64 v2)).cell? ⟨wc.heap.size,i * b.length+j,none⟩=some (.int .u8 sv):=nums_cell HS2.out.2.2.2.1.1 QS.out;have zS:(we.setCell ⟨g1_,j,none⟩ (.int .i64 v2)).frozen? ⟨wc.heap.size,i * b.length+j,none⟩=false:=blk_frozen HS2.out.2.2.2.1.1 _;go_wp2;go_roundw;(case measure=>simp [intOf])
        case rel =>
         (have hd:((j:Int) - 1+1).toNat=j:=by omega);(have hvv:lcsL (a.drop i) (b.drop (j+1))≤lcsL (a.drop (i+1)) (b.drop j)↔v2≤v1:=by rw [V1.out,V2.out];omega);refine ⟨(j:Int) - 1,L1.set j v2,S.set (i * b.length+j) 2,rfl,by omega,by omega,⟨HS2.out.step _ _⟩,⟨?_⟩,⟨?_⟩,⟨?_⟩⟩;(· (rw [hd];exact row_one HR.out hj (by have:=HSd.out.2.1.2.2.2.2.2.2.2.2.2.2;omega) (by rw [lcs_ne Hxa.out Hyb.out E.out];rw [Nat.max_eq_right (by have:=mt hvv.1 hle'.out;omega)];exact V2.out)));(· (rw [List.getElem?_set_ne (by omega)];exact HL1.out));(· (rw [hd];exact steps_one HT.out hj HS.out.2.2.2.1.2 (step_fresh Hxa.out Hyb.out E.out (mt hvv.1 hle'.out))))
     ·
      (have hx7':x7 = -1:=by omega);subst hx7';have c30:wr.cell? ⟨g3,0,none⟩=some (.slice (some ⟨g0_,0,none⟩) (b.length+1) (b.length+1)):=cell_blk HS.out.2.1.2.2.2.2.2.2.1 rfl;have c31:wr.cell? ⟨g3,1,none⟩=some (.slice (some ⟨g1_,0,none⟩) (b.length+1) (b.length+1)):=cell_blk HS.out.2.1.2.2.2.2.2.2.1 rfl;have z30:wr.frozen? ⟨g3,0,none⟩=false:=blk_frozen HS.out.2.1.2.2.2.2.2.2.1 _;have z31:wr.frozen? ⟨g3,1,none⟩=false:=blk_frozen HS.out.2.1.2.2.2.2.2.2.1 _;go_wp2;go_roundw;(case measure=>simp [intOf])
      case rel =>
       (have hd:((i:Int) - 1+1).toNat=i:=by omega);refine ⟨(i:Int) - 1,g1_,g0_,L1,L0,S,rfl,by omega,by omega,⟨HS.out.swap⟩,⟨?_⟩,⟨?_⟩,⟨?_⟩⟩;(· (rw [hd];exact HR.out));(· (rw [HL0.out b.length (Nat.zero_le _) (Nat.le_refl _)];simp));(· (rw [hd];exact HT.out))
   ·
    (have hx':x4_ = -1:=by omega);subst hx';have c30:wr.cell? ⟨g3,0,none⟩=some (.slice (some ⟨g0_,0,none⟩) (b.length+1) (b.length+1)):=cell_blk HS.out.2.1.2.2.2.2.2.2.1 rfl
    have c00:wr.cell? ⟨g0_,0,none⟩=some (.int .i64 ((lcsL a b:Nat):Int)):=by
     have h:=nums_cell HS.out.2.1.2.2.2.2.2.2.2.1 (HL0.out 0 (Nat.le_refl _) (Nat.zero_le _));simpa using h
    have c6:wr.cell? ⟨g,6,none⟩=some (.int .i64 0):=cell_blk HS.out.2.2.1 rfl;have z6:wr.frozen? ⟨g,6,none⟩=false:=blk_frozen HS.out.2.2.1 _;go_wp2;go_end0;obtain ⟨⟨e1,e2,e3,e4,e5⟩,hr,hg,⟨hs,hsl⟩,hk⟩:=HS.out
    have hS:S=stepsOf a b:=by
     apply List.ext_getElem?;intro k
     rcases Nat.lt_or_ge k (a.length * b.length) with h | h
     (· rw [HT.out k h,if_neg (by simp)];simp [stepsOf,h]);(· rw [List.getElem?_eq_none (by omega),List.getElem?_eq_none (by simp [stepsOf];omega)])
    refine ⟨rfl,⟨wc.heap.size,e1,?_,?_⟩,grown_set hk _ _⟩;(· (rw [heap_set_same hg];rfl));(· (rw [← hS];exact nums_other hs (by omega) _))
def colK (ms:List (List Int)) (k:Nat):List Int:=ms.map (fun l=>l.getD k 0)
abbrev CutSt:=Int × List Int × List Chunk
def cutF (st:CutSt) (stable:Bool) (base:Int) (ats:List Int):CutSt:=(base,ats,cutOut stable st.1 base st.2.1 ats st.2.2)
def alignGo (m:Nat) (ms:List (List Int)):Nat→Nat→CutSt→CutSt
  | 0,_,st=>st
  | r+1,k,st=>if k < m then (if stableB ms k=true then alignGo m ms r (runF m ms k) (cutF (cutF st false (k:Int) (colK ms k)) true (runF m ms k:Nat) ((colK ms (runF m ms k - 1)).map (· + 1))) else alignGo m ms r (k+1) st) else st
def alignF (m:Nat) (sizes:List Int) (ms:List (List Int)):List Chunk:=(cutF (alignGo m ms (m+1) 0 (0,List.replicate ms.length 0,[])) false (m:Int) sizes).2.2
theorem runGo_ge (m:Nat) (ms:List (List Int)) : ∀ r a,a≤runGo m ms r a
 | 0,a=>Nat.le_refl _
 | r+1,a=>by
  (rw [runGo];split);(· (have:=runGo_ge m ms r (a+1);omega));(· exact Nat.le_refl _)
theorem runGo_le (m:Nat) (ms:List (List Int)) : ∀ r a,a≤m→runGo m ms r a≤m
 | 0,a,h=>h
 | r+1,a,h=>by
  (rw [runGo];split);(· (rename_i h2;exact runGo_le m ms r (a+1) (by omega)));(· exact h)
theorem runF_gt (m:Nat) (ms:List (List Int)) (k:Nat) (h:k < m):k < runF m ms k∧runF m ms k≤m:=⟨runGo_ge m ms _ _,runGo_le m ms _ _ (by omega)⟩
theorem CutIn.bel {w0 w:World} {B g gs:Nat} {base:Int} {sides:List Int} {out:List Chunk} (h:CutIn w0 w B g gs base sides out):Below B w0 w:=by
 (obtain ⟨vo,h1,h2,h3,h4,h5,h6⟩:=h;exact h6)
theorem CutIn.lt {w0 w:World} {B g gs:Nat} {base:Int} {sides:List Int} {out:List Chunk} (h:CutIn w0 w B g gs base sides out):gs < w.heap.size:=by
 (obtain ⟨vo,h1,h2,h3,h4,h5,h6⟩:=h;exact blk_lt h3)
theorem CutIn.below {w0 w w':World} {B g gs:Nat} {base:Int} {sides:List Int} {out:List Chunk} (h:CutIn w0 w B g gs base sides out) (hb:Below w.heap.size w w') (hB:B≤w.heap.size):CutIn w0 w' B g gs base sides out:=by
 obtain ⟨vo,h1,h2,h3,h4,h5,h6⟩:=h;exact ⟨vo,far_keep h1 hb,h2,far_keep h3 hb,h4,Kd.S_below h5 hb,h6.trans (hb.mono hB)⟩
theorem colK_get (ms:List (List Int)) (k i:Nat):(colK ms k).getD i 0=(ms.getD i []).getD k 0:=by
 rw [colK,List.getD_eq_getElem?_getD,List.getElem?_map,List.getD_eq_getElem?_getD (l:=ms)];(cases ms[i]? <;> simp)
section
variable {w w8:World} {g gs g5 gk:Nat} {A:Option Addr} {c:Nat} {ms:List (List Int)} {m k:Nat}
theorem hat2_of (hQ:w8.heap[g5]? = some (.cells #[.slice A ms.length c] 70 (0,0))) (hK:w8.heap[gk]? = some (.cells #[.int .i64 (k:Int)] 3 (0,0))) (hC:Kd.C KIa w A ms.length ms) (hb:Below w.heap.size w w8) (hg:w.heap.size≤g) (hgs:w.heap.size≤gs) (n1:g5≠g) (n2:g5≠gs) (n3:gk≠g) (n4:gk≠gs) (hl:AllLen ms m) (hk:k < m) (hm:m≤1000000) :
    ∀ W',AKeeps g gs w8 W' → ∀ i,i < ms.length→Calls Tryz.prog 75 #[.int .i64 (i:Int), .pointer (some ⟨g5,0,none⟩), .pointer (some ⟨gk,0,none⟩)] W' fun e w''=>e = .returned (.int .i64 ((colK ms k).getD i 0))∧Drawn0 W' w'':=by
 intro W' hW i hi;rw [colK_get];refine align_at2 g5 gk A c ms m k i W' (cell_blk ((hW.2 _ (blk_lt hQ) n1 n2).trans hQ) rfl) (cell_blk ((hW.2 _ (blk_lt hK) n3 n4).trans hK) rfl) ?_ hl hk hm hi;exact (Kd.heap_slice _ (Kd.heap_int _)).C (fun j hj=>(hW.2 j (Nat.lt_of_lt_of_le hj hb.size) (by omega) (by omega)).trans (hb.block j hj)) hC
theorem hat3_of (hQ:w8.heap[g5]? = some (.cells #[.slice A ms.length c] 70 (0,0))) (hK:w8.heap[gk]? = some (.cells #[.int .i64 ((k:Int)+1)] 3 (0,0))) (hC:Kd.C KIa w A ms.length ms) (hb:Below w.heap.size w w8) (hg:w.heap.size≤g) (hgs:w.heap.size≤gs) (n1:g5≠g) (n2:g5≠gs) (n3:gk≠g) (n4:gk≠gs) (hl:AllLen ms m) (hv : ∀ l ∈ ms,∀ i, -1≤l.getD i 0∧l.getD i 0≤1000000) (hk:k < m) (hm:m≤1000000) :
    ∀ W',AKeeps g gs w8 W' → ∀ i,i < ms.length→Calls Tryz.prog 76 #[.int .i64 (i:Int), .pointer (some ⟨g5,0,none⟩), .pointer (some ⟨gk,0,none⟩)] W' fun e w''=>e = .returned (.int .i64 (((colK ms k).map (· + 1)).getD i 0))∧Drawn0 W' w'':=by
 intro W' hW i hi
 have e:((colK ms k).map (· + 1)).getD i 0=(ms.getD i []).getD k 0+1:=by
  (rw [← colK_get,List.getD_eq_getElem?_getD,List.getElem?_map,List.getD_eq_getElem?_getD,List.getElem?_eq_getElem (by simpa [colK] using hi)];rfl)
 rw [e];refine align_at3 g5 gk A c ms m k i W' (cell_blk ((hW.2 _ (blk_lt hQ) n1 n2).trans hQ) rfl) (cell_blk ((hW.2 _ (blk_lt hK) n3 n4).trans hK) rfl) ?_ hl hv hk hm hi;exact (Kd.heap_slice _ (Kd.heap_int _)).C (fun j hj=>(hW.2 j (Nat.lt_of_lt_of_le hj hb.size) (by omega) (by omega)).trans (hb.block j hj)) hC
end
theorem CutIn.blk {w0 w:World} {B g gs:Nat} {base:Int} {sides:List Int} {out:List Chunk} (h:CutIn w0 w B g gs base sides out) : ∃ cs,w.heap[g]? = some (.cells cs 126 (0,0)):=by
 (obtain ⟨vo,h1,h2,h3,h4,h5,h6⟩:=h;exact ⟨_,h1⟩)
theorem CutIn.blks {w0 w:World} {B g gs:Nat} {base:Int} {sides:List Int} {out:List Chunk} (h:CutIn w0 w B g gs base sides out) : ∃ cs,w.heap[gs]? = some (.cells cs 3 (0,0)):=by
 (obtain ⟨vo,h1,h2,h3,h4,h5,h6⟩:=h;exact ⟨_,h3⟩)
theorem cutOut_len (stable:Bool) (base0 base:Int) (sides ats:List Int) (out:List Chunk):(cutOut stable base0 base sides ats out).length≤out.length+1:=by
 (unfold cutOut;split);(· simp);(· omega)
theorem CutIn.setbox {w0 w:World} {B g gs b:Nat} {base:Int} {sides:List Int} {out:List Chunk} {cs:Array Value} (h:CutIn w0 w B g gs base sides out) (hb:w.heap[b]? = some (.cells cs 3 (0,0))) (hg:b≠gs) (hB:B≤b) (v:Value):CutIn w0 (w.setCell ⟨b,0,none⟩ v) B g gs base sides out:=by
 obtain ⟨vo,h1,h2,h3,h4,h5,h6⟩:=h;exact ⟨vo,set_keepA h1 (blk_neA h1 hb (by decide)) v,h2,set_keepA h3 (fun e=>hg e.symm) v,h4,Kd.S_set h5 hb (by decide) _ _,h6.setCell (p:=⟨b,0,none⟩) hB v⟩
theorem alignGo_end (m:Nat) (ms:List (List Int)) {r:Nat} (st:CutSt):alignGo m ms r m st=st:=by
 cases r with
 | zero=>rfl
 | succ r=>rw [alignGo,if_neg (by omega)]
set_option maxRecDepth 100000 in
set_option maxHeartbeats 8000000 in
theorem align_Align (m:Nat) (A1:Option Addr) (c1:Nat) (sizes:List Int) (A2:Option Addr) (c2:Nat) (ms:List (List Int)) (w:World) (hr1:Kd.C (Kd.int .i64) w A1 sizes.length sizes) (hc1:sizes.length≤c1) (hr2:Kd.C KIa w A2 ms.length ms) (hc2:ms.length≤c2)
    (hn:sizes.length=ms.length) (hn1:1≤ms.length) (hn2:ms.length≤16) (hm:m≤40000) (hl:AllLen ms m) (hv : ∀ l ∈ ms,∀ i, -1≤l.getD i 0∧l.getD i 0≤1000000) (hmay : ∃ k,∀ i (h:i < ms.length),align_may.f k ms[i] (m:Int) (sizes.getD i 0)=some true) :
    Calls Tryz.prog 38 #[.int .i64 (m:Int), .slice A1 sizes.length c1, .slice A2 ms.length c2] w fun e w' => ∃ v0_:Value,e = .returned (.tuple #[v0_, .int .i64 0])∧Kd.S k48 48 w' w.heap.size (fun _=>True) v0_ (alignF m sizes ms)∧Below w.heap.size w w':=by
 obtain ⟨kf,hmay⟩:=hmay;have HR1:=Aside0.mk hr1;have HR2:=Aside0.mk hr2;have HL:=Aside0.mk hl;have HV:=Aside0.mk hv;have HMAY:=Aside0.mk hmay;clear hr1 hr2 hl hv hmay;obtain ⟨n,hnn⟩ : ∃ n,ms.length=n:=⟨_,rfl⟩;have HN:=Aside0.mk hnn;(rw [hnn] at hn hn1 hn2 hc2 ⊢);(rw [hn] at hc1 ⊢);have HN1:=Aside0.mk hn;clear hnn hn;have d1:decide ((n:Int) < 1)=false:=decide_eq_false (by omega);have d2:decide ((16:Int) < (n:Int))=false:=decide_eq_false (by omega);have d3:decide (n < 1)=false:=decide_eq_false (by omega);have d4:decide (16 < n)=false:=decide_eq_false (by omega);go_enter Tryz.func38,Tryz.ntmps38;(go_wp2_with fail);obtain ⟨w1,hw1⟩ : ∃ w1,(w.alloc (.cells #[.slice A1 n c1] 72)).alloc (.cells #[.slice A2 n c2] 70)=w1:=⟨_,rfl⟩;(have hb1:Below w.heap.size w w1:=by rw [← hw1];exact ((Below.refl _ w).alloc (Nat.le_refl _) _).alloc (by simp) _);(have q4:w1.heap[w.heap.size]? = some (.cells #[.slice A1 n c1] 72 (0,0)):=by rw [← hw1,heap_alloc_old _ _ (by simp)];exact blk_new _ _);(have q5:w1.heap[w.heap.size+1]? = some (.cells #[.slice A2 n c2] 70 (0,0)):=by rw [← hw1];have:=blk_new (w.alloc (.cells #[.slice A1 n c1] 72)) (.cells #[.slice A2 n c2] 70);simpa using this);rw [hw1];have HB1:=Aside0.mk hb1;have Q4:=Aside0.mk q4;have Q5:=Aside0.mk q5;clear hw1 hb1 q4 q5
 go_loopw [31] (fun s31 wr => ∃ (i:Nat),s31 = .int .i64 i∧i≤n∧Aside0 (Below w1.heap.size w1 wr)) (fun s31 _=>n - (intOf s31).toNat)
 (case atStart=>exact ⟨0,rfl,Nat.zero_le _,⟨Below.refl _ _⟩⟩)
 case round =>
  obtain ⟨i,rfl,hi,HW⟩:=hrel;have HBr:Aside0 (Below w.heap.size w wr):=⟨far_ HB1.out HW.out⟩
  by_cases hlt:i < n
  (· have e1:decide ((i:Int) < (n:Int))=true:=decide_eq_true (by omega);have e2:decide (i < n)=true:=decide_eq_true hlt;(have hin:i < ms.length:=by rw [HN.out];exact hlt);obtain ⟨ad,Al,cl,rfl,xl,hcl,kcl⟩:=at_slice (Kd.C_below HR2.out HBr.out) i hin;(have hg0:ms.getD i []=ms[i]:=by simp [hin]);have hmi:=HMAY.out i hin;(rw [hg0] at xl hcl kcl);obtain ⟨l,hl0⟩ : ∃ l,ms[i]=l:=⟨_,rfl⟩;(rw [hl0] at xl hcl kcl hmi);obtain ⟨as_,rfl,xs⟩:=at_num (Kd.C_below HR1.out HBr.out) i (by rw [HN1.out];exact hlt);obtain ⟨sz,hsz⟩ : ∃ sz,sizes.getD i 0=sz:=⟨_,rfl⟩;(rw [hsz] at xs hmi);have y4:wr.cell? ⟨w.heap.size,0,none⟩=some (.slice (some as_) n c1):=cell_blk (far_keep Q4.out HW.out) rfl;have HMI:=Aside0.mk hmi;have KCL:=Aside0.mk kcl;have HCL:=Aside0.mk hcl;clear hg0 hl0 hsz hmi kcl hcl hin;(go_wp2_with fail);refine (align_may.calls kf Al cl l (m:Int) sz true wr KCL.out HCL.out HMI.out).mono ?_;rintro e w2 ⟨rfl,hb2⟩;have HW2:Aside0 (Below w1.heap.size w1 w2):=⟨far_ HW.out hb2⟩;clear hb2 y4;go_wp2;go_roundw;(case measure=>simp [intOf];omega);(case rel=>exact ⟨i+1,by go_num,by omega,HW2⟩))
  ·
   obtain ⟨wz,rfl⟩ : ∃ wq,wq=wr:=⟨_,rfl⟩;have e1:decide ((i:Int) < (n:Int))=false:=decide_eq_false (by omega);have e2:decide (i < n)=false:=decide_eq_false hlt;have y4:wz.cell? ⟨w.heap.size,0,none⟩=some (.slice A1 n c1):=cell_blk (far_keep Q4.out HW.out) rfl;(have hmf : ∀ (fn:Fn) (first cap:Array Value) (w:World),(Instr.makeFunc fn first cap).run Tryz.prog w = .ok (.func fn first cap) w:=fun _ _ _ _=>rfl)
   have hmk : ∀ W:World,(Instr.makeSlice 72 (.int .i64 (n:Int)) (.int .i64 (n:Int))).run Tryz.prog W = .ok (.slice (some ⟨W.heap.size,0,none⟩) n n) (W.alloc (.cells (Array.replicate n (.int .i64 0)) 3)):=by
    obtain ⟨i0,hi0,hz0⟩:=Option.map_eq_some_iff.1 info3;(simp only [Prod.mk.injEq] at hz0);obtain ⟨hz,hsz,hby⟩:=hz0;intro W;have h:=run_make (P:=Tryz.prog) W 72 3 i0 (.int .i64 0) Tryz.underlying72 hi0 hz .i64 .i64 (n:Int) (n:Int) (by omega) (by omega) (by rw [hby];omega) (by omega);rw [h,hsz,Int.toNat_natCast,show (Value.int .i64 0).cells=#[Value.int .i64 0] from rfl,madeCells_one,List.toArray_replicate]
   (go_wp2_with fail);obtain ⟨w5,hw5⟩ : ∃ w5,((wz.alloc (.cells (Array.replicate n (.int .i64 0)) 3)).alloc (.cells #[.int .i64 0, .slice (some ⟨wz.heap.size,0,none⟩) n n, .slice none 0 0] 126)).alloc (.cells #[.int .i64 0] 3)=w5:=⟨_,rfl⟩;(have hb5:Below wz.heap.size wz w5:=by rw [← hw5];exact (((Below.refl _ wz).alloc (Nat.le_refl _) _).alloc (by simp) _).alloc (by simp;omega) _);(have r0:w5.heap[wz.heap.size]? = some (.cells (Array.replicate n (.int .i64 0)) 3 (0,0)):=by rw [← hw5,heap_alloc_old _ _ (by simp;omega),heap_alloc_old _ _ (by simp)];exact blk_new _ _)
   have r1:w5.heap[wz.heap.size+1]? = some (.cells #[.int .i64 0, .slice (some ⟨wz.heap.size,0,none⟩) n n, .slice none 0 0] 126 (0,0)):=by
    rw [← hw5,heap_alloc_old _ _ (by simp)];have:=blk_new (wz.alloc (.cells (Array.replicate n (.int .i64 0)) 3)) (.cells #[.int .i64 0, .slice (some ⟨wz.heap.size,0,none⟩) n n, .slice none 0 0] 126);simpa using this
   have r2:w5.heap[wz.heap.size+1+1]? = some (.cells #[.int .i64 0] 3 (0,0)):=by
    rw [← hw5];have:=blk_new ((wz.alloc (.cells (Array.replicate n (.int .i64 0)) 3)).alloc (.cells #[.int .i64 0, .slice (some ⟨wz.heap.size,0,none⟩) n n, .slice none 0 0] 126)) (.cells #[.int .i64 0] 3);simpa using this
   rw [hw5];obtain ⟨FIN,hFIN⟩ : ∃ FIN,alignGo m ms (m+1) 0 (0,List.replicate n 0,[])=FIN:=⟨_,rfl⟩;have HFIN:=Aside0.mk hFIN;have HB5:=Aside0.mk hb5;have R0:=Aside0.mk r0;have R1:=Aside0.mk r1;have R2:=Aside0.mk r2;clear hw5 hFIN hb5 r0 r1 r2 y4
   go_loopg [12] m (fun gg s12 wx => ∃ (k gk r:Nat) (st:CutSt),s12 = .pointer (some ⟨gk,0,none⟩)∧k+gg=m∧m+1≤r+k∧Aside0 (alignGo m ms r k st=FIN)∧Aside0 (wx.heap[gk]? = some (.cells #[.int .i64 (k:Int)] 3 (0,0)))∧gk≠wz.heap.size∧w.heap.size≤gk ∧
    Aside0 (CutIn w wx w.heap.size (wz.heap.size+1) wz.heap.size st.1 st.2.1 st.2.2)∧Aside0 (wx.heap[w.heap.size]? = some (.cells #[.slice A1 n c1] 72 (0,0)))∧Aside0 (wx.heap[w.heap.size+1]? = some (.cells #[.slice A2 n c2] 70 (0,0)))∧st.2.1.length=n∧st.2.2.length≤2 * k)
   case atStart =>
    refine ⟨0,_,m+1,(0,List.replicate n 0,[]),rfl,by omega,by omega,HFIN,R2,by omega,by have:=HBr.out.size;omega,⟨?_⟩,⟨far_keep (far_keep Q4.out HW.out) HB5.out⟩,⟨far_keep (far_keep Q5.out HW.out) HB5.out⟩,by simp,by simp⟩;refine ⟨.slice none 0 0,by rw [R1.out];simp,by have:=HBr.out.size;omega,by rw [R0.out];simp,HBr.out.size,Kd.S_nil _ _ _ _ _,far_ HBr.out HB5.out⟩
   case round =>
    obtain ⟨k,gk,r,st,rfl,hkg,hr,HG,HK,hne,hgk,HC,HQ4,HQ5,hsl,hol⟩:=hrel;obtain ⟨r,rfl⟩ : ∃ r',r=r'+1:=⟨r - 1,by omega⟩;have x12:wr.cell? ⟨gk,0,none⟩=some (.int .i64 (k:Int)):=cell_blk HK.out rfl;have HBw:Aside0 (Below w.heap.size w wr):=⟨HC.out.bel⟩
    by_cases hk:k < m
    ·
     have g1:decide ((k:Int) < (m:Int))=true:=decide_eq_true (by omega);have g2:decide (k < m)=true:=decide_eq_true hk;(have y5:wr.cell? ⟨w.heap.size+1,0,none⟩=some (.slice A2 ms.length c2):=by rw [HN.out];exact cell_blk HQ5.out rfl);have Y5:=Aside0.mk y5;(go_wp2_with fail);refine (align_stable (w.heap.size+1) A2 c2 ms m k wr Y5.out (Kd.C_below HR2.out HBw.out) HL.out hk (by omega) (by rw [HN.out];omega)).mono ?_;rintro e w6' ⟨rfl,n6,hn6⟩;obtain ⟨w6,hw6⟩ : ∃ w6,w6=w6':=⟨_,rfl⟩;rw [← hw6];(rw [← hw6] at hn6);have HB6:Aside0 (Below wr.heap.size wr w6):=⟨by rw [hn6];exact pw_below_drewN (Below.refl _ _) n6⟩;clear hw6 hn6 y5;obtain ⟨sb,hsb⟩ : ∃ sb,stableB ms k=sb:=⟨_,rfl⟩;have HSB:=Aside0.mk hsb;rw [hsb];clear hsb;have hwz:w.heap.size≤wr.heap.size:=HBw.out.size
     cases sb with
     | false =>
      ·
       have HG':Aside0 (alignGo m ms r (k+1) st=FIN):=⟨by
        have:=HG.out;(rw [alignGo,if_pos hk,HSB.out,if_neg (by decide)] at this)
        exact this⟩
       have z12:w6.cell? ⟨gk,0,none⟩=some (.int .i64 (k:Int)):=cell_blk (far_keep HK.out HB6.out) rfl;go_wp2
       go_roundg (m - (k+1))
       (case measure=>omega)
       case rel =>
        have hb:Below w6.heap.size w6 (w6.alloc (.cells #[.int .i64 ((k:Int)+1)] 3)):=(Below.refl _ w6).alloc (Nat.le_refl _) _;have hb2:=far_ HB6.out hb;exact ⟨k+1,w6.heap.size,r,st,rfl,by omega,by omega,HG',⟨blk_new _ _⟩,by have:=HC.out.lt;have:=HB6.out.size;omega,Nat.le_trans hwz HB6.out.size,⟨HC.out.below hb2 hwz⟩,⟨far_keep HQ4.out hb2⟩,⟨far_keep HQ5.out hb2⟩,hsl,by omega⟩
     | true =>
      ·
       obtain ⟨hen1,hen2⟩:=runF_gt m ms k hk;have HG':=HG.out;(rw [alignGo,if_pos hk,HSB.out,if_pos rfl] at HG');obtain ⟨en,hen⟩ : ∃ en,runF m ms k=en:=⟨_,rfl⟩;(rw [hen] at HG' hen1 hen2);have HG2:=Aside0.mk HG';have HEN:=Aside0.mk hen;clear HG' hen;have z12:w6.cell? ⟨gk,0,none⟩=some (.int .i64 (k:Int)):=cell_blk (far_keep HK.out HB6.out) rfl;have y56:w6.cell? ⟨w.heap.size+1,0,none⟩=some (.slice A2 n c2):=cell_blk (far_keep HQ5.out HB6.out) rfl;have hrun:=align_run A2 c2 ms m k w6 (Kd.C_below HR2.out (far_ HBw.out HB6.out)) (by rw [HN.out];exact hc2) HL.out HV.out hk (by omega) (by rw [HN.out];omega);(rw [HN.out,HEN.out] at hrun);have HRUN:=Aside0.mk hrun;clear hrun;(go_wp2_with fail);refine HRUN.out.mono ?_;rintro e w7' ⟨rfl,n7,hn7⟩;obtain ⟨w7,hw7⟩ : ∃ w7,w7=w7':=⟨_,rfl⟩;rw [← hw7];(rw [← hw7] at hn7);have HB7:Aside0 (Below wr.heap.size wr w7):=⟨by rw [hn7];exact far_ HB6.out (pw_below_drewN (Below.refl _ _) n7)⟩;clear hw7 hn7 z12 y56;(have z7 : ∀ o,(w7.alloc o).cell? ⟨gk,0,none⟩=some (.int .i64 (k:Int)):=fun o=>cell_alloc_of (cell_blk (far_keep HK.out HB7.out) rfl) o);(go_wp2_with fail);obtain ⟨w8,hw8⟩ : ∃ w8,w7.alloc (.cells #[.int .i64 (en:Int)] 3)=w8:=⟨_,rfl⟩;(have hb8:Below wr.heap.size wr w8:=by rw [← hw8];exact far_ HB7.out ((Below.refl _ _).alloc (Nat.le_refl _) _));(have e8:w8.heap[w7.heap.size]? = some (.cells #[.int .i64 (en:Int)] 3 (0,0)):=by rw [← hw8];exact blk_new _ _);rw [hw8];have hC8:=HC.out.below hb8 hwz;have hk8:=far_keep HK.out hb8;have hq8:=far_keep HQ5.out hb8;have h7:wr.heap.size≤w7.heap.size:=HB7.out.size;obtain ⟨cs1,hc1'⟩:=hC8.blk;obtain ⟨cs2,hc2'⟩:=hC8.blks;have m1:=blk_neA hq8 hc1' (by decide);have m2:=blk_neA hq8 hc2' (by decide);have m3:=blk_neA hk8 hc1' (by decide);(rw [← HN.out] at hq8);have hat2:=hat2_of (w:=w) (g:=wz.heap.size+1) (gs:=wz.heap.size) hq8 hk8 HR2.out (far_ HBw.out hb8) (by have:=HBr.out.size;omega) HBr.out.size m1 m2 m3 hne HL.out hk (by omega);(have hlc:(colK ms k).length=st.2.1.length:=by rw [hsl,colK,List.length_map,HN.out]);have hto:=cut_toF 75 _ Tryz.func75 (by kernel_rfl) rfl #[.pointer (some ⟨w.heap.size+1,0,none⟩), .pointer (some ⟨gk,0,none⟩)] w w8 w.heap.size (wz.heap.size+1) wz.heap.size false st.1 (k:Int) st.2.1 (colK ms k) st.2.2 hC8 rfl hlc (by omega) (by omega) (fun W' hW i hi=>hat2 W' hW i (by rw [HN.out,← hsl];exact hi));have HTO:=Aside0.mk hto;have E8:=Aside0.mk e8;have HQ8:=Aside0.mk hq8;have HK8:=Aside0.mk hk8;have HB8:=Aside0.mk hb8;clear hto e8 hq8 hk8 hb8 hat2 hC8 hc1' hc2' hw8 z7;refine HTO.out.mono ?_;rintro e w9 ⟨rfl,HC9,HK9⟩;(have hgl:wz.heap.size+1 < wr.heap.size:=by obtain ⟨_,hcb⟩:=HC.out.blk;exact blk_lt hcb);have e9:w9.cell? ⟨w7.heap.size,0,none⟩=some (.int .i64 (en:Int)):=cell_blk (HK9.out.2 _ _ _ _ (by omega) (by have:=HC.out.lt;omega) E8.out (by decide)) rfl;(go_wp2_with fail);have hq9:=HK9.out.2 _ _ _ _ m1 m2 HQ8.out (by decide);have hk9:=HK9.out.2 _ _ _ _ m3 hne HK8.out (by decide);have hbx9:=HK9.out.2 _ _ _ _ (by omega) (by have:=HC.out.lt;omega) E8.out (by decide);obtain ⟨en',hen'⟩ : ∃ en',en=en'+1:=⟨en - 1,by omega⟩;(have hbx9':w9.heap[w7.heap.size]? = some (.cells #[.int .i64 ((en':Int)+1)] 3 (0,0)):=by rw [hbx9,hen'];rfl);have hat3:=hat3_of (w:=w) (g:=wz.heap.size+1) (gs:=wz.heap.size) hq9 hbx9' HR2.out HC9.out.bel (by have:=HBr.out.size;omega) HBr.out.size m1 m2 (by omega) (by have:=HC.out.lt;omega) HL.out HV.out (by omega:en' < m) (by omega);(have hlen9:(colK ms k).length=n:=by rw [colK,List.length_map,HN.out]);have hol9:=cutOut_len false st.1 (k:Int) st.2.1 (colK ms k) st.2.2;have hto:=cut_toF 76 _ Tryz.func76 (by kernel_rfl) rfl #[.pointer (some ⟨w.heap.size+1,0,none⟩), .pointer (some ⟨w7.heap.size,0,none⟩)] w w9 w.heap.size (wz.heap.size+1) wz.heap.size true (k:Int) (en:Int) (colK ms k) ((colK ms en').map (· + 1)) _ HC9.out rfl (by rw [List.length_map,colK,colK,List.length_map,List.length_map]) (by omega) (by omega) (fun W' hW i hi=>hat3 W' hW i (by rw [HN.out,← hlen9];exact hi));have HTO3:=Aside0.mk hto;have HQ9:=Aside0.mk hq9;have HKB9:=Aside0.mk hk9;have HX9:=Aside0.mk hbx9;clear hto hq9 hk9 hbx9 hbx9' hat3 e9;refine HTO3.out.mono ?_;rintro e w10 ⟨rfl,HC10,HK10⟩;have hq10:=HK10.out.2 _ _ _ _ m1 m2 HQ9.out (by decide);have hk10:=HK10.out.2 _ _ _ _ m3 hne HKB9.out (by decide);have hx10:=HK10.out.2 _ _ _ _ (by omega) (by have:=HC.out.lt;omega) HX9.out (by decide);have ex10:w10.cell? ⟨w7.heap.size,0,none⟩=some (.int .i64 (en:Int)):=cell_blk hx10 rfl;have ek10:w10.cell? ⟨gk,0,none⟩=some (.int .i64 (k:Int)):=cell_blk hk10 rfl;have fk10:w10.frozen? ⟨gk,0,none⟩=false:=frozen_of_row _ _ _ _ _ hk10;(have ep:(en:Int) - 1=(en':Int):=by omega);have HEP:=Aside0.mk hen';have HQ10:=Aside0.mk hq10;have HK10b:=Aside0.mk hk10;clear hen' hq10 hk10 hx10;have hk10c:=HK10b.out;go_wp2
       go_roundg (m - en)
       (case measure=>omega)
       case rel =>
        have HG3:=HG2.out;(rw [show en - 1=en' from by have:=HEP.out;omega] at HG3);have hsz:w.heap.size≤gk:=hgk;have hs10:w8.heap.size≤w10.heap.size:=Nat.le_trans HK9.out.1 HK10.out.1;have hs8:wr.heap.size≤w8.heap.size:=HB8.out.size;have hq8:=far_keep HQ4.out HB8.out;have p1:=blk_neA hq8 (HC.out.below HB8.out hwz).blk.choose_spec (by decide);have p2:=blk_neA hq8 (HC.out.below HB8.out hwz).blks.choose_spec (by decide);have hq10:=HK10.out.2 _ _ _ _ p1 p2 (HK9.out.2 _ _ _ _ p1 p2 hq8 (by decide)) (by decide);have p3:=blk_neA hq10 hk10c (by decide);have p4:=blk_neA HQ10.out hk10c (by decide);(have hsc:(w10.setCell ⟨gk,0,none⟩ (.int .i64 (en':Int))).heap.size=w10.heap.size:=by simp [World.setCell]);have hal:Below (w10.setCell ⟨gk,0,none⟩ (.int .i64 (en':Int))).heap.size (w10.setCell ⟨gk,0,none⟩ (.int .i64 (en':Int))) ((w10.setCell ⟨gk,0,none⟩ (.int .i64 (en':Int))).alloc (.cells #[.int .i64 ((en':Int)+1)] 3)):=(Below.refl _ _).alloc (Nat.le_refl _) _;have hbk:=blk_new (w10.setCell ⟨gk,0,none⟩ (.int .i64 (en':Int))) (.cells #[.int .i64 ((en':Int)+1)] 3);(rw [hsc] at hbk);refine ⟨en,w10.heap.size,r,_,rfl,by omega,by omega,⟨HG3⟩,⟨by rw [hbk,HEP.out];rfl⟩,by have:=HC.out.lt;omega,by omega,⟨(HC10.out.setbox hk10c hne hsz _).below hal (by rw [hsc];omega)⟩,⟨far_keep (set_keepA hq10 p3 _) hal⟩,⟨by rw [← HN.out];exact far_keep (set_keepA HQ10.out p4 _) hal⟩,by show ((colK ms en').map (· + 1)).length=n;rw [List.length_map,colK,List.length_map,HN.out],?_⟩;have c1:=cutOut_len true (k:Int) (en:Int) (colK ms k) ((colK ms en').map (· + 1)) (cutOut false st.1 (k:Int) st.2.1 (colK ms k) st.2.2);have c2:=cutOut_len false st.1 (k:Int) st.2.1 (colK ms k) st.2.2;show (cutOut true (k:Int) (en:Int) (colK ms k) ((colK ms en').map (· + 1)) (cutOut false st.1 (k:Int) st.2.1 (colK ms k) st.2.2)).length≤2 * en;omega
    ·
     (have hkm:k=m:=by omega);subst hkm;have g1:decide ((k:Int) < (k:Int))=false:=decide_eq_false (by omega);have hst:=HG.out;(rw [alignGo_end] at hst)
     have hF:Aside0 (alignF k sizes ms=cutOut false st.1 (k:Int) st.2.1 sizes st.2.2):=⟨by
      rw [alignF,HN.out,HFIN.out,← hst];rfl⟩
     obtain ⟨cs1,hc1'⟩:=HC.out.blk;obtain ⟨cs2,hc2'⟩:=HC.out.blks;have p1:=blk_neA HQ4.out hc1' (by decide);have p2:=blk_neA HQ4.out hc2' (by decide);have hq4:=HQ4.out;(rw [← HN1.out] at hq4);have hwg:w.heap.size≤wz.heap.size:=HBr.out.size;have hto:=cut_toF 77 _ Tryz.func77 (by kernel_rfl) rfl #[.pointer (some ⟨w.heap.size,0,none⟩)] w wr w.heap.size (wz.heap.size+1) wz.heap.size false st.1 (k:Int) st.2.1 sizes st.2.2 HC.out rfl (by rw [hsl,HN1.out]) (by omega) (by omega) (fun W' hW i hi=>align_at4 w.heap.size A1 c1 sizes i W' (cell_blk ((hW.2 _ (blk_lt hq4) p1 p2).trans hq4) rfl) ((Kd.heap_int _).C (fun j hj=>(hW.2 j (Nat.lt_of_lt_of_le hj HBw.out.size) (by omega) (by omega)).trans (HBw.out.block j hj)) HR1.out) (by rw [HN1.out,← hsl];exact hi));have HTO:=Aside0.mk hto;clear hto hst hc1' hc2' hq4;(go_wp2_with fail);refine HTO.out.mono ?_;rintro e w10 ⟨rfl,HC10,HK10⟩;obtain ⟨vo,j1,j2,j3,j4,j5,j6⟩:=HC10.out;have c2:w10.cell? ⟨wz.heap.size+1,2,none⟩=some vo:=cell_blk j1 rfl;have J5:=Aside0.mk j5;have J6:=Aside0.mk j6;clear j1 j3 j5 j6;go_wp2;go_ret2;exact ⟨vo,rfl,by rw [hF.out];exact J5.out,J6.out⟩
theorem mx_le {a b:Int} (h:a≤b):mx a b=b:=by unfold mx;split <;> omega
theorem mx_ge {a b:Int} (h:b≤a):mx a b=a:=by unfold mx;split <;> omega
theorem may_fits_l0 {p ss:List ByteArray} {ms:List Int} (hm:ms.length≤1000000) : ∀ (r i k lo:Nat),i+r=ms.length→r+1≤k→Fits p (ms.drop i) (ss.drop i) lo→align_may.l0 k ms (ms.length:Int) (p.length:Int) ((lo:Int) - 1) ms (ms.length:Int) (i:Int)=some true
 | 0,i,k+1,lo,hi,hk,hF=>by
  rw [align_may.l0,if_neg (by omega),if_pos rfl];simp
 | r+1,i,k+1,lo,hi,hk,hF=>by
  (have hil:i < ms.length:=by omega)
  have hsl:i < ss.length:=by
   have:=hF.len;(rw [List.length_drop,List.length_drop] at this);omega
  (rw [dropCons hil,dropCons hsl] at hF);rw [align_may.l0,if_pos (by omega),if_pos (by omega),if_pos (by omega),rdN hil,gw1 (by omega)]
  rcases hF with ⟨h,hF⟩ | ⟨q,h,h1,h2,h3⟩
  (· rw [h,if_neg (by omega),if_neg (by omega),if_neg (by omega),mx_ge (by omega)];exact may_fits_l0 hm r (i+1) k lo (by omega) (by omega) hF);(· have hq:=(List.getElem?_eq_some_iff.1 h2).1;rw [h,if_neg (by omega),if_neg (by omega),if_pos (by omega),if_neg (by omega),mx_le (by omega)];have:=may_fits_l0 hm r (i+1) k (q+1) (by omega) (by omega) h3;(rw [show (((q+1:Nat):Int) - 1)=(q:Int) by omega] at this);exact this)
theorem may_fits {p ss:List ByteArray} {ms:List Int} (hm:ms.length≤1000000) (hF:Fits p ms ss 0) (k:Nat) (hk:ms.length+1≤k):align_may.f k ms (ms.length:Int) (p.length:Int)=some true:=by
 have:=may_fits_l0 hm ms.length 0 k 0 (by omega) hk hF;exact this
end Go.Proofs.YtbbhdbeaikclcaaGreat.X
