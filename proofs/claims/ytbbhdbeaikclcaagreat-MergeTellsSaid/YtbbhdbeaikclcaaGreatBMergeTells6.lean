/-
  Parts of one proof, one behind the other: XGives, XConcatS, XConcat, XRefM, XDiffer, XPick1, XAlign1, XAlign2, XLcs1, XLcs2, XOpen, XRange, XIntern1, XIntern2, XShelf, XStr1, XMn1, XUnion, XPiece, XContains, XMay, XAlign3, XParts, XNormal.
-/
import Derived.Test.YtbbhdbeaikclcaaGreatBMergeTells5
import Derived.IntWalk
import Derived.Lib.Strings
import Derived.BigRegion
import Derived.WalkMore
import Derived.Handy
import Derived.Lib.SliceRun
import Derived.Lib.Hide
import Derived.Outline
import Derived.OpenShut
import Derived.ProofKit
import Derived.Deep.Slices
import Derived.SizedLaws
import Derived.Lib.SmallJoins
import Derived.RangeFuncNested
import Derived.RangeFuncBound
import Derived.RangeFuncCalls
import Derived.RangeFuncLeaves
import Derived.RangeFuncOwn
import Derived.Maps.Own
import Derived.Maps.OwnSet
import Derived.Maps.OwnOps
import Derived.OwnWalk
import Derived.RangeFuncRecord
import Derived.Laws.LoneSync
import Derived.Shelf.Strings.Search1
import Derived.Shelf.Strings.Search2
import Derived.Shelf.Strings.Search3
import Derived.Shelf.LaysM
import Derived.Shelf.Strings.Shaped
import Derived.Shelf.Strings.Prefix
import Derived.Shelf.Bits.Mul64
import Derived.Shelf.Slices.Equal
import Derived.Ground.Names2Prog
import Derived.Shelf.Slices.Clone
import Derived.Shelf.Slices.Empties2
import Derived.Test.YtbbhdbeaikclcaaGreatProg
import Derived.Laws.NewBlocks
import Derived.Deep.WholeRow
import Derived.Deep.MidRow
set_option linter.unusedVariables false
set_option linter.unusedSimpArgs false
set_option maxRecDepth 100000
set_option maxHeartbeats 8000000
namespace Go.Proofs.YtbbhdbeaikclcaaGreat.X
open Go.RowKit Go.Proofs.YtbbhdbeaikclcaaGreatW.PrintWords Go.Proofs.YtbbhdbeaikclcaaGreatW.PrintLast Go.Proofs.YtbbhdbeaikclcaaGreatW.PrintMore
section
variable {α β:Type} {f g:Nat→Option α} {c:Nat→Option β} {r r':α} {t:β}
def Gives (f:Nat→Option α) (r:α):Prop := ∃ K,∀ k,K≤k→f k=some r
theorem Gives.pure (h : ∀ k,f k=some r):Gives f r:=⟨0,fun k _=>h k⟩
theorem Gives.of (h : ∀ k,f (k+1)=some r):Gives f r:=⟨1,fun k hk=>by obtain⟨j,rfl⟩ : ∃ j,k=j+1:=⟨k - 1,by omega⟩;exact h j⟩
theorem Gives.step (hg:Gives g r) (h : ∀ k,f (k+1)=g k):Gives f r:=by
 obtain⟨K,hK⟩:=hg;exact⟨K+1,fun k hk=>by obtain⟨j,rfl⟩ : ∃ j,k=j+1:=⟨k - 1,by omega⟩;rw[h j];exact hK j (by omega)⟩
theorem Gives.same (hg:Gives g r) (h : ∀ k,f k=g k):Gives f r:=by
 obtain⟨K,hK⟩:=hg;exact⟨K,fun k hk=>by rw[h k];exact hK k hk⟩
theorem Gives.call (hc:Gives c t) (hg:Gives g r) (h : ∀ k,c k=some t→f (k+1)=g k):Gives f r:=by
 obtain⟨K,hK⟩:=hg;obtain⟨C,hC⟩:=hc;exact⟨K+C+1,fun k hk=>by obtain⟨j,rfl⟩ : ∃ j,k=j+1:=⟨k - 1,by omega⟩;rw[h j (hC j (by omega))];exact hK j (by omega)⟩
theorem Gives.call0 (hc:Gives c t) (hg:Gives g r) (h : ∀ k,c k=some t→f k=g k):Gives f r:=by
 obtain⟨K,hK⟩:=hg;obtain⟨C,hC⟩:=hc;exact⟨K+C,fun k hk=>by rw[h k (hC k (by omega))];exact hK k (by omega)⟩
theorem Gives.last (hc:Gives c t) (h : ∀ k,c k=some t→f (k+1)=some r):Gives f r:=by
 obtain⟨C,hC⟩:=hc;exact⟨C+1,fun k hk=>by obtain⟨j,rfl⟩ : ∃ j,k=j+1:=⟨k - 1,by omega⟩;exact h j (hC j (by omega))⟩
theorem Gives.last0 (hc:Gives c t) (h : ∀ k,c k=some t→f k=some r):Gives f r:=by
 obtain⟨C,hC⟩:=hc;exact⟨C,fun k hk=>h k (hC k hk)⟩
theorem Gives.eq (h:Gives f r) (e:r=r'):Gives f r':=e ▸ h
end
theorem gw {x:Int} (h : -9223372036854775808≤x) (h2:x < 9223372036854775808):wrap64 x=x:=by
 unfold wrap64;omega
theorem gw1 {i:Nat} (h:i < 4611686018427387904):wrap64 ((i:Int)+1)=((i+1:Nat):Int):=by
 (rw[gw (by omega) (by omega)];omega)
theorem getN {α:Type} {d:α} {L:List α} {i:Nat} (h:i < L.length):L.getD (i:Int).toNat d=L[i]:=by
 simp[h]
theorem rdOfN {α:Type} {d:α} {L:List α} {i:Nat} (h:i < L.length):rdOf d L (i:Int)=L[i]:=by
 simp[rdOf,h]
theorem rdN {L:List Int} {i:Nat} (h:i < L.length):rd L (i:Int)=L[i]:=by
 simp[rd,h]
theorem btN {s:ByteArray} {i:Nat} (h:i < s.size):bt s (i:Int)=((s.data.toList[i]'(by simpa using h)).toNat:Int):=by
 (simp[bt,h];rfl)
theorem strEq {a b:ByteArray}:a.toList=b.toList↔a=b:=by
 constructor;(· intro h;(rw[Lib.toList_data,Lib.toList_data] at h);exact ByteArray.ext (Array.toList_inj.1 h));(· (rintro rfl;rfl))
theorem strBeq {a b:ByteArray}:(a.toList == b.toList)=decide (a=b):=by
 by_cases h:a=b
 (· (subst h;simp));(· rw[decide_eq_false h,beq_eq_false_iff_ne];(exact fun e=>h (strEq.1 e)))
theorem sizeLen (s:ByteArray):s.size=s.data.toList.length:=by simp
theorem dropCons {α:Type} {l:List α} {i:Nat} (h:i < l.length):l.drop i=l[i] :: l.drop (i+1):=List.drop_eq_getElem_cons h
set_option maxHeartbeats 2000000 in
theorem grow_strs (w0 w:World) (n:Nat) (hn:n≤1000000) (hw:Below w0.heap.size w0 w) :
    Calls Tryz.prog 117 #[.slice none 0 0, .int .i64 (n:Int)] w fun e w' => ∃ v,e = .returned v∧Aside0 (Kd.string.R 9 w' w.heap.size (fun _=>True) v [])∧Aside0 (Below w.heap.size w w'):=by
 by_cases h0:n=0
 (· subst h0;go_enter Tryz.func117,Tryz.ntmps117;go_wp2;go_ret;exact⟨_,rfl,⟨Kd.R_nil _ _ _ _ _⟩,⟨Below.refl _ _⟩⟩)
 ·
  have d0:decide ((n:Int) < 0)=false:=decide_eq_false (by omega);have d1:decide (0 < (n:Int))=true:=decide_eq_true (by omega);have d2:decide (0 < n)=true:=decide_eq_true (by omega);go_enter Tryz.func117,Tryz.ntmps117
  go_wp2_with (first
   | (at_builtin;refine Kd.R_append_zeros Kd.string (w0:=w) w.heap.size rfl (.tmp 20) (.tmp 21) 22 3 9 (.string ⟨#[]⟩) 16 rfl Tryz.underlying22 Tryz.underlying3 info9 rfl (by decide) (by decide) (.slice none 0 0) [] ByteArray.empty (kx := .i64) (n:Int) (fun _=>True) rfl rfl rfl (fun _ _=>trivial) (Kd.R_nil _ _ _ _ _) (by omega) (Below.refl _ _) (Nat.le_refl _) (by simp;omega) ?_;intro v1 w1 ho1 hb1 hg1 hat1;obtain⟨A1,c1,hv1⟩:=Kd.R_slice ho1;subst hv1;have HO1:=Aside0.mk (Kd.R_take ho1 (Nat.zero_le _));have HB1:=Aside0.mk hb1;have hlen:([] ++ List.replicate (n:Int).toNat ByteArray.empty).length=n:=(by simp);rw[hlen];clear ho1 hb1 hg1 hat1 hlen))
  go_ret;exact⟨_,rfl,⟨by simpa using HO1.out⟩,HB1⟩
set_option maxHeartbeats 4000000 in
theorem concat_strs (A:Option Addr) (c:Nat) (L:List (List ByteArray)) (w:World) (hC:Kd.C (Kd.slice 9 Kd.string) w A L.length L) (hc:L.length≤c) (hL:L.length≤1000) (hl:L.flatten.length≤1000000) :
    Calls Tryz.prog 105 #[.slice A L.length c] w fun e w' => ∃ v,e = .returned v∧Aside0 (Kd.string.R 9 w' w.heap.size (fun _=>True) v L.flatten)∧Aside0 (Below w.heap.size w w'):=by
 have HC:=Aside0.mk hC;have HL:=Aside0.mk hl
 have hsum : ∀ k,((L.take k).map List.length).sum≤L.flatten.length:=fun k=>by
  have e:L.flatten.length=((L.take k).map List.length).sum+((L.drop k).map List.length).sum:=by
   rw[List.length_flatten,← List.sum_append,← List.map_append,List.take_append_drop]
  omega
 have HSUM:=Aside0.mk hsum;clear hC hl hsum;go_enter Tryz.func105,Tryz.ntmps105;(go_wp2_with fail)
 go_loop [3,5,11] (fun s _ i => ∃ (k:Nat),k≤L.length∧i = .int .i64 k∧s = .int .i64 (((L.take k).map List.length).sum:Nat)) (fun _ _ i=>L.length - (intOf i).toNat)
 (case atStart=>exact⟨0,Nat.zero_le _,rfl,rfl⟩)
 case round =>
  obtain⟨k,hk,rfl,rfl⟩:=hrel;obtain⟨s,hs⟩ : ∃ s,((L.take k).map List.length).sum=s:=⟨_,rfl⟩;(have hsb:s≤1000000:=by have:=HSUM.out k;have:=HL.out;omega);rw[hs];have HS:=Aside0.mk hs;clear hs
  by_cases hlt:k < L.length
  ·
   obtain⟨ad,A5,c5,rfl,hrow,hc5,hC5⟩:=at_slice HC.out k hlt;obtain⟨l,hle⟩ : ∃ l,L.getD k []=l:=⟨_,rfl⟩;(have htk:L.take (k+1)=L.take k ++ [l]:=by rw[← hle,getD_get hlt,List.take_append_getElem hlt]);(rw[hle] at hrow)
   have hs2:((L.take (k+1)).map List.length).sum=s+l.length:=by
    (rw[htk,List.map_append,List.sum_append,HS.out];simp)
   (have hb2:s+l.length≤1000000:=by have:=HSUM.out (k+1);have:=HL.out;omega);have HS2:=Aside0.mk hs2;obtain⟨n,hn⟩ : ∃ n,l.length=n:=⟨_,rfl⟩;(rw[hn] at hrow hb2 HS2);have d0:decide ((s:Int)+(n:Int) < 0)=false:=decide_eq_false (by omega);clear hle htk hs2 hC5 hn;go_wp2;go_round;(case measure=>simp[intOf];omega);(case rel=>exact⟨k+1,by omega,by go_num,by rw[HS2.out];go_num⟩)
  ·
   (have hk':k=L.length:=by omega);subst hk';(rw[List.take_length,← List.length_flatten] at HS);have hs':=HS.out;subst hs';clear HS;obtain⟨n,hn⟩ : ∃ n,L.flatten.length=n:=⟨_,rfl⟩;(rw[hn] at hsb HL ⊢);have HN:=Aside0.mk hn;clear hn;(go_wp2_with fail);refine(grow_strs w _ n hsb (Below.refl _ _)).mono ?_;rintro e w1 ⟨v1,rfl,HR1,HB1⟩;obtain⟨A1,c1,rfl⟩:=Kd.R_slice HR1.out;(go_wp2_with fail)
   go_loopw [6,8,27] (fun v0 _ i wr => ∃ (k:Nat) (Ao:Option Addr) (co m:Nat),v0 = .slice Ao m co∧k≤L.length∧i = .int .i64 k∧Aside0 (Kd.string.R 9 wr w.heap.size (fun _=>True) (.slice Ao m co) (L.take k).flatten)∧Aside0 (Below w.heap.size w wr)) (fun _ _ i _=>L.length - (intOf i).toNat)
   (case atStart=>exact⟨0,_,_,_,rfl,Nat.zero_le _,rfl,HR1,HB1⟩)
   case round =>
    obtain⟨k,Ao,co,m,rfl,hk,rfl,HR,HB⟩:=hrel
    by_cases hlt:k < L.length
    ·
     obtain⟨ad,A5,c5,rfl,hrow,hc5,hC5⟩:=at_slice HC.out k hlt;obtain⟨l,hle⟩ : ∃ l,L.getD k []=l:=⟨_,rfl⟩;(have htk:(L.take (k+1)).flatten=(L.take k).flatten ++ l:=by rw[← hle,getD_get hlt,← List.take_append_getElem hlt,List.flatten_append];simp);have HTK:=Aside0.mk htk;(rw[hle] at hrow hC5);replace hrow:=(HB.out.cell (World.block_lt_of_cell? w _ hrow)).trans hrow;have HC5:Aside0 (Kd.string.C wr A5 l.length l):=⟨Kd.C_below hC5 HB.out⟩
     have hlim:(L.take k).flatten.length+l.length≤1000000:=by
      have h1:=HSUM.out (k+1);have h2:=HL.out;have h3:=congrArg List.length htk;(rw[List.length_append,List.length_flatten] at h3);(rw[HN.out] at h1);omega
     have HLIM:=Aside0.mk hlim;clear hle htk hC5 hlim
     go_wp2_with (first
      | (at_builtin;refine Kd.R_append_rows Kd.string (Rr:=Kd.string.K wr) (w0:=w) w.heap.size rfl (.tmp 31) (.tmp 32) 22 9 (.string ⟨#[]⟩) 16 rfl Tryz.underlying22 info9 rfl (by decide) (by decide) (.slice Ao m co) (L.take k).flatten l A5 l.length c5 (fun _=>True) (fun _=>False) rfl rfl HR.out HC5.out (fun _ _ h=>h) (fun _ h=>h.elim) (fun _ _=>trivial) HB.out HB.out.size (by have:=HLIM.out;omega) ?_;intro v2 w2 ho2 hb2 hg2 hat2;obtain⟨A2,c2,hv2⟩:=Kd.R_slice ho2;subst hv2;generalize ((L.take k).flatten ++ l).length=m2 at ho2 ⊢;have HO2:=Aside0.mk ho2;have HB2:=Aside0.mk hb2;clear ho2 hb2 hg2 hat2))
     go_roundw;(case measure=>simp[intOf];omega);(case rel=>exact⟨k+1,_,_,_,rfl,by omega,by go_num,by rw[HTK.out];exact HO2,HB2⟩)
    (· (have hk':k=L.length:=by omega);subst hk';(rw[List.take_length] at HR);go_wp2;go_ret;exact⟨_,rfl,HR,HB⟩)
abbrev KS:Kd (List ByteArray):=Kd.slice 9 Kd.string
set_option maxHeartbeats 2000000 in
theorem grow_lists (w0 w:World) (n:Nat) (hn:n≤1000000) (hw:Below w0.heap.size w0 w) :
    Calls Tryz.prog 61 #[.slice none 0 0, .int .i64 (n:Int)] w fun e w' => ∃ v,e = .returned v∧Aside0 ((heldK w0 KS).R 22 w' w.heap.size (fun _=>True) v [])∧Aside0 (Below w.heap.size w w'):=by
 by_cases h0:n=0
 (· subst h0;go_enter Tryz.func61,Tryz.ntmps61;go_wp2;go_ret;exact⟨_,rfl,⟨Kd.R_nil _ _ _ _ _⟩,⟨Below.refl _ _⟩⟩)
 ·
  have d0:decide ((n:Int) < 0)=false:=decide_eq_false (by omega);have d1:decide (0 < (n:Int))=true:=decide_eq_true (by omega);have d2:decide (0 < n)=true:=decide_eq_true (by omega);go_enter Tryz.func61,Tryz.ntmps61
  go_wp2_with (first
   | (at_builtin;refine Kd.R_append_zeros (heldK w0 KS) (w0:=w) w.heap.size rfl (.tmp 20) (.tmp 21) 23 3 22 (.slice none 0 0) 24 rfl Tryz.underlying23 Tryz.underlying3 info22 rfl Nat.zero_lt_one (by decide) (.slice none 0 0) [] [] (kx := .i64) (n:Int) (fun _=>True) rfl rfl (strs_nil _) (fun _ _=>trivial) (Kd.R_nil _ _ _ _ _) (by omega) (Below.refl _ _) (Nat.le_refl _) (by simp;omega) ?_;intro v1 w1 ho1 hb1 hg1 hat1;obtain⟨A1,c1,hv1⟩:=Kd.R_slice ho1;subst hv1;have HO1:=Aside0.mk (Kd.R_take ho1 (Nat.zero_le _));have HB1:=Aside0.mk hb1;have hlen:([] ++ List.replicate (n:Int).toNat ([]:List ByteArray)).length=n:=(by simp);rw[hlen];clear ho1 hb1 hg1 hat1 hlen))
  go_ret;exact⟨_,rfl,⟨by simpa using HO1.out⟩,HB1⟩
set_option maxHeartbeats 4000000 in
theorem concat_lists (A:Option Addr) (c:Nat) (L:List (List (List ByteArray))) (w:World) (hC:Kd.C (Kd.slice 22 KS) w A L.length L) (hc:L.length≤c) (hL:L.length≤1000) (hl:L.flatten.length≤1000000) :
    Calls Tryz.prog 33 #[.slice A L.length c] w fun e w' => ∃ v,e = .returned v∧Aside0 ((heldK w KS).R 22 w' w.heap.size (fun _=>True) v L.flatten)∧Aside0 (Below w.heap.size w w'):=by
 have HC:=Aside0.mk hC;have HL:=Aside0.mk hl
 have hsum : ∀ k,((L.take k).map List.length).sum≤L.flatten.length:=fun k=>by
  have e:L.flatten.length=((L.take k).map List.length).sum+((L.drop k).map List.length).sum:=by
   rw[List.length_flatten,← List.sum_append,← List.map_append,List.take_append_drop]
  omega
 have HSUM:=Aside0.mk hsum;clear hC hl hsum;go_enter Tryz.func33,Tryz.ntmps33;(go_wp2_with fail)
 go_loop [3,5,11] (fun s _ i => ∃ (k:Nat),k≤L.length∧i = .int .i64 k∧s = .int .i64 (((L.take k).map List.length).sum:Nat)) (fun _ _ i=>L.length - (intOf i).toNat)
 (case atStart=>exact⟨0,Nat.zero_le _,rfl,rfl⟩)
 case round =>
  obtain⟨k,hk,rfl,rfl⟩:=hrel;obtain⟨s,hs⟩ : ∃ s,((L.take k).map List.length).sum=s:=⟨_,rfl⟩;(have hsb:s≤1000000:=by have:=HSUM.out k;have:=HL.out;omega);rw[hs];have HS:=Aside0.mk hs;clear hs
  by_cases hlt:k < L.length
  ·
   obtain⟨ad,A5,c5,rfl,hrow,hc5,hC5⟩:=at_slice HC.out k hlt;obtain⟨l,hle⟩ : ∃ l,L.getD k []=l:=⟨_,rfl⟩;(have htk:L.take (k+1)=L.take k ++ [l]:=by rw[← hle,getD_get hlt,List.take_append_getElem hlt]);(rw[hle] at hrow)
   have hs2:((L.take (k+1)).map List.length).sum=s+l.length:=by
    (rw[htk,List.map_append,List.sum_append,HS.out];simp)
   (have hb2:s+l.length≤1000000:=by have:=HSUM.out (k+1);have:=HL.out;omega);have HS2:=Aside0.mk hs2;obtain⟨n,hn⟩ : ∃ n,l.length=n:=⟨_,rfl⟩;(rw[hn] at hrow hb2 HS2);have d0:decide ((s:Int)+(n:Int) < 0)=false:=decide_eq_false (by omega);clear hle htk hs2 hC5 hn;go_wp2;go_round;(case measure=>simp[intOf];omega);(case rel=>exact⟨k+1,by omega,by go_num,by rw[HS2.out];go_num⟩)
  ·
   (have hk':k=L.length:=by omega);subst hk';(rw[List.take_length,← List.length_flatten] at HS);have hs':=HS.out;subst hs';clear HS;obtain⟨n,hn⟩ : ∃ n,L.flatten.length=n:=⟨_,rfl⟩;(rw[hn] at hsb HL ⊢);have HN:=Aside0.mk hn;clear hn;(go_wp2_with fail);refine(grow_lists w _ n hsb (Below.refl _ _)).mono ?_;rintro e w1 ⟨v1,rfl,HR1,HB1⟩;obtain⟨A1,c1,rfl⟩:=Kd.R_slice HR1.out;(go_wp2_with fail)
   go_loopw [6,8,27] (fun v0 _ i wr => ∃ (k:Nat) (Ao:Option Addr) (co m:Nat),v0 = .slice Ao m co∧k≤L.length∧i = .int .i64 k∧Aside0 ((heldK w KS).R 22 wr w.heap.size (fun _=>True) (.slice Ao m co) (L.take k).flatten)∧Aside0 (Below w.heap.size w wr)) (fun _ _ i _=>L.length - (intOf i).toNat)
   (case atStart=>exact⟨0,_,_,_,rfl,Nat.zero_le _,rfl,HR1,HB1⟩)
   case round =>
    obtain⟨k,Ao,co,m,rfl,hk,rfl,HR,HB⟩:=hrel
    by_cases hlt:k < L.length
    ·
     obtain⟨ad,A5,c5,rfl,hrow,hc5,hC5⟩:=at_slice HC.out k hlt;obtain⟨l,hle⟩ : ∃ l,L.getD k []=l:=⟨_,rfl⟩;(have htk:(L.take (k+1)).flatten=(L.take k).flatten ++ l:=by rw[← hle,getD_get hlt,← List.take_append_getElem hlt,List.flatten_append];simp);have HTK:=Aside0.mk htk;(rw[hle] at hrow hC5);replace hrow:=(HB.out.cell (World.block_lt_of_cell? w _ hrow)).trans hrow;have HC5:Aside0 ((heldK w KS).C wr A5 l.length l):=⟨held_C hC5 HB.out⟩
     have hlim:(L.take k).flatten.length+l.length≤1000000:=by
      have h1:=HSUM.out (k+1);have h2:=HL.out;have h3:=congrArg List.length htk;(rw[List.length_append,List.length_flatten] at h3);(rw[HN.out] at h1);omega
     have HLIM:=Aside0.mk hlim;clear hle htk hC5 hlim
     go_wp2_with (first
      | (at_builtin;refine Kd.R_append_rows (heldK w KS) (Rr:=(heldK w KS).K wr) (w0:=w) w.heap.size rfl (.tmp 31) (.tmp 32) 23 22 (.slice none 0 0) 24 rfl Tryz.underlying23 info22 rfl Nat.zero_lt_one (by decide) (.slice Ao m co) (L.take k).flatten l A5 l.length c5 (fun _=>True) (fun _=>False) rfl rfl HR.out HC5.out (fun _ _ h=>h) (fun _ h=>h.elim) (fun _ _=>trivial) HB.out HB.out.size (by have:=HLIM.out;omega) ?_;intro v2 w2 ho2 hb2 hg2 hat2;obtain⟨A2,c2,hv2⟩:=Kd.R_slice ho2;subst hv2;generalize ((L.take k).flatten ++ l).length=m2 at ho2 ⊢;have HO2:=Aside0.mk ho2;have HB2:=Aside0.mk hb2;clear ho2 hb2 hg2 hat2))
     go_roundw;(case measure=>simp[intOf];omega);(case rel=>exact⟨k+1,_,_,_,rfl,by omega,by go_num,by rw[HTK.out];exact HO2,HB2⟩)
    (· (have hk':k=L.length:=by omega);subst hk';(rw[List.take_length] at HR);go_wp2;go_ret;exact⟨_,rfl,HR,HB⟩)
theorem ref_id_l0 (t:List ByteArray) (s:ByteArray) (ht:t.length≤1000000) : ∀ (r i:Nat),i+r=t.length→Gives (fun k=>sennitref02_Id.l0 k t s (i:Int)) (if place s (t.drop i) < (t.drop i).length then t else t ++ [s],((i+place s (t.drop i):Nat):Int))
 | 0,i,hi=>Gives.of fun k=>by
  show sennitref02_Id.l0 (k+1) t s (i:Int)=_;rw[sennitref02_Id.l0,if_neg (by omega),List.drop_of_length_le (by omega)];simp only[Option.bind_some,List.nil_append,List.length_nil,Nat.zero_add];rw[if_pos (by omega),if_pos (by omega),if_neg (by simp[place])];(simp[place];omega)
 | r+1,i,hi=>by
  have ha:=dropCons (l:=t) (i:=i) (by omega)
  by_cases e:t[i]=s
  (· (refine Gives.of fun k=>?_);show sennitref02_Id.l0 (k+1) t s (i:Int)=_;rw[sennitref02_Id.l0,if_pos (by omega),if_pos (by omega),rdOfN (by omega),if_pos (strEq.2 e),ha];simp[place,e])
  ·
   (refine((ref_id_l0 t s ht r (i+1) (by omega)).eq ?_).step fun k=>?_)
   ·
    (rw[ha];simp only[place,if_neg e,List.length_cons])
    congr 1
    ·
     by_cases h:place s (t.drop (i+1)) < (t.drop (i+1)).length
     (· rw[if_pos h,if_pos (by omega)]);(· rw[if_neg h,if_neg (by omega)])
    (· omega)
   (· show sennitref02_Id.l0 (k+1) t s (i:Int)=_;rw[sennitref02_Id.l0,if_pos (by omega),if_pos (by omega),rdOfN (by omega),if_neg (fun h=>e (strEq.1 h)),gw1 (by omega)])
theorem ref_id (t:List ByteArray) (s:ByteArray) (ht:t.length≤1000000):Gives (fun k=>sennitref02_Id.f k t s) (addT t s,((place s t:Nat):Int)):=by
 (refine((ref_id_l0 t s ht t.length 0 (by omega)).eq ?_).same fun k=>rfl);simp[addT]
theorem ref_all_l1 (files:List (List ByteArray)) (i:Nat) (hi:i < files.length) (hf:files.length≤1000) (hl:files[i].length≤100000) (out:List (List Int)) (ho:out.length≤1000) (R:List (List Int)) (T:List ByteArray) (ht:(idsOne T files[i]).1.length≤1000000)
    (hR:Gives (fun k=>sennitref02_All.l0 k files (out ++ [(idsOne T files[i]).2]) (idsOne T files[i]).1 ((i+1:Nat):Int)) R) :
    ∀ (r j:Nat),j+r=files[i].length→Gives (fun k=>sennitref02_All.l1 k files out (idsOne T (files[i].take j)).1 (i:Int) (idsOne T (files[i].take j)).2 (j:Int)) R
  | 0,j,hj=>hR.step fun k=>by
    show sennitref02_All.l1 (k+1) files out _ (i:Int) _ (j:Int)=_
    have e:rd_L1 files (i:Int)=files[i]:=getN hi
    rw[sennitref02_All.l1,if_pos (by omega),if_pos (by omega),e,if_neg (by omega),if_pos (by omega),gw1 (by omega),List.take_of_length_le (by omega)]
  | r+1,j,hj=>by
    have e:rd_L1 files (i:Int)=files[i]:=getN hi
    have hjl:j < files[i].length:=by omega
    have tk:files[i].take (j+1)=files[i].take j ++ [files[i][j]]:=(List.take_append_getElem hjl).symm
    have ih:=ref_all_l1 files i hi hf hl out ho R T ht hR r (j+1) (by omega)
    rw[tk,idsOne_snoc] at ih
    have hle:(idsOne T (files[i].take j)).1.length≤1000000:=by
      have : ∀ (t l k:List ByteArray),(idsOne t l).1.length≤(idsOne t (l ++ k)).1.length:=by
        intro t l
        induction l generalizing t with
        | nil =>
          intro k
          induction k generalizing t with
          | nil=>exact Nat.le_refl _
          | cons s k ih=>exact Nat.le_trans (addT_length t s).1 (ih (addT t s))
        | cons s l ih=>intro k;exact ih (addT t s) k
      have h2:=this T (files[i].take j) (files[i].drop j)
      rw[List.take_append_drop] at h2
      omega
    refine Gives.call (ref_id _ files[i][j] hle) ih fun k hk=>?_
    show sennitref02_All.l1 (k+1) files out _ (i:Int) _ (j:Int)=_
    have hs:(idsOne T (files[i].take j)).2.length=j:=by rw[idsOne_length,List.length_take];omega
    rw[sennitref02_All.l1,if_pos (by omega),if_pos (by omega),e,if_pos (by omega),if_pos (by omega),rdOfN hjl,hk,Option.bind_some,if_pos (by omega),gw1 (by omega)]
theorem ref_all_l0 (files:List (List ByteArray)) (hf:files.length≤1000) (hl : ∀ l ∈ files,l.length≤100000) (ht:(files.map List.length).sum≤1000000) :
    ∀ (r i:Nat),i+r=files.length→Gives (fun k=>sennitref02_All.l0 k files (idsMany [] (files.take i)) (tabOf [] (files.take i)) (i:Int)) (idsMany [] files)
  | 0,i,hi=>Gives.of fun k=>by
    show sennitref02_All.l0 (k+1) files _ _ (i:Int)=_
    rw[sennitref02_All.l0,if_neg (by omega),List.take_of_length_le (by omega)]
  | r+1,i,hi=>by
    have hil:i < files.length:=by omega
    have tk:files.take (i+1)=files.take i ++ [files[i]]:=(List.take_append_getElem hil).symm
    have ih:=ref_all_l0 files hf hl ht r (i+1) (by omega)
    rw[tk,idsMany_snoc,tabOf_snoc] at ih
    have hsum:(idsOne (tabOf [] (files.take i)) files[i]).1.length≤1000000:=by
      have h1:=idsOne_table_le (tabOf [] (files.take i)) files[i]
      have h2 : ∀ (t:List ByteArray) (ls:List (List ByteArray)),(tabOf t ls).length≤t.length+(ls.map List.length).sum:=by
        intro t ls
        induction ls generalizing t with
        | nil=>simp[tabOf]
        | cons l ls ih=>have a:=ih (idsOne t l).1;have b:=idsOne_table_le t l;simp only[tabOf,List.map_cons,List.sum_cons];omega
      have h3:=h2 [] (files.take i)
      have h4:((files.take i).map List.length).sum+files[i].length≤(files.map List.length).sum:=by
        have e:files=files.take i ++ files[i] :: files.drop (i+1):=by rw[← dropCons hil,List.take_append_drop]
        have:=congrArg (fun l=>(l.map List.length).sum) e
        simp only[List.map_append,List.sum_append,List.map_cons,List.sum_cons] at this
        omega
      simp only[List.length_nil] at h3
      omega
    have:=ref_all_l1 files i hil hf (hl _ (List.getElem_mem _)) (idsMany [] (files.take i)) (by rw[idsMany_length,List.length_take];omega) _ _ hsum ih files[i].length 0 (by omega)
    refine this.step fun k=>?_
    show sennitref02_All.l0 (k+1) files _ _ (i:Int)=_
    rw[sennitref02_All.l0,if_pos (by omega)]
    rfl
theorem ref_all (files:List (List ByteArray)) (hf:files.length≤1000) (hl : ∀ l ∈ files,l.length≤100000) (ht:(files.map List.length).sum≤1000000):Gives (fun k=>sennitref02_All.f k files) (idsAll files) :=
  (ref_all_l0 files hf hl ht files.length 0 (by omega)).same fun k=>rfl
abbrev KSs:Kd (List ByteArray):=Kd.slice 9 Kd.string
theorem equal_l0 (a b:List ByteArray) (hl:a.length=b.length) (hm:a.length≤1000000000000) : ∀ (r i:Nat),i+r=a.length→Gives (fun k=>slices_Equal_string_string.l0 k a b (a.length:Int) (i:Int)) (decide (a.drop i=b.drop i))
 | 0,i,hi=>Gives.of fun k=>by
  rw[slices_Equal_string_string.l0,if_neg (by omega)];have e1:a.drop i=[]:=List.drop_eq_nil_of_le (by omega);have e2:b.drop i=[]:=List.drop_eq_nil_of_le (by omega);(rw[e1,e2];rfl)
 | r+1,i,hi=>by
  (have ha:i < a.length:=by omega);(have hb:i < b.length:=by omega);have ih:=equal_l0 a b hl hm r (i+1) (by omega);rw[dropCons ha,dropCons hb]
  by_cases e:a[i]=b[i]
  (· rw[e];have e2:decide (b[i] :: a.drop (i+1)=b[i] :: b.drop (i+1))=decide (a.drop (i+1)=b.drop (i+1)):=decide_eq_decide.2 ⟨fun h=>(List.cons.inj h).2,fun h=>by rw[h]⟩;rw[e2];(refine ih.step fun k=>?_);show slices_Equal_string_string.l0 (k+1) a b _ _=_;rw[slices_Equal_string_string.l0,if_pos (by omega),if_pos (by omega),if_pos (by omega),if_pos (by omega),rdOfN ha,rdOfN hb,if_pos (by rw[e]),gw1 (by omega)]);(· have e2:decide (a[i] :: a.drop (i+1)=b[i] :: b.drop (i+1))=false:=decide_eq_false (fun h=>e (List.cons.inj h).1);rw[e2];(refine Gives.of fun k=>?_);rw[slices_Equal_string_string.l0,if_pos (by omega),if_pos (by omega),if_pos (by omega),if_pos (by omega),rdOfN ha,rdOfN hb,if_neg (fun h=>e (strEq.1 h))])
theorem equal_gives (a b:List ByteArray) (hm:a.length≤1000000000000):Gives (fun k=>slices_Equal_string_string.f k a b) (decide (a=b)):=by
 by_cases hl:a.length=b.length
 (· have h:=equal_l0 a b hl hm a.length 0 (by omega);(refine h.same fun k=>?_);(rw[slices_Equal_string_string.f,if_pos (by rw[hl])];rfl));(· have e:decide (a=b)=false:=decide_eq_false (fun h=>hl (by rw[h]));rw[e];(refine Gives.pure fun k=>?_);rw[slices_Equal_string_string.f,if_neg (by omega)])
theorem slices_equal (a b:List ByteArray) (Aa:Option Addr) (ca:Nat) (Ab:Option Addr) (cb:Nat) (w:World) (ha:Kd.C Kd.string w Aa a.length a) (la:a.length≤ca) (hb:Kd.C Kd.string w Ab b.length b) (lb:b.length≤cb) (hm:a.length≤1000000000000) :
    Calls Tryz.prog 114 #[.slice Aa a.length ca, .slice Ab b.length cb] w fun e w'=>e = .returned (.bool (decide (a=b)))∧Drawn0 w w':=by
 obtain⟨K,hK⟩:=equal_gives a b hm;exact slices_Equal_string_string.calls K Aa ca a Ab cb b _ w ha la hb lb (hK K (Nat.le_refl _))
theorem others_1 (g5 g9:Nat) (y z:List ByteArray) (Ay:Option Addr) (cy:Nat) (Az:Option Addr) (cz:Nat) (w:World) (h5:w.cell? ⟨g5,0,none⟩=some (.func (.func 114) #[] #[])) (h9:w.cell? ⟨g9,0,none⟩=some (.slice Ay y.length cy))
    (hy:Kd.C Kd.string w Ay y.length y) (ly:y.length≤cy) (hz:Kd.C Kd.string w Az z.length z) (lz:z.length≤cz) (hm:y.length≤1000000000000) :
    Calls Tryz.prog 126 #[.slice Az z.length cz, .pointer (some ⟨g5,0,none⟩), .pointer (some ⟨g9,0,none⟩)] w fun e w'=>e = .returned (.bool (decide (y=z)))∧Drawn0 w w':=by
 have HY:=Aside0.mk hy;have HZ:=Aside0.mk hz;obtain⟨q,hq⟩ : ∃ q,decide (y=z)=q:=⟨_,rfl⟩;have HQ:=Aside0.mk hq;clear hy hz;rw[hq];clear hq;go_enter Tryz.func126,Tryz.ntmps126;(go_wp2_with fail);refine(slices_equal y z Ay cy Az cz _ HY.out ly HZ.out lz hm).mono ?_;rintro e w' ⟨rfl,n,rfl⟩;rw[HQ.out];go_wp2;go_ret;exact⟨rfl,⟨_,rfl⟩⟩
def findY (y:List ByteArray) (L:List (List ByteArray)):Int:=match L.findIdx? (fun z=>decide (y=z)) with|some i=>(i:Int)|none => -1
theorem findY_go {y:List ByteArray} {L:List (List ByteArray)} {k:Nat} (hk:k < L.length) (h : ∀ l ∈ L.take k,decide (y=l)=false) (hp:decide (y=L[k])=true):findY y L=(k:Int):=by
 have:L.findIdx? (fun z=>decide (y=z))=some k:=by
  rw[List.findIdx?_eq_some_iff_getElem]
  exact⟨hk,hp,fun j hj=>by
   have:L[j] ∈ L.take k:=by
    (rw[List.mem_take_iff_getElem];exact⟨j,by omega,rfl⟩)
   show ¬ decide (y=L[j])=true
   rw[h _ this];decide⟩
 rw[findY,this]
theorem findY_none {y:List ByteArray} {L:List (List ByteArray)} (h : ∀ l ∈ L,decide (y=l)=false):findY y L = -1:=by
 have:L.findIdx? (fun z=>decide (y=z))=none:=List.findIdx?_eq_none_iff.2 (fun x hx=>h x hx);rw[findY,this]
theorem findY_any (y:List ByteArray) (L:List (List ByteArray)):L.any (fun z=>decide (y=z))=decide (0≤findY y L):=by
 rw[findY]
 cases h:L.findIdx? (fun z=>decide (y=z)) with
 | none =>
  have:=List.findIdx?_eq_none_iff.1 h;show _=false;rw[List.any_eq_false];(exact fun x hx=>by rw[this x hx];decide)
 | some i =>
  obtain⟨hi,h1,_⟩:=List.findIdx?_eq_some_iff_getElem.1 h;have:decide ((0:Int)≤(i:Int))=true:=decide_eq_true (by omega);show _=decide ((0:Int)≤(i:Int));rw[this,List.any_eq_true];exact⟨_,List.getElem_mem hi,h1⟩
set_option maxHeartbeats 2000000 in
theorem index_is (g5 g9:Nat) (y:List ByteArray) (Ay:Option Addr) (cy:Nat) (A:Option Addr) (c:Nat) (L:List (List ByteArray)) (w:World) (h5:w.cell? ⟨g5,0,none⟩=some (.func (.func 114) #[] #[])) (h9:w.cell? ⟨g9,0,none⟩=some (.slice Ay y.length cy))
    (hy:Kd.C Kd.string w Ay y.length y) (ly:y.length≤cy) (hm:y.length≤1000000000000) (hC:Kd.C KSs w A L.length L) (hc:L.length≤c) (hL:L.length≤1000000) :
    Calls Tryz.prog 94 #[.slice A L.length c, .func (.func 126) #[] #[.pointer (some ⟨g5,0,none⟩), .pointer (some ⟨g9,0,none⟩)]] w fun e w'=>e = .returned (.int .i64 (findY y L))∧Drawn0 w w':=by
 have HC:=Aside0.mk hC;have HY:=Aside0.mk hy;have H5:=Aside0.mk h5;have H9:=Aside0.mk h9;clear hC hy h5 h9;obtain⟨R,hR⟩ : ∃ R,findY y L=R:=⟨_,rfl⟩;have HR:=Aside0.mk hR;rw[hR];clear hR;go_enter Tryz.func94,Tryz.ntmps94;(go_wp2_with fail)
 go_loopw [8,5] (fun i _ wr => ∃ (k:Nat),k≤L.length∧i = .int .i64 k∧Aside0 (∀ l ∈ L.take k,decide (y=l)=false)∧Aside0 (Drawn0 w wr)) (fun i _ _=>L.length - (intOf i).toNat)
 (case atStart=>exact⟨0,Nat.zero_le _,rfl,⟨by simp⟩,⟨Drawn0.refl _⟩⟩)
 case round =>
  obtain⟨k,hk,rfl,HF,HD⟩:=hrel
  by_cases hlt:k < L.length
  ·
   obtain⟨ad,A5,c5,rfl,hrow,hc5,hC5⟩:=at_slice HC.out k hlt;obtain⟨n,hn⟩:=HD.out;subst hn;(replace hrow:(w.drewN n).cell? (ad.add k)=some (.slice A5 (L.getD k []).length c5):=by simpa using hrow);obtain⟨l,hle⟩ : ∃ l,L.getD k []=l:=⟨_,rfl⟩;(have hlk:L[k]=l:=by rw[← hle];simp[hlt]);have HLK:=Aside0.mk hlk;(rw[hle] at hrow hc5 hC5);have HC5:Aside0 (Kd.C Kd.string (w.drewN n) A5 l.length l):=⟨Kd.C_drewN hC5 _⟩;have HCY:Aside0 (Kd.C Kd.string (w.drewN n) Ay y.length y):=⟨Kd.C_drewN HY.out _⟩;have H5n:Aside0 ((w.drewN n).cell? ⟨g5,0,none⟩=some (.func (.func 114) #[] #[])):=⟨by simpa using H5.out⟩;have H9n:Aside0 ((w.drewN n).cell? ⟨g9,0,none⟩=some (.slice Ay y.length cy)):=⟨by simpa using H9.out⟩;have Hc5:=Aside0.mk hc5;clear hc5 hC5 hle hlk;obtain⟨q,hq⟩ : ∃ q,decide (y=l)=q:=⟨_,rfl⟩;have HPL:=Aside0.mk hq;clear hq;(go_wp2_with fail);refine(others_1 g5 g9 y l Ay cy A5 c5 _ H5n.out H9n.out HCY.out ly HC5.out Hc5.out hm).mono ?_;rintro e' w' ⟨rfl,n2,rfl⟩;rw[HPL.out]
   cases q with
   | false =>
    go_wp2;go_roundw;(case measure=>simp[intOf];omega)
    case rel=>exact⟨k+1,by omega,by go_num,⟨fun x hx=>by
     (rw[← List.take_append_getElem hlt] at hx)
     rcases List.mem_append.1 hx with hx|hx
     (· exact HF.out x hx)
     ·
      rw[List.mem_singleton.1 hx,HLK.out];exact HPL.out⟩,⟨by first|exact⟨_,rfl⟩|exact⟨_,World.drewN_drewN _ _ _⟩⟩⟩
   | true =>
    have HFK:Aside0 (R=(k:Int)):=⟨HR.out.symm.trans (findY_go hlt HF.out (by rw[HLK.out];exact HPL.out))⟩;go_wp2;go_ret;exact⟨by rw[HFK.out];rfl,by first|exact⟨_,rfl⟩|exact⟨_,World.drewN_drewN _ _ _⟩⟩
  (· (have hk':k=L.length:=by omega);subst hk';(rw[List.take_length] at HF);have HFN:Aside0 (R = -1):=⟨HR.out.symm.trans (findY_none HF.out)⟩;have HD':=HD.out;go_wp2;go_ret;exact⟨by rw[HFN.out];rfl,HD'⟩)
set_option maxHeartbeats 2000000 in
theorem contains_is (g5 g9:Nat) (y:List ByteArray) (Ay:Option Addr) (cy:Nat) (A:Option Addr) (c:Nat) (L:List (List ByteArray)) (w:World) (h5:w.cell? ⟨g5,0,none⟩=some (.func (.func 114) #[] #[])) (h9:w.cell? ⟨g9,0,none⟩=some (.slice Ay y.length cy))
    (hy:Kd.C Kd.string w Ay y.length y) (ly:y.length≤cy) (hm:y.length≤1000000000000) (hC:Kd.C KSs w A L.length L) (hc:L.length≤c) (hL:L.length≤1000000) :
    Calls Tryz.prog 65 #[.slice A L.length c, .func (.func 126) #[] #[.pointer (some ⟨g5,0,none⟩), .pointer (some ⟨g9,0,none⟩)]] w fun e w'=>e = .returned (.bool (L.any (fun z=>decide (y=z))))∧Drawn0 w w':=by
 obtain⟨q,hq⟩ : ∃ q,findY y L=q:=⟨_,rfl⟩;have hany:=findY_any y L;(rw[hq] at hany);have HANY:=Aside0.mk hany;have HQ:=Aside0.mk hq;have HC:=Aside0.mk hC;have HY:=Aside0.mk hy;have H5:=Aside0.mk h5;have H9:=Aside0.mk h9;clear hany hq hC hy h5 h9;go_enter Tryz.func65,Tryz.ntmps65;(go_wp2_with fail);refine(index_is g5 g9 y Ay cy A c L _ H5.out H9.out HY.out ly hm HC.out hc hL).mono ?_;rintro e w1 ⟨rfl,n,rfl⟩;rw[HQ.out];go_wp2;go_ret;exact⟨by rw[HANY.out];rfl,⟨_,rfl⟩⟩
def differStep (x:List ByteArray) (out:List (List ByteArray)) (y:List ByteArray):List (List ByteArray):=if decide (y=x)=false∧out.any (fun z=>decide (y=z))=false then out ++ [y] else out
def differF (x:List ByteArray) (l:List (List ByteArray)):List (List ByteArray):=l.foldl (differStep x) []
theorem differF_snoc (x:List ByteArray) (l:List (List ByteArray)) (y:List ByteArray):differF x (l ++ [y])=differStep x (differF x l) y:=by rw[differF,differF,List.foldl_append];rfl
theorem differF_len (x:List ByteArray) : ∀ (n:Nat) (l:List (List ByteArray)),l.length=n→(differF x l).length≤n
 | 0,l,h=>by rw[List.eq_nil_of_length_eq_zero h];exact Nat.le_refl _
 | n+1,l,h=>by
  have e:l=l.take n ++ [l[n]]:=by
   have:=List.take_append_getElem (l:=l) (i:=n) (by omega);rw[this,List.take_of_length_le (by omega)]
  rw[e,differF_snoc];have:=differF_len x n (l.take n) (by rw[List.length_take];omega);unfold differStep;split;(· (rw[List.length_append,List.length_singleton];omega));(· omega)
set_option maxHeartbeats 4000000 in
theorem content_others (P:Nat→Prop) (x:List ByteArray) (Ax:Option Addr) (cx:Nat) (A:Option Addr) (c:Nat) (l:List (List ByteArray)) (w:World) (hx:Kd.C Kd.string w Ax x.length x) (lx:x.length≤cx) (hF:Kd.F KSs w P A l.length l) (hc:l.length≤c) (hn:l.length≤1000000) (hm : ∀ y ∈ l,y.length≤1000000000000) :
    Calls Tryz.prog 113 #[.slice Ax x.length cx, .slice A l.length c, .func (.func 114) #[] #[]] w fun e w' => ∃ v,e = .returned v∧Aside0 (Kd.N KSs 22 w' w.heap.size (fun k=>P k∨w.heap.size≤k) v (differF x l))∧Aside0 (Below w.heap.size w w'):=by
 have HX:=Aside0.mk hx;have HF:=Aside0.mk hF;have HM:=Aside0.mk hm;(have hmf : ∀ (fn:Fn) (first cap:Array Value) (w:World),(Instr.makeFunc fn first cap).run Tryz.prog w = .ok (.func fn first cap) w:=fun _ _ _ _=>rfl);clear hx hF hm;go_enter Tryz.func113,Tryz.ntmps113;(go_wp2_with fail);obtain⟨w1,hw1⟩ : ∃ w1,w.alloc (.cells #[.func (.func 114) #[] #[]] 54)=w1:=⟨_,rfl⟩;have H5:Aside0 (w1.heap[w.heap.size]? = some (.cells #[.func (.func 114) #[] #[]] 54 (0,0))):=⟨by rw[← hw1];exact blk_new _ _⟩;have HB1:Aside0 (Below w.heap.size w w1):=⟨by rw[← hw1];exact newBelow _ _⟩;rw[hw1];clear hw1
 go_loopw [7,13] (fun v iv wr => ∃ (k:Nat) (Ao:Option Addr) (co:Nat),v = .slice Ao (differF x (l.take k)).length co∧iv = .int .i64 k∧k≤l.length∧Aside0 (Kd.N KSs 22 wr w.heap.size (fun k=>P k∨w.heap.size≤k) (.slice Ao (differF x (l.take k)).length co) (differF x (l.take k)))∧Aside0 (wr.heap[w.heap.size]? = some (.cells #[.func (.func 114) #[] #[]] 54 (0,0)))∧Aside0 (Below w.heap.size w wr)) (fun _ iv _=>l.length - (intOf iv).toNat)
 (case atStart=>exact⟨0,_,_,rfl,rfl,Nat.zero_le _,⟨Kd.N_nil _ _ _ _ _⟩,H5,HB1⟩)
 case round =>
  obtain⟨k,Ao,co,rfl,rfl,hk,HO,H5r,HBr⟩:=hrel
  by_cases hlt:k < l.length
  ·
   obtain⟨ad,cs,rfl,hcl,hFK,hcell,_⟩:=Kd.F_get (Kd.F_old HF.out HBr.out) [] (k:Int) (by omega) (by omega);(have hy:l.getD (k:Int).toNat []=l[k]:=by simp[hlt]);have hmy:=HM.out _ (List.getElem_mem hlt);(have htk:differF x (l.take (k+1))=differStep x (differF x (l.take k)) l[k]:=by rw[← List.take_append_getElem hlt,differF_snoc]);obtain⟨y,hye⟩ : ∃ y,l[k]=y:=⟨_,rfl⟩;(rw[hy,hye] at hFK);(rw[hye] at hmy htk);obtain⟨Ay,cy,rfl,ly,hFy⟩:=Kd.FK_slice_open hFK;have xy:=hcell 0 _ rfl;(have kk:(k:Int).toNat=k:=by omega);(rw[kk] at xy)
   replace xy:wr.cell? (ad.add k)=some (.slice Ay y.length cy):=by
    (have e:k * KSs.sz+0=k:=by show k * 1+0=k;omega);(rw[e] at xy;exact xy)
   obtain⟨out,hout⟩ : ∃ out,differF x (l.take k)=out:=⟨_,rfl⟩;(have houl:out.length≤1000000:=by rw[← hout];have:=differF_len x k (l.take k) (by rw[List.length_take];omega);omega);(rw[hout] at HO htk ⊢);have HTK:=Aside0.mk htk;have HFY:=Aside0.mk hFy;have HOUL:=Aside0.mk houl;have HBw:Aside0 (w.heap.size≤wr.heap.size):=⟨HBr.out.size⟩;obtain⟨hon,hoc,hOC⟩:=Kd.N_reads' HO.out;have HOC:=Aside0.mk hOC;clear kk hy hye htk hFK hcell hFy hout hOC;obtain⟨q,hq⟩ : ∃ q,decide (y=x)=q:=⟨_,rfl⟩;have HQ:=Aside0.mk hq;clear hq;(go_wp2_with fail);obtain⟨w2,hw2⟩ : ∃ w2,wr.alloc (.cells #[.slice Ay y.length cy] 22)=w2:=⟨_,rfl⟩;(have g9:w2.heap[wr.heap.size]? = some (.cells #[.slice Ay y.length cy] 22 (0,0)):=by rw[← hw2];exact blk_new _ _);(have hb2:Below wr.heap.size wr w2:=by rw[← hw2];exact newBelow _ _);rw[hw2];refine(others_1 w.heap.size wr.heap.size y x Ay cy Ax cx w2 (cell_blk (farKeep H5r.out hb2) rfl) (cell_blk g9 rfl) (Kd.C_below (Kd.F_now HFY.out) hb2) ly (Kd.C_below HX.out (far_ HBr.out hb2)) lx hmy).mono ?_;rintro e w3' ⟨rfl,n3,hn3⟩;obtain⟨w3,hw3⟩ : ∃ w3,w3=w3':=⟨_,rfl⟩;rw[← hw3];(rw[← hw3] at hn3);have HB3:Aside0 (Below wr.heap.size wr w3):=⟨by rw[hn3];exact pw_below_drewN hb2 n3⟩;have G9:Aside0 (w3.heap[wr.heap.size]? = some (.cells #[.slice Ay y.length cy] 22 (0,0))):=⟨by rw[hn3];simpa using g9⟩;clear hw3 hw2 hb2 g9 hn3 xy;rw[HQ.out];have HW3:Aside0 (Below w.heap.size w w3):=⟨far_ HBr.out HB3.out⟩
   cases q with
   | true =>
    have HT:Aside0 (differF x (l.take (k+1))=out):=⟨by rw[HTK.out,differStep,if_neg (fun h=>by rw[HQ.out] at h;cases h.1)]⟩;go_wp2;go_roundw;(case measure=>simp[intOf];omega);(case rel=>exact⟨k+1,_,_,by rw[HT.out],by go_num,by omega,⟨by rw[HT.out];exact Kd.N_below HO.out HB3.out⟩,⟨farKeep H5r.out HB3.out⟩,HW3⟩)
   | false =>
    obtain⟨q2,hq2⟩ : ∃ q2,out.any (fun z=>decide (y=z))=q2:=⟨_,rfl⟩;have HQ2:=Aside0.mk hq2;clear hq2;(go_wp2_with fail);refine(contains_is w.heap.size wr.heap.size y Ay cy Ao co out w3 (cell_blk (farKeep H5r.out HB3.out) rfl) (cell_blk G9.out rfl) (Kd.C_below (Kd.F_now HFY.out) HB3.out) ly hmy (Kd.C_below HOC.out HB3.out) hoc HOUL.out).mono ?_;rintro e w4' ⟨rfl,n4,hn4⟩;obtain⟨w4,hw4⟩ : ∃ w4,w4=w4':=⟨_,rfl⟩;rw[← hw4];(rw[← hw4] at hn4);have HB4:Aside0 (Below wr.heap.size wr w4):=⟨by rw[hn4];exact pw_below_drewN HB3.out n4⟩;(have z9:w4.cell? ⟨wr.heap.size,0,none⟩=some (.slice Ay y.length cy):=by rw[hn4];simpa using cell_blk G9.out rfl);clear hw4 hn4;rw[HQ2.out];have HW4:Aside0 (Below w.heap.size w w4):=⟨far_ HBr.out HB4.out⟩;have HO4:=Aside0.mk (Kd.N_below HO.out HB4.out)
    cases q2 with
    | true =>
     have HT:Aside0 (differF x (l.take (k+1))=out):=⟨by rw[HTK.out,differStep,if_neg (fun h=>by rw[HQ2.out] at h;cases h.2)]⟩;go_wp2;go_roundw;(case measure=>simp[intOf];omega);(case rel=>exact⟨k+1,_,_,by rw[HT.out],by go_num,by omega,⟨by rw[HT.out];exact HO4.out⟩,⟨farKeep H5r.out HB4.out⟩,HW4⟩)
    | false =>
     have HT:Aside0 (differF x (l.take (k+1))=out ++ [y]):=⟨by rw[HTK.out,differStep,if_pos ⟨HQ.out,HQ2.out⟩]⟩;have HFK:Aside0 (Kd.FK KSs w4 (fun k=>P k∧k < w.heap.size) y [.slice Ay y.length cy]):=⟨Kd.FK_slice_mk ly (Kd.F_below HFY.out HB4.out)⟩;(go_wp2_with (first|(at_builtin;refine Kd.N_append KSs (w0:=w) w.heap.size rfl (.tmp 28) (.tmp 30) 23 22 (.slice none 0 0) 24 rfl Tryz.underlying23 info22 rfl Nat.zero_lt_one (by decide) (.slice Ao out.length co) out y [.slice Ay y.length cy] (fun k=>P k∨w.heap.size≤k) (fun k=>P k∧k < w.heap.size) rfl rfl HFK.out (fun k hk=>⟨.inl hk.1,fun e=>by have:=Kd.N_base HO4.out k e.symm;have:=hk.2;omega⟩) (fun k hk => .inr (Nat.le_trans (Nat.le_trans HBw.out HB4.out.size) hk)) HO4.out (far_ HBr.out HB4.out) (Nat.le_trans HBw.out HB4.out.size) (by have:=HOUL.out;omega) ?_;intro v5 w5 ho5 hb5 hg5 hat5;obtain⟨A5,c5,hv5⟩:=Kd.N_slice ho5;subst hv5;have HO5:=Aside0.mk ho5;have HB5:=Aside0.mk hb5;have HG5:=Aside0.mk hg5;clear ho5 hb5 hg5 hat5)));go_roundw;(case measure=>simp[intOf];omega)
     case rel =>
      have h54:=farKeep H5r.out HB4.out;refine⟨k+1,A5,c5,by rw[HT.out,List.length_append,List.length_singleton],by go_num,by omega,⟨by rw[HT.out];exact HO5.out⟩,⟨(HG5.out.block w.heap.size (blk_lt h54) (Kd.N_ne HO4.out h54 (by decide))).trans h54⟩,HB5⟩
  (· (have hk':k=l.length:=by omega);subst hk';(rw[List.take_length] at HO ⊢);go_wp2;go_ret;exact⟨_,rfl,HO,HBr⟩)
set_option maxHeartbeats 2000000 in
theorem content_Differing (P:Nat→Prop) (x:List ByteArray) (Ax:Option Addr) (cx:Nat) (A:Option Addr) (c:Nat) (l:List (List ByteArray)) (w:World) (hx:Kd.C Kd.string w Ax x.length x) (lx:x.length≤cx) (hF:Kd.F KSs w P A l.length l) (hc:l.length≤c) (hn:l.length≤1000000) (hm : ∀ y ∈ l,y.length≤1000000000000) :
    Calls Tryz.prog 102 #[.slice Ax x.length cx, .slice A l.length c] w fun e w' => ∃ v,e = .returned v∧Aside0 (Kd.N KSs 22 w' w.heap.size (fun k=>P k∨w.heap.size≤k) v (differF x l))∧Aside0 (Below w.heap.size w w'):=by
 have HX:=Aside0.mk hx;have HF:=Aside0.mk hF;have HM:=Aside0.mk hm;clear hx hF hm;go_enter Tryz.func102,Tryz.ntmps102;(go_wp2_with fail);refine(content_others P x Ax cx A c l _ HX.out lx HF.out hc hn HM.out).mono ?_;rintro e w1 ⟨v,rfl,HN,HB⟩;go_wp2;go_ret;exact⟨_,rfl,HN,HB⟩
abbrev Piece:=S66
def cleanB (l:List Piece):Bool := !l.any (fun p=>p.f0)
def chosen (side:Int) (p:Piece):List ByteArray:=if p.f0=false then p.f1 else if 1≤side∧side≤(p.f3.length:Int) then p.f3.getD (side - 1).toNat [] else []
def chooseF (l:List Piece) (side:Int):List ByteArray:=(l.map (chosen side)).flatten
def ChIn (w0 W:World) (B gb gs:Nat) (side:Int) (out:List ByteArray):Prop :=
  ∃ vo,W.heap[gb]? = some (.cells #[vo] 22 (0,0))∧B≤gb∧W.heap[gs]? = some (.cells #[.int .i64 side] 3 (0,0))∧Kd.R Kd.string 9 W B (fun _=>True) vo out∧Below B w0 W
theorem ChIn.below {w0 W W':World} {B gb gs:Nat} {side:Int} {out:List ByteArray} (h:ChIn w0 W B gb gs side out) (hb:Below W.heap.size W W') (hB:B≤W.heap.size):ChIn w0 W' B gb gs side out:=by
 obtain⟨vo,q1,q2,q3,q4,q5⟩:=h;exact⟨vo,farKeep q1 hb,q2,farKeep q3 hb,Kd.R_below q4 hb,q5.trans (hb.mono hB)⟩
theorem ChIn.bel {w0 W:World} {B gb gs:Nat} {side:Int} {out:List ByteArray} (h:ChIn w0 W B gb gs side out):Below B w0 W:=by
 (obtain⟨vo,q1,q2,q3,q4,q5⟩:=h;exact q5)
abbrev KIa:Kd (List Int):=Kd.slice 3 (Kd.int .i64)
def stableB (ms:List (List Int)) (k:Nat):Bool:=ms.all (fun l=>decide (0≤l.getD k 0))
def joinB (ms:List (List Int)) (k:Nat):Bool:=ms.all (fun l=>decide (0≤l.getD k 0∧l.getD k 0=l.getD (k - 1) 0+1))
def runGo (m:Nat) (ms:List (List Int)):Nat→Nat→Nat
  | 0,at_=>at_
  | r+1,at_=>if at_ < m∧joinB ms at_=true then runGo m ms r (at_+1) else at_
def runF (m:Nat) (ms:List (List Int)) (from_:Nat):Nat:=runGo m ms (m - from_) (from_+1)
def AllLen (ms:List (List Int)) (m:Nat):Prop := ∀ l ∈ ms,l.length=m
set_option maxHeartbeats 2000000 in
theorem align_stable (g:Nat) (A:Option Addr) (c:Nat) (ms:List (List Int)) (m k:Nat) (w:World) (hg:w.cell? ⟨g,0,none⟩=some (.slice A ms.length c)) (hC:Kd.C KIa w A ms.length ms) (hl:AllLen ms m) (hk:k < m) (hm:m≤1000000) (hn:ms.length≤1000000) :
    Calls Tryz.prog 72 #[.int .i64 (k:Int), .pointer (some ⟨g,0,none⟩)] w fun e w'=>e = .returned (.bool (stableB ms k))∧Drawn0 w w':=by
 have HC:=Aside0.mk hC;have HL:=Aside0.mk hl;clear hC hl;obtain⟨R,hR⟩ : ∃ R,stableB ms k=R:=⟨_,rfl⟩;have HR:=Aside0.mk hR;rw[hR];clear hR;go_enter Tryz.func72,Tryz.ntmps72;(go_wp2_with fail)
 go_loopw [8] (fun s8 wr => ∃ (j:Nat),s8 = .int .i64 j∧j≤ms.length∧Aside0 (∀ l ∈ ms.take j,0≤l.getD k 0)∧Aside0 (Drawn0 w wr)) (fun s8 _=>ms.length - (intOf s8).toNat)
 (case atStart=>exact⟨0,rfl,Nat.zero_le _,⟨by simp⟩,⟨Drawn0.refl _⟩⟩)
 case round =>
  obtain⟨j,rfl,hj,HP,HD⟩:=hrel
  by_cases hj':j < ms.length
  ·
   have d1:decide ((j:Int) < (ms.length:Int))=true:=decide_eq_true (by omega);have d2:decide (j < ms.length)=true:=decide_eq_true hj';obtain⟨n,hn0⟩:=HD.out.out;subst hn0;have hCr:=Kd.C_drewN HC.out n;obtain⟨ad,Al,cl,rfl,xl,hcl,kcl⟩:=at_slice hCr j hj';(have hg0:ms.getD j []=ms[j]:=by simp[hj']);(rw[hg0] at xl hcl kcl);have hlen:=HL.out ms[j] (List.getElem_mem _);obtain⟨l,hl⟩ : ∃ l,ms[j]=l:=⟨_,rfl⟩;have HLJ:=Aside0.mk hl;(rw[hl] at xl hcl kcl hlen);have e1:decide ((k:Int) < (l.length:Int))=true:=decide_eq_true (by omega);have e2:decide (k < l.length)=true:=decide_eq_true (by omega);obtain⟨al,rfl,xk⟩:=at_num kcl k (by omega);have HXK:=Aside0.mk kcl;clear hl hg0 kcl hCr
   by_cases h0:0≤l.getD k 0
   ·
    have f1:decide (l.getD k 0 < 0)=false:=decide_eq_false (by omega);obtain⟨v,hv⟩ : ∃ v,l.getD k 0=v:=⟨_,rfl⟩;have HV:=Aside0.mk hv;(rw[hv] at xk f1 h0);clear hv;go_wp2;go_roundw;(case measure=>simp[intOf];omega)
    case rel=>exact⟨j+1,by go_num,by omega,⟨fun x hx=>by
     (rw[← List.take_append_getElem hj',HLJ.out] at hx)
     rcases List.mem_append.1 hx with hx|hx
     (· exact HP.out x hx)
     ·
      rw[List.mem_singleton.1 hx,HV.out];exact h0⟩,HD⟩
   ·
    have f1:decide (l.getD k 0 < 0)=true:=decide_eq_true (by omega)
    have HF:Aside0 (R=false):=⟨by
     rw[← HR.out,stableB,List.all_eq_false]
     exact⟨ms[j],List.getElem_mem _,by rw[HLJ.out];simpa using h0⟩⟩
    obtain⟨v,hv⟩ : ∃ v,l.getD k 0=v:=⟨_,rfl⟩;(rw[hv] at xk f1 h0);clear hv;go_wp2;go_ret;exact⟨by rw[HF.out];rfl,HD.out⟩
  ·
   have d1:decide ((j:Int) < (ms.length:Int))=false:=decide_eq_false (by omega);have d2:decide (j < ms.length)=false:=decide_eq_false hj'
   have HF:Aside0 (R=true):=⟨by
    rw[← HR.out,stableB,List.all_eq_true];intro x hx;have:=HP.out x (by rw[List.take_of_length_le (by omega)];exact hx)
    simpa using this⟩
   go_wp2;go_ret;exact⟨by rw[HF.out];rfl,HD.out⟩
set_option maxHeartbeats 2000000 in
theorem align_run (A:Option Addr) (c:Nat) (ms:List (List Int)) (m from_:Nat) (w:World) (hC:Kd.C KIa w A ms.length ms) (hc:ms.length≤c) (hl:AllLen ms m) (hv : ∀ l ∈ ms,∀ i, -1≤l.getD i 0∧l.getD i 0≤1000000) (hf:from_ < m) (hm:m≤1000000) (hn:ms.length≤1000000) :
    Calls Tryz.prog 73 #[.int .i64 (m:Int), .slice A ms.length c, .int .i64 (from_:Int)] w fun e w'=>e = .returned (.int .i64 (runF m ms from_:Nat))∧Drawn0 w w':=by
 have HC:=Aside0.mk hC;have HL:=Aside0.mk hl;have HVV:=Aside0.mk hv;clear hC hl hv;obtain⟨R,hR⟩ : ∃ R,runF m ms from_=R:=⟨_,rfl⟩;have HR:=Aside0.mk hR;rw[hR];clear hR;go_enter Tryz.func73,Tryz.ntmps73;(go_wp2_with fail)
 go_step3
 (go_wp2_with fail)
 go_step3
 (go_wp2_with fail)
 go_loopg [7] (m - (from_+1)) (fun g s7 wx => ∃ (at_:Nat),s7 = .int .i64 at_∧at_+g=m∧from_ < at_∧Aside0 (runGo m ms (m+1 - at_) at_=R)∧Aside0 (Drawn0 w wx))
 (case atStart=>exact⟨from_+1,by go_num,by omega,by omega,⟨by rw[← HR.out,runF];congr 1;omega⟩,⟨Drawn0.refl _⟩⟩)
 case round =>
  obtain⟨wo,rfl⟩ : ∃ wq,wq=wr:=⟨_,rfl⟩;obtain⟨at_,rfl,hg,hfa,HI,HD⟩:=hrel
  by_cases ha:at_ < m
  ·
   have a1:decide ((at_:Int) < (m:Int))=true:=decide_eq_true (by omega);have a2:decide (at_ < m)=true:=decide_eq_true ha;(go_wp2_with fail)
   go_loopg [19] ms.length (fun g2 s19 wy => ∃ (j:Nat),s19 = .int .i64 j∧j+g2=ms.length∧Aside0 (∀ l ∈ ms.take j,0≤l.getD at_ 0∧l.getD at_ 0=l.getD (at_ - 1) 0+1)∧Aside0 (Drawn0 w wy))
   (case atStart=>exact⟨0,rfl,by omega,⟨by simp⟩,HD⟩)
   case round =>
    obtain⟨j,rfl,hj,HP,HQ⟩:=hrel
    by_cases hj':j < ms.length
    ·
     have d1:decide ((j:Int) < (ms.length:Int))=true:=decide_eq_true (by omega);have d2:decide (j < ms.length)=true:=decide_eq_true hj';obtain⟨n,hn0⟩:=HQ.out.out;subst hn0;have hCr:=Kd.C_drewN HC.out n;obtain⟨ad,Al,cl,rfl,xl,hcl,kcl⟩:=at_slice hCr j hj';(have hg0:ms.getD j []=ms[j]:=by simp[hj']);(rw[hg0] at xl hcl kcl);have hlen:=HL.out ms[j] (List.getElem_mem _);obtain⟨l,hl⟩ : ∃ l,ms[j]=l:=⟨_,rfl⟩;have HLJ:=Aside0.mk hl;(rw[hl] at xl hcl kcl hlen);obtain⟨p,hp⟩ : ∃ p,at_=p+1:=⟨at_ - 1,by omega⟩;(have hpm:p≤1000000:=by omega);(have e5:at_ < l.length:=by omega);(have e6:p < l.length:=by omega);have e1:decide ((at_:Int) < (l.length:Int))=true:=decide_eq_true (by omega);have e2:decide (at_ < l.length)=true:=decide_eq_true (by omega);have e3:decide ((p:Int) < (l.length:Int))=true:=decide_eq_true (by omega);have e4:decide (p < l.length)=true:=decide_eq_true (by omega);obtain⟨al,rfl,xk⟩:=at_num kcl at_ (by omega);obtain⟨al2,ea,xp⟩:=at_num kcl p (by omega);obtain rfl:=Option.some.inj ea;(have ep:(at_:Int) - 1=(p:Int):=by omega);have HPA:Aside0 (at_ - 1=p):=⟨by omega⟩;have HPB:=Aside0.mk hp;clear hp;clear ea hl hg0 kcl hCr;obtain⟨v,hv⟩ : ∃ v,l.getD at_ 0=v:=⟨_,rfl⟩;obtain⟨u,hu⟩ : ∃ u,l.getD p 0=u:=⟨_,rfl⟩;have HV:=Aside0.mk hv;have HU:=Aside0.mk hu;(rw[hv] at xk);(rw[hu] at xp);clear hv hu
     by_cases h0:0≤v
     ·
      have f1:decide (v < 0)=false:=decide_eq_false (by omega);have hub:=HVV.out ms[j] (List.getElem_mem _) p;(rw[HLJ.out,HU.out] at hub);obtain⟨hub1,hub2⟩:=hub;(have hpm2:(p:Int) < (m:Int):=by omega);(have hpm3:(0:Int)≤(p:Int):=by omega);go_wp2;have ws1:wrap64 (p:Int)=(p:Int):=gw (by omega) (by omega);have ws2:wrap64 (u+1)=u+1:=gw (by omega) (by omega);refine start_ (n:=18) (S:=fun w'=>w'.cell? (al.add at_)=some (.int .i64 v)∧w'.cell? (al.add p)=some (.int .i64 u)) (ds:=[]) (bm_ 18 0) (by kernel_rfl) rfl rfl ⟨xk,xp⟩ (fun hHeld=>?_);refine pq_ (i:=0) (N:=some 23) (bm_ 18 1) ?_;refine pq_ (i:=1) (N:=some 24) (bm_ 18 3) ?_;refine pq_ (i:=2) (N:=some 25) (bm_ 18 7) ?_;refine tq_ (i:=3) (N:=some 26) (bm_ 18 15) hHeld ?_;refine pq_ (i:=4) (N:=some 27) (bm_ 18 31) ?_;refine pq_ (i:=5) (N:=some 28) (bm_ 18 63) ?_;refine pq_ (i:=6) (N:=some 29) (bm_ 18 127) ?_;refine pq_ (i:=7) (N:=some 30) (bm_ 18 255) ?_;refine pq_ (i:=8) (N:=some 31) (bm_ 18 511) ?_;refine pq_ (i:=10) (N:=some 33) (bm_ 18 1535) ?_;refine pq_ (i:=11) (N:=some 34) (bm_ 18 3583) ?_;refine pq_ (i:=12) (N:=some 35) (bm_ 18 7679) ?_
      refine pq_ (i:=13) (N:=some 36) (bm_ 18 15871) ?_;refine tq_ (i:=9) (N:=some 32) (bm_ 18 16383) hHeld ?_;refine tq_ (i:=14) (N:=some 37) (bm_ 18 32767) hHeld ?_;refine pq_ (i:=15) (N:=some 38) (bm_ 18 65535) ?_;refine pq_ (i:=16) (N:=some 39) (bm_ 18 131071) ?_;refine pq_ (i:=17) (N:=some 40) (bm_ 18 262143) ?_;refine done_ (by kernel_rfl) ?_;clear ws1 ws2
      by_cases h1:v=u+1
      ·
       (have g1:(v != u+1)=false:=by simp[h1]);have HST:Aside0 (0≤l.getD at_ 0∧l.getD at_ 0=l.getD (at_ - 1) 0+1):=⟨by rw[HV.out,HPA.out,HU.out];exact⟨h0,h1⟩⟩;clear h1;go_wp2
       go_roundg (ms.length - (j+1))
       (case measure=>omega)
       case rel=>exact⟨j+1,by go_num,by omega,⟨fun x hx=>by
        (rw[← List.take_append_getElem hj',HLJ.out] at hx)
        rcases List.mem_append.1 hx with hx|hx
        (· exact HP.out x hx)
        ·
         rw[List.mem_singleton.1 hx];exact HST.out⟩,⟨⟨⟨_,rfl⟩⟩⟩⟩
      ·
       (have g1:(v != u+1)=true:=by simpa using h1)
       have HF:Aside0 (R=at_):=⟨by
        rw[← HI.out,show m+1 - at_=(m - at_)+1 by omega,runGo,if_neg];rintro⟨_,h2⟩;have:=List.all_eq_true.1 h2 ms[j] (List.getElem_mem _);(rw[HLJ.out,HV.out,HPA.out,HU.out] at this)
        exact h1 (of_decide_eq_true this).2⟩
       go_wp2;(try rw[Exit.noGoto_ret]);go_ret;exact⟨by rw[HF.out];rfl,HQ.out.step _⟩
     ·
      have f1:decide (v < 0)=true:=decide_eq_true (by omega)
      have HF:Aside0 (R=at_):=⟨by
       rw[← HI.out,show m+1 - at_=(m - at_)+1 by omega,runGo,if_neg];rintro⟨_,h2⟩;have:=List.all_eq_true.1 h2 ms[j] (List.getElem_mem _);(rw[HLJ.out,HV.out] at this)
       exact h0 (of_decide_eq_true this).1⟩
      clear ep hlen e3 e4 e6 xp;go_wp2;refine start_ (n:=18) (S:=fun w'=>w'.cell? (al.add at_)=some (.int .i64 v)) (ds:=[]) (bm_ 18 0) (by kernel_rfl) rfl rfl (xk) (fun hHeld=>?_);refine pq_ (i:=0) (N:=some 23) (bm_ 18 1) ?_;refine pq_ (i:=1) (N:=some 24) (bm_ 18 3) ?_;refine pq_ (i:=2) (N:=some 25) (bm_ 18 7) ?_;refine tq_ (i:=3) (N:=some 26) (bm_ 18 15) hHeld ?_;refine pq_ (i:=4) (N:=some 27) (bm_ 18 31) ?_;refine pq_ (i:=5) (N:=some 28) (bm_ 18 63) ?_;refine pu_ (i:=6) (N:=some 29) (bm_ 18 127) ?_;refine pu_ (i:=7) (N:=some 30) (bm_ 18 255) ?_;refine pu_ (i:=8) (N:=some 31) (bm_ 18 511) ?_;refine pu_ (i:=9) (N:=some 32) (bm_ 18 1023) ?_;refine pu_ (i:=10) (N:=some 33) (bm_ 18 2047) ?_;refine pu_ (i:=11) (N:=some 34) (bm_ 18 4095) ?_;refine pu_ (i:=12) (N:=some 35) (bm_ 18 8191) ?_;refine pu_ (i:=13) (N:=some 36) (bm_ 18 16383) ?_
      refine pu_ (i:=14) (N:=some 37) (bm_ 18 32767) ?_;refine pu_ (i:=15) (N:=some 38) (bm_ 18 65535) ?_;refine pu_ (i:=16) (N:=some 39) (bm_ 18 131071) ?_;refine pq_ (i:=17) (N:=some 40) (bm_ 18 262143) ?_;refine done_ (by kernel_rfl) ?_;go_wp2;(try rw[Exit.noGoto_ret]);go_ret;exact⟨by rw[HF.out];rfl,HQ.out.step _⟩
    ·
     have d1:decide ((j:Int) < (ms.length:Int))=false:=decide_eq_false (by omega);have d2:decide (j < ms.length)=false:=decide_eq_false hj'
     have HN:Aside0 (runGo m ms (m+1 - (at_+1)) (at_+1)=R):=⟨by
      rw[← HI.out,show m+1 - at_=(m+1 - (at_+1))+1 by omega,runGo,if_pos];refine⟨ha,List.all_eq_true.2 fun x hx=>?_⟩;have:=HP.out x (by rw[List.take_of_length_le (by omega)];exact hx)
      exact decide_eq_true this⟩
     go_wp2
     go_roundg (m - (at_+1))
     (case measure=>omega);(case rel=>exact⟨at_+1,by go_num,by omega,by omega,HN,HQ⟩)
  ·
   have a1:decide ((at_:Int) < (m:Int))=false:=decide_eq_false (by omega);have a2:decide (at_ < m)=false:=decide_eq_false ha
   have HF:Aside0 (R=at_):=⟨by
    rw[← HI.out,show m+1 - at_=1 by omega,runGo,if_neg (fun h=>ha h.1)]⟩
   go_wp2;(try rw[Exit.noGoto_ret]);go_ret;exact⟨by rw[HF.out];rfl,HD.out⟩
set_option maxHeartbeats 2000000 in
theorem align_at2 (g gk:Nat) (A:Option Addr) (c:Nat) (ms:List (List Int)) (m k i:Nat) (w:World) (hg:w.cell? ⟨g,0,none⟩=some (.slice A ms.length c)) (hgk:w.cell? ⟨gk,0,none⟩=some (.int .i64 (k:Int))) (hC:Kd.C KIa w A ms.length ms) (hl:AllLen ms m) (hk:k < m) (hm:m≤1000000) (hi:i < ms.length) :
    Calls Tryz.prog 75 #[.int .i64 (i:Int), .pointer (some ⟨g,0,none⟩), .pointer (some ⟨gk,0,none⟩)] w fun e w'=>e = .returned (.int .i64 ((ms.getD i []).getD k 0))∧Drawn0 w w':=by
 obtain⟨ad,Al,cl,rfl,xl,hcl,kcl⟩:=at_slice hC i hi;(have hg0:ms.getD i []=ms[i]:=by simp[hi]);have hlen:=hl ms[i] (List.getElem_mem _);(rw[hg0] at xl hcl kcl ⊢);obtain⟨l,hl0⟩ : ∃ l,ms[i]=l:=⟨_,rfl⟩;(rw[hl0] at xl hcl kcl hlen ⊢);obtain⟨al,rfl,xk⟩:=at_num kcl k (by omega);obtain⟨v,hv⟩ : ∃ v,l.getD k 0=v:=⟨_,rfl⟩;(rw[hv] at xk ⊢);have e1:decide ((i:Int) < (ms.length:Int))=true:=decide_eq_true (by omega);have e2:decide (i < ms.length)=true:=decide_eq_true hi;(have e3:k < l.length:=by omega);(have e4:(k:Int) < (l.length:Int):=by omega);clear hg0 hl0 kcl hC hv hlen;go_enter Tryz.func75,Tryz.ntmps75;go_wp2;refine start_ (n:=8) (S:=fun w'=>w'.cell? ⟨g,0,none⟩=some (.slice (some ad) ms.length c)∧w'.cell? ⟨gk,0,none⟩=some (.int .i64 (k:Int))∧w'.cell? (ad.add i)=some (.slice (some al) l.length cl)∧w'.cell? (al.add k)=some (.int .i64 v)) (ds:=[]) (bm_ 8 0) (by kernel_rfl) rfl rfl ⟨hg,hgk,xl,xk⟩ (fun hHeld=>?_);refine pq_ (i:=1) (N:=some 6) (bm_ 8 2) ?_;refine tq_ (i:=0) (N:=some 5) (bm_ 8 3) hHeld ?_;refine pq_ (i:=2) (N:=some 7) (bm_ 8 7) ?_;refine tq_ (i:=3) (N:=some 8) (bm_ 8 15) hHeld ?_;refine tq_ (i:=4) (N:=some 9) (bm_ 8 31) hHeld ?_;refine pq_ (i:=5) (N:=some 10) (bm_ 8 63) ?_;refine tq_ (i:=6) (N:=some 11) (bm_ 8 127) hHeld ?_;refine pq_ (i:=7) (N:=some 4) (bm_ 8 255) ?_;refine done_ (by kernel_rfl) ?_;go_wp2;go_ret;exact⟨rfl,⟨⟨_,rfl⟩⟩⟩
set_option maxHeartbeats 2000000 in
theorem align_at3 (g gk:Nat) (A:Option Addr) (c:Nat) (ms:List (List Int)) (m k i:Nat) (w:World) (hg:w.cell? ⟨g,0,none⟩=some (.slice A ms.length c)) (hgk:w.cell? ⟨gk,0,none⟩=some (.int .i64 ((k:Int)+1))) (hC:Kd.C KIa w A ms.length ms) (hl:AllLen ms m) (hv : ∀ l ∈ ms,∀ i, -1≤l.getD i 0∧l.getD i 0≤1000000) (hk:k < m) (hm:m≤1000000) (hi:i < ms.length) :
    Calls Tryz.prog 76 #[.int .i64 (i:Int), .pointer (some ⟨g,0,none⟩), .pointer (some ⟨gk,0,none⟩)] w fun e w'=>e = .returned (.int .i64 ((ms.getD i []).getD k 0+1))∧Drawn0 w w':=by
 obtain⟨ad,Al,cl,rfl,xl,hcl,kcl⟩:=at_slice hC i hi;(have hg0:ms.getD i []=ms[i]:=by simp[hi]);have hlen:=hl ms[i] (List.getElem_mem _);have hb:=hv ms[i] (List.getElem_mem _) k;(rw[hg0] at xl hcl kcl ⊢);obtain⟨l,hl0⟩ : ∃ l,ms[i]=l:=⟨_,rfl⟩;(rw[hl0] at xl hcl kcl hlen hb ⊢);obtain⟨al,rfl,xk⟩:=at_num kcl k (by omega);obtain⟨v,hv0⟩ : ∃ v,l.getD k 0=v:=⟨_,rfl⟩;(rw[hv0] at xk hb ⊢);have e1:decide ((i:Int) < (ms.length:Int))=true:=decide_eq_true (by omega);have e2:decide (i < ms.length)=true:=decide_eq_true hi;(have e3:k < l.length:=by omega);(have e4:(k:Int) < (l.length:Int):=by omega);(have e5:(0:Int)≤(k:Int):=by omega);clear hg0 hl0 kcl hC hv0 hlen hv;go_enter Tryz.func76,Tryz.ntmps76;go_wp2;have ws1:wrap64 (k:Int)=(k:Int):=gw (by omega) (by omega);have ws2:wrap64 (v+1)=v+1:=gw (by omega) (by omega);refine start_ (n:=10) (S:=fun w'=>w'.cell? ⟨g,0,none⟩=some (.slice (some ad) ms.length c)∧w'.cell? ⟨gk,0,none⟩=some (.int .i64 ((k:Int)+1))∧w'.cell? (ad.add i)=some (.slice (some al) l.length cl)∧w'.cell? (al.add k)=some (.int .i64 v)) (ds:=[]) (bm_ 10 0) (by kernel_rfl) rfl rfl ⟨hg,hgk,xl,xk⟩ (fun hHeld=>?_);refine pq_ (i:=1) (N:=some 6) (bm_ 10 2) ?_;refine tq_ (i:=0) (N:=some 5) (bm_ 10 3) hHeld ?_;refine pq_ (i:=2) (N:=some 7) (bm_ 10 7) ?_;refine tq_ (i:=3) (N:=some 8) (bm_ 10 15) hHeld ?_;refine tq_ (i:=4) (N:=some 9) (bm_ 10 31) hHeld ?_;refine pq_ (i:=5) (N:=some 10) (bm_ 10 63) ?_;refine pq_ (i:=6) (N:=some 11) (bm_ 10 127) ?_;refine tq_ (i:=7) (N:=some 12) (bm_ 10 255) hHeld ?_;refine pq_ (i:=8) (N:=some 13) (bm_ 10 511) ?_;refine pq_ (i:=9) (N:=some 4) (bm_ 10 1023) ?_;refine done_ (by kernel_rfl) ?_;clear ws1 ws2;go_wp2;go_ret;exact⟨rfl,⟨⟨_,rfl⟩⟩⟩
theorem align_at4 (g:Nat) (A:Option Addr) (c:Nat) (sz:List Int) (i:Nat) (w:World) (hg:w.cell? ⟨g,0,none⟩=some (.slice A sz.length c)) (hC:Kd.C (Kd.int .i64) w A sz.length sz) (hi:i < sz.length) :
    Calls Tryz.prog 77 #[.int .i64 (i:Int), .pointer (some ⟨g,0,none⟩)] w fun e w'=>e = .returned (.int .i64 (sz.getD i 0))∧Drawn0 w w':=by
 obtain⟨al,rfl,xk⟩:=at_num hC i hi;obtain⟨v,hv0⟩ : ∃ v,sz.getD i 0=v:=⟨_,rfl⟩;(rw[hv0] at xk ⊢);have e1:decide ((i:Int) < (sz.length:Int))=true:=decide_eq_true (by omega);have e2:decide (i < sz.length)=true:=decide_eq_true hi;clear hC hv0;go_enter Tryz.func77,Tryz.ntmps77;go_wp2;go_ret;exact⟨rfl,Drawn0.refl _⟩
theorem C_none {α:Type} {d:Kd α} {w:World} {n:Nat} {xs:List α} (h:Kd.C d w none n xs):n=0∧xs=[]:=by
 have h1:=h.1
 rcases Nat.eq_zero_or_pos n with h0|h0
 (· subst h0;exact⟨rfl,List.length_eq_zero_iff.1 h1⟩);(· obtain⟨ad,e,_⟩:=h.2.2 h0;cases e)
set_option maxHeartbeats 4000000 in
theorem slices_Clone_int.calls (A0:Option Addr) (c0:Nat) (l0:List Int) (w:World) (hr0:Kd.C (Kd.int .i64) w A0 l0.length l0) (hc0:l0.length≤c0) (hb:l0.length < 17592186044416) :
    Calls Tryz.prog 68 #[.slice A0 l0.length c0] w fun e w' => ∃ v0_:Value,e = .returned v0_∧Kd.R (Kd.int .i64) 3 w' w.heap.size (fun _=>True) v0_ l0∧Below w.heap.size w w':=by
 (have q22 : ∀ (w:World) (a:Option Addr) (n c n' c':Nat),(binOp .eql 72 (.slice a n c) (.slice none n' c')).run Tryz.prog w = .ok (.bool a.isNone) w:=fun w a n c n' c'=>Lib.run_eql_slice_nil w _ _ a n c n' c' Tryz.underlying72)
 cases A0 with
 | none =>
  obtain⟨h0,rfl⟩:=C_none hr0;clear hr0 hb h0;go_enter Tryz.func68,Tryz.ntmps68;go_wp2;go_ret;exact⟨_,rfl,Kd.R_nil _ _ _ _ _,Below.refl _ _⟩
 | some ad =>
  have HR0:=Aside0.mk hr0;have HB:=Aside0.mk (Below.refl w.heap.size w);clear hr0 hc0;have Hb:=Lib.hid hb;clear hb;go_enter Tryz.func68,Tryz.ntmps68;(go_wp2_with (first|((with_reducible refine gate_dst (N:=5) rfl ?_);refine Kd.R_lit (Kd.int .i64) _ 3 ?hg (N:=5) ?hd (xs:=([]:List Int)) (inner:=[]) (ok:=fun _=>True) (okp:=fun _=>True) ?hr ?hp (fun _ hk=>hk) trivial (Below.refl _ _) (Nat.le_refl _) (by simp) ?_;(case hd=>rfl);(case hg=>rfl);(case hr=>first|(go_simp;done)|(go_simp;rfl));(case hp=>exact Reps.none _ _);intro v1 w1 ho_ hb_ hg_ hnew_;have HO1:=Aside0.mk (Kd.R_lower ho_ (below_size bel_));replace HB:=Aside0.mk (below_step bel_ hb_);clear hb_ ho_ hg_ hnew_)|((with_reducible refine gate_builtin (b := .append) (xs:=#[.tmp 5, .tmp 6]) rfl ?_);at_builtin;refine Kd.R_append_rows (Kd.int .i64) (w0:=w) w.heap.size rfl (.tmp 5) (.tmp 6) 72 3 (.int .i64 0) 8 rfl Tryz.underlying72 info3 rfl (by decide) (by omega) v1 [] l0 _ _ _ (fun _=>True) (fun _=>False) rfl rfl ?aO ?aR (fun _ _ h=>h) (fun _ h=>h.elim) ?aF ?aB ?aS ?aL ?_;(case aR=>repeat(first|exact(Kd.C_below HR0.out HB.out)|(with_reducible refine Kd.C_alloc ?_ _)|(with_reducible refine Kd.C_drewN ?_ _)|(with_reducible refine Kd.C_drew ?_)));(case aB=>exact bel_);(case aF=>exact(fun _ _=>trivial));(case aO=>exact(pR_ HO1.out));(case aS=>exact(below_size bel_));(case aL=>(have:=Hb.out;simp;omega));intro v2 w2 ho_ hb_ hg_ hat_;replace HB:=Aside0.mk (hb_);have HO2:=Aside0.mk (ho_);clear HO1;clear ho_ hb_ hg_ hat_)));go_ret;exact⟨_,rfl,HO2.out,HB.out⟩
def pairCells (sa sb st:Value) (d long:Int):Array Value:=#[sa,sb, .int .u32 d, .int .i32 0, .int .u32 0,st, .int .i64 long]
def IsPair (W:World) (base g:Nat) (a b:List Int):Prop :=
  base≤g ∧ ∃ sa sb st d long,W.heap[g]? = some (.cells (pairCells sa sb st d long) 119 (0,0))∧Kd.R (Kd.int .i64) 3 W base (fun k=>k≠g) sa a∧Kd.R (Kd.int .i64) 3 W base (fun k=>k≠g) sb b∧a.length≤2000∧b.length≤2000 ∧
    ((d=0∧st = .slice none 0 0∧long=0)∨(d=1∧Kd.R (Kd.int .u8) 5 W base (fun k=>k≠g) st (stepsOf a b)∧long=lcsL a b))
set_option maxHeartbeats 4000000 in
theorem lcs_New_ok (A0:Option Addr) (c0:Nat) (l0:List Int) (A1:Option Addr) (c1:Nat) (l1:List Int) (w:World) (hr0:Kd.C (Kd.int .i64) w A0 l0.length l0) (hc0:l0.length≤c0) (hr1:Kd.C (Kd.int .i64) w A1 l1.length l1) (hc1:l1.length≤c1) (h0:l0.length≤2000) (h1:l1.length≤2000) :
    Calls Tryz.prog 36 #[.slice A0 l0.length c0, .slice A1 l1.length c1] w fun e w' => ∃ g:Nat,e = .returned (.tuple #[.pointer (some ⟨g,0,none⟩), .int .i64 0])∧IsPair w' w.heap.size g l0 l1∧Below w.heap.size w w':=by
 have HR0:=Aside0.mk hr0;have HC0:=Aside0.mk hc0;have HR1:=Aside0.mk hr1;have HC1:=Aside0.mk hc1;clear hr0 hc0 hr1 hc1;have d1:decide ((2000:Int) < (l0.length:Int))=false:=decide_eq_false (by omega);have d2:decide (2000 < l0.length)=false:=decide_eq_false (by omega);have d3:decide ((2000:Int) < (l1.length:Int))=false:=decide_eq_false (by omega);have d4:decide (2000 < l1.length)=false:=decide_eq_false (by omega);go_enter Tryz.func36,Tryz.ntmps36;(go_wp2_with fail);refine(slices_Clone_int.calls A0 c0 l0 _ HR0.out HC0.out (by omega)).mono ?_;rintro e w1 ⟨v1,rfl,ho1,hb1⟩;obtain⟨Av1,cv1,rfl⟩:=Kd.R_slice ho1;have HO1:=Aside0.mk ho1;have HB1:=Aside0.mk hb1;clear ho1 hb1;(go_wp2_with fail);refine(slices_Clone_int.calls A1 c1 l1 _ (Kd.C_below HR1.out HB1.out) HC1.out (by omega)).mono ?_;rintro e w2 ⟨v2,rfl,ho2,hb2⟩;obtain⟨Av2,cv2,rfl⟩:=Kd.R_slice ho2;have HO2:=Aside0.mk ho2;have HB2:=Aside0.mk hb2;clear ho2 hb2;go_wp2;go_ret2;have hB:Below w.heap.size w w2:=below_step HB1.out HB2.out;have ho1:=Kd.R_mono (Kd.R_bound (Kd.R_below HO1.out HB2.out)) (ok':=fun k=>k≠w2.heap.size) (fun k hk=>by have:=hk.2.2.1;omega);have ho2:=Kd.R_mono (Kd.R_bound (Kd.R_lower HO2.out HB1.out.size)) (ok':=fun k=>k≠w2.heap.size) (fun k hk=>by have:=hk.2.2.1;omega);refine⟨w2.heap.size,rfl,⟨hB.size,_,_,_,_,_,blk_new _ _,Kd.R_alloc ho1 _,Kd.R_alloc ho2 _,h0,h1, .inl ⟨rfl,rfl,rfl⟩⟩,below_alloc hB _⟩
end Go.Proofs.YtbbhdbeaikclcaaGreat.X
namespace Go.Proofs.YtbbhdbeaikclcaaGreat.X
open Go.RowKit Go.Proofs.YtbbhdbeaikclcaaGreatW.PrintWords Go.Deep
def Light {H:Type} (P:Program) (t:TypeId) (d:DataW H):Prop := ∀ n ∈ d.weights P t,n≤140737488351232
def Opens {α:Type} (P:Program) (t:TypeId) (d:Kd α) (good:α→Prop):Prop :=
  ∀ {H:Type} (enc:TypeId × Value→H) (w:World) (fuel:Nat) (cs:List Value) (x:DataW H × List MemPlace),
    DataW.trod enc P w 0 (fun _=>true) true fuel t cs=some x→Light P t x.1 → ∃ y,d.K w y cs∧good y
theorem opens_int {P:Program} {t:TypeId} {k:IntKind} (ht:P.underlying t=some (.int k)):Opens P t (Kd.int k) (fun n=>(Lit.int k n).wf=true):=by
 intro H enc w fuel cs x h _;obtain⟨n,rfl,_,hw⟩:=DataW.trod_int ht h;exact⟨n,rfl,hw⟩
theorem opens_bool {P:Program} {t:TypeId} (ht:P.underlying t=some .bool):Opens P t Kd.bool (fun _=>True):=by
 intro H enc w fuel cs x h _;obtain⟨b,rfl,_⟩:=DataW.trod_bool ht h;exact⟨b,rfl,trivial⟩
theorem opens_string {P:Program} {t:TypeId} (ht:P.underlying t=some .string):Opens P t Kd.string (fun s=>s.size≤140737488351232):=by
 intro H enc w fuel cs x h hl;obtain⟨s,rfl,rfl,hs⟩:=DataW.trod_string ht h;refine⟨s,rfl,?_⟩;have:=hl s.data.toList.length (by simp[DataW.weights]);simpa using this
theorem mem_weightsAll {H:Type} {P:Program} {e:TypeId} {n:Nat} : ∀ {l:List (DataW H)} {d:DataW H},d ∈ l→n ∈ d.weights P e→n ∈ DataW.weightsAll P e l
 | d0 :: l,d,h,hn=>by
  simp only[DataW.weightsAll,List.mem_append]
  rcases List.mem_cons.1 h with rfl|h
  (· exact .inl hn);(· exact .inr (mem_weightsAll h hn))
theorem pick_list {α:Type} {Q:Nat→α→Prop} : ∀ n:Nat,(∀ i,i < n → ∃ y,Q i y) → ∃ ys:List α,ys.length=n ∧ ∀ (i:Nat) (y:α),ys[i]? = some y→Q i y
 | 0,_=>⟨[],rfl,fun i y h=>by simp at h⟩
 | n+1,h=>by
  obtain⟨ys,hl,hq⟩:=pick_list n (fun i hi=>h i (by omega));obtain⟨y,hy⟩:=h n (by omega);refine⟨ys ++ [y],by simp[hl],fun i z hz=>?_⟩
  rcases Nat.lt_or_ge i ys.length with hi|hi
  (· (rw[List.getElem?_append_left hi] at hz);exact hq i z hz)
  ·
   have hi':i=n:=by
    have:=(List.getElem?_eq_some_iff.1 hz).1;(simp at this);omega
   subst hi';(rw[List.getElem?_append_right hi,hl] at hz);(simp at hz);(exact hz ▸ hy)
theorem opens_slice {α:Type} {P:Program} {t e:TypeId} {d:Kd α} {good:α→Prop} (ht:P.underlying t=some (.slice e)) (hc:P.cellsOf e=d.sz) {B:Nat} (hB:P.bytesOf e=B) (hd:Opens P e d good) :
    Opens P t (Kd.slice e d) (fun l=>l.length * B≤140737488351232 ∧ ∀ y ∈ l,good y):=by
 intro H enc w fuel cs x h hw
 rcases open_slice ht h with ⟨rfl,_⟩|⟨a,len,cap,m,n,D,Pl,rfl,_,hl,hm,hmm,rfl,hx⟩
 (· exact⟨[],⟨none,0,rfl,Nat.le_refl _,rfl,by simp,fun h=>absurd h (by simp)⟩,by simp,by simp⟩)
 ·
  have hle:len≤m:=by
   rw[hmm];simp;exact hl
  have hD : ∀ i,i < len→Light P e (D i):=fun i hi n hn=>hw n (by
   simp only[DataW.weights,ht]
   exact List.mem_cons_of_mem _ (List.mem_append_left _ (mem_weightsAll (List.mem_map.2 ⟨i,List.mem_range.2 hi,rfl⟩) hn)))
  have hS:len * B≤140737488351232:=by
   have z:=hw _ (by simp only[DataW.weights,ht];exact List.mem_cons_self);(rw[hB] at z);(simp only[List.length_map,List.length_range] at z);exact Nat.le_trans (Nat.mul_le_mul_right _ (Nat.le_add_right _ _)) z
  obtain⟨ys,hyl,hyq⟩:=pick_list (Q:=fun i y => ∃ c,w.cells? 0 (a.add (i * d.sz)) d.sz=some c∧d.K w y c∧good y) len (fun i hi=>by
   obtain⟨c,h1,h2⟩:=hx i (by omega);obtain⟨y,h3,h4⟩:=hd enc w n c _ h2 (hD i hi);(rw[hc] at h1)
   exact⟨y,c,h1,h3,h4⟩)
  refine⟨ys,⟨some a,cap,by rw[hyl],by omega,rfl,?_,fun _=>⟨a,rfl,fun j p hp=>?_⟩⟩,?_,fun y hy=>?_⟩;(· (unfold maxLen at hm;omega));(· obtain⟨c,h1,h3,_⟩:=hyq j p hp;obtain⟨_,hlen,hcell⟩:=World.cells?_some h1;refine⟨c,hlen,h3,fun i u hu=>?_⟩;(have hi:i < d.sz:=by rw[← hlen];exact(List.getElem?_eq_some_iff.1 hu).1);rw[← Go.Deep.add_add,hcell i hi,hu]);(· (rw[hyl];exact hS));(· obtain⟨j,hj,rfl⟩:=List.mem_iff_getElem.1 hy;obtain⟨_,_,_,hg⟩:=hyq j _ (List.getElem?_eq_getElem hj);exact hg)
theorem opens_iso {α β:Type} {P:Program} {t:TypeId} {d:Kd α} {good:α→Prop} (f:β→α) (hf : ∀ y,∃ x,f x=y) (hd:Opens P t d good):Opens P t (Kd.iso d f) (fun x=>good (f x)):=by
 intro H enc w fuel cs x h hw;obtain⟨y,h1,h2⟩:=hd enc w fuel cs x h hw;obtain⟨z,rfl⟩:=hf y;exact⟨z,h1,h2⟩
theorem pair_K {α β:Type} {a:Kd α} {b:Kd β} {w:World} {x:α} {y:β} {cs:List Value} (h0:a.K w x (cs.take a.sz)) (h1:b.K w y (cs.drop a.sz)):(Kd.pair a b).K w (x,y) cs :=
  ⟨_,_,(List.take_append_drop _ _).symm,h0,h1⟩
def OpensF {α:Type} (P:Program) (fs:List Field) (off:Nat) (d:Kd α) (good:α→Prop):Prop :=
  ∀ {H:Type} (enc:TypeId × Value→H) (w:World) (n:Nat) (cs:List Value) (xs:List (DataW H × List MemPlace)),
    (∀ (i:Nat) (f:Field),fs[i]? = some f→DataW.trod enc P w 0 (fun _=>true) true n f.type ((cs.drop f.offset).take (P.cellsOf f.type))=xs[i]?)→xs.length=fs.length→cs.length=off+d.sz →
    (∀ m ∈ DataW.weightsEach P (fs.map (·.type)) (xs.map (·.1)),m≤140737488351232) → ∃ y,d.K w y (cs.drop off)∧good y
theorem opensF_one {α:Type} {P:Program} {f:Field} {off:Nat} {d:Kd α} {good:α→Prop} (ho:f.offset=off) (hs:P.cellsOf f.type=d.sz) (h:Opens P f.type d good):OpensF P [f] off d good:=by
 intro H enc w n cs xs hx hl hc hw
 match xs,hl with
 | [x],_ =>
  have h0:=hx 0 f rfl;(rw[ho,hs,List.take_of_length_le (by rw[List.length_drop];omega)] at h0);exact h enc w n _ _ h0 (fun m hm=>hw m (by simp[DataW.weightsEach,hm]))
theorem opensF_cons {α β:Type} {P:Program} {f:Field} {fs:List Field} {off:Nat} {a:Kd α} {b:Kd β} {ga:α→Prop} {gb:β→Prop} (ho:f.offset=off) (hs:P.cellsOf f.type=a.sz) (h:Opens P f.type a ga) (hr:OpensF P fs (off+a.sz) b gb) :
    OpensF P (f :: fs) off (Kd.pair a b) (fun x=>ga x.1∧gb x.2):=by
 intro H enc w n cs xs hx hl hc hw
 match xs,hl with
 | x :: xs,hl =>
  have h0:=hx 0 f rfl;(rw[ho,hs] at h0);obtain⟨y0,k0,g0⟩:=h enc w n _ _ h0 (fun m hm=>hw m (by simp[DataW.weightsEach,hm]));obtain⟨y1,k1,g1⟩:=hr enc w n cs xs (fun i f hf=>hx (i+1) f hf) (by simpa using hl) (by rw[hc];show off+(a.sz+b.sz)=_;omega) (fun m hm=>hw m (by simp only[List.map_cons,DataW.weightsEach,List.mem_append];exact .inr hm));exact⟨(y0,y1),pair_K k0 (by rw[List.drop_drop];exact k1),g0,g1⟩
theorem opens_struct {α:Type} {P:Program} {t:TypeId} {fs:Array Field} {d:Kd α} {good:α→Prop} (ht:P.underlying t=some (.struct fs)) (hl:P.cellsOf t=d.sz) (h:OpensF P fs.toList 0 d good):Opens P t d good:=by
 intro H enc w fuel cs x hx hw;obtain⟨xs,n,_,rfl,hcl,hxl,hx⟩:=DataW.trod_struct ht hx;exact h enc w n cs xs (fun i f hf=>hx i f (by simpa using hf)) (by simpa using hxl) (by omega) (fun m hm=>hw m (by simpa [DataW.weights,ht] using hm))
theorem Opens.slice_arg {α:Type} {P:Program} {t e:TypeId} {d:Kd α} {g:List α→Prop} (h:Opens P t (Kd.slice e d) g) {H:Type} {enc:TypeId × Value→H} {w:World} {v:Value} {x:DataW H} {ps:List MemPlace}
    (hv : ∃ a len cap,v = .slice a len cap) (hw:Light P t x) (ht:DataW.Trod enc P w 0 (fun _=>true) true t v x ps) :
    ∃ A c l,v = .slice A l.length c∧Kd.C d w A l.length l∧l.length≤c∧g l:=by
 obtain⟨fuel,hf⟩:=ht;obtain⟨l,⟨A,c,hcs,hlc,hC⟩,hg⟩:=h enc w fuel _ _ hf hw;obtain⟨a,len,cap,rfl⟩:=hv;(simp[Value.cells] at hcs);obtain⟨rfl,rfl,rfl⟩:=hcs;exact⟨_,_,l,rfl,hC,hlc,hg⟩
theorem Opens.agg_arg {α:Type} {P:Program} {t:TypeId} {d:Kd α} {g:α→Prop} (h:Opens P t d g) {H:Type} {enc:TypeId × Value→H} {w:World} {v:Value} {x:DataW H} {ps:List MemPlace}
    (hv : ∃ cs,v = .agg cs∧cs.size=P.cellsOf t) (hw:Light P t x) (ht:DataW.Trod enc P w 0 (fun _=>true) true t v x ps) :
    ∃ cs y,v = .agg cs∧d.K w y cs.toList∧g y:=by
 obtain⟨fuel,hf⟩:=ht;obtain⟨l,hK,hg⟩:=h enc w fuel _ _ hf hw;obtain⟨cs,rfl,_⟩:=hv;exact⟨cs,l,rfl,hK,hg⟩
theorem light_of {H:Type} {P:Program} {ts:List TypeId} {ds:List (DataW H)} (hsz:(DataW.weightsEach P ts ds).all (· ≤ reachBytes)=true) {j:Nat} {t:TypeId} {d:DataW H} (ht:ts[j]? = some t) (hd:ds[j]? = some d):Light P t d:=by
 intro n hn;have:=List.all_eq_true.1 hsz _ (DataW.weights_mem_each ht hd n hn);exact of_decide_eq_true this
end Go.Proofs.YtbbhdbeaikclcaaGreat.X
namespace Go.Proofs.YtbbhdbeaikclcaaGreat.X
open Go.RowKit
def IterGoes {σ α:Type} (F:Fence) (n:Nat) (P:Program) (gf:Nat) (lb:Array Value) (encs:α→Array Value) (I:σ→World→Prop) (ok:σ→α→Prop) (step:σ→α→σ) (S:σ→Prop) (s0:σ):Prop :=
  ∀ (l:Nat) (B:World→Prop),(∀ W W',B W→KeepsOthers W W'→B W') →
    (∀ s x W,I s W→B W→ok s x→YieldAt F (n - 1) P l (encs x) W fun e W'=>e = .returned (.bool true)∧I (step s x) W'∧B W') →
    ∀ W,I s0 W→B W→CallsIn F n P gf (#[.func (.yield l) #[] #[]] ++ lb) W fun e W'=>(∃ v,e = .returned v) ∧ ∃ s,S s∧I s W'∧B W'
end Go.Proofs.YtbbhdbeaikclcaaGreat.X
namespace Go.Proofs.YtbbhdbeaikclcaaGreat.X
open Go.RowKit Go.Proofs.YtbbhdbeaikclcaaGreatW.PrintWords Go.Proofs.YtbbhdbeaikclcaaGreatW.PrintLast Go.Proofs.YtbbhdbeaikclcaaGreatW.PrintMore
open Go.Maps
def keyT (s:ByteArray):Lit := .string s.data.toList
theorem keyT_inj {a b:ByteArray} (h:keyT a=keyT b):a=b:=by
 have h:=Lit.string.inj h;exact ByteArray.ext (Array.toList_inj.1 h)
def Tells (D:DataW Unit) (t:List ByteArray):Prop :=
  IsMap D ∧ ∀ s:ByteArray,s.size≤maxLen→Maps.has D (keyT s)=decide (place s t < t.length)∧(place s t < t.length→D.atKey (keyT s) (.lit (.int .i64 0)) = .lit (.int .i64 (place s t)))
def TableIn (W:World) (B g:Nat) (t:List ByteArray):Prop :=
  ∃ gm tv D,W.heap[g]? = some (.cells #[.map (some gm),tv, .int .i64 (t.length:Int)] 153 (0,0))∧B≤g∧B≤gm∧W.ownsMap Tryz.prog 9 (plainElem Tryz.prog 3) gm t.length D∧Aside0 (Tells D t) ∧
    Kd.R Kd.string 9 W B (fun _=>True) tv t
def IdKeeps (W W':World):Prop:=W.heap.size≤W'.heap.size ∧ ∀ (k:Nat) (cells:Array Value) (q:TypeId) (fr:Nat × Nat),W.heap[k]? = some (.cells cells q fr)→q≠153→q≠9→W'.heap[k]? = some (.cells cells q fr)
theorem IdKeeps.refl (W:World):IdKeeps W W:=⟨Nat.le_refl _,fun _ _ _ _ h _ _=>h⟩
theorem IdKeeps.trans {W W1 W2:World} (h:IdKeeps W W1) (k:IdKeeps W1 W2):IdKeeps W W2:=⟨Nat.le_trans h.1 k.1,fun i c q fr hi h1 h2=>k.2 i c q fr (h.2 i c q fr hi h1 h2) h1 h2⟩
theorem IdKeeps.below {W W1:World} (h:Below W.heap.size W W1):IdKeeps W W1:=⟨h.size,fun i c q fr hi _ _=>(h.block i (Array.getElem?_eq_some_iff.1 hi).1).trans hi⟩
theorem wf_len {n:Nat} (h:n≤140737488355328):(Lit.int .i64 (n:Int)).wf=true:=by
 have e1:IntKind.i64.min = -9223372036854775808:=rfl;have e2:IntKind.i64.max=9223372036854775807:=rfl;simp[Lit.wf,go_sem];omega
theorem intern_New (w:World):Calls Tryz.prog 66 #[] w fun e w' => ∃ g,e = .returned (.pointer (some ⟨g,0,none⟩))∧Aside0 (TableIn w' w.heap.size g [])∧Aside0 (Below w.heap.size w w'):=by
 have hmm := @run_makeMap Tryz.prog;go_enter Tryz.func66,Tryz.ntmps66;go_wp2;go_ret;have hm:=World.ownsMap_made (H:=Unit) w Tryz.prog 9 (plainElem Tryz.prog 3);obtain⟨es,cl,hb,hr⟩:=hm;refine⟨_,rfl,⟨⟨w.heap.size, .slice none 0 0, .map [],?_,?_,Nat.le_refl _,⟨es,cl,?_,hr⟩,⟨isMap_empty,fun s hs=>⟨rfl,fun h=>by simp[place] at h⟩⟩,Kd.R_nil _ _ _ _ _⟩⟩,⟨((Below.refl _ w).alloc (Nat.le_refl _) _).alloc (by simp) _⟩⟩;(· have:=World.alloc_heap_new (w.alloc (.map #[] 0)) (.cells #[.map (some w.heap.size), .slice none 0 0, .int .i64 0] 153);simpa using this);(· simp);(· exact(Below.heap_alloc _ _ _ (by simp)).trans hb)
theorem Tells.put {D:DataW Unit} {t:List ByteArray} {s:ByteArray} (h:Tells D t) (hs : ¬ place s t < t.length) (hk:WideAt.IsKeyLit (keyT s)):Tells (D.put (keyT s) (.lit (.int .i64 (t.length:Int)))) (t ++ [s]):=by
 obtain⟨hm,hf⟩:=h;refine⟨hm.put _ _,fun x hx=>?_⟩
 by_cases e:x=s
 (· subst e;have hp:=place_new x [] hs;rw[has_put_same hm hk,atKey_put_same hm hk,hp];simp)
 ·
  (have hne:keyT x≠keyT s:=fun h=>e (keyT_inj h));obtain⟨h1,h2⟩:=hf x hx;rw[has_put_other hne,atKey_put_other hne,h1]
  by_cases hp:place x t < t.length
  (· rw[place_append x [s] hp];refine⟨?_,fun _=>h2 hp⟩;(simp[hp];omega))
  ·
   have : ¬ x ∈ t ++ [s]:=by
    rw[List.mem_append,place_mem];rintro(h|h);(· exact hp h);(· exact e (List.mem_singleton.1 h))
   (rw[place_mem] at this);exact⟨by rw[decide_eq_false hp,decide_eq_false this],fun h=>absurd h this⟩
set_option maxHeartbeats 1600000 in
theorem atomic_Add (g:Nat) (n:Int) (w:World) (hc:w.cell? ⟨g,2,none⟩=some (.int .i64 n)) (hf:w.frozen? ⟨g,2,none⟩=false) (hn:0≤n) (hn2:n < 1000000000000000) :
    Calls Tryz.prog 95 #[.pointer (some ⟨g,2,none⟩), .int .i64 1] w fun e w'=>e = .returned (.int .i64 (n+1))∧w'=w.setCell ⟨g,2,none⟩ (.int .i64 (n+1)):=by
 have hs:(Op.intArith .add .i64 n 1).run Tryz.prog w = .ok (.int .i64 (n+1)) w:=by
  have e:IntKind.i64.wrap (n+1)=n+1:=IntWalk.i64_in _ ⟨by omega,by omega⟩;(rw[← e];rfl)
 have hx:=run_call_add (P:=Tryz.prog) Tryz.func108 (by kernel_rfl) (by kernel_rfl) (by kernel_rfl) .i64 (by kernel_rfl) hc hf hs;go_enter Tryz.func95,Tryz.ntmps95;go_wp2;go_ret;exact⟨rfl,rfl⟩
theorem Kd.R_map {W W1:World} {b e:Nat} {α:Type} {d:Kd α} {ok:Nat→Prop} {v:Value} {xs:List α} (h:Kd.R d e W b ok v xs) (hb : ∀ (k:Nat) (cells:Array Value) (q:TypeId) (fr:Nat × Nat),W.heap[k]? = some (.cells cells q fr)→q ∈ e :: d.E→W1.heap[k]? = W.heap[k]?):Kd.R d e W1 b ok v xs:=by
 refine Kd.R_mono (Kd.R_move (Kd.R_bound h) (fun k hk=>?_)) (fun k hk=>hk.1);obtain⟨_,_,_,q,hq,cells,hc⟩:=hk;exact hb k cells q _ hc hq
set_option maxHeartbeats 4000000 in
theorem table_Id (g B:Nat) (t:List ByteArray) (s:ByteArray) (w:World) (h:TableIn w B g t) (hs:s.size≤maxLen) (ht:t.length≤1000000000) (hB:B≤w.heap.size) :
    Calls Tryz.prog 67 #[.pointer (some ⟨g,0,none⟩), .string s] w fun e w'=>e = .returned (.int .i64 (place s t))∧Aside0 (TableIn w' B g (addT t s))∧Aside0 (Below B w w')∧Aside0 (IdKeeps w w'):=by
 have H:=Aside0.mk h;obtain⟨gm,tv,D,hb,hg,hgm,hown,hT,hR⟩:=h;have hlt:=blk_lt hb;have hkey:keyOf Tryz.prog 9 (.string s)=some (keyT s)   := WideMaps.keyOf_string_mk Tryz.underlying9 hs;(have zE : ∀ w:World,(zeroValue 3).run Tryz.prog w = .ok (.int .i64 0) w:=fun w=>by kernel_rfl);have c0:w.cell? ⟨g,0,none⟩=some (.map (some gm)):=cell_blk hb rfl;obtain⟨hD,hTf⟩:=hT.out;obtain⟨h1,h2⟩:=hTf s hs;have HD:=Aside0.mk hD;have HB:=Aside0.mk hb;have HOWN:=Aside0.mk hown;have HR:=Aside0.mk hR;clear hD hTf hb hown hR
 by_cases hp:place s t < t.length
 (· have h2':=h2 hp;(rw[decide_eq_true hp] at h1);have H1:=Aside0.mk h1;have H2:=Aside0.mk h2';clear h1 h2 h2';go_enter Tryz.func67,Tryz.ntmps67;(go_wp2_with (at_lookup;refine wpList_lookup_own_ok_int _ rfl _ _ 148 rfl 9 3 .i64 (string_keyed Tryz.underlying9) Tryz.underlying148 Tryz.underlying3 (zE _) gm t.length D rfl HOWN.out _ _ rfl hkey ?_;intro c hat hwc;rw[H1.out];rw[H2.out] at hat;obtain rfl:c=(place s t:Int):=by(injection hat with hat;injection hat with _ hat;exact hat.symm)));go_ret;rw[addT,if_pos hp];exact⟨rfl,H,⟨Below.refl _ _⟩,⟨IdKeeps.refl _⟩⟩)
 ·
  (rw[decide_eq_false hp] at h1);have H1:=Aside0.mk h1;clear h1 h2;have hpl:=place_not hp;have z0:D.atKey (keyT s) (.lit (.int .i64 0)) = .lit (.int .i64 0):=atKey_of_not_has H1.out _;have Z0:=Aside0.mk z0;clear z0;have c2:w.cell? ⟨g,2,none⟩=some (.int .i64 (t.length:Int)):=cell_blk HB.out rfl;have f2:w.frozen? ⟨g,2,none⟩=false:=frozen_of_row _ _ _ _ _ HB.out;rw[hpl];go_enter Tryz.func67,Tryz.ntmps67;(go_wp2_with (at_lookup;refine wpList_lookup_own_ok_int _ rfl _ _ 148 rfl 9 3 .i64 (string_keyed Tryz.underlying9) Tryz.underlying148 Tryz.underlying3 (zE _) gm t.length D rfl HOWN.out _ _ rfl hkey ?_;intro c hat hwc;rw[H1.out];rw[Z0.out] at hat;obtain rfl:c=(0:Int):=by(injection hat with hat;injection hat with _ hat;exact hat.symm)));refine(atomic_Add g (t.length:Int) _ c2 f2 (by omega) (by omega)).mono ?_;rintro e w1 ⟨rfl,rfl⟩
  have hne:gm≠g:=by
   rintro rfl;obtain⟨es,cl,hm,_⟩:=HOWN.out;(rw[HB.out] at hm;cases hm)
  obtain⟨w1,hw1⟩ : ∃ w1,w.setCell ⟨g,2,none⟩ (.int .i64 ((t.length:Int)+1))=w1:=⟨_,rfl⟩;have HW1:=Aside0.mk hw1;rw[hw1];(have hb1:w1.heap[g]? = some (.cells #[.map (some gm),tv, .int .i64 ((t.length:Int)+1)] 153 (0,0)):=by rw[← hw1];exact heap_set_same HB.out _)
  have ho1:w1.ownsMap Tryz.prog 9 (plainElem Tryz.prog 3) gm t.length D:=by
   obtain⟨es,cl,hm,r⟩:=HOWN.out;exact⟨es,cl,by rw[← hw1,heap_set_other hne];exact hm,r⟩
  (have hr1:Kd.R Kd.string 9 w1 B (fun _=>True) tv t:=by rw[← hw1];exact Kd.R_set HR.out HB.out (by decide) _ _);(have hbl1:Below B w w1:=by rw[← hw1];exact(Below.refl _ _).setCell (p:=⟨g,2,none⟩) hg _)
  have hk1:IdKeeps w w1:=⟨by rw[← hw1];simp[World.setCell],fun k cells q fr hk h1 h2=>by
   (rw[← hw1,heap_set_other];· exact hk)
   ·
    rintro rfl;rw[HB.out] at hk;cases hk;exact h1 rfl⟩
  clear hw1;have c10:w1.cell? ⟨g,0,none⟩=some (.map (some gm)):=cell_blk hb1 rfl;have HB1:=Aside0.mk hb1;have HO1:=Aside0.mk ho1;have HR1:=Aside0.mk hr1;have HL1:=Aside0.mk hbl1;have HK1:=Aside0.mk hk1;clear hb1 ho1 hr1 hbl1 hk1;(have e1:wrap64 ((t.length:Int)+1 - 1)=(t.length:Int):=by unfold wrap64;omega);(have e2:(t.length:Int)+1 - 1=(t.length:Int):=by omega);clear c0 c2 f2;(go_wp2_with (first|(at_mapUpdate;(refine wpList_mapUpdate_own _ rfl _ _ _ 148 rfl 9 3 (string_keyed Tryz.underlying9) Tryz.underlying148 _ gm t.length D rfl HO1.out (by unfold maxLen;omega) _ _ _ rfl rfl hkey (.lit (.int .i64 (t.length:Int))) [] (plainElem_int Tryz.underlying3 (wf_len (by omega))) ?_;intro w2 hown2 hgrow2;have hb2:=(hgrow2.block g (blk_lt HB1.out) (fun e=>hne (Option.some.inj e).symm)).trans HB1.out;have hr2:Kd.R Kd.string 9 w2 B (fun _=>True) tv t:=Kd.R_map HR1.out (fun k cells q fr hk _=>hgrow2.block k (Array.getElem?_eq_some_iff.1 hk).1 (fun e=>by obtain⟨es,cl,hm,_⟩:=HO1.out;rw[Option.some.inj e,hm] at hk;cases hk));have c21:w2.cell? ⟨g,1,none⟩=some tv:=cell_blk hb2 rfl;obtain⟨Av,cv,hev⟩:=Kd.R_slice hr2;subst hev;have HB2:=Aside0.mk hb2;have HR2:=Aside0.mk hr2;have HO2:=Aside0.mk hown2;have HG2:=Aside0.mk hgrow2;clear hb2 hr2 hown2 hgrow2))|(at_builtin;(refine Kd.R_append Kd.string (w0:=w2) B rfl (.tmp 35) (.tmp 37) 22 9 (.string ByteArray.empty) 16 rfl Tryz.underlying22 info9 rfl (by decide) (by decide) _ t s [.string s] (fun _=>True) (fun _=>False) rfl rfl rfl (fun _ h=>h.elim) (fun _ _=>trivial) HR2.out (Below.refl _ _) (Nat.le_trans hB (Nat.le_trans HK1.out.1 HG2.out.size)) (by omega) ?_;intro v3 w3 hr3 hbl3 hg3 hat3;have hgn:some g≠(Value.slice Av t.length cv).ownBlock:=Kd.R_ne HR2.out HB2.out (by decide);have hb3:=(hg3.block g (blk_lt HB2.out) hgn).trans HB2.out;obtain⟨A3,c3,hev3⟩:=Kd.R_slice hr3;subst hev3;have c31:=cell_blk (j:=1) hb3 rfl;have f31:w3.frozen? ⟨g,1,none⟩=false:=frozen_of_row _ _ _ _ _ hb3;have HR3:=Aside0.mk hr3;have HB3:=Aside0.mk hb3;have HL3:=Aside0.mk hbl3;have HG3:Aside0 (w2.grownBy w3 (Value.slice Av t.length cv).ownBlock):=Aside0.mk hg3;clear hr3 hb3 hbl3 hg3 hat3))));go_ret;(have hadd:addT t s=t ++ [s]:=by rw[addT,if_neg hp]);(have hlen:(t ++ [s]).length=t.length+1:=by simp);rw[hadd]
  have hgm2:(Value.slice Av t.length cv).ownBlock≠some gm:=by
   intro e;obtain⟨es,cl,hm,_⟩:=HO2.out;obtain⟨cells,hc⟩:=Kd.R_typed HR2.out gm e;(rw[hm] at hc;cases hc)
  have hB2:B≤w2.heap.size:=Nat.le_trans hB (Nat.le_trans HK1.out.1 HG2.out.size);have HR3':=HR3.out;(rw[hlen] at HR3');refine⟨rfl,⟨⟨gm, .slice A3 (t.length+1) c3,D.put (keyT s) (.lit (.int .i64 (t.length:Int))),?_,hg,hgm,?_,⟨Tells.put hT.out hp trivial⟩,?_⟩⟩,⟨?_⟩,⟨?_⟩⟩;(· (rw[heap_set_same HB3.out,hlen];rfl))
  ·
   obtain⟨es,cl,hm,r⟩:=HO2.out;refine⟨es,cl,?_,by rw[hlen];exact r⟩
   rw[heap_set_other hne,HG3.out.block gm (by
    rcases Nat.lt_or_ge gm w2.heap.size with h|h
    · exact h
    · rw[Array.getElem?_eq_none h] at hm;cases hm) (fun e=>hgm2 e.symm)]
   exact hm
  (· exact Kd.R_set HR3' HB3.out (by decide) _ _);(· exact(((HL1.out.grown HG2.out (Nat.le_trans hB HK1.out.1) (fun j hj=>by rw[← Option.some.inj hj];exact hgm)).trans HL3.out).setCell (p:=⟨g,1,none⟩) hg _))
  ·
   refine⟨?_,fun k cells q fr hk h1 h2=>?_⟩;(· (have a1:=HK1.out.1;have a2:=HG2.out.size;have a3:=HG3.out.size);(simp[World.setCell];omega))
   ·
    have k1:=HK1.out.2 k cells q fr hk h1 h2
    have k2:=(HG2.out.block k (Array.getElem?_eq_some_iff.1 k1).1 (fun e=>by
     obtain⟨es,cl,hm,_⟩:=HO1.out
     rw[Option.some.inj e,hm] at k1;cases k1)).trans k1
    have k3:=(HG3.out.block k (Array.getElem?_eq_some_iff.1 k2).1 (fun e=>by
     obtain⟨cells',hc⟩:=Kd.R_typed HR2.out k e.symm
     rw[k2] at hc;cases hc;exact h2 rfl)).trans k2
    rw[heap_set_other];(· exact k3);(· rintro rfl;(rw[HB3.out] at k3;cases k3;exact h1 rfl))
end Go.Proofs.YtbbhdbeaikclcaaGreat.X
namespace Go.Proofs.YtbbhdbeaikclcaaGreat.X
open Go.RowKit Go.Proofs.YtbbhdbeaikclcaaGreatW.PrintWords Go.Proofs.YtbbhdbeaikclcaaGreatW.PrintLast Go.Proofs.YtbbhdbeaikclcaaGreatW.PrintMore
open Go.Maps
theorem TableIn.same {W W':World} {B g:Nat} {t:List ByteArray} (h:TableIn W B g t) (hh:W'.heap=W.heap):TableIn W' B g t:=by
 obtain⟨gm,tv,D,h1,h2,h3,h4,h5,h6⟩:=h;obtain⟨es,cl,h7,h8⟩:=h4;exact⟨gm,tv,D,by rw[hh];exact h1,h2,h3,⟨es,cl,by rw[hh];exact h7,h8⟩,h5,Kd.R_move h6 (fun k _=>by rw[hh])⟩
theorem TableIn.step {W W':World} {B g:Nat} {t:List ByteArray} (h:TableIn W B g t) (hh : ∀ k,k < W.heap.size→(∀ cells q fr,W.heap[k]? = some (.cells cells q fr)→q=153∨q=9)→W'.heap[k]? = W.heap[k]?):TableIn W' B g t:=by
 obtain⟨gm,tv,D,h1,h2,h3,h4,h5,h6⟩:=h;obtain⟨es,cl,h7,h8⟩:=h4;have l7:gm < W.heap.size:=(Array.getElem?_eq_some_iff.1 h7).1;refine⟨gm,tv,D,(hh g (blk_lt h1) (fun c q fr e=>by rw[h1] at e;cases e;exact .inl rfl)).trans h1,h2,h3,⟨es,cl,(hh gm l7 (fun c q fr e=>by rw[h7] at e;cases e)).trans h7,h8⟩,h5,Kd.R_map h6 (fun k c q fr e hq=>hh k (Array.getElem?_eq_some_iff.1 e).1 (fun c' q' fr' e'=>?_))⟩;(rw[e] at e');cases e';exact .inr (by simpa [Kd.string,Kd.scalar] using hq)
abbrev KI:Kd (List Int):=Kd.slice 3 (Kd.int .i64)
def rowsAt (files:List (List ByteArray)) (k j:Nat):List (List Int) :=
  idsMany [] (files.take k) ++ (idsOne (tabOf [] (files.take k)) ((files.getD k []).take j)).2 :: List.replicate (files.length - k - 1) []
theorem rowsAt_start (files:List (List ByteArray)) (k:Nat) (h:k < files.length):idsMany [] (files.take k) ++ List.replicate (files.length - k) []=rowsAt files k 0:=by
 (have:files.length - k=(files.length - k - 1)+1:=by omega);rw[rowsAt,this,List.replicate_succ];simp[idsOne]
theorem rowsAt_end (files:List (List ByteArray)) (k:Nat) (h:k < files.length):rowsAt files k (files.getD k []).length=idsMany [] (files.take (k+1)) ++ List.replicate (files.length - (k+1)) []:=by
 have h2:files.take (k+1)=files.take k ++ [files.getD k []]:=by
  (rw[← List.take_append_getElem h];simp[h])
 rw[rowsAt,List.take_length,h2,idsMany_snoc,show files.length - k - 1=files.length - (k+1) by omega];simp
theorem rowsAt_len (files:List (List ByteArray)) (k j:Nat) (h:k < files.length):(rowsAt files k j).length=files.length:=by
 (simp[rowsAt,idsMany_length];omega)
theorem rowsAt_get (files:List (List ByteArray)) (k j:Nat) (h:k < files.length):(rowsAt files k j).getD k []=(idsOne (tabOf [] (files.take k)) ((files.getD k []).take j)).2:=by
 (have hl:(idsMany [] (files.take k)).length=k:=by rw[idsMany_length,List.length_take];omega);rw[rowsAt,List.getD_eq_getElem?_getD,List.getElem?_append_right (by omega),hl];simp
theorem rowsAt_set (files:List (List ByteArray)) (k j:Nat) (h:k < files.length) (hj:j < (files.getD k []).length):(rowsAt files k j).set k ((idsOne (tabOf [] (files.take k)) ((files.getD k []).take j)).2 ++ [(place (files.getD k [])[j] (idsOne (tabOf [] (files.take k)) ((files.getD k []).take j)).1:Int)])=rowsAt files k (j+1):=by
 (have hl:(idsMany [] (files.take k)).length=k:=by rw[idsMany_length,List.length_take];omega);rw[rowsAt,List.set_append_right _ _ (by omega),hl,Nat.sub_self,List.set_cons_zero,rowsAt,← List.take_append_getElem hj,idsOne_snoc]
def tabAt (files:List (List ByteArray)) (k j:Nat):List ByteArray:=(idsOne (tabOf [] (files.take k)) ((files.getD k []).take j)).1
theorem tabAt_step (files:List (List ByteArray)) (k j:Nat) (hj:j < (files.getD k []).length):addT (tabAt files k j) (files.getD k [])[j]=tabAt files k (j+1):=by
 rw[tabAt,tabAt,← List.take_append_getElem hj,idsOne_snoc]
theorem tabAt_end (files:List (List ByteArray)) (k:Nat) (h:k < files.length):tabAt files k (files.getD k []).length=tabOf [] (files.take (k+1)):=by
 have h2:files.take (k+1)=files.take k ++ [files.getD k []]:=by
  (rw[← List.take_append_getElem h];simp[h])
 rw[tabAt,List.take_length,h2,tabOf_snoc]
theorem tabAt_start (files:List (List ByteArray)) (k:Nat):tabAt files k 0=tabOf [] (files.take k):=by
 simp[tabAt,idsOne]
def total (files:List (List ByteArray)):Nat:=(files.map List.length).sum
theorem tabOf_le : ∀ (t:List ByteArray) (ls:List (List ByteArray)),(tabOf t ls).length≤t.length+total ls
 | t,[]=>by simp[tabOf,total]
 | t,l :: ls=>by
  have h1:=tabOf_le (idsOne t l).1 ls;have h2:=idsOne_table_le t l;(simp only[tabOf,total,List.map_cons,List.sum_cons] at h1 ⊢);omega
theorem total_take (files:List (List ByteArray)) (k:Nat) (h:k < files.length):total (files.take k)+(files.getD k []).length≤total files:=by
 have h1:files=files.take k ++ files.drop k:=(List.take_append_drop k files).symm;(have h2:files.drop k=files.getD k [] :: files.drop (k+1):=by rw[List.drop_eq_getElem_cons h];simp[h])
 have:total files=total (files.take k)+total (files.drop k):=by
  unfold total;rw[← List.sum_append,← List.map_append,List.take_append_drop]
 rw[this,h2];simp[total]
theorem tabAt_le (files:List (List ByteArray)) (k j:Nat) (h:k < files.length):(tabAt files k j).length≤total files:=by
 have h1:=idsOne_table_le (tabOf [] (files.take k)) ((files.getD k []).take j);have h2:=tabOf_le [] (files.take k);have h3:=total_take files k h;(rw[List.length_take] at h1);(simp only[List.length_nil] at h2);(rw[tabAt];omega)
def intern_All.f (files:List (List ByteArray)):Option (List (List Int)):=if files.length≤1000∧total files≤1000000 ∧ ∀ l ∈ files,∀ s ∈ l,s.size≤maxLen then some (idsAll files) else none
theorem S_types2 {W:World} {B:Nat} {v:Value} {rows:List (List Int)} (h:Kd.S KI 72 W B (fun _=>True) v rows):Kd.S KI 72 W B (fun k => ∃ q,(q=72∨q=3)∧k < W.heap.size ∧ ∃ cells,W.heap[k]? = some (.cells cells q (0,0))) v rows :=
  Kd.S_mono (Kd.S_bound h) (fun k hk=>by
    obtain⟨_,_,hlt,q,hq,hc⟩:=hk
    refine⟨q,?_,hlt,hc⟩
    simpa [KI,Kd.slice,Kd.int,Kd.scalar] using hq)
theorem idstep {W W':World} {k:Nat} (hk:IdKeeps W W') (h : ∃ q,(q=72∨q=3)∧k < W.heap.size ∧ ∃ cells,W.heap[k]? = some (.cells cells q (0,0))):W'.heap[k]? = W.heap[k]? := by
 obtain⟨q,hq,_,cells,hc⟩:=h;rw[hc];exact hk.2 k cells q _ hc (by rcases hq with rfl|rfl <;> decide) (by rcases hq with rfl|rfl <;> decide)
theorem rows_put {W W3:World} {B go n c2 k:Nat} {v1 v3:Value} {rows:List (List Int)} {row row':List Int} {oki:Nat→Prop}
    (hH:Kd.H KI 72 W B (fun _=>True) (.slice (some ⟨go,0,none⟩) n c2) rows (k:Int) (fun q=>oki q∨True∧W.heap.size≤q) [v1])
    (hv:Kd.R (Kd.int .i64) 3 W B (fun q=>oki q∨W.heap.size≤q) v1 row) (hg:W.grownBy W3 v1.ownBlock)
    (hr:Kd.R (Kd.int .i64) 3 W3 B (fun q=>oki q∨W.heap.size≤q) v3 row') (ho : ∀ q,oki q→q≠go) (hgo:go < W.heap.size) (hn:rows.length=n) (hk:k < n) :
    Kd.S KI 72 (W3.setCell ⟨go,k,none⟩ v3) B (fun _=>True) (.slice (some ⟨go,0,none⟩) n c2) (rows.set k row'):=by
 have h3:=Kd.H_grown hH hg (fun q hq=>by
  rcases hv.1 q hq with h|h
  (· exact .inl h)
  ·
   exact .inr ⟨trivial,h⟩)
 (have hone : ∀ q ∈ [v3],q.oneCell'=true:=fun q hq=>by rw[List.mem_singleton.1 hq];exact(Kd.R_val hr).2);have h4:=(Kd.H_seg h3 (by omega) (by omega) (seg:=[v3]) (j:=0) (by simp[KI,Kd.slice]) hone).1;(have e:(k:Int).toNat * KI.sz+0=k:=by simp[KI,Kd.slice]);(rw[e] at h4)
 have h5:=Kd.H_back (x':=row') (okp:=fun q=>oki q∨W.heap.size≤q) h4 ⟨v3,rfl,Kd.R_far (p:=⟨go,k,none⟩) hr (fun q hq=>by
  rcases hq with h|h
  (· exact ho q h)
  ·
   show q≠go
   omega) _⟩ (fun q hq=>hq.imp id (fun h=>⟨trivial,h⟩))
 (rw[Int.toNat_natCast] at h5);exact h5
theorem table_put {W W3:World} {B g go k:Nat} {t:List ByteArray} {v1 v3:Value} {row:List Int} {okx:Nat→Prop} {gc:Array Value} (h:TableIn W B g t) (hv:Kd.R (Kd.int .i64) 3 W B okx v1 row) (hg:W.grownBy W3 v1.ownBlock)
    (hb:W3.heap[go]? = some (.cells gc 72 (0,0))):TableIn (W3.setCell ⟨go,k,none⟩ v3) B g t:=by
 refine(h.step (W':=W3) (fun q hq ht=>hg.block q hq (fun e=>?_))).step (fun q hq ht=>?_)
 ·
  obtain⟨cells,hc⟩:=Kd.R_typed hv q e.symm
  rcases ht _ _ _ hc with h|h <;> exact absurd h (by decide)
 ·
  refine heap_set_other (fun e=>?_) _;subst e
  rcases ht _ _ _ hb with h|h <;> exact absurd h (by decide)
theorem intern_All.calls (A0:Option Addr) (c0:Nat) (l0:List (List ByteArray)) (r:List (List Int)) (w:World) (hr0:Kd.C (Kd.slice 9 Kd.string) w A0 l0.length l0) (hc0:l0.length≤c0) (h:intern_All.f l0=some r) :
    Calls Tryz.prog 35 #[.slice A0 l0.length c0] w fun e w' => ∃ v0_:Value,e = .returned v0_∧Kd.S KI 72 w' w.heap.size (fun _=>True) v0_ r∧Below w.heap.size w w':=by
 have HR0:=Aside0.mk hr0;have HC0:=Aside0.mk hc0;clear hr0 hc0;(unfold intern_All.f at h);(split at h)
 ·
  rename_i hf;obtain⟨hfl,htot,hsz⟩:=hf;have h:=Option.some.inj h;subst h;have HSZ:=Aside0.mk hsz;clear hsz;obtain⟨B,hBe⟩ : ∃ B,w.heap.size=B:=⟨_,rfl⟩;have hBw:B≤w.heap.size:=Nat.le_of_eq hBe.symm;have HBe:=Aside0.mk hBe;clear hBe;go_enter Tryz.func35,Tryz.ntmps35;(go_wp2_with fail);refine(intern_New _).mono ?_;rintro e w1 ⟨g,rfl,HT1,HB1⟩;(rw[HBe.out] at HT1 HB1);(go_wp2_with ((with_reducible refine gate_dst (N:=12) rfl ?_);go_loud (refine Kd.S_make KI (w0:=w) B 72 rfl (N:=12) rfl 70 _ _ rfl (l0.length:Int) rfl rfl Tryz.underlying70 (.slice none 0 0) 24 info72 rfl (by decide) (by omega) [] (ok:=fun _=>True) (okp:=fun _=>True) ⟨_,rfl,Kd.R_nil _ _ _ _ _⟩ (fun _ hk=>hk) trivial (by omega) (by omega) HB1.out (Nat.le_trans hBw HB1.out.size) ?_;intro v2 w2 hs2 hb2 hg2 hnew2;have HS2:=Aside0.mk hs2;have HB2:=Aside0.mk hb2;have HT2:Aside0 (TableIn w2 B g []):=⟨HT1.out.step (fun k hk _=>hg2.block k hk (by simp))⟩;have HZ2:=Aside0.mk hg2.size;clear hs2 hb2 hg2 hnew2)));(have hrep : ∀ n:Nat,((n:Int)).toNat=n:=fun n=>Int.toNat_natCast n);(rw[hrep] at HS2);obtain⟨A2,c2,rfl⟩:=Kd.S_slice HS2.out;have HN:Aside0 ((List.replicate l0.length ([]:List Int)).length=l0.length):=⟨by simp⟩;(rw[HN.out] at HS2 ⊢);clear hrep
  go_loopw [15] (fun i wr => ∃ k:Nat,k≤l0.length∧i = .int .i64 k∧Aside0 (Kd.S KI 72 wr B (fun _=>True) (.slice A2 l0.length c2) (idsMany [] (l0.take k) ++ List.replicate (l0.length - k) []))∧Aside0 (TableIn wr B g (tabOf [] (l0.take k)))∧Aside0 (Below B w wr)) (fun i _=>l0.length - (intOf i).toNat)
  (case atStart=>exact⟨0,Nat.zero_le _,rfl,by simpa [idsMany] using HS2,HT2,HB2⟩)
  case round =>
   obtain⟨k,hk,rfl,HS,HT,HB⟩:=hrel
   by_cases hlt:k < l0.length
   ·
    obtain⟨ad,A5,c5,rfl,hrow,hc5,hC5⟩:=at_slice HR0.out k hlt;replace hrow:=(HB.out.cell (by rw[← HBe.out];exact World.block_lt_of_cell? w _ hrow)).trans hrow
    obtain⟨go,rfl⟩ : ∃ go,A2=some ⟨go,0,none⟩:=by
     obtain⟨go,cap,e,_⟩:=Kd.S_form HS.out (by simp[idsMany_length];omega);(injection e with e1 e2 e3);exact⟨go,e1⟩
    obtain⟨l,hl⟩ : ∃ l,l0.getD k []=l:=⟨_,rfl⟩;have HL:=Aside0.mk hl;(rw[hl] at hrow hc5 hC5);have HC5:=Aside0.mk hC5;have Hc5:=Aside0.mk hc5;(have hlm:l ∈ l0:=by rw[← hl,getD_get hlt];exact List.getElem_mem hlt);have HLM:=Aside0.mk hlm;have htk:=total_take l0 k hlt;(rw[hl] at htk);clear hC5 hc5 hl hlm;have HW0:=Aside0.mk (HB.out);(go_wp2_with fail)
    go_loopw [22] (fun i wj => ∃ j:Nat,j≤l.length∧i = .int .i64 j∧Aside0 (Kd.S KI 72 wj B (fun _=>True) (.slice (some ⟨go,0,none⟩) l0.length c2) (rowsAt l0 k j))∧Aside0 (TableIn wj B g (tabAt l0 k j))∧Aside0 (Below B w wj)) (fun i _=>l.length - (intOf i).toNat)
    (case atStart=>exact⟨0,Nat.zero_le _,rfl,by rw[← rowsAt_start l0 k hlt];exact HS,by rw[tabAt_start];exact HT,HB⟩)
    case round =>
     obtain⟨j,hj,rfl,HSj,HTj,HBj⟩:=hrel;clear HS HT HB
     by_cases hjl:j < l.length
     ·
      obtain⟨ads,rfl,hstr⟩:=at_str HC5.out j hjl;replace hstr:=(HBj.out.cell (by rw[← HBe.out];exact World.block_lt_of_cell? w _ hstr)).trans hstr;(have hsm:l.getD j ByteArray.empty ∈ l:=by rw[getD_get hjl];exact List.getElem_mem hjl);have hrl:=rowsAt_len l0 k j hlt
      have hrs:(rowsAt l0 k j).set k ((rowsAt l0 k j).getD k [] ++ [(place (l.getD j ByteArray.empty) (tabAt l0 k j):Int)])=rowsAt l0 k (j+1):=by
       rw[rowsAt_get l0 k j hlt,← rowsAt_set l0 k j hlt (by rw[HL.out];exact hjl)]
       congr 3
       simp only[tabAt,HL.out,getD_get hjl]
      have hts:addT (tabAt l0 k j) (l.getD j ByteArray.empty)=tabAt l0 k (j+1):=by
       rw[← tabAt_step l0 k j (by rw[HL.out];exact hjl)];simp only[HL.out,getD_get hjl]
      have hrowlen:((rowsAt l0 k j).getD k []).length≤1000000:=by
       rw[rowsAt_get l0 k j hlt,idsOne_length,List.length_take];omega
      obtain⟨s,hse⟩ : ∃ s,l.getD j ByteArray.empty=s:=⟨_,rfl⟩;(rw[hse] at hstr hsm hrs hts);have hsz:s.size≤maxLen:=HSZ.out l HLM.out s hsm;obtain⟨row,hrow2⟩ : ∃ row,(rowsAt l0 k j).getD k []=row:=⟨_,rfl⟩;have HROW:=Aside0.mk hrow2;(rw[hrow2] at hrs hrowlen);have HRS:=Aside0.mk hrs;have HTS:=Aside0.mk hts;have htl:=tabAt_le l0 k j hlt;clear hrs hts hsm hse hrow2;obtain⟨oki,c,hcl,hM,hcc,hfz,hoki,hH⟩:=Kd.S_elem (S_types2 HSj.out) [] (k:Int) (by omega) (by omega);(rw[Int.toNat_natCast,HROW.out] at hM);obtain⟨v1,rfl,hv1⟩:=hM;obtain⟨A1,c1,rfl⟩:=Kd.R_slice hv1
      have hcell:wr.cell? ⟨go,k,none⟩=some (.slice A1 row.length c1):=by
       have:=hcc 0 _ rfl;simpa [KI,Kd.slice] using this
      obtain⟨gcells,hgb⟩:=Kd.S_typed HSj.out go rfl;have hgo:=blk_lt hgb;have hkg:(k:Int).toNat=k:=Int.toNat_natCast k;have HH:=Aside0.mk hH;have HV1:=Aside0.mk hv1;have HOKI:=Aside0.mk hoki;have HGB:=Aside0.mk hgb;clear hcc hfz hoki hv1 hcl hH hgb hkg;have hBj:B≤wr.heap.size:=Nat.le_trans hBw HBj.out.size;have hkI:((k:Int) < (l0.length:Int))=True:=eq_true (by omega);have hkI0:(0≤(k:Int))=True:=eq_true (by omega);go_wp2;refine start_ (n:=13) (S:=fun w'=>w'.cell? ⟨go,k,none⟩=some (.slice A1 row.length c1)) (ds:=[10,12]) (bm_ 13 0) (by kernel_rfl) rfl rfl (hcell) (fun hHeld=>?_);refine pq_ (i:=0) (N:=some 26) (bm_ 13 1) ?_;refine pq_ (i:=1) (N:=some 27) (bm_ 13 3) ?_;refine pq_ (i:=2) (N:=some 28) (bm_ 13 7) ?_;refine pq_ (i:=3) (N:=some 29) (bm_ 13 15) ?_;refine pq_ (i:=4) (N:=some 30) (bm_ 13 31) ?_;refine pq_ (i:=6) (N:=some 32) (bm_ 13 95) ?_;refine pq_ (i:=7) (N:=some 33) (bm_ 13 223) ?_;refine tq_ (i:=5) (N:=some 31) (bm_ 13 255) hHeld ?_;refine one_ (i:=8) (N:=some 34) (bm_ 13 511) rfl rfl (by kernel_rfl) (by decide) (fun K hK=>?_);refine goes_ Tryz.func67 (by kernel_rfl) rfl #[.pointer (some ⟨g,0,none⟩), .string s] (by rfl) rfl rfl (by simp only[List.map_toArray,List.map_cons,List.map_nil];rfl) ?_;(with_reducible refine(table_Id g B (tabAt l0 k j) s wr.drew (HTj.out.same rfl) hsz (by omega) (by simpa using hBj)).mono ?_);rintro e w2 ⟨rfl,HT2,HB2,HK2⟩;refine⟨_,rfl,?_⟩;have hg2:w2.heap[go]? = some (.cells gcells 72 (0,0)):=HK2.out.2 go gcells _ _ HGB.out (by decide) (by decide);(have hcell2:w2.cell? ⟨go,k,none⟩=some (.slice A1 row.length c1):=by rw[← hcell];simp only[World.cell?,hg2,HGB.out]);have HG2:=Aside0.mk hg2;have hv2:Kd.R (Kd.int .i64) 3 w2 B (fun q=>oki q∨w2.heap.size≤q) (.slice A1 row.length c1) row:=Kd.R_mono (Kd.R_step HV1.out (fun q hq _=>idstep HK2.out (HOKI.out q hq).1)) (fun q h => .inl h);have HV2:=Aside0.mk hv2;have HH2:=Aside0.mk (Kd.H_widen (Kd.H_mono (Kd.H_step HH.out (fun q hq _ _=>idstep HK2.out hq)) (fun q _=>trivial) (ok':=fun _=>True)));have HBW2:=Aside0.mk (Nat.le_trans hBj HK2.out.1);clear hg2 hv2;refine hK.out _ _ (hcell2) (fun hHeld=>?_);clear hK K;refine nq_ (N:=some 34) ?_;refine one_ (i:=9) (N:=some 35) (bm_ 13 1023) rfl rfl (by kernel_rfl) (by decide) (fun K hK=>?_);refine value_ (w1:=?_) (v:=?_) (by rfl) rfl ?_ ?_;rotate_left 2
      ·
       go_simp;constructor;(· rfl);(· rfl)
      refine hK.out _ _ (cell_alloc_of hcell2 _) (fun hHeld=>?_);clear hK K;refine nq_ (N:=some 35) ?_;refine last_ (i:=10) (N:=some 36) (bm_ 13 2047) rfl rfl (by kernel_rfl) (by decide) (fun K hK=>?_);refine Kd.R_append_step (Kd.int .i64) (w0:=w2) B (by rfl) (.tmp 31) (.tmp 35) 72 3 (.int .i64 0) 8 rfl Tryz.underlying72 info3 rfl (by decide) (by decide) (.slice A1 row.length c1) row (place s (tabAt l0 k j):Int) [.int .i64 (place s (tabAt l0 k j):Int)] (fun q=>oki q∨w2.heap.size≤q) (fun _=>False) rfl rfl rfl (fun _ h=>h.elim) (fun _ h => .inr h) ?aO (Below.refl _ _) HBW2.out (by omega) ?_;(case aO=>exact HV2.out);intro v3 w3 hr3 hb3 hg3 hat3;obtain⟨A3,c3,hv3⟩:=Kd.R_slice hr3;subst hv3;have hgn:some go≠(Value.slice A1 row.length c1).ownBlock:=Kd.R_ne HV2.out HG2.out (by decide);have hgo2:go < w2.heap.size:=blk_lt HG2.out;have hg3b:=(hg3.block go hgo2 hgn).trans HG2.out;(have hcell3:w3.cell? ⟨go,k,none⟩=some (.slice A1 row.length c1):=by rw[← hcell2];simp only[World.cell?,hg3b,HG2.out]);have hfr3:w3.frozen? ⟨go,k,none⟩=false:=frozen_of_row _ _ _ _ _ hg3b;have HR3:=Aside0.mk hr3;have HB3:=Aside0.mk hb3;have HG3:=Aside0.mk hg3;have HG3B:=Aside0.mk hg3b;clear hr3 hb3 hg3 hg3b hat3 hgn hcell2;refine hK.out _ _ ?_;clear hK K;refine nq_ (N:=some 36) ?_;refine pq_ (i:=11) (N:=some 37) (bm_ 13 4095) ?_;refine last_ (i:=12) (N:=none) (bm_ 13 8191) rfl rfl (by kernel_rfl) (by decide) (fun K hK=>?_);refine skip_ (w1:=?_) (by rfl) rfl ?_ ?_;rotate_left;(· go_simp;rfl);refine hK.out _ _ ?_;clear hK K;refine done_ (by kernel_rfl) ?_;clear hcell hcell3 hfr3;go_wp2;go_roundw;(case measure=>simp[intOf];omega)
      case rel =>
       have hr3':=HR3.out;(rw[List.length_append,List.length_singleton] at hr3');refine⟨j+1,by omega,by go_num,?_,?_,?_⟩;(· exact⟨by rw[← HRS.out];exact rows_put HH2.out HV2.out HG3.out hr3' (fun q hq=>(HOKI.out q hq).2) hgo2 hrl hlt⟩);(· exact⟨by rw[← HTS.out];exact table_put HT2.out HV2.out HG3.out HG3B.out⟩);(· exact⟨((HBj.out.drew.trans HB2.out).trans HB3.out).setCell (p:=⟨go,k,none⟩) (Kd.S_base HSj.out go rfl) _⟩)
     (· (have hj':j=l.length:=by omega);subst hj';go_wp2;go_roundw;(case measure=>simp[intOf];omega);(case rel=>exact⟨k+1,by omega,by go_num,by rw[← rowsAt_end l0 k hlt,HL.out];exact HSj,by rw[← tabAt_end l0 k hlt,HL.out];exact HTj,HBj⟩))
   (· (have hk':k=l0.length:=by omega);subst hk';go_wp2;go_ret;exact⟨_,rfl,by simpa [idsAll,HBe.out] using HS.out,by rw[HBe.out];exact HB.out⟩)
 (· cases h)
end Go.Proofs.YtbbhdbeaikclcaaGreat.X
namespace Go.Proofs
open Go.Shelf
def Tryz.lays143_ren:Go.Shelf.Ren:=⟨fun|143=>93|219=>107|217=>118|225=>119|224=>120|267=>121|266=>128|314=>129|n=>n,fun|9=>9|3=>3|4=>4|5=>5|46=>157|146=>170|51=>108|n=>n,fun|1=>0|n=>n⟩
theorem Tryz.lays143:Go.Proofs.Lays.n143 Tryz.prog Tryz.lays143_ren:={
  mixed:=by kernel_rfl
  f143:=Tryz.func93.trans (congrArg some (by kernel_rfl))
  f217:=Tryz.func118.trans (congrArg some (by kernel_rfl))
  f219:=Tryz.func107.trans (congrArg some (by kernel_rfl))
  f224:=Tryz.func120.trans (congrArg some (by kernel_rfl))
  f225:=Tryz.func119.trans (congrArg some (by kernel_rfl))
  f266:=Tryz.func128.trans (congrArg some (by kernel_rfl))
  f267:=Tryz.func121.trans (congrArg some (by kernel_rfl))
  f314:=Tryz.func129.trans (congrArg some (by kernel_rfl))
  t3:=Tryz.underlying3
  a3:=Tryz.isAgg3
  z3:=Tryz.sizeOf3
  v3:=Tryz.zeroValue3
  t4:=Tryz.underlying4
  a4:=Tryz.isAgg4
  z4:=Tryz.sizeOf4
  v4:=Tryz.zeroValue4
  t5:=Tryz.underlying5
  a5:=Tryz.isAgg5
  z5:=Tryz.sizeOf5
  v5:=Tryz.zeroValue5
  t9:=Tryz.underlying9
  a9:=Tryz.isAgg9
  z9:=Tryz.sizeOf9
  v9:=Tryz.zeroValue9
  t46:=Tryz.underlying157
  a46:=Tryz.isAgg157
  z46:=Tryz.sizeOf157
  v46:=Tryz.zeroValue157
  t51:=Tryz.underlying108
  a51:=Tryz.isAgg108
  z51:=Tryz.sizeOf108
  v51:=Tryz.zeroValue108
  t146:=Tryz.underlying170
  a146:=Tryz.isAgg170
  z146:=Tryz.sizeOf170
  v146:=Tryz.zeroValue170
  g1:=by kernel_rfl }
open Go.RowKit Go.Lib in
theorem Tryz.strings_Index_one (s:ByteArray) (c:UInt8) (w:World) :
    Calls Tryz.prog 93 #[.string s, .string ⟨#[c]⟩] w fun e w'=>e = .returned (.int .i64 (Lib.indexByte s.data.toList c))∧w'=w:=Any.strings_Index_one Tryz.lays143 s c w
def Tryz.lays212_ren:Go.Shelf.Ren:=⟨fun|212=>98|263=>111|264=>112|n=>n,fun|46=>157|51=>108|146=>170|53=>172|148=>173|n=>n,fun|n=>n⟩
theorem Tryz.lays212:Go.Proofs.Lays.n212 Tryz.prog Tryz.lays212_ren:={
  mixed:=by kernel_rfl
  f212:=Tryz.func98.trans (congrArg some (by kernel_rfl))
  f263:=Tryz.func111.trans (congrArg some (by kernel_rfl))
  f264:=Tryz.func112.trans (congrArg some (by kernel_rfl))
  t46:=Tryz.underlying157
  a46:=Tryz.isAgg157
  z46:=Tryz.sizeOf157
  v46:=Tryz.zeroValue157
  t51:=Tryz.underlying108
  a51:=Tryz.isAgg108
  z51:=Tryz.sizeOf108
  v51:=Tryz.zeroValue108
  t53:=Tryz.underlying172
  a53:=Tryz.isAgg172
  z53:=Tryz.sizeOf172
  v53:=Tryz.zeroValue172
  t146:=Tryz.underlying170
  a146:=Tryz.isAgg170
  z146:=Tryz.sizeOf170
  v146:=Tryz.zeroValue170
  t148:=Tryz.underlying173
  a148:=Tryz.isAgg173
  z148:=Tryz.sizeOf173
  v148:=Tryz.zeroValue173 }
open Go.RowKit Go.Lib in
theorem Tryz.bits_Mul (x y:Nat) (hx:x < 18446744073709551616) (hy:y < 18446744073709551616) (w:World) :
    Calls Tryz.prog 98 #[.int .u64 x, .int .u64 y] w fun e w'=>e = .returned (.tuple #[.int .u64 ((x * y / 18446744073709551616:Nat):Int), .int .u64 ((x * y % 18446744073709551616:Nat):Int)])∧w'=w:=Any.bits_Mul Tryz.lays212 x y hx hy w
end Go.Proofs
namespace Go.Proofs.YtbbhdbeaikclcaaGreat.X
open Go.RowKit Go.Proofs.YtbbhdbeaikclcaaGreatW.PrintWords Go.Proofs.YtbbhdbeaikclcaaGreatW.PrintLast Go.Proofs.YtbbhdbeaikclcaaGreatW.PrintMore
def strings_Index.f (s sub:ByteArray):Option Int:=match sub.data.toList with|[c]=>some (Lib.indexByte s.data.toList c)|_=>none
theorem one_byte {sub:ByteArray} {c:UInt8} (h:sub.data.toList=[c]):sub=⟨#[c]⟩:=ByteArray.ext (Array.toList_inj.1 h)
theorem strings_Index.calls (a0 a1:ByteArray) (r:Int) (w:World) (h:strings_Index.f a0 a1=some r):Calls Tryz.prog 93 #[.string a0, .string a1] w fun e w'=>e = .returned (.int .i64 r)∧Drawn0 w w':=by
 (unfold strings_Index.f at h);(split at h);(· rename_i c e;obtain rfl:=one_byte e;have h:=Option.some.inj h;subst h;refine(Tryz.strings_Index_one a0 c w).mono ?_;rintro e w1 ⟨rfl,he⟩;exact⟨rfl,he ▸ Drawn0.refl _⟩);(· cases h)
end Go.Proofs.YtbbhdbeaikclcaaGreat.X
namespace Go.Proofs.YtbbhdbeaikclcaaGreat.X
open Go.RowKit Go.Proofs.YtbbhdbeaikclcaaGreatW.PrintWords Go.Proofs.YtbbhdbeaikclcaaGreatW.PrintLast Go.Proofs.YtbbhdbeaikclcaaGreatW.PrintMore
attribute [local go_sem] max2_int min2_int max_two min_two max_three min_three max_four min_four
def lines_May.l0:Nat→List ByteArray→List ByteArray→Int→Int→Option (Bool)
  | 0,_,_,_,_=>none
  | k+1,x0,x7,x8,x9=>if x9 < x8 then (if 0≤x9 then (if x9 < (x7.length:Int) then ((strings_Index.f (rdOf ByteArray.empty x7 x9) (⟨#[10]⟩:ByteArray)).bind fun t102=>(if t102 < 0 then (if ((rdOf ByteArray.empty x7 x9).size:Int) > 0 then (if (x9=(wrap64 ((x0.length:Int) - 1))) then (lines_May.l0 k x0 x7 x8 (wrap64 (x9+1))) else (some false)) else (some false)) else (if t102=(wrap64 (((rdOf ByteArray.empty x7 x9).size:Int) - 1)) then (lines_May.l0 k x0 x7 x8 (wrap64 (x9+1))) else (some false)))) else (none)) else (none)) else (some true)
def lines_May.f (k:Nat) (l0:List ByteArray):Option (Bool):=lines_May.l0 k l0 l0 (l0.length:Int) 0
theorem lines_May.calls (k:Nat) (A0:Option Addr) (c0:Nat) (l0:List ByteArray) (r:Bool) (w:World) (hr0:Kd.C Kd.string w A0 l0.length l0) (hc0:l0.length≤c0) (h:lines_May.f k l0=some r) :
    Calls Tryz.prog 63 #[.slice A0 l0.length c0] w fun e w'=>e = .returned (.bool r)∧Drawn0 w w':=by
 have HR0:=Aside0.mk hr0;have HC0:=Aside0.mk hc0;clear hr0 hc0;have H:=h;(rw[lines_May.f] at H);clear h;have H':=Aside0.mk H;clear H;go_enter Tryz.func63,Tryz.ntmps63;go_wp2
 go_loopg [9] k (fun kq v9 w' => ∃ (x9_1:Int),v9 = .int .i64 x9_1∧Aside0 (lines_May.l0 kq l0 l0 (l0.length:Int) x9_1=some r)∧Aside0 (kq≤k)∧Drawn0 w w')
 (case atStart=>exact⟨(0),rs_,H',⟨Nat.le_refl _⟩,d0_⟩)
 case round =>
  clear H';obtain⟨x9_1,rfl,HA,HK1,⟨m1,rfl⟩⟩:=hrel
  cases gk with
  | zero=>exact absurd HA.out (by simp[lines_May.l0])
  | succ k1 =>
   have H:=HA.out;clear HA;(simp only[lines_May.l0] at H)
   by_cases c2:x9_1 < (l0.length:Int)
   ·
    (rw[if_pos c2] at H);have c2b0:decide (x9_1 < (l0.length:Int))=true:=decide_eq_true c2;clear c2
    by_cases c3:0≤x9_1
    ·
     (rw[if_pos c3] at H);have c3b0:decide (0≤x9_1)=true:=decide_eq_true c3;clear c3
     by_cases c4:x9_1 < (l0.length:Int)
     ·
      (rw[if_pos c4] at H);have c4b0:decide (x9_1 < (l0.length:Int))=true:=decide_eq_true c4;clear c4;replace H:=Option.bind_eq_some_iff.mp H;obtain⟨t102,A50,H⟩:=H;(try dsimp only at H);have A5:=Aside0.mk A50;clear A50
      by_cases c6:t102 < 0
      ·
       (rw[if_pos c6] at H);have c6b0:decide (t102 < 0)=true:=decide_eq_true c6;clear c6
       by_cases c7:((rdOf ByteArray.empty l0 x9_1).size:Int) > 0
       ·
        (rw[if_pos c7] at H);have c7b0:decide (0 < ((rdOf ByteArray.empty l0 x9_1).size:Int))=true:=decide_eq_true c7;have c7b1:decide (0 < (rdOf ByteArray.empty l0 x9_1).size)=true:=decide_eq_true (by omega);clear c7
        by_cases c8:(x9_1=(wrap64 ((l0.length:Int) - 1)))
        ·
         (rw[if_pos c8] at H);have c8b0:(x9_1 == (wrap64 ((l0.length:Int) - 1)))=true:=beq_iff_eq.mpr c8;have c8b1:(x9_1 != (wrap64 ((l0.length:Int) - 1)))=false:=bne_eq_false_iff_eq.mpr c8;clear c8;have H':=Aside0.mk H;clear H;have p101:0≤(x9_1:Int):=dt_;have q101:x9_1 < (l0.length:Int):=dt_;obtain⟨ad101,e101,hx101_0⟩:=Kd.at_string HR0.out x9_1 p101 q101;cases e101;replace p101:=eq_true p101;replace q101:=eq_true q101;(go_wp2_with (first|((with_reducible refine gate_callee (f:=93) rfl ?_);refine goesL_ (some 15) rfl rfl Tryz.func93 (by kernel_rfl) rfl #[.string (rdOf ByteArray.empty l0 x9_1), .string (⟨#[10]⟩:ByteArray)] rfl am_ ?_;(with_reducible refine(strings_Index.calls (rdOf ByteArray.empty l0 x9_1) (⟨#[10]⟩:ByteArray) t102 _ A5.out).mono ?_);rintro e w' ⟨rfl,⟨nd,rfl⟩⟩;refine⟨_,rfl,?_⟩)))
         go_roundg k1
         (case measure=>have:=HK1.out;omega);(case rel=>exact⟨(wrap64 (x9_1+1)),rs_,H',⟨by have:=HK1.out;omega⟩,d0_⟩)
        (· (rw[if_neg c8] at H);have c8b0:(x9_1 == (wrap64 ((l0.length:Int) - 1)))=false:=beq_eq_false_iff_ne.mpr c8;have c8b1:(x9_1 != (wrap64 ((l0.length:Int) - 1)))=true:=bne_iff_ne.mpr c8;obtain rfl:=Option.some.inj H;have p101:0≤(x9_1:Int):=dt_;have q101:x9_1 < (l0.length:Int):=dt_;obtain⟨ad101,e101,hx101_0⟩:=Kd.at_string HR0.out x9_1 p101 q101;cases e101;replace p101:=eq_true p101;replace q101:=eq_true q101;(go_wp2_with (first|((with_reducible refine gate_callee (f:=93) rfl ?_);refine goesL_ (some 15) rfl rfl Tryz.func93 (by kernel_rfl) rfl #[.string (rdOf ByteArray.empty l0 x9_1), .string (⟨#[10]⟩:ByteArray)] rfl am_ ?_;(with_reducible refine(strings_Index.calls (rdOf ByteArray.empty l0 x9_1) (⟨#[10]⟩:ByteArray) t102 _ A5.out).mono ?_);rintro e w' ⟨rfl,⟨nd,rfl⟩⟩;refine⟨_,rfl,?_⟩)));go_ret;exact⟨by first|rfl|(simp;done)|(simp[*];done),d0_⟩)
       (· (rw[if_neg c7] at H);have c7b0:decide (0 < ((rdOf ByteArray.empty l0 x9_1).size:Int))=false:=decide_eq_false c7;have c7b1:decide (0 < (rdOf ByteArray.empty l0 x9_1).size)=false:=decide_eq_false (by omega);clear c7;obtain rfl:=Option.some.inj H;have p101:0≤(x9_1:Int):=dt_;have q101:x9_1 < (l0.length:Int):=dt_;obtain⟨ad101,e101,hx101_0⟩:=Kd.at_string HR0.out x9_1 p101 q101;cases e101;replace p101:=eq_true p101;replace q101:=eq_true q101;(go_wp2_with (first|((with_reducible refine gate_callee (f:=93) rfl ?_);refine goesL_ (some 15) rfl rfl Tryz.func93 (by kernel_rfl) rfl #[.string (rdOf ByteArray.empty l0 x9_1), .string (⟨#[10]⟩:ByteArray)] rfl am_ ?_;(with_reducible refine(strings_Index.calls (rdOf ByteArray.empty l0 x9_1) (⟨#[10]⟩:ByteArray) t102 _ A5.out).mono ?_);rintro e w' ⟨rfl,⟨nd,rfl⟩⟩;refine⟨_,rfl,?_⟩)));go_ret;exact⟨by first|rfl|(simp;done)|(simp[*];done),d0_⟩)
      ·
       (rw[if_neg c6] at H);have c6b0:decide (t102 < 0)=false:=decide_eq_false c6;clear c6
       by_cases c9:t102=(wrap64 (((rdOf ByteArray.empty l0 x9_1).size:Int) - 1))
       ·
        (rw[if_pos c9] at H);have c9b0:(t102 == (wrap64 (((rdOf ByteArray.empty l0 x9_1).size:Int) - 1)))=true:=beq_iff_eq.mpr c9;have c9b1:(t102 != (wrap64 (((rdOf ByteArray.empty l0 x9_1).size:Int) - 1)))=false:=bne_eq_false_iff_eq.mpr c9;clear c9;have H':=Aside0.mk H;clear H;have p101:0≤(x9_1:Int):=dt_;have q101:x9_1 < (l0.length:Int):=dt_;obtain⟨ad101,e101,hx101_0⟩:=Kd.at_string HR0.out x9_1 p101 q101;cases e101;replace p101:=eq_true p101;replace q101:=eq_true q101;(go_wp2_with (first|((with_reducible refine gate_callee (f:=93) rfl ?_);refine goesL_ (some 15) rfl rfl Tryz.func93 (by kernel_rfl) rfl #[.string (rdOf ByteArray.empty l0 x9_1), .string (⟨#[10]⟩:ByteArray)] rfl am_ ?_;(with_reducible refine(strings_Index.calls (rdOf ByteArray.empty l0 x9_1) (⟨#[10]⟩:ByteArray) t102 _ A5.out).mono ?_);rintro e w' ⟨rfl,⟨nd,rfl⟩⟩;refine⟨_,rfl,?_⟩)))
        go_roundg k1
        (case measure=>have:=HK1.out;omega);(case rel=>exact⟨(wrap64 (x9_1+1)),rs_,H',⟨by have:=HK1.out;omega⟩,d0_⟩)
       (· (rw[if_neg c9] at H);have c9b0:(t102 == (wrap64 (((rdOf ByteArray.empty l0 x9_1).size:Int) - 1)))=false:=beq_eq_false_iff_ne.mpr c9;have c9b1:(t102 != (wrap64 (((rdOf ByteArray.empty l0 x9_1).size:Int) - 1)))=true:=bne_iff_ne.mpr c9;obtain rfl:=Option.some.inj H;have p101:0≤(x9_1:Int):=dt_;have q101:x9_1 < (l0.length:Int):=dt_;obtain⟨ad101,e101,hx101_0⟩:=Kd.at_string HR0.out x9_1 p101 q101;cases e101;replace p101:=eq_true p101;replace q101:=eq_true q101;(go_wp2_with (first|((with_reducible refine gate_callee (f:=93) rfl ?_);refine goesL_ (some 15) rfl rfl Tryz.func93 (by kernel_rfl) rfl #[.string (rdOf ByteArray.empty l0 x9_1), .string (⟨#[10]⟩:ByteArray)] rfl am_ ?_;(with_reducible refine(strings_Index.calls (rdOf ByteArray.empty l0 x9_1) (⟨#[10]⟩:ByteArray) t102 _ A5.out).mono ?_);rintro e w' ⟨rfl,⟨nd,rfl⟩⟩;refine⟨_,rfl,?_⟩)));go_ret;exact⟨by first|rfl|(simp;done)|(simp[*];done),d0_⟩)
     (· exact nx_ c4 H)
    (· exact nx_ c3 H)
   (· (rw[if_neg c2] at H);have c2b0:decide (x9_1 < (l0.length:Int))=false:=decide_eq_false c2;clear c2;obtain rfl:=Option.some.inj H;go_wp2;go_ret;exact⟨by first|rfl|(simp;done)|(simp[*];done),d0_⟩)
def stringslite_HasSuffix.f (a0:ByteArray) (a1:ByteArray):Option (Bool):=if (a0.size:Int) ≥ (a1.size:Int) then (if 0≤(wrap64 ((a0.size:Int) - (a1.size:Int))) then (if (wrap64 ((a0.size:Int) - (a1.size:Int)))≤(a0.size:Int) then (some ((a0.extract ((wrap64 ((a0.size:Int) - (a1.size:Int))):Int).toNat a0.size).toList == a1.toList)) else (none)) else (none)) else (some false)
theorem stringslite_HasSuffix.calls (a0:ByteArray) (a1:ByteArray) (r:Bool) (w:World) (h:stringslite_HasSuffix.f a0 a1=some r) :
    Calls Tryz.prog 134 #[.string a0, .string a1] w fun e w'=>e = .returned (.bool r)∧Drawn0 w w':=by
 have H:=h;(rw[stringslite_HasSuffix.f] at H);clear h
 by_cases c3:(a0.size:Int) ≥ (a1.size:Int)
 ·
  (rw[if_pos c3] at H);have c3b0:decide ((a1.size:Int)≤(a0.size:Int))=true:=decide_eq_true c3;have c3b1:decide (a1.size≤a0.size)=true:=decide_eq_true (Int.ofNat_le.mp c3);clear c3;obtain⟨ji4,hji4⟩ : ∃ j_:Int,(wrap64 ((a0.size:Int) - (a1.size:Int)))=j_:=⟨_,rfl⟩;(first|rw[hji4] at H|simp only[hji4] at H);have hji4w:(IntKind.i64.wrap ((a0.size:Int) - (a1.size:Int)))=ji4:=(i64_w _).trans hji4
  by_cases c5:0≤(ji4)
  ·
   (rw[if_pos c5] at H);have c5b0:=eq_true c5;have c5b1:decide (0≤(ji4))=true:=decide_eq_true c5;clear c5
   by_cases c6:(ji4)≤(a0.size:Int)
   (· (rw[if_pos c6] at H);have c6b0:=eq_true c6;have c6b1:decide ((ji4)≤(a0.size:Int))=true:=decide_eq_true c6;clear c6;obtain rfl:=Option.some.inj H;go_enter Tryz.func134,Tryz.ntmps134;go_wp2;go_ret;exact⟨by first|rfl|(simp;done)|(simp only[← hji4] <;> (first|rfl|simp))|(simp[*];done),d0_⟩);(· exact nx_ c6 H)
  (· exact nx_ c5 H)
 (· (rw[if_neg c3] at H);have c3b0:decide ((a1.size:Int)≤(a0.size:Int))=false:=decide_eq_false c3;have c3b1:decide (a1.size≤a0.size)=false:=decide_eq_false (fun h=>c3 (Int.ofNat_le.mpr h));clear c3;obtain rfl:=Option.some.inj H;go_enter Tryz.func134,Tryz.ntmps134;go_wp2;go_ret;exact⟨by first|rfl|(simp;done)|(simp[*];done),d0_⟩)
def strings_HasSuffix.f (a0:ByteArray) (a1:ByteArray):Option (Bool):=(stringslite_HasSuffix.f a0 a1).bind fun t103=>(some t103)
theorem strings_HasSuffix.calls (a0:ByteArray) (a1:ByteArray) (r:Bool) (w:World) (h:strings_HasSuffix.f a0 a1=some r) :
    Calls Tryz.prog 127 #[.string a0, .string a1] w fun e w'=>e = .returned (.bool r)∧Drawn0 w w':=by
 have H:=h;(rw[strings_HasSuffix.f] at H);clear h;replace H:=Option.bind_eq_some_iff.mp H;obtain⟨t103,A30,H⟩:=H;(try dsimp only at H);have A3:=Aside0.mk A30;clear A30;obtain rfl:=Option.some.inj H;go_enter Tryz.func127,Tryz.ntmps127;(go_wp2_with (first|((with_reducible refine gate_callee (f:=134) rfl ?_);refine goesL_ (some 7) rfl rfl Tryz.func134 (by kernel_rfl) rfl #[.string a0, .string a1] rfl am_ ?_;(with_reducible refine(stringslite_HasSuffix.calls a0 a1 t103 _ A3.out).mono ?_);rintro e w' ⟨rfl,⟨nd,rfl⟩⟩;refine⟨_,rfl,?_⟩)));go_ret;exact⟨by first|rfl|(simp;done)|(simp[*];done),d0_⟩
def lines_Open.f (l0:List ByteArray):Option (Bool):=if (l0.length:Int) > 0 then (if 0≤(wrap64 ((l0.length:Int) - 1)) then (if (wrap64 ((l0.length:Int) - 1)) < (l0.length:Int) then ((strings_HasSuffix.f (rdOf ByteArray.empty l0 (wrap64 ((l0.length:Int) - 1))) (⟨#[10]⟩:ByteArray)).bind fun t105=>(some (!t105))) else (none)) else (none)) else (some false)
theorem lines_Open.calls (A0:Option Addr) (c0:Nat) (l0:List ByteArray) (r:Bool) (w:World) (hr0:Kd.C Kd.string w A0 l0.length l0) (hc0:l0.length≤c0) (h:lines_Open.f l0=some r) :
    Calls Tryz.prog 116 #[.slice A0 l0.length c0] w fun e w'=>e = .returned (.bool r)∧Drawn0 w w':=by
 have HR0:=Aside0.mk hr0;have HC0:=Aside0.mk hc0;clear hr0 hc0;have H:=h;(rw[lines_Open.f] at H);clear h
 by_cases c2:(l0.length:Int) > 0
 ·
  (rw[if_pos c2] at H);have c2b0:decide (0 < (l0.length:Int))=true:=decide_eq_true c2;have c2b1:decide (0 < l0.length)=true:=decide_eq_true (by omega);clear c2;obtain⟨ji3,hji3⟩ : ∃ j_:Int,(wrap64 ((l0.length:Int) - 1))=j_:=⟨_,rfl⟩;(first|rw[hji3] at H|simp only[hji3] at H);have hji3w:(IntKind.i64.wrap ((l0.length:Int) - 1))=ji3:=(i64_w _).trans hji3
  by_cases c4:0≤(ji3)
  ·
   (rw[if_pos c4] at H);have c4b0:decide (0≤(ji3))=true:=decide_eq_true c4;clear c4
   by_cases c5:(ji3) < (l0.length:Int)
   (· (rw[if_pos c5] at H);have c5b0:decide ((ji3) < (l0.length:Int))=true:=decide_eq_true c5;clear c5;replace H:=Option.bind_eq_some_iff.mp H;obtain⟨t105,A60,H⟩:=H;(try dsimp only at H);have A6:=Aside0.mk A60;clear A60;obtain rfl:=Option.some.inj H;have p104:0≤((ji3):Int):=dt_;have q104:(ji3) < (l0.length:Int):=dt_;obtain⟨ad104,e104,hx104_0⟩:=Kd.at_string HR0.out (ji3) p104 q104;cases e104;replace p104:=eq_true p104;replace q104:=eq_true q104;go_enter Tryz.func116,Tryz.ntmps116;(go_wp2_with (first|(go_at_call 127;(with_reducible refine(strings_HasSuffix.calls (rdOf ByteArray.empty l0 (ji3)) (⟨#[10]⟩:ByteArray) t105 _ A6.out).mono ?_);rintro e w' ⟨rfl,⟨nd,rfl⟩⟩)));go_ret;exact⟨by first|rfl|(simp;done)|(simp only[← hji3] <;> (first|rfl|simp))|(simp[*];done),d0_⟩);(· exact nx_ c5 H)
  (· exact nx_ c4 H)
 (· (rw[if_neg c2] at H);have c2b0:decide (0 < (l0.length:Int))=false:=decide_eq_false c2;have c2b1:decide (0 < l0.length)=false:=decide_eq_false (by omega);clear c2;obtain rfl:=Option.some.inj H;go_enter Tryz.func116,Tryz.ntmps116;go_wp2;go_ret;exact⟨by first|rfl|(simp;done)|(simp[*];done),d0_⟩)
end Go.Proofs.YtbbhdbeaikclcaaGreat.X
namespace Go.Proofs.YtbbhdbeaikclcaaGreat.X
open Go.RowKit Go.Proofs.YtbbhdbeaikclcaaGreatW.PrintWords Go.Proofs.YtbbhdbeaikclcaaGreatW.PrintLast Go.Proofs.YtbbhdbeaikclcaaGreatW.PrintMore
def endsLF (s:ByteArray):Bool:=decide (s.data.toList.getLast? = some 10)
theorem cut_last (s:ByteArray) (h:0 < s.size):(s.extract (s.size - 1) s.size).data.toList=[s.data.toList.getD (s.size - 1) 0]:=by
 have hl:s.size=s.data.toList.length:=sizeLen s;(have hlt:s.size - 1 < s.data.toList.length:=by omega)
 have:(s.extract (s.size - 1) s.size).data.toList=s.data.toList.drop (s.size - 1):=by
  rw[ByteArray.data_extract,Array.toList_extract,List.extract];rw[List.take_of_length_le];(rw[List.length_drop];omega)
 rw[this,List.drop_eq_getElem_cons hlt,List.drop_of_length_le (by omega),getD_get hlt]
theorem hasLF (s:ByteArray) (hs:s.size≤1000000000000000):strings_HasSuffix.f s ⟨#[10]⟩=some (endsLF s):=by
 have h10:(⟨#[10]⟩:ByteArray).size=1:=rfl;rw[strings_HasSuffix.f,stringslite_HasSuffix.f,h10]
 by_cases h:0 < s.size
 ·
  (have ew:wrap64 ((s.size:Int) - ((1:Nat):Int))=((s.size - 1:Nat):Int):=by rw[gw (by omega) (by omega)];omega);rw[if_pos (by omega),ew,if_pos (by omega),if_pos (by omega),Option.bind_some]
  congr 1
  rw[strBeq,endsLF,Int.toNat_natCast,decide_eq_decide];have hl:s.size=s.data.toList.length:=sizeLen s
  have hlast:s.data.toList.getLast? = some (s.data.toList.getD (s.size - 1) 0):=by
   rw[List.getLast?_eq_getElem?,hl,List.getElem?_eq_getElem (by omega),getD_get (by omega)]
  rw[hlast];have hcut:=cut_last s h;constructor;(· intro e;(rw[e] at hcut);have:(10:UInt8)=s.data.toList.getD (s.size - 1) 0:=(List.cons.inj hcut).1;rw[← this]);(· intro e;(rw[Option.some.inj e] at hcut);exact ByteArray.ext (Array.toList_inj.1 hcut))
 (· (have h0:s.size=0:=by omega);have hl:s.data.toList=[]:=List.eq_nil_of_length_eq_zero (by rw[← sizeLen];exact h0);(rw[if_neg (by omega),Option.bind_some,endsLF,hl];rfl))
def openB (l:List ByteArray):Bool:=decide (0 < l.length) && !endsLF (l.getD (l.length - 1) ByteArray.empty)
theorem openB_f (l:List ByteArray) (hl:l.length≤1000000000000) (hs : ∀ s ∈ l,s.size≤1000000000000000):lines_Open.f l=some (openB l):=by
 rw[lines_Open.f,openB]
 by_cases h:0 < l.length
 (· (have ew:wrap64 ((l.length:Int) - 1)=((l.length - 1:Nat):Int):=by rw[gw (by omega) (by omega)];omega);have hz:=hs _ (List.getElem_mem (show l.length - 1 < l.length by omega));(have hg:l.getD (l.length - 1) ByteArray.empty=l[l.length - 1]:=by simp[show l.length - 1 < l.length by omega]);(rw[if_pos (by omega),ew,if_pos (by omega),if_pos (by omega),rdOfN (by omega),hasLF _ hz,Option.bind_some,decide_eq_true h,hg];rfl));(· (rw[if_neg (by omega),decide_eq_false h];rfl))
abbrev lf:ByteArray:=⟨#[10]⟩
def unionStep (out k:List ByteArray):List ByteArray:=(if 0 < k.length∧openB out=true then out.set (out.length - 1) (out.getD (out.length - 1) ByteArray.empty ++ lf) else out) ++ k
def unionF (l:List (List ByteArray)):List ByteArray:=l.foldl unionStep []
theorem unionStep_len (out k:List ByteArray):(unionStep out k).length=out.length+k.length:=by
 (unfold unionStep;split <;> simp)
theorem unionF_snoc (l:List (List ByteArray)) (y:List ByteArray):unionF (l ++ [y])=unionStep (unionF l) y:=by rw[unionF,unionF,List.foldl_append];rfl
def Short (n:Nat) (l:List ByteArray):Prop := ∀ s ∈ l,s.size≤n
theorem unionStep_short {n m:Nat} {out k:List ByteArray} (h:Short n out) (hk:Short m k) (hm:m≤n):Short (n+1) (unionStep out k):=by
 intro s hs;(unfold unionStep at hs)
 rcases List.mem_append.1 hs with hs|hs
 ·
  (split at hs)
  ·
   rename_i hc
   rcases List.mem_or_eq_of_mem_set hs with hs|rfl
   (· (have:=h s hs;omega))
   ·
    rw[ByteArray.size_append]
    have hl:0 < out.length:=by
     have:=hc.2;(rw[openB,Bool.and_eq_true] at this);exact of_decide_eq_true this.1
    (have hg:out.getD (out.length - 1) ByteArray.empty=out[out.length - 1]:=by simp[show out.length - 1 < out.length by omega]);rw[hg];have:=h _ (List.getElem_mem (show out.length - 1 < out.length by omega));have e:lf.size=1:=rfl;omega
  (· (have:=h s hs;omega))
 (· (have:=hk s hs;omega))
theorem unionF_short {m:Nat} : ∀ (n:Nat) (l:List (List ByteArray)),l.length=n→(∀ y ∈ l,Short m y)→Short (m+n) (unionF l)
 | 0,l,h,_=>by rw[List.eq_nil_of_length_eq_zero h];intro s hs;simp[unionF] at hs
 | n+1,l,h,hm=>by
  have e:l=l.take n ++ [l[n]]:=by
   have:=List.take_append_getElem (l:=l) (i:=n) (by omega);rw[this,List.take_of_length_le (by omega)]
  rw[e,unionF_snoc];have h1:=unionF_short n (l.take n) (by rw[List.length_take];omega) (fun y hy=>hm y (List.mem_of_mem_take hy));exact unionStep_short h1 (hm _ (List.getElem_mem _)) (Nat.le_add_right _ _)
theorem unionF_len : ∀ (n:Nat) (l:List (List ByteArray)),l.length=n→(unionF l).length=(l.map List.length).sum
 | 0,l,h=>by rw[List.eq_nil_of_length_eq_zero h];rfl
 | n+1,l,h=>by
  have e:l=l.take n ++ [l[n]]:=by
   have:=List.take_append_getElem (l:=l) (i:=n) (by omega);rw[this,List.take_of_length_le (by omega)]
  (rw[e,unionF_snoc,unionStep_len,unionF_len n _ (by rw[List.length_take];omega),List.map_append,List.sum_append];simp)
def UnIn (w0 W:World) (B gb:Nat) (out:List ByteArray):Prop :=
  ∃ vo,W.heap[gb]? = some (.cells #[vo] 22 (0,0))∧B≤gb∧Kd.R Kd.string 9 W B (fun _=>True) vo out∧Below B w0 W
theorem UnIn.bel {w0 W:World} {B gb:Nat} {out:List ByteArray} (h:UnIn w0 W B gb out):Below B w0 W:=by
 (obtain⟨vo,q1,q2,q4,q5⟩:=h;exact q5)
set_option maxHeartbeats 4000000 in
theorem union_1 (w0 w:World) (B gb:Nat) (out k:List ByteArray) (A:Option Addr) (c:Nat) (hB:B=w0.heap.size) (h:UnIn w0 w B gb out) (hC:Kd.F Kd.string w (fun j=>j < B) A k.length k) (hc:k.length≤c) (hz:Short 1000000000000 out) (hl:out.length+k.length≤1000000000) :
    Calls Tryz.prog 115 #[.slice A k.length c, .pointer (some ⟨gb,0,none⟩)] w fun e w'=>e = .returned (.tuple #[])∧Aside0 (UnIn w0 w' B gb (unionStep out k)):=by
 obtain⟨vo,q1,q2,q4,q5⟩:=h;obtain⟨Ao,co,rfl⟩:=Kd.R_slice q4;have HBW:Aside0 (B≤w.heap.size):=⟨by rw[hB];exact(by rw[hB] at q5;exact q5.size)⟩;have Q1:=Aside0.mk q1;have Q4:=Aside0.mk q4;have Q5:=Aside0.mk q5;have HC:=Aside0.mk hC;have HL:=Aside0.mk hl;have yb:w.cell? ⟨gb,0,none⟩=some (.slice Ao out.length co):=cell_blk q1 rfl;obtain⟨_,loc,hOC⟩:=Kd.R_reads' q4;have HOC:=Aside0.mk hOC;have HOP:Aside0 (lines_Open.f out=some (openB out)):=⟨openB_f out (by omega) (fun s hs=>by have:=hz s hs;omega)⟩;obtain⟨q,hq⟩ : ∃ q,openB out=q:=⟨_,rfl⟩;have HQ:=Aside0.mk hq;clear q1 q4 q5 hC hl hB hOC hq
 by_cases hk:0 < k.length
 ·
  have d1:decide ((0:Int) < (k.length:Int))=true:=decide_eq_true (by omega);have d2:decide (0 < k.length)=true:=decide_eq_true hk;go_enter Tryz.func115,Tryz.ntmps115;(go_wp2_with fail);refine(lines_Open.calls Ao co out (openB out) _ HOC.out loc HOP.out).mono ?_;rintro e w1' ⟨rfl,n1,hn1⟩;obtain⟨w1,hw1⟩ : ∃ w1,w1=w1':=⟨_,rfl⟩;rw[← hw1];(rw[← hw1] at hn1);have HB1:Aside0 (Below w.heap.size w w1):=⟨by rw[hn1];exact pw_below_drewN (Below.refl _ _) n1⟩;clear hw1 hn1;have Q11:=Aside0.mk (farKeep Q1.out HB1.out);have Q41:=Aside0.mk (Kd.R_below Q4.out HB1.out);have HF1:=Aside0.mk (Kd.F_below HC.out HB1.out);have HC1:=Aside0.mk (Kd.F_now HF1.out);have Q51:Aside0 (Below B w0 w1):=⟨Q5.out.trans (HB1.out.mono HBW.out)⟩;have HBW1:Aside0 (B≤w1.heap.size):=⟨Nat.le_trans HBW.out HB1.out.size⟩;have yb1:w1.cell? ⟨gb,0,none⟩=some (.slice Ao out.length co):=cell_blk Q11.out rfl;rw[HQ.out];clear yb
  cases q with
  | false =>
   have HU:Aside0 (unionStep out k=out ++ k):=⟨by rw[unionStep,if_neg (fun h=>by rw[HQ.out] at h;cases h.2)]⟩;(go_wp2_with (first|(at_builtin;refine Kd.R_append_rows Kd.string (Rr:=Kd.string.K w1) (w0:=w0) B rfl (.tmp 18) (.tmp 19) 22 9 (.string ⟨#[]⟩) 16 rfl Tryz.underlying22 info9 rfl (by decide) (by decide) (.slice Ao out.length co) out k A k.length c (fun _=>True) (fun _=>False) rfl rfl Q41.out HC1.out (fun _ _ h=>h) (fun _ h=>h.elim) (fun _ _=>trivial) Q51.out HBW1.out (by have:=HL.out;omega) ?_;intro v2 w2 ho2 hb2 hg2 hat2;obtain⟨A2',c2',hv2⟩:=Kd.R_slice ho2;subst hv2;have g2:=(hg2.block gb (blk_lt Q11.out) (Kd.R_ne Q41.out Q11.out (by decide))).trans Q11.out;have z2:w2.cell? ⟨gb,0,none⟩=some (.slice Ao out.length co):=cell_blk g2 rfl;have f2:w2.frozen? ⟨gb,0,none⟩=false:=frozen_of_row _ _ _ _ _ g2;have HO2:=Aside0.mk ho2;have HB2:=Aside0.mk hb2;have G2:=Aside0.mk g2;clear ho2 hb2 hg2 hat2 g2 yb1)));go_end0;exact⟨rfl,⟨⟨.slice A2' (out ++ k).length c2',by rw[heap_set_same G2.out];simp,q2,by rw[HU.out];exact Kd.R_set HO2.out G2.out (by decide) _ _,HB2.out.setCell (p:=⟨gb,0,none⟩) q2 _⟩⟩⟩
  | true =>
   have hol:0 < out.length:=by
    have:=HQ.out;(rw[openB,Bool.and_eq_true] at this);exact of_decide_eq_true this.1
   obtain⟨go,cap,hgo,hgB,hgl,cellsO,hgc⟩:=Kd.R_form Q41.out hol;(injection hgo with hgo1 _ hgo3);(subst hgo1;subst hgo3);obtain⟨m,hm⟩ : ∃ m,m=out.length - 1:=⟨_,rfl⟩;obtain⟨xm,fm⟩:=Kd.R_cell ByteArray.empty Q41.out (m:Int) (by omega) (by omega);have hput:=Kd.R_putg Q41.out (m:Int) (out.getD m ByteArray.empty ++ lf);(rw[rdOf,Int.toNat_natCast] at xm);(rw[Int.toNat_natCast] at fm hput);obtain⟨s,hs⟩ : ∃ s,out.getD m ByteArray.empty=s:=⟨_,rfl⟩;(rw[hs] at xm hput);obtain⟨hput1,hput2⟩:=hput;have HU:Aside0 (unionStep out k=out.set m (s ++ lf) ++ k):=⟨by rw[unionStep,if_pos ⟨hk,HQ.out⟩,← hm,hs]⟩;have hL:=HL.out;have HP1:=Aside0.mk hput1;have HP2:=Aside0.mk hput2;have hne:gb≠go:=blkNe Q11.out hgc (by decide);have hsz:(out.set m (s ++ lf)).length=out.length:=List.length_set;have g3:(w1.setCell ⟨go,m,none⟩ (.string (s ++ lf))).heap[gb]? = some (.cells #[.slice (some ⟨go,0,none⟩) out.length co] 22 (0,0)):=setKeep Q11.out hne _;have yb3:(w1.setCell ⟨go,m,none⟩ (.string (s ++ lf))).cell? ⟨gb,0,none⟩=some (.slice (some ⟨go,0,none⟩) out.length co):=cell_blk g3 rfl;have G3:=Aside0.mk g3;have HC3:Aside0 (Kd.C Kd.string (w1.setCell ⟨go,m,none⟩ (.string (s ++ lf))) A k.length k):=⟨Kd.F_now (Kd.F_step HF1.out (fun j hj _=>heap_set_other (by omega) _))⟩;have HB3:Aside0 (Below B w0 (w1.setCell ⟨go,m,none⟩ (.string (s ++ lf)))):=⟨Q51.out.setCell (p:=⟨go,m,none⟩) hgB _⟩
   have hss:s.size≤1000000000000:=by
    (rw[← hs,getD_get (by omega)];exact hz _ (List.getElem_mem _))
   have HMM:=Aside0.mk hm;subst hm;clear hput1 hput2 g3 hs hgc hne;(go_wp2_with (first|(at_builtin;refine Kd.R_append_rows Kd.string (Rr:=Kd.string.K (w1.setCell ⟨go,out.length - 1,none⟩ (.string (s ++ lf)))) (w0:=w0) B rfl (.tmp 18) (.tmp 19) 22 9 (.string ⟨#[]⟩) 16 rfl Tryz.underlying22 info9 rfl (by decide) (by decide) (.slice (some ⟨go,0,none⟩) out.length co) (out.set (out.length - 1) (s ++ lf)) k A k.length c (fun _=>True) (fun _=>False) rfl rfl HP1.out HC3.out (fun _ _ h=>h) (fun _ h=>h.elim) (fun _ _=>trivial) HB3.out (Nat.le_trans HBW1.out HP2.out.size) (by have:=HL.out;omega) ?_;intro v2 w2 ho2 hb2 hg2 hat2;obtain⟨A2',c2',hv2⟩:=Kd.R_slice ho2;subst hv2;have g2:=(hg2.block gb (blk_lt G3.out) (Kd.R_ne HP1.out G3.out (by decide))).trans G3.out;have z2:w2.cell? ⟨gb,0,none⟩=some (.slice (some ⟨go,0,none⟩) out.length co):=cell_blk g2 rfl;have f2:w2.frozen? ⟨gb,0,none⟩=false:=frozen_of_row _ _ _ _ _ g2;have HO2:=Aside0.mk ho2;have HB2:=Aside0.mk hb2;have G2:=Aside0.mk g2;clear ho2 hb2 hg2 hat2 g2 yb3)));go_end0;refine⟨rfl,⟨⟨.slice A2' (out.set (out.length - 1) (s ++ lf) ++ k).length c2',?_,q2,by rw[HU.out];exact Kd.R_set HO2.out G2.out (by decide) _ _,HB2.out.setCell (p:=⟨gb,0,none⟩) q2 _⟩⟩⟩;(rw[heap_set_same G2.out];simp)
 (· have hk0:k=[]:=List.eq_nil_of_length_eq_zero (by omega);subst hk0;have HU:Aside0 (unionStep out []=out ++ []):=⟨by rw[unionStep,if_neg (fun h=>by have:=h.1;simp at this)]⟩;go_enter Tryz.func115,Tryz.ntmps115;(go_wp2_with (first|(at_builtin;refine Kd.R_append_rows Kd.string (Rr:=Kd.string.K w) (w0:=w0) B rfl (.tmp 18) (.tmp 19) 22 9 (.string ⟨#[]⟩) 16 rfl Tryz.underlying22 info9 rfl (by decide) (by decide) (.slice Ao out.length co) out [] A 0 c (fun _=>True) (fun _=>False) rfl rfl Q4.out (Kd.F_now HC.out) (fun _ _ h=>h) (fun _ h=>h.elim) (fun _ _=>trivial) Q5.out HBW.out (by have:=HL.out;omega) ?_;intro v2 w2 ho2 hb2 hg2 hat2;obtain⟨A2',c2',hv2⟩:=Kd.R_slice ho2;subst hv2;have g2:=(hg2.block gb (blk_lt Q1.out) (Kd.R_ne Q4.out Q1.out (by decide))).trans Q1.out;have z2:w2.cell? ⟨gb,0,none⟩=some (.slice Ao out.length co):=cell_blk g2 rfl;have f2:w2.frozen? ⟨gb,0,none⟩=false:=frozen_of_row _ _ _ _ _ g2;have HO2:=Aside0.mk ho2;have HB2:=Aside0.mk hb2;have G2:=Aside0.mk g2;clear ho2 hb2 hg2 hat2 g2 yb)));go_end0;exact⟨rfl,⟨⟨.slice A2' (out ++ []).length c2',by rw[heap_set_same G2.out];simp,q2,by rw[HU.out];exact Kd.R_set HO2.out G2.out (by decide) _ _,HB2.out.setCell (p:=⟨gb,0,none⟩) q2 _⟩⟩⟩)
set_option maxHeartbeats 4000000 in
theorem pick_union (A:Option Addr) (c:Nat) (l:List (List ByteArray)) (w:World) (hC:Kd.C (Kd.slice 9 Kd.string) w A l.length l) (hc:l.length≤c) (hn:l.length≤1000000) (hz : ∀ y ∈ l,Short 1000000000 y) (hs:(l.map List.length).sum≤1000000000) :
    Calls Tryz.prog 103 #[.slice A l.length c] w fun e w' => ∃ v,e = .returned v∧Aside0 (Kd.R Kd.string 9 w' w.heap.size (fun _=>True) v (unionF l))∧Aside0 (Below w.heap.size w w'):=by
 have HC:=Aside0.mk hC;have HF:Aside0 (Kd.F (Kd.slice 9 Kd.string) w (fun k=>k < w.heap.size) A l.length l):=⟨Kd.C_F (Kd.heap_slice _ Kd.heap_string) hC⟩;have HZ:=Aside0.mk hz;have HS:=Aside0.mk hs;(have hmf : ∀ (fn:Fn) (first cap:Array Value) (w:World),(Instr.makeFunc fn first cap).run Tryz.prog w = .ok (.func fn first cap) w:=fun _ _ _ _=>rfl);clear hC hz hs;go_enter Tryz.func103,Tryz.ntmps103;(go_wp2_with fail);obtain⟨w1,hw1⟩ : ∃ w1,w.alloc (.cells #[.slice none 0 0] 22)=w1:=⟨_,rfl⟩;have HI1:Aside0 (UnIn w w1 w.heap.size w.heap.size []):=⟨⟨.slice none 0 0,by rw[← hw1];exact blk_new _ _,Nat.le_refl _,Kd.R_nil _ _ _ _ _,by rw[← hw1];exact newBelow _ _⟩⟩;rw[hw1];clear hw1
 go_loopw [10] (fun iv wr => ∃ (k:Nat),iv = .int .i64 k∧k≤l.length∧Aside0 (UnIn w wr w.heap.size w.heap.size (unionF (l.take k)))) (fun iv _=>l.length - (intOf iv).toNat)
 (case atStart=>exact⟨0,rfl,Nat.zero_le _,HI1⟩)
 case round =>
  obtain⟨k,rfl,hk,HI⟩:=hrel;have HBr:Aside0 (Below w.heap.size w wr):=⟨HI.out.bel⟩
  by_cases hlt:k < l.length
  ·
   obtain⟨ad,cs,rfl,hcl,hFK,hcell,_⟩:=Kd.F_get (Kd.F_below HF.out HBr.out) [] (k:Int) (by omega) (by omega);(have hy:l.getD (k:Int).toNat []=l[k]:=by simp[hlt]);(have htk:unionF (l.take (k+1))=unionStep (unionF (l.take k)) l[k]:=by rw[← List.take_append_getElem hlt,unionF_snoc]);have hsh:=unionF_short (m:=1000000000) k (l.take k) (by rw[List.length_take];omega) (fun y hy=>HZ.out y (List.mem_of_mem_take hy))
   have hln:(unionF (l.take k)).length+l[k].length≤1000000000:=by
    have:=HS.out;rw[unionF_len _ _ rfl];(have e:l=l.take k ++ (l[k] :: l.drop (k+1)):=by rw[← dropCons hlt,List.take_append_drop])
    have h2:(l.map List.length).sum=((l.take k).map List.length).sum+(l[k].length+((l.drop (k+1)).map List.length).sum):=by
     conv=>lhs;rw[e]
     rw[List.map_append,List.sum_append,List.map_cons,List.sum_cons]
    omega
   obtain⟨y,hye⟩ : ∃ y,l[k]=y:=⟨_,rfl⟩;(rw[hy,hye] at hFK);(rw[hye] at htk hln);obtain⟨Ay,cy,rfl,ly,hFy⟩:=Kd.FK_slice_open hFK;have xy:=hcell 0 _ rfl;(have kk:(k:Int).toNat=k:=by omega);(rw[kk] at xy)
   replace xy:wr.cell? (ad.add k)=some (.slice Ay y.length cy):=by
    (have e:k * (Kd.slice 9 Kd.string).sz+0=k:=by show k * 1+0=k;omega);(rw[e] at xy;exact xy)
   have HTK:=Aside0.mk htk;have HFY:=Aside0.mk hFy;have HSH:Aside0 (Short 1000000000000 (unionF (l.take k))):=⟨fun s hs=>by have:=hsh s hs;omega⟩;have HLN:=Aside0.mk hln;clear kk hy hye htk hFK hcell hFy hsh hln;(go_wp2_with fail);refine(union_1 w _ w.heap.size w.heap.size _ y Ay cy rfl HI.out HFY.out ly HSH.out HLN.out).mono ?_;rintro e w2 ⟨rfl,HI2⟩;go_wp2;go_roundw;(case measure=>simp[intOf];omega);(case rel=>exact⟨k+1,by go_num,by omega,by rw[HTK.out];exact HI2⟩)
  (· (have hk':k=l.length:=by omega);subst hk';(rw[List.take_length] at HI);obtain⟨vo,q1,q2,q4,q5⟩:=HI.out;have cb:wr.cell? ⟨w.heap.size,0,none⟩=some vo:=cell_blk q1 rfl;have Q4:=Aside0.mk q4;clear q1 q4 q5;go_wp2;go_ret;exact⟨_,rfl,Q4,HBr⟩)
def pieceF (x:List ByteArray) (l:List (List ByteArray)) (fav:Int) (un:Bool):Piece :=
  if (differF x l).length=0 then ⟨false,x,[],[]⟩
  else if (differF x l).length=1 then ⟨false,(differF x l).getD 0 [],[],[]⟩
  else if 1≤fav∧fav≤(l.length:Int) then ⟨false,l.getD (fav - 1).toNat [],[],[]⟩
  else if un=true then ⟨false,unionF (differF x l),[],[]⟩
  else ⟨true,[],x,l⟩
theorem differF_ind (x:List ByteArray) : ∀ (n:Nat) (l:List (List ByteArray)),l.length=n→(∀ y ∈ differF x l,y ∈ l)∧((differF x l).map List.length).sum≤(l.map List.length).sum
 | 0,l,h=>by rw[List.eq_nil_of_length_eq_zero h];exact⟨fun y hy=>hy,Nat.le_refl _⟩
 | n+1,l,h=>by
  have e:l=l.take n ++ [l[n]]:=by
   have:=List.take_append_getElem (l:=l) (i:=n) (by omega);rw[this,List.take_of_length_le (by omega)]
  obtain⟨i1,i2⟩:=differF_ind x n (l.take n) (by rw[List.length_take];omega);rw[e,differF_snoc,List.map_append,List.sum_append];unfold differStep;split
  ·
   refine⟨fun y hy=>?_,?_⟩
   ·
    rcases List.mem_append.1 hy with hy|hy
    (· exact List.mem_append_left _ (i1 y hy));(· exact List.mem_append_right _ hy)
   (· (rw[List.map_append,List.sum_append];omega))
  (· exact⟨fun y hy=>List.mem_append_left _ (i1 y hy),by omega⟩)
def PieceAt (W:World) (ok:Nat→Prop) (p:Piece) (cs:Array Value):Prop :=
  ∃ A1 c1 A2 c2 A3 c3,cs=#[.bool p.f0, .slice A1 p.f1.length c1, .slice A2 p.f2.length c2, .slice A3 p.f3.length c3]∧p.f1.length≤c1∧Kd.F Kd.string W ok A1 p.f1.length p.f1∧p.f2.length≤c2∧Kd.F Kd.string W ok A2 p.f2.length p.f2∧p.f3.length≤c3∧Kd.F KSs W ok A3 p.f3.length p.f3
theorem PieceAt.text {W:World} {ok:Nat→Prop} {b:Bool} {s:List ByteArray} {A:Option Addr} {n c:Nat} (hn:s.length=n) (hc:n≤c) (h:Kd.F Kd.string W ok A n s):PieceAt W ok ⟨b,s,[],[]⟩ #[.bool b, .slice A n c, .slice none 0 0, .slice none 0 0]:=by
 subst hn;exact⟨A,c,none,0,none,0,rfl,hc,h,Nat.le_refl _,Kd.F_nil _ _ _,Nat.le_refl _,Kd.F_nil _ _ _⟩
def set4 (W:World) (g:Nat) (a b c d:Value):World:=(((W.setCell ⟨g,0,none⟩ a).setCell ⟨g,1,none⟩ b).setCell ⟨g,2,none⟩ c).setCell ⟨g,3,none⟩ d
theorem set4_same {W:World} {g:Nat} {t:TypeId} {a b c d a' b' c' d':Value} (h:W.heap[g]? = some (.cells #[a,b,c,d] t (0,0))):(set4 W g a' b' c' d').heap[g]? = some (.cells #[a',b',c',d'] t (0,0)) :=
  heap_set_same (heap_set_same (heap_set_same (heap_set_same h _) _) _) _
theorem set4_other {W:World} {g k:Nat} {a b c d:Value} (h:k≠g):(set4 W g a b c d).heap[k]? = W.heap[k]? := by
 rw[set4,heap_set_other h,heap_set_other h,heap_set_other h,heap_set_other h]
theorem set4_below {w W:World} {B g:Nat} {a b c d:Value} (h:Below B w W) (hg:B≤g):Below B w (set4 W g a b c d) :=
  (((h.setCell (p:=⟨g,0,none⟩) hg a).setCell (p:=⟨g,1,none⟩) hg b).setCell (p:=⟨g,2,none⟩) hg c).setCell (p:=⟨g,3,none⟩) hg d
theorem PieceAt.set4 {W:World} {ok ok':Nat→Prop} {p:Piece} {cs:Array Value} {g:Nat} {a b c d:Value} (h:PieceAt W ok' p cs) (hok : ∀ k,ok' k→k≠g) (ho : ∀ k,ok' k→ok k):PieceAt (set4 W g a b c d) ok p cs:=by
 obtain⟨A1,c1,A2,c2,A3,c3,e,l1,f1,l2,f2,l3,f3⟩:=h;exact⟨A1,c1,A2,c2,A3,c3,e,l1,Kd.F_mono (Kd.F_step f1 (fun k hk _=>set4_other (hok k hk))) ho,l2,Kd.F_mono (Kd.F_step f2 (fun k hk _=>set4_other (hok k hk))) ho,l3,Kd.F_mono (Kd.F_step f3 (fun k hk _=>set4_other (hok k hk))) ho⟩
theorem pick_Piece (P:Nat→Prop) (x:List ByteArray) (Ax:Option Addr) (cx:Nat) (A:Option Addr) (c:Nat) (l:List (List ByteArray)) (fav:Int) (un:Bool) (w:World) (hx:Kd.F Kd.string w P Ax x.length x) (lx:x.length≤cx) (hF:Kd.F KSs w P A l.length l) (hc:l.length≤c) (hn:l.length≤1000000)
    (hz : ∀ y ∈ l,Short 1000000000 y) (hs:(l.map List.length).sum≤1000000000) :
    Calls Tryz.prog 89 #[.slice Ax x.length cx, .slice A l.length c, .agg #[.int .i64 fav, .bool un]] w fun e w' => ∃ cs,e = .returned (.agg cs)∧Aside0 (PieceAt w' (fun k=>P k∨w.heap.size≤k) (pieceF x l fav un) cs)∧Aside0 (Below w.heap.size w w'):=by
 have HX:=Aside0.mk hx;have HF:=Aside0.mk hF;have HZ:=Aside0.mk hz;have HS:=Aside0.mk hs
 have hm : ∀ y ∈ l,y.length≤1000000000000:=fun y hy=>by
  obtain⟨a,b,rfl⟩:=List.append_of_mem hy;(rw[List.map_append,List.sum_append,List.map_cons,List.sum_cons] at hs);omega
 have HM:=Aside0.mk hm;obtain⟨p,hp⟩ : ∃ p,pieceF x l fav un=p:=⟨_,rfl⟩;have HPF0:=Aside0.mk hp;rw[hp];clear hx hF hz hs hm hp;go_enter Tryz.func89,Tryz.ntmps89;(go_wp2_with fail);obtain⟨w1,hw1⟩ : ∃ w1,(w.alloc (.cells #[.int .i64 fav, .bool un] 34)).alloc (.cells #[.bool false, .slice none 0 0, .slice none 0 0, .slice none 0 0] 66)=w1:=⟨_,rfl⟩;(have g0:w1.heap[w.heap.size]? = some (.cells #[.int .i64 fav, .bool un] 34 (0,0)):=by rw[← hw1];exact newKeep (blk_new _ _) _)
 have g1:w1.heap[w.heap.size+1]? = some (.cells #[.bool false, .slice none 0 0, .slice none 0 0, .slice none 0 0] 66 (0,0)):=by
  rw[← hw1];have:=blk_new (w.alloc (.cells #[.int .i64 fav, .bool un] 34)) (.cells #[.bool false, .slice none 0 0, .slice none 0 0, .slice none 0 0] 66);simpa using this
 have HB1:Aside0 (Below w.heap.size w w1):=⟨by rw[← hw1];exact(newBelow _ _).alloc (by simp) _⟩;rw[hw1];clear hw1;(have hs1:w.heap.size+2≤w1.heap.size:=by have:=blk_lt g1;omega);refine(content_Differing (fun k=>P k∧k < w.heap.size) x Ax cx A c l w1 (Kd.C_below (Kd.F_now HX.out) HB1.out) lx (Kd.F_old HF.out HB1.out) hc hn HM.out).mono ?_;rintro e w2 ⟨vd,rfl,HD,hb2⟩;have HB2:Aside0 (Below w.heap.size w w2):=⟨far_ HB1.out hb2.out⟩;have G0:=Aside0.mk (farKeep g0 hb2.out);have G1:=Aside0.mk (farKeep g1 hb2.out);have HSZ:Aside0 (w.heap.size+2≤w1.heap.size∧w1.heap.size≤w2.heap.size):=⟨hs1,hb2.out.size⟩;obtain⟨Ad,cd,rfl⟩:=Kd.N_slice HD.out;have hind:=differF_ind x _ l rfl;have HDI:=Aside0.mk hind;have hX2:Aside0 (Kd.F Kd.string w2 (fun k=>P k∧k < w.heap.size) Ax x.length x):=⟨Kd.F_old HX.out HB2.out⟩;have hF2:Aside0 (Kd.F KSs w2 (fun k=>P k∧k < w.heap.size) A l.length l):=⟨Kd.F_old HF.out HB2.out⟩;have HPF:Aside0 (p=if (differF x l).length=0 then ⟨false,x,[],[]⟩ else if (differF x l).length=1 then ⟨false,(differF x l).getD 0 [],[],[]⟩ else if 1≤fav∧fav≤(l.length:Int) then ⟨false,l.getD (fav - 1).toNat [],[],[]⟩ else if un=true then ⟨false,unionF (differF x l),[],[]⟩ else ⟨true,[],x,l⟩):=⟨by rw[← HPF0.out];rfl⟩;have HDL:=Aside0.mk (differF_len x l.length l rfl);obtain⟨d,hd⟩ : ∃ d,differF x l=d:=⟨_,rfl⟩;(rw[hd] at HD HDI HPF HDL);rw[hd];(have y2 : ∀ j v,(#[.bool false, .slice none 0 0, .slice none 0 0, .slice none 0 0]:Array Value)[j]? = some v→w2.cell? ⟨w.heap.size+1,j,none⟩=some v:=fun j v h=>cell_blk G1.out h);have ya:=y2 0 _ rfl;have yb:=y2 1 _ rfl;have yc:=y2 2 _ rfl;have yd:=y2 3 _ rfl;(have fz : ∀ j,w2.frozen? ⟨w.heap.size+1,j,none⟩=false:=fun j=>frozen_of_row _ _ _ _ _ G1.out);have fa:=fz 0;have h0:w2.cell? ⟨w.heap.size,0,none⟩=some (.int .i64 fav):=cell_blk G0.out rfl;have h1:w2.cell? ⟨w.heap.size,1,none⟩=some (.bool un):=cell_blk G0.out rfl;clear hd hind g0 g1 hb2 hs1 y2;have HOK1:Aside0 (∀ k,(P k∧k < w.heap.size)→k≠w.heap.size+1):=⟨fun k hk=>by omega⟩;have HOK2:Aside0 (∀ k,(P k∧k < w.heap.size)→P k∨w.heap.size≤k):=⟨fun k hk => .inl hk.1⟩
 by_cases n0:d.length=0
 (· (rw[if_pos n0] at HPF);(have d1:((d.length:Int) == 0)=true:=by rw[beq_iff_eq];omega);go_wp2;refine bodyPost_ret (results_cell_row rfl _ _ (w.heap.size+1) 66 #[.bool false, .slice Ax x.length cx, .slice none 0 0, .slice none 0 0] (0,0) _ rfl (set4_same G1.out) Tryz.underlying66 rfl (by kernel_rfl)) rfl ?_;exact⟨_,rfl,⟨by rw[HPF.out];exact PieceAt.set4 (PieceAt.text rfl lx hX2.out) HOK1.out HOK2.out⟩,⟨set4_below HB2.out (by omega)⟩⟩)
 ·
  (rw[if_neg n0] at HPF);(have d1:((d.length:Int) == 0)=false:=by rw[beq_eq_false_iff_ne];omega)
  by_cases n1:d.length=1
  (· (rw[if_pos n1] at HPF);(have d2:((d.length:Int) == 1)=true:=by rw[beq_iff_eq];omega);obtain⟨gd,cap,hv,hgB,hgl,_⟩:=Kd.N_form HD.out (by omega);(injection hv with hv1 _ hv3);(subst hv1;subst hv3);obtain⟨cs,hcl,hFK,hcell,_⟩:=Kd.N_elem HD.out [] 0 (by omega) (by omega);obtain⟨Ay,cy,rfl,ly,hFy⟩:=Kd.FK_slice_open hFK;have xy:w2.cell? ⟨gd,0,none⟩=some (.slice Ay (d.getD (0:Int).toNat []).length cy):=hcell 0 _ rfl;have HFY:=Aside0.mk hFy;obtain⟨y,hy⟩ : ∃ y,d.getD (0:Int).toNat []=y:=⟨_,rfl⟩;have hy':d.getD 0 []=y:=hy;(rw[hy] at xy ly HFY);(rw[hy'] at HPF);clear hFK hcell hcl hFy hy hy';go_wp2;refine bodyPost_ret (results_cell_row rfl _ _ (w.heap.size+1) 66 #[.bool false, .slice Ay y.length cy, .slice none 0 0, .slice none 0 0] (0,0) _ rfl (set4_same G1.out) Tryz.underlying66 rfl (by kernel_rfl)) rfl ?_;exact⟨_,rfl,⟨by rw[HPF.out];exact PieceAt.set4 (PieceAt.text rfl ly HFY.out) (fun k hk=>by have:=HSZ.out.1;rcases hk.1 with hk|hk <;> omega) (fun k hk=>by have:=HSZ.out.1;rcases hk.1 with hk|hk;exact .inl hk.1;exact .inr (by omega))⟩,⟨set4_below HB2.out (by omega)⟩⟩)
  ·
   (rw[if_neg n1] at HPF);(have d2:((d.length:Int) == 1)=false:=by rw[beq_eq_false_iff_ne];omega)
   by_cases hf:1≤fav∧fav≤(l.length:Int)
   ·
    (rw[if_pos hf] at HPF);obtain⟨j,rfl⟩ : ∃ j:Nat,fav=(j:Int)+1:=⟨(fav - 1).toNat,by omega⟩;(have hjl:j < l.length:=by omega);obtain⟨ad,cs1,rfl,hcl,hFK,hcell,_⟩:=Kd.F_get hF2.out [] (j:Int) (by omega) (by omega);(rw[Int.toNat_natCast] at hFK hcell);(rw[show ((j:Int)+1 - 1).toNat=j by omega] at HPF);obtain⟨Ay,cy,rfl,ly,hFy⟩:=Kd.FK_slice_open hFK;have xy:=hcell 0 _ rfl
    replace xy:w2.cell? (ad.add j)=some (.slice Ay (l.getD j []).length cy):=by
     (have e:j * KSs.sz+0=j:=by show j * 1+0=j;omega);(rw[e] at xy;exact xy)
    have HFY:=Aside0.mk hFy;obtain⟨y,hy⟩ : ∃ y,l.getD j []=y:=⟨_,rfl⟩;(rw[hy] at xy ly HFY HPF);have e1:decide (1≤(j:Int)+1)=true:=decide_eq_true (by omega);have e2:decide ((j:Int)+1≤(l.length:Int))=true:=decide_eq_true (by omega);(have e3:wrap64 ((j:Int)+1 - 1)=(j:Int):=by rw[gw (by omega) (by omega)];omega);(have e4:(j:Int) < (l.length:Int):=by omega);(have e5:(0:Int)≤(j:Int):=by omega);clear hFK hcell hcl hFy hy;go_wp2;refine bodyPost_ret (results_cell_row rfl _ _ (w.heap.size+1) 66 #[.bool false, .slice Ay y.length cy, .slice none 0 0, .slice none 0 0] (0,0) _ rfl (set4_same G1.out) Tryz.underlying66 rfl (by kernel_rfl)) rfl ?_;exact⟨_,rfl,⟨by rw[HPF.out];exact PieceAt.set4 (PieceAt.text rfl ly HFY.out) HOK1.out HOK2.out⟩,⟨set4_below HB2.out (by omega)⟩⟩
   ·
    (rw[if_neg hf] at HPF);obtain⟨hrd1,hrd2,hrd3⟩:=Kd.N_reads' HD.out;have HRD:=Aside0.mk hrd3;clear hrd1 hrd3
    cases un with
    | true =>
     (rw[if_pos rfl] at HPF);(have hshort : ∀ y ∈ d,Short 1000000000 y:=fun y hy=>HZ.out y (HDI.out.1 y hy));have hsum:(d.map List.length).sum≤1000000000:=Nat.le_trans HDI.out.2 HS.out;have hdl:d.length≤1000000:=Nat.le_trans HDL.out hn;have HSH:=Aside0.mk hshort;have HSUM:=Aside0.mk hsum;clear hshort hsum
     by_cases hf1:1≤fav
     (· (have hf2 : ¬ fav≤(l.length:Int):=fun h=>hf ⟨hf1,h⟩);have e1:decide (1≤fav)=true:=decide_eq_true hf1;have e2:decide (fav≤(l.length:Int))=false:=decide_eq_false hf2;(go_wp2_with fail);refine(pick_union Ad cd d w2 HRD.out hrd2 hdl HSH.out HSUM.out).mono ?_;rintro e w3 ⟨v3,rfl,HR3,HB3⟩;obtain⟨A3,c3,rfl⟩:=Kd.R_slice HR3.out;have G13:=Aside0.mk (farKeep G1.out HB3.out);have ya3:w3.cell? ⟨w.heap.size+1,0,none⟩=some (.bool false):=cell_blk G13.out rfl;have yb3:w3.cell? ⟨w.heap.size+1,1,none⟩=some (.slice none 0 0):=cell_blk G13.out rfl;have yc3:w3.cell? ⟨w.heap.size+1,2,none⟩=some (.slice none 0 0):=cell_blk G13.out rfl;have yd3:w3.cell? ⟨w.heap.size+1,3,none⟩=some (.slice none 0 0):=cell_blk G13.out rfl;(have fz3 : ∀ j,w3.frozen? ⟨w.heap.size+1,j,none⟩=false:=fun j=>frozen_of_row _ _ _ _ _ G13.out);have fa3:=fz3 0;clear ya yb yc yd fa fz h0 h1;go_wp2;refine bodyPost_ret (results_cell_row rfl _ _ (w.heap.size+1) 66 #[.bool false, .slice A3 (unionF d).length c3, .slice none 0 0, .slice none 0 0] (0,0) _ rfl (set4_same G13.out) Tryz.underlying66 rfl (by kernel_rfl)) rfl ?_;exact⟨_,rfl,⟨by rw[HPF.out];exact PieceAt.set4 (PieceAt.text rfl (Kd.R_reads' HR3.out).2.1 (Kd.R_F (Kd.R_bound HR3.out))) (fun k hk=>by have:=HSZ.out;have:=hk.2.1;omega) (fun k hk => .inr (by have:=HSZ.out;have:=hk.2.1;omega))⟩,⟨set4_below (far_ HB2.out HB3.out) (by omega)⟩⟩);(· have e1:decide (1≤fav)=false:=decide_eq_false hf1;(go_wp2_with fail);refine(pick_union Ad cd d w2 HRD.out hrd2 hdl HSH.out HSUM.out).mono ?_;rintro e w3 ⟨v3,rfl,HR3,HB3⟩;obtain⟨A3,c3,rfl⟩:=Kd.R_slice HR3.out;have G13:=Aside0.mk (farKeep G1.out HB3.out);have ya3:w3.cell? ⟨w.heap.size+1,0,none⟩=some (.bool false):=cell_blk G13.out rfl;have yb3:w3.cell? ⟨w.heap.size+1,1,none⟩=some (.slice none 0 0):=cell_blk G13.out rfl;have yc3:w3.cell? ⟨w.heap.size+1,2,none⟩=some (.slice none 0 0):=cell_blk G13.out rfl;have yd3:w3.cell? ⟨w.heap.size+1,3,none⟩=some (.slice none 0 0):=cell_blk G13.out rfl;(have fz3 : ∀ j,w3.frozen? ⟨w.heap.size+1,j,none⟩=false:=fun j=>frozen_of_row _ _ _ _ _ G13.out);have fa3:=fz3 0;clear ya yb yc yd fa fz h0 h1;go_wp2;refine bodyPost_ret (results_cell_row rfl _ _ (w.heap.size+1) 66 #[.bool false, .slice A3 (unionF d).length c3, .slice none 0 0, .slice none 0 0] (0,0) _ rfl (set4_same G13.out) Tryz.underlying66 rfl (by kernel_rfl)) rfl ?_;exact⟨_,rfl,⟨by rw[HPF.out];exact PieceAt.set4 (PieceAt.text rfl (Kd.R_reads' HR3.out).2.1 (Kd.R_F (Kd.R_bound HR3.out))) (fun k hk=>by have:=HSZ.out;have:=hk.2.1;omega) (fun k hk => .inr (by have:=HSZ.out;have:=hk.2.1;omega))⟩,⟨set4_below (far_ HB2.out HB3.out) (by omega)⟩⟩)
    | false =>
     (rw[if_neg (by decide)] at HPF)
     have HEND:Aside0 (∀ cs,cs=#[.bool true, .slice none 0 0, .slice Ax x.length cx, .slice A l.length c]→PieceAt (set4 w2 (w.heap.size+1) (.bool true) (.slice none 0 0) (.slice Ax x.length cx) (.slice A l.length c)) (fun k=>P k∨w.heap.size≤k) p cs):=⟨fun cs hcs=>by
      rw[HPF.out,hcs]
      exact PieceAt.set4 (p:=(⟨true,[],x,l⟩:Piece)) ⟨none,0,Ax,cx,A,c,rfl,Nat.le_refl _,Kd.F_nil _ _ _,lx,hX2.out,hc,hF2.out⟩ HOK1.out HOK2.out⟩
     by_cases hf1:1≤fav
     (· (have hf2 : ¬ fav≤(l.length:Int):=fun h=>hf ⟨hf1,h⟩);have e1:decide (1≤fav)=true:=decide_eq_true hf1;have e2:decide (fav≤(l.length:Int))=false:=decide_eq_false hf2;go_wp2;refine bodyPost_ret (results_cell_row rfl _ _ (w.heap.size+1) 66 #[.bool true, .slice none 0 0, .slice Ax x.length cx, .slice A l.length c] (0,0) _ rfl (set4_same G1.out) Tryz.underlying66 rfl (by kernel_rfl)) rfl ?_;exact⟨_,rfl,⟨HEND.out _ rfl⟩,⟨set4_below HB2.out (by omega)⟩⟩);(· have e1:decide (1≤fav)=false:=decide_eq_false hf1;go_wp2;refine bodyPost_ret (results_cell_row rfl _ _ (w.heap.size+1) 66 #[.bool true, .slice none 0 0, .slice Ax x.length cx, .slice A l.length c] (0,0) _ rfl (set4_same G1.out) Tryz.underlying66 rfl (by kernel_rfl)) rfl ?_;exact⟨_,rfl,⟨HEND.out _ rfl⟩,⟨set4_below HB2.out (by omega)⟩⟩)
def Asks (fn:Nat) (p:List ByteArray→Bool) (L:List (List ByteArray)):Prop :=
  ∀ (l:List ByteArray),l ∈ L → ∀ (A:Option Addr) (c:Nat) (w:World),Kd.C Kd.string w A l.length l→l.length≤c→Calls Tryz.prog fn #[.slice A l.length c] w fun e w'=>e = .returned (.bool (p l))∧Drawn0 w w'
def findL (p:List ByteArray→Bool) (L:List (List ByteArray)):Int:=match L.findIdx? p with|some i=>(i:Int)|none => -1
theorem find_go {p:List ByteArray→Bool} {L:List (List ByteArray)} {k:Nat} (hk:k < L.length) (h : ∀ l ∈ L.take k,p l=false) (hp:p L[k]=true):findL p L=(k:Int):=by
 have:L.findIdx? p=some k:=by
  rw[List.findIdx?_eq_some_iff_getElem]
  exact⟨hk,hp,fun j hj=>by
   have:L[j] ∈ L.take k:=by
    (rw[List.mem_take_iff_getElem];exact⟨j,by omega,rfl⟩)
   rw[h _ this];decide⟩
 rw[findL,this]
theorem find_none {p:List ByteArray→Bool} {L:List (List ByteArray)} (h : ∀ l ∈ L,p l=false):findL p L = -1:=by
 have:L.findIdx? p=none:=List.findIdx?_eq_none_iff.2 (fun x hx=>by rw[h x hx]);rw[findL,this]
set_option maxHeartbeats 2000000 in
theorem indexFunc_1 (p:List ByteArray→Bool) (A:Option Addr) (c:Nat) (L:List (List ByteArray)) (w:World) (hp:Asks 62 p L) (hC:Kd.C (Kd.slice 9 Kd.string) w A L.length L) (hc:L.length≤c) (hL:L.length≤1000000) :
    Calls Tryz.prog 94 #[.slice A L.length c, .func (.func 62) #[] #[]] w fun e w'=>e = .returned (.int .i64 (findL p L))∧Drawn0 w w':=by
 have HC:=Aside0.mk hC;have HP:=Aside0.mk hp;clear hC hp;go_enter Tryz.func94,Tryz.ntmps94;(go_wp2_with fail)
 go_loopw [8,5] (fun i _ wr => ∃ (k:Nat),k≤L.length∧i = .int .i64 k∧Aside0 (∀ l ∈ L.take k,p l=false)∧Aside0 (Drawn0 w wr)) (fun i _ _=>L.length - (intOf i).toNat)
 (case atStart=>exact⟨0,Nat.zero_le _,rfl,⟨by simp⟩,⟨Drawn0.refl _⟩⟩)
 case round =>
  obtain⟨k,hk,rfl,HF,HD⟩:=hrel
  by_cases hlt:k < L.length
  ·
   obtain⟨ad,A5,c5,rfl,hrow,hc5,hC5⟩:=at_slice HC.out k hlt;obtain⟨n,hn⟩:=HD.out;subst hn;(replace hrow:(w.drewN n).cell? (ad.add k)=some (.slice A5 (L.getD k []).length c5):=by simpa using hrow);obtain⟨l,hle⟩ : ∃ l,L.getD k []=l:=⟨_,rfl⟩;(have hlm:l ∈ L:=by rw[← hle,getD_get hlt];exact List.getElem_mem hlt);(have hlk:L[k]=l:=by rw[← hle,getD_get hlt]);have HLK:=Aside0.mk hlk;(rw[hle] at hrow hc5 hC5);have HC5:Aside0 (Kd.C Kd.string (w.drewN n) A5 l.length l):=⟨Kd.C_drewN hC5 _⟩;have Hc5:=Aside0.mk hc5;have HLM:=Aside0.mk hlm;clear hc5 hC5 hle hlm hlk;cases hpl:p l
   ·
    have HPL:=Aside0.mk hpl;clear hpl;(go_wp2_with fail);refine(HP.out l HLM.out A5 c5 _ HC5.out Hc5.out).mono ?_;rintro e' w' ⟨rfl,n2,rfl⟩;rw[HPL.out];go_wp2;go_roundw;(case measure=>simp[intOf];omega)
    case rel=>exact⟨k+1,by omega,by go_num,⟨fun y hy=>by
     (rw[← List.take_append_getElem hlt] at hy)
     rcases List.mem_append.1 hy with hy|hy
     (· exact HF.out y hy)
     ·
      rw[List.mem_singleton.1 hy,HLK.out];exact HPL.out⟩,⟨by first|exact⟨_,rfl⟩|exact⟨_,World.drewN_drewN _ _ _⟩⟩⟩
   (· have HPL:=Aside0.mk hpl;clear hpl;have HFK:Aside0 (findL p L=(k:Int)):=⟨find_go hlt HF.out (by rw[HLK.out];exact HPL.out)⟩;(go_wp2_with fail);refine(HP.out l HLM.out A5 c5 _ HC5.out Hc5.out).mono ?_;rintro e' w' ⟨rfl,n2,rfl⟩;rw[HPL.out];go_wp2;go_ret;exact⟨by rw[HFK.out];rfl,by first|exact⟨_,rfl⟩|exact⟨_,World.drewN_drewN _ _ _⟩⟩)
  (· (have hk':k=L.length:=by omega);subst hk';(rw[List.take_length] at HF);have HFN:=Aside0.mk (find_none HF.out);have HD':=HD.out;go_wp2;go_ret;exact⟨by rw[HFN.out];rfl,HD'⟩)
theorem containsFunc_1 (p:List ByteArray→Bool) (A:Option Addr) (c:Nat) (L:List (List ByteArray)) (w:World) (hp:Asks 62 p L) (hC:Kd.C (Kd.slice 9 Kd.string) w A L.length L) (hc:L.length≤c) (hL:L.length≤1000000) :
    Calls Tryz.prog 65 #[.slice A L.length c, .func (.func 62) #[] #[]] w fun e w'=>e = .returned (.bool (L.any p))∧Drawn0 w w':=by
 obtain⟨q,hq⟩ : ∃ q,findL p L=q:=⟨_,rfl⟩
 have hany:L.any p=decide (q ≥ 0):=by
  rw[← hq,findL]
  cases h:L.findIdx? p with
  | none =>
   have:=List.findIdx?_eq_none_iff.1 h;show _=false;rw[List.any_eq_false];(exact fun x hx=>by rw[this x hx];decide)
  | some i =>
   obtain⟨hi,h1,_⟩:=List.findIdx?_eq_some_iff_getElem.1 h;have:decide ((i:Int) ≥ 0)=true:=decide_eq_true (by omega);show _=decide ((i:Int) ≥ 0);rw[this,List.any_eq_true];exact⟨_,List.getElem_mem hi,h1⟩
 have HANY:=Aside0.mk hany;have HQ:=Aside0.mk hq;have HC:=Aside0.mk hC;have HP:=Aside0.mk hp;clear hany hq hC hp;go_enter Tryz.func65,Tryz.ntmps65;(go_wp2_with fail);refine(indexFunc_1 p A c L _ HP.out HC.out hc hL).mono ?_;rintro e w1 ⟨rfl,n,rfl⟩;rw[HQ.out];go_wp2;go_ret;exact⟨by rw[HANY.out];rfl,⟨n,rfl⟩⟩
set_option maxHeartbeats 2000000 in
theorem indexFunc_2 (p:List ByteArray→Bool) (A:Option Addr) (c:Nat) (L:List (List ByteArray)) (w:World) (hp:Asks 64 p L) (hC:Kd.C (Kd.slice 9 Kd.string) w A L.length L) (hc:L.length≤c) (hL:L.length≤1000000) :
    Calls Tryz.prog 94 #[.slice A L.length c, .func (.func 64) #[] #[]] w fun e w'=>e = .returned (.int .i64 (findL p L))∧Drawn0 w w':=by
 have HC:=Aside0.mk hC;have HP:=Aside0.mk hp;clear hC hp;go_enter Tryz.func94,Tryz.ntmps94;(go_wp2_with fail)
 go_loopw [8,5] (fun i _ wr => ∃ (k:Nat),k≤L.length∧i = .int .i64 k∧Aside0 (∀ l ∈ L.take k,p l=false)∧Aside0 (Drawn0 w wr)) (fun i _ _=>L.length - (intOf i).toNat)
 (case atStart=>exact⟨0,Nat.zero_le _,rfl,⟨by simp⟩,⟨Drawn0.refl _⟩⟩)
 case round =>
  obtain⟨k,hk,rfl,HF,HD⟩:=hrel
  by_cases hlt:k < L.length
  ·
   obtain⟨ad,A5,c5,rfl,hrow,hc5,hC5⟩:=at_slice HC.out k hlt;obtain⟨n,hn⟩:=HD.out;subst hn;(replace hrow:(w.drewN n).cell? (ad.add k)=some (.slice A5 (L.getD k []).length c5):=by simpa using hrow);obtain⟨l,hle⟩ : ∃ l,L.getD k []=l:=⟨_,rfl⟩;(have hlm:l ∈ L:=by rw[← hle,getD_get hlt];exact List.getElem_mem hlt);(have hlk:L[k]=l:=by rw[← hle,getD_get hlt]);have HLK:=Aside0.mk hlk;(rw[hle] at hrow hc5 hC5);have HC5:Aside0 (Kd.C Kd.string (w.drewN n) A5 l.length l):=⟨Kd.C_drewN hC5 _⟩;have Hc5:=Aside0.mk hc5;have HLM:=Aside0.mk hlm;clear hc5 hC5 hle hlm hlk;cases hpl:p l
   ·
    have HPL:=Aside0.mk hpl;clear hpl;(go_wp2_with fail);refine(HP.out l HLM.out A5 c5 _ HC5.out Hc5.out).mono ?_;rintro e' w' ⟨rfl,n2,rfl⟩;rw[HPL.out];go_wp2;go_roundw;(case measure=>simp[intOf];omega)
    case rel=>exact⟨k+1,by omega,by go_num,⟨fun y hy=>by
     (rw[← List.take_append_getElem hlt] at hy)
     rcases List.mem_append.1 hy with hy|hy
     (· exact HF.out y hy)
     ·
      rw[List.mem_singleton.1 hy,HLK.out];exact HPL.out⟩,⟨by first|exact⟨_,rfl⟩|exact⟨_,World.drewN_drewN _ _ _⟩⟩⟩
   (· have HPL:=Aside0.mk hpl;clear hpl;have HFK:Aside0 (findL p L=(k:Int)):=⟨find_go hlt HF.out (by rw[HLK.out];exact HPL.out)⟩;(go_wp2_with fail);refine(HP.out l HLM.out A5 c5 _ HC5.out Hc5.out).mono ?_;rintro e' w' ⟨rfl,n2,rfl⟩;rw[HPL.out];go_wp2;go_ret;exact⟨by rw[HFK.out];rfl,by first|exact⟨_,rfl⟩|exact⟨_,World.drewN_drewN _ _ _⟩⟩)
  (· (have hk':k=L.length:=by omega);subst hk';(rw[List.take_length] at HF);have HFN:=Aside0.mk (find_none HF.out);have HD':=HD.out;go_wp2;go_ret;exact⟨by rw[HFN.out];rfl,HD'⟩)
theorem containsFunc_2 (p:List ByteArray→Bool) (A:Option Addr) (c:Nat) (L:List (List ByteArray)) (w:World) (hp:Asks 64 p L) (hC:Kd.C (Kd.slice 9 Kd.string) w A L.length L) (hc:L.length≤c) (hL:L.length≤1000000) :
    Calls Tryz.prog 65 #[.slice A L.length c, .func (.func 64) #[] #[]] w fun e w'=>e = .returned (.bool (L.any p))∧Drawn0 w w':=by
 obtain⟨q,hq⟩ : ∃ q,findL p L=q:=⟨_,rfl⟩
 have hany:L.any p=decide (q ≥ 0):=by
  rw[← hq,findL]
  cases h:L.findIdx? p with
  | none =>
   have:=List.findIdx?_eq_none_iff.1 h;show _=false;rw[List.any_eq_false];(exact fun x hx=>by rw[this x hx];decide)
  | some i =>
   obtain⟨hi,h1,_⟩:=List.findIdx?_eq_some_iff_getElem.1 h;have:decide ((i:Int) ≥ 0)=true:=decide_eq_true (by omega);show _=decide ((i:Int) ≥ 0);rw[this,List.any_eq_true];exact⟨_,List.getElem_mem hi,h1⟩
 have HANY:=Aside0.mk hany;have HQ:=Aside0.mk hq;have HC:=Aside0.mk hC;have HP:=Aside0.mk hp;clear hany hq hC hp;go_enter Tryz.func65,Tryz.ntmps65;(go_wp2_with fail);refine(indexFunc_2 p A c L _ HP.out HC.out hc hL).mono ?_;rintro e w1 ⟨rfl,n,rfl⟩;rw[HQ.out];go_wp2;go_ret;exact⟨by rw[HANY.out];rfl,⟨n,rfl⟩⟩
def longL (l:List ByteArray):Bool:=decide (2000 < l.length)
theorem wrong_long (L:List (List ByteArray)) (hL : ∀ l ∈ L,l.length≤1000000000000):Asks 64 longL L:=by
 intro l hl A c w hC hc;have hb:=hL l hl;(have hb2:(l.length:Int)≤1000000000000:=by omega)
 by_cases h:2000 < l.length
 (· rw[longL,decide_eq_true h];go_enter Tryz.func64,Tryz.ntmps64;go_wp2;go_ret;exact⟨by simp;omega,Drawn0.refl _⟩);(· rw[longL,decide_eq_false h];go_enter Tryz.func64,Tryz.ntmps64;go_wp2;go_ret;exact⟨by simp;omega,Drawn0.refl _⟩)
theorem wrong_odd (may:List ByteArray→Bool) (L:List (List ByteArray)) (hm : ∀ l ∈ L,Gives (fun k=>lines_May.f k l) (may l)):Asks 62 (fun l => !may l) L:=by
 intro l hl A c w hC hc;obtain⟨k,hk⟩:=hm l hl;have hk:=hk k (Nat.le_refl _);have HK:=Aside0.mk hk;have HC:=Aside0.mk hC;clear hk hC hm;have HK:Aside0 (lines_May.f k l=some (may l)):=HK;(show Calls _ _ _ _ fun e w'=>e = .returned (.bool (!may l))∧Drawn0 w w');obtain⟨m,hm⟩ : ∃ m,may l=m:=⟨_,rfl⟩;(rw[hm] at HK ⊢);clear hm;go_enter Tryz.func62,Tryz.ntmps62;(go_wp2_with fail);refine(lines_May.calls k A c l m _ HC.out hc HK.out).mono ?_;rintro e w1 ⟨rfl,n,rfl⟩;go_wp2;go_ret;exact⟨rfl,⟨n,rfl⟩⟩
def wrongF (may:List ByteArray→Bool) (L:List (List ByteArray)):Int :=
  if L.length < 2∨17 < L.length then 1 else if L.any (fun l => !may l)=true then 2 else if L.any longL=true then 4 else 0
set_option maxHeartbeats 2000000 in
theorem wrong_calls (may:List ByteArray→Bool) (A:Option Addr) (c:Nat) (L:List (List ByteArray)) (w:World) (hm : ∀ l ∈ L,Gives (fun k=>lines_May.f k l) (may l)) (hl : ∀ l ∈ L,l.length≤1000000000000) (hC:Kd.C (Kd.slice 9 Kd.string) w A L.length L) (hc:L.length≤c) (hL:L.length≤1000000) :
    Calls Tryz.prog 34 #[.slice A L.length c] w fun e w'=>e = .returned (.int .i64 (wrongF may L))∧Drawn0 w w':=by
 have HC:=Aside0.mk hC;have H1:=Aside0.mk (wrong_odd may L hm);have H2:=Aside0.mk (wrong_long L hl);clear hC hm hl;obtain⟨n,hn⟩ : ∃ n,L.length=n:=⟨_,rfl⟩;have HN:=Aside0.mk hn;unfold wrongF
 have hcall1 : ∀ (p:List ByteArray→Bool) (W:World),Asks 62 p L→Kd.C (Kd.slice 9 Kd.string) W A L.length L→Calls Tryz.prog 65 #[.slice A n c, .func (.func 62) #[] #[]] W fun e w'=>e = .returned (.bool (L.any p))∧Drawn0 W w':=by
  intro p W h1 h2;rw[← hn];exact containsFunc_1 p A c L W h1 h2 hc hL
 have HCALL1:=Aside0.mk hcall1
 have hcall2 : ∀ (p:List ByteArray→Bool) (W:World),Asks 64 p L→Kd.C (Kd.slice 9 Kd.string) W A L.length L→Calls Tryz.prog 65 #[.slice A n c, .func (.func 64) #[] #[]] W fun e w'=>e = .returned (.bool (L.any p))∧Drawn0 W w':=by
  intro p W h1 h2;rw[← hn];exact containsFunc_2 p A c L W h1 h2 hc hL
 have HCALL2:=Aside0.mk hcall2;obtain⟨b1,hb1⟩ : ∃ b,L.any (fun l => !may l)=b:=⟨_,rfl⟩;obtain⟨b2,hb2⟩ : ∃ b,L.any longL=b:=⟨_,rfl⟩;rw[hb1,hb2,hn];(rw[hn] at hc hL);have HB1:=Aside0.mk hb1;have HB2:=Aside0.mk hb2;clear hb1 hb2 hn hcall1 hcall2
 by_cases h2:n < 2
 (· have d1:decide ((n:Int) < 2)=true:=decide_eq_true (by omega);rw[if_pos (.inl h2)];go_enter Tryz.func34,Tryz.ntmps34;go_wp2;go_ret;exact⟨rfl,Drawn0.refl _⟩)
 ·
  have d1:decide ((n:Int) < 2)=false:=decide_eq_false (by omega)
  by_cases h17:17 < n
  (· have d2:decide (17 < (n:Int))=true:=decide_eq_true (by omega);rw[if_pos (.inr h17)];go_enter Tryz.func34,Tryz.ntmps34;go_wp2;go_ret;exact⟨rfl,Drawn0.refl _⟩)
  ·
   have d2:decide (17 < (n:Int))=false:=decide_eq_false (by omega);rw[if_neg (by omega)];cases b1
   ·
    cases b2
    all_goals
     go_enter Tryz.func34,Tryz.ntmps34;(go_wp2_with fail);refine(HCALL1.out _ _ H1.out HC.out).mono ?_;rintro e w1 ⟨rfl,n1,rfl⟩;rw[HB1.out];(go_wp2_with fail);refine(HCALL2.out _ _ H2.out (Kd.C_drewN HC.out _)).mono ?_;rintro e w1 ⟨rfl,n2,rfl⟩;rw[HB2.out];go_wp2;go_ret;exact⟨rfl,by first|exact⟨_,rfl⟩|exact⟨_,World.drewN_drewN _ _ _⟩⟩
   (· go_enter Tryz.func34,Tryz.ntmps34;(go_wp2_with fail);refine(HCALL1.out _ _ H1.out HC.out).mono ?_;rintro e w1 ⟨rfl,n1,rfl⟩;rw[HB1.out];go_wp2;go_ret;exact⟨rfl,⟨_,rfl⟩⟩)
def lineClosed (s:ByteArray):Bool:=decide (0≤Lib.indexByte s.data.toList 10∧Lib.indexByte s.data.toList 10=(s.size:Int) - 1)
def lineOpen (s:ByteArray):Bool:=decide (Lib.indexByte s.data.toList 10 < 0∧0 < s.size)
def mayL:List ByteArray→Bool
  | []=>true
  | s :: t=>(lineClosed s || (lineOpen s && t.isEmpty)) && mayL t
theorem may_l0 (l:List ByteArray) (hl:l.length≤1000000000000) (hz : ∀ s ∈ l,s.size≤1000000000000000) : ∀ (r i:Nat),i+r=l.length→Gives (fun k=>lines_May.l0 k l l (l.length:Int) (i:Int)) (mayL (l.drop i))
 | 0,i,hi=>Gives.of fun k=>by
  show lines_May.l0 (k+1) l l (l.length:Int) (i:Int)=_;rw[lines_May.l0,if_neg (by omega),List.drop_of_length_le (by omega)];rfl
 | r+1,i,hi=>by
  (have hil:i < l.length:=by omega);have hzi:=hz l[i] (List.getElem_mem _);have ih:=may_l0 l hl hz r (i+1) (by omega)
  have e : ∀ k,lines_May.l0 (k+1) l l (l.length:Int) (i:Int)=if Lib.indexByte l[i].data.toList 10 < 0 then (if (l[i].size:Int) > 0 then (if (i:Int)=(l.length:Int) - 1 then lines_May.l0 k l l (l.length:Int) ((i+1:Nat):Int) else some false) else some false) else (if Lib.indexByte l[i].data.toList 10=(l[i].size:Int) - 1 then lines_May.l0 k l l (l.length:Int) ((i+1:Nat):Int) else some false):=fun k=>by
   rw[lines_May.l0,if_pos (by omega),if_pos (by omega),if_pos (by omega),rdOfN hil,gw1 (by omega),gw (by omega) (by omega),gw (by omega) (by omega)];rfl
  have hle:((l.drop (i+1)).isEmpty=true)↔i+1=l.length:=by
   (rw[List.isEmpty_iff,List.drop_eq_nil_iff];omega)
  rw[dropCons hil,mayL]
  by_cases h1:Lib.indexByte l[i].data.toList 10 < 0
  ·
   have hc:lineClosed l[i]=false:=decide_eq_false (by omega);rw[hc,Bool.false_or]
   by_cases h2:0 < l[i].size
   ·
    have ho:lineOpen l[i]=true:=decide_eq_true ⟨h1,h2⟩;rw[ho,Bool.true_and]
    by_cases h3:i+1=l.length
    ·
     rw[hle.2 h3,Bool.true_and]
     exact ih.step fun k=>by
      show lines_May.l0 (k+1) l l (l.length:Int) (i:Int)=_;rw[e k,if_pos h1,if_pos (by omega),if_pos (by omega)]
    ·
     have:(l.drop (i+1)).isEmpty=false:=by
      cases hh:(l.drop (i+1)).isEmpty;(· rfl);(· exact absurd (hle.1 hh) h3)
     rw[this,Bool.false_and]
     exact Gives.of fun k=>by
      show lines_May.l0 (k+1) l l (l.length:Int) (i:Int)=_;rw[e k,if_pos h1,if_pos (by omega),if_neg (by omega)]
   ·
    have ho:lineOpen l[i]=false:=decide_eq_false (by omega);rw[ho,Bool.false_and,Bool.false_and]
    exact Gives.of fun k=>by
     show lines_May.l0 (k+1) l l (l.length:Int) (i:Int)=_;rw[e k,if_pos h1,if_neg (by omega)]
  ·
   have ho:lineOpen l[i]=false:=decide_eq_false (by omega);rw[ho,Bool.false_and,Bool.or_false]
   by_cases h2:Lib.indexByte l[i].data.toList 10=(l[i].size:Int) - 1
   ·
    have hc:lineClosed l[i]=true:=decide_eq_true ⟨by omega,h2⟩;rw[hc,Bool.true_and]
    exact ih.step fun k=>by
     show lines_May.l0 (k+1) l l (l.length:Int) (i:Int)=_;rw[e k,if_neg h1,if_pos h2]
   ·
    have hc:lineClosed l[i]=false:=decide_eq_false (by omega);rw[hc,Bool.false_and]
    exact Gives.of fun k=>by
     show lines_May.l0 (k+1) l l (l.length:Int) (i:Int)=_;rw[e k,if_neg h1,if_neg h2]
theorem may_gives (l:List ByteArray) (hl:l.length≤1000000000000) (hz : ∀ s ∈ l,s.size≤1000000000000000):Gives (fun k=>lines_May.f k l) (mayL l) :=
  (may_l0 l hl hz l.length 0 (by omega)).same fun k=>rfl
section
variable {P:Program} {ops:Array Oper} {Q:Exit→Act→World→Prop}
theorem goesC_ {oi:Oper} {N:Option Tmp} {a:Act} {w:World} {K:Act→World→Prop} {f:FuncId} {fn:Func} {cal:Operand} {asx:Array Operand} {ts:Array TypeId} (hf:P.funcs[f]? = some fn) (hname:(fn.name == "runtime.NumGoroutine")=false) (hb:fn.body.isSome=true) (cap args:Array Value)
    (hw:Region.wanted oi (yielded ops a.tmps)=true) (hN:oi.dst=N) (hop:oi.op = .call { callee := .value cal,args:=asx,argTypes:=ts }) (hcal:a.eval cal = .func (.func f) #[] cap) (hargs:asx.map a.eval ++ cap=args)
    (h:Calls P f args w fun e w' => ∃ v,e = .returned v∧K (a.put N v) w'):if Region.wanted oi (yielded ops a.tmps)=true then Oper.wp P oi a w K Q else K (a.put N undef) w:=by
 refine call_ f args hw hN ?_ h;have he:=enters_ hf hname hb args w;unfold execOp;simp[hop,resolve,Deferred.ofValue,invoke,hcal,hargs,he]
end
abbrev Chunk:=S48
abbrev Spanx:=S45
theorem set_keepA {W:World} {b g j:Nat} {o:Obj} (h:W.heap[b]? = some o) (hne:b≠g) (v:Value):(W.setCell ⟨g,j,none⟩ v).heap[b]? = some o:=(heap_set_other hne v).trans h
theorem blk_neA {W:World} {a b:Nat} {cs cs':Array Value} {t t':TypeId} (h:W.heap[a]? = some (.cells cs t (0,0))) (k:W.heap[b]? = some (.cells cs' t' (0,0))) (ht:t≠t'):a≠b:=by
 rintro rfl;(rw[h] at k);(injection k with k);(injection k with _ e _);exact ht e
def CutIn (w0 W:World) (B g gs:Nat) (base:Int) (sides:List Int) (out:List Chunk):Prop :=
  ∃ vo,W.heap[g]? = some (.cells #[.int .i64 base, .slice (some ⟨gs,0,none⟩) sides.length sides.length,vo] 126 (0,0))∧B≤g ∧
    W.heap[gs]? = some (.cells (sides.map (Value.int .i64)).toArray 3 (0,0))∧B≤gs∧Kd.S k48 48 W B (fun _=>True) vo out∧Below B w0 W
def AKeeps (g gs:Nat) (W W':World):Prop:=W.heap.size≤W'.heap.size ∧ ∀ k,k < W.heap.size→k≠g→k≠gs→W'.heap[k]? = W.heap[k]?
theorem AKeeps.refl (g gs:Nat) (W:World):AKeeps g gs W W:=⟨Nat.le_refl _,fun _ _ _ _=>rfl⟩
theorem AKeeps.below {g gs:Nat} {W W1 W2:World} (h:AKeeps g gs W W1) (hb:Below W1.heap.size W1 W2):AKeeps g gs W W2:=⟨Nat.le_trans h.1 hb.size,fun k hk h1 h2=>(hb.block k (by have:=h.1;omega)).trans (h.2 k hk h1 h2)⟩
def CKeeps (g gs:Nat) (W W':World):Prop:=W.heap.size≤W'.heap.size ∧ ∀ (k:Nat) (cells:Array Value) (q:TypeId) (fr:Nat × Nat),k≠g→k≠gs→W.heap[k]? = some (.cells cells q fr)→q≠48→W'.heap[k]? = some (.cells cells q fr)
theorem AKeeps.toC {g gs:Nat} {W W':World} (h:AKeeps g gs W W'):CKeeps g gs W W':=⟨h.1,fun k c q fr a b hk _=>(h.2 k (Array.getElem?_eq_some_iff.1 hk).1 a b).trans hk⟩
def spansF (sides ats:List Int) (i:Nat):List Spanx:=(List.zipWith (fun f t=>(⟨f,t⟩:Spanx)) sides ats).take i
def someB (base0 base:Int) (sides ats:List Int) (i:Nat):Bool:=decide (base0 < base) || ((List.zip sides ats).take i).any (fun x=>decide (x.1 < x.2))
def cutOut (stable:Bool) (base0 base:Int) (sides ats:List Int) (out:List Chunk):List Chunk :=
  if someB base0 base sides ats sides.length=true then out ++ [⟨stable,⟨base0,base⟩,spansF sides ats sides.length⟩] else out
theorem far_keep {W W':World} {k:Nat} {o:Obj} (h:W.heap[k]? = some o) (hb:Below W.heap.size W W'):W'.heap[k]? = some o:=(hb.block k (Array.getElem?_eq_some_iff.1 h).1).trans h
theorem spansF_len {sides ats:List Int} {i:Nat} (h:ats.length=sides.length) (hi:i≤sides.length):(spansF sides ats i).length=i:=by
 (rw[spansF,List.length_take,List.length_zipWith,h,Nat.min_self];omega)
theorem spansF_succ {sides ats:List Int} {i:Nat} (h:ats.length=sides.length) (hi:i < sides.length):spansF sides ats (i+1)=spansF sides ats i ++ [⟨sides.getD i 0,ats.getD i 0⟩]:=by
 (have hl:i < (List.zipWith (fun f t=>(⟨f,t⟩:Spanx)) sides ats).length:=by rw[List.length_zipWith,h,Nat.min_self];exact hi);rw[spansF,spansF,← List.take_append_getElem hl,List.getElem_zipWith,getD_get hi,getD_get (by omega)]
theorem someB_succ {base0 base:Int} {sides ats:List Int} {i:Nat} (h:ats.length=sides.length) (hi:i < sides.length):someB base0 base sides ats (i+1)=(someB base0 base sides ats i || decide (sides.getD i 0 < ats.getD i 0)):=by
 (have hl:i < (List.zip sides ats).length:=by rw[List.length_zip,h,Nat.min_self];exact hi);rw[someB,someB,← List.take_append_getElem hl,List.any_append,List.getElem_zip,getD_get hi,getD_get (by omega),Bool.or_assoc];simp
def ToI (w0 w W:World) (B g gs:Nat) (stable:Bool) (base0 base:Int) (sides ats:List Int) (vo:Value) (i j:Nat) (vk:Value):Prop :=
  AKeeps g gs w W∧W.heap[g]? = some (.cells #[.int .i64 base0, .slice (some ⟨gs,0,none⟩) sides.length sides.length,vo] 126 (0,0)) ∧
    W.heap[gs]? = some (.cells ((ats.take i ++ sides.drop i).map (Value.int .i64)).toArray 3 (0,0)) ∧
    W.heap[w.heap.size]? = some (.cells #[.bool stable, .int .i64 base0, .int .i64 base,vk] 48 (0,0)) ∧
    Kd.R k45 45 W w.heap.size (fun _=>True) vk (spansF sides ats j)∧Below B w0 W
section
variable {w0 w W W':World} {B g gs i j:Nat} {stable:Bool} {base0 base:Int} {sides ats:List Int} {vo vk:Value}
theorem ToI.below (h:ToI w0 w W B g gs stable base0 base sides ats vo i j vk) (hb:Below W.heap.size W W') (hB:B≤W.heap.size):ToI w0 w W' B g gs stable base0 base sides ats vo i j vk:=by
 obtain⟨h1,h2,h3,h4,h5,h6⟩:=h;(have keep : ∀ {k:Nat} {o:Obj},W.heap[k]? = some o→W'.heap[k]? = some o:=fun {k o} h=>(hb.block k (Array.getElem?_eq_some_iff.1 h).1).trans h);exact⟨h1.below hb,keep h2,keep h3,keep h4,Kd.R_below h5 hb,h6.trans (hb.mono hB)⟩
theorem ToI.spans (h:ToI w0 w W B g gs stable base0 base sides ats vo i j vk):Kd.R k45 45 W w.heap.size (fun _=>True) vk (spansF sides ats j):=h.2.2.2.2.1
theorem ToI.chunk (h:ToI w0 w W B g gs stable base0 base sides ats vo i j vk):W.heap[w.heap.size]? = some (.cells #[.bool stable, .int .i64 base0, .int .i64 base,vk] 48 (0,0)):=h.2.2.2.1
theorem ToI.bel (h:ToI w0 w W B g gs stable base0 base sides ats vo i j vk):Below B w0 W:=h.2.2.2.2.2
theorem ToI.keeps (h:ToI w0 w W B g gs stable base0 base sides ats vo i j vk):AKeeps g gs w W:=h.1
theorem ToI.side (h:ToI w0 w W B g gs stable base0 base sides ats vo i j vk) (hi:i < sides.length) (hn:ats.length=sides.length):W.cell? ⟨gs,i,none⟩=some (.int .i64 (sides.getD i 0)):=by
 refine cell_blk h.2.2.1 ?_;(have hl:(ats.take i).length=i:=by rw[List.length_take];omega)
 have e:(ats.take i ++ sides.drop i)[i]? = some (sides.getD i 0):=by
  rw[List.getElem?_append_right (by omega),hl,Nat.sub_self,List.getElem?_drop,Nat.add_zero,List.getElem?_eq_getElem hi,getD_get hi]
 show ((ats.take i ++ sides.drop i).map (Value.int .i64)).toArray[i]? = _;(rw[List.getElem?_toArray,List.getElem?_map,e];rfl)
theorem ToI.move (h:ToI w0 w W B g gs stable base0 base sides ats vo i j vk) (hi:i < sides.length) (hn:ats.length=sides.length) (hg:g < w.heap.size) (hgs:gs < w.heap.size) (hB:B≤gs) (hne:g≠gs) :
    ToI w0 w (W.setCell ⟨gs,i,none⟩ (.int .i64 (ats.getD i 0))) B g gs stable base0 base sides ats vo (i+1) j vk:=by
 obtain⟨h1,h2,h3,h4,h5,h6⟩:=h;refine⟨⟨by simpa [World.setCell] using h1.1,fun k hk a b=>(heap_set_other b _).trans (h1.2 k hk a b)⟩,set_keepA h2 hne _,?_,set_keepA h4 (by omega) _,Kd.R_set h5 h3 (by decide) _ _,h6.setCell (p:=⟨gs,i,none⟩) hB _⟩;rw[heap_set_same h3];(have hl:(ats.take i).length=i:=by rw[List.length_take];omega)
 have e:(ats.take i ++ sides.drop i).set i (ats.getD i 0)=ats.take (i+1) ++ sides.drop (i+1):=by
  (rw[List.set_append_right _ _ (by omega),hl,Nat.sub_self,dropCons hi,List.set_cons_zero,getD_get (by omega),← List.take_append_getElem (by omega:i < ats.length),List.append_assoc];rfl)
 rw[← e,List.map_set,← List.setIfInBounds_toArray]
theorem ToI.lay {W3:World} {A:Option Addr} {c n:Nat} {v3:Value} (h:ToI w0 w W B g gs stable base0 base sides ats vo i j (.slice A n c)) (hg3:W.grownBy W3 (Value.slice A n c).ownBlock) (hb3:Below w.heap.size W W3) (hr3:Kd.R k45 45 W3 w.heap.size (fun _=>True) v3 (spansF sides ats (j+1)))
    (hg:g < w.heap.size) (hgs:gs < w.heap.size) (hB:B≤w.heap.size):ToI w0 w (W3.setCell ⟨w.heap.size,3,none⟩ v3) B g gs stable base0 base sides ats vo i (j+1) v3:=by
 obtain⟨h1,h2,h3,h4,h5,h6⟩:=h;have k4:=(hg3.block _ (blk_lt h4) (Kd.R_ne h5 h4 (by decide))).trans h4;refine⟨⟨by have:=hg3.size;have:=h1.1;simp[World.setCell];omega,fun k hk a b=>?_⟩,set_keepA ((hg3.block _ (blk_lt h2) (Kd.R_ne h5 h2 (by decide))).trans h2) (by omega) _,set_keepA ((hg3.block _ (blk_lt h3) (Kd.R_ne h5 h3 (by decide))).trans h3) (by omega) _,by rw[heap_set_same k4];rfl,Kd.R_set hr3 k4 (by decide) _ _,(h6.trans (hb3.mono hB)).setCell (p:=⟨w.heap.size,3,none⟩) hB _⟩;rw[heap_set_other (by omega)];refine(hg3.block k (Nat.lt_of_lt_of_le hk h1.1) (fun e=>?_)).trans (h1.2 k hk a b);have:=Kd.R_base h5 k e.symm;omega
theorem out_keep {out:List Chunk} (h5:Kd.S k48 48 w B (fun _=>True) vo out) {cs cs':Array Value} (h1:w.heap[g]? = some (.cells cs 126 (0,0))) (h3:w.heap[gs]? = some (.cells cs' 3 (0,0))) (hk:AKeeps g gs w W):Kd.S k48 48 W B (fun k=>k < w.heap.size) vo out:=by
 have a:=Kd.S_types (Kd.S_types h5 h1 (by decide)) h3 (by decide);have b:=Kd.S_bound a;exact Kd.S_mono (Kd.S_step b (fun k hk' hlt=>hk.2 k hlt hk'.1.1.2 hk'.1.2)) (fun k hk'=>hk'.2.2.1)
theorem cut_done {out:List Chunk} (hg:W.heap[g]? = some (.cells #[.int .i64 base0, .slice (some ⟨gs,0,none⟩) sides.length sides.length,vo] 126 (0,0))) (h3:W.heap[gs]? = some (.cells ((ats.take sides.length ++ sides.drop sides.length).map (Value.int .i64)).toArray 3 (0,0)))
    (hS:Kd.S k48 48 W B (fun _=>True) vo out) (hb:Below B w0 W) (hBg:B≤g) (hBgs:B≤gs) (hne:g≠gs) (hn:ats.length=sides.length):CutIn w0 (W.setCell ⟨g,0,none⟩ (.int .i64 base)) B g gs base ats out:=by
 (rw[List.take_of_length_le (by omega),List.drop_of_length_le (Nat.le_refl _),List.append_nil] at h3);exact⟨vo,by rw[heap_set_same hg,hn];rfl,hBg,set_keepA h3 (fun e=>hne e.symm) _,hBgs,Kd.S_set hS hg (by decide) _ _,hb.setCell (p:=⟨g,0,none⟩) hBg _⟩
theorem AKeeps.set (h:AKeeps g gs w W) (j:Nat) (v:Value):AKeeps g gs w (W.setCell ⟨g,j,none⟩ v):=⟨by simpa [World.setCell] using h.1,fun k hk a b=>(heap_set_other a _).trans (h.2 k hk a b)⟩
end
theorem cut_toF (F:FuncId) (fn:Func) (hfn:Tryz.prog.funcs[F]? = some fn) (hname:(fn.name == "runtime.NumGoroutine")=false) (hbody:fn.body.isSome=true) (cap:Array Value) (w0 w:World) (B g gs:Nat) (stable:Bool) (base0 base:Int) (sides ats:List Int) (out:List Chunk) (h:CutIn w0 w B g gs base0 sides out) (hB:B=w0.heap.size) (hn:ats.length=sides.length) (hs:sides.length≤1000) (ho:out.length≤100000)
    (hat : ∀ W',AKeeps g gs w W' → ∀ i,i < sides.length→Calls Tryz.prog F (#[.int .i64 (i:Int)] ++ cap) W' fun e w''=>e = .returned (.int .i64 (ats.getD i 0))∧Drawn0 W' w'') :
    Calls Tryz.prog 74 #[.pointer (some ⟨g,0,none⟩), .bool stable, .int .i64 base, .func (.func F) #[] cap] w fun e w'=>e = .returned (.tuple #[])∧Aside0 (CutIn w0 w' B g gs base ats (cutOut stable base0 base sides ats out))∧Aside0 (CKeeps g gs w w'):=by
 obtain⟨vo,h1,h2,h3,h4,h5,h6⟩:=h;have HFN:=Aside0.mk (And.intro hfn (And.intro hname hbody));clear hfn hname hbody;have H1:=Aside0.mk h1;have H3:=Aside0.mk h3;have H5:=Aside0.mk h5;have H6:=Aside0.mk h6;have HAT:=Aside0.mk hat;have HN:=Aside0.mk hn;have c0:w.cell? ⟨g,0,none⟩=some (.int .i64 base0):=cell_blk h1 rfl;have c1:w.cell? ⟨g,1,none⟩=some (.slice (some ⟨gs,0,none⟩) sides.length sides.length):=cell_blk h1 rfl;have HBW:Aside0 (B≤w.heap.size):=⟨by rw[hB];exact H6.out.size⟩;have HGL:Aside0 (g < w.heap.size):=⟨blk_lt h1⟩;have HGSL:Aside0 (gs < w.heap.size):=⟨blk_lt h3⟩;have HNE:Aside0 (g≠gs):=⟨blk_neA h1 h3 (by decide)⟩;(have c0o : ∀ o,(w.alloc o).cell? ⟨g,0,none⟩=some (.int .i64 base0):=fun o=>cell_alloc_of c0 o);(have c1o : ∀ o,(w.alloc o).cell? ⟨g,1,none⟩=some (.slice (some ⟨gs,0,none⟩) sides.length sides.length):=fun o=>cell_alloc_of c1 o);clear h1 h3 h5 h6 hat hn;go_enter Tryz.func74,Tryz.ntmps74;(go_wp2_with fail)
 go_loopw [9,31] (fun s9 s31 wr => ∃ (i:Nat) (vk:Value),s9 = .bool (someB base0 base sides ats i)∧s31 = .int .i64 i∧i≤sides.length∧Aside0 (ToI w0 w wr B g gs stable base0 base sides ats vo i i vk)) (fun _ s31 _=>sides.length - (intOf s31).toNat)
 case atStart =>
  (have hb : ∀ o,Below w.heap.size w (w.alloc o):=fun o=>(Below.refl _ w).alloc (Nat.le_refl _) o);exact⟨0, .slice none 0 0,by simp[someB],rfl,Nat.zero_le _,⟨(AKeeps.refl g gs w).below (hb _),far_keep H1.out (hb _),by simpa using far_keep H3.out (hb _),blk_new _ _,Kd.R_nil _ _ _ _ _,H6.out.trans ((hb _).mono HBW.out)⟩⟩
 case round =>
  obtain⟨i,vk,rfl,rfl,hi,HI⟩:=hrel
  by_cases hlt:i < sides.length
  ·
   have d1:decide ((i:Int) < (sides.length:Int))=true:=decide_eq_true (by omega);have d2:decide (i < sides.length)=true:=decide_eq_true hlt;obtain⟨Ak,ck,hvk⟩:=Kd.R_slice HI.out.spans;(rw[spansF_len HN.out hi] at hvk);subst hvk;have xi:=HI.out.side hlt HN.out;have y3:wr.cell? ⟨w.heap.size,3,none⟩=some (.slice Ak i ck):=cell_blk HI.out.chunk rfl;obtain⟨f,hf⟩ : ∃ f,sides.getD i 0=f:=⟨_,rfl⟩;obtain⟨t,ht⟩ : ∃ t,ats.getD i 0=t:=⟨_,rfl⟩;have hat:=HAT.out;have HFF:=Aside0.mk hf;have HTT:=Aside0.mk ht;(rw[hf] at xi);have HATI:Aside0 (∀ W',AKeeps g gs w W'→Calls Tryz.prog F (#[.int .i64 (i:Int)] ++ cap) W' fun e w''=>e = .returned (.int .i64 t)∧Drawn0 W' w''):=⟨fun W' hW=>by rw[← ht];exact hat W' hW i hlt⟩;have hBr:B≤wr.heap.size:=Nat.le_trans HBW.out HI.out.keeps.1;clear hat hf ht;go_wp2;refine start_ (n:=11) (S:=fun w'=>w'.cell? ⟨w.heap.size,3,none⟩=some (.slice Ak i ck)) (ds:=[8,10]) (bm_ 11 0) (by kernel_rfl) rfl rfl (y3) (fun hHeld=>?_);refine pq_ (i:=0) (N:=some 36) (bm_ 11 1) ?_;refine pq_ (i:=2) (N:=some 38) (bm_ 11 5) ?_;refine pq_ (i:=3) (N:=some 39) (bm_ 11 13) ?_;refine pq_ (i:=4) (N:=some 40) (bm_ 11 29) ?_;refine tq_ (i:=1) (N:=some 37) (bm_ 11 31) hHeld ?_;refine one_ (i:=5) (N:=some 41) (bm_ 11 63) rfl rfl (by kernel_rfl) (by decide) (fun K hK=>?_);refine goesC_ HFN.out.1 HFN.out.2.1 HFN.out.2.2 cap (#[.int .i64 (i:Int)] ++ cap) (by rfl) rfl rfl (by rfl) (by simp only[List.map_toArray,List.map_cons,List.map_nil];rfl) ?_;(with_reducible refine(HATI.out wr.drew (HI.out.keeps.below (Below.refl _ _).drew)).mono ?_);rintro e w2' ⟨rfl,n2,hn2⟩;obtain⟨w2,hw2⟩ : ∃ w2,w2=w2':=⟨_,rfl⟩;rw[← hw2];(rw[← hw2] at hn2);clear hw2;refine⟨_,rfl,?_⟩;have HB2:Aside0 (Below wr.heap.size wr w2):=⟨by rw[hn2];exact pw_below_drewN (Below.refl _ _).drew n2⟩;clear hn2;have HI2:=Aside0.mk (HI.out.below HB2.out hBr);have y32:w2.cell? ⟨w.heap.size,3,none⟩=some (.slice Ak i ck):=cell_blk HI2.out.chunk rfl;refine hK.out _ _ (y32) (fun hHeld=>?_);clear hK K;refine nq_ (N:=some 41) ?_;refine pq_ (i:=6) (N:=some 42) (bm_ 11 127) ?_;refine one_ (i:=7) (N:=some 43) (bm_ 11 255) rfl rfl (by kernel_rfl) (by decide) (fun K hK=>?_);refine value_ (w1:=?_) (v:=?_) (by rfl) rfl ?_ ?_;rotate_left 2
   ·
    go_simp;constructor;(· rfl);(· rfl)
   refine hK.out _ _ (cell_alloc_of y32 _) (fun hHeld=>?_);clear hK K;refine nq_ (N:=some 43) ?_;refine last_ (i:=8) (N:=some 44) (bm_ 11 511) rfl rfl (by kernel_rfl) (by decide) (fun K hK=>?_);refine Kd.R_append_step k45 (w0:=w2) w.heap.size (by rfl) (.tmp 37) (.tmp 43) 46 45 (.agg #[.int .i64 0, .int .i64 0]) 16 rfl Tryz.underlying46 info45 rfl (by decide) (by decide) (.slice Ak i ck) (spansF sides ats i) ⟨f,t⟩ [.int .i64 f, .int .i64 t] (fun _=>True) (fun _=>False) rfl rfl (k45_mkM _ _ _ _) (fun _ h=>h.elim) (fun _ _=>trivial) ?aO (Below.refl _ _) HI2.out.keeps.1 (by rw[spansF_len HN.out hi];omega) ?_;(case aO=>exact HI2.out.spans);intro v3 w3 hr3 hb3 hg3 hat3;obtain⟨A3,c3,hv3⟩:=Kd.R_slice hr3;subst hv3;have hgn:some w.heap.size≠(Value.slice Ak i ck).ownBlock:=Kd.R_ne HI2.out.spans HI2.out.chunk (by decide);have g3:=(hg3.block w.heap.size (blk_lt HI2.out.chunk) hgn).trans HI2.out.chunk;have y33:w3.cell? ⟨w.heap.size,3,none⟩=some (.slice Ak i ck):=cell_blk g3 rfl;have fr3:w3.frozen? ⟨w.heap.size,3,none⟩=false:=frozen_of_row _ _ _ _ _ g3;have HR3:=Aside0.mk hr3;have HB3:=Aside0.mk hb3;have HG3:=Aside0.mk hg3;have G3:=Aside0.mk g3;clear hr3 hb3 hg3 g3 hat3 hgn y32;refine hK.out _ _ ?_;clear hK K;refine nq_ (N:=some 44) ?_;refine pq_ (i:=9) (N:=some 45) (bm_ 11 1023) ?_;refine last_ (i:=10) (N:=none) (bm_ 11 2047) rfl rfl (by kernel_rfl) (by decide) (fun K hK=>?_);refine skip_ (w1:=?_) (by rfl) rfl ?_ ?_;rotate_left;(· go_simp;rfl);refine hK.out _ _ ?_;clear hK K;refine done_ (by kernel_rfl) ?_;clear y3 y33 fr3
   have hr3s:Kd.R k45 45 w3 w.heap.size (fun _=>True) (.slice A3 ((spansF sides ats i).length+1) c3) (spansF sides ats (i+1)):=by
    rw[spansF_succ HN.out hlt,HFF.out,HTT.out];have:=HR3.out;(rw[List.length_append,List.length_singleton] at this);exact this
   have HI4:=Aside0.mk (HI2.out.lay HG3.out HB3.out hr3s HGL.out HGSL.out HBW.out);obtain⟨w4,hw4⟩ : ∃ w4,w3.setCell ⟨w.heap.size,3,none⟩ (.slice A3 ((spansF sides ats i).length+1) c3)=w4:=⟨_,rfl⟩;(rw[hw4] at HI4 ⊢);clear hr3s hw4;obtain⟨sb,hsb⟩ : ∃ sb,someB base0 base sides ats i=sb:=⟨_,rfl⟩;have HSB:=Aside0.mk hsb;rw[hsb];clear hsb
   cases sb with
   | true =>
    ·
     skip;have y1:w4.cell? ⟨g,1,none⟩=some (.slice (some ⟨gs,0,none⟩) sides.length sides.length):=cell_blk HI4.out.2.1 rfl;go_wp2;refine start_ (n:=10) (S:=fun w'=>w'.cell? ⟨g,1,none⟩=some (.slice (some ⟨gs,0,none⟩) sides.length sides.length)) (ds:=[9]) (bm_ 10 0) (by kernel_rfl) rfl rfl (y1) (fun hHeld=>?_);refine pq_ (i:=0) (N:=some 54) (bm_ 10 1) ?_;refine pq_ (i:=1) (N:=some 55) (bm_ 10 3) ?_;refine pq_ (i:=2) (N:=some 56) (bm_ 10 7) ?_;refine pq_ (i:=4) (N:=some 58) (bm_ 10 23) ?_;refine pq_ (i:=5) (N:=some 59) (bm_ 10 55) ?_;refine pq_ (i:=6) (N:=some 60) (bm_ 10 119) ?_;refine tq_ (i:=3) (N:=some 57) (bm_ 10 127) hHeld ?_;refine one_ (i:=7) (N:=some 61) (bm_ 10 255) rfl rfl (by kernel_rfl) (by decide) (fun K hK=>?_);refine goesC_ HFN.out.1 HFN.out.2.1 HFN.out.2.2 cap (#[.int .i64 (i:Int)] ++ cap) (by rfl) rfl rfl (by rfl) (by simp only[List.map_toArray,List.map_cons,List.map_nil];rfl) ?_;(with_reducible refine(HATI.out w4.drew (HI4.out.keeps.below (Below.refl _ _).drew)).mono ?_);rintro e w7' ⟨rfl,n7,hn7⟩;obtain⟨w7,hw7⟩ : ∃ w7,w7=w7':=⟨_,rfl⟩;rw[← hw7];(rw[← hw7] at hn7);clear hw7;refine⟨_,rfl,?_⟩;have HB7:Aside0 (Below w4.heap.size w4 w7):=⟨by rw[hn7];exact pw_below_drewN (Below.refl _ _).drew n7⟩;clear hn7;have HI7:=Aside0.mk (HI4.out.below HB7.out (Nat.le_trans HBW.out HI4.out.keeps.1));have y17:w7.cell? ⟨g,1,none⟩=some (.slice (some ⟨gs,0,none⟩) sides.length sides.length):=cell_blk HI7.out.2.1 rfl;(have x7:w7.cell? ⟨gs,i,none⟩=some (.int .i64 f):=by rw[← HFF.out];exact HI7.out.side hlt HN.out);have fr7:w7.frozen? ⟨gs,i,none⟩=false:=frozen_of_row _ _ _ _ _ HI7.out.2.2.1;refine hK.out _ _ (y17) (fun hHeld=>?_);clear hK K;refine nq_ (N:=some 61) ?_;refine pq_ (i:=8) (N:=some 62) (bm_ 10 511) ?_;refine last_ (i:=9) (N:=none) (bm_ 10 1023) rfl rfl (by kernel_rfl) (by decide) (fun K hK=>?_);refine skip_ (w1:=?_) (by rfl) rfl ?_ ?_;rotate_left;(· go_simp;rfl);refine hK.out _ _ ?_;clear hK K;refine done_ (by kernel_rfl) ?_;clear y1 y17 x7 fr7;go_wp2;go_roundw;(case measure=>simp[intOf];omega);(case rel=>exact⟨i+1,_,by rw[someB_succ HN.out hlt,HSB.out,HFF.out,HTT.out];rfl,by go_num,by omega,⟨by rw[← HTT.out];exact HI7.out.move hlt HN.out HGL.out HGSL.out h4 HNE.out⟩⟩)
   | false =>
    ·
     (have hent : ∀ args w,(callFunc F args).run Tryz.prog w = .ok (.enter F args) w:=fun args w=>enters_ HFN.out.1 HFN.out.2.1 HFN.out.2.2 args w);(go_wp2_with fail);(try rw[hent,Oper.upon_enter]);clear hent;refine(HATI.out w4 HI4.out.keeps).mono ?_;rintro e w5' ⟨rfl,n5,hn5⟩;obtain⟨w5,hw5⟩ : ∃ w5,w5=w5':=⟨_,rfl⟩;rw[← hw5];(rw[← hw5] at hn5);clear hw5;have HB5:Aside0 (Below w4.heap.size w4 w5):=⟨by rw[hn5];exact pw_below_drewN (Below.refl _ _) n5⟩;have HI5:=Aside0.mk (HI4.out.below HB5.out (Nat.le_trans HBW.out HI4.out.keeps.1));clear hn5;have y1:w5.cell? ⟨g,1,none⟩=some (.slice (some ⟨gs,0,none⟩) sides.length sides.length):=cell_blk HI5.out.2.1 rfl;go_wp2;refine start_ (n:=10) (S:=fun w'=>w'.cell? ⟨g,1,none⟩=some (.slice (some ⟨gs,0,none⟩) sides.length sides.length)) (ds:=[9]) (bm_ 10 0) (by kernel_rfl) rfl rfl (y1) (fun hHeld=>?_);refine pq_ (i:=0) (N:=some 54) (bm_ 10 1) ?_;refine pq_ (i:=1) (N:=some 55) (bm_ 10 3) ?_;refine pq_ (i:=2) (N:=some 56) (bm_ 10 7) ?_;refine pq_ (i:=4) (N:=some 58) (bm_ 10 23) ?_;refine pq_ (i:=5) (N:=some 59) (bm_ 10 55) ?_;refine pq_ (i:=6) (N:=some 60) (bm_ 10 119) ?_;refine tq_ (i:=3) (N:=some 57) (bm_ 10 127) hHeld ?_;refine one_ (i:=7) (N:=some 61) (bm_ 10 255) rfl rfl (by kernel_rfl) (by decide) (fun K hK=>?_);refine goesC_ HFN.out.1 HFN.out.2.1 HFN.out.2.2 cap (#[.int .i64 (i:Int)] ++ cap) (by rfl) rfl rfl (by rfl) (by simp only[List.map_toArray,List.map_cons,List.map_nil];rfl) ?_;(with_reducible refine(HATI.out w5.drew (HI5.out.keeps.below (Below.refl _ _).drew)).mono ?_);rintro e w7' ⟨rfl,n7,hn7⟩;obtain⟨w7,hw7⟩ : ∃ w7,w7=w7':=⟨_,rfl⟩;rw[← hw7];(rw[← hw7] at hn7);clear hw7;refine⟨_,rfl,?_⟩;have HB7:Aside0 (Below w5.heap.size w5 w7):=⟨by rw[hn7];exact pw_below_drewN (Below.refl _ _).drew n7⟩;clear hn7;have HI7:=Aside0.mk (HI5.out.below HB7.out (Nat.le_trans HBW.out HI5.out.keeps.1));have y17:w7.cell? ⟨g,1,none⟩=some (.slice (some ⟨gs,0,none⟩) sides.length sides.length):=cell_blk HI7.out.2.1 rfl;(have x7:w7.cell? ⟨gs,i,none⟩=some (.int .i64 f):=by rw[← HFF.out];exact HI7.out.side hlt HN.out);have fr7:w7.frozen? ⟨gs,i,none⟩=false:=frozen_of_row _ _ _ _ _ HI7.out.2.2.1;refine hK.out _ _ (y17) (fun hHeld=>?_);clear hK K;refine nq_ (N:=some 61) ?_;refine pq_ (i:=8) (N:=some 62) (bm_ 10 511) ?_;refine last_ (i:=9) (N:=none) (bm_ 10 1023) rfl rfl (by kernel_rfl) (by decide) (fun K hK=>?_);refine skip_ (w1:=?_) (by rfl) rfl ?_ ?_;rotate_left;(· go_simp;rfl);refine hK.out _ _ ?_;clear hK K;refine done_ (by kernel_rfl) ?_;clear y1 y17 x7 fr7;go_wp2;go_roundw;(case measure=>simp[intOf];omega);(case rel=>exact⟨i+1,_,by rw[someB_succ HN.out hlt,HSB.out,HFF.out,HTT.out];simp,by go_num,by omega,⟨by rw[← HTT.out];exact HI7.out.move hlt HN.out HGL.out HGSL.out h4 HNE.out⟩⟩)
  ·
   (have hin:i=sides.length:=by omega);subst hin;have d1:decide ((sides.length:Int) < (sides.length:Int))=false:=decide_eq_false (by omega);have HS:Aside0 (Kd.S k48 48 wr B (fun k=>k < w.heap.size) vo out):=⟨out_keep H5.out H1.out H3.out HI.out.keeps⟩;obtain⟨Ao,co,hvo⟩:=Kd.S_slice HS.out;subst hvo;obtain⟨Ak,ck,hvk⟩:=Kd.R_slice HI.out.spans;have hsl:=spansF_len (i:=sides.length) HN.out (Nat.le_refl _);obtain⟨sb,hsb⟩ : ∃ sb,someB base0 base sides ats sides.length=sb:=⟨_,rfl⟩;have HSB:=Aside0.mk hsb;rw[hsb];clear hsb
   cases sb with
   | false =>
    (· have HO:Aside0 (cutOut stable base0 base sides ats out=out):=⟨by rw[cutOut,HSB.out,if_neg (by decide)]⟩;have e0:wr.cell? ⟨g,0,none⟩=some (.int .i64 base0):=cell_blk HI.out.2.1 rfl;have f0:wr.frozen? ⟨g,0,none⟩=false:=frozen_of_row _ _ _ _ _ HI.out.2.1;clear hsl hvk;go_wp2;go_end0;exact⟨rfl,⟨by rw[HO.out];exact cut_done HI.out.2.1 HI.out.2.2.1 (Kd.S_mono HS.out (fun _ _=>trivial)) HI.out.bel h2 h4 HNE.out HN.out⟩,⟨(HI.out.keeps.set 0 _).toC⟩⟩)
   | true =>
    ·
     have HO:Aside0 (cutOut stable base0 base sides ats out=out ++ [⟨stable,⟨base0,base⟩,spansF sides ats sides.length⟩]):=⟨by rw[cutOut,HSB.out,if_pos rfl]⟩;have HVK:=Aside0.mk hvk;have hchunk:=HI.out.chunk;(rw[hvk,hsl] at hchunk);have y2:wr.cell? ⟨g,2,none⟩=some (.slice Ao out.length co):=cell_blk HI.out.2.1 rfl;have z0:wr.cell? ⟨w.heap.size,0,none⟩=some (.bool stable):=cell_blk hchunk rfl;have z1:wr.cell? ⟨w.heap.size,1,none⟩=some (.int .i64 base0):=cell_blk hchunk rfl;have z2:wr.cell? ⟨w.heap.size,2,none⟩=some (.int .i64 base):=cell_blk hchunk rfl;have z3:wr.cell? ⟨w.heap.size,3,none⟩=some (.slice Ak sides.length ck):=cell_blk hchunk rfl
     have HP:Aside0 (Kd.R k45 45 wr B (fun k=>w.heap.size≤k) (.slice Ak sides.length ck) (spansF sides ats sides.length)):=⟨by
      have:=HI.out.spans;(rw[hvk,hsl] at this)
      exact Kd.R_lower (Kd.R_mono (Kd.R_bound this) (fun k hk=>hk.2.1)) HBW.out⟩
     have HPM:Aside0 ((k48).M wr.drew B (fun k=>w.heap.size≤k) ⟨stable,⟨base0,base⟩,spansF sides ats sides.length⟩ [.bool stable, .int .i64 base0, .int .i64 base, .slice Ak sides.length ck]):=⟨k48_mkM _ _ _ ⟨stable,⟨base0,base⟩,spansF sides ats sides.length⟩ (Kd.R_drew HP.out)⟩;clear hsl hvk hchunk;go_wp2;refine start_ (n:=11) (S:=fun w'=>w'.cell? ⟨g,2,none⟩=some (.slice Ao out.length co)∧w'.cell? ⟨w.heap.size,0,none⟩=some (.bool stable)∧w'.cell? ⟨w.heap.size,1,none⟩=some (.int .i64 base0)∧w'.cell? ⟨w.heap.size,2,none⟩=some (.int .i64 base)∧w'.cell? ⟨w.heap.size,3,none⟩=some (.slice Ak sides.length ck)) (ds:=[7,10]) (bm_ 11 0) (by kernel_rfl) rfl rfl ⟨y2,z0,z1,z2,z3⟩ (fun hHeld=>?_);refine pq_ (i:=0) (N:=some 65) (bm_ 11 1) ?_;refine pq_ (i:=1) (N:=some 66) (bm_ 11 3) ?_;refine pq_ (i:=2) (N:=some 67) (bm_ 11 7) ?_;refine pq_ (i:=3) (N:=some 68) (bm_ 11 15) ?_;refine tq_ (i:=4) (N:=some 69) (bm_ 11 31) hHeld ?_;refine tq_ (i:=5) (N:=some 70) (bm_ 11 63) hHeld ?_;refine one_ (i:=6) (N:=some 71) (bm_ 11 127) rfl rfl (by kernel_rfl) (by decide) (fun K hK=>?_);refine value_ (w1:=?_) (v:=?_) (by rfl) rfl ?_ ?_;rotate_left 2
     ·
      go_simp;constructor;(· rfl);(· rfl)
     refine hK.out _ _ ⟨cell_alloc_of y2 _,cell_alloc_of z0 _,cell_alloc_of z1 _,cell_alloc_of z2 _,cell_alloc_of z3 _⟩ (fun hHeld=>?_);clear hK K;refine nq_ (N:=some 71) ?_;refine last_ (i:=7) (N:=some 72) (bm_ 11 255) rfl rfl (by kernel_rfl) (by decide) (fun K hK=>?_);refine Kd.S_append_step k48 (w0:=wr.drew) (W:=wr.drew) B (by rfl) (.tmp 69) (.tmp 71) 26 48 (.agg #[.bool false, .int .i64 0, .int .i64 0, .slice none 0 0]) 48 rfl Tryz.underlying26 info48 rfl (by decide) (by decide) (.slice Ao out.length co) out ⟨stable,⟨base0,base⟩,spansF sides ats sides.length⟩ [.bool stable, .int .i64 base0, .int .i64 base, .slice Ak sides.length ck] (fun _=>True) (fun k=>w.heap.size≤k) rfl rfl HPM.out (fun k hk=>⟨trivial,Kd.S_away HS.out (fun j hj=>by omega)⟩) (fun _ _=>trivial) ?aO (Below.refl _ _) ?aS (by omega) ?_;(case aO=>exact Kd.S_mono (Kd.S_drew HS.out) (fun k hk=>⟨trivial,by omega⟩));(case aS=>exact Nat.le_trans HBW.out HI.out.keeps.1);intro v9 w9 hs9 hb9 hg9 hat9;obtain⟨A9,c9,hv9⟩:=Kd.S_slice hs9;subst hv9;have hgn:some g≠(Value.slice Ao out.length co).ownBlock:=Kd.S_ne HS.out HI.out.2.1 (by decide);have g9:w9.heap[g]? = some (.cells #[.int .i64 base0, .slice (some ⟨gs,0,none⟩) sides.length sides.length, .slice Ao out.length co] 126 (0,0)):=(hg9.block g (blk_lt HI.out.2.1) hgn).trans HI.out.2.1;have y29:w9.cell? ⟨g,2,none⟩=some (.slice Ao out.length co):=cell_blk g9 rfl;have fr9:w9.frozen? ⟨g,2,none⟩=false:=frozen_of_row _ _ _ _ _ g9;have HS9:=Aside0.mk hs9;have HB9:=Aside0.mk hb9;have HG9:=Aside0.mk hg9;have G9:=Aside0.mk g9;clear hs9 hb9 hg9 g9 hat9 hgn;refine hK.out _ _ ?_;clear hK K;refine nq_ (N:=some 72) ?_;refine pq_ (i:=8) (N:=some 73) (bm_ 11 511) ?_;refine pq_ (i:=9) (N:=some 74) (bm_ 11 1023) ?_;refine last_ (i:=10) (N:=none) (bm_ 11 2047) rfl rfl (by kernel_rfl) (by decide) (fun K hK=>?_);refine skip_ (w1:=?_) (by rfl) rfl ?_ ?_;rotate_left;(· go_simp;rfl);refine hK.out _ _ ?_;clear hK K;refine done_ (by kernel_rfl) ?_
     have hs9':Kd.S k48 48 w9 B (fun _=>True) (.slice A9 (out.length+1) c9) (out ++ [⟨stable,⟨base0,base⟩,spansF sides ats sides.length⟩]):=by
      have:=HS9.out;(rw[List.length_append,List.length_singleton] at this);exact this
     obtain⟨w10,hw10⟩ : ∃ w10,w9.setCell ⟨g,2,none⟩ (.slice A9 (out.length+1) c9)=w10:=⟨_,rfl⟩;rw[hw10];have G10:Aside0 (w10.heap[g]? = some (.cells #[.int .i64 base0, .slice (some ⟨gs,0,none⟩) sides.length sides.length, .slice A9 (out.length+1) c9] 126 (0,0))):=⟨by rw[← hw10,heap_set_same G9.out];rfl⟩
     have g3:w10.heap[gs]? = some (.cells ((ats.take sides.length ++ sides.drop sides.length).map (Value.int .i64)).toArray 3 (0,0)):=by
      rw[← hw10];exact set_keepA ((HG9.out.block gs (blk_lt HI.out.2.2.1) (Kd.S_ne HS.out HI.out.2.2.1 (by decide))).trans HI.out.2.2.1) (fun e=>HNE.out e.symm) _
     have G3:=Aside0.mk g3;have S10:Aside0 (Kd.S k48 48 w10 B (fun _=>True) (.slice A9 (out.length+1) c9) (out ++ [⟨stable,⟨base0,base⟩,spansF sides ats sides.length⟩])):=⟨by rw[← hw10];exact Kd.S_set hs9' G9.out (by decide) 2 _⟩;have B10:Aside0 (Below B w0 w10):=⟨by rw[← hw10];exact(HI.out.bel.drew.trans HB9.out).setCell (p:=⟨g,2,none⟩) h2 _⟩
     have K10:Aside0 (CKeeps g gs w w10):=⟨by
      rw[← hw10];refine⟨by have:=HG9.out.size;have:=HI.out.keeps.1;simp[World.setCell] at *;omega,fun k cs q fr a b hk hq=>?_⟩;have hkl:=(Array.getElem?_eq_some_iff.1 hk).1;have hkr:wr.heap[k]? = some (.cells cs q fr):=(HI.out.keeps.2 k hkl a b).trans hk;rw[heap_set_other a];refine(HG9.out.block k (blk_lt hkr) (fun e=>?_)).trans hkr;obtain⟨cells,hc⟩:=Kd.S_typed HS.out k e.symm;(rw[hkr] at hc);(injection hc with hc);(injection hc with _ e2 _)
      exact hq e2⟩
     have e0:w10.cell? ⟨g,0,none⟩=some (.int .i64 base0):=cell_blk G10.out rfl;have f0:w10.frozen? ⟨g,0,none⟩=false:=frozen_of_row _ _ _ _ _ G10.out;clear g3 hs9' hw10 y2 z0 z1 z2 z3 y29 fr9;go_wp2;go_end0;refine⟨rfl,⟨by rw[HO.out];exact cut_done G10.out G3.out S10.out B10.out h2 h4 HNE.out HN.out⟩,⟨⟨by have:=K10.out.1;simpa [World.setCell] using this,fun k cs q fr a b hk hq=>(heap_set_other a _).trans (K10.out.2 k cs q fr a b hk hq)⟩⟩⟩
def SpanOk (s:Spanx) (n:Nat):Prop:=0≤s.f0∧s.f0≤s.f1∧s.f1≤(n:Int)
def cutS {α:Type} (l:List α) (s:Spanx):List α:=cutL l s.f0.toNat s.f1.toNat
def partsF (spans:List Spanx) (sides:List (List ByteArray)):List (List ByteArray):=List.zipWith (fun s l=>cutS l s) spans sides
theorem partsF_len {spans:List Spanx} {sides:List (List ByteArray)} (h:spans.length=sides.length):(partsF spans sides).length=sides.length:=by
 rw[partsF,List.length_zipWith,h,Nat.min_self]
theorem partsF_succ {spans:List Spanx} {sides:List (List ByteArray)} {i:Nat} (h1:i < spans.length) (h2:i < sides.length):partsF (spans.take (i+1)) (sides.take (i+1))=partsF (spans.take i) (sides.take i) ++ [cutS sides[i] spans[i]]:=by
 (rw[partsF,partsF,← List.take_append_getElem h1,← List.take_append_getElem h2,List.zipWith_append (by rw[List.length_take,List.length_take];omega)];rfl)
set_option maxHeartbeats 2000000 in
theorem parts_cut (gk:Nat) (A:Option Addr) (c:Nat) (l:List ByteArray) (f t:Nat) (w:World) (hc:l.length≤c) (h1:f≤t) (h2:t≤l.length) (hm:l.length≤1000000000000) :
    Calls Tryz.prog 101 #[.slice A l.length c, .agg #[.int .i64 (f:Int), .int .i64 (t:Int)], .pointer (some ⟨gk,0,none⟩)] w fun e w'=>e = .returned (.slice (cutA A f t) (t - f) (t - f))∧Aside0 (Below w.heap.size w w'):=by
 have HB:Aside0 (∀ o,Below w.heap.size w (w.alloc o)):=⟨fun o=>newBelow w o⟩
 have hcut : ∀ W:World,(Instr.slice 22 (.slice A l.length c) (some (.int .i64 (f:Int))) (some (.int .i64 (t:Int))) (some (.int .i64 (t:Int)))).run Tryz.prog W = .ok (.slice (cutA A f t) (t - f) (t - f)) W:=by
  obtain⟨i0,hi0,hz0⟩:=Option.map_eq_some_iff.1 info9;(simp only[Prod.mk.injEq] at hz0);obtain⟨hz,hsz,hby⟩:=hz0;exact run_cut3 22 9 Tryz.underlying22 hi0 hsz A l.length c f t h1 h2 hc
 have d1:decide ((f:Int) < 0)=false:=decide_eq_false (by omega);have d2:decide ((t:Int) < (f:Int))=false:=decide_eq_false (by omega);have d3:decide ((l.length:Int) < (t:Int))=false:=decide_eq_false (by omega);have d4:decide (t < f)=false:=decide_eq_false (by omega);have d5:decide (l.length < t)=false:=decide_eq_false (by omega);go_enter Tryz.func101,Tryz.ntmps101;go_wp2;go_ret;exact⟨rfl,⟨HB.out _⟩⟩
theorem FK_cut {W:World} {ok:Nat→Prop} {A:Option Addr} {n:Nat} {l:List ByteArray} (h:Kd.F Kd.string W ok A n l) (hn:l.length=n):Kd.FK KSs W ok l [.slice A n n]:=by
 subst hn;exact Kd.FK_slice_mk (Nat.le_refl _) h
set_option maxHeartbeats 4000000 in
theorem content_Parts (P:Nat→Prop) (st:Bool) (bs:Spanx) (As:Option Addr) (cs:Nat) (ss:List Spanx) (A0:Option Addr) (c0:Nat) (l0:List ByteArray) (A1:Option Addr) (c1:Nat) (l1:List (List ByteArray)) (w:World)
    (hs:Kd.C k45 w As ss.length ss) (hcs:ss.length≤cs) (h0:Kd.F Kd.string w P A0 l0.length l0) (hc0:l0.length≤c0) (h1:Kd.F KSs w P A1 l1.length l1) (hc1:l1.length≤c1)
    (hlen:ss.length=l1.length) (hb:SpanOk bs l0.length) (hok : ∀ i (h:i < l1.length),SpanOk (ss.getD i z45) l1[i].length) (hn:l1.length≤1000000) (hm0:l0.length≤1000000000000) (hm : ∀ y ∈ l1,y.length≤1000000000000) :
    Calls Tryz.prog 88 #[.agg #[.bool st, .int .i64 bs.f0, .int .i64 bs.f1, .slice As ss.length cs], .slice A0 l0.length c0, .slice A1 l1.length c1] w fun e w' => ∃ At v,e = .returned (.tuple #[.slice At (cutS l0 bs).length (cutS l0 bs).length,v, .int .i64 0]) ∧
      Aside0 (Kd.F Kd.string w' (fun k=>P k∧k < w.heap.size) At (cutS l0 bs).length (cutS l0 bs))∧Aside0 (Kd.N KSs 22 w' w.heap.size (fun k=>P k∨w.heap.size≤k) v (partsF ss l1))∧Aside0 (Below w.heap.size w w'):=by
  obtain⟨bf,bt⟩:=bs
  obtain⟨hb1,hb2,hb3⟩:=hb
  dsimp only at hb1 hb2 hb3
  obtain⟨f0,rfl⟩ : ∃ f:Nat,bf=(f:Int):=⟨bf.toNat,by omega⟩
  obtain⟨t0,rfl⟩ : ∃ f:Nat,bt=(f:Int):=⟨bt.toNat,by omega⟩
  have hcl:(cutS l0 ⟨(f0:Int),(t0:Int)⟩)=cutL l0 f0 t0:=rfl
  rw[hcl]
  have hcl2:(cutL l0 f0 t0).length=t0 - f0:=cutL_len (by omega)
  have HF0:Aside0 (Kd.F Kd.string w P (cutA A0 f0 t0) (t0 - f0) (cutL l0 f0 t0)):=⟨by rw[← hcl2];exact F_cutA rfl h0 (by omega) (by omega)⟩
  rw[hcl2]
  have HS:=Aside0.mk hs
  have HF1:=Aside0.mk h1
  have HOK:=Aside0.mk hok
  have HM:=Aside0.mk hm
  have HLEN:=Aside0.mk hlen
  have d1:decide ((ss.length:Int)=(l1.length:Int))=true:=decide_eq_true (by omega)
  have d2:((ss.length:Int) == (l1.length:Int))=true:=by rw[beq_iff_eq];omega
  have hmf : ∀ (fn:Fn) (first cap:Array Value) (w:World),(Instr.makeFunc fn first cap).run Tryz.prog w = .ok (.func fn first cap) w:=fun _ _ _ _=>rfl
  have HT0:Aside0 (f0≤t0∧t0≤l0.length):=⟨by omega,by omega⟩
  clear hs h0 h1 hok hm hcl hcl2 hb1 hb2 hb3 hlen
  go_enter Tryz.func88,Tryz.ntmps88
  go_wp2_with fail
  obtain⟨w1,hw1⟩ : ∃ w1,(w.alloc (.cells #[.bool st, .int .i64 (f0:Int), .int .i64 (t0:Int), .slice As ss.length cs] 48)).alloc (.cells #[.bool true] 4)=w1:=⟨_,rfl⟩
  have G0:Aside0 (w1.heap[w.heap.size]? = some (.cells #[.bool st, .int .i64 (f0:Int), .int .i64 (t0:Int), .slice As ss.length cs] 48 (0,0))):=⟨by rw[← hw1];exact newKeep (blk_new _ _) _⟩
  have G1:Aside0 (w1.heap[w.heap.size+1]? = some (.cells #[.bool true] 4 (0,0))):=⟨by
    rw[← hw1]
    have:=blk_new (w.alloc (.cells #[.bool st, .int .i64 (f0:Int), .int .i64 (t0:Int), .slice As ss.length cs] 48)) (.cells #[.bool true] 4)
    simpa using this⟩
  have HB1:Aside0 (Below w.heap.size w w1):=⟨by rw[← hw1];exact(newBelow _ _).alloc (by simp) _⟩
  rw[hw1]
  clear hw1
  refine(parts_cut (w.heap.size+1) A0 c0 l0 f0 t0 w1 hc0 HT0.out.1 HT0.out.2 hm0).mono ?_
  rintro e w2 ⟨rfl,hb2⟩
  have HB2:Aside0 (Below w.heap.size w w2):=⟨far_ HB1.out hb2.out⟩
  have G02:=Aside0.mk (farKeep G0.out hb2.out)
  have G12:=Aside0.mk (farKeep G1.out hb2.out)
  have z3:w2.cell? ⟨w.heap.size,3,none⟩=some (.slice As ss.length cs):=cell_blk G02.out rfl
  clear hb2 G0 G1 HB1
  go_wp2_with fail
  go_loopw [12,13,30] (fun v _ iv wr => ∃ (k:Nat) (Ao:Option Addr) (co:Nat),v = .slice Ao (partsF (ss.take k) (l1.take k)).length co∧iv = .int .i64 k∧k≤ss.length∧Aside0 (Kd.N KSs 22 wr w.heap.size (fun k=>P k∨w.heap.size≤k) (.slice Ao (partsF (ss.take k) (l1.take k)).length co) (partsF (ss.take k) (l1.take k)))∧Aside0 (wr.heap[w.heap.size+1]? = some (.cells #[.bool true] 4 (0,0)))∧Aside0 (Below w.heap.size w wr)) (fun _ _ iv _=>ss.length - (intOf iv).toNat)
  case atStart=>exact⟨0,_,_,rfl,rfl,Nat.zero_le _,⟨Kd.N_nil _ _ _ _ _⟩,G12,HB2⟩
  case round =>
    obtain⟨k,Ao,co,rfl,rfl,hk,HO,HG,HBr⟩:=hrel
    by_cases hlt:k < ss.length
    · have e1:decide ((k:Int) < (ss.length:Int))=true:=decide_eq_true (by omega)
      have e2:decide (k < ss.length)=true:=decide_eq_true hlt
      have hlt1:k < l1.length:=by have:=HLEN.out;omega
      have e3:(k:Int) < (l1.length:Int):=by omega
      have e4:(0:Int)≤(k:Int):=by omega
      obtain⟨as_,rfl,xf,xt⟩:=at_T45 HS.out (k:Int) (by omega) (by omega)
      have hx:rd_T45 ss (k:Int)=ss[k]:=getN hlt
      have hokk:=HOK.out k hlt1
      rw[getD_get hlt] at hokk
      have hsucc:=partsF_succ hlt hlt1
      obtain⟨⟨sf,st_⟩,hse⟩ : ∃ s,ss[k]=s:=⟨_,rfl⟩
      rw[hse] at hokk hsucc
      rw[hx,hse] at xf xt
      obtain⟨ho1,ho2,ho3⟩:=hokk
      dsimp only at ho1 ho2 ho3 xf xt
      obtain⟨f,rfl⟩ : ∃ f:Nat,sf=(f:Int):=⟨sf.toNat,by omega⟩
      obtain⟨t,rfl⟩ : ∃ f:Nat,st_=(f:Int):=⟨st_.toNat,by omega⟩
      replace xf:=(HBr.out.cell (World.block_lt_of_cell? w _ xf)).trans xf
      replace xt:=(HBr.out.cell (World.block_lt_of_cell? w _ xt)).trans xt
      have kk:(k:Int).toNat=k:=by omega
      rw[kk] at xf xt
      obtain⟨a1,cs1,rfl,hcl,hFK,hcell,_⟩:=Kd.F_get (Kd.F_old HF1.out HBr.out) [] (k:Int) (by omega) (by omega)
      have hy:l1.getD (k:Int).toNat []=l1[k]:=by simp[hlt1]
      have hmy:=HM.out _ (List.getElem_mem hlt1)
      obtain⟨y,hye⟩ : ∃ y,l1[k]=y:=⟨_,rfl⟩
      rw[hy,hye] at hFK
      rw[hye] at hmy hsucc ho3
      obtain⟨Ay,cy,rfl,ly,hFy⟩:=Kd.FK_slice_open hFK
      have xy:=hcell 0 _ rfl
      rw[kk] at xy
      replace xy:wr.cell? (a1.add k)=some (.slice Ay y.length cy):=by
        have e:k * KSs.sz+0=k:=by show k * 1+0=k;omega
        rw[e] at xy;exact xy
      have hft:f≤t:=by omega
      have hty:t≤y.length:=by omega
      have HFC:Aside0 (Kd.F Kd.string wr (fun k=>P k∧k < w.heap.size) (cutA Ay f t) (t - f) (cutL y f t)):=⟨by
        have:=F_cutA (d:=Kd.string) rfl hFy hft hty
        rwa [cutL_len hty] at this⟩
      have HCL:Aside0 ((cutL y f t).length=t - f):=⟨cutL_len hty⟩
      obtain⟨out,hout⟩ : ∃ out,partsF (ss.take k) (l1.take k)=out:=⟨_,rfl⟩
      have houl:out.length≤1000000:=by rw[← hout,partsF_len (by rw[List.length_take,List.length_take];omega),List.length_take];omega
      rw[hout] at HO hsucc ⊢
      have HTK:Aside0 (partsF (ss.take (k+1)) (l1.take (k+1))=out ++ [cutL y f t]):=⟨hsucc⟩
      have HOUL:=Aside0.mk houl
      have HBw:Aside0 (w.heap.size≤wr.heap.size):=⟨HBr.out.size⟩
      have xy' : ∀ o,(wr.alloc o).cell? (a1.add k)=some (.slice Ay y.length cy):=fun o=>cell_alloc_of xy o
      clear kk hy hye hcl hFK hcell hFy hout houl hx hse hsucc ho1 ho2 ho3 xy
      go_wp2
      obtain⟨w3,hw3⟩ : ∃ w3,wr.alloc (.cells #[.int .i64 (f:Int), .int .i64 (t:Int)] 45)=w3:=⟨_,rfl⟩
      have g3:w3.heap[wr.heap.size]? = some (.cells #[.int .i64 (f:Int), .int .i64 (t:Int)] 45 (0,0)):=by rw[← hw3];exact blk_new _ _
      have yf:w3.cell? ⟨wr.heap.size,0,none⟩=some (.int .i64 (f:Int)):=cell_blk g3 rfl
      have yt:w3.cell? ⟨wr.heap.size,1,none⟩=some (.int .i64 (t:Int)):=cell_blk g3 rfl
      have yy:w3.cell? (a1.add k)=some (.slice Ay y.length cy):=by rw[← hw3];exact xy' _
      have HB3:Aside0 (Below wr.heap.size wr w3):=⟨by rw[← hw3];exact newBelow _ _⟩
      rw[hw3]
      clear hw3 g3 xy' xf xt
      refine start_ (n:=11) (S:=fun w'=>w'.cell? (a1.add k)=some (.slice Ay y.length cy)∧w'.cell? ⟨wr.heap.size,0,none⟩=some (.int .i64 (f:Int))∧w'.cell? ⟨wr.heap.size,1,none⟩=some (.int .i64 (t:Int))) (ds:=[7,8,9]) (bm_ 11 0) (by kernel_rfl) rfl rfl ⟨yy,yf,yt⟩ (fun hHeld=>?_)
      refine pure_ (i:=0) (N:=some 35) (v:=?_) (a':=?_) (bm_ 11 1) rfl rfl (by kernel_rfl) (fun _ _ _ h=>h) (Or.inl ⟨by rfl,?_⟩) ?_ ?_
      rotate_left
      · intro w'
        go_simp
        with_reducible rfl
      rotate_left
      · simp only[Act.put,List.setIfInBounds_toArray,List.set_cons_zero,List.set_cons_succ,i64_w,i32_w]
        rfl
      refine pure_ (i:=1) (N:=some 36) (v:=?_) (a':=?_) (bm_ 11 3) rfl rfl (by kernel_rfl) (fun _ _ _ h=>h) (Or.inl ⟨by rfl,?_⟩) ?_ ?_
      rotate_left
      · intro w'
        go_simp
        with_reducible rfl
      rotate_left
      · simp only[Act.put,List.setIfInBounds_toArray,List.set_cons_zero,List.set_cons_succ,i64_w,i32_w]
        rfl
      refine pure_ (i:=2) (N:=some 37) (v:=?_) (a':=?_) (bm_ 11 7) rfl rfl (by kernel_rfl) (fun _ _ _ h=>h) (Or.inl ⟨by rfl,?_⟩) ?_ ?_
      rotate_left
      · intro w'
        go_simp
        with_reducible rfl
      rotate_left
      · simp only[Act.put,List.setIfInBounds_toArray,List.set_cons_zero,List.set_cons_succ,i64_w,i32_w]
        rfl
      refine pure_ (i:=3) (N:=some 38) (v:=?_) (a':=?_) (bm_ 11 15) rfl rfl (by kernel_rfl) (fun _ _ _ h=>h) (Or.inl ⟨by rfl,?_⟩) ?_ ?_
      rotate_left
      · intro w'
        go_simp
        with_reducible rfl
      rotate_left
      · simp only[Act.put,List.setIfInBounds_toArray,List.set_cons_zero,List.set_cons_succ,i64_w,i32_w]
        rfl
      refine pure_ (i:=4) (N:=some 39) (v:=?_) (a':=?_) (bm_ 11 31) rfl rfl (by kernel_rfl) (fun _ _ _ h=>h) (Or.inl ⟨by rfl,?_⟩) ?_ ?_
      rotate_left
      · intro w'
        go_simp
        with_reducible rfl
      rotate_left
      · simp only[Act.put,List.setIfInBounds_toArray,List.set_cons_zero,List.set_cons_succ,i64_w,i32_w]
        rfl
      refine take_ (i:=5) (N:=some 40) (v:=?_) (a':=?_) (bm_ 11 63) rfl rfl (by kernel_rfl) (fun _ _ _ h=>h) (Or.inl ⟨by rfl,?_⟩) hHeld ?_ ?_
      rotate_left
      · rintro w' ⟨s0,s1,s2⟩
        go_simp
        with_reducible rfl
      rotate_left
      · simp only[Act.put,List.setIfInBounds_toArray,List.set_cons_zero,List.set_cons_succ,i64_w,i32_w]
        rfl
      refine take_ (i:=6) (N:=some 41) (v:=?_) (a':=?_) (bm_ 11 127) rfl rfl (by kernel_rfl) (fun _ _ _ h=>h) (Or.inl ⟨by rfl,?_⟩) hHeld ?_ ?_
      rotate_left
      · rintro w' ⟨s0,s1,s2⟩
        go_simp
        with_reducible rfl
      rotate_left
      · simp only[Act.put,List.setIfInBounds_toArray,List.set_cons_zero,List.set_cons_succ,i64_w,i32_w]
        rfl
      refine last_ (i:=7) (N:=some 42) (bm_ 11 255) rfl rfl (by kernel_rfl) (by decide) (fun K hK=>?_)
      refine goesC_ Tryz.func101 (by kernel_rfl) rfl #[.pointer (some ⟨w.heap.size+1,0,none⟩)] #[.slice Ay y.length cy, .agg #[.int .i64 (f:Int), .int .i64 (t:Int)], .pointer (some ⟨w.heap.size+1,0,none⟩)] (by rfl) rfl rfl (by rfl) (by simp only[List.map_toArray,List.map_cons,List.map_nil];rfl) ?_
      with_reducible refine(parts_cut (w.heap.size+1) Ay cy y f t w3.drew ly hft hty hmy).mono ?_
      rintro e w4 ⟨rfl,hb4⟩
      refine⟨_,rfl,?_⟩
      have HB4:Aside0 (Below wr.heap.size wr w4):=⟨far_ HB3.out ((Below.refl _ _).drew.trans hb4.out)⟩
      clear hb4
      refine hK.out _ _ ?_
      clear hK K
      refine norm_ (a':=?_) ?_ ?_
      rotate_left
      · show Act.put _ (some 42) _=_
        simp only[Act.put,List.setIfInBounds_toArray,List.set_cons_zero,List.set_cons_succ,i64_w,i32_w]
        rfl
      refine last_ (i:=8) (N:=some 43) (bm_ 11 511) rfl rfl (by kernel_rfl) (by decide) (fun K hK=>?_)
      refine value_ (w1:=?_) (v:=?_) (by rfl) rfl ?_ ?_
      rotate_left 2
      · go_simp
        constructor
        · rfl
        · rfl
      refine hK.out _ _ ?_
      clear hK K
      refine norm_ (a':=?_) ?_ ?_
      rotate_left
      · show Act.put _ (some 43) _=_
        simp only[Act.put,List.setIfInBounds_toArray,List.set_cons_zero,List.set_cons_succ,i64_w,i32_w]
        rfl
      refine last_ (i:=9) (N:=some 44) (bm_ 11 1023) rfl rfl (by kernel_rfl) (by decide) (fun K hK=>?_)
      refine Kd.N_append_step KSs (w0:=w) (W:=w4) w.heap.size (by rfl) (.tmp 35) (.tmp 43) 23 22 (.slice none 0 0) 24 rfl Tryz.underlying23 info22 rfl Nat.zero_lt_one (by decide) (.slice Ao out.length co) out (cutL y f t) [.slice (cutA Ay f t) (t - f) (t - f)] (fun k=>P k∨w.heap.size≤k) (fun k=>P k∧k < w.heap.size) rfl rfl (FK_cut (Kd.F_below HFC.out HB4.out) HCL.out) (fun k hk=>⟨.inl hk.1,fun e=>by have:=Kd.N_base HO.out k e.symm;have:=hk.2;omega⟩) (fun k hk => .inr (Nat.le_trans (Nat.le_trans HBw.out HB4.out.size) hk)) (Kd.N_below HO.out HB4.out) (far_ HBr.out HB4.out) (Nat.le_trans HBw.out HB4.out.size) (by have:=HOUL.out;omega) ?_
      intro v5 w5 ho5 hb5 hg5 hat5
      obtain⟨A5,c5,hv5⟩:=Kd.N_slice ho5
      subst hv5
      have HO5:=Aside0.mk ho5
      have HB5:=Aside0.mk hb5
      have HG5:=Aside0.mk hg5
      clear ho5 hb5 hg5 hat5
      refine hK.out _ _ ?_
      clear hK K
      refine norm_ (a':=?_) ?_ ?_
      rotate_left
      · show Act.put _ (some 44) _=_
        simp only[Act.put,List.setIfInBounds_toArray,List.set_cons_zero,List.set_cons_succ,i64_w,i32_w]
        rfl
      refine pure_ (i:=10) (N:=some 12) (v:=?_) (a':=?_) (bm_ 11 2047) rfl rfl (by kernel_rfl) (fun _ _ _ h=>h) (Or.inl ⟨by rfl,?_⟩) ?_ ?_
      rotate_left
      · intro w'
        go_simp
        with_reducible rfl
      rotate_left
      · simp only[Act.put,List.setIfInBounds_toArray,List.set_cons_zero,List.set_cons_succ,i64_w,i32_w]
        rfl
      refine done_ (by kernel_rfl) ?_
      clear yf yt yy
      go_wp2
      go_roundw
      case measure=>simp[intOf];omega
      case rel =>
        have h14:=farKeep HG.out HB4.out
        refine⟨k+1,A5,c5,by rw[HTK.out,List.length_append,List.length_singleton],by go_num,by omega,⟨by rw[HTK.out];exact HO5.out⟩,⟨(HG5.out.block _ (blk_lt h14) (Kd.N_ne (Kd.N_below HO.out HB4.out) h14 (by decide))).trans h14⟩,HB5⟩
    · have hk':k=ss.length:=by omega
      subst hk'
      have e1:decide ((ss.length:Int) < (ss.length:Int))=false:=decide_eq_false (by omega)
      have hl1:l1.take ss.length=l1:=by rw[HLEN.out,List.take_length]
      rw[List.take_length,hl1] at HO ⊢
      have zk:wr.cell? ⟨w.heap.size+1,0,none⟩=some (.bool true):=cell_blk HG.out rfl
      have HF:=Aside0.mk (Kd.F_old HF0.out HBr.out)
      clear hl1
      go_wp2
      go_ret3
      exact⟨_,_,rfl,HF,HO,HBr⟩
theorem at_piece {W:World} {ok:Nat→Prop} {A:Option Addr} {n:Nat} {xs:List Piece} (h:Kd.F k66 W ok A n xs) (k:Nat) (hk:k < n) :
    ∃ ad A1 c1 A2 c2 A3 c3,A=some ad∧W.cell? (ad.add (k * 4))=some (.bool (xs.getD k z66).f0)∧W.cell? ⟨(ad.add (k * 4)).block,(ad.add (k * 4)).off+1,none⟩=some (.slice A1 (xs.getD k z66).f1.length c1) ∧
      W.cell? ⟨(ad.add (k * 4)).block,(ad.add (k * 4)).off+2,none⟩=some (.slice A2 (xs.getD k z66).f2.length c2)∧W.cell? ⟨(ad.add (k * 4)).block,(ad.add (k * 4)).off+3,none⟩=some (.slice A3 (xs.getD k z66).f3.length c3) ∧
      (xs.getD k z66).f1.length≤c1∧Kd.F Kd.string W ok A1 (xs.getD k z66).f1.length (xs.getD k z66).f1∧(xs.getD k z66).f2.length≤c2∧Kd.F Kd.string W ok A2 (xs.getD k z66).f2.length (xs.getD k z66).f2∧(xs.getD k z66).f3.length≤c3∧Kd.F KSs W ok A3 (xs.getD k z66).f3.length (xs.getD k z66).f3:=by
  obtain⟨ad,cs,e,hcl,hFK,hcell,_⟩:=Kd.F_get h z66 (k:Int) (by omega) (by omega)
  rw[Int.toNat_natCast] at hFK hcell
  have hc : ∀ j u,cs[j]? = some u→W.cell? (ad.add (k * 4+j))=some u:=hcell
  obtain⟨A1,c1,A2,c2,A3,c3,rfl,l1,g1,l2,g2,l3,g3⟩:=k66_openF hFK
  exact⟨ad,A1,c1,A2,c2,A3,c3,e,hc 0 _ rfl,by rw[← add_field _ _ 1 (by omega)];exact hc 1 _ rfl,by rw[← add_field _ _ 2 (by omega)];exact hc 2 _ rfl,by rw[← add_field _ _ 3 (by omega)];exact hc 3 _ rfl,l1,g1,l2,g2,l3,g3⟩
def textLast (out:List Piece):Bool:=decide (0 < out.length) && !(out.getD (out.length - 1) z66).f0
def putF (out:List Piece) (p:Piece):List Piece :=
  if p.f0=true then out ++ [⟨true,[],p.f2,p.f3⟩]
  else if p.f1=[] then out
  else if textLast out=true then out.set (out.length - 1) ⟨(out.getD (out.length - 1) z66).f0,(out.getD (out.length - 1) z66).f1 ++ p.f1,(out.getD (out.length - 1) z66).f2,(out.getD (out.length - 1) z66).f3⟩
  else out ++ [⟨false,p.f1,[],[]⟩]
def normalF (l:List Piece):List Piece:=l.foldl putF []
theorem normalF_snoc (l:List Piece) (p:Piece):normalF (l ++ [p])=putF (normalF l) p:=by rw[normalF,normalF,List.foldl_append];rfl
theorem putF_len (out:List Piece) (p:Piece):(putF out p).length≤out.length+1:=by
 unfold putF;split;(· simp)
 ·
  split;(· omega)
  ·
   split;(· (rw[List.length_set];omega));(· simp)
def RowIn (w0 W:World) (B gw:Nat) (P:Nat→Prop) (out:List Piece):Prop :=
  ∃ vo,W.heap[gw]? = some (.cells #[vo] 143 (0,0))∧B≤gw∧Kd.N k66 66 W B (fun k=>(P k∧k < B∨B≤k)∧k≠gw) vo out∧Below B w0 W
theorem RowIn.bel {w0 W:World} {B gw:Nat} {P:Nat→Prop} {out:List Piece} (h:RowIn w0 W B gw P out):Below B w0 W:=by
 (obtain⟨vo,q1,q2,q4,q5⟩:=h;exact q5)
theorem RowIn.below {w0 W W':World} {B gw:Nat} {P:Nat→Prop} {out:List Piece} (h:RowIn w0 W B gw P out) (hb:Below W.heap.size W W') (hB:B≤W.heap.size):RowIn w0 W' B gw P out:=by
 obtain⟨vo,q1,q2,q4,q5⟩:=h;exact⟨vo,farKeep q1 hb,q2,Kd.N_below q4 hb,q5.trans (hb.mono hB)⟩
set_option maxHeartbeats 4000000 in
theorem row_last (w:World) (B gw:Nat) (ok:Nat→Prop) (vo:Value) (out:List Piece) (q1:w.heap[gw]? = some (.cells #[vo] 143 (0,0))) (q4:Kd.N k66 66 w B ok vo out) (hl:out.length≤1000000000) :
    Calls Tryz.prog 104 #[.pointer (some ⟨gw,0,none⟩)] w fun e w' => ∃ p:Option Addr,e = .returned (.pointer p)∧Aside0 ((textLast out=false∧p=none)∨(textLast out=true ∧ ∃ go co,vo = .slice (some ⟨go,0,none⟩) out.length co∧p=some ⟨go,(out.length - 1) * 4,none⟩))∧w'=w:=by
 obtain⟨Ao,co,rfl⟩:=Kd.N_slice q4;have yw:w.cell? ⟨gw,0,none⟩=some (.slice Ao out.length co):=cell_blk q1 rfl;have Q4:=Aside0.mk q4
 by_cases h0:out.length=0
 (· have ht:Aside0 (textLast out=false):=⟨by rw[textLast,decide_eq_false (by omega)];rfl⟩;(have d1:((out.length:Int) == 0)=true:=by rw[beq_iff_eq];omega);clear q1 q4;go_enter Tryz.func104,Tryz.ntmps104;go_wp2;go_ret;exact⟨none,rfl,⟨.inl ⟨ht.out,rfl⟩⟩,rfl⟩)
 ·
  (have d1:((out.length:Int) == 0)=false:=by rw[beq_eq_false_iff_ne];omega);obtain⟨go,cap,hv,hgB,hgl,cellsO,hgc⟩:=Kd.N_form q4 (by omega);(injection hv with hv1 _ hv3);(subst hv1;subst hv3);obtain⟨c,hcl,hFK,hcell,hfr⟩:=Kd.N_elem q4 z66 ((out.length - 1:Nat):Int) (by omega) (by omega);(rw[Int.toNat_natCast] at hFK hcell);obtain⟨A1,c1,A2,c2,A3,c3,rfl,_⟩:=k66_openF hFK;have xb:w.cell? ⟨go,(out.length - 1) * 4,none⟩=some (.bool (out.getD (out.length - 1) z66).f0):=hcell 0 _ rfl;obtain⟨b,hb⟩ : ∃ b,(out.getD (out.length - 1) z66).f0=b:=⟨_,rfl⟩;have ht:Aside0 (textLast out = !b):=⟨by rw[textLast,decide_eq_true (by omega),hb];rfl⟩;(rw[hb] at xb);clear hb q1 q4 hFK hcell hcl hgc hfr
  cases b with
  | true =>
   go_enter Tryz.func104,Tryz.ntmps104;go_wp2;go_ret;exact⟨none,rfl,⟨.inl ⟨ht.out,rfl⟩⟩,rfl⟩
  | false =>
   go_enter Tryz.func104,Tryz.ntmps104;go_wp2;go_ret;exact⟨_,rfl,⟨Or.inr ⟨ht.out,rfl⟩⟩,rfl⟩
end Go.Proofs.YtbbhdbeaikclcaaGreat.X
