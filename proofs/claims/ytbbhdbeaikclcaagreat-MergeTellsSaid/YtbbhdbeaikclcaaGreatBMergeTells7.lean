/-
  Parts of one proof, one behind the other: XNormal2, XLcs3, XLcs4, XAlign4, XAlign5, XRefA, XLcs5, XLcs6, XLcs7, XChunks, XRefL, XMerge1, XMerge2, XMerge3, XMerge4, XTiles, XTiles2.
-/
import Derived.Test.YtbbhdbeaikclcaaGreatBMergeTells6
import Derived.Laws.CopyOwn
import Derived.StillTailTactics
import Derived.Deep.RegionLaw
import Derived.BigRegion
import Derived.Tactics2
import Derived.Defers
import Derived.Laws.Pointers
import Derived.Laws.LoneSync
import Derived.RegionTactic
import Derived.RegionCalls
import Derived.Laws.NewBlocks
import Derived.RangeFuncBox
import Derived.Shelf.RegionOpen
import Derived.WalkKit
import Derived.OwnWalkIn
import Derived.TacticsInMore
import Derived.LoopNIn
import Derived.LoopIn
import Derived.Maps.OwnIn
import Derived.Maps.AppendAt
set_option linter.unusedVariables false
set_option linter.unusedSimpArgs false
set_option maxRecDepth 100000
set_option maxHeartbeats 8000000
namespace Go.Proofs.YtbbhdbeaikclcaaGreat.X
open Go.RowKit Go.Proofs.YtbbhdbeaikclcaaGreatW.PrintWords Go.Proofs.YtbbhdbeaikclcaaGreatW.PrintLast Go.Proofs.YtbbhdbeaikclcaaGreatW.PrintMore
theorem text_put {W:World} {B gw go n co:Nat} {P:Nat→Prop} {out:List Piece} {A:Option Addr} {m c:Nat} {t:List ByteArray} (h:Kd.N k66 66 W B (fun k=>(P k∧k < B∨B≤k)∧k≠gw) (.slice (some ⟨go,0,none⟩) n co) out) (hn:0 < n)
    (ht:Kd.F Kd.string W (fun k=>((P k∧k < B∨B≤k)∧k≠gw)∧k≠go) A m t) (hm:t.length=m) (hc:m≤c) :
    Kd.N k66 66 (W.setCell ⟨go,(n - 1) * 4+1,none⟩ (.slice A m c)) B (fun k=>(P k∧k < B∨B≤k)∧k≠gw) (.slice (some ⟨go,0,none⟩) n co) (out.set (n - 1) ⟨(out.getD (n - 1) z66).f0,t,(out.getD (n - 1) z66).f2,(out.getD (n - 1) z66).f3⟩)∧W.grownBy (W.setCell ⟨go,(n - 1) * 4+1,none⟩ (.slice A m c)) (some go):=by
 subst hm;obtain⟨cs,hcl,hFK,hcell,hfr⟩:=Kd.N_elem h z66 ((n - 1:Nat):Int) (by omega) (by omega);have hcc:=hcell;(rw[Int.toNat_natCast] at hFK);obtain⟨A1,c1,A2,c2,A3,c3,rfl,l1,g1,l2,g2,l3,g3⟩:=k66_openF hFK;have hmk:=k66_mkF W (fun k=>((P k∧k < B∨B≤k)∧k≠gw)∧k≠go) (⟨(out.getD (n - 1) z66).f0,t,(out.getD (n - 1) z66).f2,(out.getD (n - 1) z66).f3⟩:Piece) hc ht l2 g2 l3 g3;have hs:=Kd.N_seg h ((n - 1:Nat):Int) (by omega) (by omega) (seg:=[.slice A t.length c]) (j:=1) hcl hcc (by show 1+1≤4;omega) hmk (fun k hk=>hk);(rw[Int.toNat_natCast] at hs);exact hs
theorem row_put (w0 w:World) (B gw:Nat) (P:Nat→Prop) (out:List Piece) (b:Bool) (s1 s2:List ByteArray) (s3:List (List ByteArray)) (A1:Option Addr) (c1:Nat) (A2:Option Addr) (c2:Nat) (A3:Option Addr) (c3:Nat) (hB:B=w0.heap.size) (h:RowIn w0 w B gw P out)
    (l1:s1.length≤c1) (F1:Kd.F Kd.string w (fun k=>P k∧k < B) A1 s1.length s1) (l2:s2.length≤c2) (F2:Kd.F Kd.string w (fun k=>P k∧k < B) A2 s2.length s2) (l3:s3.length≤c3) (F3:Kd.F KSs w (fun k=>P k∧k < B) A3 s3.length s3) (hl:out.length≤100000000) (ht : ∀ p ∈ out,p.f1.length+s1.length≤1000000) :
    Calls Tryz.prog 90 #[.pointer (some ⟨gw,0,none⟩), .agg #[.bool b, .slice A1 s1.length c1, .slice A2 s2.length c2, .slice A3 s3.length c3]] w fun e w'=>e = .returned (.tuple #[])∧Aside0 (RowIn w0 w' B gw P (putF out ⟨b,s1,s2,s3⟩)):=by
 have H:=Aside0.mk h;obtain⟨vo,q1,q2,q4,q5⟩:=h;obtain⟨Ao,co,rfl⟩:=Kd.N_slice q4;have HBW:Aside0 (B≤w.heap.size):=⟨by rw[hB];exact(by rw[hB] at q5;exact q5.size)⟩;have Q1:=Aside0.mk q1;have Q4:=Aside0.mk q4;have Q5:=Aside0.mk q5;have HF1:=Aside0.mk F1;have HF2:=Aside0.mk F2;have HF3:=Aside0.mk F3;have HT:=Aside0.mk ht;have hgw:gw < w.heap.size:=blk_lt q1;clear q1 q4 q5 F1 F2 F3 ht hB;go_enter Tryz.func90,Tryz.ntmps90;(go_wp2_with fail);obtain⟨w1,hw1⟩ : ∃ w1,w.alloc (.cells #[.bool b, .slice A1 s1.length c1, .slice A2 s2.length c2, .slice A3 s3.length c3] 66)=w1:=⟨_,rfl⟩;(have g1:w1.heap[w.heap.size]? = some (.cells #[.bool b, .slice A1 s1.length c1, .slice A2 s2.length c2, .slice A3 s3.length c3] 66 (0,0)):=by rw[← hw1];exact blk_new _ _);have HB1:Aside0 (Below w.heap.size w w1):=⟨by rw[← hw1];exact newBelow _ _⟩;rw[hw1];clear hw1;refine(row_last w1 B gw _ _ out (farKeep Q1.out HB1.out) (Kd.N_below Q4.out HB1.out) (by omega)).mono ?_;rintro e w1' ⟨p,rfl,HP,rfl⟩;have z0:w1'.cell? ⟨w.heap.size,0,none⟩=some (.bool b):=cell_blk g1 rfl;have z1:w1'.cell? ⟨w.heap.size,1,none⟩=some (.slice A1 s1.length c1):=cell_blk g1 rfl;have z2:w1'.cell? ⟨w.heap.size,2,none⟩=some (.slice A2 s2.length c2):=cell_blk g1 rfl;have z3:w1'.cell? ⟨w.heap.size,3,none⟩=some (.slice A3 s3.length c3):=cell_blk g1 rfl;have Q11:=Aside0.mk (farKeep Q1.out HB1.out);have Q41:=Aside0.mk (Kd.N_below Q4.out HB1.out);have Q51:Aside0 (Below B w0 w1'):=⟨Q5.out.trans (HB1.out.mono HBW.out)⟩;have zw:w1'.cell? ⟨gw,0,none⟩=some (.slice Ao out.length co):=cell_blk Q11.out rfl;have HF11:=Aside0.mk (Kd.F_below HF1.out HB1.out);have HF21:=Aside0.mk (Kd.F_below HF2.out HB1.out);have HF31:=Aside0.mk (Kd.F_below HF3.out HB1.out);have HFR:Aside0 (∀ k,w1'.heap.size≤k→(P k∧k < B∨B≤k)∧k≠gw):=⟨fun k hk=>by have:=HB1.out.size;have:=HBW.out;exact⟨.inr (by omega),by omega⟩⟩;have HOKP:Aside0 (∀ k,(P k∧k < B)→((P k∧k < B∨B≤k)∧k≠gw)∧some k≠(Value.slice Ao out.length co).ownBlock):=⟨fun k hk=>⟨⟨.inl hk,by omega⟩,fun e=>by have:=Kd.N_base Q4.out k e.symm;omega⟩⟩;clear g1
 cases b with
 | true =>
  have HPUT:Aside0 (putF out ⟨true,s1,s2,s3⟩=out ++ [⟨true,[],s2,s3⟩]):=⟨rfl⟩;go_wp2;refine start_ (n:=15) (S:=fun w'=>w'.cell? ⟨gw,0,none⟩=some (.slice Ao out.length co)∧w'.cell? ⟨w.heap.size,2,none⟩=some (.slice A2 s2.length c2)∧w'.cell? ⟨w.heap.size,3,none⟩=some (.slice A3 s3.length c3)) (ds:=[11,14]) (bm_ 15 0) (by kernel_rfl) rfl rfl ⟨zw,z2,z3⟩ (fun hHeld=>?_);refine pq_ (i:=0) (N:=some 22) (bm_ 15 1) ?_;refine pq_ (i:=1) (N:=some 23) (bm_ 15 3) ?_;refine pq_ (i:=2) (N:=some 24) (bm_ 15 7) ?_;refine pq_ (i:=3) (N:=some 25) (bm_ 15 15) ?_;refine pq_ (i:=5) (N:=some 27) (bm_ 15 47) ?_;refine pq_ (i:=7) (N:=some 29) (bm_ 15 175) ?_;refine tq_ (i:=4) (N:=some 26) (bm_ 15 191) hHeld ?_;refine tq_ (i:=6) (N:=some 28) (bm_ 15 255) hHeld ?_;refine tq_ (i:=8) (N:=some 30) (bm_ 15 511) hHeld ?_;refine pq_ (i:=9) (N:=some 31) (bm_ 15 1023) ?_;refine one_ (i:=10) (N:=some 32) (bm_ 15 2047) rfl rfl (by kernel_rfl) (by decide) (fun K hK=>?_);refine value_ (w1:=?_) (v:=?_) (by rfl) rfl ?_ ?_;rotate_left 2
  ·
   go_simp;constructor;(· rfl);(· rfl)
  refine hK.out _ _ ⟨cell_alloc_of zw _,cell_alloc_of z2 _,cell_alloc_of z3 _⟩ (fun hHeld=>?_);clear hK K;refine nq_ (N:=some 32) ?_;refine last_ (i:=11) (N:=some 33) (bm_ 15 4095) rfl rfl (by kernel_rfl) (by decide) (fun K hK=>?_);refine Kd.N_append_step k66 (w0:=w1'.drew) (W:=w1'.drew) B (by rfl) (.tmp 26) (.tmp 32) 35 66 (.agg #[.bool false, .slice none 0 0, .slice none 0 0, .slice none 0 0]) 80 rfl Tryz.underlying35 info66 rfl (by decide) (by decide) (.slice Ao out.length co) out (⟨true,[],s2,s3⟩:Piece) [.bool true, .slice none 0 0, .slice A2 s2.length c2, .slice A3 s3.length c3] (fun k=>(P k∧k < B∨B≤k)∧k≠gw) (fun k=>P k∧k < B) rfl rfl ?aF HOKP.out HFR.out (Kd.N_drew Q41.out) (Below.refl _ _) (Nat.le_trans HBW.out HB1.out.size) (by omega) ?_;(case aF=>exact k66_mkF _ _ (⟨true,[],s2,s3⟩:Piece) (Nat.le_refl 0) (Kd.F_nil Kd.string _ _) l2 (Kd.F_drew HF21.out) l3 (Kd.F_drew HF31.out));intro v9 w9 ho9 hb9 hg9 hat9;obtain⟨A9,c9,hv9⟩:=Kd.N_slice ho9;subst hv9;have g9:w9.heap[gw]? = some (.cells #[.slice Ao out.length co] 143 (0,0)):=(hg9.block gw (blk_lt Q11.out) (Kd.N_ne Q41.out Q11.out (by decide))).trans Q11.out;have y9:w9.cell? ⟨gw,0,none⟩=some (.slice Ao out.length co):=cell_blk g9 rfl;have f9:w9.frozen? ⟨gw,0,none⟩=false:=frozen_of_row _ _ _ _ _ g9;have HO9:=Aside0.mk ho9;have HB9:=Aside0.mk hb9;have HG9:=Aside0.mk hg9;have G9:=Aside0.mk g9;clear ho9 hb9 hg9 hat9 g9 zw z2 z3;refine hK.out _ _ ?_;clear hK K;refine nq_ (N:=some 33) ?_;refine pq_ (i:=12) (N:=some 34) (bm_ 15 8191) ?_;refine pq_ (i:=13) (N:=some 35) (bm_ 15 16383) ?_;refine last_ (i:=14) (N:=none) (bm_ 15 32767) rfl rfl (by kernel_rfl) (by decide) (fun K hK=>?_);refine skip_ (w1:=?_) (by rfl) rfl ?_ ?_;rotate_left;(· go_simp;rfl);refine hK.out _ _ ?_;clear hK K;refine done_ (by kernel_rfl) ?_;go_end0;exact⟨rfl,⟨⟨.slice A9 (out ++ [(⟨true,[],s2,s3⟩:Piece)]).length c9,by rw[heap_set_same G9.out];simp,q2,by rw[HPUT.out];exact Kd.N_far HO9.out (fun k hk=>hk.2) _,(Q51.out.drew.trans HB9.out).setCell (p:=⟨gw,0,none⟩) q2 _⟩⟩⟩
 | false =>
  by_cases hs1:s1=[]
  (· have HPUT:Aside0 (putF out ⟨false,s1,s2,s3⟩=out):=⟨by rw[putF,if_neg (by intro h;cases h),if_pos hs1]⟩;(have hs1l:s1.length=0:=by rw[hs1];rfl);(have d1:((s1.length:Int) == 0)=true:=by rw[beq_iff_eq];omega);go_wp2;go_end0;exact⟨rfl,⟨by rw[HPUT.out];exact H.out.below HB1.out HBW.out⟩⟩)
  ·
   have hs1l:0 < s1.length:=List.length_pos_iff.2 hs1;(have d1:((s1.length:Int) == 0)=false:=by rw[beq_eq_false_iff_ne];omega)
   rcases HP.out with ⟨htl,rfl⟩|⟨htl,go,co',hv,rfl⟩
   ·
    have HPUT:Aside0 (putF out ⟨false,s1,s2,s3⟩=out ++ [⟨false,s1,[],[]⟩]):=⟨by rw[putF,if_neg (by intro h;cases h),if_neg hs1,if_neg (by rw[htl];decide)]⟩;clear htl HP;go_wp2;refine start_ (n:=13) (S:=fun w'=>w'.cell? ⟨gw,0,none⟩=some (.slice Ao out.length co)∧w'.cell? ⟨w.heap.size,1,none⟩=some (.slice A1 s1.length c1)) (ds:=[9,12]) (bm_ 13 0) (by kernel_rfl) rfl rfl ⟨zw,z1⟩ (fun hHeld=>?_);refine pq_ (i:=0) (N:=some 7) (bm_ 13 1) ?_;refine pq_ (i:=1) (N:=some 8) (bm_ 13 3) ?_;refine pq_ (i:=2) (N:=some 9) (bm_ 13 7) ?_;refine pq_ (i:=3) (N:=some 10) (bm_ 13 15) ?_;refine pq_ (i:=5) (N:=some 12) (bm_ 13 47) ?_;refine tq_ (i:=4) (N:=some 11) (bm_ 13 63) hHeld ?_;refine tq_ (i:=6) (N:=some 13) (bm_ 13 127) hHeld ?_;refine pq_ (i:=7) (N:=some 14) (bm_ 13 255) ?_;refine one_ (i:=8) (N:=some 15) (bm_ 13 511) rfl rfl (by kernel_rfl) (by decide) (fun K hK=>?_);refine value_ (w1:=?_) (v:=?_) (by rfl) rfl ?_ ?_;rotate_left 2
    ·
     go_simp;constructor;(· rfl);(· rfl)
    refine hK.out _ _ ⟨cell_alloc_of zw _,cell_alloc_of z1 _⟩ (fun hHeld=>?_);clear hK K;refine nq_ (N:=some 15) ?_;refine last_ (i:=9) (N:=some 16) (bm_ 13 1023) rfl rfl (by kernel_rfl) (by decide) (fun K hK=>?_);refine Kd.N_append_step k66 (w0:=w1'.drew) (W:=w1'.drew) B (by rfl) (.tmp 11) (.tmp 15) 35 66 (.agg #[.bool false, .slice none 0 0, .slice none 0 0, .slice none 0 0]) 80 rfl Tryz.underlying35 info66 rfl (by decide) (by decide) (.slice Ao out.length co) out (⟨false,s1,[],[]⟩:Piece) [.bool false, .slice A1 s1.length c1, .slice none 0 0, .slice none 0 0] (fun k=>(P k∧k < B∨B≤k)∧k≠gw) (fun k=>P k∧k < B) rfl rfl ?aF HOKP.out HFR.out (Kd.N_drew Q41.out) (Below.refl _ _) (Nat.le_trans HBW.out HB1.out.size) (by omega) ?_;(case aF=>exact k66_mkF _ _ (⟨false,s1,[],[]⟩:Piece) l1 (Kd.F_drew HF11.out) (Nat.le_refl 0) (Kd.F_nil Kd.string _ _) (Nat.le_refl 0) (Kd.F_nil KSs _ _));intro v9 w9 ho9 hb9 hg9 hat9;obtain⟨A9,c9,hv9⟩:=Kd.N_slice ho9;subst hv9;have g9:w9.heap[gw]? = some (.cells #[.slice Ao out.length co] 143 (0,0)):=(hg9.block gw (blk_lt Q11.out) (Kd.N_ne Q41.out Q11.out (by decide))).trans Q11.out;have y9:w9.cell? ⟨gw,0,none⟩=some (.slice Ao out.length co):=cell_blk g9 rfl;have f9:w9.frozen? ⟨gw,0,none⟩=false:=frozen_of_row _ _ _ _ _ g9;have HO9:=Aside0.mk ho9;have HB9:=Aside0.mk hb9;have HG9:=Aside0.mk hg9;have G9:=Aside0.mk g9;clear ho9 hb9 hg9 hat9 g9 zw z1;refine hK.out _ _ ?_;clear hK K;refine nq_ (N:=some 16) ?_;refine pq_ (i:=10) (N:=some 17) (bm_ 13 2047) ?_;refine pq_ (i:=11) (N:=some 18) (bm_ 13 4095) ?_;refine last_ (i:=12) (N:=none) (bm_ 13 8191) rfl rfl (by kernel_rfl) (by decide) (fun K hK=>?_);refine skip_ (w1:=?_) (by rfl) rfl ?_ ?_;rotate_left;(· go_simp;rfl);refine hK.out _ _ ?_;clear hK K;refine done_ (by kernel_rfl) ?_;go_end0;exact⟨rfl,⟨⟨.slice A9 (out ++ [(⟨false,s1,[],[]⟩:Piece)]).length c9,by rw[heap_set_same G9.out];simp,q2,by rw[HPUT.out];exact Kd.N_far HO9.out (fun k hk=>hk.2) _,(Q51.out.drew.trans HB9.out).setCell (p:=⟨gw,0,none⟩) q2 _⟩⟩⟩
   ·
    (injection hv with hv1 _ hv3);(subst hv1;subst hv3)
    have hol:0 < out.length:=by
     (rw[textLast,Bool.and_eq_true] at htl);exact of_decide_eq_true htl.1
    (have hgd:out.getD (out.length - 1) z66 ∈ out:=by rw[getD_get (by omega)];exact List.getElem_mem _);have hlen:=HT.out _ hgd;obtain⟨cs,hcl,hFK,hcell,hfr⟩:=Kd.N_elem Q41.out z66 ((out.length - 1:Nat):Int) (by omega) (by omega);(rw[Int.toNat_natCast] at hFK hcell hfr);obtain⟨At,ct,A2',c2',A3',c3',rfl,lt_,gt_,_⟩:=k66_openF hFK;have yt:w1'.cell? ⟨go,(out.length - 1) * 4+1,none⟩=some (.slice At (out.getD (out.length - 1) z66).f1.length ct):=hcell 1 _ rfl;have HPUT:Aside0 (putF out ⟨false,s1,s2,s3⟩=out.set (out.length - 1) ⟨(out.getD (out.length - 1) z66).f0,(out.getD (out.length - 1) z66).f1 ++ s1,(out.getD (out.length - 1) z66).f2,(out.getD (out.length - 1) z66).f3⟩):=⟨by rw[putF,if_neg (by intro h;cases h),if_neg hs1,if_pos htl]⟩;obtain⟨t,hte⟩ : ∃ t,(out.getD (out.length - 1) z66).f1=t:=⟨_,rfl⟩;(rw[hte] at hlen lt_ gt_ yt HPUT);have HGT:=Aside0.mk gt_;have HLEN:=Aside0.mk hlen;obtain⟨w4,hw4⟩ : ∃ w4,w1'.drew.alloc (.cells #[.slice At t.length ct, .slice A1 s1.length c1] 22)=w4:=⟨_,rfl⟩;have HB4:Aside0 (Below w1'.heap.size w1' w4):=⟨by rw[← hw4];exact(Below.refl _ w1').drew.alloc (Nat.le_refl _) _⟩
    have HC4:Aside0 (Kd.C (Kd.slice 9 Kd.string) w4 (some ⟨w1'.heap.size,0,none⟩) [t,s1].length [t,s1]):=⟨by
     have k0:(Kd.slice 9 Kd.string).K w4 t [.slice At t.length ct]:=⟨At,ct,rfl,lt_,Kd.C_below (Kd.F_now HGT.out) HB4.out⟩;have k1:(Kd.slice 9 Kd.string).K w4 s1 [.slice A1 s1.length c1]:=⟨A1,c1,rfl,l1,Kd.C_below (Kd.F_now HF11.out) HB4.out⟩;(have qq:w4.heap[w1'.heap.size]? = some (.cells #[.slice At t.length ct, .slice A1 s1.length c1] 22 (0,0)):=by rw[← hw4];exact blk_new _ _)
     exact C_blk (d:=Kd.slice 9 Kd.string) (xs:=[t,s1]) (inner:=[.slice At t.length ct, .slice A1 s1.length c1]) qq (Reps.one k0 (Reps.one k1 (Reps.none _ _))) (by simp)⟩
    have HS4:Aside0 (w4.heap.size=w1'.heap.size+1):=⟨by rw[← hw4];simp⟩
    have HCON:Aside0 (Calls Tryz.prog 105 #[.slice (some ⟨w1'.heap.size,0,none⟩) 2 2] w4 fun e w' => ∃ v,e = .returned v∧Aside0 (Kd.R Kd.string 9 w' w4.heap.size (fun _=>True) v (t ++ s1))∧Aside0 (Below w4.heap.size w4 w')):=⟨by
     have:=concat_strs (some ⟨w1'.heap.size,0,none⟩) 2 [t,s1] w4 HC4.out (by simp) (by simp) (by simp;have:=HLEN.out;omega);(have e:([t,s1]:List (List ByteArray)).flatten=t ++ s1:=by simp);(rw[e] at this)
     exact this⟩
    have hgol:go < w1'.heap.size:=Kd.N_lt Q41.out go (by simp[Value.ownBlock]);have hgoB:B≤go:=Kd.N_base Q41.out go (by simp[Value.ownBlock]);clear htl HP hgd hFK hcell hcl hlen gt_ lt_ hte hfr;go_wp2;refine start_ (n:=12) (S:=fun w'=>w'.cell? ⟨go,(out.length - 1) * 4+1,none⟩=some (.slice At t.length ct)∧w'.cell? ⟨w.heap.size,1,none⟩=some (.slice A1 s1.length c1)) (ds:=[7,8,11]) (bm_ 12 0) (by kernel_rfl) rfl rfl ⟨yt,z1⟩ (fun hHeld=>?_);refine pq_ (i:=0) (N:=some 44) (bm_ 12 1) ?_;refine pq_ (i:=1) (N:=some 45) (bm_ 12 3) ?_;refine pq_ (i:=2) (N:=some 46) (bm_ 12 7) ?_;refine pq_ (i:=3) (N:=some 47) (bm_ 12 15) ?_;refine pq_ (i:=5) (N:=some 49) (bm_ 12 47) ?_;refine tq_ (i:=4) (N:=some 48) (bm_ 12 63) hHeld ?_;refine tq_ (i:=6) (N:=some 50) (bm_ 12 127) hHeld ?_;refine last_ (i:=7) (N:=some 51) (bm_ 12 255) rfl rfl (by kernel_rfl) (by decide) (fun K hK=>?_);refine value_ (w1:=?_) (v:=?_) (by rfl) rfl ?_ ?_;rotate_left 2
    ·
     go_simp;constructor;(· rfl);(· rfl)
    (try rw[hw4]);clear hw4;refine hK.out _ _ ?_;clear hK K;refine nq_ (N:=some 51) ?_;refine last_ (i:=8) (N:=some 52) (bm_ 12 511) rfl rfl (by kernel_rfl) (by decide) (fun K hK=>?_);refine goes_ Tryz.func105 (by kernel_rfl) rfl #[.slice (some ⟨w1'.heap.size,0,none⟩) 2 2] (by rfl) rfl rfl (by simp only[List.map_toArray,List.map_cons,List.map_nil];rfl) ?_;(with_reducible refine(HCON.out).mono ?_);rintro e w5 ⟨v5,rfl,HR5,HB5⟩;refine⟨_,rfl,?_⟩;obtain⟨A5,c5,hv5⟩:=Kd.R_slice HR5.out;subst hv5;have HB15:=Aside0.mk (far_ HB4.out HB5.out);have hN5:=Kd.N_below Q41.out HB15.out;obtain⟨cs5,hcl5,hFK5,hcell5,hfr5⟩:=Kd.N_elem hN5 z66 ((out.length - 1:Nat):Int) (by omega) (by omega);have y5:w5.cell? ⟨go,(out.length - 1) * 4+1,none⟩=some (.slice At t.length ct):=(HB15.out.cell (p:=⟨go,(out.length - 1) * 4+1,none⟩) hgol).trans yt;have f5:w5.frozen? ⟨go,(out.length - 1) * 4+1,none⟩=false:=hfr5 1;have HN5:=Aside0.mk hN5;clear hN5 hFK5 hcell5 hfr5 hcl5 yt;refine hK.out _ _ ?_;clear hK K;refine nq_ (N:=some 52) ?_;refine pq_ (i:=9) (N:=some 53) (bm_ 12 1023) ?_;refine pq_ (i:=10) (N:=some 54) (bm_ 12 2047) ?_;refine last_ (i:=11) (N:=none) (bm_ 12 4095) rfl rfl (by kernel_rfl) (by decide) (fun K hK=>?_);refine skip_ (w1:=?_) (by rfl) rfl ?_ ?_;rotate_left;(· go_simp;rfl);refine hK.out _ _ ?_;clear hK K;refine done_ (by kernel_rfl) ?_;go_end0
    have hF5:Kd.F Kd.string w5 (fun k=>((P k∧k < B∨B≤k)∧k≠gw)∧k≠go) A5 (t ++ s1).length (t ++ s1):=Kd.F_mono (Kd.R_F (Kd.R_bound HR5.out)) (fun k hk=>by
     have h1:=hk.2.1;have h2:=HS4.out;have h3:=HB1.out.size;have h4:=HBW.out
     exact⟨⟨.inr (by omega),by omega⟩,by omega⟩)
    obtain⟨hput,hgr⟩:=text_put HN5.out hol hF5 rfl (Kd.R_reads' HR5.out).2.1;have g5:=farKeep Q11.out HB15.out;refine⟨rfl,⟨⟨.slice (some ⟨go,0,none⟩) out.length co,?_,q2,?_,(Q51.out.trans (HB15.out.mono (Nat.le_trans HBW.out HB1.out.size))).setCell (p:=⟨go,(out.length - 1) * 4+1,none⟩) hgoB _⟩⟩⟩;(· exact setKeep g5 (fun e=>Kd.N_ne HN5.out g5 (by decide) (by rw[e];simp[Value.ownBlock])) _);(· rw[HPUT.out];(rw[List.length_append] at hput);exact hput)
def tsum (l:List Piece):Nat:=(l.map (fun p=>p.f1.length)).sum
theorem tsum_append (a b:List Piece):tsum (a ++ b)=tsum a+tsum b:=by rw[tsum,List.map_append,List.sum_append];rfl
theorem tsum_one (p:Piece):tsum [p]=p.f1.length:=by simp[tsum]
theorem tsum_mem {l:List Piece} {p:Piece} (h:p ∈ l):p.f1.length≤tsum l:=by
 obtain⟨a,b,rfl⟩:=List.append_of_mem h;(rw[tsum_append,show p :: b=[p] ++ b from rfl,tsum_append,tsum_one];omega)
theorem set_last {α:Type} {l:List α} (h:0 < l.length) (x:α):l.set (l.length - 1) x=l.take (l.length - 1) ++ [x]:=by
 rw[List.set_eq_take_append_cons_drop,if_pos (by omega),List.drop_of_length_le (by omega)]
theorem take_last {α:Type} {l:List α} (h:0 < l.length) (z:α):l=l.take (l.length - 1) ++ [l.getD (l.length - 1) z]:=by
 have:=List.take_append_getElem (l:=l) (i:=l.length - 1) (by omega);rw[getD_get (by omega),this,List.take_of_length_le (by omega)]
theorem tsum_put (out:List Piece) (p:Piece):tsum (putF out p)≤tsum out+p.f1.length:=by
 unfold putF;split;(· (rw[tsum_append,tsum_one];simp))
 ·
  split;(· omega)
  ·
   split
   ·
    rename_i h;(rw[textLast,Bool.and_eq_true] at h);have hl:=of_decide_eq_true h.1;rw[set_last hl,tsum_append,tsum_one]
    have h2:tsum out=tsum (out.take (out.length - 1))+(out.getD (out.length - 1) z66).f1.length:=by
     conv=>lhs;rw[take_last hl z66]
     rw[tsum_append,tsum_one]
    rw[h2];show _+((out.getD (out.length - 1) z66).f1 ++ p.f1).length≤_;(rw[List.length_append];omega)
   (· (rw[tsum_append,tsum_one];exact Nat.le_refl _))
theorem tsum_normal : ∀ (n:Nat) (l:List Piece),l.length=n→tsum (normalF l)≤tsum l∧(normalF l).length≤l.length
 | 0,l,h=>by rw[List.eq_nil_of_length_eq_zero h];exact⟨Nat.le_refl _,Nat.le_refl _⟩
 | n+1,l,h=>by
  have e:l=l.take n ++ [l[n]]:=by
   have:=List.take_append_getElem (l:=l) (i:=n) (by omega);rw[this,List.take_of_length_le (by omega)]
  have ih:=tsum_normal n (l.take n) (by rw[List.length_take];omega);rw[e,normalF_snoc,tsum_append,tsum_one,List.length_append,List.length_singleton];have:=tsum_put (normalF (l.take n)) l[n];have:=putF_len (normalF (l.take n)) l[n];omega
theorem tsum_take (l:List Piece) (k:Nat) (hk:k < l.length):tsum (l.take k)+l[k].f1.length≤tsum l:=by
 (have e:l=l.take k ++ (l[k] :: l.drop (k+1)):=by rw[← dropCons hk,List.take_append_drop])
 have:tsum l=tsum (l.take k)+(l[k].f1.length+tsum (l.drop (k+1))):=by
  conv=>lhs;rw[e]
  rw[tsum_append,show l[k] :: l.drop (k+1)=[l[k]] ++ l.drop (k+1) from rfl,tsum_append,tsum_one]
 omega
set_option maxHeartbeats 4000000 in
theorem each_put (A:Option Addr) (c:Nat) (l:List Piece) (w0 w:World) (B gw:Nat) (P:Nat→Prop) (hB:B=w0.heap.size) (hF:Kd.F k66 w0 P A l.length l) (hc:l.length≤c) (h:RowIn w0 w B gw P []) (hl:l.length≤100000000) (hz:tsum l≤1000000) :
    Calls Tryz.prog 52 #[.slice A l.length c, .func (.func 90) #[.pointer (some ⟨gw,0,none⟩)] #[]] w fun e w'=>e = .returned (.tuple #[])∧Aside0 (RowIn w0 w' B gw P (normalF l)):=by
 have HF:=Aside0.mk hF;have H:=Aside0.mk h;have HZ:=Aside0.mk hz;have HBB:=Aside0.mk hB;clear hF h hz hB;go_enter Tryz.func52,Tryz.ntmps52;(go_wp2_with fail)
 go_loopw [8] (fun i wr => ∃ (k:Nat),k≤l.length∧i = .int .i64 k∧Aside0 (RowIn w0 wr B gw P (normalF (l.take k)))) (fun i _=>l.length - (intOf i).toNat)
 (case atStart=>exact⟨0,Nat.zero_le _,rfl,H⟩)
 case round =>
  obtain⟨k,hk,rfl,HI⟩:=hrel;have HBr:Aside0 (Below w0.heap.size w0 wr):=⟨by rw[← HBB.out];exact HI.out.bel⟩
  by_cases hlt:k < l.length
  (· obtain⟨ad,A1,c1,A2,c2,A3,c3,rfl,x0,x1,x2,x3,l1,F1,l2,F2,l3,F3⟩:=at_piece (Kd.F_old HF.out HBr.out) k hlt;(rw[getD_get hlt] at x0 x1 x2 x3 l1 F1 l2 F2 l3 F3);(have htk:normalF (l.take (k+1))=putF (normalF (l.take k)) l[k]:=by rw[← List.take_append_getElem hlt,normalF_snoc]);have hts:=tsum_take l k hlt;have htn:=tsum_normal _ (l.take k) rfl;(have hle:(normalF (l.take k)).length≤100000000:=by have:=htn.2;rw[List.length_take] at this;omega);obtain⟨x,hxe⟩ : ∃ x,l[k]=x:=⟨_,rfl⟩;(rw[hxe] at htk hts x0 x1 x2 x3 l1 F1 l2 F2 l3 F3);obtain⟨b,s1,s2,s3⟩:=x;(dsimp only at x0 x1 x2 x3 l1 F1 l2 F2 l3 F3 hts);have HT:Aside0 (∀ p ∈ normalF (l.take k),p.f1.length+s1.length≤1000000):=⟨fun p hp=>by have:=tsum_mem hp;have:=HZ.out;have:=htn.1;omega⟩;(rw[← HBB.out] at F1 F2 F3);have HTK:=Aside0.mk htk;have HF1:=Aside0.mk F1;have HF2:=Aside0.mk F2;have HF3:=Aside0.mk F3;have HBw:Aside0 (B≤wr.heap.size):=⟨by rw[HBB.out];exact HBr.out.size⟩;clear hxe htk F1 F2 F3 hts htn;(go_wp2_with fail);refine(row_put w0 _ B gw P _ b s1 s2 s3 A1 c1 A2 c2 A3 c3 HBB.out (HI.out.below (newBelow _ _) HBw.out) l1 (Kd.F_alloc HF1.out _) l2 (Kd.F_alloc HF2.out _) l3 (Kd.F_alloc HF3.out _) hle HT.out).mono ?_;rintro e w1 ⟨rfl,HI1⟩;go_wp2;go_roundw;(case measure=>simp[intOf];omega);(case rel=>exact⟨k+1,by omega,by go_num,by rw[HTK.out];exact HI1⟩));(· (have hk':k=l.length:=by omega);subst hk';(rw[List.take_length] at HI);go_wp2;go_end0;exact⟨rfl,HI⟩)
set_option maxHeartbeats 2000000 in
theorem pick_Normal (P:Nat→Prop) (A:Option Addr) (c:Nat) (l:List Piece) (w:World) (hF:Kd.F k66 w P A l.length l) (hc:l.length≤c) (hl:l.length≤100000000) (hz:tsum l≤1000000) :
    Calls Tryz.prog 44 #[.slice A l.length c] w fun e w' => ∃ v0_:Value,e = .returned v0_∧Kd.N k66 66 w' w.heap.size (fun k=>P k∨w.heap.size≤k) v0_ (normalF l)∧Below w.heap.size w w':=by
 have HF:=Aside0.mk hF;have HZ:=Aside0.mk hz;clear hF hz;(have hmf : ∀ (fn:Fn) (first cap:Array Value) (w:World),(Instr.makeFunc fn first cap).run Tryz.prog w = .ok (.func fn first cap) w:=fun _ _ _ _=>rfl);go_enter Tryz.func44,Tryz.ntmps44;(go_wp2_with fail);obtain⟨w2,hw2⟩ : ∃ w2,w.alloc (.cells #[.slice none 0 0] 143)=w2:=⟨_,rfl⟩;have hI:RowIn w w2 w.heap.size w.heap.size P []:=⟨.slice none 0 0,by rw[← hw2];exact blk_new _ _,Nat.le_refl _,Kd.N_nil _ _ _ _ _,by rw[← hw2];exact newBelow _ _⟩;rw[hw2];refine(each_put A c l w w2 w.heap.size _ P rfl HF.out hc hI hl HZ.out).mono ?_;clear hw2 hI;rintro e w3 ⟨rfl,HI⟩;obtain⟨vo,q1,q2,q4,q5⟩:=HI.out;have c1:w3.cell? ⟨w.heap.size,0,none⟩=some vo:=cell_blk q1 rfl;have Q4:=Aside0.mk q4;have Q5:=Aside0.mk q5;clear q1 q2 q4 q5;go_wp2;go_ret;exact⟨_,rfl,Kd.N_mono Q4.out (fun k hk=>hk.1.elim (fun h => .inl h.1) .inr),Q5.out⟩
theorem madeCells_one (z:Value) (n:Nat):madeCells #[z] (n * 1)=(List.replicate n z).toArray:=by
 apply Array.ext;(· simp[size_madeCells]);(· intro i h1 h2;simp[madeCells,Nat.mod_one])
def repRow (v:Int) (m n:Nat):List Value:=List.replicate m (.int .i64 v) ++ List.replicate (n - m) (.int .i64 0)
theorem repRow_length (v:Int) {m n:Nat} (h:m≤n):(repRow v m n).length=n:=by simp[repRow];omega
theorem splice_rep (v:Int) {m k n:Nat} (h:m+k≤n):splice (repRow v m n) m (List.replicate k (.int .i64 v))=repRow v (m+k) n:=by
 unfold splice repRow;have h1:(List.replicate m (Value.int .i64 v) ++ List.replicate (n - m) (Value.int .i64 0)).take m=List.replicate m (Value.int .i64 v):=List.take_left' (by simp)
 have h2:(List.replicate m (Value.int .i64 v) ++ List.replicate (n - m) (Value.int .i64 0)).drop (m+(List.replicate k (Value.int .i64 v)).length)=List.replicate (n - (m+k)) (Value.int .i64 0):=by
  rw[List.length_replicate,List.drop_append,List.drop_of_length_le (by simp),List.nil_append,List.length_replicate,List.drop_replicate]
  congr 1
  omega
 rw[h1,h2,← List.append_assoc,List.replicate_append_replicate]
theorem rep_cells {W:World} {ad:Addr} {v:Int} {m:Nat} (h:W.cell? ad=some (.int .i64 v)) (hm:m≤1) (j:Nat) (u:Value) (hj:(List.replicate m (Value.int .i64 v))[j]? = some u):W.cell? (ad.add j)=some u:=by
 (rw[List.getElem?_replicate] at hj);(split at hj);(· (have hj0:j=0:=by omega);subst hj0;(injection hj with hj);subst hj;rw[show ad.add 0=ad from by cases ad;simp[Addr.add]];exact h);(· cases hj)
theorem rep_cells_row {W:World} {g:Nat} {v:Int} {m k n:Nat} {t:TypeId} (h:W.heap[g]? = some (.cells (repRow v m n).toArray t (0,0))) (hk:k≤m) (j:Nat) (u:Value) (hj:(List.replicate k (Value.int .i64 v))[j]? = some u):W.cell? ((⟨g,0,none⟩:Addr).add j)=some u:=by
 (rw[List.getElem?_replicate] at hj);(split at hj);(· rename_i hjk;(injection hj with hj);subst hj;rw[add_plain,cell_of_row W g j _ t (0,0) h];simp[repRow,List.getElem?_append,List.getElem?_replicate,Nat.lt_of_lt_of_le hjk hk]);(· cases hj)
theorem rep_wrap {m n:Nat} (hlt:m < n) (hn:n≤2000):wrap64 ((m:Int)+((Nat.min m (n - m):Nat):Int))=((m+Nat.min m (n - m):Nat):Int):=by
 have h:Nat.min m (n - m)≤n - m:=Nat.min_le_right _ _;rw[IntWalk.wrap64_in _ (by omega)];exact(Int.natCast_add _ _).symm
theorem rep_measure {m n:Nat} (hlt:m < n) (h0:0 < m):n - (intOf (Value.int .i64 ((m+Nat.min m (n - m):Nat):Int))).toNat < n - (intOf (Value.int .i64 (m:Int))).toNat:=by
 show n - (m+min m (n - m)) < n - m;omega
set_option maxHeartbeats 4000000 in
theorem slices_Repeat_one (ad:Addr) (c:Nat) (v:Int) (n:Nat) (w:World) (hc:w.cell? ad=some (.int .i64 v)) (hn:n≤2000) :
    Calls Tryz.prog 70 #[.slice (some ad) 1 c, .int .i64 n] w fun e w' => ∃ v0_:Value,e = .returned v0_∧Kd.R (Kd.int .i64) 3 w' w.heap.size (fun _=>True) v0_ (List.replicate n v)∧Below w.heap.size w w':=by
 obtain⟨i0,hi0,hz0⟩:=Option.map_eq_some_iff.1 info3;(simp only[Prod.mk.injEq] at hz0);obtain⟨hz,hsz,hby⟩:=hz0
 have hmk : ∀ W:World,(Instr.makeSlice 72 (.int .i64 (n:Int)) (.int .i64 (n:Int))).run Tryz.prog W = .ok (.slice (some ⟨W.heap.size,0,none⟩) n n) (W.alloc (.cells (List.replicate n (.int .i64 0)).toArray 3)):=by
  intro W;have h:=run_make (P:=Tryz.prog) W 72 3 i0 (.int .i64 0) Tryz.underlying72 hi0 hz .i64 .i64 (n:Int) (n:Int) (by omega) (by omega) (by rw[hby];omega) (by omega);rw[h,hsz];simp only[Int.toNat_natCast];rw[show (Value.int IntKind.i64 0).cells=#[Value.int .i64 0] from rfl,madeCells_one]
 have Hc:=Aside0.mk hc;clear hc hi0 hz hsz hby i0;have p1:decide ((n:Int) < 0)=false:=decide_eq_false (by omega);go_enter Tryz.func70,Tryz.ntmps70;(go_wp2_with fail);refine(Tryz.bits_Mul 1 n (by omega) (by omega) _).mono ?_;rintro e w1 ⟨rfl,he⟩;obtain rfl:=he.symm;clear he;rw[show ((1 * n / 18446744073709551616:Nat):Int)=0 from by omega,show ((1 * n % 18446744073709551616:Nat):Int)=(n:Int) from by omega];(go_wp2_with ((with_reducible refine gate_builtin (b := .copy) (xs:=#[.tmp 31, .tmp 32]) rfl ?_);refine wpList_copy_splice rfl _ _ 72 72 rfl 3 Tryz.underlying72 (by kernel_rfl) (some ⟨w.heap.size,0,none⟩) (some ad) n n 1 c rfl rfl w.heap.size 0 (repRow v 0 n) 3 ?c0 (List.replicate (Nat.min 1 n) (.int .i64 v)) ?c1 ?c2 ?c3 ?c4 w.heap.size w ?c5 (Nat.le_refl _) ?_;(case c0=>exact blk_new _ _);(case c1=>exact List.length_replicate);(case c3=>rw[repRow_length v (Nat.zero_le n),List.length_replicate,Nat.zero_add];exact Nat.min_le_right 1 n);(case c4=>intro u hu;rw[List.eq_of_mem_replicate hu];rfl);(case c5=>exact below_alloc (Below.refl _ _) _);(case c2=>exact fun _=>⟨rfl,ad,rfl,rep_cells (cell_alloc_of Hc.out _) (Nat.min_le_left 1 n)⟩);intro w1 HG1 hb1;have HB1:=Aside0.mk hb1;clear hb1));(rw[splice_rep v (by show 0+min 1 n≤n;omega),Nat.zero_add] at HG1)
 go_loopw [8] (fun t8 W => ∃ m:Nat,t8 = .int .i64 m∧m≤n∧(0 < n→0 < m)∧Aside0 (W.heap[w.heap.size]? = some (.cells (repRow v m n).toArray 3 (0,0)))∧Aside0 (Below w.heap.size w W)) (fun t8 _=>n - (intOf t8).toNat)
 (case atStart=>exact⟨Nat.min 1 n,rfl,Nat.min_le_right 1 n,fun h=>Nat.lt_min.2 ⟨by omega,h⟩,⟨HG1.out⟩,HB1⟩)
 case round =>
  obtain⟨m,rfl,hm,hm0,HG,HB⟩:=hrel;clear HG1 HB1
  by_cases hlt:m < n
  ·
   go_wp2;(have hne : ¬ n=m:=by omega);have hmin:Nat.min m (n - m)≤n - m:=Nat.min_le_right _ _;refine start_ (n:=10) (S:=fun w'=>True) (ds:=[]) (bm_ 10 0) (by kernel_rfl) rfl rfl trivial (fun hHeld=>?_);refine pq_ (i:=0) (N:=some 38) (bm_ 10 1) ?_;refine pq_ (i:=1) (N:=some 39) (bm_ 10 3) ?_;refine pq_ (i:=2) (N:=some 40) (bm_ 10 7) ?_;refine pq_ (i:=3) (N:=some 41) (bm_ 10 15) ?_;refine pq_ (i:=4) (N:=some 42) (bm_ 10 31) ?_;refine pq_ (i:=5) (N:=some 43) (bm_ 10 63) ?_;refine pq_ (i:=6) (N:=some 44) (bm_ 10 127) ?_;refine one_ (i:=7) (N:=some 45) (bm_ 10 255) rfl rfl (by kernel_rfl) (by decide) (fun K hK=>?_);refine step_copy_splice rfl (.tmp 41) (.tmp 44) 72 72 rfl 3 Tryz.underlying72 (by kernel_rfl) (some ⟨w.heap.size,m,none⟩) (some ⟨w.heap.size,0,none⟩) (n - m) (n - m) m n (by simp[Act.eval,Act.put]) (by simp[Act.eval,Act.put]) w.heap.size m (repRow v m n) 3 HG.out (List.replicate (Nat.min m (n - m)) (.int .i64 v)) (by simp) (fun _=>⟨rfl,_,rfl,rep_cells_row HG.out (Nat.min_le_left _ _)⟩) (by rw[repRow_length v hm,List.length_replicate];show m+min m (n - m)≤n;omega) (by intro u hu;rw[List.eq_of_mem_replicate hu];rfl) w.heap.size w HB.out.drew (Nat.le_refl _) ?_;intro w3 HG3 hb3;refine hK.out _ _ trivial (fun hHeld=>?_);clear hK K;refine nq_ (N:=some 45) ?_;refine pq_ (i:=8) (N:=some 46) (bm_ 10 511) ?_;refine pq_ (i:=9) (N:=some 8) (bm_ 10 1023) ?_;refine done_ (by kernel_rfl) ?_;(rw[splice_rep v (by show m+min m (n - m)≤n;omega)] at HG3);have HB3:=Aside0.mk hb3;have hw:=rep_wrap hlt hn;clear hb3 HB HG;go_wp2;go_roundw
   case measure =>
    rw[hw];exact rep_measure hlt (hm0 (by omega))
   (case rel=>exact⟨m+Nat.min m (n - m),by rw[hw],by show m+min m (n - m)≤n;omega,by intro h;have:=hm0 h;omega,⟨HG3.out⟩,HB3⟩)
  ·
   (obtain rfl:m=n:=by omega);go_wp2;go_ret;refine⟨_,rfl,?_,HB.out⟩;have h:=HG.out;(simp only[repRow,Nat.sub_self,List.replicate_zero,List.append_nil] at h);(rw[← List.map_replicate] at h);have h2:=R_int_of_cells h (Nat.le_refl _) (by rw[List.length_replicate];unfold maxLen;omega)
   rwa [List.length_replicate] at h2
def NumsAt (k:IntKind) (W:World) (t g:Nat) (L:List Int):Prop:=W.heap[g]? = some (.cells (L.map (Value.int k)).toArray t (0,0))
def RowsAt (W:World) (N g3 g0 g1 m:Nat) (L0 L1:List Int):Prop :=
  N≤g3∧N≤g0∧N≤g1∧g3≠g0∧g3≠g1∧g0≠g1 ∧
    W.heap[g3]? = some (.cells #[.slice (some ⟨g0,0,none⟩) (m+1) (m+1), .slice (some ⟨g1,0,none⟩) (m+1) (m+1)] 169 (0,0)) ∧
    NumsAt .i64 W 3 g0 L0∧NumsAt .i64 W 3 g1 L1∧L0.length=m+1∧L1.length=m+1
theorem alloc3 (w:World) (o0 o1 o2:Obj):(((w.alloc o0).alloc o1).alloc o2).drew.heap[w.heap.size]? = some o0∧(((w.alloc o0).alloc o1).alloc o2).drew.heap[w.heap.size+1]? = some o1∧(((w.alloc o0).alloc o1).alloc o2).drew.heap[w.heap.size+1+1]? = some o2∧Below w.heap.size w (((w.alloc o0).alloc o1).alloc o2).drew:=by
 refine⟨?_,?_,?_,(below_alloc (below_alloc (below_alloc (Below.refl _ _) _) _) _).drew⟩;(· show (((w.heap.push o0).push o1).push o2)[w.heap.size]? = _;simp only[Array.getElem?_push,Array.size_push];rw[if_neg (by omega),if_neg (by omega),if_pos trivial]);(· show (((w.heap.push o0).push o1).push o2)[w.heap.size+1]? = _;simp only[Array.getElem?_push,Array.size_push];rw[if_neg (by omega),if_pos trivial]);(· show (((w.heap.push o0).push o1).push o2)[w.heap.size+1+1]? = _;simp only[Array.getElem?_push,Array.size_push];rw[if_pos trivial])
theorem nums_rep {k:IntKind} {W:World} {t g n:Nat} (h:W.heap[g]? = some (.cells (Array.replicate n (Value.int k 0)) t (0,0))):NumsAt k W t g (List.replicate n 0):=by
 unfold NumsAt;rw[h];simp
theorem grown_far {w W:World} {g:Nat} (h:w.grownBy W (some g)) {p:Addr} (hp:w.heap.size≤p.block) (u:Value):w.grownBy (W.setCell p u) (some g) :=
  ⟨h.os,h.tape,h.output,by rw[show (W.setCell p u).heap.size=W.heap.size by simp];exact h.size,fun i hi hn=>(Below.heap_setCell W p u i (by omega)).trans (h.block i hi hn)⟩
theorem grown_set {w W:World} {g:Nat} (h:w.grownBy W (some g)) (j:Nat) (u:Value):w.grownBy (W.setCell ⟨g,j,none⟩ u) (some g) :=
  ⟨h.os,h.tape,h.output,by rw[show (W.setCell ⟨g,j,none⟩ u).heap.size=W.heap.size by simp];exact h.size,fun i hi hn=>(Below.heap_setCell W ⟨g,j,none⟩ u i (fun e=>hn (by rw[e]))).trans (h.block i hi hn)⟩
theorem grown_drewN {w W:World} {g:Nat} (h:w.grownBy W (some g)) (m:Nat):w.grownBy (W.drewN m) (some g):=⟨h.os,h.tape,h.output,h.size,h.block⟩
theorem grown_then {w W W2:World} {g:Nat} (h:w.grownBy W (some g)) (k:W.grownBy W2 (some g)):w.grownBy W2 (some g) :=
  ⟨k.os.trans h.os,k.tape.trans h.tape,k.output.trans h.output,Nat.le_trans h.size k.size,fun i hi hn=>(k.block i (Nat.lt_of_lt_of_le hi h.size) hn).trans (h.block i hi hn)⟩
theorem grown_alloc {w W:World} {g:Nat} (h:w.grownBy W (some g)) (o:Obj):w.grownBy (W.alloc o) (some g) :=
  grown_then h (World.grownBy_alloc W o _)
def RState (w W:World) (g g3 g0 g1 gs:Nat) (sa sb x2 x3 x4:Value) (nm m:Nat) (L0 L1 S:List Int):Prop :=
  (w.heap.size≤gs∧gs≠g3∧gs≠g0∧gs≠g1∧g < w.heap.size)∧RowsAt W w.heap.size g3 g0 g1 m L0 L1 ∧
    W.heap[g]? = some (.cells #[sa,sb,x2,x3,x4, .slice (some ⟨gs,0,none⟩) nm nm, .int .i64 0] 119 (0,0))∧(NumsAt .u8 W 5 gs S∧S.length=nm)∧w.grownBy W (some g)
theorem nums_set {k:IntKind} {W:World} {t g:Nat} {L:List Int} (h:NumsAt k W t g L) (j:Nat) (v:Int):NumsAt k (W.setCell ⟨g,j,none⟩ (.int k v)) t g (L.set j v):=by
 unfold NumsAt;rw[heap_set_same h];simp[List.map_set]
theorem nums_other {k:IntKind} {W:World} {t g g' j:Nat} {L:List Int} (h:NumsAt k W t g L) (hne:g≠g') (v:Value):NumsAt k (W.setCell ⟨g',j,none⟩ v) t g L:=by
 unfold NumsAt;rw[heap_set_other hne];exact h
theorem nums_cell {k:IntKind} {W:World} {t g:Nat} {L:List Int} (h:NumsAt k W t g L) {j:Nat} {v:Int} (hj:L[j]? = some v):W.cell? ⟨g,j,none⟩=some (.int k v):=by
 refine cell_blk h ?_;simp[hj]
section
variable {w W:World} {g g3 g0 g1 gs:Nat} {sa sb x2 x3 x4:Value} {nm m:Nat} {L0 L1 S:List Int}
theorem RState.row (h:RState w W g g3 g0 g1 gs sa sb x2 x3 x4 nm m L0 L1 S) (j:Nat) (v:Int):RState w (W.setCell ⟨g1,j,none⟩ (.int .i64 v)) g g3 g0 g1 gs sa sb x2 x3 x4 nm m L0 (L1.set j v) S:=by
 obtain⟨⟨e1,e2,e3,e4,e5⟩,⟨r1,r2,r3,r4,r5,r6,r7,r8,r9,r10,r11⟩,hg,⟨hs,hsl⟩,hk⟩:=h;refine⟨⟨e1,e2,e3,e4,e5⟩,⟨r1,r2,r3,r4,r5,r6,?_,nums_other r8 r6 _,nums_set r9 j v,r10,by simpa using r11⟩,?_,⟨nums_other hs e4 _,hsl⟩,grown_far hk r3 _⟩;(· (rw[heap_set_other r5];exact r7));(· (rw[heap_set_other (by omega)];exact hg))
theorem RState.step (h:RState w W g g3 g0 g1 gs sa sb x2 x3 x4 nm m L0 L1 S) (j:Nat) (v:Int):RState w (W.setCell ⟨gs,j,none⟩ (.int .u8 v)) g g3 g0 g1 gs sa sb x2 x3 x4 nm m L0 L1 (S.set j v):=by
 obtain⟨⟨e1,e2,e3,e4,e5⟩,⟨r1,r2,r3,r4,r5,r6,r7,r8,r9,r10,r11⟩,hg,⟨hs,hsl⟩,hk⟩:=h;refine⟨⟨e1,e2,e3,e4,e5⟩,⟨r1,r2,r3,r4,r5,r6,?_,nums_other r8 (Ne.symm e3) _,nums_other r9 (Ne.symm e4) _,r10,r11⟩,?_,⟨nums_set hs j v,by simpa using hsl⟩,grown_far hk e1 _⟩;(· (rw[heap_set_other (Ne.symm e2)];exact r7));(· (rw[heap_set_other (by omega)];exact hg))
theorem RState.drewN (h:RState w W g g3 g0 g1 gs sa sb x2 x3 x4 nm m L0 L1 S) (n:Nat):RState w (W.drewN n) g g3 g0 g1 gs sa sb x2 x3 x4 nm m L0 L1 S:=by
 obtain⟨e,r,hg,hs,hk⟩:=h;exact⟨e,r,hg,hs,grown_drewN hk n⟩
theorem RState.swap (h:RState w W g g3 g0 g1 gs sa sb x2 x3 x4 nm m L0 L1 S):RState w ((W.setCell ⟨g3,0,none⟩ (.slice (some ⟨g1,0,none⟩) (m+1) (m+1))).setCell ⟨g3,1,none⟩ (.slice (some ⟨g0,0,none⟩) (m+1) (m+1))) g g3 g1 g0 gs sa sb x2 x3 x4 nm m L1 L0 S:=by
 obtain⟨⟨e1,e2,e3,e4,e5⟩,⟨r1,r2,r3,r4,r5,r6,r7,r8,r9,r10,r11⟩,hg,⟨hs,hsl⟩,hk⟩:=h;refine⟨⟨e1,e2,e4,e3,e5⟩,⟨r1,r3,r2,r5,r4,Ne.symm r6,?_,nums_other (nums_other r9 (Ne.symm r5) _) (Ne.symm r5) _,nums_other (nums_other r8 (Ne.symm r4) _) (Ne.symm r4) _,r11,r10⟩,?_,⟨nums_other (nums_other hs e2 _) e2 _,hsl⟩,grown_far (grown_far hk r1 _) r1 _⟩;(· (rw[heap_set_same (heap_set_same r7 _)];rfl));(· (rw[heap_set_other (by omega),heap_set_other (by omega)];exact hg))
end
theorem elem_cell {W:World} {A:Option Addr} {xs:List Int} {i:Nat} {x:Int} (h:Kd.C (Kd.int .i64) W A xs.length xs) (hx:xs[i]? = some x) : ∃ ad,A=some ad∧W.cell? (ad.add i)=some (.int .i64 x):=by
 have hi:=(List.getElem?_eq_some_iff.1 hx).1;obtain⟨ad,e,hc⟩:=Kd.at_int h (i:Int) (by omega) (by omega);refine⟨ad,e,?_⟩;(rw[Int.toNat_natCast] at hc);rw[hc];simp[rd,hx]
def RowFrom (a b:List Int) (i q:Nat) (L:List Int):Prop := ∀ j,q≤j→j≤b.length→L[j]? = some ((lcsL (a.drop i) (b.drop j):Nat):Int)
def StepsFrom (a b:List Int) (c:Nat) (S:List Int):Prop := ∀ x,x < a.length * b.length→S[x]? = some (if x < c then 0 else stepAt (a.drop (x / b.length)) (b.drop (x % b.length)))
theorem place_div {m i j:Nat} (hj:j < m):(i * m+j) / m=i∧(i * m+j) % m=j:=by
 constructor;(· rw[Nat.mul_comm,Nat.mul_add_div (by omega),Nat.div_eq_of_lt hj,Nat.add_zero]);(· rw[Nat.mul_comm,Nat.mul_add_mod,Nat.mod_eq_of_lt hj])
theorem place_lt {n m i j:Nat} (hi:i < n) (hj:j < m):i * m+j < n * m:=by
 have:(i+1) * m≤n * m:=Nat.mul_le_mul_right _ hi;(rw[Nat.succ_mul] at this);omega
theorem drop_cons' {l:List Int} {i:Nat} {x:Int} (h:l[i]? = some x):l.drop i=x :: l.drop (i+1):=by
 obtain⟨hl,rfl⟩:=List.getElem?_eq_some_iff.1 h;exact List.drop_eq_getElem_cons hl
section
variable {a b L0 L1 S:List Int} {i j:Nat} {x y:Int}
theorem row_one (h:RowFrom a b i (j+1) L1) (hj:j < b.length) (hl:L1.length=b.length+1) {v:Int} (hv:v=((lcsL (a.drop i) (b.drop j):Nat):Int)):RowFrom a b i j (L1.set j v):=by
 intro k hk hkb
 rcases Nat.lt_or_ge j k with h1|h1
 (· rw[List.getElem?_set_ne (by omega)];exact h k h1 hkb);(· (obtain rfl:k=j:=by omega);rw[List.getElem?_set_self (by omega),hv])
theorem lcs_eq (hx:a[i]? = some x) (hy:b[j]? = some y) (e:x=y):lcsL (a.drop i) (b.drop j)=lcsL (a.drop (i+1)) (b.drop (j+1))+1:=by
 rw[drop_cons' hx,drop_cons' hy,lcsL_cons,if_pos e]
theorem lcs_ne (hx:a[i]? = some x) (hy:b[j]? = some y) (e : ¬ x=y):lcsL (a.drop i) (b.drop j)=max (lcsL (a.drop (i+1)) (b.drop j)) (lcsL (a.drop i) (b.drop (j+1))):=by
 rw[drop_cons' hx,drop_cons' hy,lcsL_cons,if_neg e]
theorem step_eq (hx:a[i]? = some x) (hy:b[j]? = some y) (e:x=y):stepAt (a.drop i) (b.drop j)=0:=by
 rw[drop_cons' hx,drop_cons' hy,stepAt,if_pos e]
theorem step_old (hx:a[i]? = some x) (hy:b[j]? = some y) (e : ¬ x=y) (h:lcsL (a.drop i) (b.drop (j+1))≤lcsL (a.drop (i+1)) (b.drop j)):stepAt (a.drop i) (b.drop j)=1:=by
 rw[drop_cons' hx,drop_cons' hy,stepAt,if_neg e,if_pos]
 rwa [← drop_cons' hx,← drop_cons' hy]
theorem step_fresh (hx:a[i]? = some x) (hy:b[j]? = some y) (e : ¬ x=y) (h : ¬ lcsL (a.drop i) (b.drop (j+1))≤lcsL (a.drop (i+1)) (b.drop j)):stepAt (a.drop i) (b.drop j)=2:=by
 rw[drop_cons' hx,drop_cons' hy,stepAt,if_neg e,if_neg]
 rwa [← drop_cons' hx,← drop_cons' hy]
theorem steps_same (h:StepsFrom a b (i * b.length+(j+1)) S) (hj:j < b.length) (hs:stepAt (a.drop i) (b.drop j)=0):StepsFrom a b (i * b.length+j) S:=by
 intro k hk;rw[h k hk]
 by_cases e:k=i * b.length+j
 (· subst e;rw[if_pos (by omega),if_neg (by omega),(place_div hj).1,(place_div hj).2,hs])
 ·
  by_cases h2:k < i * b.length+j
  (· rw[if_pos (by omega),if_pos h2]);(· rw[if_neg (by omega),if_neg h2])
theorem steps_one (h:StepsFrom a b (i * b.length+(j+1)) S) (hj:j < b.length) (hl:S.length=a.length * b.length) {v:Int} (hs:stepAt (a.drop i) (b.drop j)=v):StepsFrom a b (i * b.length+j) (S.set (i * b.length+j) v):=by
 intro k hk
 by_cases e:k=i * b.length+j
 (· subst e;rw[List.getElem?_set_self (by omega),if_neg (by omega),(place_div hj).1,(place_div hj).2,hs])
 ·
  rw[List.getElem?_set_ne (Ne.symm e),h k hk]
  by_cases h2:k < i * b.length+j
  (· rw[if_pos (by omega),if_pos h2]);(· rw[if_neg (by omega),if_neg h2])
end
theorem reckon_calls (g N:Nat) (Aa Ab:Option Addr) (ca cb:Nat) (x2 x3 x4:Value) (a b:List Int) (w:World)
    (hg:w.heap[g]? = some (.cells #[.slice Aa a.length ca, .slice Ab b.length cb,x2,x3,x4, .slice none 0 0, .int .i64 0] 119 (0,0)))
    (ha:Kd.F (Kd.int .i64) w (fun k=>k≠g) Aa a.length a) (hb:Kd.F (Kd.int .i64) w (fun k=>k≠g) Ab b.length b) (hla:a.length≤2000) (hlb:b.length≤2000) :
    Calls Tryz.prog 97 #[.pointer (some ⟨g,0,none⟩)] w fun e w'=>e = .returned (.tuple #[])∧(∃ gs:Nat,w.heap.size≤gs∧w'.heap[g]? = some (.cells #[.slice Aa a.length ca, .slice Ab b.length cb,x2,x3,x4, .slice (some ⟨gs,0,none⟩) (a.length * b.length) (a.length * b.length), .int .i64 (lcsL a b:Int)] 119 (0,0))∧NumsAt .u8 w' 5 gs (stepsOf a b))∧w.grownBy w' (some g):=by
 have Hg:=Aside0.mk hg;have Ha:=Aside0.mk ha;have Hb:=Aside0.mk hb;have c1:w.cell? ⟨g,1,none⟩=some (.slice Ab b.length cb):=cell_blk hg rfl;clear hg ha hb;obtain⟨i0,hi0,hz0⟩:=Option.map_eq_some_iff.1 info3;(simp only[Prod.mk.injEq] at hz0);obtain⟨hz,hsz,hby⟩:=hz0
 have hmk : ∀ W:World,(Instr.makeSlice 72 (.int .i64 ((b.length:Int)+1)) (.int .i64 ((b.length:Int)+1))).run Tryz.prog W = .ok (.slice (some ⟨W.heap.size,0,none⟩) (b.length+1) (b.length+1)) (W.alloc (.cells ((List.replicate (b.length+1) 0).map (Value.int .i64)).toArray 3)):=by
  intro W;have h:=run_make (P:=Tryz.prog) W 72 3 i0 (.int .i64 0) Tryz.underlying72 hi0 hz .i64 .i64 ((b.length:Int)+1) ((b.length:Int)+1) (by omega) (by omega) (by rw[hby];omega) (by omega);rw[h,hsz];simp only[show ((b.length:Int)+1).toNat=b.length+1 from by omega];rw[show (Value.int IntKind.i64 0).cells=#[Value.int .i64 0] from rfl,madeCells_one,List.map_replicate]
 obtain⟨j0,hj0,hy0⟩:=Option.map_eq_some_iff.1 info5;(simp only[Prod.mk.injEq] at hy0);obtain⟨hyz,hysz,hyby⟩:=hy0
 have hp1:(a.length:Int) * (b.length:Int)≤4000000:=by
  have:=Nat.mul_le_mul hla hlb;rw[← Int.natCast_mul];omega
 have hp0:0≤(a.length:Int) * (b.length:Int):=by
  rw[← Int.natCast_mul];omega
 have hmk2 : ∀ W:World,(Instr.makeSlice 117 (.int .i64 ((a.length:Int) * (b.length:Int))) (.int .i64 ((a.length:Int) * (b.length:Int)))).run Tryz.prog W = .ok (.slice (some ⟨W.heap.size,0,none⟩) (a.length * b.length) (a.length * b.length)) (W.alloc (.cells ((List.replicate (a.length * b.length) 0).map (Value.int .u8)).toArray 5)):=by
  intro W;have h:=run_make (P:=Tryz.prog) W 117 5 j0 (.int .u8 0) Tryz.underlying117 hj0 hyz .i64 .i64 ((a.length:Int) * (b.length:Int)) ((a.length:Int) * (b.length:Int)) hp0 (by omega) (by rw[hyby];omega) (by omega);rw[h,hysz];simp only[show ((a.length:Int) * (b.length:Int)).toNat=a.length * b.length from by rw[← Int.natCast_mul];exact Int.toNat_natCast _];rw[show (Value.int IntKind.u8 0).cells=#[Value.int .u8 0] from rfl,madeCells_one,List.map_replicate]
 clear hi0 hz hsz hby i0 hj0 hyz hysz hyby j0;go_enter Tryz.func97,Tryz.ntmps97
 go_upto_region 1 with fail
 go_cut [3] (fun s3 W => ∃ g3 g0 g1:Nat,s3 = .pointer (some ⟨g3,0,none⟩)∧Aside0 (RowsAt W w.heap.size g3 g0 g1 b.length (List.replicate (b.length+1) 0) (List.replicate (b.length+1) 0))∧Aside0 (Below w.heap.size w W))
 case first =>
  go_region
  all_goals
   (go_wp2_with fail)
   go_meet
   first
   | exact⟨w.heap.size,w.heap.size+1,w.heap.size+1+1,rfl,⟨⟨by omega,by omega,by omega,by omega,by omega,by omega,(alloc3 w _ _ _).1,nums_rep (alloc3 w _ _ _).2.1,nums_rep (alloc3 w _ _ _).2.2.1,by simp,by simp⟩⟩,⟨(alloc3 w _ _ _).2.2.2⟩⟩
   | exact⟨w.heap.size,w.heap.size+1+1,w.heap.size+1,rfl,⟨⟨by omega,by omega,by omega,by omega,by omega,by omega,(alloc3 w _ _ _).1,nums_rep (alloc3 w _ _ _).2.2.1,nums_rep (alloc3 w _ _ _).2.1,by simp,by simp⟩⟩,⟨(alloc3 w _ _ _).2.2.2⟩⟩
   | exact⟨w.heap.size+1,w.heap.size,w.heap.size+1+1,rfl,⟨⟨by omega,by omega,by omega,by omega,by omega,by omega,(alloc3 w _ _ _).2.1,nums_rep (alloc3 w _ _ _).1,nums_rep (alloc3 w _ _ _).2.2.1,by simp,by simp⟩⟩,⟨(alloc3 w _ _ _).2.2.2⟩⟩
   | exact⟨w.heap.size+1,w.heap.size+1+1,w.heap.size,rfl,⟨⟨by omega,by omega,by omega,by omega,by omega,by omega,(alloc3 w _ _ _).2.1,nums_rep (alloc3 w _ _ _).2.2.1,nums_rep (alloc3 w _ _ _).1,by simp,by simp⟩⟩,⟨(alloc3 w _ _ _).2.2.2⟩⟩
   | exact⟨w.heap.size+1+1,w.heap.size,w.heap.size+1,rfl,⟨⟨by omega,by omega,by omega,by omega,by omega,by omega,(alloc3 w _ _ _).2.2.1,nums_rep (alloc3 w _ _ _).1,nums_rep (alloc3 w _ _ _).2.1,by simp,by simp⟩⟩,⟨(alloc3 w _ _ _).2.2.2⟩⟩
   | exact⟨w.heap.size+1+1,w.heap.size+1,w.heap.size,rfl,⟨⟨by omega,by omega,by omega,by omega,by omega,by omega,(alloc3 w _ _ _).2.2.1,nums_rep (alloc3 w _ _ _).2.1,nums_rep (alloc3 w _ _ _).1,by simp,by simp⟩⟩,⟨(alloc3 w _ _ _).2.2.2⟩⟩
 case rest =>
  obtain⟨g3,g0,g1,rfl,HR,HB⟩:=hcut;have hgc:wc.heap[g]? = _:=(HB.out.block g (blk_lt Hg.out)).trans Hg.out;have d0:wc.cell? ⟨g,0,none⟩=some (.slice Aa a.length ca):=cell_blk hgc rfl;have d1:wc.cell? ⟨g,1,none⟩=some (.slice Ab b.length cb):=cell_blk hgc rfl;have d5:wc.cell? ⟨g,5,none⟩=some (.slice none 0 0):=cell_blk hgc rfl;have f5:wc.frozen? ⟨g,5,none⟩=false:=blk_frozen hgc _;have Hgc:=Aside0.mk hgc;clear hgc c1;have hgw:g < wc.heap.size:=blk_lt Hgc.out;(have hgne:g≠wc.heap.size:=by omega);(go_wp2_with (first|((with_reducible refine gate_dst (N:=28) rfl ?_);refine event_at (v := .slice (some ⟨wc.heap.size,0,none⟩) (a.length * b.length) (a.length * b.length)) (w1:=wc.alloc (.cells ((List.replicate (a.length * b.length) 0).map (Value.int .u8)).toArray 5)) ?hg ?hr ?_;(case hg=>rfl);(case hr=>first|(go_simp;done)|(go_simp;rfl));intro w1 HW1;(have e5:w1.cell? ⟨g,5,none⟩=some (.slice none 0 0):=(by rw[HW1.out];exact cell_alloc_of d5 _));(have g5:w1.frozen? ⟨g,5,none⟩=false:=(by rw[HW1.out];rw[World.frozen?_alloc_past _ _ _ hgw];exact f5)))|((with_reducible refine gate_store (t:=117) (p:=30) rfl ?_);refine store_at (t:=117) (p:=30) (v:=?vo_) (w1:=w1.setCell ⟨g,5,none⟩ (.slice (some ⟨wc.heap.size,0,none⟩) (a.length * b.length) (a.length * b.length))) ?hg ?ho ?hn ?hr ?_;(case ho=>rfl);(case hg=>rfl);(case hn=>rfl);(case hr=>first|(go_simp;done)|(go_simp;rfl));intro w2 HW2;(have q0:w2.cell? ⟨g,0,none⟩=some (.slice Aa a.length ca):=(by rw[HW2.out,HW1.out,World.cell?_setCell_other _ _ _ _ (by simp)];exact cell_alloc_of d0 _)))))
  have hst:RState w w2 g g3 g0 g1 wc.heap.size (.slice Aa a.length ca) (.slice Ab b.length cb) x2 x3 x4 (a.length * b.length) b.length (List.replicate (b.length+1) 0) (List.replicate (b.length+1) 0) (List.replicate (a.length * b.length) 0):=by
   obtain⟨r1,r2,r3,r4,r5,r6,r7,r8,r9,r10,r11⟩:=HR.out;have hlt:g < w.heap.size:=blk_lt Hg.out;have l3:=blk_lt r7;have l0:=blk_lt r8;have l1:=blk_lt r9;(have hal : ∀ k,k < wc.heap.size→(wc.alloc (.cells ((List.replicate (a.length * b.length) 0).map (Value.int .u8)).toArray 5)).heap[k]? = wc.heap[k]? := fun k hk=>heap_alloc_old _ _ hk);(have hgn:w1.heap[g]? = some (.cells #[.slice Aa a.length ca, .slice Ab b.length cb,x2,x3,x4, .slice none 0 0, .int .i64 0] 119 (0,0)):=by rw[HW1.out,hal g hgw];exact Hgc.out);refine⟨⟨HB.out.size,by omega,by omega,by omega,hlt⟩,⟨r1,r2,r3,r4,r5,r6,?_,?_,?_,r10,r11⟩,?_,⟨?_,by simp⟩,?_⟩;(· (rw[HW2.out,heap_set_other (by omega),HW1.out,hal g3 l3];exact r7));(· (unfold NumsAt;rw[HW2.out,heap_set_other (by omega),HW1.out,hal g0 l0];exact r8));(· (unfold NumsAt;rw[HW2.out,heap_set_other (by omega),HW1.out,hal g1 l1];exact r9));(· (rw[HW2.out,heap_set_same hgn];rfl));(· (unfold NumsAt;rw[HW2.out,heap_set_other (by omega),HW1.out];exact blk_new _ _));(· (rw[HW2.out,HW1.out];exact grown_set (grown_alloc (grown_of_below HB.out (some g)) _) _ _))
  have HST:=Aside0.mk hst;clear hst HW1 HW2 HR HB
  go_loopw [4] (fun s4 W => ∃ (x4_:Int) (g0_ g1_:Nat) (L0 L1 S:List Int),s4 = .int .i64 x4_ ∧ -1≤x4_∧x4_ < (a.length:Int)∧Aside0 (RState w W g g3 g0_ g1_ wc.heap.size (.slice Aa a.length ca) (.slice Ab b.length cb) x2 x3 x4 (a.length * b.length) b.length L0 L1 S)∧Aside0 (RowFrom a b (x4_+1).toNat 0 L0)∧Aside0 (L1[b.length]? = some 0)∧Aside0 (StepsFrom a b ((x4_+1).toNat * b.length) S)) (fun s4 _=>(intOf s4+1).toNat)
  case atStart =>
   (have hd:((a.length:Int) - 1+1).toNat=a.length:=by omega);refine⟨(a.length:Int) - 1,g0,g1,_,_,_,rfl,by omega,by omega,HST,⟨?_⟩,⟨?_⟩,⟨?_⟩⟩;(· rw[hd];intro k hk1 hk2;rw[List.getElem?_replicate,if_pos (by omega)];simp);(· rw[List.getElem?_replicate,if_pos (by omega)]);(· rw[hd];intro k hk;rw[List.getElem?_replicate,if_pos hk,if_pos hk])
  case round =>
   obtain⟨x4_,g0_,g1_,L0,L1,S,rfl,h1,h2,HS,HL0,HL1,HT⟩:=hrel
   by_cases hx:0≤x4_
   ·
    obtain⟨i,rfl⟩:=Int.eq_ofNat_of_zero_le hx;have c30:wr.cell? ⟨g3,0,none⟩=some (.slice (some ⟨g0_,0,none⟩) (b.length+1) (b.length+1)):=cell_blk HS.out.2.1.2.2.2.2.2.2.1 rfl;have c31:wr.cell? ⟨g3,1,none⟩=some (.slice (some ⟨g1_,0,none⟩) (b.length+1) (b.length+1)):=cell_blk HS.out.2.1.2.2.2.2.2.2.1 rfl;go_wp2
    go_quiet (fail)
    go_wp2
    go_loopw [7] (fun s7 W => ∃ (x7:Int) (L1' S':List Int),s7 = .int .i64 x7 ∧ -1≤x7∧x7 < (b.length:Int)∧Aside0 (RState w W g g3 g0_ g1_ wc.heap.size (.slice Aa a.length ca) (.slice Ab b.length cb) x2 x3 x4 (a.length * b.length) b.length L0 L1' S')∧Aside0 (RowFrom a b i (x7+1).toNat L1')∧Aside0 (L1'[b.length]? = some 0)∧Aside0 (StepsFrom a b (i * b.length+(x7+1).toNat) S')) (fun s7 _=>(intOf s7+1).toNat)
    case atStart =>
     (have hd:((b.length:Int) - 1+1).toNat=b.length:=by omega);(have hd2:((i:Int)+1).toNat * b.length=i * b.length+b.length:=by rw[show ((i:Int)+1).toNat=i+1 from by omega,Nat.succ_mul]);refine⟨(b.length:Int) - 1,L1,S,rfl,by omega,by omega,⟨HS.out.drewN _⟩,⟨?_⟩,HL1,⟨?_⟩⟩;(· rw[hd];intro k hk1 hk2;(obtain rfl:k=b.length:=by omega);rw[HL1.out];simp);(· (rw[hd,← hd2];exact HT.out))
    case round =>
     clear HS HL1 HT c30 c31;obtain⟨x7,L1,S,rfl,h3,h4,HS,HR,HL1,HT⟩:=hrel
     by_cases hx7:0≤x7
     ·
      obtain⟨j,rfl⟩:=Int.eq_ofNat_of_zero_le hx7;(have hi:i < a.length:=by omega);(have hj:j < b.length:=by omega);(rw[show ((j:Int)+1).toNat=j+1 from by omega] at HR HT);obtain⟨x,hxa⟩ : ∃ x,a[i]? = some x:=⟨_,List.getElem?_eq_getElem hi⟩;obtain⟨y,hyb⟩ : ∃ y,b[j]? = some y:=⟨_,List.getElem?_eq_getElem hj⟩;have Hxa:=Aside0.mk hxa;have Hyb:=Aside0.mk hyb;obtain⟨ada,rfl,k1⟩:=elem_cell (Ha.out wr (fun k hk hlt=>HS.out.2.2.2.2.block k hlt (fun e=>hk (Option.some.inj e)))) hxa;obtain⟨adb,rfl,k2⟩:=elem_cell (Hb.out wr (fun k hk hlt=>HS.out.2.2.2.2.block k hlt (fun e=>hk (Option.some.inj e)))) hyb;clear hxa hyb;have c0:wr.cell? ⟨g,0,none⟩=some (.slice (some ada) a.length ca):=cell_blk HS.out.2.2.1 rfl;have c1:wr.cell? ⟨g,1,none⟩=some (.slice (some adb) b.length cb):=cell_blk HS.out.2.2.1 rfl;obtain⟨v0,hv0⟩ : ∃ v:Int,v=((lcsL (a.drop (i+1)) (b.drop (j+1)):Nat):Int):=⟨_,rfl⟩;obtain⟨v1,hv1⟩ : ∃ v:Int,v=((lcsL (a.drop (i+1)) (b.drop j):Nat):Int):=⟨_,rfl⟩;obtain⟨v2,hv2⟩ : ∃ v:Int,v=((lcsL (a.drop i) (b.drop (j+1)):Nat):Int):=⟨_,rfl⟩;obtain⟨v3,hv3⟩ : ∃ v:Int,L1[j]? = some v:=⟨_,List.getElem?_eq_getElem (by have:=HS.out.2.1.2.2.2.2.2.2.2.2.2.2;omega)⟩
      have b0:0≤v0∧v0≤2000:=by
       have:=lcsL_le_right (a.drop (i+1)) (b.drop (j+1));(rw[List.length_drop] at this);omega
      have q0:=HL0.out (j+1) (by omega) (by omega);have q1:=HL0.out j (by omega) (by omega);have q2:=HR.out (j+1) (by omega) (by omega);(rw[show ((i:Int)+1).toNat=i+1 from by omega,← hv0] at q0);(rw[show ((i:Int)+1).toNat=i+1 from by omega,← hv1] at q1);(rw[← hv2] at q2);have Q0:=Aside0.mk q0;have Q1:=Aside0.mk q1;have Q2:=Aside0.mk q2;have Q3:=Aside0.mk hv3;have V0:=Aside0.mk hv0;have V1:=Aside0.mk hv1;have V2:=Aside0.mk hv2;clear q0 q1 q2 hv3 hv0 hv1 hv2;have s1:IntKind.i64.wrap ((j:Int)+1)=(j:Int)+1:=IntWalk.i64_in _ (by omega);(have s2:((j:Int)+1).toNat=j+1:=by omega)
      by_cases e:x=y
      ·
       have eb:(x == y)=true:=beq_iff_eq.2 e;have E:=Aside0.mk e;clear e;go_wp2
       go_quiet (fail)
       obtain⟨wd,hwd⟩ : ∃ wd,wd=wr.drewN nq:=⟨_,rfl⟩;rw[← hwd];have HSd:=Aside0.mk (show RState w wd g g3 g0_ g1_ wc.heap.size (.slice (some ada) a.length ca) (.slice (some adb) b.length cb) x2 x3 x4 (a.length * b.length) b.length L0 L1 S by rw[hwd];exact HS.out.drewN _);have m0:wd.cell? ⟨g0_,j+1,none⟩=some (.int .i64 v0):=nums_cell HSd.out.2.1.2.2.2.2.2.2.2.1 Q0.out;have m3:wd.cell? ⟨g1_,j,none⟩=some (.int .i64 v3):=nums_cell HSd.out.2.1.2.2.2.2.2.2.2.2.1 Q3.out;have z3:wd.frozen? ⟨g1_,j,none⟩=false:=blk_frozen HSd.out.2.1.2.2.2.2.2.2.2.2.1 _;clear hwd c0 c1 k1 k2;go_wp2;go_roundw;(case measure=>simp[intOf])
       case rel =>
        (have hd:((j:Int) - 1+1).toNat=j:=by omega);refine⟨(j:Int) - 1,L1.set j (v0+1),S,rfl,by omega,by omega,⟨HSd.out.row j (v0+1)⟩,⟨?_⟩,⟨?_⟩,⟨?_⟩⟩;(· (rw[hd];exact row_one HR.out hj (by have:=HSd.out.2.1.2.2.2.2.2.2.2.2.2.2;omega) (by rw[lcs_eq Hxa.out Hyb.out E.out,V0.out];rfl)));(· (rw[List.getElem?_set_ne (by omega)];exact HL1.out));(· (rw[hd];exact steps_same HT.out hj (step_eq Hxa.out Hyb.out E.out)))
      ·
       have eb:(x == y)=false:=beq_eq_false_iff_ne.2 e;have E:=Aside0.mk e;clear e;have hij:=place_lt hi hj
       have p1:(i:Int) * (b.length:Int)+(j:Int) < (a.length:Int) * (b.length:Int):=by
        (rw[← Int.natCast_mul,← Int.natCast_mul];omega)
       (have p0:0≤(i:Int) * (b.length:Int):=by rw[← Int.natCast_mul];omega);(have p2:((i:Int) * (b.length:Int)+(j:Int)).toNat=i * b.length+j:=by rw[← Int.natCast_mul];omega);obtain⟨sv,hsv⟩ : ∃ v:Int,S[i * b.length+j]? = some v:=⟨_,List.getElem?_eq_getElem (by have:=HS.out.2.2.2.1.2;omega)⟩;have QS:=Aside0.mk hsv;clear hsv hij;go_wp2
       go_quiet (fail)
       go_wp2;obtain⟨wd,hwd⟩ : ∃ wd,wd=wr.drewN nq:=⟨_,rfl⟩;rw[← hwd];have HSd:=Aside0.mk (show RState w wd g g3 g0_ g1_ wc.heap.size (.slice (some ada) a.length ca) (.slice (some adb) b.length cb) x2 x3 x4 (a.length * b.length) b.length L0 L1 S by rw[hwd];exact HS.out.drewN _);have m1:wd.cell? ⟨g0_,j,none⟩=some (.int .i64 v1):=nums_cell HSd.out.2.1.2.2.2.2.2.2.2.1 Q1.out;have m2:wd.cell? ⟨g1_,j+1,none⟩=some (.int .i64 v2):=nums_cell HSd.out.2.1.2.2.2.2.2.2.2.2.1 Q2.out;clear hwd c0 c1 k1 k2
       by_cases hle:v2≤v1
       ·
        have hle':=Aside0.mk hle;have hb:decide (v2≤v1)=true:=decide_eq_true hle;clear hle
        go_quiet (fail)
        obtain⟨we,hwe⟩ : ∃ we,we=wd.drewN nq:=⟨_,rfl⟩;rw[← hwe];have HSe:=Aside0.mk (show RState w we g g3 g0_ g1_ wc.heap.size (.slice (some ada) a.length ca) (.slice (some adb) b.length cb) x2 x3 x4 (a.length * b.length) b.length L0 L1 S by rw[hwe];exact HSd.out.drewN _);clear hwe m1 m2;have m1:we.cell? ⟨g0_,j,none⟩=some (.int .i64 v1):=nums_cell HSe.out.2.1.2.2.2.2.2.2.2.1 Q1.out;have m2:we.cell? ⟨g1_,j+1,none⟩=some (.int .i64 v2):=nums_cell HSe.out.2.1.2.2.2.2.2.2.2.2.1 Q2.out;have m3:we.cell? ⟨g1_,j,none⟩=some (.int .i64 v3):=nums_cell HSe.out.2.1.2.2.2.2.2.2.2.2.1 Q3.out;have z3:we.frozen? ⟨g1_,j,none⟩=false:=blk_frozen HSe.out.2.1.2.2.2.2.2.2.2.2.1 _;have HS2:=Aside0.mk (HSe.out.row j v1);have n5:(we.setCell ⟨g1_,j,none⟩ (.int .i64 v1)).cell? ⟨g,5,none⟩=some (.slice (some ⟨wc.heap.size,0,none⟩) (a.length * b.length) (a.length * b.length)):=cell_blk HS2.out.2.2.1 rfl;have nS:(we.setCell ⟨g1_,j,none⟩ (.int .i64 v1)).cell? ⟨wc.heap.size,i * b.length+j,none⟩=some (.int .u8 sv):=nums_cell HS2.out.2.2.2.1.1 QS.out;have zS:(we.setCell ⟨g1_,j,none⟩ (.int .i64 v1)).frozen? ⟨wc.heap.size,i * b.length+j,none⟩=false:=blk_frozen HS2.out.2.2.2.1.1 _;go_wp2;go_roundw;(case measure=>simp[intOf])
        case rel =>
         (have hd:((j:Int) - 1+1).toNat=j:=by omega);(have hvv:lcsL (a.drop i) (b.drop (j+1))≤lcsL (a.drop (i+1)) (b.drop j)↔v2≤v1:=by rw[V1.out,V2.out];omega);refine⟨(j:Int) - 1,L1.set j v1,S.set (i * b.length+j) 1,rfl,by omega,by omega,⟨HS2.out.step _ _⟩,⟨?_⟩,⟨?_⟩,⟨?_⟩⟩;(· (rw[hd];exact row_one HR.out hj (by have:=HSd.out.2.1.2.2.2.2.2.2.2.2.2.2;omega) (by rw[lcs_ne Hxa.out Hyb.out E.out];rw[Nat.max_eq_left (hvv.2 hle'.out)];exact V1.out)));(· (rw[List.getElem?_set_ne (by omega)];exact HL1.out));(· (rw[hd];exact steps_one HT.out hj HS.out.2.2.2.1.2 (step_old Hxa.out Hyb.out E.out (hvv.2 hle'.out))))
       ·
        have hle':=Aside0.mk hle;have hb:decide (v2≤v1)=false:=decide_eq_false hle;clear hle
        go_quiet (fail)
        obtain⟨we,hwe⟩ : ∃ we,we=wd.drewN nq:=⟨_,rfl⟩;rw[← hwe];have HSe:=Aside0.mk (show RState w we g g3 g0_ g1_ wc.heap.size (.slice (some ada) a.length ca) (.slice (some adb) b.length cb) x2 x3 x4 (a.length * b.length) b.length L0 L1 S by rw[hwe];exact HSd.out.drewN _);clear hwe m1 m2;have m1:we.cell? ⟨g0_,j,none⟩=some (.int .i64 v1):=nums_cell HSe.out.2.1.2.2.2.2.2.2.2.1 Q1.out;have m2:we.cell? ⟨g1_,j+1,none⟩=some (.int .i64 v2):=nums_cell HSe.out.2.1.2.2.2.2.2.2.2.2.1 Q2.out;have m3:we.cell? ⟨g1_,j,none⟩=some (.int .i64 v3):=nums_cell HSe.out.2.1.2.2.2.2.2.2.2.2.1 Q3.out;have z3:we.frozen? ⟨g1_,j,none⟩=false:=blk_frozen HSe.out.2.1.2.2.2.2.2.2.2.2.1 _;have HS2:=Aside0.mk (HSe.out.row j v2);have n5:(we.setCell ⟨g1_,j,none⟩ (.int .i64 v2)).cell? ⟨g,5,none⟩=some (.slice (some ⟨wc.heap.size,0,none⟩) (a.length * b.length) (a.length * b.length)):=cell_blk HS2.out.2.2.1 rfl;have nS:(we.setCell ⟨g1_,j,none⟩ (.int .i64 v2)).cell? ⟨wc.heap.size,i * b.length+j,none⟩=some (.int .u8 sv):=nums_cell HS2.out.2.2.2.1.1 QS.out;have zS:(we.setCell ⟨g1_,j,none⟩ (.int .i64 v2)).frozen? ⟨wc.heap.size,i * b.length+j,none⟩=false:=blk_frozen HS2.out.2.2.2.1.1 _;go_wp2;go_roundw;(case measure=>simp[intOf])
        case rel =>
         (have hd:((j:Int) - 1+1).toNat=j:=by omega);(have hvv:lcsL (a.drop i) (b.drop (j+1))≤lcsL (a.drop (i+1)) (b.drop j)↔v2≤v1:=by rw[V1.out,V2.out];omega);refine⟨(j:Int) - 1,L1.set j v2,S.set (i * b.length+j) 2,rfl,by omega,by omega,⟨HS2.out.step _ _⟩,⟨?_⟩,⟨?_⟩,⟨?_⟩⟩;(· (rw[hd];exact row_one HR.out hj (by have:=HSd.out.2.1.2.2.2.2.2.2.2.2.2.2;omega) (by rw[lcs_ne Hxa.out Hyb.out E.out];rw[Nat.max_eq_right (by have:=mt hvv.1 hle'.out;omega)];exact V2.out)));(· (rw[List.getElem?_set_ne (by omega)];exact HL1.out));(· (rw[hd];exact steps_one HT.out hj HS.out.2.2.2.1.2 (step_fresh Hxa.out Hyb.out E.out (mt hvv.1 hle'.out))))
     ·
      (have hx7':x7 = -1:=by omega);subst hx7';have c30:wr.cell? ⟨g3,0,none⟩=some (.slice (some ⟨g0_,0,none⟩) (b.length+1) (b.length+1)):=cell_blk HS.out.2.1.2.2.2.2.2.2.1 rfl;have c31:wr.cell? ⟨g3,1,none⟩=some (.slice (some ⟨g1_,0,none⟩) (b.length+1) (b.length+1)):=cell_blk HS.out.2.1.2.2.2.2.2.2.1 rfl;have z30:wr.frozen? ⟨g3,0,none⟩=false:=blk_frozen HS.out.2.1.2.2.2.2.2.2.1 _;have z31:wr.frozen? ⟨g3,1,none⟩=false:=blk_frozen HS.out.2.1.2.2.2.2.2.2.1 _;go_wp2;go_roundw;(case measure=>simp[intOf])
      case rel =>
       (have hd:((i:Int) - 1+1).toNat=i:=by omega);refine⟨(i:Int) - 1,g1_,g0_,L1,L0,S,rfl,by omega,by omega,⟨HS.out.swap⟩,⟨?_⟩,⟨?_⟩,⟨?_⟩⟩;(· (rw[hd];exact HR.out));(· (rw[HL0.out b.length (Nat.zero_le _) (Nat.le_refl _)];simp));(· (rw[hd];exact HT.out))
   ·
    (have hx':x4_ = -1:=by omega);subst hx';have c30:wr.cell? ⟨g3,0,none⟩=some (.slice (some ⟨g0_,0,none⟩) (b.length+1) (b.length+1)):=cell_blk HS.out.2.1.2.2.2.2.2.2.1 rfl
    have c00:wr.cell? ⟨g0_,0,none⟩=some (.int .i64 ((lcsL a b:Nat):Int)):=by
     have h:=nums_cell HS.out.2.1.2.2.2.2.2.2.2.1 (HL0.out 0 (Nat.le_refl _) (Nat.zero_le _));simpa using h
    have c6:wr.cell? ⟨g,6,none⟩=some (.int .i64 0):=cell_blk HS.out.2.2.1 rfl;have z6:wr.frozen? ⟨g,6,none⟩=false:=blk_frozen HS.out.2.2.1 _;go_wp2;go_end0;obtain⟨⟨e1,e2,e3,e4,e5⟩,hr,hg,⟨hs,hsl⟩,hk⟩:=HS.out
    have hS:S=stepsOf a b:=by
     apply List.ext_getElem?;intro k
     rcases Nat.lt_or_ge k (a.length * b.length) with h|h
     (· rw[HT.out k h,if_neg (by simp)];simp[stepsOf,h]);(· rw[List.getElem?_eq_none (by omega),List.getElem?_eq_none (by simp[stepsOf];omega)])
    refine⟨rfl,⟨wc.heap.size,e1,?_,?_⟩,grown_set hk _ _⟩;(· (rw[heap_set_same hg];rfl));(· (rw[← hS];exact nums_other hs (by omega) _))
def colK (ms:List (List Int)) (k:Nat):List Int:=ms.map (fun l=>l.getD k 0)
abbrev CutSt:=Int × List Int × List Chunk
def cutF (st:CutSt) (stable:Bool) (base:Int) (ats:List Int):CutSt:=(base,ats,cutOut stable st.1 base st.2.1 ats st.2.2)
def alignGo (m:Nat) (ms:List (List Int)):Nat→Nat→CutSt→CutSt
  | 0,_,st=>st
  | r+1,k,st=>if k < m then (if stableB ms k=true then alignGo m ms r (runF m ms k) (cutF (cutF st false (k:Int) (colK ms k)) true (runF m ms k:Nat) ((colK ms (runF m ms k - 1)).map (· + 1))) else alignGo m ms r (k+1) st) else st
def alignF (m:Nat) (sizes:List Int) (ms:List (List Int)):List Chunk:=(cutF (alignGo m ms (m+1) 0 (0,List.replicate ms.length 0,[])) false (m:Int) sizes).2.2
theorem runGo_ge (m:Nat) (ms:List (List Int)) : ∀ r a,a≤runGo m ms r a
 | 0,a=>Nat.le_refl _
 | r+1,a=>by
  (rw[runGo];split);(· (have:=runGo_ge m ms r (a+1);omega));(· exact Nat.le_refl _)
theorem runGo_le (m:Nat) (ms:List (List Int)) : ∀ r a,a≤m→runGo m ms r a≤m
 | 0,a,h=>h
 | r+1,a,h=>by
  (rw[runGo];split);(· (rename_i h2;exact runGo_le m ms r (a+1) (by omega)));(· exact h)
theorem runF_gt (m:Nat) (ms:List (List Int)) (k:Nat) (h:k < m):k < runF m ms k∧runF m ms k≤m:=⟨runGo_ge m ms _ _,runGo_le m ms _ _ (by omega)⟩
theorem CutIn.bel {w0 w:World} {B g gs:Nat} {base:Int} {sides:List Int} {out:List Chunk} (h:CutIn w0 w B g gs base sides out):Below B w0 w:=by
 (obtain⟨vo,h1,h2,h3,h4,h5,h6⟩:=h;exact h6)
theorem CutIn.lt {w0 w:World} {B g gs:Nat} {base:Int} {sides:List Int} {out:List Chunk} (h:CutIn w0 w B g gs base sides out):gs < w.heap.size:=by
 (obtain⟨vo,h1,h2,h3,h4,h5,h6⟩:=h;exact blk_lt h3)
theorem CutIn.below {w0 w w':World} {B g gs:Nat} {base:Int} {sides:List Int} {out:List Chunk} (h:CutIn w0 w B g gs base sides out) (hb:Below w.heap.size w w') (hB:B≤w.heap.size):CutIn w0 w' B g gs base sides out:=by
 obtain⟨vo,h1,h2,h3,h4,h5,h6⟩:=h;exact⟨vo,far_keep h1 hb,h2,far_keep h3 hb,h4,Kd.S_below h5 hb,h6.trans (hb.mono hB)⟩
theorem colK_get (ms:List (List Int)) (k i:Nat):(colK ms k).getD i 0=(ms.getD i []).getD k 0:=by
 rw[colK,List.getD_eq_getElem?_getD,List.getElem?_map,List.getD_eq_getElem?_getD (l:=ms)];(cases ms[i]? <;> simp)
section
variable {w w8:World} {g gs g5 gk:Nat} {A:Option Addr} {c:Nat} {ms:List (List Int)} {m k:Nat}
theorem hat2_of (hQ:w8.heap[g5]? = some (.cells #[.slice A ms.length c] 70 (0,0))) (hK:w8.heap[gk]? = some (.cells #[.int .i64 (k:Int)] 3 (0,0))) (hC:Kd.C KIa w A ms.length ms) (hb:Below w.heap.size w w8) (hg:w.heap.size≤g) (hgs:w.heap.size≤gs) (n1:g5≠g) (n2:g5≠gs) (n3:gk≠g) (n4:gk≠gs) (hl:AllLen ms m) (hk:k < m) (hm:m≤1000000) :
    ∀ W',AKeeps g gs w8 W' → ∀ i,i < ms.length→Calls Tryz.prog 75 #[.int .i64 (i:Int), .pointer (some ⟨g5,0,none⟩), .pointer (some ⟨gk,0,none⟩)] W' fun e w''=>e = .returned (.int .i64 ((colK ms k).getD i 0))∧Drawn0 W' w'':=by
 intro W' hW i hi;rw[colK_get];refine align_at2 g5 gk A c ms m k i W' (cell_blk ((hW.2 _ (blk_lt hQ) n1 n2).trans hQ) rfl) (cell_blk ((hW.2 _ (blk_lt hK) n3 n4).trans hK) rfl) ?_ hl hk hm hi;exact(Kd.heap_slice _ (Kd.heap_int _)).C (fun j hj=>(hW.2 j (Nat.lt_of_lt_of_le hj hb.size) (by omega) (by omega)).trans (hb.block j hj)) hC
theorem hat3_of (hQ:w8.heap[g5]? = some (.cells #[.slice A ms.length c] 70 (0,0))) (hK:w8.heap[gk]? = some (.cells #[.int .i64 ((k:Int)+1)] 3 (0,0))) (hC:Kd.C KIa w A ms.length ms) (hb:Below w.heap.size w w8) (hg:w.heap.size≤g) (hgs:w.heap.size≤gs) (n1:g5≠g) (n2:g5≠gs) (n3:gk≠g) (n4:gk≠gs) (hl:AllLen ms m) (hv : ∀ l ∈ ms,∀ i, -1≤l.getD i 0∧l.getD i 0≤1000000) (hk:k < m) (hm:m≤1000000) :
    ∀ W',AKeeps g gs w8 W' → ∀ i,i < ms.length→Calls Tryz.prog 76 #[.int .i64 (i:Int), .pointer (some ⟨g5,0,none⟩), .pointer (some ⟨gk,0,none⟩)] W' fun e w''=>e = .returned (.int .i64 (((colK ms k).map (· + 1)).getD i 0))∧Drawn0 W' w'':=by
 intro W' hW i hi
 have e:((colK ms k).map (· + 1)).getD i 0=(ms.getD i []).getD k 0+1:=by
  (rw[← colK_get,List.getD_eq_getElem?_getD,List.getElem?_map,List.getD_eq_getElem?_getD,List.getElem?_eq_getElem (by simpa [colK] using hi)];rfl)
 rw[e];refine align_at3 g5 gk A c ms m k i W' (cell_blk ((hW.2 _ (blk_lt hQ) n1 n2).trans hQ) rfl) (cell_blk ((hW.2 _ (blk_lt hK) n3 n4).trans hK) rfl) ?_ hl hv hk hm hi;exact(Kd.heap_slice _ (Kd.heap_int _)).C (fun j hj=>(hW.2 j (Nat.lt_of_lt_of_le hj hb.size) (by omega) (by omega)).trans (hb.block j hj)) hC
end
theorem CutIn.blk {w0 w:World} {B g gs:Nat} {base:Int} {sides:List Int} {out:List Chunk} (h:CutIn w0 w B g gs base sides out) : ∃ cs,w.heap[g]? = some (.cells cs 126 (0,0)):=by
 (obtain⟨vo,h1,h2,h3,h4,h5,h6⟩:=h;exact⟨_,h1⟩)
theorem CutIn.blks {w0 w:World} {B g gs:Nat} {base:Int} {sides:List Int} {out:List Chunk} (h:CutIn w0 w B g gs base sides out) : ∃ cs,w.heap[gs]? = some (.cells cs 3 (0,0)):=by
 (obtain⟨vo,h1,h2,h3,h4,h5,h6⟩:=h;exact⟨_,h3⟩)
theorem cutOut_len (stable:Bool) (base0 base:Int) (sides ats:List Int) (out:List Chunk):(cutOut stable base0 base sides ats out).length≤out.length+1:=by
 (unfold cutOut;split);(· simp);(· omega)
theorem CutIn.setbox {w0 w:World} {B g gs b:Nat} {base:Int} {sides:List Int} {out:List Chunk} {cs:Array Value} (h:CutIn w0 w B g gs base sides out) (hb:w.heap[b]? = some (.cells cs 3 (0,0))) (hg:b≠gs) (hB:B≤b) (v:Value):CutIn w0 (w.setCell ⟨b,0,none⟩ v) B g gs base sides out:=by
 obtain⟨vo,h1,h2,h3,h4,h5,h6⟩:=h;exact⟨vo,set_keepA h1 (blk_neA h1 hb (by decide)) v,h2,set_keepA h3 (fun e=>hg e.symm) v,h4,Kd.S_set h5 hb (by decide) _ _,h6.setCell (p:=⟨b,0,none⟩) hB v⟩
theorem alignGo_end (m:Nat) (ms:List (List Int)) {r:Nat} (st:CutSt):alignGo m ms r m st=st:=by
 cases r with
 | zero=>rfl
 | succ r=>rw[alignGo,if_neg (by omega)]
theorem align_Align (m:Nat) (A1:Option Addr) (c1:Nat) (sizes:List Int) (A2:Option Addr) (c2:Nat) (ms:List (List Int)) (w:World) (hr1:Kd.C (Kd.int .i64) w A1 sizes.length sizes) (hc1:sizes.length≤c1) (hr2:Kd.C KIa w A2 ms.length ms) (hc2:ms.length≤c2)
    (hn:sizes.length=ms.length) (hn1:1≤ms.length) (hn2:ms.length≤16) (hm:m≤40000) (hl:AllLen ms m) (hv : ∀ l ∈ ms,∀ i, -1≤l.getD i 0∧l.getD i 0≤1000000) (hmay : ∃ k,∀ i (h:i < ms.length),align_may.f k ms[i] (m:Int) (sizes.getD i 0)=some true) :
    Calls Tryz.prog 38 #[.int .i64 (m:Int), .slice A1 sizes.length c1, .slice A2 ms.length c2] w fun e w' => ∃ v0_:Value,e = .returned (.tuple #[v0_, .int .i64 0])∧Kd.S k48 48 w' w.heap.size (fun _=>True) v0_ (alignF m sizes ms)∧Below w.heap.size w w':=by
 obtain⟨kf,hmay⟩:=hmay;have HR1:=Aside0.mk hr1;have HR2:=Aside0.mk hr2;have HL:=Aside0.mk hl;have HV:=Aside0.mk hv;have HMAY:=Aside0.mk hmay;clear hr1 hr2 hl hv hmay;obtain⟨n,hnn⟩ : ∃ n,ms.length=n:=⟨_,rfl⟩;have HN:=Aside0.mk hnn;(rw[hnn] at hn hn1 hn2 hc2 ⊢);(rw[hn] at hc1 ⊢);have HN1:=Aside0.mk hn;clear hnn hn;have d1:decide ((n:Int) < 1)=false:=decide_eq_false (by omega);have d2:decide ((16:Int) < (n:Int))=false:=decide_eq_false (by omega);have d3:decide (n < 1)=false:=decide_eq_false (by omega);have d4:decide (16 < n)=false:=decide_eq_false (by omega);go_enter Tryz.func38,Tryz.ntmps38;(go_wp2_with fail);obtain⟨w1,hw1⟩ : ∃ w1,(w.alloc (.cells #[.slice A1 n c1] 72)).alloc (.cells #[.slice A2 n c2] 70)=w1:=⟨_,rfl⟩;(have hb1:Below w.heap.size w w1:=by rw[← hw1];exact((Below.refl _ w).alloc (Nat.le_refl _) _).alloc (by simp) _);(have q4:w1.heap[w.heap.size]? = some (.cells #[.slice A1 n c1] 72 (0,0)):=by rw[← hw1,heap_alloc_old _ _ (by simp)];exact blk_new _ _);(have q5:w1.heap[w.heap.size+1]? = some (.cells #[.slice A2 n c2] 70 (0,0)):=by rw[← hw1];have:=blk_new (w.alloc (.cells #[.slice A1 n c1] 72)) (.cells #[.slice A2 n c2] 70);simpa using this);rw[hw1];have HB1:=Aside0.mk hb1;have Q4:=Aside0.mk q4;have Q5:=Aside0.mk q5;clear hw1 hb1 q4 q5
 go_loopw [31] (fun s31 wr => ∃ (i:Nat),s31 = .int .i64 i∧i≤n∧Aside0 (Below w1.heap.size w1 wr)) (fun s31 _=>n - (intOf s31).toNat)
 (case atStart=>exact⟨0,rfl,Nat.zero_le _,⟨Below.refl _ _⟩⟩)
 case round =>
  obtain⟨i,rfl,hi,HW⟩:=hrel;have HBr:Aside0 (Below w.heap.size w wr):=⟨far_ HB1.out HW.out⟩
  by_cases hlt:i < n
  (· have e1:decide ((i:Int) < (n:Int))=true:=decide_eq_true (by omega);have e2:decide (i < n)=true:=decide_eq_true hlt;(have hin:i < ms.length:=by rw[HN.out];exact hlt);obtain⟨ad,Al,cl,rfl,xl,hcl,kcl⟩:=at_slice (Kd.C_below HR2.out HBr.out) i hin;(have hg0:ms.getD i []=ms[i]:=by simp[hin]);have hmi:=HMAY.out i hin;(rw[hg0] at xl hcl kcl);obtain⟨l,hl0⟩ : ∃ l,ms[i]=l:=⟨_,rfl⟩;(rw[hl0] at xl hcl kcl hmi);obtain⟨as_,rfl,xs⟩:=at_num (Kd.C_below HR1.out HBr.out) i (by rw[HN1.out];exact hlt);obtain⟨sz,hsz⟩ : ∃ sz,sizes.getD i 0=sz:=⟨_,rfl⟩;(rw[hsz] at xs hmi);have y4:wr.cell? ⟨w.heap.size,0,none⟩=some (.slice (some as_) n c1):=cell_blk (far_keep Q4.out HW.out) rfl;have HMI:=Aside0.mk hmi;have KCL:=Aside0.mk kcl;have HCL:=Aside0.mk hcl;clear hg0 hl0 hsz hmi kcl hcl hin;(go_wp2_with fail);refine(align_may.calls kf Al cl l (m:Int) sz true wr KCL.out HCL.out HMI.out).mono ?_;rintro e w2 ⟨rfl,hb2⟩;have HW2:Aside0 (Below w1.heap.size w1 w2):=⟨far_ HW.out hb2⟩;clear hb2 y4;go_wp2;go_roundw;(case measure=>simp[intOf];omega);(case rel=>exact⟨i+1,by go_num,by omega,HW2⟩))
  ·
   obtain⟨wz,rfl⟩ : ∃ wq,wq=wr:=⟨_,rfl⟩;have e1:decide ((i:Int) < (n:Int))=false:=decide_eq_false (by omega);have e2:decide (i < n)=false:=decide_eq_false hlt;have y4:wz.cell? ⟨w.heap.size,0,none⟩=some (.slice A1 n c1):=cell_blk (far_keep Q4.out HW.out) rfl;(have hmf : ∀ (fn:Fn) (first cap:Array Value) (w:World),(Instr.makeFunc fn first cap).run Tryz.prog w = .ok (.func fn first cap) w:=fun _ _ _ _=>rfl)
   have hmk : ∀ W:World,(Instr.makeSlice 72 (.int .i64 (n:Int)) (.int .i64 (n:Int))).run Tryz.prog W = .ok (.slice (some ⟨W.heap.size,0,none⟩) n n) (W.alloc (.cells (Array.replicate n (.int .i64 0)) 3)):=by
    obtain⟨i0,hi0,hz0⟩:=Option.map_eq_some_iff.1 info3;(simp only[Prod.mk.injEq] at hz0);obtain⟨hz,hsz,hby⟩:=hz0;intro W;have h:=run_make (P:=Tryz.prog) W 72 3 i0 (.int .i64 0) Tryz.underlying72 hi0 hz .i64 .i64 (n:Int) (n:Int) (by omega) (by omega) (by rw[hby];omega) (by omega);rw[h,hsz,Int.toNat_natCast,show (Value.int .i64 0).cells=#[Value.int .i64 0] from rfl,madeCells_one,List.toArray_replicate]
   (go_wp2_with fail);obtain⟨w5,hw5⟩ : ∃ w5,((wz.alloc (.cells (Array.replicate n (.int .i64 0)) 3)).alloc (.cells #[.int .i64 0, .slice (some ⟨wz.heap.size,0,none⟩) n n, .slice none 0 0] 126)).alloc (.cells #[.int .i64 0] 3)=w5:=⟨_,rfl⟩;(have hb5:Below wz.heap.size wz w5:=by rw[← hw5];exact(((Below.refl _ wz).alloc (Nat.le_refl _) _).alloc (by simp) _).alloc (by simp;omega) _);(have r0:w5.heap[wz.heap.size]? = some (.cells (Array.replicate n (.int .i64 0)) 3 (0,0)):=by rw[← hw5,heap_alloc_old _ _ (by simp;omega),heap_alloc_old _ _ (by simp)];exact blk_new _ _)
   have r1:w5.heap[wz.heap.size+1]? = some (.cells #[.int .i64 0, .slice (some ⟨wz.heap.size,0,none⟩) n n, .slice none 0 0] 126 (0,0)):=by
    rw[← hw5,heap_alloc_old _ _ (by simp)];have:=blk_new (wz.alloc (.cells (Array.replicate n (.int .i64 0)) 3)) (.cells #[.int .i64 0, .slice (some ⟨wz.heap.size,0,none⟩) n n, .slice none 0 0] 126);simpa using this
   have r2:w5.heap[wz.heap.size+1+1]? = some (.cells #[.int .i64 0] 3 (0,0)):=by
    rw[← hw5];have:=blk_new ((wz.alloc (.cells (Array.replicate n (.int .i64 0)) 3)).alloc (.cells #[.int .i64 0, .slice (some ⟨wz.heap.size,0,none⟩) n n, .slice none 0 0] 126)) (.cells #[.int .i64 0] 3);simpa using this
   rw[hw5];obtain⟨FIN,hFIN⟩ : ∃ FIN,alignGo m ms (m+1) 0 (0,List.replicate n 0,[])=FIN:=⟨_,rfl⟩;have HFIN:=Aside0.mk hFIN;have HB5:=Aside0.mk hb5;have R0:=Aside0.mk r0;have R1:=Aside0.mk r1;have R2:=Aside0.mk r2;clear hw5 hFIN hb5 r0 r1 r2 y4
   go_loopg [12] m (fun gg s12 wx => ∃ (k gk r:Nat) (st:CutSt),s12 = .pointer (some ⟨gk,0,none⟩)∧k+gg=m∧m+1≤r+k∧Aside0 (alignGo m ms r k st=FIN)∧Aside0 (wx.heap[gk]? = some (.cells #[.int .i64 (k:Int)] 3 (0,0)))∧gk≠wz.heap.size∧w.heap.size≤gk ∧
    Aside0 (CutIn w wx w.heap.size (wz.heap.size+1) wz.heap.size st.1 st.2.1 st.2.2)∧Aside0 (wx.heap[w.heap.size]? = some (.cells #[.slice A1 n c1] 72 (0,0)))∧Aside0 (wx.heap[w.heap.size+1]? = some (.cells #[.slice A2 n c2] 70 (0,0)))∧st.2.1.length=n∧st.2.2.length≤2 * k)
   case atStart =>
    refine⟨0,_,m+1,(0,List.replicate n 0,[]),rfl,by omega,by omega,HFIN,R2,by omega,by have:=HBr.out.size;omega,⟨?_⟩,⟨far_keep (far_keep Q4.out HW.out) HB5.out⟩,⟨far_keep (far_keep Q5.out HW.out) HB5.out⟩,by simp,by simp⟩;refine⟨.slice none 0 0,by rw[R1.out];simp,by have:=HBr.out.size;omega,by rw[R0.out];simp,HBr.out.size,Kd.S_nil _ _ _ _ _,far_ HBr.out HB5.out⟩
   case round =>
    obtain⟨k,gk,r,st,rfl,hkg,hr,HG,HK,hne,hgk,HC,HQ4,HQ5,hsl,hol⟩:=hrel;obtain⟨r,rfl⟩ : ∃ r',r=r'+1:=⟨r - 1,by omega⟩;have x12:wr.cell? ⟨gk,0,none⟩=some (.int .i64 (k:Int)):=cell_blk HK.out rfl;have HBw:Aside0 (Below w.heap.size w wr):=⟨HC.out.bel⟩
    by_cases hk:k < m
    ·
     have g1:decide ((k:Int) < (m:Int))=true:=decide_eq_true (by omega);have g2:decide (k < m)=true:=decide_eq_true hk;(have y5:wr.cell? ⟨w.heap.size+1,0,none⟩=some (.slice A2 ms.length c2):=by rw[HN.out];exact cell_blk HQ5.out rfl);have Y5:=Aside0.mk y5;(go_wp2_with fail);refine(align_stable (w.heap.size+1) A2 c2 ms m k wr Y5.out (Kd.C_below HR2.out HBw.out) HL.out hk (by omega) (by rw[HN.out];omega)).mono ?_;rintro e w6' ⟨rfl,n6,hn6⟩;obtain⟨w6,hw6⟩ : ∃ w6,w6=w6':=⟨_,rfl⟩;rw[← hw6];(rw[← hw6] at hn6);have HB6:Aside0 (Below wr.heap.size wr w6):=⟨by rw[hn6];exact pw_below_drewN (Below.refl _ _) n6⟩;clear hw6 hn6 y5;obtain⟨sb,hsb⟩ : ∃ sb,stableB ms k=sb:=⟨_,rfl⟩;have HSB:=Aside0.mk hsb;rw[hsb];clear hsb;have hwz:w.heap.size≤wr.heap.size:=HBw.out.size
     cases sb with
     | false =>
      ·
       have HG':Aside0 (alignGo m ms r (k+1) st=FIN):=⟨by
        have:=HG.out;(rw[alignGo,if_pos hk,HSB.out,if_neg (by decide)] at this)
        exact this⟩
       have z12:w6.cell? ⟨gk,0,none⟩=some (.int .i64 (k:Int)):=cell_blk (far_keep HK.out HB6.out) rfl;go_wp2
       go_roundg (m - (k+1))
       (case measure=>omega)
       case rel =>
        have hb:Below w6.heap.size w6 (w6.alloc (.cells #[.int .i64 ((k:Int)+1)] 3)):=(Below.refl _ w6).alloc (Nat.le_refl _) _;have hb2:=far_ HB6.out hb;exact⟨k+1,w6.heap.size,r,st,rfl,by omega,by omega,HG',⟨blk_new _ _⟩,by have:=HC.out.lt;have:=HB6.out.size;omega,Nat.le_trans hwz HB6.out.size,⟨HC.out.below hb2 hwz⟩,⟨far_keep HQ4.out hb2⟩,⟨far_keep HQ5.out hb2⟩,hsl,by omega⟩
     | true =>
      ·
       obtain⟨hen1,hen2⟩:=runF_gt m ms k hk;have HG':=HG.out;(rw[alignGo,if_pos hk,HSB.out,if_pos rfl] at HG');obtain⟨en,hen⟩ : ∃ en,runF m ms k=en:=⟨_,rfl⟩;(rw[hen] at HG' hen1 hen2);have HG2:=Aside0.mk HG';have HEN:=Aside0.mk hen;clear HG' hen;have z12:w6.cell? ⟨gk,0,none⟩=some (.int .i64 (k:Int)):=cell_blk (far_keep HK.out HB6.out) rfl;have y56:w6.cell? ⟨w.heap.size+1,0,none⟩=some (.slice A2 n c2):=cell_blk (far_keep HQ5.out HB6.out) rfl;have hrun:=align_run A2 c2 ms m k w6 (Kd.C_below HR2.out (far_ HBw.out HB6.out)) (by rw[HN.out];exact hc2) HL.out HV.out hk (by omega) (by rw[HN.out];omega);(rw[HN.out,HEN.out] at hrun);have HRUN:=Aside0.mk hrun;clear hrun;(go_wp2_with fail);refine HRUN.out.mono ?_;rintro e w7' ⟨rfl,n7,hn7⟩;obtain⟨w7,hw7⟩ : ∃ w7,w7=w7':=⟨_,rfl⟩;rw[← hw7];(rw[← hw7] at hn7);have HB7:Aside0 (Below wr.heap.size wr w7):=⟨by rw[hn7];exact far_ HB6.out (pw_below_drewN (Below.refl _ _) n7)⟩;clear hw7 hn7 z12 y56;(have z7 : ∀ o,(w7.alloc o).cell? ⟨gk,0,none⟩=some (.int .i64 (k:Int)):=fun o=>cell_alloc_of (cell_blk (far_keep HK.out HB7.out) rfl) o);(go_wp2_with fail);obtain⟨w8,hw8⟩ : ∃ w8,w7.alloc (.cells #[.int .i64 (en:Int)] 3)=w8:=⟨_,rfl⟩;(have hb8:Below wr.heap.size wr w8:=by rw[← hw8];exact far_ HB7.out ((Below.refl _ _).alloc (Nat.le_refl _) _));(have e8:w8.heap[w7.heap.size]? = some (.cells #[.int .i64 (en:Int)] 3 (0,0)):=by rw[← hw8];exact blk_new _ _);rw[hw8];have hC8:=HC.out.below hb8 hwz;have hk8:=far_keep HK.out hb8;have hq8:=far_keep HQ5.out hb8;have h7:wr.heap.size≤w7.heap.size:=HB7.out.size;obtain⟨cs1,hc1'⟩:=hC8.blk;obtain⟨cs2,hc2'⟩:=hC8.blks;have m1:=blk_neA hq8 hc1' (by decide);have m2:=blk_neA hq8 hc2' (by decide);have m3:=blk_neA hk8 hc1' (by decide);(rw[← HN.out] at hq8);have hat2:=hat2_of (w:=w) (g:=wz.heap.size+1) (gs:=wz.heap.size) hq8 hk8 HR2.out (far_ HBw.out hb8) (by have:=HBr.out.size;omega) HBr.out.size m1 m2 m3 hne HL.out hk (by omega);(have hlc:(colK ms k).length=st.2.1.length:=by rw[hsl,colK,List.length_map,HN.out]);have hto:=cut_toF 75 _ Tryz.func75 (by kernel_rfl) rfl #[.pointer (some ⟨w.heap.size+1,0,none⟩), .pointer (some ⟨gk,0,none⟩)] w w8 w.heap.size (wz.heap.size+1) wz.heap.size false st.1 (k:Int) st.2.1 (colK ms k) st.2.2 hC8 rfl hlc (by omega) (by omega) (fun W' hW i hi=>hat2 W' hW i (by rw[HN.out,← hsl];exact hi));have HTO:=Aside0.mk hto;have E8:=Aside0.mk e8;have HQ8:=Aside0.mk hq8;have HK8:=Aside0.mk hk8;have HB8:=Aside0.mk hb8;clear hto e8 hq8 hk8 hb8 hat2 hC8 hc1' hc2' hw8 z7;refine HTO.out.mono ?_;rintro e w9 ⟨rfl,HC9,HK9⟩;(have hgl:wz.heap.size+1 < wr.heap.size:=by obtain⟨_,hcb⟩:=HC.out.blk;exact blk_lt hcb);have e9:w9.cell? ⟨w7.heap.size,0,none⟩=some (.int .i64 (en:Int)):=cell_blk (HK9.out.2 _ _ _ _ (by omega) (by have:=HC.out.lt;omega) E8.out (by decide)) rfl;(go_wp2_with fail);have hq9:=HK9.out.2 _ _ _ _ m1 m2 HQ8.out (by decide);have hk9:=HK9.out.2 _ _ _ _ m3 hne HK8.out (by decide);have hbx9:=HK9.out.2 _ _ _ _ (by omega) (by have:=HC.out.lt;omega) E8.out (by decide);obtain⟨en',hen'⟩ : ∃ en',en=en'+1:=⟨en - 1,by omega⟩;(have hbx9':w9.heap[w7.heap.size]? = some (.cells #[.int .i64 ((en':Int)+1)] 3 (0,0)):=by rw[hbx9,hen'];rfl);have hat3:=hat3_of (w:=w) (g:=wz.heap.size+1) (gs:=wz.heap.size) hq9 hbx9' HR2.out HC9.out.bel (by have:=HBr.out.size;omega) HBr.out.size m1 m2 (by omega) (by have:=HC.out.lt;omega) HL.out HV.out (by omega:en' < m) (by omega);(have hlen9:(colK ms k).length=n:=by rw[colK,List.length_map,HN.out]);have hol9:=cutOut_len false st.1 (k:Int) st.2.1 (colK ms k) st.2.2;have hto:=cut_toF 76 _ Tryz.func76 (by kernel_rfl) rfl #[.pointer (some ⟨w.heap.size+1,0,none⟩), .pointer (some ⟨w7.heap.size,0,none⟩)] w w9 w.heap.size (wz.heap.size+1) wz.heap.size true (k:Int) (en:Int) (colK ms k) ((colK ms en').map (· + 1)) _ HC9.out rfl (by rw[List.length_map,colK,colK,List.length_map,List.length_map]) (by omega) (by omega) (fun W' hW i hi=>hat3 W' hW i (by rw[HN.out,← hlen9];exact hi));have HTO3:=Aside0.mk hto;have HQ9:=Aside0.mk hq9;have HKB9:=Aside0.mk hk9;have HX9:=Aside0.mk hbx9;clear hto hq9 hk9 hbx9 hbx9' hat3 e9;refine HTO3.out.mono ?_;rintro e w10 ⟨rfl,HC10,HK10⟩;have hq10:=HK10.out.2 _ _ _ _ m1 m2 HQ9.out (by decide);have hk10:=HK10.out.2 _ _ _ _ m3 hne HKB9.out (by decide);have hx10:=HK10.out.2 _ _ _ _ (by omega) (by have:=HC.out.lt;omega) HX9.out (by decide);have ex10:w10.cell? ⟨w7.heap.size,0,none⟩=some (.int .i64 (en:Int)):=cell_blk hx10 rfl;have ek10:w10.cell? ⟨gk,0,none⟩=some (.int .i64 (k:Int)):=cell_blk hk10 rfl;have fk10:w10.frozen? ⟨gk,0,none⟩=false:=frozen_of_row _ _ _ _ _ hk10;(have ep:(en:Int) - 1=(en':Int):=by omega);have HEP:=Aside0.mk hen';have HQ10:=Aside0.mk hq10;have HK10b:=Aside0.mk hk10;clear hen' hq10 hk10 hx10;have hk10c:=HK10b.out;go_wp2
       go_roundg (m - en)
       (case measure=>omega)
       case rel =>
        have HG3:=HG2.out;(rw[show en - 1=en' from by have:=HEP.out;omega] at HG3);have hsz:w.heap.size≤gk:=hgk;have hs10:w8.heap.size≤w10.heap.size:=Nat.le_trans HK9.out.1 HK10.out.1;have hs8:wr.heap.size≤w8.heap.size:=HB8.out.size;have hq8:=far_keep HQ4.out HB8.out;have p1:=blk_neA hq8 (HC.out.below HB8.out hwz).blk.choose_spec (by decide);have p2:=blk_neA hq8 (HC.out.below HB8.out hwz).blks.choose_spec (by decide);have hq10:=HK10.out.2 _ _ _ _ p1 p2 (HK9.out.2 _ _ _ _ p1 p2 hq8 (by decide)) (by decide);have p3:=blk_neA hq10 hk10c (by decide);have p4:=blk_neA HQ10.out hk10c (by decide);(have hsc:(w10.setCell ⟨gk,0,none⟩ (.int .i64 (en':Int))).heap.size=w10.heap.size:=by simp[World.setCell]);have hal:Below (w10.setCell ⟨gk,0,none⟩ (.int .i64 (en':Int))).heap.size (w10.setCell ⟨gk,0,none⟩ (.int .i64 (en':Int))) ((w10.setCell ⟨gk,0,none⟩ (.int .i64 (en':Int))).alloc (.cells #[.int .i64 ((en':Int)+1)] 3)):=(Below.refl _ _).alloc (Nat.le_refl _) _;have hbk:=blk_new (w10.setCell ⟨gk,0,none⟩ (.int .i64 (en':Int))) (.cells #[.int .i64 ((en':Int)+1)] 3);(rw[hsc] at hbk);refine⟨en,w10.heap.size,r,_,rfl,by omega,by omega,⟨HG3⟩,⟨by rw[hbk,HEP.out];rfl⟩,by have:=HC.out.lt;omega,by omega,⟨(HC10.out.setbox hk10c hne hsz _).below hal (by rw[hsc];omega)⟩,⟨far_keep (set_keepA hq10 p3 _) hal⟩,⟨by rw[← HN.out];exact far_keep (set_keepA HQ10.out p4 _) hal⟩,by show ((colK ms en').map (· + 1)).length=n;rw[List.length_map,colK,List.length_map,HN.out],?_⟩;have c1:=cutOut_len true (k:Int) (en:Int) (colK ms k) ((colK ms en').map (· + 1)) (cutOut false st.1 (k:Int) st.2.1 (colK ms k) st.2.2);have c2:=cutOut_len false st.1 (k:Int) st.2.1 (colK ms k) st.2.2;show (cutOut true (k:Int) (en:Int) (colK ms k) ((colK ms en').map (· + 1)) (cutOut false st.1 (k:Int) st.2.1 (colK ms k) st.2.2)).length≤2 * en;omega
    ·
     (have hkm:k=m:=by omega);subst hkm;have g1:decide ((k:Int) < (k:Int))=false:=decide_eq_false (by omega);have hst:=HG.out;(rw[alignGo_end] at hst)
     have hF:Aside0 (alignF k sizes ms=cutOut false st.1 (k:Int) st.2.1 sizes st.2.2):=⟨by
      rw[alignF,HN.out,HFIN.out,← hst];rfl⟩
     obtain⟨cs1,hc1'⟩:=HC.out.blk;obtain⟨cs2,hc2'⟩:=HC.out.blks;have p1:=blk_neA HQ4.out hc1' (by decide);have p2:=blk_neA HQ4.out hc2' (by decide);have hq4:=HQ4.out;(rw[← HN1.out] at hq4);have hwg:w.heap.size≤wz.heap.size:=HBr.out.size;have hto:=cut_toF 77 _ Tryz.func77 (by kernel_rfl) rfl #[.pointer (some ⟨w.heap.size,0,none⟩)] w wr w.heap.size (wz.heap.size+1) wz.heap.size false st.1 (k:Int) st.2.1 sizes st.2.2 HC.out rfl (by rw[hsl,HN1.out]) (by omega) (by omega) (fun W' hW i hi=>align_at4 w.heap.size A1 c1 sizes i W' (cell_blk ((hW.2 _ (blk_lt hq4) p1 p2).trans hq4) rfl) ((Kd.heap_int _).C (fun j hj=>(hW.2 j (Nat.lt_of_lt_of_le hj HBw.out.size) (by omega) (by omega)).trans (HBw.out.block j hj)) HR1.out) (by rw[HN1.out,← hsl];exact hi));have HTO:=Aside0.mk hto;clear hto hst hc1' hc2' hq4;(go_wp2_with fail);refine HTO.out.mono ?_;rintro e w10 ⟨rfl,HC10,HK10⟩;obtain⟨vo,j1,j2,j3,j4,j5,j6⟩:=HC10.out;have c2:w10.cell? ⟨wz.heap.size+1,2,none⟩=some vo:=cell_blk j1 rfl;have J5:=Aside0.mk j5;have J6:=Aside0.mk j6;clear j1 j3 j5 j6;go_wp2;go_ret2;exact⟨vo,rfl,by rw[hF.out];exact J5.out,J6.out⟩
theorem mx_le {a b:Int} (h:a≤b):mx a b=b:=by unfold mx;split <;> omega
theorem mx_ge {a b:Int} (h:b≤a):mx a b=a:=by unfold mx;split <;> omega
theorem may_fits_l0 {p ss:List ByteArray} {ms:List Int} (hm:ms.length≤1000000) : ∀ (r i k lo:Nat),i+r=ms.length→r+1≤k→Fits p (ms.drop i) (ss.drop i) lo→align_may.l0 k ms (ms.length:Int) (p.length:Int) ((lo:Int) - 1) ms (ms.length:Int) (i:Int)=some true
 | 0,i,k+1,lo,hi,hk,hF=>by
  rw[align_may.l0,if_neg (by omega),if_pos rfl];simp
 | r+1,i,k+1,lo,hi,hk,hF=>by
  (have hil:i < ms.length:=by omega)
  have hsl:i < ss.length:=by
   have:=hF.len;(rw[List.length_drop,List.length_drop] at this);omega
  (rw[dropCons hil,dropCons hsl] at hF);rw[align_may.l0,if_pos (by omega),if_pos (by omega),if_pos (by omega),rdN hil,gw1 (by omega)]
  rcases hF with ⟨h,hF⟩|⟨q,h,h1,h2,h3⟩
  (· rw[h,if_neg (by omega),if_neg (by omega),if_neg (by omega),mx_ge (by omega)];exact may_fits_l0 hm r (i+1) k lo (by omega) (by omega) hF);(· have hq:=(List.getElem?_eq_some_iff.1 h2).1;rw[h,if_neg (by omega),if_neg (by omega),if_pos (by omega),if_neg (by omega),mx_le (by omega)];have:=may_fits_l0 hm r (i+1) k (q+1) (by omega) (by omega) h3;(rw[show (((q+1:Nat):Int) - 1)=(q:Int) by omega] at this);exact this)
theorem may_fits {p ss:List ByteArray} {ms:List Int} (hm:ms.length≤1000000) (hF:Fits p ms ss 0) (k:Nat) (hk:ms.length+1≤k):align_may.f k ms (ms.length:Int) (p.length:Int)=some true:=by
 have:=may_fits_l0 hm ms.length 0 k 0 (by omega) hk hF;exact this
theorem rdK (l:List Int) (k:Nat):rd l (k:Int)=l.getD k 0:=by simp[rd]
theorem rdLK {ms:List (List Int)} {i:Nat} (h:i < ms.length):rd_L16 ms (i:Int)=ms[i]:=getN h
theorem stable_cons (x:List Int) (r:List (List Int)) (k:Nat):stableB (x :: r) k=(decide (0≤x.getD k 0) && stableB r k):=rfl
def ValsIn (ms:List (List Int)):Prop := ∀ l ∈ ms,∀ i, -1≤l.getD i 0∧l.getD i 0≤1000000
section
variable {ms:List (List Int)} {m k:Nat}
theorem ref_stable05_l0 (hl:AllLen ms m) (hv:ValsIn ms) (hk:k < m) (hn:ms.length≤1000000) : ∀ (r i:Nat),i+r=ms.length→Gives (fun K=>sennitref05_stable.l0 K ms (k:Int) (i:Int)) (stableB (ms.drop i) k)
 | 0,i,hi=>Gives.of fun K=>by
  show sennitref05_stable.l0 (K+1) ms (k:Int) (i:Int)=_;(rw[sennitref05_stable.l0,if_neg (by omega),List.drop_of_length_le (by omega)];rfl)
 | r+1,i,hi=>by
  (have hil:i < ms.length:=by omega);have hlen:ms[i].length=m:=hl _ (List.getElem_mem hil);have hvi:=hv _ (List.getElem_mem hil) k;rw[dropCons hil,stable_cons]
  by_cases e:ms[i].getD k 0 = -1
  (· (refine Gives.of fun K=>?_);show sennitref05_stable.l0 (K+1) ms (k:Int) (i:Int)=_;(rw[sennitref05_stable.l0,if_pos (by omega),if_pos (by omega),if_pos (by omega),rdLK hil,if_pos (by omega),rdK,if_pos e,decide_eq_false (by omega)];rfl));(· (refine(ref_stable05_l0 hl hv hk hn r (i+1) (by omega)).eq (by rw[decide_eq_true (by omega),Bool.true_and]) |>.step fun K=>?_);show sennitref05_stable.l0 (K+1) ms (k:Int) (i:Int)=_;rw[sennitref05_stable.l0,if_pos (by omega),if_pos (by omega),if_pos (by omega),rdLK hil,if_pos (by omega),rdK,if_neg e,gw1 (by omega)])
theorem ref_stable05 (hl:AllLen ms m) (hv:ValsIn ms) (hk:k < m) (hn:ms.length≤1000000):Gives (fun K=>sennitref05_stable.f K ms (k:Int)) (stableB ms k):=by
 (refine(ref_stable05_l0 hl hv hk hn ms.length 0 (by omega)).same fun K=>?_);show sennitref05_stable.f K ms (k:Int)=_;(rw[sennitref05_stable.f];rfl)
def nextB (ms:List (List Int)) (k:Nat):Bool:=ms.all (fun l=>decide (l.getD k 0=l.getD (k - 1) 0+1))
theorem next_cons (x:List Int) (r:List (List Int)) (k:Nat):nextB (x :: r) k=(decide (x.getD k 0=x.getD (k - 1) 0+1) && nextB r k):=rfl
def togB (ms:List (List Int)) (k:Nat):Bool:=decide (0 < k) && stableB ms (k - 1) && nextB ms k
theorem ref_tog05_l0 (hl:AllLen ms m) (hv:ValsIn ms) (hk:k < m) (hm:m≤1000000) (h0:0 < k) (hn:ms.length≤1000000) : ∀ (r i:Nat),i+r=ms.length→Gives (fun K=>sennitref05_together.l0 K ms (k:Int) (i:Int)) (nextB (ms.drop i) k)
 | 0,i,hi=>Gives.of fun K=>by
  show sennitref05_together.l0 (K+1) ms (k:Int) (i:Int)=_;(rw[sennitref05_together.l0,if_neg (by omega),List.drop_of_length_le (by omega)];rfl)
 | r+1,i,hi=>by
  (have hil:i < ms.length:=by omega);have hlen:ms[i].length=m:=hl _ (List.getElem_mem hil);have hvi:=hv _ (List.getElem_mem hil) (k - 1);(have ek:wrap64 ((k:Int) - 1)=((k - 1:Nat):Int):=by rw[gw (by omega) (by omega)];omega);have ev:wrap64 (ms[i].getD (k - 1) 0+1)=ms[i].getD (k - 1) 0+1:=gw (by omega) (by omega);rw[dropCons hil,next_cons]
  by_cases e:ms[i].getD k 0=ms[i].getD (k - 1) 0+1
  (· (refine(ref_tog05_l0 hl hv hk hm h0 hn r (i+1) (by omega)).eq (by rw[decide_eq_true e,Bool.true_and]) |>.step fun K=>?_);show sennitref05_together.l0 (K+1) ms (k:Int) (i:Int)=_;rw[sennitref05_together.l0,if_pos (by omega),if_pos (by omega),if_pos (by omega),rdLK hil,if_pos (by omega),ek,if_pos (by omega),if_pos (by omega),rdK,rdK,ev,if_pos e,gw1 (by omega)]);(· (refine Gives.of fun K=>?_);show sennitref05_together.l0 (K+1) ms (k:Int) (i:Int)=_;(rw[sennitref05_together.l0,if_pos (by omega),if_pos (by omega),if_pos (by omega),rdLK hil,if_pos (by omega),ek,if_pos (by omega),if_pos (by omega),rdK,rdK,ev,if_neg e,decide_eq_false e];rfl))
theorem ref_tog05 (hl:AllLen ms m) (hv:ValsIn ms) (hk:k < m) (hm:m≤1000000) (hn:ms.length≤1000000):Gives (fun K=>sennitref05_together.f K ms (k:Int)) (togB ms k):=by
 have hno:Gives (fun K=>sennitref05_together.j0 K ms (k:Int) true) false:=Gives.of fun K=>by
  show sennitref05_together.j0 (K+1) ms (k:Int) true=_;rw[sennitref05_together.j0,if_pos rfl]
 by_cases h0:k=0
 (· (have e:togB ms k=false:=by rw[togB,decide_eq_false (by omega)];rfl);rw[e];(refine hno.same fun K=>?_);show sennitref05_together.f K ms (k:Int)=_;rw[sennitref05_together.f,if_pos (by omega)])
 ·
  (have ek:wrap64 ((k:Int) - 1)=((k - 1:Nat):Int):=by rw[gw (by omega) (by omega)];omega);have hs:=ref_stable05 (k:=k - 1) hl hv (by omega) hn
  cases hb:stableB ms (k - 1) with
  | false =>
   (rw[hb] at hs);(have e:togB ms k=false:=by rw[togB,hb,Bool.and_false];rfl);rw[e];(refine Gives.call0 hs hno fun K hK=>?_);show sennitref05_together.f K ms (k:Int)=_;(rw[sennitref05_together.f,if_neg (by omega),ek,hK,Option.bind_some];rfl)
  | true =>
   (rw[hb] at hs);(have e:togB ms k=nextB ms k:=by rw[togB,hb,decide_eq_true (by omega)];simp);rw[e];have hgo:=ref_tog05_l0 hl hv hk hm (by omega) hn ms.length 0 (by omega);(refine Gives.call0 hs (hgo.step (f:=fun K=>sennitref05_together.j0 K ms (k:Int) false) fun K=>?_) fun K hK=>?_);(· show sennitref05_together.j0 (K+1) ms (k:Int) false=_;(rw[sennitref05_together.j0,if_neg (by decide)];rfl));(· show sennitref05_together.f K ms (k:Int)=_;(rw[sennitref05_together.f,if_neg (by omega),ek,hK,Option.bind_some];rfl))
def placesR (ms:List (List Int)) (k:Nat) (more:Int):List Int:=ms.map (fun l=>l.getD k 0+more)
theorem placesR_len (ms:List (List Int)) (k:Nat) (more:Int):(placesR ms k more).length=ms.length:=by rw[placesR,List.length_map]
theorem ref_places05 (hl:AllLen ms m) (hv:ValsIn ms) (hk:k < m) (hn:ms.length≤1000000) (more:Int) (h0:0≤more) (h1:more≤1):Gives (fun K=>sennitref05_places.f K ms (k:Int) more) (placesR ms k more):=by
 have key : ∀ (r i:Nat),i+r=ms.length→Gives (fun K=>sennitref05_places.l0 K ms (k:Int) more (placesR (ms.take i) k more) (i:Int)) (placesR ms k more):=by
  intro r
  induction r with
  | zero =>
   intro i hi;(refine Gives.of fun K=>?_);show sennitref05_places.l0 (K+1) ms (k:Int) more _ (i:Int)=_;rw[sennitref05_places.l0,if_neg (by omega),List.take_of_length_le (by omega)]
  | succ r ih =>
   intro i hi;(have hil:i < ms.length:=by omega);have hlen:ms[i].length=m:=hl _ (List.getElem_mem hil);have hvi:=hv _ (List.getElem_mem hil) k;(have hlp:(placesR (ms.take i) k more).length=i:=by rw[placesR_len,List.length_take];omega);(have e:placesR (ms.take (i+1)) k more=placesR (ms.take i) k more ++ [ms[i].getD k 0+more]:=by rw[placesR,← List.take_append_getElem hil,List.map_append];rfl);have:=ih (i+1) (by omega);(rw[e] at this);(refine this.step fun K=>?_);show sennitref05_places.l0 (K+1) ms (k:Int) more _ (i:Int)=_;rw[sennitref05_places.l0,if_pos (by omega),if_pos (by omega),if_pos (by omega),rdLK hil,if_pos (by omega),if_pos (by rw[hlp];omega),rdK,gw (by omega) (by omega),gw1 (by omega)]
 (refine(key ms.length 0 (by omega)).same fun K=>?_);show sennitref05_places.f K ms (k:Int) more=_;(rw[sennitref05_places.f];rfl)
end
def endsOf (l:List Spanx) (n:Nat):List Int:=if l=[] then List.replicate n 0 else l.map (·.f1)
theorem endsOf_len {l:List Spanx} {n:Nat} (h:l=[]∨l.length=n):(endsOf l n).length=n:=by
 rw[endsOf];split;(· exact List.length_replicate);(· rename_i h1;rw[List.length_map];exact h.resolve_left h1)
def chunkR (last:Chunk) (base:Int) (sides:List Int):Chunk:=⟨false,⟨last.f1.f1,base⟩,spansF (endsOf last.f2 sides.length) sides (endsOf last.f2 sides.length).length⟩
theorem chunkR_len (last:Chunk) (base:Int) {sides:List Int} {n:Nat} (hs:sides.length=n) (h:last.f2=[]∨last.f2.length=n):(chunkR last base sides).f2.length=n:=by
 subst hs;show (spansF _ _ _).length=_;rw[spansF_len (by rw[endsOf_len h]) (Nat.le_refl _),endsOf_len h]
theorem ref_chunk05 (last:Chunk) (base:Int) (sides:List Int) (h:last.f2=[]∨last.f2.length=sides.length) (hn:sides.length≤1000000) :
    Gives (fun K=>sennitref05_chunk.f K last.f0 last.f1.f0 last.f1.f1 last.f2 base sides) ((chunkR last base sides).f0,(chunkR last base sides).f1.f0,(chunkR last base sides).f1.f1,(chunkR last base sides).f2):=by
 have hE:=endsOf_len h;obtain⟨E,hEE⟩ : ∃ E,endsOf last.f2 sides.length=E:=⟨_,rfl⟩
 have key : ∀ (r i:Nat),i+r=sides.length→Gives (fun K=>sennitref05_chunk.l0 K sides (i:Int) last.f0 last.f1.f0 last.f1.f1 last.f2 false last.f1.f1 base (spansF E sides i)) (false,last.f1.f1,base,spansF E sides E.length):=by
  (rw[hEE] at hE);intro r
  induction r with
  | zero =>
   intro i hi;(refine Gives.of fun K=>?_);show sennitref05_chunk.l0 (K+1) sides (i:Int) last.f0 last.f1.f0 last.f1.f1 last.f2 false last.f1.f1 base (spansF E sides i)=_;rw[sennitref05_chunk.l0,if_neg (by omega),show i=E.length by omega]
  | succ r ih =>
   intro i hi;have:=ih (i+1) (by omega);(rw[spansF_succ (by omega) (by omega)] at this);(refine this.step fun K=>?_);show sennitref05_chunk.l0 (K+1) sides (i:Int) last.f0 last.f1.f0 last.f1.f1 last.f2 false last.f1.f1 base (spansF E sides i)=_;have hsp:(spansF E sides i).length=i:=spansF_len (by omega) (by omega);rw[sennitref05_chunk.l0,if_pos (by omega)]
   by_cases h0:last.f2=[]
   ·
    have eE:E.getD i 0=0:=by
     rw[← hEE,endsOf,if_pos h0,List.getD_eq_getElem?_getD,List.getElem?_replicate];(split <;> rfl)
    rw[if_neg (by rw[h0];decide),if_pos (by omega),if_pos (by rw[hsp];omega),gw1 (by omega),eE,rdK]
   ·
    have hlen:last.f2.length=sides.length:=h.resolve_left h0
    have eE:E.getD i 0=(rd_T45 last.f2 (i:Int)).f1:=by
     (have hi2:i < last.f2.length:=by omega);have e1:rd_T45 last.f2 (i:Int)=last.f2[i]'hi2:=getN hi2;(have e2:endsOf last.f2 sides.length=last.f2.map (·.f1):=by rw[endsOf,if_neg h0]);rw[e1,← hEE,e2,getD_get (by rw[List.length_map];exact hi2),List.getElem_map]
    rw[if_pos (by omega),if_pos (by omega),if_pos (by omega),if_pos (by rw[hsp];omega),gw1 (by omega),eE,rdK]
 (have h0:spansF E sides 0=[]:=by rw[spansF,List.take_zero]);have:=key sides.length 0 (by omega);(rw[h0] at this);(refine(this.eq (by rw[chunkR,hEE])).same fun K=>?_);show sennitref05_chunk.f K last.f0 last.f1.f0 last.f1.f1 last.f2 base sides=_;(rw[sennitref05_chunk.f];rfl)
def emptyB (c:Chunk):Bool := !(decide (c.f1.f0 < c.f1.f1) || c.f2.any (fun s=>decide (s.f0 < s.f1)))
theorem ref_empty05 (c:Chunk) (hn:c.f2.length≤1000000):Gives (fun K=>sennitref05_Empty.f K c.f0 c.f1.f0 c.f1.f1 c.f2) (emptyB c):=by
 have key : ∀ (r i:Nat) (x:Bool),i+r=c.f2.length→Gives (fun K=>sennitref05_Empty.l0 K x (i:Int) c.f0 c.f1.f0 c.f1.f1 c.f2) (!(x || (c.f2.drop i).any (fun s=>decide (s.f0 < s.f1)))):=by
  intro r
  induction r with
  | zero =>
   intro i x hi;(refine Gives.of fun K=>?_);show sennitref05_Empty.l0 (K+1) x (i:Int) c.f0 c.f1.f0 c.f1.f1 c.f2=_;rw[sennitref05_Empty.l0,if_neg (by omega),List.drop_of_length_le (by omega),List.any_nil,Bool.or_false]
  | succ r ih =>
   intro i x hi;(have hil:i < c.f2.length:=by omega);have e1:rd_T45 c.f2 (i:Int)=c.f2[i]:=getN hil;rw[dropCons hil,List.any_cons]
   cases x with
   | true =>
    (refine((ih (i+1) true (by omega)).eq (by rw[Bool.true_or,Bool.true_or])).step fun K=>?_);show sennitref05_Empty.l0 (K+1) true (i:Int) c.f0 c.f1.f0 c.f1.f1 c.f2=_;rw[sennitref05_Empty.l0,if_pos (by omega),if_pos rfl,gw1 (by omega)]
   | false =>
    (refine((ih (i+1) (decide (c.f2[i].f0 < c.f2[i].f1)) (by omega)).eq (by rw[Bool.false_or])).step fun K=>?_);show sennitref05_Empty.l0 (K+1) false (i:Int) c.f0 c.f1.f0 c.f1.f1 c.f2=_;rw[sennitref05_Empty.l0,if_pos (by omega),if_neg (by decide),if_pos (by omega),e1,gw1 (by omega)]
 (refine(key c.f2.length 0 (decide (c.f1.f0 < c.f1.f1)) (by omega)).same fun K=>?_);show sennitref05_Empty.f K c.f0 c.f1.f0 c.f1.f1 c.f2=_;(rw[sennitref05_Empty.f];rfl)
def joinR (a b:Chunk):Chunk:=⟨a.f0,⟨a.f1.f0,b.f1.f1⟩,List.zipWith (fun x y=>(⟨x.f0,y.f1⟩:Spanx)) a.f2 b.f2⟩
theorem joinR_len {a b:Chunk} {n:Nat} (ha:a.f2.length=n) (hb:b.f2.length=n):(joinR a b).f2.length=n:=by
 show (List.zipWith _ _ _).length=_;rw[List.length_zipWith,ha,hb,Nat.min_self]
theorem ref_longer05 (a b:Chunk) (h:a.f2.length=b.f2.length) (hn:a.f2.length≤1000000) :
    Gives (fun K=>sennitref05_longer.f K a.f0 a.f1.f0 a.f1.f1 a.f2 b.f0 b.f1.f0 b.f1.f1 b.f2) ((joinR a b).f0,(joinR a b).f1.f0,(joinR a b).f1.f1,(joinR a b).f2):=by
 obtain⟨Z,hZ⟩ : ∃ Z,List.zipWith (fun x y=>(⟨x.f0,y.f1⟩:Spanx)) a.f2 b.f2=Z:=⟨_,rfl⟩;(have hZl:Z.length=a.f2.length:=by rw[← hZ,List.length_zipWith,h,Nat.min_self])
 have key : ∀ (r i:Nat),i+r=a.f2.length→Gives (fun K=>sennitref05_longer.l0 K (i:Int) a.f0 a.f1.f0 a.f1.f1 a.f2 b.f0 b.f1.f0 b.f1.f1 b.f2 a.f0 a.f1.f0 b.f1.f1 (Z.take i)) (a.f0,a.f1.f0,b.f1.f1,Z):=by
  intro r
  induction r with
  | zero =>
   intro i hi;(refine Gives.of fun K=>?_);show sennitref05_longer.l0 (K+1) (i:Int) a.f0 a.f1.f0 a.f1.f1 a.f2 b.f0 b.f1.f0 b.f1.f1 b.f2 a.f0 a.f1.f0 b.f1.f1 (Z.take i)=_;rw[sennitref05_longer.l0,if_neg (by omega),List.take_of_length_le (by omega)]
  | succ r ih =>
   intro i hi;(have hil:i < Z.length:=by omega);have e0:rd_T45 a.f2 (i:Int)=a.f2[i]:=getN (by omega);have e1:rd_T45 b.f2 (i:Int)=b.f2[i]:=getN (by omega)
   have e2:Z[i]=⟨a.f2[i].f0,b.f2[i].f1⟩:=by
    simp only[← hZ,List.getElem_zipWith]
   have:=ih (i+1) (by omega);(rw[← List.take_append_getElem hil,e2] at this);(refine this.step fun K=>?_);show sennitref05_longer.l0 (K+1) (i:Int) a.f0 a.f1.f0 a.f1.f1 a.f2 b.f0 b.f1.f0 b.f1.f1 b.f2 a.f0 a.f1.f0 b.f1.f1 (Z.take i)=_;rw[sennitref05_longer.l0,if_pos (by omega),if_pos (by omega),if_pos (by omega),if_pos (by rw[List.length_take];omega),e0,e1,gw1 (by omega)]
 have:=key a.f2.length 0 (by omega);(rw[List.take_zero] at this);(refine(this.eq (by rw[joinR,hZ])).same fun K=>?_);show sennitref05_longer.f K a.f0 a.f1.f0 a.f1.f1 a.f2 b.f0 b.f1.f0 b.f1.f1 b.f2=_;(rw[sennitref05_longer.f];rfl)
theorem ref_may05 {ms:List (List Int)} {sizes:List Int} {m:Nat} (hn:sizes.length=ms.length) (h1:1≤ms.length) (h2:ms.length≤16) (hl:AllLen ms m) (hmay : ∀ i (h:i < ms.length),Gives (fun K=>sennitref04_May.f K ms[i] (sizes.getD i 0)) true):Gives (fun K=>sennitref05_may.f K (m:Int) sizes ms) true:=by
 have key : ∀ (r i:Nat),i+r=ms.length→Gives (fun K=>sennitref05_may.l0 K (m:Int) sizes ms (i:Int)) true:=by
  intro r
  induction r with
  | zero =>
   intro i hi;(refine Gives.of fun K=>?_);show sennitref05_may.l0 (K+1) (m:Int) sizes ms (i:Int)=_;rw[sennitref05_may.l0,if_neg (by omega)]
  | succ r ih =>
   intro i hi;(have hil:i < ms.length:=by omega);have hlen:ms[i].length=m:=hl _ (List.getElem_mem hil);(refine Gives.call (hmay i hil) (ih (i+1) (by omega)) fun K hK=>?_);show sennitref05_may.l0 (K+1) (m:Int) sizes ms (i:Int)=_;rw[sennitref05_may.l0,if_pos (by omega),if_pos (by omega),rdLK hil,if_pos (by omega),if_pos (by omega),rdK,hK,Option.bind_some,if_pos rfl,gw1 (by omega)]
 (refine((key ms.length 0 (by omega)).step (f:=fun K=>sennitref05_may.j0 K (m:Int) sizes ms false) fun K=>?_).same fun K=>?_);(· show sennitref05_may.j0 (K+1) (m:Int) sizes ms false=_;(rw[sennitref05_may.j0,if_neg (by decide)];rfl));(· show sennitref05_may.f K (m:Int) sizes ms=_;rw[sennitref05_may.f,if_neg (by omega),if_neg (by omega),hn,bne_self_eq_false])
theorem race_disable (w:World):(callFunc 135 #[]).run Tryz.prog w = .ok (.value (.tuple #[])) w:=run_call_mark0 Tryz.func135 (by kernel_rfl) (by kernel_rfl) (by kernel_rfl) .disable (by kernel_rfl) w
theorem race_enable (w:World):(callFunc 137 #[]).run Tryz.prog w = .ok (.value (.tuple #[])) w:=run_call_mark0 Tryz.func137 (by kernel_rfl) (by kernel_rfl) (by kernel_rfl) .enable (by kernel_rfl) w
theorem race_acquire (a:Addr) (w:World):(callFunc 138 #[.pointer (some a)]).run Tryz.prog w = .ok (.value (.tuple #[])) w:=run_call_marked Tryz.func138 (by kernel_rfl) (by kernel_rfl) (by kernel_rfl) .acquire (by kernel_rfl) a w
theorem race_releaseMerge (a:Addr) (w:World):(callFunc 140 #[.pointer (some a)]).run Tryz.prog w = .ok (.value (.tuple #[])) w:=run_call_marked Tryz.func140 (by kernel_rfl) (by kernel_rfl) (by kernel_rfl) .releaseMerge (by kernel_rfl) a w
theorem store_deferred (a:Addr) (x:Value) (u:FrameMode) (w:World) (hc:w.cell? a=some x) (hz:w.frozen? a=false) :
    CallsD Tryz.prog 125 #[.pointer (some a), .bool true] u w fun e u' w'=>u'=u∧(e = .returned (.tuple #[])∧w'=w.drew.setCell a (.int .u32 1)):=by
 (have hc':w.drew.cell? a=some x:=by go_simp);(have hz':w.drew.frozen? a=false:=by go_simp);have hst:=run_call_store (P:=Tryz.prog) Tryz.func132 (by kernel_rfl) (by kernel_rfl) (by kernel_rfl) (by kernel_rfl) (k := .u32) (y:=1) hc' hz'
 go_enter_d Tryz.func125,Tryz.ntmps125
 go_wp2
 go_region_calls
 (all_goals (go_end0;exact⟨rfl,rfl⟩))
theorem unlock_deferred (a:Addr) (u:FrameMode) (w:World) (hc:w.cell? a=some (.int .i32 1)) (hz:w.frozen? a=false) :
    CallsD Tryz.prog 124 #[.pointer (some a)] u w fun e u' w'=>u'=u∧(e = .returned (.tuple #[])∧w'=w.setCell a (.int .i32 0)):=by
 have hd:=race_disable;have he:=race_enable;have hr:=race_releaseMerge;have hadd:=run_call_add (P:=Tryz.prog) Tryz.func141 (by kernel_rfl) (by kernel_rfl) (by kernel_rfl) .i32 (by kernel_rfl) (y := -1) (s:=0) hc hz (by simp[go_sem];rfl);have hcv:=run_convert_to_unsafe (P:=Tryz.prog) (src:=188) (dst:=192) Tryz.underlying188 Tryz.underlying192 (by kernel_rfl) hc
 go_enter_d Tryz.func124,Tryz.ntmps124
 go_wp2;go_end0;go_wp2;(all_goals (go_end0;exact⟨rfl,rfl⟩))
theorem lock_free (a:Addr) (w:World) (hc:w.cell? a=some (.int .i32 0)) (hz:w.frozen? a=false) :
    Calls Tryz.prog 123 #[.pointer (some a)] w fun e w'=>e = .returned (.tuple #[])∧w'=w.setCell a (.int .i32 1):=by
 have hd:=race_disable;have he:=race_enable;have ha:=race_acquire;have hcas:=run_call_cas_hit (P:=Tryz.prog) Tryz.func136 (by kernel_rfl) (by kernel_rfl) (by kernel_rfl) .i32 (by kernel_rfl) (y:=1) hc hz;have hc':(w.setCell a (.int .i32 1)).cell? a=some (.int .i32 1):=World.cell?_setCell_same w a _ hc;have hcv:=run_convert_to_unsafe (P:=Tryz.prog) (src:=188) (dst:=192) Tryz.underlying188 Tryz.underlying192 (by kernel_rfl) hc';go_enter Tryz.func123,Tryz.ntmps123;go_wp2;(first|go_end0|(simp only[Exit.inBlock,Exit.then];refine bodyPost_ret (results_none rfl _ _ _) rfl ?_)|refine bodyPost_ret (results_none rfl _ _ _) rfl ?_);go_wp2;(all_goals (go_end0;exact⟨rfl,rfl⟩))
theorem bool_load (a:Addr) (d:Int) (w:World) (h0:w.cell? a=some (.int .u32 d)):Calls Tryz.prog 109 #[.pointer (some a)] w fun e w'=>e = .returned (.bool (d != 0))∧w'=w:=by
 have hl:=run_call_load (P:=Tryz.prog) Tryz.func122 (by kernel_rfl) (by kernel_rfl) (by kernel_rfl) .u32 (by kernel_rfl) h0;go_enter Tryz.func109,Tryz.ntmps109;go_wp2;go_ret;exact⟨rfl,rfl⟩
set_option maxHeartbeats 1600000 in
theorem once_slow (g:Nat) (Aa Ab:Option Addr) (ca cb:Nat) (a b:List Int) (w:World)
    (hg:w.heap[g]? = some (.cells (pairCells (.slice Aa a.length ca) (.slice Ab b.length cb) (.slice none 0 0) 0 0) 119 (0,0)))
    (ha:Kd.F (Kd.int .i64) w (fun k=>k≠g) Aa a.length a) (hb:Kd.F (Kd.int .i64) w (fun k=>k≠g) Ab b.length b) (hla:a.length≤2000) (hlb:b.length≤2000) :
    Calls Tryz.prog 110 #[.pointer (some ⟨g,2,none⟩), .func (.func 97) #[.pointer (some ⟨g,0,none⟩)] #[]] w fun e w'=>e = .returned (.tuple #[]) ∧
      (∃ gs:Nat,w.heap.size≤gs∧w'.heap[g]? = some (.cells (pairCells (.slice Aa a.length ca) (.slice Ab b.length cb) (.slice (some ⟨gs,0,none⟩) (a.length * b.length) (a.length * b.length)) 1 (lcsL a b:Int)) 119 (0,0))∧NumsAt .u8 w' 5 gs (stepsOf a b))∧w.grownBy w' (some g):=by
  have Hg:=Aside0.mk hg
  have Ha:=Aside0.mk ha
  have Hb:=Aside0.mk hb
  have h2:w.cell? ⟨g,2,none⟩=some (.int .u32 0):=cell_blk hg rfl
  have h3:w.cell? ⟨g,3,none⟩=some (.int .i32 0):=cell_blk hg rfl
  have z3:w.frozen? ⟨g,3,none⟩=false:=blk_frozen hg _
  have HL:(w.setCell ⟨g,3,none⟩ (.int .i32 1)).cell? ⟨g,2,none⟩=some (.int .u32 0):=(World.cell?_setCell_other _ ⟨g,3,none⟩ ⟨g,2,none⟩ _ (by simp)).trans h2
  have hnot : ∀ (x:Bool) (w:World),(Op.unary .not (.bool x)).run Tryz.prog w = .ok (.bool (!x)) w:=fun _ _=>rfl
  clear hg ha hb
  go_enter_defers Tryz.func110,Tryz.ntmps110
  go_wp2_with (go_at_call 123;refine(lock_free ⟨g,3,none⟩ _ (by go_simp) (by go_simp)).mono ?_;rintro e w' ⟨rfl,rfl⟩)
  refine(bool_load ⟨g,2,none⟩ 0 _ HL).mono ?_
  rintro e w1 ⟨rfl,rfl⟩
  have hq:((0:Int) != 0)=false:=rfl
  rw[hq]
  go_wp2_with fail
  refine(reckon_calls g 0 Aa Ab ca cb (.int .u32 0) (.int .i32 1) (.int .u32 0) a b _ (by rw[heap_set_same Hg.out];rfl) (Kd.F_step Ha.out (fun k hk _=>heap_set_other hk _)) (Kd.F_step Hb.out (fun k hk _=>heap_set_other hk _)) hla hlb).mono ?_
  rintro e w1 ⟨rfl,⟨gs,q1,q2,q3⟩,q4⟩
  have Q2:=Aside0.mk q2
  have Q3:=Aside0.mk q3
  have Q4:=Aside0.mk q4
  clear q2 q3 q4
  go_wp2_with fail
  go_wp2
  have f2:w1.cell? ⟨g,2,none⟩=some (.int .u32 0):=cell_blk Q2.out rfl
  have fz2:w1.frozen? ⟨g,2,none⟩=false:=blk_frozen Q2.out _
  refine leaves_cons (f:=125) (args:=#[.pointer (some ⟨g,2,none⟩), .bool true]) (by simp) (by simp[go_sem]) ?_
  refine(store_deferred ⟨g,2,none⟩ (.int .u32 0) .returning _ f2 fz2).mono ?_
  rintro e u' w'' ⟨rfl,rfl,rfl⟩
  refine leaves_cons (f:=124) (args:=#[.pointer (some ⟨g,3,none⟩)]) (by simp[settle]) (by simp[go_sem]) ?_
  have Q5:(w1.drew.setCell ⟨g,2,none⟩ (.int .u32 1)).heap[g]? = some (.cells (pairCells (.slice Aa a.length ca) (.slice Ab b.length cb) (.slice (some ⟨gs,0,none⟩) (a.length * b.length) (a.length * b.length)) 1 (lcsL a b:Int) |>.set! 3 (.int .i32 1)) 119 (0,0)):=by
    rw[heap_set_same (show w1.drew.heap[g]? = _ from Q2.out)]
    rfl
  refine(unlock_deferred ⟨g,3,none⟩ _ _ (cell_blk Q5 rfl) (blk_frozen Q5 _)).mono ?_
  rintro e u' w'' ⟨rfl,rfl,rfl⟩
  refine⟨.tuple #[],by simp[settle,results,Tryz.results110],rfl,⟨gs,?_,?_,?_⟩,?_⟩
  · simpa using q1
  · rw[heap_set_same Q5]
    rfl
  · refine nums_other (nums_other ?_ ?_ _) ?_ _
    · exact Q3.out
    · have:=blk_lt Hg.out;simp at q1;omega
    · have:=blk_lt Hg.out;simp at q1;omega
  · exact grown_then (grown_set (World.grownBy.refl _ _) _ _) (grown_then Q4.out (grown_set (grown_set (grown_drewN (World.grownBy.refl _ _) 1) _ _) _ _))
def PairState (W:World) (g:Nat) (a b:List Int) (d:Int) (st:Value) (long:Int):Prop :=
  (d=0∧st = .slice none 0 0∧long=0)∨(d=1∧long=lcsL a b ∧ ∃ As cs,st = .slice As (a.length * b.length) cs∧Kd.F (Kd.int .u8) W (fun k=>k≠g) As (a.length * b.length) (stepsOf a b))
def PairIn (W:World) (g:Nat) (a b:List Int) (d:Int):Prop :=
  ∃ Aa ca Ab cb st long,W.heap[g]? = some (.cells (pairCells (.slice Aa a.length ca) (.slice Ab b.length cb) st d long) 119 (0,0)) ∧
    Kd.F (Kd.int .i64) W (fun k=>k≠g) Aa a.length a∧Kd.F (Kd.int .i64) W (fun k=>k≠g) Ab b.length b∧a.length≤2000∧b.length≤2000∧PairState W g a b d st long
theorem R_int_at {k:IntKind} {W:World} {g base:Nat} {e:TypeId} {xs:List Int} {ok:Nat→Prop} (h:W.heap[g]? = some (.cells (xs.map (Value.int k)).toArray e (0,0))) (hb:base≤g) (hl:xs.length≤maxLen) (ho:ok g) :
    Kd.R (Kd.int k) e W base ok (.slice (some ⟨g,0,none⟩) xs.length xs.length) xs :=
  ⟨fun j hj => by have : g = j := by simpa [Value.ownBlock] using hj
                  exact this ▸ ho,(R_int_of_cells h hb hl).2⟩
theorem stepsOf_length (a b:List Int):(stepsOf a b).length=a.length * b.length:=by simp[stepsOf]
theorem PairIn.step {W W1:World} {g:Nat} {a b:List Int} {d:Int} (h:PairIn W g a b d) (hm : ∀ k,k < W.heap.size→W1.heap[k]? = W.heap[k]?):PairIn W1 g a b d:=by
 obtain⟨Aa,ca,Ab,cb,st,long,h1,h2,h3,h4,h5,h6⟩:=h;refine⟨Aa,ca,Ab,cb,st,long,(hm g (blk_lt h1)).trans h1,Kd.F_step h2 (fun k _ hk=>hm k hk),Kd.F_step h3 (fun k _ hk=>hm k hk),h4,h5,?_⟩
 rcases h6 with h6|⟨e1,e2,As,cs,e3,e4⟩
 (· exact .inl h6);(· exact .inr ⟨e1,e2,As,cs,e3,Kd.F_step e4 (fun k _ hk=>hm k hk)⟩)
theorem PairIn.below {W W1:World} {g:Nat} {a b:List Int} {d:Int} (h:PairIn W g a b d) (hb:Below W.heap.size W W1):PairIn W1 g a b d:=h.step hb.block
theorem PairIn.of_new {W:World} {base g:Nat} {a b:List Int} (h:IsPair W base g a b) : ∃ d,PairIn W g a b d:=by
 obtain⟨hg,sa,sb,st,d,long,h1,h2,h3,h4,h5,h6⟩:=h;obtain⟨Aa,ca,rfl⟩:=Kd.R_slice h2;obtain⟨Ab,cb,rfl⟩:=Kd.R_slice h3;refine⟨d,Aa,ca,Ab,cb,st,long,h1,Kd.R_F h2,Kd.R_F h3,h4,h5,?_⟩
 rcases h6 with h6|⟨e1,e2,e3⟩
 (· exact .inl h6);(· obtain⟨As,cs,e⟩:=Kd.R_slice e2;subst e;(rw[stepsOf_length] at e2 ⊢);exact .inr ⟨e1,e3,As,cs,rfl,Kd.R_F e2⟩)
theorem below_grown {N:Nat} {w W W2:World} {g:Nat} (h:Below N w W) (k:W.grownBy W2 (some g)) (hg:N≤g) (hN:N≤W.heap.size):Below N w W2 :=
  h.grown k hN (fun j hj => by have : g = j := by simpa using hj
                               omega)
set_option maxHeartbeats 1600000 in
theorem once_Do (g:Nat) (a b:List Int) (d:Int) (w:World) (h:PairIn w g a b d) :
    Calls Tryz.prog 96 #[.pointer (some ⟨g,2,none⟩), .func (.func 97) #[.pointer (some ⟨g,0,none⟩)] #[]] w fun e w'=>e = .returned (.tuple #[])∧PairIn w' g a b 1∧w.grownBy w' (some g):=by
 have H:=Aside0.mk h;obtain⟨Aa,ca,Ab,cb,st,long,h1,h2,h3,h4,h5,h6⟩:=h;(have hnot : ∀ (x:Bool) (w:World),(Op.unary .not (.bool x)).run Tryz.prog w = .ok (.bool (!x)) w:=fun _ _=>rfl);have hc:w.cell? ⟨g,2,none⟩=some (.int .u32 d):=cell_blk h1 rfl;have H1:=Aside0.mk h1;have H2:=Aside0.mk h2;have H3:=Aside0.mk h3;have H6:=Aside0.mk h6;clear h1 h2 h3 h6;go_enter Tryz.func96,Tryz.ntmps96;(go_wp2_with fail);refine(bool_load ⟨g,2,none⟩ d _ hc).mono ?_;rintro e w1 ⟨rfl,he⟩;obtain rfl:=he.symm;clear he
 rcases H6.out with ⟨e1,e2,e3⟩|⟨e1,e2,As,cs,e3,e4⟩
 (· (subst e1;subst e2;subst e3);have hq:((0:Int) != 0)=false:=rfl;rw[hq];(go_wp2_with fail);refine(once_slow g Aa Ab ca cb a b _ H1.out H2.out H3.out h4 h5).mono ?_;rintro e w1 ⟨rfl,⟨gs,q1,q2,q3⟩,q4⟩;have Q2:=Aside0.mk q2;have Q3:=Aside0.mk q3;have Q4:=Aside0.mk q4;clear q2 q3 q4;(go_wp2_with fail);go_end0;have hlt:=blk_lt H1.out;(have hne : ∀ k,k≠g→k < w.heap.size→w1.heap[k]? = w.heap[k]? := fun k hk hs=>Q4.out.block k hs (fun e=>hk (Option.some.inj e)));refine⟨rfl,⟨Aa,ca,Ab,cb,_,_,Q2.out,Kd.F_step H2.out hne,Kd.F_step H3.out hne,h4,h5, .inr ⟨rfl,rfl,some ⟨gs,0,none⟩,a.length * b.length,rfl,?_⟩⟩,Q4.out⟩;have hr:=R_int_at (base:=0) (ok:=fun k=>k≠g) Q3.out (Nat.zero_le _) (by rw[stepsOf_length];have:=Nat.mul_le_mul h4 h5;simp only[maxLen];omega) (by omega);(rw[stepsOf_length] at hr);exact Kd.R_F hr);(· subst e1;have hq:((1:Int) != 0)=true:=rfl;rw[hq];(go_wp2_with fail);go_end0;exact⟨rfl,H.out,World.grownBy.refl _ _⟩)
set_option maxHeartbeats 1600000 in
theorem pair_Len (g:Nat) (a b:List Int) (d:Int) (w:World) (h:PairIn w g a b d) :
    Calls Tryz.prog 69 #[.pointer (some ⟨g,0,none⟩)] w fun e w'=>e = .returned (.int .i64 (lcsL a b:Int))∧PairIn w' g a b 1∧w.grownBy w' (some g):=by
 (have hmf : ∀ (fn:Fn) (first cap:Array Value) (w:World),(Instr.makeFunc fn first cap).run Tryz.prog w = .ok (.func fn first cap) w:=fun _ _ _ _=>rfl);have H:=Aside0.mk h;clear h;go_enter Tryz.func69,Tryz.ntmps69;(go_wp2_with fail);refine(once_Do g a b d _ H.out).mono ?_;rintro e w1 ⟨rfl,q1,q2⟩;have Q1:=Aside0.mk q1;have Q2:=Aside0.mk q2;clear q1 q2
 have c4:w1.cell? ⟨g,6,none⟩=some (.int .i64 (lcsL a b:Int)):=by
  obtain⟨Aa,ca,Ab,cb,st,long,h1,h2,h3,h4,h5,h6⟩:=Q1.out
  rcases h6 with ⟨e1,_⟩|⟨_,e2,_⟩
  (· cases e1);(· subst e2;exact cell_blk h1 rfl)
 (go_wp2_with fail);go_ret;exact⟨rfl,Q1.out,Q2.out⟩
def MatchAt (a b:List Int) (i j:Nat) (L:List Int):Prop := ∃ P:List Int,P.length=i∧L=P ++ List.replicate (a.length - i) (-1)∧P ++ matchFrom (a.drop i) (b.drop j) j=matchOf a b
section
variable {a b L:List Int} {i j:Nat}
theorem MatchAt.start:MatchAt a b 0 0 (List.replicate a.length (-1)):=⟨[],rfl,by simp,by simp[matchOf]⟩
theorem MatchAt.done (h:MatchAt a b i j L) (hi:i≤a.length) (hd : ¬ (i < a.length∧j < b.length)):L=matchOf a b:=by
 obtain⟨P,h1,h2,h3⟩:=h;rw[← h3,h2]
 congr 1
 by_cases hx:i < a.length
 (· have:b.drop j=[]:=List.drop_eq_nil_of_le (by omega);rw[this,matchFrom_rest];simp);(· have:a.drop i=[]:=List.drop_eq_nil_of_le (by omega);rw[this,matchFrom_nil];(simp;omega))
theorem MatchAt.len (h:MatchAt a b i j L) (hi:i≤a.length):L.length=a.length:=by
 obtain⟨P,h1,h2,h3⟩:=h;(rw[h2];simp;omega)
theorem step_cases (hi:i < a.length) (hj:j < b.length) :
    (stepAt (a.drop i) (b.drop j)=0∧matchFrom (a.drop i) (b.drop j) j=(j:Int) :: matchFrom (a.drop (i+1)) (b.drop (j+1)) (j+1)) ∨
    (stepAt (a.drop i) (b.drop j)=1∧matchFrom (a.drop i) (b.drop j) j = -1 :: matchFrom (a.drop (i+1)) (b.drop j) j) ∨
    (stepAt (a.drop i) (b.drop j)=2∧matchFrom (a.drop i) (b.drop j) j=matchFrom (a.drop i) (b.drop (j+1)) (j+1)):=by
 have ha:=drop_cons' (List.getElem?_eq_getElem hi);have hb:=drop_cons' (List.getElem?_eq_getElem hj);rw[ha,hb,matchFrom_cons,stepAt]
 by_cases e:a[i]=b[j]
 (· exact .inl ⟨by rw[if_pos e],by rw[if_pos e]⟩)
 ·
  by_cases e2:lcsL (a[i] :: a.drop (i+1)) (b.drop (j+1))≤lcsL (a.drop (i+1)) (b[j] :: b.drop (j+1))
  (· exact .inr (.inl ⟨by rw[if_neg e,if_pos e2],by rw[if_neg e,if_pos e2,← hb]⟩));(· exact .inr (.inr ⟨by rw[if_neg e,if_neg e2],by rw[if_neg e,if_neg e2,← ha]⟩))
theorem MatchAt.same (h:MatchAt a b i j L) (hi:i < a.length) (e:matchFrom (a.drop i) (b.drop j) j=(j:Int) :: matchFrom (a.drop (i+1)) (b.drop (j+1)) (j+1)):MatchAt a b (i+1) (j+1) (L.set i j):=by
 obtain⟨P,h1,h2,h3⟩:=h;refine⟨P ++ [(j:Int)],by simp[h1],?_,by rw[← h3,e];simp⟩;subst h1;rw[h2,List.set_append_right _ _ (Nat.le_refl _),Nat.sub_self];obtain⟨r,hr⟩ : ∃ r,a.length - P.length=r+1:=⟨a.length - P.length - 1,by omega⟩;rw[hr,show a.length - (P.length+1)=r by omega];simp[List.replicate_succ]
theorem MatchAt.old (h:MatchAt a b i j L) (hi:i < a.length) (e:matchFrom (a.drop i) (b.drop j) j = -1 :: matchFrom (a.drop (i+1)) (b.drop j) j):MatchAt a b (i+1) j L:=by
 obtain⟨P,h1,h2,h3⟩:=h;refine⟨P ++ [(-1:Int)],by simp[h1],?_,by rw[← h3,e];simp⟩;subst h1;rw[h2];obtain⟨r,hr⟩ : ∃ r,a.length - P.length=r+1:=⟨a.length - P.length - 1,by omega⟩;rw[hr,show a.length - (P.length+1)=r by omega];simp[List.replicate_succ]
theorem MatchAt.fresh (h:MatchAt a b i j L) (e:matchFrom (a.drop i) (b.drop j) j=matchFrom (a.drop i) (b.drop (j+1)) (j+1)):MatchAt a b i (j+1) L:=by
 obtain⟨P,h1,h2,h3⟩:=h;exact⟨P,h1,h2,by rw[← h3,e]⟩
theorem steps_get (hi:i < a.length) (hj:j < b.length):(stepsOf a b)[i * b.length+j]? = some (stepAt (a.drop i) (b.drop j)):=by
 simp[stepsOf,place_lt hi hj,place_div hj]
end
theorem addr_add0 (g i:Nat):(⟨g,0,none⟩:Addr).add i=⟨g,i,none⟩:=by
 unfold Addr.add;(split <;> simp_all)
theorem R_blk {k:IntKind} {W:World} {base e n c:Nat} {ok:Nat→Prop} {A:Option Addr} {L:List Int} (h:Kd.R (Kd.int k) e W base ok (.slice A n c) L) (hn:0 < n) : ∃ gm cur,A=some ⟨gm,0,none⟩∧base≤gm∧W.heap[gm]? = some (.cells cur e (0,0)):=by
 obtain⟨_,inner,ho,_⟩:=h
 rcases ho.2 with ⟨hv,_⟩|⟨g,cap,cur,hv,hg,hh,_⟩
 (· (cases hv;omega));(· cases hv;exact⟨g,cur,rfl,hg,hh⟩)
set_option maxHeartbeats 4000000 in
theorem pair_Match (g:Nat) (a b:List Int) (d:Int) (w:World) (h:PairIn w g a b d) :
    Calls Tryz.prog 37 #[.pointer (some ⟨g,0,none⟩)] w fun e w' => ∃ v0_:Value,e = .returned v0_∧Kd.R (Kd.int .i64) 3 w' w.heap.size (fun _=>True) v0_ (matchOf a b)∧PairIn w' g a b 1∧w.grownBy w' (some g):=by
 have H:=Aside0.mk h;clear h;go_enter Tryz.func37,Tryz.ntmps37;(go_wp2_with fail);refine(pair_Len g a b d _ H.out).mono ?_;rintro e w1 ⟨rfl,q1,q2⟩;have Q1:=Aside0.mk q1;have Q2:=Aside0.mk q2;clear q1 q2;obtain⟨Aa,ca,Ab,cb,st,long,h1,h2,h3,h4,h5,h6⟩:=Q1.out;(obtain⟨e1,_⟩|⟨_,e2,As,cs,e3,h6⟩:=h6);(· cases e1);(subst e2;subst e3);have H1:=Aside0.mk h1;have H6:=Aside0.mk h6;clear h1 h2 h3 h6;have cA:(w1.alloc (.cells #[.int .i64 (-1)] 3)).cell? ⟨g,0,none⟩=some (.slice Aa a.length ca):=cell_alloc_of (cell_blk H1.out rfl) _;obtain⟨q,hq⟩ : ∃ q,((lcsL a b:Int) == 0)=q:=⟨_,rfl⟩;cases q
 all_goals
  (go_wp2_with fail);refine(slices_Repeat_one ⟨w1.heap.size,0,none⟩ 1 (-1) a.length _ (by simp) h4).mono ?_;rintro e w2 ⟨vm,rfl,ho,hb⟩;obtain⟨Am,cm,rfl⟩:=Kd.R_slice ho;have HB:Aside0 (Below w1.heap.size w1 w2):=Aside0.mk ((below_alloc (Below.refl _ _) _).trans (hb.mono (by simp)));have HO:Aside0 (Kd.R (Kd.int .i64) 3 w2 w1.heap.size (fun _=>True) (.slice Am (List.replicate a.length (-1:Int)).length cm) (List.replicate a.length (-1:Int))):=Aside0.mk (Kd.R_lower ho (by simp));clear ho hb cA;rw[List.length_replicate];(go_wp2_with fail)
  go_loopw [4,5] (fun s1 s2 W => ∃ (i j:Nat) (L:List Int),s1 = .int .i64 i∧s2 = .int .i64 j∧i≤a.length∧j≤b.length∧Aside0 (MatchAt a b i j L)∧Aside0 (Kd.R (Kd.int .i64) 3 W w1.heap.size (fun _=>True) (.slice Am a.length cm) L)∧Aside0 (Below w1.heap.size w1 W)) (fun s1 s2 _=>a.length+b.length - (intOf s1).toNat - (intOf s2).toNat)
  (case atStart=>exact⟨0,0,_,rfl,rfl,Nat.zero_le _,Nat.zero_le _,⟨MatchAt.start⟩,by rw[List.length_replicate] at HO;exact HO,HB⟩)
  case round =>
   obtain⟨i,j,L,rfl,rfl,hi,hj,HM,HL,HW⟩:=hrel;clear HO HB;have P1:=Aside0.mk ((HW.out.block g (blk_lt H1.out)).trans H1.out);have cA:wr.cell? ⟨g,0,none⟩=some (.slice Aa a.length ca):=cell_blk P1.out rfl;have cB:wr.cell? ⟨g,1,none⟩=some (.slice Ab b.length cb):=cell_blk P1.out rfl;have cS:wr.cell? ⟨g,5,none⟩=some (.slice As (a.length * b.length) cs):=cell_blk P1.out rfl
   by_cases hlt:i < a.length∧j < b.length
   ·
    obtain⟨hi',hj'⟩:=hlt;have b1:decide ((i:Int) < (a.length:Int))=true:=decide_eq_true (by omega);have b2:decide (i < a.length)=true:=decide_eq_true (by omega);have b3:decide ((j:Int) < (b.length:Int))=true:=decide_eq_true (by omega);have b4:decide (j < b.length)=true:=decide_eq_true (by omega);have hst:=step_cases hi' hj';have hsg:=steps_get hi' hj';obtain⟨sv,hsv⟩ : ∃ sv,stepAt (a.drop i) (b.drop j)=sv:=⟨_,rfl⟩;(rw[hsv] at hst hsg);have HST:=Aside0.mk hst;clear hst hsv;have hij:=place_lt hi' hj'
    obtain⟨ads,rfl,k1⟩ : ∃ ad,As=some ad∧wr.cell? (ad.add (i * b.length+j))=some (.int .u8 sv):=by
     obtain⟨ad,e,hc⟩:=Kd.at_int (Kd.F_now (Kd.F_below H6.out HW.out)) ((i * b.length+j:Nat):Int) (by omega) (by omega);refine⟨ad,e,?_⟩;(rw[Int.toNat_natCast] at hc);rw[hc,rd,List.getD_eq_getElem?_getD,Int.toNat_natCast,hsg];rfl
    have p1:(i:Int) * (b.length:Int)+(j:Int) < (a.length:Int) * (b.length:Int):=by
     (rw[← Int.natCast_mul,← Int.natCast_mul];omega)
    (have p0:0≤(i:Int) * (b.length:Int):=by rw[← Int.natCast_mul];omega);(have p2:((i:Int) * (b.length:Int)+(j:Int)).toNat=i * b.length+j:=by rw[← Int.natCast_mul];omega);have pm:=Nat.mul_le_mul h4 h5;have w1_:IntKind.i64.wrap ((i:Int) * (b.length:Int))=(i:Int) * (b.length:Int):=IntWalk.i64_in _ (by rw[← Int.natCast_mul] at p1 ⊢;rw[← Int.natCast_mul] at p1;omega);have w2_:IntKind.i64.wrap ((i:Int) * (b.length:Int)+(j:Int))=(i:Int) * (b.length:Int)+(j:Int):=IntWalk.i64_in _ (by rw[← Int.natCast_mul] at p1 ⊢;rw[← Int.natCast_mul] at p1;omega);clear hsg hij pm;go_wp2
    go_quiet (fail)
    obtain⟨wd,hwd⟩ : ∃ wd,wd=wr.drewN nq:=⟨_,rfl⟩;rw[← hwd];have HLd:=Aside0.mk (Kd.R_drewN HL.out nq);have HWd:Aside0 (Below w1.heap.size w1 (wr.drewN nq)):=Aside0.mk ((HW.out).trans (pw_below_drewN (Below.refl _ _) nq));(rw[← hwd] at HLd HWd);clear hwd HL HW P1 cA cB cS k1 b1 b2 b3 b4 p0 p1 p2 w1_ w2_
    rcases HST.out with ⟨e1,e2⟩|⟨e1,e2⟩|⟨e1,e2⟩
    ·
     subst e1;have E2:=Aside0.mk e2;clear e2 HST;obtain⟨gm,cur,rfl,hgm,hbm⟩:=R_blk HLd.out (by omega)
     have cm_:wd.cell? ⟨gm,i,none⟩=some (.int .i64 (rd L i)):=by
      obtain⟨_,_,hC⟩:=Kd.R_reads' HLd.out;obtain⟨ad,e,hc⟩:=Kd.at_int hC (i:Int) (by omega) (by rw[HM.out.len hi];omega);cases e;(rw[Int.toNat_natCast] at hc)
      rwa [addr_add0] at hc
     have zm_:wd.frozen? ⟨gm,i,none⟩=false:=blk_frozen hbm _;have bi:decide ((i:Int) < (a.length:Int))=true:=decide_eq_true (by omega);have bi2:decide (i < a.length)=true:=decide_eq_true (by omega);clear hbm;go_wp2;go_roundw;(case measure=>simp[intOf];omega)
     case rel =>
      refine⟨i+1,j+1,L.set i j,by simp,by simp,by omega,by omega,⟨HM.out.same hi' E2.out⟩,⟨?_⟩,⟨HWd.out.setCell hgm _⟩⟩;have h:=Kd.R_putn HLd.out (i:Int) (j:Int)
      rwa [Int.toNat_natCast] at h
    (· subst e1;have E2:=Aside0.mk e2;clear e2 HST;go_wp2;go_roundw;(case measure=>simp[intOf];omega);(case rel=>exact⟨i+1,j,L,by simp,rfl,by omega,by omega,⟨HM.out.old hi' E2.out⟩,HLd,HWd⟩));(· subst e1;have E2:=Aside0.mk e2;clear e2 HST;go_wp2;go_roundw;(case measure=>simp[intOf];omega);(case rel=>exact⟨i,j+1,L,rfl,by simp,by omega,by omega,⟨HM.out.fresh E2.out⟩,HLd,HWd⟩))
   ·
    have Hlt:=Aside0.mk hlt
    by_cases hi':i < a.length
    (· have b1:decide ((i:Int) < (a.length:Int))=true:=decide_eq_true (by omega);have b2:decide (i < a.length)=true:=decide_eq_true (by omega);have b3:decide ((j:Int) < (b.length:Int))=false:=decide_eq_false (by omega);have b4:decide (j < b.length)=false:=decide_eq_false (by omega);clear hlt;go_wp2;go_ret;have hL:=HM.out.done hi Hlt.out;subst hL;have hs:=Q2.out.size;refine⟨_,rfl,Kd.R_lower HL.out hs,Q1.out.below HW.out,grown_then Q2.out (grown_of_below HW.out _)⟩);(· have b1:decide ((i:Int) < (a.length:Int))=false:=decide_eq_false (by omega);have b2:decide (i < a.length)=false:=decide_eq_false (by omega);clear hlt;go_wp2;go_ret;have hL:=HM.out.done hi Hlt.out;subst hL;have hs:=Q2.out.size;refine⟨_,rfl,Kd.R_lower HL.out hs,Q1.out.below HW.out,grown_then Q2.out (grown_of_below HW.out _)⟩)
theorem IsPair.step {W W1:World} {base g:Nat} {a b:List Int} (h:IsPair W base g a b) (hm : ∀ k,base≤k→k < W.heap.size→W1.heap[k]? = W.heap[k]?):IsPair W1 base g a b:=by
 obtain⟨hg,sa,sb,st,d,long,h1,h2,h3,h4,h5,h6⟩:=h;refine⟨hg,sa,sb,st,d,long,(hm g hg (blk_lt h1)).trans h1,Kd.R_mono (Kd.R_step (Kd.R_bound h2) (fun k hk hlt=>hm k hk.2.1 hlt)) (fun k hk=>hk.1),Kd.R_mono (Kd.R_step (Kd.R_bound h3) (fun k hk hlt=>hm k hk.2.1 hlt)) (fun k hk=>hk.1),h4,h5,?_⟩
 rcases h6 with h6|⟨e1,e2,e3⟩
 (· exact .inl h6);(· exact .inr ⟨e1,Kd.R_mono (Kd.R_step (Kd.R_bound e2) (fun k hk hlt=>hm k hk.2.1 hlt)) (fun k hk=>hk.1),e3⟩)
theorem fits_bounds {p:List ByteArray} : ∀ {ms:List Int} {ss:List ByteArray} {lo:Nat},Fits p ms ss lo → ∀ m ∈ ms, -1≤m∧m < (p.length:Int)
 | [],_,_,_,m,hm=>by cases hm
 | x :: ms,[],_,h,m,hm=>by cases h
 | x :: ms,s :: ss,lo,h,m,hm=>by
  rcases h with ⟨h,hF⟩|⟨q,h,h1,h2,h3⟩
  ·
   rcases List.mem_cons.1 hm with rfl|hm
   (· omega);(· exact fits_bounds hF m hm)
  ·
   rcases List.mem_cons.1 hm with rfl|hm
   (· (have:=(List.getElem?_eq_some_iff.1 h2).1;omega));(· exact fits_bounds h3 m hm)
theorem matchS_bounds (a b:List ByteArray) (i:Nat) (hb:b.length≤1000000) : -1≤(matchS a b).getD i 0∧(matchS a b).getD i 0≤1000000:=by
 by_cases h:i < (matchS a b).length
 (· rw[getD_get h];have:=fits_bounds (matchS_fits a b) _ (List.getElem_mem h);omega);(· (rw[List.getD_eq_getElem?_getD,List.getElem?_eq_none (by omega)];simp))
def matchesF (base:List ByteArray) (sides:List (List ByteArray)):List (List Int):=sides.map (matchS base)
def sizesF (sides:List (List ByteArray)):List Int:=sides.map (fun s=>(s.length:Int))
def chunksF (base:List ByteArray) (sides:List (List ByteArray)):List Chunk × Int :=
  if wrongF mayL (base :: sides)≠0 then ([],wrongF mayL (base :: sides)) else (alignF base.length (sizesF sides) (matchesF base sides),0)
def chunksOk (base:List ByteArray) (sides:List (List ByteArray)):Bool:=decide (base.length≤1000000∧sides.length≤1000 ∧ ∀ l ∈ base :: sides,l.length≤1000000 ∧ ∀ s ∈ l,s.size≤1000000000)
def merge_Chunks.f (l0:List ByteArray) (l1:List (List ByteArray)):Option (List Chunk × Int):=if chunksOk l0 l1=true then some (chunksF l0 l1) else none
theorem wrongF_zero {may:List ByteArray→Bool} {fs:List (List ByteArray)} (h:wrongF may fs=0):2≤fs.length∧fs.length≤17∧(∀ l ∈ fs,may l=true) ∧ ∀ l ∈ fs,l.length≤2000:=by
 (unfold wrongF at h);(split at h);(· omega)
 ·
  rename_i h1;(split at h);(· omega)
  ·
   rename_i h2;(split at h);(· omega)
   ·
    rename_i h3;refine⟨by omega,by omega,fun l hl=>?_,fun l hl=>?_⟩
    ·
     cases hm:may l with
     | true=>rfl
     | false=>exact absurd (List.any_eq_true.2 ⟨l,hl,by rw[hm];rfl⟩) h2
    ·
     rcases Nat.lt_or_ge 2000 l.length with hlt|hge
     (· exact absurd (List.any_eq_true.2 ⟨l,hl,decide_eq_true hlt⟩) h3);(· exact hge)
theorem total_le {n m:Nat} : ∀ {fs:List (List ByteArray)},fs.length≤n→(∀ l ∈ fs,l.length≤m)→total fs≤n * m:=by
 intro fs
 induction fs generalizing n with
 | nil=>intro _ _;simp[total]
 | cons l fs ih =>
  intro hn hm;obtain⟨n',rfl⟩ : ∃ n',n=n'+1:=⟨n - 1,by simp at hn;omega⟩;have h1:=ih (n:=n') (by simpa using hn) (fun x hx=>hm x (List.mem_cons_of_mem _ hx));have h2:=hm l List.mem_cons_self;rw[Nat.add_mul,Nat.one_mul];(simp only[total,List.map_cons,List.sum_cons] at h1 ⊢);omega
theorem sizesF_len (l1:List (List ByteArray)):(sizesF l1).length=l1.length:=by rw[sizesF,List.length_map]
theorem matchesF_len (l0:List ByteArray) (l1:List (List ByteArray)):(matchesF l0 l1).length=l1.length:=by rw[matchesF,List.length_map]
theorem matchesF_all (l0:List ByteArray) (l1:List (List ByteArray)):AllLen (matchesF l0 l1) l0.length:=fun l hl=>by
  obtain⟨s,_,rfl⟩:=List.mem_map.1 hl
  exact matchS_length _ _
theorem matchesF_bounds (l0:List ByteArray) (l1:List (List ByteArray)) (h : ∀ k (h:k < l1.length),l1[k].length≤2000) : ∀ l ∈ matchesF l0 l1,∀ i, -1≤l.getD i 0∧l.getD i 0≤1000000:=fun l hl i=>by
  obtain⟨s,hs,rfl⟩:=List.mem_map.1 hl
  obtain⟨q,hq,rfl⟩:=List.mem_iff_getElem.1 hs
  exact matchS_bounds _ _ _ (by have:=h q hq;omega)
theorem matchesF_may (l0:List ByteArray) (l1:List (List ByteArray)) (h0:l0.length≤2000) : ∃ k,∀ i (h:i < (matchesF l0 l1).length),align_may.f k (matchesF l0 l1)[i] (l0.length:Int) ((sizesF l1).getD i 0)=some true:=by
 obtain⟨K,hK⟩ : ∃ K,K=l0.length+1:=⟨_,rfl⟩;refine⟨K,fun i hi=>?_⟩;(have hi':i < l1.length:=by rw[← matchesF_len l0];exact hi);have e1:(matchesF l0 l1)[i]=matchS l0 l1[i]:=List.getElem_map _
 have e2:(sizesF l1).getD i 0=(l1[i].length:Int):=by
  rw[getD_get (by rw[sizesF_len];exact hi')];exact List.getElem_map _
 have h3:=may_fits (p:=l1[i]) (ss:=l0) (ms:=matchS l0 l1[i]) (by rw[matchS_length];omega) (matchS_fits l0 l1[i]) K (by rw[matchS_length,hK];exact Nat.le_refl _);rw[e1,e2];(have e3:((matchS l0 l1[i]).length:Int)=(l0.length:Int):=by rw[matchS_length]);(rw[e3] at h3);exact h3
theorem merge_Chunks.calls (A0:Option Addr) (c0:Nat) (l0:List ByteArray) (A1:Option Addr) (c1:Nat) (l1:List (List ByteArray)) (r1:List Chunk) (r2:Int) (w:World) (hr0:Kd.C Kd.string w A0 l0.length l0) (hc0:l0.length≤c0) (hr1:Kd.C (Kd.slice 9 Kd.string) w A1 l1.length l1) (hc1:l1.length≤c1) (h:merge_Chunks.f l0 l1=some (r1,r2)) :
    Calls Tryz.prog 15 #[.slice A0 l0.length c0, .slice A1 l1.length c1] w fun e w' => ∃ v0_:Value,e = .returned (.tuple #[v0_, .int .i64 r2])∧Kd.S k48 48 w' w.heap.size (fun _=>True) v0_ r1∧Below w.heap.size w w':=by
 have HR0:=Aside0.mk hr0;have HC0:=Aside0.mk hc0;have HR1:=Aside0.mk hr1;have HC1:=Aside0.mk hc1;clear hr0 hc0 hr1 hc1;(unfold merge_Chunks.f at h);(split at h)
 ·
  rename_i hf;replace h:=Option.some.inj h;have hf1:=of_decide_eq_true hf;(have hm : ∀ l ∈ l0 :: l1,Gives (fun k=>lines_May.f k l) (mayL l):=fun l hl=>may_gives l (by have:=(hf1.2.2 l hl).1;omega) (fun s hs=>by have:=(hf1.2.2 l hl).2 s hs;omega));have hN:l1.length≤1000:=hf1.2.1;have hn:l0.length≤1000000:=hf1.1;have HM:=Aside0.mk hm;have HF1:=Aside0.mk hf1.2.2;clear hm hf1 hf;have HT:=Aside0.mk h;clear h;go_enter Tryz.func15,Tryz.ntmps15;(go_wp2_with fail);obtain⟨w1,hw1⟩ : ∃ w1,(w.alloc (.cells #[.slice A0 l0.length c0] 22)).alloc (.cells #[.slice (some ⟨w.heap.size,0,none⟩) 1 1, .slice A1 l1.length c1] 23)=w1:=⟨_,rfl⟩;(have hb1:Below w.heap.size w w1:=by rw[← hw1];exact((Below.refl _ w).alloc (Nat.le_refl _) _).alloc (by simp) _);(have q0:w1.heap[w.heap.size]? = some (.cells #[.slice A0 l0.length c0] 22 (0,0)):=by rw[← hw1,heap_alloc_old _ _ (by simp)];exact blk_new _ _);(have q1:w1.heap[w.heap.size+1]? = some (.cells #[.slice (some ⟨w.heap.size,0,none⟩) 1 1, .slice A1 l1.length c1] 23 (0,0)):=by rw[← hw1];have:=blk_new (w.alloc (.cells #[.slice A0 l0.length c0] 22)) (.cells #[.slice (some ⟨w.heap.size,0,none⟩) 1 1, .slice A1 l1.length c1] 23);simpa using this);rw[hw1];have k0:KS.K w1 l0 [.slice A0 l0.length c0]:=⟨A0,c0,rfl,HC0.out,Kd.C_below HR0.out hb1⟩;have kk0:(Kd.slice 22 KS).K w1 [l0] [.slice (some ⟨w.heap.size,0,none⟩) 1 1]:=⟨_,1,rfl,Nat.le_refl _,C_blk (d:=KS) (xs:=[l0]) (inner:=[.slice A0 l0.length c0]) q0 (Reps.one k0 (Reps.none _ _)) (by simp)⟩;have kk1:(Kd.slice 22 KS).K w1 l1 [.slice A1 l1.length c1]:=⟨A1,c1,rfl,HC1.out,Kd.C_below HR1.out hb1⟩;have hC:=C_blk (d:=Kd.slice 22 KS) (xs:=[[l0],l1]) (inner:=[.slice (some ⟨w.heap.size,0,none⟩) 1 1, .slice A1 l1.length c1]) q1 (Reps.one kk0 (Reps.one kk1 (Reps.none _ _))) (by simp);refine(concat_lists _ 2 [[l0],l1] w1 hC (by simp) (by simp) (by simp;omega)).mono ?_;rintro e w2 ⟨v2,rfl,HR2,HB2⟩;obtain⟨A2,c2,rfl,hc2,hC2⟩:=R_held_reads HR2.out HB2.out;(have hfl:([[l0],l1]:List (List (List ByteArray))).flatten=l0 :: l1:=by simp);obtain⟨fs,hfs⟩ : ∃ fs,l0 :: l1=fs:=⟨_,rfl⟩;(rw[hfl,hfs] at hc2 hC2 ⊢);have HFS:=Aside0.mk hfs;(have hfl1:fs.length=l1.length+1:=by rw[← hfs];rfl);have HFL:=Aside0.mk hfl1;(rw[hfs] at HM HF1);have HB2':Aside0 (Below w.heap.size w w2):=⟨far_ hb1 HB2.out⟩;have HC2:=Aside0.mk hC2;have Hc2:=Aside0.mk hc2;clear hw1 hb1 q0 q1 k0 kk0 kk1 hC HR2 HB2 hfl hc2 hC2 hfs hfl1;(go_wp2_with fail);refine(wrong_calls mayL A2 c2 fs w2 HM.out (fun l hl=>by have:=(HF1.out l hl).1;omega) HC2.out Hc2.out (by rw[HFL.out];omega)).mono ?_;rintro e w3' ⟨rfl,n3,rfl⟩;obtain⟨w3,hw3⟩ : ∃ w3,w2.drewN n3=w3:=⟨_,rfl⟩;have HB3:Aside0 (Below w.heap.size w w3):=⟨by rw[← hw3];exact pw_below_drewN HB2'.out n3⟩;have HC3:Aside0 (KS.C w3 A2 fs.length fs):=⟨by rw[← hw3];exact Kd.C_drewN HC2.out n3⟩;rw[hw3];have hT:=HT.out;(rw[chunksF,HFS.out] at hT);obtain⟨cde,hcde⟩ : ∃ c,wrongF mayL fs=c:=⟨_,rfl⟩;(rw[hcde] at hT ⊢);have HCDE:=Aside0.mk hcde;clear hw3 hcde
  by_cases hc:cde=0
  ·
   subst hc;(rw[if_neg (fun h=>h rfl)] at hT);obtain⟨e1,e2⟩:=Prod.mk.inj hT;have HR1e:=Aside0.mk e1;subst e2;clear hT e1 HT;obtain⟨hz1,hz2,_,hz4⟩:=wrongF_zero HCDE.out;(rw[HFL.out] at hz1 hz2)
   have htot:total fs≤1000000:=by
    have:=total_le (n:=17) (m:=2000) (fs:=fs) (by rw[HFL.out];exact hz2) hz4;omega
   have HIDS:Aside0 (intern_All.f fs=some (idsAll fs)):=⟨by
    rw[intern_All.f,if_pos ⟨by rw[HFL.out];omega,htot,fun l hl s hs=>by have:=(HF1.out l hl).2 s hs;unfold maxLen;omega⟩]⟩
   have HIM:Aside0 (idsAll fs=fs.map (fun l=>l.map (num (tabOf [] fs)))):=⟨idsAll_map fs⟩;(go_wp2_with fail);refine(intern_All.calls A2 c2 fs (idsAll fs) w3 HC3.out Hc2.out HIDS.out).mono ?_;rintro e w4 ⟨v4,rfl,hs4,hb4⟩;(rw[HIM.out] at hs4);obtain⟨ids,hids⟩ : ∃ ids,fs.map (fun l=>l.map (num (tabOf [] fs)))=ids:=⟨_,rfl⟩;(rw[hids] at hs4);(have hidl:ids.length=l1.length+1:=by rw[← hids,List.length_map,HFL.out]);obtain⟨gi,ci,rfl,hgi,hgis,icells,hic⟩:=Kd.S_form hs4 (by omega);have HCI:Aside0 (KI.C w4 (some ⟨gi,0,none⟩) ids.length ids):=⟨(Kd.S_reads' hs4).2.2⟩;have HIDL:=Aside0.mk hidl;(have hci:l1.length+1≤ci:=by have:=(Kd.S_reads' hs4).2.1;omega);have HB4:Aside0 (Below w.heap.size w w4):=⟨far_ HB3.out hb4⟩;have HLE:Aside0 (l0.length≤2000 ∧ ∀ k (h:k < l1.length),l1[k].length≤2000):=⟨hz4 l0 (by rw[← HFS.out];simp),fun k h=>hz4 _ (by rw[← HFS.out];exact List.mem_cons_of_mem _ (List.getElem_mem h))⟩
   have HIDG:Aside0 (∀ k,k < fs.length→ids.getD k []=(fs.getD k []).map (num (tabOf [] fs))):=⟨fun k hk=>by
    rw[← hids]
    simp[List.getD_eq_getElem?_getD,hk]⟩
   have HFG:Aside0 (fs.getD 0 []=l0 ∧ ∀ k,fs.getD (k+1) []=l1.getD k []):=⟨by rw[← HFS.out];exact⟨rfl,fun k=>by simp⟩⟩;have HNN:Aside0 (1≤l1.length∧l1.length≤16):=⟨by omega,by omega⟩;rw[hidl];(have hq1 : ¬ ci=1:=by omega);(have hq2:1≤l1.length+1:=by omega);clear hs4 hidl hids hb4 hic hz4;(go_wp2_with fail)
   go_loopw [9,10,30] (fun v9 v10 iv wr => ∃ (k:Nat) (Az:Option Addr) (cz:Nat) (Am:Option Addr) (cm:Nat),v9 = .slice Az k cz∧v10 = .slice Am k cm∧iv = .int .i64 k∧k≤l1.length∧Aside0 (Kd.R (Kd.int .i64) 3 wr w4.heap.size (fun _=>True) (.slice Az k cz) (sizesF (l1.take k))) ∧
    Aside0 (Kd.R KIa 72 wr w4.heap.size (fun q=>True∧some q≠(Value.slice Az k cz).ownBlock) (.slice Am k cm) (matchesF l0 (l1.take k)))∧Aside0 (Below w4.heap.size w4 wr)) (fun _ _ iv _=>l1.length - (intOf iv).toNat)
   (case atStart=>exact⟨0,_,_,_,_,rfl,rfl,rfl,Nat.zero_le _,⟨Kd.R_nil _ _ _ _ _⟩,⟨Kd.R_nil _ _ _ _ _⟩,⟨Below.refl _ _⟩⟩)
   case round =>
    obtain⟨k,Az,cz,Am,cm,rfl,rfl,rfl,hk,HZ,HMt,HBr⟩:=hrel;(have hid0:0 < ids.length:=by rw[HIDL.out];omega);have hCr:=Kd.C_below HCI.out HBr.out;have HBw:Aside0 (Below w.heap.size w wr):=⟨far_ HB4.out HBr.out⟩
    by_cases hlt:k < l1.length
    ·
     obtain⟨ad,E0,d0,ead,x0,le0,kc0⟩:=at_slice hCr 0 hid0;cases ead;obtain⟨ad,E1,d1,ead,x1,le1,kc1⟩:=at_slice hCr (k+1) (by rw[HIDL.out];omega);cases ead;(rw[addr_add0] at x0 x1);have eg0:=HIDG.out 0 (by rw[HFL.out];omega);have eg1:=HIDG.out (k+1) (by rw[HFL.out];omega);(rw[HFG.out.1] at eg0);(rw[HFG.out.2,getD_get hlt] at eg1)
     have hmat:matchOf (ids.getD 0 []) (ids.getD (k+1) [])=matchS l0 l1[k]:=by
      rw[eg0,eg1];(exact matchS_num fun x hx=>tabAll (ls:=fs) (by rw[← HFS.out];simp) hx)
     (have hla:(ids.getD 0 []).length=l0.length:=by rw[eg0,List.length_map]);(have hlb:(ids.getD (k+1) []).length=l1[k].length:=by rw[eg1,List.length_map]);have hk2:=HLE.out.2 k hlt;(have hs1:sizesF (l1.take (k+1))=sizesF (l1.take k) ++ [(l1[k].length:Int)]:=by rw[sizesF,sizesF,← List.take_append_getElem hlt,List.map_append];rfl);(have hm1:matchesF l0 (l1.take (k+1))=matchesF l0 (l1.take k) ++ [matchS l0 l1[k]]:=by rw[matchesF,matchesF,← List.take_append_getElem hlt,List.map_append];rfl);obtain⟨a,ha⟩ : ∃ a,ids.getD 0 []=a:=⟨_,rfl⟩;obtain⟨b,hb⟩ : ∃ b,ids.getD (k+1) []=b:=⟨_,rfl⟩;(rw[ha] at x0 le0 kc0 hmat hla);(rw[hb] at x1 le1 kc1 hmat hlb);(rw[Nat.add_comm k 1] at x1);(rw[← hlb] at hs1 hk2);(rw[← hmat] at hm1);have HS1:=Aside0.mk hs1;have HM1:=Aside0.mk hm1;have HLA:=Aside0.mk hla;have HLB:=Aside0.mk hlb;have HK2:=Aside0.mk hk2;have KC0:=Aside0.mk kc0;have KC1:=Aside0.mk kc1;(have hzl:(sizesF (l1.take k)).length=k:=by rw[sizesF,List.length_map,List.length_take];omega);(have hml:(matchesF l0 (l1.take k)).length=k:=by rw[matchesF,List.length_map,List.length_take];omega);have HZL:=Aside0.mk hzl;have HML:=Aside0.mk hml;have hbw:w4.heap.size≤wr.heap.size:=HBr.out.size;clear hCr eg0 eg1 ha hb hmat hla hlb hs1 hm1 kc0 kc1 hzl hml;(go_wp2_with fail);refine(lcs_New_ok E0 d0 a E1 d1 b wr KC0.out le0 KC1.out le1 (by rw[HLA.out];exact HLE.out.1) HK2.out).mono ?_;rintro e w5 ⟨gp,rfl,hip,hb5⟩;have HIP:=Aside0.mk hip;have HB5:=Aside0.mk hb5;have HZ5:=Aside0.mk (Kd.R_below HZ.out hb5);have HMt5:=Aside0.mk (Kd.R_below HMt.out hb5);have HB45:Aside0 (Below w4.heap.size w4 w5):=⟨far_ HBr.out hb5⟩;clear hip hb5 x0 x1;(go_wp2_with (first|(at_builtin;refine Kd.R_append (Kd.int .i64) (w0:=w4) w4.heap.size rfl (.tmp 42) (.tmp 45) 72 3 (.int .i64 0) 8 rfl Tryz.underlying72 info3 rfl (by decide) (by decide) (.slice Az k cz) (sizesF (l1.take k)) (b.length:Int) [.int .i64 (b.length:Int)] (fun _=>True) (fun _=>False) rfl rfl rfl (fun _ h=>h.elim) (fun _ _=>trivial) HZ5.out HB45.out HB45.out.size (by have:=HZL.out;omega) ?_;intro v6 w6 ho6 hb6 hg6 hat6;obtain⟨A6,c6,hv6⟩:=Kd.R_slice ho6;subst hv6;have hl6:(sizesF (l1.take k) ++ [(b.length:Int)]).length=k+1:=(by rw[List.length_append,HZL.out];rfl);rw[hl6] at ho6 hat6 ⊢;have HZ6:=Aside0.mk ho6;have HB6:=Aside0.mk hb6;have HG6:=Aside0.mk hg6;have HAT6:=Aside0.mk hat6;clear ho6 hb6 hg6 hat6 hl6)))
     have hip6:IsPair w6 wr.heap.size gp a b:=HIP.out.step (fun q hq hql=>HG6.out.block q hql (fun e=>by
      have:=Kd.R_lt HZ.out q e.symm
      omega))
     obtain⟨dp,hpi6⟩:=PairIn.of_new hip6;have hgp:wr.heap.size≤gp:=hip6.1;have HMt6:=Aside0.mk (Kd.R_after HMt5.out HG6.out HAT6.out);refine(pair_Match gp a b dp w6 hpi6).mono ?_;rintro e w7 ⟨v7,rfl,hr7,hp7,hg7⟩;obtain⟨_,_,_,_,_,_,hpb,_⟩:=hpi6;obtain⟨A7,c7,rfl⟩:=Kd.R_slice hr7;have HZ7:=Aside0.mk (Kd.R_grown1 HZ6.out rfl hg7 (Kd.R_ne HZ6.out hpb (by decide)));have HMt7:=Aside0.mk (Kd.R_mono (Kd.R_grown (Kd.R_types HMt6.out hpb (by decide)) hg7 (fun q hq e=>hq.2 (Option.some.inj e))) (fun _ hq=>hq.1));have HB7:Aside0 (Below w4.heap.size w4 w7):=⟨below_grown HB6.out hg7 (by omega) HB6.out.size⟩;have HR7:=Aside0.mk hr7;have HS67:Aside0 (w6.heap.size≤w7.heap.size∧w5.heap.size≤w6.heap.size∧wr.heap.size≤w5.heap.size):=⟨hg7.size,HG6.out.size,HB5.out.size⟩;have HP7:Aside0 (KIa.M w7 w4.heap.size (fun q=>w6.heap.size≤q) (matchOf a b) [.slice A7 (matchOf a b).length c7]):=⟨⟨_,rfl,Kd.R_lower (Kd.R_mono (Kd.R_bound HR7.out) (fun q hq=>hq.2.1)) (by have:=HS67.out;omega)⟩⟩;have HOK:Aside0 (∀ q,w6.heap.size≤q→(True∧some q≠(Value.slice A6 (k+1) c6).ownBlock)∧some q≠(Value.slice Am k cm).ownBlock):=⟨fun q hq=>⟨⟨trivial,fun e=>by have:=Kd.R_lt HZ6.out q e.symm;omega⟩,fun e=>by have:=Kd.R_lt HMt6.out q e.symm;omega⟩⟩;clear hip6 hgp HMt6 hr7 hp7 hg7 hpb;(go_wp2_with (first|(at_builtin;refine Kd.R_append KIa (w0:=w4) w4.heap.size rfl (.tmp 47) (.tmp 50) 70 72 (.slice none 0 0) 24 rfl Tryz.underlying70 info72 rfl Nat.zero_lt_one (by decide) (.slice Am k cm) (matchesF l0 (l1.take k)) (matchOf a b) [.slice A7 (matchOf a b).length c7] (fun q=>True∧some q≠(Value.slice A6 (k+1) c6).ownBlock) (fun q=>w6.heap.size≤q) rfl rfl HP7.out HOK.out (fun q hq=>(HOK.out q (Nat.le_trans HS67.out.1 hq)).1) HMt7.out HB7.out HB7.out.size (by have:=HML.out;omega) ?_;intro v8 w8 ho8 hb8 hg8 hat8;obtain⟨A8,c8,hv8⟩:=Kd.R_slice ho8;subst hv8;have hl8:(matchesF l0 (l1.take k) ++ [matchOf a b]).length=k+1:=(by rw[List.length_append,HML.out];rfl);rw[hl8] at ho8 ⊢;have HM8:=Aside0.mk ho8;have HB8:=Aside0.mk hb8;have HG8:=Aside0.mk hg8;clear ho8 hb8 hg8 hat8 hl8)));go_roundw;(case measure=>simp[intOf];omega)
     case rel =>
      have HZ8:=Kd.R_grown2 HZ7.out rfl HG8.out (fun q hq e=>(HMt7.out.1 q hq).2 e);exact⟨k+1,A6,c6,A8,c8,rfl,rfl,by go_num,by omega,⟨by rw[HS1.out];exact HZ8⟩,⟨by rw[HM1.out];exact HM8.out⟩,HB8⟩
    (· (have hk':k=l1.length:=by omega);subst hk';(rw[List.take_length] at HZ HMt);have hzl:=sizesF_len l1;have hml:=matchesF_len l0 l1;obtain⟨hez,hcz,hCz⟩:=Kd.R_reads' HZ.out;obtain⟨hem,hcm,hCm⟩:=Kd.R_reads' HMt.out;clear hez hem;have hal:=align_Align l0.length Az cz (sizesF l1) Am cm (matchesF l0 l1) wr hCz (by rw[hzl];exact hcz) hCm (by rw[hml];exact hcm) (by rw[hzl,hml]) (by rw[hml];exact HNN.out.1) (by rw[hml];exact HNN.out.2) (by have:=HLE.out.1;omega) (matchesF_all l0 l1) (matchesF_bounds l0 l1 HLE.out.2) (matchesF_may l0 l1 HLE.out.1);(rw[hzl,hml] at hal);have HAL:=Aside0.mk hal;clear hal hzl hml hCz hCm;(go_wp2_with fail);refine HAL.out.mono ?_;rintro e w8 ⟨v8,rfl,hs8,hb8⟩;have HS8:=Aside0.mk hs8;have HB8:=Aside0.mk (far_ HBw.out hb8);clear hs8 hb8;go_wp2;go_ret2;exact⟨v8,rfl,by rw[← HR1e.out];exact Kd.S_lower HS8.out HBw.out.size,HB8.out⟩)
  (· (rw[if_pos hc] at hT);obtain⟨e1,e2⟩:=Prod.mk.inj hT;subst e1;subst e2;(have b1:(cde == 0)=false:=by simpa using hc);have b2:decide (cde=0)=false:=decide_eq_false hc;go_wp2;go_ret2;exact⟨_,rfl,Kd.S_nil _ _ _ _ _,HB3.out⟩)
 (· cases h)
theorem rd_of {L:List Int} {i:Nat} {x:Int} (h:L[i]? = some x):rd L (i:Int)=x:=by
 simp[rd,h]
def Tab (a b:List Int) (i c:Nat) (T:List Int):Prop :=
  T.length=(a.length+1) * (b.length+1) ∧ ∀ i' j',i'≤a.length→j'≤b.length→T[i' * (b.length+1)+j']? = some (if i < i'∨i=i'∧c≤j' then ((lcsL (a.drop i') (b.drop j'):Nat):Int) else 0)
section
variable {a b T:List Int}
theorem tab_place {n m i j:Nat} (hi:i≤n) (hj:j≤m):i * (m+1)+j < (n+1) * (m+1):=place_lt (by omega) (by omega)
theorem tab_ne {m i j i' j':Nat} (hj:j≤m) (hj':j'≤m) (h:i * (m+1)+j=i' * (m+1)+j'):i=i'∧j=j':=by
 have h1:=place_div (m:=m+1) (i:=i) (j:=j) (by omega);have h2:=place_div (m:=m+1) (i:=i') (j:=j') (by omega);(rw[h] at h1);exact⟨h1.1.symm.trans h2.1,h1.2.symm.trans h2.2⟩
theorem Tab.start:Tab a b a.length (b.length) (List.replicate ((a.length+1) * (b.length+1)) 0):=by
 refine⟨by simp,fun i' j' hi hj=>?_⟩;rw[List.getElem?_replicate,if_pos (tab_place hi hj)];split
 ·
  rename_i h
  have:a.drop i'=[]∨b.drop j'=[]:=by
   rcases h with h|⟨h,h2⟩
   (· omega);(· exact .inl (List.drop_eq_nil_of_le (by omega)))
  rcases this with h|h
  (· (rw[h];simp[lcsL]));(· rw[h];(cases a.drop i' <;> simp[lcsL]))
 (· rfl)
theorem Tab.up {i:Nat} (h:Tab a b (i+1) 0 T):Tab a b i b.length T:=by
 refine⟨h.1,fun i' j' hi hj=>?_⟩;rw[h.2 i' j' hi hj]
 congr 1
 by_cases e:i'=i
 ·
  subst e;rw[if_neg (by omega)];split;(· rename_i h2;rw[show b.drop j'=[] from List.drop_of_length_le (by omega),lcsL_nil_right];rfl);(· rfl)
 ·
  by_cases e2:i < i'
  (· rw[if_pos (show i+1 < i'∨i+1=i'∧0≤j' by omega),if_pos (show i < i'∨i=i'∧b.length≤j' by omega)]);(· rw[if_neg (show ¬ (i+1 < i'∨i+1=i'∧0≤j') by omega),if_neg (show ¬ (i < i'∨i=i'∧b.length≤j') by omega)])
theorem Tab.first(h:Tab a b a.length b.length T):Tab a b a.length 0 T:=by
 refine⟨h.1,fun i' j' hi hj=>?_⟩;rw[h.2 i' j' hi hj]
 congr 1
 by_cases e:i'=a.length
 (· subst e;rw[if_pos (show a.length < a.length∨a.length=a.length∧0≤j' by omega),show a.drop a.length=[] from List.drop_of_length_le (by omega),lcsL_nil_left];(split <;> rfl));(· rw[if_neg (show ¬ (a.length < i'∨a.length=i'∧b.length≤j') by omega),if_neg (show ¬ (a.length < i'∨a.length=i'∧0≤j') by omega)])
theorem Tab.put {i c:Nat} (h:Tab a b i (c+1) T) (hi:i≤a.length) (hc:c≤b.length):Tab a b i c (T.set (i * (b.length+1)+c) ((lcsL (a.drop i) (b.drop c):Nat):Int)):=by
 refine⟨by simpa using h.1,fun i' j' hi' hj'=>?_⟩
 by_cases e:i'=i∧j'=c
 (· obtain⟨rfl,rfl⟩:=e;rw[List.getElem?_set_self (by rw[h.1];exact tab_place hi hc),if_pos (by omega)])
 ·
  rw[List.getElem?_set_ne (fun h2=>e (by have:=tab_ne hc hj' h2;omega)),h.2 i' j' hi' hj']
  congr 1
  by_cases e2:i < i'∨i=i'∧c+1≤j'
  (· rw[if_pos e2,if_pos (by omega)]);(· rw[if_neg e2,if_neg (by omega)])
theorem Tab.at_ {i c i' j':Nat} (h:Tab a b i c T) (hi:i'≤a.length) (hj:j'≤b.length) (hd:i < i'∨i=i'∧c≤j'):rd T ((i':Int) * ((b.length:Int)+1)+(j':Int))=((lcsL (a.drop i') (b.drop j'):Nat):Int):=by
 have:=h.2 i' j' hi hj;(rw[if_pos hd] at this);have e:=rd_of this;rw[← e]
 congr 1
end
theorem place64 {n m i j:Nat} (hn:n≤100) (hm:m≤100) (hi:i≤n) (hj:j≤m):0≤(i:Int) * ((m:Int)+1)∧(i:Int) * ((m:Int)+1)+(j:Int) < ((n:Int)+1) * ((m:Int)+1)∧((n:Int)+1) * ((m:Int)+1)≤10201:=by
 have h1:=tab_place hi hj;have h2:(n+1) * (m+1)≤101 * 101:=Nat.mul_le_mul (by omega) (by omega);(have e1:(i:Int) * ((m:Int)+1)=((i * (m+1):Nat):Int):=by simp);(have e2:((n:Int)+1) * ((m:Int)+1)=(((n+1) * (m+1):Nat):Int):=by simp);rw[e1,e2];omega
set_option maxHeartbeats 1000000 in
theorem rest_step (a b T:List Int) (w i c X0 X1:Int) (k:Nat) (hX0:i * w=X0) (hX1:(i+1) * w=X1) (h0:0≤X0) (hw:X1=X0+w) (hw0:0≤w) (hi:0≤i) (hia:i < a.length) (hc:0≤c) (hcb:c < b.length) (hcw:c+1 < w) (hT:X1+w≤T.length) (hT2:(T.length:Int)≤100000) (hs:(a.length:Int)≤1000)
    (r1 r2 r3:Int) (e1:rd T (X1+c)=r1) (e2:rd T (X0+c+1)=r2) (e3:rd T (X1+c+1)=r3) (h3:0≤r3) (h3':r3≤1000) :
    sennitref03_rest.l1 (k+1) a b w T i c=sennitref03_rest.l1 k a b w (T.set (X0+c).toNat (if rd a i=rd b c then mx (mx r1 r2) (r3+1) else mx r1 r2)) i (c - 1):=by
 have a1:wrap64 (i+1)=i+1:=gw (by omega) (by omega);have a2:wrap64 X1=X1:=gw (by omega) (by omega);have a3:wrap64 (X1+c)=X1+c:=gw (by omega) (by omega);have a4:wrap64 X0=X0:=gw (by omega) (by omega);have a5:wrap64 (X0+c)=X0+c:=gw (by omega) (by omega);have a6:wrap64 (X0+c+1)=X0+c+1:=gw (by omega) (by omega);have a7:wrap64 (X1+c+1)=X1+c+1:=gw (by omega) (by omega);have a8:wrap64 (c - 1)=c - 1:=gw (by omega) (by omega);have a9:wrap64 (r3+1)=r3+1:=gw (by omega) (by omega);have b0:c ≥ 0:=hc;(have b1:0≤X1+c:=by omega);(have b2:X1+c < T.length:=by omega);(have b3:0≤X0+c+1:=by omega);(have b4:X0+c+1 < T.length:=by omega);(have b5:0≤X1+c+1:=by omega);(have b6:X1+c+1 < T.length:=by omega);(have b7:0≤X0+c:=by omega);(have b8:X0+c < T.length:=by omega);rw[sennitref03_rest.l1,a1,hX1,hX0,a2,a3,a4,a5,a6,a7,a8,e1,e2,e3,a9];rw[if_pos b0,if_pos b1,if_pos b2,if_pos b3,if_pos b4,if_pos hi,if_pos hia,if_pos hc,if_pos hcb]
 by_cases eq:rd a i=rd b c
 (· rw[if_pos eq,if_pos b5,if_pos b6,if_pos b7,if_pos b8,if_pos eq]);(· rw[if_neg eq,if_neg eq];rw[if_pos b7,if_pos b8])
theorem place_cast (i m j:Nat):((i:Int) * ((m:Int)+1)+(j:Int)).toNat=i * (m+1)+j:=by
 (have:(i:Int) * ((m:Int)+1)=((i * (m+1):Nat):Int):=by simp);(rw[this];omega)
section
variable {a b:List Int}
theorem rest_l1 (ha:a.length≤100) (hb:b.length≤100) {i:Nat} (hi:i < a.length) : ∀ (c:Nat) (T:List Int),c≤b.length→Tab a b i c T →
    ∃ T',Tab a b i 0 T' ∧ ∀ k,sennitref03_rest.l1 (k+c+1) a b ((b.length:Int)+1) T (i:Int) ((c:Int) - 1)=sennitref03_rest.l0 k a b ((b.length:Int)+1) T' ((i:Int) - 1)
  | 0,T,_,hT=>⟨T,hT,fun k=>by
      rw[sennitref03_rest.l1,if_neg (by omega),gw (by omega) (by omega)]⟩
  | c+1,T,hc,hT=>by
    obtain⟨T',h1,h2⟩:=rest_l1 ha hb hi c _ (by omega) (hT.put (by omega) (by omega))
    refine⟨T',h1,fun k=>?_⟩
    have L:(T.length:Int)=((a.length:Int)+1) * ((b.length:Int)+1):=by rw[hT.1];simp
    have p1:=place64 ha hb (i:=i+1) (j:=b.length) (by omega) (by omega)
    have p4:=place64 ha hb (i:=i) (j:=c) (by omega) (by omega)
    have r1:=hT.at_ (i':=i+1) (j':=c) (by omega) (by omega) (by omega)
    have r2:=hT.at_ (i':=i) (j':=c+1) (by omega) (by omega) (by omega)
    have r3:=hT.at_ (i':=i+1) (j':=c+1) (by omega) (by omega) (by omega)
    have x1:((i+1:Nat):Int)=(i:Int)+1:=by omega
    have x2:((c+1:Nat):Int)=(c:Int)+1:=by omega
    have en:=place_cast i b.length c
    rw[x1] at p1 r1 r3
    rw[x2,← Int.add_assoc] at r2 r3
    have hX:((i:Int)+1) * ((b.length:Int)+1)=(i:Int) * ((b.length:Int)+1)+((b.length:Int)+1):=by rw[Int.add_mul,Int.one_mul]
    have xa:a[i]? = some a[i]:=List.getElem?_eq_getElem hi
    have xb:b[c]? = some b[c]:=List.getElem?_eq_getElem (by omega)
    have q1:=lcsL_le_left (a.drop (i+1)) (b.drop (c+1))
    rw[List.length_drop] at q1
    obtain⟨X0,hX0⟩ : ∃ X0,(i:Int) * ((b.length:Int)+1)=X0:=⟨_,rfl⟩
    obtain⟨X1,hX1⟩ : ∃ X1,((i:Int)+1) * ((b.length:Int)+1)=X1:=⟨_,rfl⟩
    obtain⟨LL,hLL⟩ : ∃ LL,((a.length:Int)+1) * ((b.length:Int)+1)=LL:=⟨_,rfl⟩
    rw[hX0] at p4 r2 hX en
    rw[hX1] at p1 r1 r3 hX
    rw[hLL] at p1 p4 L
    have st:=rest_step a b T ((b.length:Int)+1) i c X0 X1 (k+c+1) hX0 hX1 (by omega) hX (by omega) (by omega) (by omega) (by omega) (by omega) (by omega) (by omega) (by omega) (by omega) _ _ _ r1 r2 r3 (by omega) (by omega)
    rw[show k+(c+1)+1=k+c+1+1 from by omega,show ((c+1:Nat):Int) - 1=(c:Int) from by omega,st,← h2 k,en,rd_of xa,rd_of xb]
    congr 2
    have s1:=lcsL_step_left a[i] (a.drop (i+1)) (b.drop (c+1))
    have s2:=lcsL_step_right b[c] (a.drop (i+1)) (b.drop (c+1))
    rw[← drop_cons' xa] at s1
    rw[← drop_cons' xb] at s2
    by_cases eq:a[i]=b[c]
    · rw[if_pos eq,lcs_eq xa xb eq]
      simp only[mx]
      split <;> split <;> omega
    · rw[if_neg eq,lcs_ne xa xb eq]
      simp only[mx]
      split <;> omega
theorem rest_l0 (ha:a.length≤100) (hb:b.length≤100) : ∀ (r:Nat) (T:List Int),r≤a.length→Tab a b r 0 T →
    ∃ T',Tab a b 0 0 T' ∧ ∀ k,r * (b.length+2)+1≤k→sennitref03_rest.l0 k a b ((b.length:Int)+1) T ((r:Int) - 1)=some T'
  | 0,T,_,hT=>⟨T,hT,fun k hk=>by
      obtain⟨k,rfl⟩ : ∃ k',k=k'+1:=⟨k - 1,by omega⟩
      rw[sennitref03_rest.l0,if_neg (by omega)]⟩
  | r+1,T,hr,hT=>by
    obtain⟨T1,h1,h2⟩:=rest_l1 ha hb (i:=r) (by omega) b.length T (Nat.le_refl _) hT.up
    obtain⟨T',h3,h4⟩:=rest_l0 ha hb r T1 (by omega) h1
    refine⟨T',h3,fun k hk=>?_⟩
    rw[Nat.succ_mul] at hk
    obtain⟨k,rfl⟩ : ∃ k',k=k'+b.length+1+1:=⟨k - b.length - 2,by omega⟩
    rw[sennitref03_rest.l0,if_pos (by omega),gw (by omega) (by omega),show ((r+1:Nat):Int) - 1=(r:Int) from by omega,h2 k]
    exact h4 k (by omega)
theorem rest_gives (ha:a.length≤100) (hb:b.length≤100) : ∃ T,Tab a b 0 0 T∧Gives (fun k=>sennitref03_rest.f k a b) T:=by
 obtain⟨T,h1,h2⟩:=rest_l0 ha hb a.length _ (Nat.le_refl _) (Tab.start (a:=a) (b:=b)).first;refine⟨T,h1,a.length * (b.length+2)+1,fun k hk=>?_⟩;have p:=place64 ha hb (i:=0) (j:=0) (by omega) (by omega)
 have e:(((a.length:Int)+1) * ((b.length:Int)+1)).toNat=(a.length+1) * (b.length+1):=by
  rw[← Int.natCast_one,← Int.natCast_add,← Int.natCast_add,← Int.natCast_mul,Int.toNat_natCast]
 show sennitref03_rest.f k a b=_;have w1:wrap64 ((a.length:Int)+1)=(a.length:Int)+1:=gw (by omega) (by omega);have w2:wrap64 ((b.length:Int)+1)=(b.length:Int)+1:=gw (by omega) (by omega);have w3:wrap64 ((a.length:Int) - 1)=(a.length:Int) - 1:=gw (by omega) (by omega);have hm:(a.length+1) * (b.length+1)≤101 * 101:=Nat.mul_le_mul (by omega) (by omega)
 have w4:wrap64 (((a.length:Int)+1) * ((b.length:Int)+1))=((a.length:Int)+1) * ((b.length:Int)+1):=by
  obtain⟨LL,hLL⟩ : ∃ LL,((a.length:Int)+1) * ((b.length:Int)+1)=LL:=⟨_,rfl⟩;(rw[hLL] at p ⊢);exact gw (by omega) (by omega)
 rw[sennitref03_rest.f,w1,w2,w3,w4,e]
 have h0:0≤((a.length:Int)+1) * ((b.length:Int)+1):=by
  obtain⟨LL,hLL⟩ : ∃ LL,((a.length:Int)+1) * ((b.length:Int)+1)=LL:=⟨_,rfl⟩;(rw[hLL] at p ⊢);omega
 rw[if_pos h0,if_pos (by omega)];exact h2 k hk
set_option maxHeartbeats 1000000 in
theorem match_step (a b T:List Int) (w i j X0 X1:Int) (out:List Int) (k:Nat) (hX0:i * w=X0) (hX1:(i+1) * w=X1) (h0:0≤X0) (hw:X1=X0+w) (hw0:0≤w) (hi:0≤i) (hia:i < a.length) (hc:0≤j) (hcb:j < b.length) (hcw:j+1 < w) (hT:X1+w≤T.length) (hT2:(T.length:Int)≤100000) (hs:(a.length:Int)≤1000) (ho:out.length < 17592186044416)
    (r1 r2:Int) (e1:rd T (X1+j)=r1) (e2:rd T (X0+j+1)=r2) :
    sennitref03_Match.l1 (k+1) a b T w out j i (-1)=if rd a i=rd b j then sennitref03_Match.l0 k a b T w (out ++ [j]) (j+1) (i+1) else if r1 < r2 then sennitref03_Match.l1 k a b T w out (j+1) i (-1) else sennitref03_Match.l0 k a b T w (out ++ [-1]) j (i+1):=by
 have a1:wrap64 (i+1)=i+1:=gw (by omega) (by omega);have a2:wrap64 X1=X1:=gw (by omega) (by omega);have a3:wrap64 (X1+j)=X1+j:=gw (by omega) (by omega);have a4:wrap64 X0=X0:=gw (by omega) (by omega);have a5:wrap64 (X0+j)=X0+j:=gw (by omega) (by omega);have a6:wrap64 (X0+j+1)=X0+j+1:=gw (by omega) (by omega);have a7:wrap64 (j+1)=j+1:=gw (by omega) (by omega);(have b1:0≤X1+j:=by omega);(have b2:X1+j < T.length:=by omega);(have b3:0≤X0+j+1:=by omega);(have b4:X0+j+1 < T.length:=by omega);rw[sennitref03_Match.l1,a1,hX1,hX0,a2,a3,a4,a5,a6,a7,e1,e2];rw[if_pos hcb,if_pos hi,if_pos hia,if_pos hc,if_pos b1,if_pos b2,if_pos b3,if_pos b4,if_pos ho];simp only[if_pos ho]
theorem match_l (ha:a.length≤100) (hb:b.length≤100) {T:List Int} (hT:Tab a b 0 0 T) : ∀ (m:Nat),
    (∀ (i j:Nat) (out:List Int) (k:Nat),i≤a.length→j≤b.length→out.length=i→2 * (a.length - i)+(b.length - j)+1≤m→m≤k→sennitref03_Match.l0 k a b T ((b.length:Int)+1) out (j:Int) (i:Int)=some (out ++ matchFrom (a.drop i) (b.drop j) j)) ∧
    (∀ (i j:Nat) (out:List Int) (k:Nat),i < a.length→j≤b.length→out.length=i→2 * (a.length - i)+(b.length - j)≤m→m≤k→sennitref03_Match.l1 k a b T ((b.length:Int)+1) out (j:Int) (i:Int) (-1)=some (out ++ matchFrom (a.drop i) (b.drop j) j))
  | 0=>⟨fun i j out k _ _ _ h _=>by omega,fun i j out k _ _ _ h _=>by omega⟩
  | m+1=>by
    obtain⟨ih0,ih1⟩:=match_l ha hb hT m
    refine⟨fun i j out k hi hj ho hm hk=>?_,fun i j out k hi hj ho hm hk=>?_⟩
    · obtain⟨k,rfl⟩ : ∃ k',k=k'+1:=⟨k - 1,by omega⟩
      rw[sennitref03_Match.l0]
      by_cases h:i < a.length
      · rw[if_pos (by omega)]
        exact ih1 i j out k h hj ho (by omega) (by omega)
      · rw[if_neg (by omega),List.drop_of_length_le (by omega),matchFrom_nil,List.append_nil]
    · obtain⟨k,rfl⟩ : ∃ k',k=k'+1:=⟨k - 1,by omega⟩
      have xa:a[i]? = some a[i]:=List.getElem?_eq_getElem hi
      have z0:((out ++ [(-1:Int)]) ++ matchFrom (a.drop (i+1)) (b.drop j) j)=out ++ (-1 :: matchFrom (a.drop (i+1)) (b.drop j) j):=by simp
      have w1:wrap64 ((i:Int)+1)=(i:Int)+1:=gw (by omega) (by omega)
      have old:sennitref03_Match.l0 k a b T ((b.length:Int)+1) (out ++ [(-1:Int)]) (j:Int) ((i:Int)+1)=some (out ++ (-1 :: matchFrom (a.drop (i+1)) (b.drop j) j)):=by
        have:=ih0 (i+1) j (out ++ [-1]) k (by omega) hj (by simp[ho]) (by omega) (by omega)
        rw[show ((i+1:Nat):Int)=(i:Int)+1 from by omega] at this
        rw[this,z0]
      by_cases h:j < b.length
      · have xb:b[j]? = some b[j]:=List.getElem?_eq_getElem h
        have p1:=place64 ha hb (i:=i+1) (j:=b.length) (by omega) (by omega)
        have p4:=place64 ha hb (i:=i) (j:=j) (by omega) (by omega)
        have r1:=hT.at_ (i':=i+1) (j':=j) (by omega) (by omega) (by omega)
        have r2:=hT.at_ (i':=i) (j':=j+1) (by omega) (by omega) (by omega)
        have L:(T.length:Int)=((a.length:Int)+1) * ((b.length:Int)+1):=by rw[hT.1];simp
        have x1:((i+1:Nat):Int)=(i:Int)+1:=by omega
        have x2:((j+1:Nat):Int)=(j:Int)+1:=by omega
        rw[x1] at p1 r1
        rw[x2,← Int.add_assoc] at r2
        have hX:((i:Int)+1) * ((b.length:Int)+1)=(i:Int) * ((b.length:Int)+1)+((b.length:Int)+1):=by rw[Int.add_mul,Int.one_mul]
        obtain⟨X0,hX0⟩ : ∃ X0,(i:Int) * ((b.length:Int)+1)=X0:=⟨_,rfl⟩
        obtain⟨X1,hX1⟩ : ∃ X1,((i:Int)+1) * ((b.length:Int)+1)=X1:=⟨_,rfl⟩
        obtain⟨LL,hLL⟩ : ∃ LL,((a.length:Int)+1) * ((b.length:Int)+1)=LL:=⟨_,rfl⟩
        rw[hX0] at p4 r2 hX
        rw[hX1] at p1 r1 hX
        rw[hLL] at p1 p4 L
        have st:=match_step a b T ((b.length:Int)+1) i j X0 X1 out k hX0 hX1 (by omega) hX (by omega) (by omega) (by omega) (by omega) (by omega) (by omega) (by omega) (by omega) (by omega) (by omega) _ _ r1 r2
        rw[st,rd_of xa,rd_of xb]
        clear st p1 p4 r1 r2 L hX hX0 hX1 hLL
        rw[drop_cons' xa,drop_cons' xb,matchFrom_cons,← drop_cons' xa,← drop_cons' xb]
        by_cases eq:a[i]=b[j]
        · rw[if_pos eq,if_pos eq]
          have:=ih0 (i+1) (j+1) (out ++ [(j:Int)]) k (by omega) (by omega) (by simp[ho]) (by omega) (by omega)
          rw[x1,x2] at this
          rw[this]
          simp
        · rw[if_neg eq,if_neg eq]
          by_cases le:lcsL (a.drop i) (b.drop (j+1))≤lcsL (a.drop (i+1)) (b.drop j)
          · rw[if_neg (by omega),if_pos le]
            exact old
          · rw[if_pos (by omega),if_neg le]
            have:=ih1 i (j+1) out k hi (by omega) ho (by omega) (by omega)
            rw[x2] at this
            exact this
      · have b0 : ¬ (j:Int) < b.length:=by omega
        have b8:out.length < 17592186044416:=by omega
        rw[sennitref03_Match.l1,if_neg b0,if_pos b8,w1]
        have hbn:b.drop j=[]:=List.drop_of_length_le (by omega)
        rw[old,hbn,drop_cons' xa,matchFrom_none]
theorem match_gives (ha:a.length≤100) (hb:b.length≤100):Gives (fun k=>sennitref03_Match.f k a b) (matchOf a b):=by
 obtain⟨T,h1,K,h2⟩:=rest_gives ha hb;refine⟨K+(2 * a.length+b.length+1),fun k hk=>?_⟩;show sennitref03_Match.f k a b=_;rw[sennitref03_Match.f,show sennitref03_rest.f k a b=some T from h2 k (by omega),Option.bind_some,gw (by omega) (by omega)];have:=(match_l ha hb h1 (2 * a.length+b.length+1)).1 0 0 [] k (by omega) (by omega) rfl (by omega) (by omega);simpa [matchOf] using this
end
def CellsAt (W:World) (k:Nat):Prop := ∃ cs t fr,W.heap[k]? = some (.cells cs t fr)
theorem CellsAt.of_cell {W:World} {a:Addr} {v:Value} (h:W.cell? a=some v):CellsAt W a.block:=by
 (unfold World.cell? at h);(split at h);(· (rename_i c t fr e;exact⟨c,t,fr,e⟩));(· cases h)
theorem CellsAt.lt {W:World} {k:Nat} (h:CellsAt W k):k < W.heap.size:=by
 (obtain⟨cs,t,fr,h⟩:=h;exact blk_lt h)
theorem F_cells {α:Type} {d:Kd α} (z:α) (hsz:0 < d.sz) (hd : ∀ {W:World} {ok:Nat→Prop} {x:α} {c:List Value},Kd.FK d W ok x c→Kd.FK d W (fun k=>ok k∧CellsAt W k) x c) {W:World} {ok:Nat→Prop} {A:Option Addr} {n:Nat} {xs:List α} (h:Kd.F d W ok A n xs):Kd.F d W (fun k=>ok k∧CellsAt W k) A n xs:=by
 intro W' hW;obtain⟨hl,hm,hr⟩:=Kd.F_now h;refine⟨hl,hm,fun hp=>?_⟩;obtain⟨ad,c0,rfl,hcl0,_,hc0,hok⟩:=Kd.F_get h z 0 (by omega) (by omega);have hcell0:=hc0 0 _ (List.getElem?_eq_getElem (by omega))
 have hblk:CellsAt W ad.block:=by
  have:=CellsAt.of_cell hcell0
  rwa [add_block] at this
 have hsame:W'.heap[ad.block]? = W.heap[ad.block]? := hW _ ⟨hok hsz,hblk⟩ hblk.lt;refine⟨ad,rfl,fun j p hj=>?_⟩;have hjl:j < xs.length:=(List.getElem?_eq_some_iff.1 hj).1;obtain⟨ad',c,e,hcl,hFK,hcc,_⟩:=Kd.F_get h z (j:Int) (by omega) (by omega);cases e;(rw[Int.toNat_natCast] at hFK hcc);(rw[List.getD_eq_getElem?_getD,hj] at hFK);refine⟨c,hcl,(hd hFK) W' hW,fun i u hu=>?_⟩;have:=hcc i u hu;simpa [World.cell?,add_block,hsame] using this
theorem FK_str_cells {W:World} {ok:Nat→Prop} {x:ByteArray} {c:List Value} (h:Kd.FK Kd.string W ok x c):Kd.FK Kd.string W (fun k=>ok k∧CellsAt W k) x c:=fun W' _=>(show Kd.string.K W' x c from (show Kd.string.K W x c from Kd.FK_now h))
theorem F_str_cells {W:World} {ok:Nat→Prop} {A:Option Addr} {n:Nat} {xs:List ByteArray} (h:Kd.F Kd.string W ok A n xs):Kd.F Kd.string W (fun k=>ok k∧CellsAt W k) A n xs:=F_cells ByteArray.empty (by decide) FK_str_cells h
theorem FK_strs_cells {W:World} {ok:Nat→Prop} {x:List ByteArray} {c:List Value} (h:Kd.FK KSs W ok x c):Kd.FK KSs W (fun k=>ok k∧CellsAt W k) x c:=by
 obtain⟨A,c,rfl,hl,hf⟩:=Kd.FK_slice_open h;exact Kd.FK_slice_mk hl (F_str_cells hf)
theorem F_strs_cells {W:World} {ok:Nat→Prop} {A:Option Addr} {n:Nat} {xs:List (List ByteArray)} (h:Kd.F KSs W ok A n xs):Kd.F KSs W (fun k=>ok k∧CellsAt W k) A n xs:=F_cells [] Nat.zero_lt_one FK_strs_cells h
theorem FK_piece_cells {W:World} {ok:Nat→Prop} {x:Piece} {c:List Value} (h:Kd.FK k66 W ok x c):Kd.FK k66 W (fun k=>ok k∧CellsAt W k) x c:=by
 obtain⟨A1,c1,A2,c2,A3,c3,rfl,l1,g1,l2,g2,l3,g3⟩:=k66_openF h;exact k66_mkF _ _ x l1 (F_str_cells g1) l2 (F_str_cells g2) l3 (F_strs_cells g3)
theorem N_cells {W:World} {e base:Nat} {ok:Nat→Prop} {v:Value} {xs:List Piece} (h:Kd.N k66 e W base ok v xs):Kd.N k66 e W base (fun k=>ok k∧CellsAt W k) v xs:=by
 have ht:=Kd.N_typed h;obtain⟨h0,rows,hl,hR,hf⟩:=h;refine⟨fun k hk=>⟨h0 k hk,?_⟩,rows,hl,hR,fun j x c hx hc=>Kd.FK_mono (FK_piece_cells (hf j x c hx hc)) (fun k hk=>⟨⟨hk.1.1,hk.2⟩,hk.1.2⟩)⟩;obtain⟨cs,hcs⟩:=ht k hk;exact⟨cs,e,(0,0),hcs⟩
theorem PieceAt.cells {W:World} {ok:Nat→Prop} {p:Piece} {cs:Array Value} (h:PieceAt W ok p cs):PieceAt W (fun k=>ok k∧CellsAt W k) p cs:=by
 obtain⟨A1,c1,A2,c2,A3,c3,e,l1,f1,l2,f2,l3,f3⟩:=h;exact⟨A1,c1,A2,c2,A3,c3,e,l1,F_str_cells f1,l2,F_str_cells f2,l3,F_strs_cells f3⟩
theorem PieceAt.step {W W':World} {ok:Nat→Prop} {p:Piece} {cs:Array Value} (h:PieceAt W ok p cs) (hm : ∀ k,ok k→k < W.heap.size→W'.heap[k]? = W.heap[k]?):PieceAt W' ok p cs:=by
 obtain⟨A1,c1,A2,c2,A3,c3,e,l1,f1,l2,f2,l3,f3⟩:=h;exact⟨A1,c1,A2,c2,A3,c3,e,l1,Kd.F_step f1 hm,l2,Kd.F_step f2 hm,l3,Kd.F_step f3 hm⟩
theorem PieceAt.mono {W:World} {ok ok':Nat→Prop} {p:Piece} {cs:Array Value} (h:PieceAt W ok p cs) (hm : ∀ k,ok k→ok' k):PieceAt W ok' p cs:=by
 obtain⟨A1,c1,A2,c2,A3,c3,e,l1,f1,l2,f2,l3,f3⟩:=h;exact⟨A1,c1,A2,c2,A3,c3,e,l1,Kd.F_mono f1 hm,l2,Kd.F_mono f2 hm,l3,Kd.F_mono f3 hm⟩
abbrev MeS:=List Piece × Option (Piece × Array Value)
def MeI (P:Nat→Prop) (W1:World) (Bo g1 g2 g3 g4:Nat) (v1 v2 v3:Value) (fav:Int) (un:Bool) (s:MeS) (W:World):Prop :=
  Below W1.heap.size W1 W∧W1.heap.size≤Bo∧W.heap[g1]? = some (.cells #[v1] 26 (0,0))∧W.heap[g2]? = some (.cells #[v2] 22 (0,0))∧W.heap[g3]? = some (.cells #[v3] 23 (0,0))∧W.heap[g4]? = some (.cells #[.int .i64 fav, .bool un] 34 (0,0)) ∧
    ∃ (ok:Nat→Prop) (v:Value),W.heap[Bo]? = some (.cells #[v] 35 (0,0))∧(∀ k,ok k→(k≠Bo∧(P k∧k < W1.heap.size∨W1.heap.size≤k))∧CellsAt W k)∧Kd.N k66 66 W W1.heap.size ok v s.1∧(∀ p cs,s.2=some (p,cs)→PieceAt W (fun k=>ok k∧some k≠v.ownBlock) p cs)
section
variable {P:Nat→Prop} {W1 W W':World} {Bo g1 g2 g3 g4:Nat} {v1 v2 v3:Value} {fav:Int} {un:Bool} {s:MeS}
theorem MeI.kept (h:MeI P W1 Bo g1 g2 g3 g4 v1 v2 v3 fav un s W) (hb:Below W1.heap.size W1 W') (hm : ∀ (k:Nat) cs t fr,W.heap[k]? = some (.cells cs t fr)→W'.heap[k]? = some (.cells cs t fr)):MeI P W1 Bo g1 g2 g3 g4 v1 v2 v3 fav un s W':=by
 obtain⟨h1,h2,h3,h4,h5,h6,ok,v,h7,h8,h9,h10⟩:=h
 have hs : ∀ k,ok k→W'.heap[k]? = W.heap[k]? := fun k hk=>by
  obtain⟨cs,t,fr,hc⟩:=(h8 k hk).2;(rw[hc];exact hm k cs t fr hc)
 refine⟨hb,h2,hm _ _ _ _ h3,hm _ _ _ _ h4,hm _ _ _ _ h5,hm _ _ _ _ h6,ok,v,hm _ _ _ _ h7,fun k hk=>⟨(h8 k hk).1,?_⟩,Kd.N_step h9 (fun k hk _=>hs k hk),fun p cs e=>(h10 p cs e).step (fun k hk _=>hs k hk.1)⟩;obtain⟨cs,t,fr,hc⟩:=(h8 k hk).2;exact⟨cs,t,fr,hm _ _ _ _ hc⟩
theorem MeI.bel (h:MeI P W1 Bo g1 g2 g3 g4 v1 v2 v3 fav un s W):Below W1.heap.size W1 W:=h.1
theorem MeI.below (h:MeI P W1 Bo g1 g2 g3 g4 v1 v2 v3 fav un s W) (hb:Below W.heap.size W W'):MeI P W1 Bo g1 g2 g3 g4 v1 v2 v3 fav un s W' :=
  h.kept (far_ h.1 hb) (fun k cs t fr hk=>farKeep hk hb)
theorem MeI.put (h:MeI P W1 Bo g1 g2 g3 g4 v1 v2 v3 fav un s W) {r:Nat} {o:Obj} (o':Obj) (hr:W1.heap.size≤r) (hl:W.heap[r]? = some o) (ho:o.isCells=false):MeI P W1 Bo g1 g2 g3 g4 v1 v2 v3 fav un s (W.putObj r o'):=by
 refine h.kept (h.1.grown (grownBy_putObj' W r o') h.1.size (fun k e=>by cases e;exact hr)) (fun k cs t fr hk=>?_);refine((grownBy_putObj' W r o').block k (blk_lt hk) (fun e=>?_)).trans hk;cases e;(rw[hk] at hl);cases hl;cases ho
theorem MeI.box (h:MeI P W1 Bo g1 g2 g3 g4 v1 v2 v3 fav un s W) : ∃ A c,W.heap[Bo]? = some (.cells #[.slice A s.1.length c] 35 (0,0))∧Kd.N k66 66 W W1.heap.size (fun k=>k≠Bo∧(P k∧k < W1.heap.size∨W1.heap.size≤k)) (.slice A s.1.length c) s.1:=by
 obtain⟨h1,h2,h3,h4,h5,h6,ok,v,h7,h8,h9,h10⟩:=h;obtain⟨A,c,rfl⟩:=Kd.N_slice h9;exact⟨A,c,h7,Kd.N_mono h9 (fun k hk=>(h8 k hk).1)⟩
theorem MeI.ready {l:List Piece} (h:MeI P W1 Bo g1 g2 g3 g4 v1 v2 v3 fav un (l,none) W) (hb:Below W.heap.size W W') {p:Piece} {cs:Array Value} (hp:PieceAt W' (fun k=>P k∧k < W1.heap.size∨W.heap.size≤k) p cs):MeI P W1 Bo g1 g2 g3 g4 v1 v2 v3 fav un (l,some (p,cs)) W':=by
 have h':=h.below hb;obtain⟨h1,h2,h3,h4,h5,h6,ok,v,h7,h8,h9,h10⟩:=h';obtain⟨g1',g2',g3',g4',g5',g6',ok0,v0,g7,g8,g9,g10⟩:=h
 have hv:v=v0:=by
  have:=farKeep g7 hb;(rw[this] at h7);(injection h7 with h7);(injection h7 with h7);simpa using h7.symm
 subst hv;refine⟨h1,h2,h3,h4,h5,h6,fun k=>ok k∨((P k∧k < W1.heap.size∨W.heap.size≤k)∧CellsAt W' k),v,h7,fun k hk=>?_,Kd.N_mono h9 (fun k hk => .inl hk),fun p' cs' e=>?_⟩
 ·
  rcases hk with hk|hk
  (· exact h8 k hk)
  ·
   have hl:=blk_lt g7;have hsz:=g1'.size
   rcases hk.1 with hk1|hk1
   (· exact⟨⟨by omega, .inl hk1⟩,hk.2⟩);(· exact⟨⟨by omega, .inr (by omega)⟩,hk.2⟩)
 ·
  cases e;refine hp.cells.mono (fun k hk=>⟨.inr hk,fun e=>?_⟩);have a1:=Kd.N_base g9 k e.symm;have a2:=Kd.N_lt g9 k e.symm
  rcases hk.1 with hk|hk <;> omega
end
end Go.Proofs.YtbbhdbeaikclcaaGreat.X
namespace Go.Proofs.YtbbhdbeaikclcaaGreat.X
open Go.RowKit Go.Shelf Go.Proofs.YtbbhdbeaikclcaaGreatW.PrintWords Go.Proofs.YtbbhdbeaikclcaaGreatW.PrintLast Go.Proofs.YtbbhdbeaikclcaaGreatW.PrintMore
attribute [local go_sem] Oper.semAt_some
theorem KeepsOthers.of_below {W W':World} (h:Below W.heap.size W W'):KeepsOthers W W':=⟨h.size,fun k o hk _=>farKeep hk h⟩
theorem merge_pieces (n:Nat) (v1:Option Addr) (n1 k1:Nat) (v2:Option Addr) (n2 k2:Nat) (v3:Option Addr) (n3 k3:Nat) (fav:Int) (un:Bool) (w:World) :
    CallsIn Fence.wide n Tryz.prog 43 #[.slice v1 n1 k1, .slice v2 n2 k2, .slice v3 n3 k3, .agg #[.int .i64 fav, .bool un]] w fun e w'=>e = .returned (.func (.func 87) #[] #[.pointer (some ⟨w.heap.size,0,none⟩), .pointer (some ⟨w.heap.size+1,0,none⟩), .pointer (some ⟨w.heap.size+1+1,0,none⟩), .pointer (some ⟨w.heap.size+1+1+1,0,none⟩)]) ∧
      w'=(((w.alloc (.cells #[.slice v1 n1 k1] 26)).alloc (.cells #[.slice v2 n2 k2] 22)).alloc (.cells #[.slice v3 n3 k3] 23)).alloc (.cells #[.int .i64 fav, .bool un] 34):=by
  refine callsIn_of_wp Tryz.func43 rfl trivial ?_ rfl
  simp only[Tryz.ntmps43,List.size_toArray,List.length_cons,List.length_nil,Nat.reduceAdd,Nat.reduceSub,Array.replicate_succ,Array.replicate_zero,List.push_toArray,List.append_toArray,List.nil_append,List.cons_append]
  gi_wp2
  go_ret
  exact⟨by simp,rfl⟩
def mergePiece (base:List ByteArray) (sides:List (List ByteArray)) (fav:Int) (un:Bool) (c:Chunk):Piece:=if c.f0=true then ⟨false,cutS base c.f1,[],[]⟩ else pieceF (cutS base c.f1) (partsF c.f2 sides) fav un
def ChunkOk (base:List ByteArray) (sides:List (List ByteArray)) (c:Chunk):Prop:=c.f2.length=sides.length∧SpanOk c.f1 base.length ∧ ∀ i (h:i < sides.length),SpanOk (c.f2.getD i z45) sides[i].length
theorem partsF_at {ss:List Spanx} {l:List (List ByteArray)} (h:ss.length=l.length) : ∀ y ∈ partsF ss l,∃ i,∃ hi:i < l.length,y=cutS l[i] (ss.getD i z45):=fun y hy=>by
  obtain⟨i,hi,rfl⟩:=List.mem_iff_getElem.1 hy
  have hi':i < l.length:=by rw[partsF_len h] at hi;exact hi
  refine⟨i,hi',?_⟩
  simp only[partsF,List.getElem_zipWith]
  rw[getD_get (by omega)]
theorem cutL_mem {α:Type} {l:List α} {f t:Nat} {x:α} (h:x ∈ cutL l f t):x ∈ l:=List.mem_of_mem_take (List.mem_of_mem_drop h)
theorem cutL_le {α:Type} (l:List α) (f t:Nat):(cutL l f t).length≤l.length:=by rw[cutL,List.length_drop,List.length_take];omega
theorem partsF_sum {n:Nat} : ∀ {ss:List Spanx} {l:List (List ByteArray)},(∀ y ∈ l,y.length≤n)→((partsF ss l).map List.length).sum≤l.length * n
 | [],l,_=>by simp[partsF]
 | _ :: _,[],_=>by simp[partsF]
 | s :: ss,y :: l,h=>by
  have ih:=partsF_sum (ss:=ss) (l:=l) (fun z hz=>h z (List.mem_cons_of_mem _ hz));have h1:=h y List.mem_cons_self;have h2:=cutL_le y s.f0.toNat s.f1.toNat;(rw[partsF] at ih ⊢);rw[List.zipWith_cons_cons,List.map_cons,List.sum_cons,List.length_cons,Nat.add_mul,Nat.one_mul];show (cutL y s.f0.toNat s.f1.toNat).length+_≤_;omega
theorem pieces_goes (P:Nat→Prop) (n:Nat) (W1:World) (Bo g1 g2 g3 g4:Nat) (chunks:List Chunk) (Ac:Option Addr) (cc:Nat) (base:List ByteArray) (A0:Option Addr) (c0:Nat) (sides:List (List ByteArray)) (A1:Option Addr) (c1:Nat) (fav:Int) (un:Bool)
    (hC:Kd.C k48 W1 Ac chunks.length chunks) (h0:Kd.F Kd.string W1 P A0 base.length base) (hc0:base.length≤c0) (h1:Kd.F KSs W1 P A1 sides.length sides) (hc1:sides.length≤c1) (hok : ∀ c ∈ chunks,ChunkOk base sides c) (hn:sides.length≤1000) (hb:base.length≤100000) (hs : ∀ y ∈ sides,y.length≤100000∧Short 1000000000 y) (hl:chunks.length≤10000000) :
    IterGoes Fence.wide n Tryz.prog 87 #[.pointer (some ⟨g1,0,none⟩), .pointer (some ⟨g2,0,none⟩), .pointer (some ⟨g3,0,none⟩), .pointer (some ⟨g4,0,none⟩)] (fun x:Piece × Array Value=>#[.agg x.2])
      (MeI P W1 Bo g1 g2 g3 g4 (.slice Ac chunks.length cc) (.slice A0 base.length c0) (.slice A1 sides.length c1) fav un) (fun s x=>s.2=some x∧s.1.length < 10000000) (fun s x=>(s.1 ++ [x.1],none)) (fun s=>s=(chunks.map (mergePiece base sides fav un),none)) ([],none):=by
  intro l B hB hY W hI hBW
  refine callsIn_of_wp Tryz.func87 rfl trivial ?_ rfl
  simp only[Tryz.ntmps87,List.size_toArray,List.length_cons,List.length_nil,Nat.reduceAdd,Nat.reduceSub,Array.replicate_succ,Array.replicate_zero,List.push_toArray,List.append_toArray,List.nil_append,List.cons_append]
  have HB:=Aside0.mk hB
  have HY:=Aside0.mk hY
  have HI:=Aside0.mk hI
  have HBW:=Aside0.mk hBW
  have HC:=Aside0.mk hC
  have HF0:Aside0 (Kd.F Kd.string W1 (fun k=>P k∧k < W1.heap.size) A0 base.length base):=⟨Kd.F_bound h0⟩
  have HF1:Aside0 (Kd.F KSs W1 (fun k=>P k∧k < W1.heap.size) A1 sides.length sides):=⟨Kd.F_bound h1⟩
  have HOK:=Aside0.mk hok
  have HSS:=Aside0.mk hs
  have x1:W.cell? ⟨g1,0,none⟩=some (.slice Ac chunks.length cc):=by obtain⟨_,_,q,_⟩:=hI;exact cell_blk q rfl
  obtain⟨MP,hMP⟩ : ∃ f,mergePiece base sides fav un=f:=⟨_,rfl⟩
  have HMP:=Aside0.mk hMP
  rw[hMP]
  clear hB hY hI hBW hC h0 h1 hok hs hMP
  gi_wp2
  gi_loopw [14] (fun iv wr => ∃ (k:Nat),iv = .int .i64 k∧k≤chunks.length∧Aside0 (MeI P W1 Bo g1 g2 g3 g4 (.slice Ac chunks.length cc) (.slice A0 base.length c0) (.slice A1 sides.length c1) fav un ((chunks.take k).map MP,none) wr)∧Aside0 (B wr)) (fun iv _=>chunks.length - (intOf iv).toNat)
  case atStart=>exact⟨0,rfl,Nat.zero_le _,HI,HBW⟩
  case round =>
    obtain⟨k,rfl,hk,HIr,HBr⟩:=hrel
    by_cases hlt:k < chunks.length
    · have hbr:Below W1.heap.size W1 wr:=HIr.out.bel
      obtain⟨ad,A3,c3,rfl,x0,xf,xt,xs,l3,C3⟩:=at_T48 HC.out (k:Int) (by omega) (by omega)
      have hx:rd_T48 chunks (k:Int)=chunks[k]:=getN hlt
      have hok:=HOK.out _ (List.getElem_mem hlt)
      have htk:(chunks.take (k+1)).map MP=(chunks.take k).map MP ++ [MP chunks[k]]:=by rw[← List.take_append_getElem hlt,List.map_append];rfl
      obtain⟨c,hce⟩ : ∃ c,chunks[k]=c:=⟨_,rfl⟩
      rw[hce] at hok htk
      rw[hx,hce] at x0 xf xt xs l3 C3
      obtain⟨st,sb,ss⟩:=c
      dsimp only at x0 xf xt xs l3 C3
      replace x0:=(hbr.cell (World.block_lt_of_cell? W1 _ x0)).trans x0
      replace xf:=(hbr.cell (World.block_lt_of_cell? W1 _ xf)).trans xf
      replace xt:=(hbr.cell (World.block_lt_of_cell? W1 _ xt)).trans xt
      replace xs:=(hbr.cell (World.block_lt_of_cell? W1 _ xs)).trans xs
      have kk:(k:Int).toNat=k:=by omega
      rw[kk] at x0 xf xt xs
      obtain⟨_,_,q1,q2,q3,q4,_⟩:=HIr.out
      have y2 : ∀ o,(wr.alloc o).cell? ⟨g2,0,none⟩=some (.slice A0 base.length c0):=fun o=>cell_alloc_of (cell_blk q2 rfl) o
      have y3 : ∀ o,(wr.alloc o).cell? ⟨g3,0,none⟩=some (.slice A1 sides.length c1):=fun o=>cell_alloc_of (cell_blk q3 rfl) o
      have HC3:=Aside0.mk (Kd.C_below C3 hbr)
      have HTK:=Aside0.mk htk
      have HOKC:=Aside0.mk hok
      have Q4:=Aside0.mk q4
      have HBl:Aside0 (Below W1.heap.size W1 wr):=⟨hbr⟩
      clear kk hx hce htk hok q1 q2 q3 q4 C3 hbr
      gi_wp2_with fail
      obtain⟨w2,hw2⟩ : ∃ w2,wr.alloc (.cells #[.bool st, .int .i64 sb.f0, .int .i64 sb.f1, .slice A3 ss.length c3] 48)=w2:=⟨_,rfl⟩
      have gc2:w2.heap[wr.heap.size]? = some (.cells #[.bool st, .int .i64 sb.f0, .int .i64 sb.f1, .slice A3 ss.length c3] 48 (0,0)):=by rw[← hw2];exact blk_new _ _
      have HB2:Aside0 (Below wr.heap.size wr w2):=⟨by rw[← hw2];exact newBelow _ _⟩
      rw[hw2]
      clear hw2 y2 y3
      refine⟨trivial,fun h=>(by cases h),?_⟩
      refine(callsIn_wide.2 (content_Parts (fun k=>P k∧k < W1.heap.size) st sb A3 c3 ss A0 c0 base A1 c1 sides w2 (Kd.C_below HC3.out HB2.out) l3 (Kd.F_below HF0.out (far_ HBl.out HB2.out)) hc0 (Kd.F_below HF1.out (far_ HBl.out HB2.out)) hc1 HOKC.out.1 HOKC.out.2.1 HOKC.out.2.2 (by omega) (by omega) (fun y hy=>by have:=(HSS.out y hy).1;omega))).mono ?_
      rintro e w3 ⟨At,vp,rfl,HT,HN,hb3⟩
      have HB3:Aside0 (Below wr.heap.size wr w3):=⟨far_ HB2.out hb3.out⟩
      have gc3:=farKeep gc2 hb3.out
      have z0 : ∀ o,(w3.alloc o).cell? ⟨wr.heap.size,0,none⟩=some (.bool st):=fun o=>cell_alloc_of (cell_blk gc3 rfl) o
      have Q43:=Aside0.mk (farKeep Q4.out HB3.out)
      have yf : ∀ o,(w3.alloc o).cell? ⟨g4,0,none⟩=some (.int .i64 fav):=fun o=>cell_alloc_of (cell_blk Q43.out rfl) o
      have yu : ∀ o,(w3.alloc o).cell? ⟨g4,1,none⟩=some (.bool un):=fun o=>cell_alloc_of (cell_blk Q43.out rfl) o
      obtain⟨Ap,cp,rfl⟩:=Kd.N_slice HN.out
      obtain⟨hln,lcp,_⟩:=Kd.N_reads' HN.out
      clear hln
      have HFP:Aside0 (Kd.F KSs w3 (fun k=>P k∧k < W1.heap.size∨w2.heap.size≤k) Ap (partsF ss sides).length (partsF ss sides)):=⟨Kd.N_F HN.out⟩
      have hpl:(partsF ss sides).length=sides.length:=partsF_len HOKC.out.1
      have hpsum:((partsF ss sides).map List.length).sum≤sides.length * 100000:=partsF_sum (fun y hy=>(HSS.out y hy).1)
      have hpsh : ∀ y ∈ partsF ss sides,Short 1000000000 y:=fun y hy=>by
        obtain⟨i,hi,rfl⟩:=partsF_at HOKC.out.1 y hy
        exact fun s hs=>(HSS.out _ (List.getElem_mem hi)).2 s (cutL_mem hs)
      have hmp:MP ⟨st,sb,ss⟩=if st=true then ⟨false,cutS base sb,[],[]⟩ else pieceF (cutS base sb) (partsF ss sides) fav un:=by rw[← HMP.out];rfl
      have hwsz:W1.heap.size≤wr.heap.size∧wr.heap.size≤w2.heap.size∧w2.heap.size≤w3.heap.size:=⟨HBl.out.size,HB2.out.size,hb3.out.size⟩
      obtain⟨T,hT⟩ : ∃ T,cutS base sb=T:=⟨_,rfl⟩
      obtain⟨PT,hPT⟩ : ∃ T,partsF ss sides=T:=⟨_,rfl⟩
      rw[hT,hPT] at hmp
      rw[hT] at HT ⊢
      rw[hPT] at HFP hpl hpsum hpsh lcp ⊢
      have HPL:=Aside0.mk hpl
      have HPS:=Aside0.mk hpsum
      have HPH:=Aside0.mk hpsh
      have HMPC:=Aside0.mk hmp
      have HSZ:=Aside0.mk hwsz
      have HGC3:=Aside0.mk gc3
      clear gc2 gc3 hb3 HN hT hPT hpsum hpsh hmp hwsz hpl
      cases st with
      | true =>
        rw[if_pos rfl] at HMPC
        obtain⟨w4,hw4⟩ : ∃ w4,w3.alloc (.cells #[.bool false, .slice At T.length T.length, .slice none 0 0, .slice none 0 0] 66)=w4:=⟨_,rfl⟩
        have hb4:Below wr.heap.size wr w4:=by rw[← hw4];exact far_ HB3.out (newBelow _ _)
        have hp4:PieceAt w4 (fun k=>P k∧k < W1.heap.size∨wr.heap.size≤k) ⟨false,T,[],[]⟩ #[.bool false, .slice At T.length T.length, .slice none 0 0, .slice none 0 0]:=PieceAt.text rfl (Nat.le_refl _) (Kd.F_mono (Kd.F_below HT.out (by rw[← hw4];exact newBelow _ _)) (fun k hk => .inl hk.1))
        have hI4:=HIr.out.ready hb4 hp4
        obtain⟨fn,tmps,assign,body,hy,hR⟩:=HY.out _ ((⟨false,T,[],[]⟩:Piece),#[.bool false, .slice At T.length T.length, .slice none 0 0, .slice none 0 0]) w4 hI4 (HB.out _ _ HBr.out (KeepsOthers.of_below hb4)) ⟨rfl,by simp only[List.length_map,List.length_take];omega⟩
        dsimp only at hy
        clear hI4 hp4 hb4
        subst hw4
        gi_wp2
        refine⟨fun h=>(by cases h),hR.mono ?_⟩
        rintro e W3 ⟨rfl,hI3,hB3⟩
        have HI3:=Aside0.mk hI3
        have HBW3:=Aside0.mk hB3
        clear hI3 hB3 hy hR
        gi_wp2
        go_roundw
        case measure=>simp[intOf];omega
        case rel=>exact⟨k+1,by go_num,by omega,by rw[HTK.out,HMPC.out];exact HI3,HBW3⟩
      | false =>
        rw[if_neg (by decide)] at HMPC
        gi_wp2_with fail
        obtain⟨w4,hw4⟩ : ∃ w4,w3.alloc (.cells #[.bool false, .slice At T.length T.length, .slice none 0 0, .slice none 0 0] 66)=w4:=⟨_,rfl⟩
        have g4':w4.heap[w3.heap.size]? = some (.cells #[.bool false, .slice At T.length T.length, .slice none 0 0, .slice none 0 0] 66 (0,0)):=by rw[← hw4];exact blk_new _ _
        have hb34:Below w3.heap.size w3 w4:=by rw[← hw4];exact newBelow _ _
        have hs4:w4.heap.size=w3.heap.size+1:=by rw[← hw4];simp
        rw[hw4]
        clear hw4 z0 yf yu
        have HB4:Aside0 (Below wr.heap.size wr w4):=⟨far_ HB3.out hb34⟩
        refine⟨trivial,fun h=>(by cases h),?_⟩
        refine(callsIn_wide.2 (pick_Piece (fun k=>(P k∧k < W1.heap.size∨w2.heap.size≤k)∧k < w3.heap.size) T At T.length Ap cp PT fav un w4 (Kd.F_mono (Kd.F_old HT.out hb34) (fun k hk=>⟨.inl hk.1.1,hk.2⟩)) (Nat.le_refl _) (Kd.F_old HFP.out hb34) lcp (by rw[HPL.out];omega) HPH.out (by have:=HPS.out;have:sides.length * 100000≤1000 * 100000:=Nat.mul_le_mul_right _ hn;omega))).mono ?_
        rintro e w5 ⟨cs,rfl,HP5,HB5⟩
        obtain⟨p,hp⟩ : ∃ p,pieceF T PT fav un=p:=⟨_,rfl⟩
        rw[hp] at HP5 HMPC
        have hpa:=HP5.out
        obtain⟨B1,d1,B2,d2,B3,d3,rfl,_⟩:=HP5.out
        have G5:=farKeep g4' HB5.out
        have hb5:Below wr.heap.size wr (set4 w5 w3.heap.size (.bool p.f0) (.slice B1 p.f1.length d1) (.slice B2 p.f2.length d2) (.slice B3 p.f3.length d3)):=set4_below (far_ HB4.out HB5.out) HB3.out.size
        have hp6:=PieceAt.set4 (ok:=fun k=>P k∧k < W1.heap.size∨wr.heap.size≤k) (g:=w3.heap.size) (a := .bool p.f0) (b := .slice B1 p.f1.length d1) (c := .slice B2 p.f2.length d2) (d := .slice B3 p.f3.length d3) hpa (fun k hk=>by rcases hk with hk|hk <;> omega) (fun k hk=>by
          have h1:=HSZ.out
          have h2:=HB4.out.size
          rcases hk with hk|hk
          · rcases hk.1 with hk1|hk1
            · exact .inl hk1
            · exact .inr (by omega)
          · exact .inr (by omega))
        have hI6:=HIr.out.ready hb5 hp6
        obtain⟨fn,tmps,assign,body,hy,hR⟩:=HY.out _ (p,#[.bool p.f0, .slice B1 p.f1.length d1, .slice B2 p.f2.length d2, .slice B3 p.f3.length d3]) _ hI6 (HB.out _ _ HBr.out (KeepsOthers.of_below hb5)) ⟨rfl,by simp only[List.length_map,List.length_take];omega⟩
        dsimp only at hy
        rw[set4] at hy hR
        have ya:w5.cell? ⟨w3.heap.size,0,none⟩=some (.bool false):=cell_blk G5 rfl
        have yb:w5.cell? ⟨w3.heap.size,1,none⟩=some (.slice At T.length T.length):=cell_blk G5 rfl
        have yc:w5.cell? ⟨w3.heap.size,2,none⟩=some (.slice none 0 0):=cell_blk G5 rfl
        have yd:w5.cell? ⟨w3.heap.size,3,none⟩=some (.slice none 0 0):=cell_blk G5 rfl
        have fz : ∀ j,w5.frozen? ⟨w3.heap.size,j,none⟩=false:=fun j=>frozen_of_row _ _ _ _ _ G5
        have fa:=fz 0
        clear hI6 hp6 hb5 hpa G5 g4' hb34 hp
        gi_wp2
        refine⟨fun h=>(by cases h),hR.mono ?_⟩
        rintro e W3 ⟨rfl,hI3,hB3⟩
        have HI3:=Aside0.mk hI3
        have HBW3:=Aside0.mk hB3
        clear hI3 hB3 hy hR
        gi_wp2
        go_roundw
        case measure=>simp[intOf];omega
        case rel=>exact⟨k+1,by go_num,by omega,by rw[HTK.out,HMPC.out];exact HI3,HBW3⟩
    · have hk':k=chunks.length:=by omega
      subst hk'
      rw[List.take_length] at HIr
      gi_wp2
      go_end0
      exact⟨⟨_,rfl⟩,⟨_,rfl,HIr.out,HBr.out⟩⟩
end Go.Proofs.YtbbhdbeaikclcaaGreat.X
namespace Go.Proofs.YtbbhdbeaikclcaaGreat.X
open Go.RowKit Go.Shelf Go.Proofs.YtbbhdbeaikclcaaGreatW.PrintWords Go.Proofs.YtbbhdbeaikclcaaGreatW.PrintLast Go.Proofs.YtbbhdbeaikclcaaGreatW.PrintMore
attribute [local go_sem] Oper.semAt_some
theorem wpIn_range_box {σ α:Type} {F:Fence} {n:Nat} {P:Program} {g:Operand} {ps:Array Tmp} {assign body:Code} {Q:Exit→Act→World→Prop} {a:Act} {w:World}
    (hro:F.round=none) (h1:1≤n) {gf:Nat} {lb:Array Value} (hg:a.eval g = .func (.func gf) #[] lb) (hFg:F.fn gf) (eg : ∀ args w,(callFunc gf args).run P w = .ok (.enter gf args) w)
    {encs:α→Array Value} (hps : ∀ x,(encs x).size=ps.size) {I:σ→World→Prop} {ok:σ→α→Prop} {step:σ→α→σ} {S:σ→Prop} {s0:σ}
    (hit:IterGoes F (n - 1) P gf lb encs I ok step S s0) (rs:Tmp) (H:α→Nat→World→Prop)
    (hput : ∀ s W (r:Nat) (o o':Obj),I s W→w.heap.size≤r→W.heap[r]? = some o→o.isCells=false→I s (W.putObj r o'))
    (hHput : ∀ x b W (r:Nat) (o o':Obj),H x b W→W.heap[r]? = some o→o.isCells=false→H x b (W.putObj r o'))
    (halloc : ∀ s W (o:Obj),I s W→I s (W.alloc o)) (h0:I s0 w)
    (hassign : ∀ (l:Nat) (s:σ) (x:α) (W:World) (K:Act→World→Prop),I s W→ok s x→(∀ b W',I s W'→KeepsOthers W W'→H x b W'→K { tmps:=((ps.zip (encs x)).foldl (fun t (p,v)=>t.setIfInBounds p v) a.tmps).setIfInBounds rs (.pointer (some ⟨b,0,none⟩)),defers:=[] } W') →
      assign.wpIn (F.inRound l) (n - 1 - 1) P (Exit.then K (fun _ _ _=>False)) { tmps:=(ps.zip (encs x)).foldl (fun t (p,v)=>t.setIfInBounds p v) a.tmps,defers:=[] } W)
    (hbody : ∀ (l:Nat) (s:σ) (x:α) (b:Nat) (W:World),I s W→ok s x→H x b W→body.wpIn (F.inRound l) (n - 1 - 1) P (fun e _ W'=>e = .normal∧KeepsOthers W W'∧I (step s x) W') { tmps:=((ps.zip (encs x)).foldl (fun t (p,v)=>t.setIfInBounds p v) a.tmps).setIfInBounds rs (.pointer (some ⟨b,0,none⟩)),defers:=[] } W)
    (hdone : ∀ (s:σ) (W:World),S s→I s W→W.heap[w.heap.size]? = some (.deferred (some []))→Q .normal { a with defers:={ target := .collected w.heap.size,args:=#[] } :: a.defers } W) :
    (Code.rangeFunc g ps assign body).wpIn F n P Q a w:=by
  refine wpIn_rangeFunc fun fn hfn=>?_
  rw[hro]
  let rec_:LoopState→Option Code→Loop:=fun st pe=>{ state:=st,pending:=pe,fn:=fn,tmps:=a.tmps,params:=ps,assign:=assign,body:=body,defers:=w.heap.size }
  let W1:=(w.alloc (.deferred (some []))).alloc (.loop (rec_ .ready none))
  have hl1:W1.heap[w.heap.size+1]? = some (.loop (rec_ .ready none)):=by
    have:=World.alloc_heap_new (w.alloc (.deferred (some []))) (.loop (rec_ .ready none))
    rwa [World.size_alloc] at this
  have hd1:W1.heap[w.heap.size]? = some (.deferred (some [])):=(Below.heap_alloc _ _ _ (by simp)).trans (World.alloc_heap_new w _)
  refine⟨w.heap.size+1,[{ target := .collected w.heap.size,args:=#[] }],W1,{ target := .fn (.func gf) lb,args:=#[.func (.yield (w.heap.size+1)) #[] #[]] },W1,gf,
    #[.func (.yield (w.heap.size+1)) #[] #[]] ++ lb,W1,run_enterLoop_outer _ _ _ _ _,?_,?_,?_,fun _=>h1,?_⟩
  · simp only[resolve,hg]
    simp[go_sem]
  · intro f' hf'
    simp[Target.leads] at hf'
    subst hf'
    exact hFg
  · simp[invoke,go_sem,eg]
  · refine(hit (w.heap.size+1) (fun W=>W.heap[w.heap.size+1]? = some (.loop (rec_ .ready none))∧W.heap[w.heap.size]? = some (.deferred (some [])))
      (fun W W' h k=>⟨k.same _ _ h.1 rfl,k.same _ _ h.2 rfl⟩) ?_ W1 (halloc _ _ _ (halloc _ _ _ h0)) ⟨hl1,hd1⟩).mono ?_
    · rintro s x W hI ⟨hl,hd⟩ hok
      refine⟨fn,_,assign,body,run_yield (P:=P) (args:=encs x) hl (hps x),roundIn_of_wpIn hfn (hassign _ s x W _ hI hok fun b' W' hI' hk' hH'=>?_)⟩
      have hl':=hk'.same _ _ hl rfl
      have hd':=hk'.same _ _ hd rfl
      have hlt:w.heap.size+1 < W'.heap.size:=(Array.getElem?_eq_some_iff.1 hl').1
      refine⟨_,run_beginRound hl' rfl,?_⟩
      have hl2:(W'.putObj (w.heap.size+1) (.loop (rec_ .busy none))).heap[w.heap.size+1]? = some (.loop (rec_ .busy none)):=World.putObj_heap_same hlt
      have hd2:(W'.putObj (w.heap.size+1) (.loop (rec_ .busy none))).heap[w.heap.size]? = some (.deferred (some [])):=(World.putObj_heap_other (by omega)).trans hd'
      refine wpIn_mono (hbody _ s x _ _ (hput _ _ _ _ _ hI' (by omega) hl' rfl) hok (hHput _ _ _ _ _ _ hH' hl' rfl)) ?_
      rintro e a3 W3 ⟨rfl,hk3,hi3⟩
      have hl3:=hk3.same _ _ hl2 rfl
      have hd3:=hk3.same _ _ hd2 rfl
      exact⟨_,_,run_endRound (P:=P) none hl3,rfl,hput _ _ _ _ _ hi3 (by omega) hl3 rfl,World.putObj_heap_same (Array.getElem?_eq_some_iff.1 hl3).1,(World.putObj_heap_other (by omega)).trans hd3⟩
    · rintro e W2 ⟨⟨v,rfl⟩,s,hS,hi,hl,hd⟩
      exact⟨none,_,run_endLoop (P:=P) hl (by simp[rec_]),hdone s _ hS (hput _ _ _ _ _ hi (by omega) hl rfl) ((World.putObj_heap_other (by omega)).trans hd)⟩
section
variable {F:Fence} {nF:Nat} {P:Program} {ops:Array Oper} {rest:List Oper} {o:Oper} {a:Act} {Q:Exit→Act→World→Prop}
theorem N_appendIn {α:Type} (d:Kd α) {W:World} (base:Nat) (hgd:o.guard=none) (s x:Operand) (t e:TypeId) (z:Value) (bytes:Nat)
    (ho:o.op = .call { callee := .builtin .append,args:=#[s,x],argTypes:=#[t,t] })
    (ht:P.underlying t=some (.slice e)) (hinfo:(P.info? e).map (fun i=>(i.zero,i.size,i.bytes))=some (some z,d.sz,bytes)) (hz:z.cells.size=d.sz) (hs0:0 < d.sz)
    (v:Value) (xs:List α) (p:α) (cs:List Value) (ok okp:Nat→Prop) (hs:a.eval s=v) (hx:a.eval x = .slice (some ⟨W.heap.size,0,none⟩) 1 1) (hp:Kd.FK d W okp p cs) (hokp : ∀ k,okp k→ok k∧some k≠v.ownBlock) (hfresh : ∀ k,W.heap.size≤k→ok k)
    (HO:Kd.N d e W base ok v xs) (hbase:base≤W.heap.size) (hl:xs.length≤1000000000) (hb:bytes≤1000)
    (h : ∀ v1 w1,Kd.N d e w1 base ok v1 (xs ++ [p])→(W.alloc (.cells cs.toArray e)).grownBy w1 v.ownBlock→(v1.ownBlock=v.ownBlock ∨ ∃ b,v1.ownBlock=some b∧W.heap.size≤b)→wpListIn F nF P ops Q rest (a.put o.dst v1) w1) :
    wpListIn F nF P ops Q (o :: rest) a (W.alloc (.cells cs.toArray e)):=by
 have HO2:=Kd.N_alloc HO (.cells cs.toArray e);obtain⟨h0,rows,hlr,⟨h0',inner,hown,hr⟩,hf⟩:=HO2;obtain⟨i0,hi,hzz⟩:=Option.map_eq_some_iff.1 hinfo;(simp only[Prod.mk.injEq] at hzz);obtain⟨hz1,hz2,hz3⟩:=hzz;have hcl:cs.length=d.sz:=d.K_len (Kd.FK_now hp);have hc1:=d.K_one (Kd.FK_now hp);have hmul:(rows.length+1) * bytes≤(rows.length+1) * 1000:=Nat.mul_le_mul_left _ hb;refine wpListIn_append_own_at _ hgd s x t ho base e i0 z d.sz bytes ht hi hz1 hz2 hz3 hz hs0 v rows.length inner hs hown ⟨W.heap.size,0,none⟩ 1 1 cs hx (by rw[hcl,Nat.one_mul]) (fun j u hu=>?_) hc1 (by unfold maxLen;omega) (by omega) (by simp;omega) ?_;(· rw[addr_add0];exact cell_blk (blk_new W _) (by rw[List.getElem?_toArray];exact hu))
 ·
  intro v' w' hown' hg' _ hat';have hat:v'.ownBlock=v.ownBlock ∨ ∃ b,v'.ownBlock=some b∧(W.alloc (.cells cs.toArray e)).heap.size≤b:=hat'.imp id (fun h=>⟨_,h,Nat.le_refl _⟩);have hR:=Kd.R_appended (d:=Kd.raw d.sz) (ok:=fun _=>True) (okp:=fun _=>False) (W:=W.alloc (.cells cs.toArray e)) (w1:=w') (v:=v) (v1:=v') (xs:=rows) (p:=cs) (inner:=inner) (cs:=cs) (fun _ _=>trivial) (hr.imp_ (fun _ _ hq=>(Kd.raw d.sz).M_mono (fun k hk=>⟨trivial,hk.2⟩) hq)) ⟨rfl,hcl,hc1⟩ (fun _ hk=>hk.elim) (fun _ _=>trivial) hown' hg' hat
  exact h v' w' (Kd.N_appended h0 hlr hf (ys:=[p]) (news:=[cs]) rfl (fun j y c hy hc=>by
   rcases j with _|j
   (· (simp only[List.getElem?_cons_zero,Option.some.injEq] at hy hc);(rw[← hy,← hc];exact Kd.FK_below hp (newBelow W _)))
   ·
    simp at hy) hokp (fun k hk=>hfresh k (by simp at hk;omega)) hR hg' hat) hg' (hat.imp id (fun ⟨b,h1,h2⟩=>⟨b,h1,by simp at h2;omega⟩))
end
end Go.Proofs.YtbbhdbeaikclcaaGreat.X
namespace Go.Proofs.YtbbhdbeaikclcaaGreat.X
open Go.RowKit Go.Shelf Go.Proofs.YtbbhdbeaikclcaaGreatW.PrintWords Go.Proofs.YtbbhdbeaikclcaaGreatW.PrintLast Go.Proofs.YtbbhdbeaikclcaaGreatW.PrintMore
attribute [local go_sem] Oper.semAt_some
def mergeF (base:List ByteArray) (sides:List (List ByteArray)) (fav:Int) (un:Bool):List Piece × Int :=
  if (chunksF base sides).2≠0 then ([],(chunksF base sides).2)
  else if fav < 0∨(sides.length:Int) < fav∨(0 < fav∧un=true) then ([],1)
  else (normalF ((chunksF base sides).1.map (mergePiece base sides fav un)),0)
def MergeOk (base:List ByteArray) (sides:List (List ByteArray)) (fav:Int) (un:Bool):Prop :=
  chunksOk base sides=true∧((chunksF base sides).2=0→(∀ c ∈ (chunksF base sides).1,ChunkOk base sides c)∧(chunksF base sides).1.length≤1000000∧tsum ((chunksF base sides).1.map (mergePiece base sides fav un))≤1000000)
theorem chunksF_wrong (base:List ByteArray) (sides:List (List ByteArray)) (h:(chunksF base sides).2=0):wrongF mayL (base :: sides)=0:=by
 (unfold chunksF at h);(split at h);(· exact h);(· rename_i h2;exact Classical.not_not.1 h2)
theorem N_put {W:World} {e base r:Nat} {ok:Nat→Prop} {v:Value} {xs:List Piece} {o o':Obj} (h:Kd.N k66 e W base ok v xs) (hl:W.heap[r]? = some o) (ho:o.isCells=false):Kd.N k66 e (W.putObj r o') base ok v xs:=by
 refine Kd.N_mono (Kd.N_step (N_cells h) (fun k hk hlt=>?_)) (fun _ hk=>hk.1);refine(grownBy_putObj' W r o').block k hlt (fun e=>?_);cases e;obtain⟨cs,t,fr,hc⟩:=hk.2;(rw[hc] at hl);cases hl;cases ho
theorem hbase2 {base:List ByteArray} {sides:List (List ByteArray)} (h1 : ∀ y ∈ sides,y.length≤2000) (h2 : ∀ l ∈ base :: sides,l.length≤1000000 ∧ ∀ s ∈ l,s.size≤1000000000) : ∀ y ∈ sides,y.length≤100000∧Short 1000000000 y:=fun y hy=>⟨by have:=h1 y hy;omega,fun s hs=>(h2 y (List.mem_cons_of_mem _ hy)).2 s hs⟩
theorem MeI.start (P:Nat→Prop) (w:World) (v1 v2 v3:Value) (fav:Int) (un:Bool):MeI P w w.heap.size (w.heap.size+1) (w.heap.size+1+1) (w.heap.size+1+1+1) (w.heap.size+1+1+1+1) v1 v2 v3 fav un ([],none) (((((w.alloc (.cells #[.slice none 0 0] 35)).alloc (.cells #[v1] 26)).alloc (.cells #[v2] 22)).alloc (.cells #[v3] 23)).alloc (.cells #[.int .i64 fav, .bool un] 34)):=by
 have b1:=newBelow w (.cells #[.slice none 0 0] 35);have n0:=blk_new w (.cells #[.slice none 0 0] 35);(have s0:(w.alloc (.cells #[.slice none 0 0] 35)).heap.size=w.heap.size+1:=by simp);obtain⟨wa,hwa⟩ : ∃ wa,w.alloc (.cells #[.slice none 0 0] 35)=wa:=⟨_,rfl⟩;(rw[hwa] at b1 n0 s0 ⊢);have b2:=b1.trans ((newBelow wa (.cells #[v1] 26)).mono (by omega));have n1:=blk_new wa (.cells #[v1] 26);have n0:=newKeep n0 (.cells #[v1] 26);(have s1:(wa.alloc (.cells #[v1] 26)).heap.size=wa.heap.size+1:=by simp);obtain⟨wb,hwb⟩ : ∃ wb,wa.alloc (.cells #[v1] 26)=wb:=⟨_,rfl⟩;(rw[hwb] at b2 n0 n1 s1 ⊢);have b3:=b2.trans ((newBelow wb (.cells #[v2] 22)).mono (by omega));have n2:=blk_new wb (.cells #[v2] 22);have n0:=newKeep n0 (.cells #[v2] 22);have n1:=newKeep n1 (.cells #[v2] 22);(have s2:(wb.alloc (.cells #[v2] 22)).heap.size=wb.heap.size+1:=by simp);obtain⟨wc,hwc⟩ : ∃ wc,wb.alloc (.cells #[v2] 22)=wc:=⟨_,rfl⟩;(rw[hwc] at b3 n0 n1 n2 s2 ⊢);have b4:=b3.trans ((newBelow wc (.cells #[v3] 23)).mono (by omega));have n3:=blk_new wc (.cells #[v3] 23);have n0:=newKeep n0 (.cells #[v3] 23);have n1:=newKeep n1 (.cells #[v3] 23);have n2:=newKeep n2 (.cells #[v3] 23);(have s3:(wc.alloc (.cells #[v3] 23)).heap.size=wc.heap.size+1:=by simp);obtain⟨wd,hwd⟩ : ∃ wd,wc.alloc (.cells #[v3] 23)=wd:=⟨_,rfl⟩;(rw[hwd] at b4 n0 n1 n2 n3 s3 ⊢);have b5:=b4.trans ((newBelow wd (.cells #[.int .i64 fav, .bool un] 34)).mono (by omega));have n4:=blk_new wd (.cells #[.int .i64 fav, .bool un] 34);(rw[s3,s2,s1,s0] at n4);have m0:=newKeep n0 (.cells #[.int .i64 fav, .bool un] 34);have m1:=newKeep n1 (.cells #[.int .i64 fav, .bool un] 34);have m2:=newKeep n2 (.cells #[.int .i64 fav, .bool un] 34);have m3:=newKeep n3 (.cells #[.int .i64 fav, .bool un] 34);(rw[s0] at m1);(rw[s1,s0] at m2);(rw[s2,s1,s0] at m3);exact⟨b5,Nat.le_refl _,m1,m2,m3,n4,fun _=>False,_,m0,fun k h=>h.elim,⟨fun k hk=>by simp[Value.ownBlock] at hk,[],rfl,Kd.R_nil _ _ _ _ _,fun j x c hx=>by simp at hx⟩,fun p cs e=>by cases e⟩
theorem MeI.lay {P:Nat→Prop} {W1 W w1:World} {Bo g1 g2 g3 g4:Nat} {v1 v2 v3 v v':Value} {fav:Int} {un:Bool} {done:List Piece} {p:Piece} {cs:Array Value} {ok:Nat→Prop} (h:MeI P W1 Bo g1 g2 g3 g4 v1 v2 v3 fav un (done,some (p,cs)) W)
    (hv:W.heap[Bo]? = some (.cells #[v] 35 (0,0))) (hok : ∀ k,ok k→(k≠Bo∧(P k∧k < W1.heap.size∨W1.heap.size≤k))∧CellsAt W k) (hN0:Kd.N k66 66 W W1.heap.size ok v done) {o:Array Value} (hN:Kd.N k66 66 w1 W1.heap.size (fun k=>ok k∨W.heap.size≤k) v' (done ++ [p])) (hg:(W.alloc (.cells o 66)).grownBy w1 v.ownBlock) :
    MeI P W1 Bo g1 g2 g3 g4 v1 v2 v3 fav un (done ++ [p],none) (w1.setCell ⟨Bo,0,none⟩ v')∧KeepsOthers W (w1.setCell ⟨Bo,0,none⟩ v'):=by
 obtain⟨h1,h2,h3,h4,h5,h6,_⟩:=h
 have hkeep : ∀ (k:Nat) cells t,W.heap[k]? = some (.cells cells t (0,0))→t≠66→w1.heap[k]? = some (.cells cells t (0,0)):=fun k cells t hk ht =>
  (hg.block k (by have:=blk_lt hk;simp;omega) (Kd.N_ne hN0 hk (fun e=>ht e.symm))).trans (newKeep hk _)
 have hbox:=hkeep Bo _ _ hv (by decide)
 have hset : ∀ (k:Nat) cells t,W.heap[k]? = some (.cells cells t (0,0))→t≠66→t≠35→(w1.setCell ⟨Bo,0,none⟩ v').heap[k]? = some (.cells cells t (0,0)):=fun k cells t hk ht ht2 =>
  setKeep (hkeep k cells t hk ht) (blkNe hk hv ht2) _
 refine⟨⟨?_,h2,hset _ _ _ h3 (by decide) (by decide),hset _ _ _ h4 (by decide) (by decide),hset _ _ _ h5 (by decide) (by decide),hset _ _ _ h6 (by decide) (by decide),fun k=>(ok k∨W.heap.size≤k)∧CellsAt w1 k,v',?_,fun k hk=>?_,?_,fun p cs e=>by cases e⟩,?_⟩;(· have hb1:Below W1.heap.size W1 (W.alloc (.cells o 66)):=h1.alloc h1.size _;exact(hb1.grown hg hb1.size (fun k e=>Kd.N_base hN0 k e)).setCell (p:=⟨Bo,0,none⟩) h2 _);(· (rw[heap_set_same hbox];rfl))
 ·
  have hne:k≠Bo∧(P k∧k < W1.heap.size∨W1.heap.size≤k):=by
   rcases hk.1 with hk1|hk1
   (· exact(hok k hk1).1);(· have:=blk_lt hv;have:=h1.size;exact⟨by omega, .inr (by omega)⟩)
  refine⟨hne,?_⟩;replace hne:=hne.1;obtain⟨cs',t,fr,hc⟩:=hk.2;exact⟨cs',t,fr,setKeep hc hne _⟩
 ·
  refine Kd.N_far (N_cells hN) (fun k hk=>?_) _
  rcases hk.1 with hk1|hk1
  (· exact(hok k hk1).1.1);(· (have:=blk_lt hv;show k≠Bo;omega))
 (· refine((KeepsOthers.alloc W _).trans (KeepsOthers.of_grownBy hg (fun j o' hj ho'=>?_))).trans (KeepsOthers.setCell _ _ _);obtain⟨cs',hc⟩:=Kd.N_typed hN0 j hj;(rw[newKeep hc] at ho');cases ho';rfl)
theorem merge_Merge (P:Nat→Prop) (A0:Option Addr) (c0:Nat) (base:List ByteArray) (A1:Option Addr) (c1:Nat) (sides:List (List ByteArray)) (fav:Int) (un:Bool) (w:World) (hf0:Kd.F Kd.string w P A0 base.length base) (hc0:base.length≤c0) (hf1:Kd.F KSs w P A1 sides.length sides) (hc1:sides.length≤c1) (h:MergeOk base sides fav un) :
    Calls Tryz.prog 18 #[.slice A0 base.length c0, .slice A1 sides.length c1, .agg #[.int .i64 fav, .bool un]] w fun e w' => ∃ v0_:Value,e = .returned (.tuple #[v0_, .int .i64 (mergeF base sides fav un).2])∧Kd.N k66 66 w' w.heap.size (fun k=>P k∨w.heap.size≤k) v0_ (mergeF base sides fav un).1∧Below w.heap.size w w':=by
 have hr0:=Kd.F_now hf0;have hr1:=Kd.F_now hf1;have HF0:=Aside0.mk hf0;have HF1:=Aside0.mk hf1;obtain⟨hok,hrest⟩:=h;(have hchk:merge_Chunks.f base sides=some (chunksF base sides):=by rw[merge_Chunks.f,if_pos hok]);have hok2:=of_decide_eq_true hok;have hwr:=chunksF_wrong base sides;(have hmf:mergeF base sides fav un=if (chunksF base sides).2≠0 then ([],(chunksF base sides).2) else if fav < 0∨(sides.length:Int) < fav∨(0 < fav∧un=true) then ([],1) else (normalF ((chunksF base sides).1.map (mergePiece base sides fav un)),0):=rfl);obtain⟨R,hR⟩ : ∃ R,mergeF base sides fav un=R:=⟨_,rfl⟩;(rw[hR] at hmf ⊢);obtain⟨⟨ch,cd⟩,hcc⟩ : ∃ c,chunksF base sides=c:=⟨_,rfl⟩;(rw[hcc] at hchk hrest hmf hwr);(dsimp only at hrest hmf hwr);have HR0:=Aside0.mk hr0;have HR1:=Aside0.mk hr1;have HCHK:=Aside0.mk hchk;have HREST:=Aside0.mk hrest;have HMF:=Aside0.mk hmf;have HWR:=Aside0.mk hwr;have HOK2:=Aside0.mk hok2;clear hr0 hr1 hf0 hf1 hchk hrest hmf hwr hR hcc hok hok2;refine(callsIn_wide (n:=3)).1 ?_;refine callsIn_of_wp_marks Tryz.func18 rfl trivial ?_ rfl;simp only[Tryz.ntmps18,List.size_toArray,List.length_cons,List.length_nil,Nat.reduceAdd,Nat.reduceSub,Array.replicate_succ,Array.replicate_zero,List.push_toArray,List.append_toArray,List.nil_append,List.cons_append];(gi_wp2_with fail);obtain⟨w1,hw1⟩ : ∃ w1,w.alloc (.cells #[.int .i64 fav, .bool un] 34)=w1:=⟨_,rfl⟩;have HB1:Aside0 (Below w.heap.size w w1):=⟨by rw[← hw1];exact newBelow _ _⟩;(have gh1:w1.heap[w.heap.size]? = some (.cells #[.int .i64 fav, .bool un] 34 (0,0)):=by rw[← hw1];exact blk_new _ _);rw[hw1];clear hw1;refine⟨trivial,?_⟩;refine(callsIn_wide.2 (merge_Chunks.calls A0 c0 base A1 c1 sides ch cd w1 (Kd.C_below HR0.out HB1.out) hc0 (Kd.C_below HR1.out HB1.out) hc1 HCHK.out)).mono ?_;rintro e w2 ⟨v2,rfl,hs2,hb2⟩;have HB2:Aside0 (Below w.heap.size w w2):=⟨far_ HB1.out hb2⟩;have gh2:=farKeep gh1 hb2;have yf:w2.cell? ⟨w.heap.size,0,none⟩=some (.int .i64 fav):=cell_blk gh2 rfl;have yu:w2.cell? ⟨w.heap.size,1,none⟩=some (.bool un):=cell_blk gh2 rfl;obtain⟨Ac,cc,rfl⟩:=Kd.S_slice hs2;have HC2:Aside0 (Kd.C k48 w2 Ac ch.length ch):=⟨(Kd.S_reads' hs2).2.2⟩;have HGH:=Aside0.mk gh2;clear hs2 hb2 gh1 gh2
 by_cases hcd:cd=0
 ·
  subst hcd;have hm:=HMF.out;(rw[if_neg (fun h=>h rfl)] at hm);obtain⟨hz1,hz2,_,hz4⟩:=wrongF_zero (HWR.out rfl);obtain⟨hch1,hch2,hch3⟩:=HREST.out rfl;have HCH:=Aside0.mk hch1;have HTS:=Aside0.mk hch3;have HLE:Aside0 (base.length≤2000 ∧ ∀ y ∈ sides,y.length≤2000):=⟨hz4 _ List.mem_cons_self,fun y hy=>hz4 _ (List.mem_cons_of_mem _ hy)⟩;have HNS:Aside0 (sides.length≤16):=⟨by simp only[List.length_cons] at hz2;omega⟩;clear hz1 hz2 hz4 hch1 hch3
  by_cases hbad:fav < 0∨(sides.length:Int) < fav∨(0 < fav∧un=true)
  ·
   (rw[if_pos hbad] at hm);subst hm
   have hcases:(fav < 0)∨(¬ fav < 0∧(sides.length:Int) < fav)∨(¬ fav < 0 ∧ ¬ (sides.length:Int) < fav∧0 < fav∧un=true):=by
    by_cases a:fav < 0
    (· exact .inl a)
    ·
     by_cases b:(sides.length:Int) < fav
     (· exact .inr (.inl ⟨a,b⟩))
     ·
      rcases hbad with h|h|h
      (· exact absurd h a);(· exact absurd h b);(· exact .inr (.inr ⟨a,b,h⟩))
   clear hbad
   rcases hcases with a|⟨a,b⟩|⟨a,b,c,d⟩
   (· have e1:decide (fav < 0)=true:=decide_eq_true a;gi_wp2;exact⟨_,results_tmp2 rfl _ _ _, .slice none 0 0,rfl,Kd.N_nil _ _ _ _ _,HB2.out⟩);(· have e1:decide (fav < 0)=false:=decide_eq_false a;have e2:decide ((sides.length:Int) < fav)=true:=decide_eq_true b;gi_wp2;exact⟨_,results_tmp2 rfl _ _ _, .slice none 0 0,rfl,Kd.N_nil _ _ _ _ _,HB2.out⟩);(· subst d;have e1:decide (fav < 0)=false:=decide_eq_false a;have e2:decide ((sides.length:Int) < fav)=false:=decide_eq_false b;have e3:decide (0 < fav)=true:=decide_eq_true c;gi_wp2;exact⟨_,results_tmp2 rfl _ _ _, .slice none 0 0,rfl,Kd.N_nil _ _ _ _ _,HB2.out⟩)
  ·
   (rw[if_neg hbad] at hm);subst hm;(have ha : ¬ fav < 0:=fun h=>hbad (.inl h));(have hb : ¬ (sides.length:Int) < fav:=fun h=>hbad (.inr (.inl h)));(have hc : ¬ (0 < fav∧un=true):=fun h=>hbad (.inr (.inr h)));have e1:decide (fav < 0)=false:=decide_eq_false ha;have e2:decide ((sides.length:Int) < fav)=false:=decide_eq_false hb;clear hbad ha hb;(have yfo : ∀ o,(w2.alloc o).cell? ⟨w.heap.size,0,none⟩=some (.int .i64 fav):=fun o=>cell_alloc_of yf o);(have yuo : ∀ o,(w2.alloc o).cell? ⟨w.heap.size,1,none⟩=some (.bool un):=fun o=>cell_alloc_of yu o);have hbp:=hbase2 HLE.out.2 HOK2.out.2.2;have HBP:=Aside0.mk hbp;clear hbp
   by_cases c:0 < fav
   ·
    (have hun:un=false:=by cases un;rfl;exact absurd ⟨c,rfl⟩ hc);subst hun;have e3:decide (0 < fav)=true:=decide_eq_true c;clear hc c;(gi_wp2_with (refine⟨trivial,?_⟩;refine(merge_pieces _ Ac ch.length cc A0 base.length c0 A1 sides.length c1 fav false _).mono ?_;rintro e w' ⟨rfl,rfl⟩));have h0:MeI P w2 w2.heap.size (w2.heap.size+1) (w2.heap.size+1+1) (w2.heap.size+1+1+1) (w2.heap.size+1+1+1+1) (.slice Ac ch.length cc) (.slice A0 base.length c0) (.slice A1 sides.length c1) fav false ([],none) (((((w2.alloc (.cells #[.slice none 0 0] 35)).alloc (.cells #[.slice Ac ch.length cc] 26)).alloc (.cells #[.slice A0 base.length c0] 22)).alloc (.cells #[.slice A1 sides.length c1] 23)).alloc (.cells #[.int .i64 fav, .bool false] 34)):=MeI.start P w2 _ _ _ fav false
    refine wpIn_range_box rfl (by omega) (gf:=87) (lb:=#[.pointer (some ⟨w2.heap.size+1,0,none⟩), .pointer (some ⟨w2.heap.size+1+1,0,none⟩), .pointer (some ⟨w2.heap.size+1+1+1,0,none⟩), .pointer (some ⟨w2.heap.size+1+1+1+1,0,none⟩)]) rfl trivial (enters_of Tryz.func87 (by kernel_rfl) rfl) (fun _=>rfl)
     (pieces_goes P _ w2 w2.heap.size _ _ _ _ ch Ac cc base A0 c0 sides A1 c1 fav false HC2.out (Kd.F_below HF0.out HB2.out) hc0 (Kd.F_below HF1.out HB2.out) hc1 HCH.out (by have:=HNS.out;omega) (by have:=HLE.out.1;omega) HBP.out (by omega)) 11 (fun x b W=>W.heap[b]? = some (.cells x.2 66 (0,0)))
     (fun s W r o o' hI hr hl ho=>hI.put o' (by simp at hr;omega) hl ho) (fun x b W r o o' hH hl ho=>((grownBy_putObj' W r o').block b (blk_lt hH) (fun e=>by cases e;rw[hH] at hl;cases hl;cases ho)).trans hH) (fun s W o hI=>hI.below (newBelow W o)) h0 ?assign ?body ?done
    case assign =>
     rintro l ⟨done,pend⟩ ⟨p,cs⟩ W K hI ⟨hpd,_⟩ hK;(dsimp only at hpd);subst hpd;have hI2:=hI;obtain⟨_,_,_,_,_,_,ok,v,_,_,_,hp⟩:=hI2;obtain⟨B1,d1,B2,d2,B3,d3,rfl,_⟩:=hp p cs rfl;have hk:=hK W.heap.size _ (hI.below (newBelow _ _)) (KeepsOthers.alloc _ _) (blk_new W (.cells #[.bool p.f0, .slice B1 p.f1.length d1, .slice B2 p.f2.length d2, .slice B3 p.f3.length d3] 66));clear hK hp hI;gi_wp2;simpa using hk
    case body =>
     rintro l ⟨done,pend⟩ ⟨p,cs⟩ b W hI ⟨hpd,hlen⟩ hH;(dsimp only at hpd hlen hH);subst hpd;have HI:=Aside0.mk hI;obtain⟨hbw,_,_,_,_,_,ok,v,hv,hok,hN0,hp⟩:=hI;obtain⟨Ao,co,rfl⟩:=Kd.N_slice hN0;obtain⟨B1,d1,B2,d2,B3,d3,rfl,m1,f1,m2,f2,m3,f3⟩:=hp p cs rfl;(dsimp only at hN0);have HFK:Aside0 (Kd.FK k66 W (fun k=>ok k∧some k≠(Value.slice Ao done.length co).ownBlock) p [.bool p.f0, .slice B1 p.f1.length d1, .slice B2 p.f2.length d2, .slice B3 p.f3.length d3]):=⟨k66_mkF _ _ p m1 f1 m2 f2 m3 f3⟩;have xb:W.cell? ⟨w2.heap.size,0,none⟩=some (.slice Ao done.length co):=cell_blk hv rfl;have h1:W.cell? ⟨b,0,none⟩=some (.bool p.f0):=cell_blk hH rfl;have h2:W.cell? ⟨b,1,none⟩=some (.slice B1 p.f1.length d1):=cell_blk hH rfl;have h3:W.cell? ⟨b,2,none⟩=some (.slice B2 p.f2.length d2):=cell_blk hH rfl;have h4:W.cell? ⟨b,3,none⟩=some (.slice B3 p.f3.length d3):=cell_blk hH rfl;have HV:=Aside0.mk hv;have HOK:=Aside0.mk hok;have HN0:=Aside0.mk hN0;have HBW:Aside0 (w2.heap.size≤W.heap.size):=⟨hbw.size⟩;clear hv hok hN0 hp f1 f2 f3 hbw h0;(gi_wp2_with (gi_at_builtin;refine N_appendIn k66 (W:=W) w2.heap.size rfl (.tmp 48) (.tmp 50) 35 66 (.agg #[.bool false, .slice none 0 0, .slice none 0 0, .slice none 0 0]) 80 rfl Tryz.underlying35 info66 rfl (by decide) (.slice Ao done.length co) done p [.bool p.f0, .slice B1 p.f1.length d1, .slice B2 p.f2.length d2, .slice B3 p.f3.length d3] (fun k=>ok k∨W.heap.size≤k) (fun k=>ok k∧some k≠(Value.slice Ao done.length co).ownBlock) rfl rfl HFK.out (fun k hk=>⟨.inl hk.1,hk.2⟩) (fun k hk => .inr hk) (Kd.N_mono HN0.out (fun k hk => .inl hk)) HBW.out (by omega) (by decide) ?_;intro v1 w1 hN1 hg1 hat1;obtain⟨A9,c9,hv9⟩:=Kd.N_slice hN1;subst hv9;have g9:=(hg1.block w2.heap.size (by have:=blk_lt HV.out;simp;omega) (Kd.N_ne HN0.out HV.out (by decide))).trans (newKeep HV.out _);have y9:w1.cell? ⟨w2.heap.size,0,none⟩=some (.slice Ao done.length co):=cell_blk g9 rfl;have f9:w1.frozen? ⟨w2.heap.size,0,none⟩=false:=frozen_of_row _ _ _ _ _ g9;have HN1:=Aside0.mk hN1;have HG1:=Aside0.mk hg1;clear hN1 hg1 hat1 g9 xb h1 h2 h3 h4));have hlay:=MeI.lay HI.out HV.out HOK.out HN0.out HN1.out HG1.out;(have e:(done ++ [p]).length=done.length+1:=by simp);(rw[e] at hlay);exact⟨hlay.2,hlay.1⟩
    case done =>
     rintro⟨all,pend⟩ W hS hI hK;cases hS;obtain⟨Ar,cr,hbx,hN⟩:=hI.box;have hbel:=hI.bel;have xb:W.cell? ⟨w2.heap.size,0,none⟩=some (.slice Ar (ch.map (mergePiece base sides fav false)).length cr):=cell_blk hbx rfl;(have hlm:(ch.map (mergePiece base sides fav false)).length≤100000000:=by rw[List.length_map];omega);obtain⟨PS,hPS⟩ : ∃ l,ch.map (mergePiece base sides fav false)=l:=⟨_,rfl⟩;(rw[hPS] at hN xb hlm HTS);have HPS:=Aside0.mk hPS;(dsimp only at hN);obtain⟨_,hcr,_⟩:=Kd.N_reads' hN;have HN:=Aside0.mk hN;have HK:=Aside0.mk hK;have HBE:=Aside0.mk hbel;clear hI hN hK hbx hbel hPS h0;(gi_wp2_with (refine⟨trivial,?_⟩;refine(callsIn_wide.2 (pick_Normal (fun k=>k≠w2.heap.size∧(P k∧k < w2.heap.size∨w2.heap.size≤k)) Ar cr PS W (Kd.N_F HN.out) hcr hlm HTS.out)).mono ?_;rintro e w9 ⟨v9,rfl,hN9,hb9⟩;have HN9:=Aside0.mk hN9;have HB9:=Aside0.mk hb9;clear hN9 hb9));have hK9:=farKeep HK.out HB9.out;(simp only[World.size_alloc] at hK9);have hsz:=HB2.out.size;refine⟨by simp, .inl ⟨_,_,rfl,run_takeDeferred hK9,?_⟩⟩;refine⟨_,results_tmp2 rfl _ _ _,v9,rfl,?_,?_⟩
     ·
      rw[HPS.out]
      exact Kd.N_mono (N_put (Kd.N_lower HN9.out (Nat.le_trans HB2.out.size HBE.out.size)) hK9 rfl) (fun k hk=>by
       have h1:=HBE.out.size
       rcases hk with ⟨_,hk|hk⟩|hk
       (· exact .inl hk.1);(· exact .inr (by omega))
       ·
        exact .inr (by omega))
     (· exact(far_ (far_ HB2.out HBE.out) HB9.out).trans (belowK_b (w:=w) (Nat.le_refl _) w9 _ _ _ (by omega) hK9 rfl rfl))
   ·
    have e3:decide (0 < fav)=false:=decide_eq_false c;clear hc c;(gi_wp2_with (refine⟨trivial,?_⟩;refine(merge_pieces _ Ac ch.length cc A0 base.length c0 A1 sides.length c1 fav un _).mono ?_;rintro e w' ⟨rfl,rfl⟩));have h0:MeI P w2 w2.heap.size (w2.heap.size+1) (w2.heap.size+1+1) (w2.heap.size+1+1+1) (w2.heap.size+1+1+1+1) (.slice Ac ch.length cc) (.slice A0 base.length c0) (.slice A1 sides.length c1) fav un ([],none) (((((w2.alloc (.cells #[.slice none 0 0] 35)).alloc (.cells #[.slice Ac ch.length cc] 26)).alloc (.cells #[.slice A0 base.length c0] 22)).alloc (.cells #[.slice A1 sides.length c1] 23)).alloc (.cells #[.int .i64 fav, .bool un] 34)):=MeI.start P w2 _ _ _ fav un
    refine wpIn_range_box rfl (by omega) (gf:=87) (lb:=#[.pointer (some ⟨w2.heap.size+1,0,none⟩), .pointer (some ⟨w2.heap.size+1+1,0,none⟩), .pointer (some ⟨w2.heap.size+1+1+1,0,none⟩), .pointer (some ⟨w2.heap.size+1+1+1+1,0,none⟩)]) rfl trivial (enters_of Tryz.func87 (by kernel_rfl) rfl) (fun _=>rfl)
     (pieces_goes P _ w2 w2.heap.size _ _ _ _ ch Ac cc base A0 c0 sides A1 c1 fav un HC2.out (Kd.F_below HF0.out HB2.out) hc0 (Kd.F_below HF1.out HB2.out) hc1 HCH.out (by have:=HNS.out;omega) (by have:=HLE.out.1;omega) HBP.out (by omega)) 11 (fun x b W=>W.heap[b]? = some (.cells x.2 66 (0,0)))
     (fun s W r o o' hI hr hl ho=>hI.put o' (by simp at hr;omega) hl ho) (fun x b W r o o' hH hl ho=>((grownBy_putObj' W r o').block b (blk_lt hH) (fun e=>by cases e;rw[hH] at hl;cases hl;cases ho)).trans hH) (fun s W o hI=>hI.below (newBelow W o)) h0 ?assign ?body ?done
    case assign =>
     rintro l ⟨done,pend⟩ ⟨p,cs⟩ W K hI ⟨hpd,_⟩ hK;(dsimp only at hpd);subst hpd;have hI2:=hI;obtain⟨_,_,_,_,_,_,ok,v,_,_,_,hp⟩:=hI2;obtain⟨B1,d1,B2,d2,B3,d3,rfl,_⟩:=hp p cs rfl;have hk:=hK W.heap.size _ (hI.below (newBelow _ _)) (KeepsOthers.alloc _ _) (blk_new W (.cells #[.bool p.f0, .slice B1 p.f1.length d1, .slice B2 p.f2.length d2, .slice B3 p.f3.length d3] 66));clear hK hp hI;gi_wp2;simpa using hk
    case body =>
     rintro l ⟨done,pend⟩ ⟨p,cs⟩ b W hI ⟨hpd,hlen⟩ hH;(dsimp only at hpd hlen hH);subst hpd;have HI:=Aside0.mk hI;obtain⟨hbw,_,_,_,_,_,ok,v,hv,hok,hN0,hp⟩:=hI;obtain⟨Ao,co,rfl⟩:=Kd.N_slice hN0;obtain⟨B1,d1,B2,d2,B3,d3,rfl,m1,f1,m2,f2,m3,f3⟩:=hp p cs rfl;(dsimp only at hN0);have HFK:Aside0 (Kd.FK k66 W (fun k=>ok k∧some k≠(Value.slice Ao done.length co).ownBlock) p [.bool p.f0, .slice B1 p.f1.length d1, .slice B2 p.f2.length d2, .slice B3 p.f3.length d3]):=⟨k66_mkF _ _ p m1 f1 m2 f2 m3 f3⟩;have xb:W.cell? ⟨w2.heap.size,0,none⟩=some (.slice Ao done.length co):=cell_blk hv rfl;have h1:W.cell? ⟨b,0,none⟩=some (.bool p.f0):=cell_blk hH rfl;have h2:W.cell? ⟨b,1,none⟩=some (.slice B1 p.f1.length d1):=cell_blk hH rfl;have h3:W.cell? ⟨b,2,none⟩=some (.slice B2 p.f2.length d2):=cell_blk hH rfl;have h4:W.cell? ⟨b,3,none⟩=some (.slice B3 p.f3.length d3):=cell_blk hH rfl;have HV:=Aside0.mk hv;have HOK:=Aside0.mk hok;have HN0:=Aside0.mk hN0;have HBW:Aside0 (w2.heap.size≤W.heap.size):=⟨hbw.size⟩;clear hv hok hN0 hp f1 f2 f3 hbw h0;(gi_wp2_with (gi_at_builtin;refine N_appendIn k66 (W:=W) w2.heap.size rfl (.tmp 48) (.tmp 50) 35 66 (.agg #[.bool false, .slice none 0 0, .slice none 0 0, .slice none 0 0]) 80 rfl Tryz.underlying35 info66 rfl (by decide) (.slice Ao done.length co) done p [.bool p.f0, .slice B1 p.f1.length d1, .slice B2 p.f2.length d2, .slice B3 p.f3.length d3] (fun k=>ok k∨W.heap.size≤k) (fun k=>ok k∧some k≠(Value.slice Ao done.length co).ownBlock) rfl rfl HFK.out (fun k hk=>⟨.inl hk.1,hk.2⟩) (fun k hk => .inr hk) (Kd.N_mono HN0.out (fun k hk => .inl hk)) HBW.out (by omega) (by decide) ?_;intro v1 w1 hN1 hg1 hat1;obtain⟨A9,c9,hv9⟩:=Kd.N_slice hN1;subst hv9;have g9:=(hg1.block w2.heap.size (by have:=blk_lt HV.out;simp;omega) (Kd.N_ne HN0.out HV.out (by decide))).trans (newKeep HV.out _);have y9:w1.cell? ⟨w2.heap.size,0,none⟩=some (.slice Ao done.length co):=cell_blk g9 rfl;have f9:w1.frozen? ⟨w2.heap.size,0,none⟩=false:=frozen_of_row _ _ _ _ _ g9;have HN1:=Aside0.mk hN1;have HG1:=Aside0.mk hg1;clear hN1 hg1 hat1 g9 xb h1 h2 h3 h4));have hlay:=MeI.lay HI.out HV.out HOK.out HN0.out HN1.out HG1.out;(have e:(done ++ [p]).length=done.length+1:=by simp);(rw[e] at hlay);exact⟨hlay.2,hlay.1⟩
    case done =>
     rintro⟨all,pend⟩ W hS hI hK;cases hS;obtain⟨Ar,cr,hbx,hN⟩:=hI.box;have hbel:=hI.bel;have xb:W.cell? ⟨w2.heap.size,0,none⟩=some (.slice Ar (ch.map (mergePiece base sides fav un)).length cr):=cell_blk hbx rfl;(have hlm:(ch.map (mergePiece base sides fav un)).length≤100000000:=by rw[List.length_map];omega);obtain⟨PS,hPS⟩ : ∃ l,ch.map (mergePiece base sides fav un)=l:=⟨_,rfl⟩;(rw[hPS] at hN xb hlm HTS);have HPS:=Aside0.mk hPS;(dsimp only at hN);obtain⟨_,hcr,_⟩:=Kd.N_reads' hN;have HN:=Aside0.mk hN;have HK:=Aside0.mk hK;have HBE:=Aside0.mk hbel;clear hI hN hK hbx hbel hPS h0;(gi_wp2_with (refine⟨trivial,?_⟩;refine(callsIn_wide.2 (pick_Normal (fun k=>k≠w2.heap.size∧(P k∧k < w2.heap.size∨w2.heap.size≤k)) Ar cr PS W (Kd.N_F HN.out) hcr hlm HTS.out)).mono ?_;rintro e w9 ⟨v9,rfl,hN9,hb9⟩;have HN9:=Aside0.mk hN9;have HB9:=Aside0.mk hb9;clear hN9 hb9));have hK9:=farKeep HK.out HB9.out;(simp only[World.size_alloc] at hK9);have hsz:=HB2.out.size;refine⟨by simp, .inl ⟨_,_,rfl,run_takeDeferred hK9,?_⟩⟩;refine⟨_,results_tmp2 rfl _ _ _,v9,rfl,?_,?_⟩
     ·
      rw[HPS.out]
      exact Kd.N_mono (N_put (Kd.N_lower HN9.out (Nat.le_trans HB2.out.size HBE.out.size)) hK9 rfl) (fun k hk=>by
       have h1:=HBE.out.size
       rcases hk with ⟨_,hk|hk⟩|hk
       (· exact .inl hk.1);(· exact .inr (by omega))
       ·
        exact .inr (by omega))
     (· exact(far_ (far_ HB2.out HBE.out) HB9.out).trans (belowK_b (w:=w) (Nat.le_refl _) w9 _ _ _ (by omega) hK9 rfl rfl))
 (· have hm:=HMF.out;(rw[if_pos hcd] at hm);subst hm;(have b1:(cd == 0)=false:=by simpa using hcd);have b2:decide (cd=0)=false:=decide_eq_false hcd;gi_wp2;exact⟨_,results_tmp2 rfl _ _ _, .slice none 0 0,rfl,Kd.N_nil _ _ _ _ _,HB2.out⟩)
end Go.Proofs.YtbbhdbeaikclcaaGreat.X
namespace Go.Proofs.YtbbhdbeaikclcaaGreat.X
open Go.RowKit Go.Proofs.YtbbhdbeaikclcaaGreatW.PrintWords Go.Proofs.YtbbhdbeaikclcaaGreatW.PrintLast Go.Proofs.YtbbhdbeaikclcaaGreatW.PrintMore
theorem fits_get {p:List ByteArray} : ∀ {ms:List Int} {ss:List ByteArray} {lo:Nat},Fits p ms ss lo → ∀ j,j < ms.length→0≤ms.getD j 0 → ∃ q:Nat,ms.getD j 0=(q:Int)∧lo≤q∧q < p.length∧p.getD q ByteArray.empty=ss.getD j ByteArray.empty
 | [],_,_,_,j,hj,_=>by simp at hj
 | x :: ms,[],_,h,j,hj,_=>h.elim
 | x :: ms,s :: ss,lo,h,j,hj,h0=>by
  rcases h with ⟨h,hF⟩|⟨q,h,h1,h2,h3⟩
  ·
   cases j with
   | zero=>simp[h] at h0
   | succ j =>
    obtain⟨q,a,b,c,d⟩:=fits_get hF j (by simpa using hj) (by simpa using h0);exact⟨q,by simpa using a,b,c,by simpa using d⟩
  ·
   cases j with
   | zero =>
    obtain⟨hq,he⟩:=List.getElem?_eq_some_iff.1 h2;exact⟨q,by simpa using h,h1,hq,by rw[getD_get hq,he];simp⟩
   | succ j =>
    obtain⟨q',a,b,c,d⟩:=fits_get h3 j (by simpa using hj) (by simpa using h0);exact⟨q',by simpa using a,by omega,c,by simpa using d⟩
theorem fits_rise {p:List ByteArray} : ∀ {ms:List Int} {ss:List ByteArray} {lo:Nat},Fits p ms ss lo → ∀ i j,i < j→j < ms.length→0≤ms.getD i 0→0≤ms.getD j 0→ms.getD i 0 < ms.getD j 0
 | [],_,_,_,i,j,_,hj,_,_=>by simp at hj
 | x :: ms,[],_,h,i,j,_,hj,_,_=>h.elim
 | x :: ms,s :: ss,lo,h,i,j,hij,hj,hi0,hj0=>by
  obtain⟨j,rfl⟩ : ∃ k,j=k+1:=⟨j - 1,by omega⟩;(have hj':j < ms.length:=by simpa using hj)
  rcases h with ⟨h,hF⟩|⟨q,h,h1,h2,h3⟩
  ·
   cases i with
   | zero=>simp[h] at hi0
   | succ i =>
    have:=fits_rise hF i j (by omega) hj' (by simpa using hi0) (by simpa using hj0);simpa using this
  ·
   cases i with
   | zero =>
    obtain⟨q',a,b,_⟩:=fits_get h3 j hj' (by simpa using hj0);(have e1:(x :: ms).getD 0 0=(q:Int):=by simpa using h);(have e2:(x :: ms).getD (j+1) 0=(q':Int):=by simpa using a);(rw[e1,e2];omega)
   | succ i =>
    have:=fits_rise h3 i j (by omega) hj' (by simpa using hi0) (by simpa using hj0);simpa using this
def gapC (stable:Bool) (b b':Int) (s s':List Int):List Chunk:=if someB b b' s s' s.length=true then [⟨stable,⟨b,b'⟩,spansF s s' s.length⟩] else []
theorem cutOut_gapC (stable:Bool) (b b':Int) (s s':List Int) (out:List Chunk):cutOut stable b b' s s' out=out ++ gapC stable b b' s s':=by
 (unfold cutOut gapC;split);(· rfl);(· simp)
def ends (ms:List (List Int)) (en:Nat):List Int:=(colK ms (en - 1)).map (· + 1)
def restGo (m:Nat) (sizes:List Int) (ms:List (List Int)):Nat→Nat→Int→List Int→List Chunk
  | 0,_,b,s=>gapC false b (m:Int) s sizes
  | r+1,k,b,s=>if k < m then (if stableB ms k=true then gapC false b (k:Int) s (colK ms k) ++ (gapC true (k:Int) (runF m ms k:Nat) (colK ms k) (ends ms (runF m ms k)) ++ restGo m sizes ms r (runF m ms k) (runF m ms k:Nat) (ends ms (runF m ms k))) else restGo m sizes ms r (k+1) b s) else gapC false b (m:Int) s sizes
theorem alignGo_rest (m:Nat) (sizes:List Int) (ms:List (List Int)) : ∀ (r k:Nat) (b:Int) (s:List Int) (out:List Chunk),(cutF (alignGo m ms r k (b,s,out)) false (m:Int) sizes).2.2=out ++ restGo m sizes ms r k b s
 | 0,k,b,s,out=>by rw[alignGo,restGo];exact cutOut_gapC _ _ _ _ _ _
 | r+1,k,b,s,out=>by
  rw[alignGo,restGo];split
  ·
   split;(· (have h1:cutF (b,s,out) false (k:Int) (colK ms k)=((k:Int),colK ms k,out ++ gapC false b (k:Int) s (colK ms k)):=by rw[cutF,cutOut_gapC]);rw[h1];(have h2:cutF ((k:Int),colK ms k,out ++ gapC false b (k:Int) s (colK ms k)) true (runF m ms k:Nat) ((colK ms (runF m ms k - 1)).map (· + 1))=(((runF m ms k:Nat):Int),ends ms (runF m ms k),(out ++ gapC false b (k:Int) s (colK ms k)) ++ gapC true (k:Int) (runF m ms k:Nat) (colK ms k) (ends ms (runF m ms k))):=by rw[cutF,cutOut_gapC];rfl);rw[h2,alignGo_rest m sizes ms r,List.append_assoc,List.append_assoc]);(· exact alignGo_rest m sizes ms r _ _ _ _)
  (· exact cutOut_gapC _ _ _ _ _ _)
theorem alignF_rest (m:Nat) (sizes:List Int) (ms:List (List Int)):alignF m sizes ms=restGo m sizes ms (m+1) 0 0 (List.replicate ms.length 0):=by
 (rw[alignF,alignGo_rest];rfl)
def ints (s:List Nat):List Int:=s.map (fun x:Nat=>(x:Int))
theorem ints_len (s:List Nat):(ints s).length=s.length:=by rw[ints,List.length_map]
def spansN (s s':List Nat):List Spanx:=List.zipWith (fun (f t:Nat)=>(⟨(f:Int),(t:Int)⟩:Spanx)) s s'
theorem spansN_eq (s s':List Nat):spansF (ints s) (ints s') (ints s).length=spansN s s':=by
 (rw[spansF,List.take_of_length_le (by rw[List.length_zipWith];exact Nat.min_le_left _ _),ints,ints,List.zipWith_map_left,List.zipWith_map_right];rfl)
theorem spansN_len {s s':List Nat} (h:s'.length=s.length):(spansN s s').length=s.length:=by rw[spansN,List.length_zipWith,h,Nat.min_self]
theorem spansN_get {s s':List Nat} (h:s'.length=s.length) {i:Nat} (hi:i < s.length):(spansN s s').getD i z45=⟨((s.getD i 0:Nat):Int),((s'.getD i 0:Nat):Int)⟩:=by
 rw[getD_get (by rw[spansN_len h];exact hi),getD_get hi,getD_get (by omega)];simp only[spansN,List.getElem_zipWith]
theorem someB_iff {b b':Nat} {s s':List Nat} (h:s'.length=s.length):someB (b:Int) (b':Int) (ints s) (ints s') (ints s).length=true↔b < b' ∨ ∃ i,i < s.length∧s.getD i 0 < s'.getD i 0:=by
 rw[someB,Bool.or_eq_true,decide_eq_true_eq,List.any_eq_true];constructor
 ·
  rintro(h1|⟨⟨x,y⟩,hx,hy⟩);(· exact .inl (by omega));(· obtain⟨i,hi,he⟩:=List.mem_iff_getElem.1 (List.mem_of_mem_take hx);(have hi':i < s.length:=by rw[List.length_zip,ints_len,ints_len,h,Nat.min_self] at hi;exact hi);(rw[List.getElem_zip] at he);have e1:=(Prod.mk.inj he).1;have e2:=(Prod.mk.inj he).2;have hy:=of_decide_eq_true hy;refine .inr ⟨i,hi',?_⟩;rw[getD_get hi',getD_get (by omega)];(simp only[ints,List.getElem_map] at e1 e2);(dsimp only at hy);omega)
 ·
  rintro(h1|⟨i,hi,hlt⟩);(· exact .inl (by omega));(· refine .inr ⟨((s.getD i 0:Nat),(s'.getD i 0:Nat)),?_,decide_eq_true (by dsimp only;omega)⟩;rw[List.take_of_length_le (by rw[List.length_zip];exact Nat.min_le_left _ _)];refine List.mem_iff_getElem.2 ⟨i,by rw[List.length_zip,ints_len,ints_len,h,Nat.min_self];exact hi,?_⟩;rw[List.getElem_zip,getD_get hi,getD_get (by omega)];simp[ints])
theorem gapC_eq {b b':Nat} {s s':List Nat} (st:Bool) (h:s'.length=s.length):gapC st (b:Int) (b':Int) (ints s) (ints s')=if b < b' ∨ ∃ i,i < s.length∧s.getD i 0 < s'.getD i 0 then [⟨st,⟨(b:Int),(b':Int)⟩,spansN s s'⟩] else []:=by
 rw[gapC]
 by_cases hc:b < b' ∨ ∃ i,i < s.length∧s.getD i 0 < s'.getD i 0
 (· rw[if_pos ((someB_iff h).2 hc),if_pos hc,spansN_eq]);(· rw[if_neg (fun h'=>hc ((someB_iff h).1 h')),if_neg hc])
def Tiles (base:List ByteArray) (sides:List (List ByteArray)):Bool→Nat→List Nat→List Chunk→Prop
  | _,b,s,[]=>b=base.length∧s=sides.map List.length
  | p,b,s,c :: cs => ∃ (b':Nat) (s':List Nat),c.f1=⟨(b:Int),(b':Int)⟩∧c.f2=spansN s s'∧s.length=sides.length∧s'.length=sides.length∧b≤b'∧b'≤base.length∧(∀ i,i < sides.length→s.getD i 0≤s'.getD i 0∧s'.getD i 0≤(sides.getD i []).length) ∧
      (c.f0=true→b < b' ∧ ∀ i,i < sides.length→s.getD i 0 < s'.getD i 0∧cutL (sides.getD i []) (s.getD i 0) (s'.getD i 0)=cutL base b b')∧(c.f0=false→p=true∧(b < b' ∨ ∃ i,i < sides.length∧s.getD i 0 < s'.getD i 0))∧Tiles base sides c.f0 b' s' cs
theorem ext_getD {s p:List Nat} (h:s.length=p.length) (he : ∀ i,i < s.length→s.getD i 0=p.getD i 0):s=p:=by
 refine List.ext_getElem h (fun i h1 h2=>?_);have:=he i h1
 rwa [getD_get h1,getD_get h2] at this
theorem runGo_join (m:Nat) (ms:List (List Int)) : ∀ (r a j:Nat),a≤j→j < runGo m ms r a→joinB ms j=true
 | 0,a,j,h1,h2=>by rw[runGo] at h2;omega
 | r+1,a,j,h1,h2=>by
  (rw[runGo] at h2);(split at h2)
  ·
   rename_i hc
   by_cases e:j=a
   (· (rw[e];exact hc.2));(· exact runGo_join m ms r (a+1) j (by omega) h2)
  (· omega)
section
variable {base:List ByteArray} {sides:List (List ByteArray)}
def mAt (base:List ByteArray) (sides:List (List ByteArray)) (i k:Nat):Int:=((matchesF base sides).getD i []).getD k 0
theorem mAt_fits {i:Nat} (hi:i < sides.length):Fits (sides.getD i []) ((matchesF base sides).getD i []) base 0:=by
 have e:(matchesF base sides).getD i []=matchS base (sides.getD i []):=by
  rw[getD_get (by rw[matchesF_len];exact hi),getD_get hi];exact List.getElem_map _
 rw[e];exact matchS_fits _ _
theorem mAt_len {i:Nat} (hi:i < sides.length):((matchesF base sides).getD i []).length=base.length:=by
 have:=(mAt_fits (base:=base) hi).len;exact this
theorem mAt_get {i k:Nat} (hi:i < sides.length) (hk:k < base.length) (h0:0≤mAt base sides i k) : ∃ q:Nat,mAt base sides i k=(q:Int)∧q < (sides.getD i []).length∧(sides.getD i []).getD q ByteArray.empty=base.getD k ByteArray.empty:=by
 obtain⟨q,a,_,b,c⟩:=fits_get (mAt_fits (base:=base) hi) k (by rw[mAt_len hi];exact hk) h0;exact⟨q,a,b,c⟩
theorem mAt_rise {i j k:Nat} (hi:i < sides.length) (hjk:j < k) (hk:k < base.length) (h0:0≤mAt base sides i j) (h1:0≤mAt base sides i k):mAt base sides i j < mAt base sides i k :=
  fits_rise (mAt_fits (base:=base) hi) j k hjk (by rw[mAt_len hi];exact hk) h0 h1
theorem stable_at {k:Nat}:stableB (matchesF base sides) k=true ↔ ∀ i,i < sides.length→0≤mAt base sides i k:=by
 rw[stableB,List.all_eq_true];constructor;(· intro h i hi;have:=h ((matchesF base sides).getD i []) (by rw[getD_get (by rw[matchesF_len];exact hi)];exact List.getElem_mem _);exact of_decide_eq_true this);(· intro h l hl;obtain⟨i,hi,rfl⟩:=List.mem_iff_getElem.1 hl;have:=h i (by rw[← matchesF_len base];exact hi);(rw[mAt,getD_get hi] at this);exact decide_eq_true this)
theorem join_at {k:Nat} (h:joinB (matchesF base sides) k=true) : ∀ i,i < sides.length→0≤mAt base sides i k∧mAt base sides i k=mAt base sides i (k - 1)+1:=fun i hi=>by
  rw[joinB,List.all_eq_true] at h
  have:=h ((matchesF base sides).getD i []) (by rw[getD_get (by rw[matchesF_len];exact hi)];exact List.getElem_mem _)
  exact of_decide_eq_true this
def posN (base:List ByteArray) (sides:List (List ByteArray)) (k:Nat):List Nat:=(matchesF base sides).map (fun l=>(l.getD k 0).toNat)
theorem posN_len (k:Nat):(posN base sides k).length=sides.length:=by rw[posN,List.length_map,matchesF_len]
theorem posN_get {i k:Nat} (hi:i < sides.length):(posN base sides k).getD i 0=(mAt base sides i k).toNat:=by
 rw[getD_get (by rw[posN_len];exact hi)];simp only[posN,List.getElem_map];rw[mAt,getD_get (l:=matchesF base sides) (by rw[matchesF_len];exact hi)]
theorem colK_ints {k:Nat} (h:stableB (matchesF base sides) k=true):colK (matchesF base sides) k=ints (posN base sides k):=by
 rw[colK,ints,posN,List.map_map];refine List.map_congr_left (fun l hl=>?_);(rw[stableB,List.all_eq_true] at h);have:=of_decide_eq_true (h l hl);show l.getD k 0=(((l.getD k 0).toNat:Nat):Int);omega
theorem ends_ints {en:Nat} (h:stableB (matchesF base sides) (en - 1)=true):ends (matchesF base sides) en=ints ((posN base sides (en - 1)).map (· + 1)):=by
 rw[ends,colK_ints h,ints,ints,List.map_map,List.map_map];exact List.map_congr_left (fun x _=>by simp)
theorem sizes_ints:sizesF sides=ints (sides.map List.length):=by rw[sizesF,ints,List.map_map];rfl
theorem run_at {k j:Nat} (hk:stableB (matchesF base sides) k=true) (hj1:k≤j) (hj2:j < runF base.length (matchesF base sides) k) : ∀ i,i < sides.length→mAt base sides i j=mAt base sides i k+((j - k:Nat):Int):=by
 intro i hi;obtain⟨d,rfl⟩ : ∃ d,j=k+d:=⟨j - k,by omega⟩
 induction d with
 | zero=>simp
 | succ d ih =>
  have h1:=join_at (runGo_join _ _ _ _ (k+(d+1)) (by omega) hj2) i hi;rw[h1.2,show k+(d+1) - 1=k+d by omega,ih (by omega) (by omega)];omega
theorem run_stable {k j:Nat} (hk:stableB (matchesF base sides) k=true) (hj1:k≤j) (hj2:j < runF base.length (matchesF base sides) k):stableB (matchesF base sides) j=true :=
  stable_at.2 (fun i hi=>by
    rw[run_at hk hj1 hj2 i hi]
    have:=stable_at.1 hk i hi
    omega)
theorem cutL_eq {a b:List ByteArray} {f t f' t':Nat} (ht:t≤a.length) (ht':t'≤b.length) (hl:t - f=t' - f') (h : ∀ d,d < t - f→a.getD (f+d) ByteArray.empty=b.getD (f'+d) ByteArray.empty):cutL a f t=cutL b f' t':=by
 refine List.ext_getElem (by rw[cutL_len ht,cutL_len ht',hl]) (fun d h1 h2=>?_);(rw[cutL_len ht] at h1);have:=h d h1;(rw[getD_get (by omega),getD_get (by omega)] at this);simp only[cutL,List.getElem_drop,List.getElem_take];exact this
theorem restGo_tiles : ∀ (r k b:Nat) (s:List Nat),b≤k→k≤base.length→base.length+1≤r+k→s.length=sides.length→(∀ i,i < sides.length→s.getD i 0≤(sides.getD i []).length ∧ ∀ j,k≤j→j < base.length→0≤mAt base sides i j→(s.getD i 0:Int)≤mAt base sides i j) →
    Tiles base sides true b s (restGo base.length (sizesF sides) (matchesF base sides) r k (b:Int) (ints s))
  | 0,k,b,s,hbk,hk,hr,hsl,hs=>by omega
  | r+1,k,b,s,hbk,hk,hr,hsl,hs=>by
    have hgap:Tiles base sides true b s (gapC false (b:Int) (base.length:Int) (ints s) (sizesF sides)):=by
      rw[sizes_ints,gapC_eq false (by rw[List.length_map,hsl])]
      have hget : ∀ i,i < sides.length→(sides.map List.length).getD i 0=(sides.getD i []).length:=fun i hi=>by
        rw[getD_get (by rw[List.length_map];exact hi),getD_get hi];simp
      split
      · rename_i hc
        refine⟨base.length,sides.map List.length,rfl,rfl,hsl,by rw[List.length_map],by omega,Nat.le_refl _,fun i hi=>by rw[hget i hi];exact⟨(hs i hi).1,Nat.le_refl _⟩,fun h=>(by cases h),fun _=>⟨rfl,?_⟩,rfl,rfl⟩
        rw[hsl] at hc
        exact hc
      · rename_i hc
        refine⟨by have : ¬ b < base.length:=fun h=>hc (.inl h);omega,ext_getD (by rw[List.length_map,hsl]) (fun i hi=>?_)⟩
        have h1 : ¬ s.getD i 0 < (sides.map List.length).getD i 0:=fun h=>hc (.inr ⟨i,hi,h⟩)
        rw[hsl] at hi
        have h2:=(hs i hi).1
        rw[hget i hi] at h1 ⊢
        omega
    rw[restGo]
    split
    · rename_i hkm
      split
      · rename_i hst
        obtain⟨hen1,hen2⟩:=runF_gt base.length (matchesF base sides) k hkm
        obtain⟨en,hen⟩ : ∃ en,runF base.length (matchesF base sides) k=en:=⟨_,rfl⟩
        have hlast:stableB (matchesF base sides) (en - 1)=true:=run_stable hst (by omega) (by rw[hen];omega)
        have hpe : ∀ i,i < sides.length→((posN base sides (en - 1)).map (· + 1)).getD i 0=(mAt base sides i k).toNat+(en - k):=fun i hi=>by
          rw[getD_get (by rw[List.length_map,posN_len];exact hi),List.getElem_map]
          have h1:=posN_get (base:=base) (sides:=sides) (k:=en - 1) hi
          rw[getD_get (by rw[posN_len];exact hi)] at h1
          rw[h1,run_at hst (by omega) (by rw[hen];omega) i hi]
          have:=stable_at.1 hst i hi
          omega
        rw[hen] at hen1 hen2 ⊢
        have hg2:gapC true (k:Int) (en:Int) (ints (posN base sides k)) (ints ((posN base sides (en - 1)).map (· + 1)))=[⟨true,⟨(k:Int),(en:Int)⟩,spansN (posN base sides k) ((posN base sides (en - 1)).map (· + 1))⟩]:=by rw[gapC_eq true (by rw[List.length_map];rw[posN_len,posN_len]),if_pos (.inl hen1)]
        rw[colK_ints hst,ends_ints hlast,hg2,gapC_eq false (by rw[posN_len,hsl])]
        have ih:=restGo_tiles r en en ((posN base sides (en - 1)).map (· + 1)) (Nat.le_refl _) hen2 (by omega) (by rw[List.length_map,posN_len]) (fun i hi=>by
          rw[hpe i hi]
          have h1:=stable_at.1 hst i hi
          have h2:=run_at hst (show k≤en - 1 by omega) (by rw[hen];omega) i hi
          obtain⟨q,hq,hql,_⟩:=mAt_get hi (show en - 1 < base.length by omega) (by omega)
          refine⟨by omega,fun j hj1 hj2 hj0=>?_⟩
          have:=mAt_rise hi (show en - 1 < j by omega) hj2 (by omega) hj0
          omega)
        have hstable : ∀ p,Tiles base sides p k (posN base sides k) ((⟨true,⟨(k:Int),(en:Int)⟩,spansN (posN base sides k) ((posN base sides (en - 1)).map (· + 1))⟩:Chunk) :: restGo base.length (sizesF sides) (matchesF base sides) r en (en:Int) (ints ((posN base sides (en - 1)).map (· + 1)))):=fun p=>by
          have hall : ∀ i,i < sides.length→(mAt base sides i k).toNat+(en - k)≤(sides.getD i []).length:=fun i hi=>by
            have h1:=stable_at.1 hst i hi
            have h2:=run_at hst (show k≤en - 1 by omega) (by rw[hen];omega) i hi
            obtain⟨q,hq,hql,_⟩:=mAt_get hi (show en - 1 < base.length by omega) (by omega)
            omega
          refine⟨en,(posN base sides (en - 1)).map (· + 1),rfl,rfl,posN_len _,by rw[List.length_map,posN_len],by omega,hen2,fun i hi=>?_,fun _=>⟨hen1,fun i hi=>?_⟩,fun h=>(by cases h),ih⟩
          · rw[posN_get hi,hpe i hi]
            exact⟨by omega,hall i hi⟩
          · rw[posN_get hi,hpe i hi]
            refine⟨by omega,cutL_eq (hall i hi) hen2 (by omega) (fun d hd=>?_)⟩
            have h1:=stable_at.1 hst i hi
            have h2:=run_at hst (show k≤k+d by omega) (by rw[hen];omega) i hi
            obtain⟨q,hq,hql,he⟩:=mAt_get hi (show k+d < base.length by omega) (by omega)
            have:(mAt base sides i k).toNat+d=q:=by omega
            rw[this,he]
        have hle : ∀ i,i < sides.length→s.getD i 0≤(posN base sides k).getD i 0∧(posN base sides k).getD i 0≤(sides.getD i []).length:=fun i hi=>by
          rw[posN_get hi]
          have h1:=stable_at.1 hst i hi
          have h2:=(hs i hi).2 k (Nat.le_refl _) hkm h1
          obtain⟨q,hq,hql,_⟩:=mAt_get hi hkm h1
          omega
        split
        · rename_i hc
          rw[hsl] at hc
          exact⟨k,posN base sides k,rfl,rfl,hsl,posN_len _,hbk,by omega,hle,fun h=>(by cases h),fun _=>⟨rfl,hc⟩,hstable false⟩
        · rename_i hc
          have e1:b=k:=by have : ¬ b < k:=fun h=>hc (.inl h);omega
          have e2:s=posN base sides k:=ext_getD (by rw[posN_len,hsl]) (fun i hi=>by
            have h1 : ¬ s.getD i 0 < (posN base sides k).getD i 0:=fun h=>hc (.inr ⟨i,hi,h⟩)
            rw[hsl] at hi
            have:=(hle i hi).1
            omega)
          rw[e1,e2]
          exact hstable true
      · exact restGo_tiles r (k+1) b s (by omega) (by omega) (by omega) hsl (fun i hi=>⟨(hs i hi).1,fun j h1 h2 h3=>(hs i hi).2 j (by omega) h2 h3⟩)
    · exact hgap
theorem align_tiles (base:List ByteArray) (sides:List (List ByteArray)):Tiles base sides true 0 (List.replicate sides.length 0) (alignF base.length (sizesF sides) (matchesF base sides)):=by
 rw[alignF_rest,matchesF_len];(have e:List.replicate sides.length (0:Int)=ints (List.replicate sides.length 0):=by rw[ints,List.map_replicate];rfl);rw[e];refine restGo_tiles _ 0 0 _ (Nat.le_refl _) (Nat.zero_le _) (by omega) (by rw[List.length_replicate]) (fun i hi=>?_);(have:(List.replicate sides.length 0).getD i 0=0:=by rw[getD_get (by rw[List.length_replicate];exact hi),List.getElem_replicate]);rw[this];exact⟨Nat.zero_le _,fun j _ _ h=>h⟩
end
end Go.Proofs.YtbbhdbeaikclcaaGreat.X
