/-
  Parts of one proof, one behind the other: X0, XPre, XKit, XSq, XEn1, XRn1, XRn2, XRn7, XRn12.
-/
import Derived.Test.YthcnfflhejogfaaDoorBApplyTells3
import Derived.Test.YthcnfflhejogfaaDoorProg
import Derived.Below
import Derived.Deep.Draws
import Derived.Deep.AppendLies
import Derived.Maps.AppendAt
import Derived.OwnWalk
import Derived.Laws.BytesArg
import Derived.Laws.MakeOwn
import Derived.Laws.OwnMore
import Derived.Deep.OwnRows
import Derived.Tactics
import Derived.Lib.ConvBytes
import Derived.Laws.Slices
import Derived.WalkKit
import Derived.KernelRfl
import Derived.RowKit3
import Derived.Deep.LoopGhost
import Derived.Deep.QuietTactic
import Derived.BigQuiet
import Derived.WideLaws
import Derived.Deep.DeepCutAuto
import Derived.Deep.CutBlock
import Derived.Deep.RegionHeld3
import Derived.Laws.Rows
import Derived.Lib.AppendStr
import Derived.ArgAppend
import Derived.Laws.IdiomCopy
import Derived.OrdersHeld
import Derived.Laws.BitsLemmas
import Derived.RowKit
set_option linter.unusedVariables false
set_option linter.unusedSimpArgs false
set_option maxRecDepth 100000
set_option maxHeartbeats 8000000
namespace Go.Proofs.YthcnfflhejogfaaDoor.X
open Go.RowKit Go.Proofs.YthcnfflhejogfaaDoorW.PrintWords Go.Proofs.YthcnfflhejogfaaDoorW.PrintLast Go.Proofs.YthcnfflhejogfaaDoorW.PrintMore
attribute [local go_sem] max2_int min2_int max_two min_two max_three min_three max_four min_four
def errW:Option Int→Value
  | none => .nilIface
  | some c => .iface 0 (.int .i64 c)
theorem errW_none:errW none = .nilIface:=rfl
theorem errW_some (c:Int):errW (some c) = .iface 0 (.int .i64 c):=rfl

theorem info3:(Tryd.prog.info? 3).map (fun i=>(i.zero,i.size,i.bytes))=some (some (.int .i64 0),1,8):=by kernel_rfl
theorem info9:(Tryd.prog.info? 9).map (fun i=>(i.zero,i.size,i.bytes))=some (some (.string ⟨#[]⟩),1,16):=by kernel_rfl
theorem info45:(Tryd.prog.info? 45).map (fun i=>(i.zero,i.size,i.bytes))=some (some (.agg #[(.int .i64 0),(.int .i64 0)]),2,16):=by kernel_rfl
structure S45 where
  f0:Int
  f1:Int
def z45:S45:=⟨(0:Int),(0:Int)⟩
def k45:Kd S45:=Kd.iso (Kd.pair (Kd.int .i64) (Kd.int .i64)) (fun x:S45=>(x.f0,x.f1))
theorem k45_open {w:World} {x:S45} {cs:List Value} (h:k45.K w x cs):cs=[.int .i64 x.f0, .int .i64 x.f1]:=by
  obtain⟨_,_,rfl,rfl,rfl⟩:=h
  exact rfl
theorem k45_mk (w:World) (x:S45)  : k45.K w x [.int .i64 x.f0, .int .i64 x.f1]:=⟨[.int .i64 x.f0],[.int .i64 x.f1],rfl,rfl,rfl⟩
theorem k45_mkM (w:World) (base:Nat) (ok:Nat→Prop) (x:S45)  : k45.M w base ok x [.int .i64 x.f0, .int .i64 x.f1]:=⟨[.int .i64 x.f0],[.int .i64 x.f1],rfl,rfl,rfl⟩
def rd_T45 (xs:List S45) (i:Int):S45:=xs.getD i.toNat z45
theorem at_T45 {w:World} {A:Option Addr} {n:Nat} {xs:List S45} (h:Kd.C k45 w A n xs) (i:Int) (h0:0≤i) (h1:i < n) : ∃ ad ,A=some ad∧w.cell? (ad.add (i.toNat * 2))=some (.int .i64 (rd_T45 xs i).f0)∧w.cell? ⟨(ad.add (i.toNat * 2)).block,(ad.add (i.toNat * 2)).off+1,none⟩=some (.int .i64 (rd_T45 xs i).f1):=by
  obtain⟨ad,c,e,_,hK,hc0⟩:=Kd.C_get h z45 i h0 h1
  have hc : ∀ j u,c[j]? = some u→w.cell? (ad.add (i.toNat * 2+j))=some u:=hc0
  obtain rfl:=k45_open hK
  exact⟨ad,e,hc 0 _ rfl,by rw[← add_field _ _ 1 (by omega)];exact hc 1 _ rfl⟩

structure S57 where
  f0:ByteArray
  f1:ByteArray
def z57:S57:=⟨(⟨#[]⟩:ByteArray),(⟨#[]⟩:ByteArray)⟩
def k57:Kd S57:=Kd.iso (Kd.pair Kd.string Kd.string) (fun x:S57=>(x.f0,x.f1))
theorem k57_open {w:World} {x:S57} {cs:List Value} (h:k57.K w x cs):cs=[.string x.f0, .string x.f1]:=by
  obtain⟨_,_,rfl,rfl,rfl⟩:=h
  exact rfl
theorem k57_mkM (w:World) (base:Nat) (ok:Nat→Prop) (x:S57)  : k57.M w base ok x [.string x.f0, .string x.f1]:=⟨[.string x.f0],[.string x.f1],rfl,rfl,rfl⟩
def rd_T57 (xs:List S57) (i:Int):S57:=xs.getD i.toNat z57
theorem at_T57 {w:World} {A:Option Addr} {n:Nat} {xs:List S57} (h:Kd.C k57 w A n xs) (i:Int) (h0:0≤i) (h1:i < n) : ∃ ad ,A=some ad∧w.cell? (ad.add (i.toNat * 2))=some (.string (rd_T57 xs i).f0)∧w.cell? ⟨(ad.add (i.toNat * 2)).block,(ad.add (i.toNat * 2)).off+1,none⟩=some (.string (rd_T57 xs i).f1):=by
  obtain⟨ad,c,e,_,hK,hc0⟩:=Kd.C_get h z57 i h0 h1
  have hc : ∀ j u,c[j]? = some u→w.cell? (ad.add (i.toNat * 2+j))=some u:=hc0
  obtain rfl:=k57_open hK
  exact⟨ad,e,hc 0 _ rfl,by rw[← add_field _ _ 1 (by omega)];exact hc 1 _ rfl⟩

structure S48 where
  f0:(List S45)
  f1:S45
  f2:(List S57)
def z48:S48:=⟨([]:List S45),z45,([]:List S57)⟩
def k48:Kd S48:=Kd.iso (Kd.pair (Kd.slice 45 k45) (Kd.pair k45 (Kd.slice 57 k57))) (fun x:S48=>(x.f0,x.f1,x.f2))
theorem k48_open {w:World} {x:S48} {cs:List Value} (h:k48.K w x cs) : ∃ A0 c0 A3 c3,cs=[.slice A0 x.f0.length c0, .int .i64 x.f1.f0, .int .i64 x.f1.f1, .slice A3 x.f2.length c3]∧x.f0.length≤c0∧k45.C w A0 x.f0.length x.f0∧x.f2.length≤c3∧k57.C w A3 x.f2.length x.f2:=by
  obtain⟨_,_,rfl,⟨A0,c0,rfl,l0,g0⟩,⟨_,_,rfl,s1,⟨A3,c3,rfl,l3,g3⟩⟩⟩:=h
  obtain rfl:=k45_open s1
  exact⟨A0,c0,A3,c3,rfl,l0,g0,l3,g3⟩
theorem k48_mk (w:World) (x:S48) {A0:Option Addr} {c0:Nat} (l0:x.f0.length≤c0) (g0:k45.C w A0 x.f0.length x.f0) {A3:Option Addr} {c3:Nat} (l3:x.f2.length≤c3) (g3:k57.C w A3 x.f2.length x.f2):k48.K w x [.slice A0 x.f0.length c0, .int .i64 x.f1.f0, .int .i64 x.f1.f1, .slice A3 x.f2.length c3]:=⟨[.slice A0 x.f0.length c0],[.int .i64 x.f1.f0, .int .i64 x.f1.f1, .slice A3 x.f2.length c3],rfl,⟨A0,c0,rfl,l0,g0⟩,⟨[.int .i64 x.f1.f0, .int .i64 x.f1.f1],[.slice A3 x.f2.length c3],rfl,(k45_mk w x.f1 ),⟨A3,c3,rfl,l3,g3⟩⟩⟩
theorem k48_mkF (W:World) (ok:Nat→Prop) (x:S48) {A0:Option Addr} {c0:Nat} (l0:x.f0.length≤c0) (g0:Kd.F k45 W ok A0 x.f0.length x.f0) {A3:Option Addr} {c3:Nat} (l3:x.f2.length≤c3) (g3:Kd.F k57 W ok A3 x.f2.length x.f2):Kd.FK k48 W ok x [.slice A0 x.f0.length c0, .int .i64 x.f1.f0, .int .i64 x.f1.f1, .slice A3 x.f2.length c3]:=fun W2 hW=>k48_mk W2 x l0 (g0 W2 hW) l3 (g3 W2 hW)
def rd_T48 (xs:List S48) (i:Int):S48:=xs.getD i.toNat z48
theorem at_T48 {w:World} {A:Option Addr} {n:Nat} {xs:List S48} (h:Kd.C k48 w A n xs) (i:Int) (h0:0≤i) (h1:i < n) : ∃ ad A0 c0 A3 c3,A=some ad∧w.cell? (ad.add (i.toNat * 4))=some (.slice A0 (rd_T48 xs i).f0.length c0)∧w.cell? ⟨(ad.add (i.toNat * 4)).block,(ad.add (i.toNat * 4)).off+1,none⟩=some (.int .i64 (rd_T48 xs i).f1.f0)∧w.cell? ⟨(ad.add (i.toNat * 4)).block,(ad.add (i.toNat * 4)).off+2,none⟩=some (.int .i64 (rd_T48 xs i).f1.f1)∧w.cell? ⟨(ad.add (i.toNat * 4)).block,(ad.add (i.toNat * 4)).off+3,none⟩=some (.slice A3 (rd_T48 xs i).f2.length c3)∧(rd_T48 xs i).f0.length≤c0∧k45.C w A0 (rd_T48 xs i).f0.length (rd_T48 xs i).f0∧(rd_T48 xs i).f2.length≤c3∧k57.C w A3 (rd_T48 xs i).f2.length (rd_T48 xs i).f2:=by
  obtain⟨ad,c,e,_,hK,hc0⟩:=Kd.C_get h z48 i h0 h1
  have hc : ∀ j u,c[j]? = some u→w.cell? (ad.add (i.toNat * 4+j))=some u:=hc0
  obtain⟨A0,c0,A3,c3,rfl,l0,g0,l3,g3⟩:=k48_open hK
  exact⟨ad,A0,c0,A3,c3,e,hc 0 _ rfl,by rw[← add_field _ _ 1 (by omega)];exact hc 1 _ rfl,by rw[← add_field _ _ 2 (by omega)];exact hc 2 _ rfl,by rw[← add_field _ _ 3 (by omega)];exact hc 3 _ rfl,l0,g0,l3,g3⟩

theorem eqA45 (d:Nat) (w:World) (x0 y0:Int) (x1 y1:Int) :
    (Op.equalIn (d+2) 45 (.agg #[.int .i64 x0, .int .i64 x1]) (.agg #[.int .i64 y0, .int .i64 y1])).run Tryd.prog w = .ok (x0 == y0 && (x1 == y1)) w:=by
  refine eqA_of Tryd.underlying45 (by kernel_rfl) ?_
  refine eqf_cons (by rfl) (by go_simp;rfl) (by go_simp;rfl) (by go_simp) ?_
  exact eqf_last (by rfl) (by go_simp;rfl) (by go_simp;rfl) (by go_simp)
theorem eqA57 (d:Nat) (w:World) (x0 y0:ByteArray) (x1 y1:ByteArray) :
    (Op.equalIn (d+2) 57 (.agg #[.string x0, .string x1]) (.agg #[.string y0, .string y1])).run Tryd.prog w = .ok (x0.toList == y0.toList && (x1.toList == y1.toList)) w:=by
  refine eqA_of Tryd.underlying57 (by kernel_rfl) ?_
  refine eqf_cons (by rfl) (by go_simp;rfl) (by go_simp;rfl) (by go_simp) ?_
  exact eqf_last (by rfl) (by go_simp;rfl) (by go_simp;rfl) (by go_simp)
end Go.Proofs.YthcnfflhejogfaaDoor.X
namespace Go.Proofs.YthcnfflhejogfaaDoor.X
open Go.RowKit Go.Proofs.YthcnfflhejogfaaDoorW.PrintWords
section
variable {P:Program} {ops:Array Oper} {rest:List Oper} {o:Oper} {a:Act} {Q:Exit→Act→World→Prop} {W:World}
end
theorem cell_blk {W:World} {g j:Nat} {cs:Array Value} {t:TypeId} {v:Value} (h:W.heap[g]? = some (.cells cs t (0,0))) (hj:cs[j]? = some v):W.cell? ⟨g,j,none⟩=some v:=by
  rw[cell_of_row W g j cs t (0,0) h,hj]
theorem heap_set_same {W:World} {g j:Nat} {cs:Array Value} {t:TypeId} {fr:Nat × Nat} (h:W.heap[g]? = some (.cells cs t fr)) (v:Value):(W.setCell ⟨g,j,none⟩ v).heap[g]? = some (.cells (cs.setIfInBounds j v) t fr):=by
  have hlt:g < W.heap.size:=(Array.getElem?_eq_some_iff.1 h).1
  rw[Array.getElem?_eq_getElem hlt] at h
  injection h with h
  simp[World.setCell,hlt,Array.getElem_modify,h]
theorem heap_set_other {W:World} {g g' j:Nat} (hne:g'≠g) (v:Value):(W.setCell ⟨g,j,none⟩ v).heap[g']? = W.heap[g']? := Below.heap_setCell W ⟨g,j,none⟩ v g' hne
theorem cell_alloc_of {w:World} {a:Addr} {v:Value} (h:w.cell? a=some v) (o:Obj):(w.alloc o).cell? a=some v :=
  (World.cell?_alloc_lt _ _ _ (World.block_lt_of_cell? w a h)).trans h
end Go.Proofs.YthcnfflhejogfaaDoor.X
namespace Go.Proofs.YthcnfflhejogfaaDoor.X
open Go.RowKit Go.Proofs.YthcnfflhejogfaaDoorW.PrintWords Go.Proofs.YthcnfflhejogfaaDoorW.PrintLast Go.Proofs.YthcnfflhejogfaaDoorW.PrintMore
theorem C_blk {α:Type} {d:Kd α} {W:World} {g:Nat} {t:TypeId} {fr:Nat × Nat} {xs:List α} {inner:List Value} (h:W.heap[g]? = some (.cells inner.toArray t fr)) (hr:Reps (d.K W) d.sz xs inner) (hl:xs.length≤9223372036854775807):d.C W (some ⟨g,0,none⟩) xs.length xs:=by
 refine⟨rfl,hl,fun _=>⟨_,rfl,fun j p hj=>⟨_,?_,hr.2 j p hj,fun i u hu=>?_⟩⟩⟩;(· have hjl:=(List.getElem?_eq_some_iff.1 hj).1;(have h1:j * d.sz+d.sz≤inner.length:=by rw[hr.1,← Nat.succ_mul];exact Nat.mul_le_mul_right _ hjl);(rw[List.length_take,List.length_drop];omega))
 ·
  have hil:=(List.getElem?_eq_some_iff.1 hu).1;(rw[List.length_take] at hil);(rw[List.getElem?_take_of_lt (by omega),List.getElem?_drop] at hu);(have:W.cell? ⟨g,j * d.sz+i,none⟩=some u:=by rw[cell_of_row W g _ _ t fr h];simpa using hu);obtain⟨q,hq⟩ : ∃ q,j * d.sz+i=q:=⟨_,rfl⟩;(rw[hq] at this ⊢)
  by_cases e:q=0
  (· (subst e;simpa [Addr.add] using this));(· simpa [Addr.add,e] using this)
theorem far_ {W w w':World} (h:Below W.heap.size W w) (hb:Below w.heap.size w w'):Below W.heap.size W w':=h.trans (hb.mono h.size)
theorem at_slice {α:Type} {e:Nat} {d:Kd α} {w:World} {A:Option Addr} {n:Nat} {xs:List (List α)} (h:(Kd.slice e d).C w A n xs) (i:Nat) (hi:i < n) :
    ∃ ad A0 c0,A=some ad∧w.cell? (ad.add i)=some (.slice A0 (xs.getD i []).length c0)∧(xs.getD i []).length≤c0∧d.C w A0 (xs.getD i []).length (xs.getD i []):=by
 obtain⟨ad,c,e1,_,⟨A0,c0,e2,e3,e4⟩,e5⟩:=ReadsRow.get_ h [] (i:Int) (by omega) (by omega);(rw[Int.toNat_natCast] at e2 e3 e4 e5);subst e2;have:=e5 0 _ rfl;(rw[show i * (Kd.slice e d).sz+0=i from by rw[show (Kd.slice e d).sz=1 from rfl];omega] at this);exact⟨ad,A0,c0,e1,this,e3,e4⟩
theorem getD_get {α:Type} {d:α} {l:List α} {i:Nat} (h:i < l.length):l.getD i d=l[i]:=by simp[h]
theorem dt_ {p:Prop} [Decidable p] (h:decide p=true:=by first|(with_reducible assumption)|assumption):p:=of_decide_eq_true h
theorem bel_ {p:Prop} (h:p:=by repeat(first|(with_reducible first|exact HB.out|apply below_alloc|apply pw_below_drewN|apply below_drew1)|exact HB.out)):p:=h
theorem pR_ {p q:Prop} (h:p) (hq:p→q:=by(intro h;(with_reducible repeat(first|apply Kd.R_alloc|apply Kd.R_drewN|apply Kd.R_drew));exact h)):q:=hq h
theorem pK_ {p q:Prop} (h:p) (hq:p→q:=by(intro h;(with_reducible repeat(first|refine blk_drewN ?_ _|refine blk_drew ?_|refine blk_alloc ?_ _));exact h)):q:=hq h
theorem rs_ {p:Prop} (h:p:=by first|rfl|(simp;done)|(simp[*];done)):p:=h
theorem d0_ {p:Prop} (h:p:=by repeat(first|exact Drawn0.refl _|apply Drawn0.step)):p:=h
def bl_:Nat→Nat→List Bool
  | 0,_=>[]
  | n+1,b=>(b % 2 == 1) :: bl_ n (b / 2)
def bm_ (n b:Nat):Array Bool:=⟨bl_ n b⟩
theorem nx_ {p q:Prop} [Decidable p] {α:Type} {a:Option α} {r:α} (c : ¬p) (h:(if p then a else none)=some r):q:=by
  rw[if_neg c] at h
  cases h
theorem bs1_ {p q:Prop} (hg:q) (h:q→p:=by(intro GE_;repeat(first|(with_reducible first|exact HB.out|apply below_alloc|apply pw_below_drewN|apply below_drew1|refine below_set ?_ GE_)|exact HB.out))):p:=h hg
theorem bs2_ {p q r:Prop} (hg:q) (hg2:r) (h:q→r→p:=by(intro GE_ GF_;repeat(first|(with_reducible first|exact HB.out|apply below_alloc|apply pw_below_drewN|apply below_drew1|refine below_set ?_ GE_|refine below_set ?_ GF_)|exact HB.out))):p:=h hg hg2
section
variable {α:Type} {d:Kd α} {e:TypeId} {W W':World} {B:Nat} {ok:Nat→Prop} {v:Value} {xs:List α}
theorem pN_ (h:Kd.N d e W B ok v xs) (hq:Kd.N d e W B ok v xs→Kd.N d e W' B ok v xs:=by(intro h;(with_reducible repeat(first|apply Kd.N_alloc|apply Kd.N_drewN|apply Kd.N_drew));exact h)):Kd.N d e W' B ok v xs:=hq h
theorem pRm_ (h:Kd.R d e W B ok v xs) (hq:Kd.R d e W B ok v xs→Kd.R d e W' B ok v xs:=by(intro h;(with_reducible repeat(first|apply Kd.R_alloc|apply Kd.R_drewN|apply Kd.R_drew));exact h)):Kd.R d e W' B ok v xs:=hq h
end
theorem pC_ {p q:Prop} (h:p) (hq:p→q:=by(intro h;repeat(first|exact h|(with_reducible refine Kd.C_alloc ?_ _)|(with_reducible refine Kd.C_drewN ?_ _)|(with_reducible refine Kd.C_drew ?_)))):q:=hq h
theorem am_ {p:Prop} (h:p:=by((try simp only[List.map_toArray,List.map_cons,List.map_nil]);first|done|rfl|(simp only[List.length_drop,List.length_take];rfl))):p:=h
theorem ew_ {p:Prop} (h:p:=by first|rfl|(simp[errW_none,errW_some] <;> rfl)|(simp[*,errW_none,errW_some] <;> rfl)):p:=h
section
variable {P:Program} {md:Region.Mode} {ops:Array Oper} {Q:Exit→Act→World→Prop} {S:World→Prop} {ds:List Nat}
theorem pq_ {i:Nat} {N:Option Tmp} {oi:Oper} {v:Value} {fuel:Nat} {l:Array Bool} {a:Act} {w:World} (l':Array Bool) {a':Act} (h:wpAnyLast P md ops Q S ds fuel l' a' w) (hi:ops[i]? = some oi:=by rfl) (hN:oi.dst=N:=by rfl) (hc:anyB md ops l l' i=true:=by kernel_rfl)
    (hQ : ∀ c a w,Q (.panic c) (a.put oi.dst v) w→Q (.panic c) a w:=by exact fun _ _ _ h=>h) (hy:Yields P ops oi v a:=by exact Or.inl ⟨by rfl,by(intro w';go_simp;with_reducible rfl)⟩) (ha:a.put N v=a':=by(simp only[Act.put,List.setIfInBounds_toArray,List.set_cons_zero,List.set_cons_succ,i64_w,i32_w];rfl)):wpAnyLast P md ops Q S ds (fuel+1) l a w:=pure_ l' hi hN hc hQ hy ha h
theorem pu_ {i:Nat} {N:Option Tmp} {oi:Oper} {fuel:Nat} {l:Array Bool} {a:Act} {w:World} (l':Array Bool) {a':Act} (h:wpAnyLast P md ops Q S ds fuel l' a' w) (hi:ops[i]? = some oi:=by rfl) (hN:oi.dst=N:=by rfl) (hc:anyB md ops l l' i=true:=by kernel_rfl)
    (hQ : ∀ c a w,Q (.panic c) (a.put oi.dst undef) w→Q (.panic c) a w:=by exact fun _ _ _ h=>h) (hy:Yields P ops oi undef a:=by exact Or.inr ⟨by rfl,rfl⟩) (ha:a.put N undef=a':=by(simp only[Act.put,List.setIfInBounds_toArray,List.set_cons_zero,List.set_cons_succ,i64_w,i32_w];rfl)):wpAnyLast P md ops Q S ds (fuel+1) l a w:=pure_ l' hi hN hc hQ hy ha h
theorem tq_ {i:Nat} {N:Option Tmp} {oi:Oper} {v:Value} {fuel:Nat} {l:Array Bool} {a:Act} {w:World} (l':Array Bool) {a':Act} (hS:S w) (h:wpAnyLast P md ops Q S ds fuel l' a' w) (hi:ops[i]? = some oi:=by rfl) (hN:oi.dst=N:=by rfl) (hc:takeB md ops ds l l' i=true:=by kernel_rfl)
    (hQ : ∀ c a w,Q (.panic c) (a.put oi.dst v) w→Q (.panic c) a w:=by exact fun _ _ _ h=>h) (hy:YieldsIf P ops S oi v a:=by exact Or.inl ⟨by rfl,by(intro w' s;(repeat(obtain⟨_,s⟩:=s));go_simp;with_reducible rfl)⟩) (ha:a.put N v=a':=by(simp only[Act.put,List.setIfInBounds_toArray,List.set_cons_zero,List.set_cons_succ,i64_w,i32_w];rfl)):wpAnyLast P md ops Q S ds (fuel+1) l a w:=take_ l' hi hN hc hQ hy hS ha h
theorem nq_ {fuel:Nat} {l:Array Bool} {a a':Act} {w:World} {N:Option Tmp} {v:Value} (h:wpAnyLast P md ops Q S ds fuel l a' w) (ha:a.put N v=a':=by(show Act.put _ _ _=_;simp only[Act.put,List.setIfInBounds_toArray,List.set_cons_zero,List.set_cons_succ,i64_w,i32_w];rfl)):wpAnyLast P md ops Q S ds fuel l (a.put N v) w:=norm_ ha h
end
end Go.Proofs.YthcnfflhejogfaaDoor.X
namespace Go.Proofs.YthcnfflhejogfaaDoor.X
open Go.RowKit Go.Proofs.YthcnfflhejogfaaDoorW.PrintWords Go.Proofs.YthcnfflhejogfaaDoorW.PrintLast Go.Proofs.YthcnfflhejogfaaDoorW.PrintMore
attribute [local go_sem] max2_int min2_int max_two min_two max_three min_three max_four min_four
def slices_Equal_string_string.l0:Nat→List ByteArray→List ByteArray→Int→Int→Option (Bool)
  | 0,_,_,_,_=>none
  | k+1,x0,x1,x12,x13=>if x13 < x12 then (if 0≤x13 then (if x13 < (x0.length:Int) then (if x13 < (x1.length:Int) then (if (rdOf ByteArray.empty x0 x13).toList=(rdOf ByteArray.empty x1 x13).toList then (slices_Equal_string_string.l0 k x0 x1 x12 (wrap64 (x13+1))) else (some false)) else (none)) else (none)) else (none)) else (some true)
def slices_Equal_string_string.f (k:Nat) (l0:List ByteArray) (l1:List ByteArray):Option (Bool):=if (l0.length:Int)=(l1.length:Int) then (slices_Equal_string_string.l0 k l0 l1 (l0.length:Int) 0) else (some false)
theorem slices_Equal_string_string.calls (k:Nat) (A0:Option Addr) (c0:Nat) (l0:List ByteArray) (A1:Option Addr) (c1:Nat) (l1:List ByteArray) (r:Bool) (w:World) (hr0:Kd.C Kd.string w A0 l0.length l0) (hc0:l0.length≤c0) (hr1:Kd.C Kd.string w A1 l1.length l1) (hc1:l1.length≤c1) (h:slices_Equal_string_string.f k l0 l1=some r) :
    Calls Tryd.prog 96 #[.slice A0 l0.length c0, .slice A1 l1.length c1] w fun e w'=>e = .returned (.bool r)∧Drawn0 w w':=by
 have HR0:=Aside0.mk hr0;have HC0:=Aside0.mk hc0;clear hr0 hc0;have HR1:=Aside0.mk hr1;have HC1:=Aside0.mk hc1;clear hr1 hc1;have H:=h;(rw[slices_Equal_string_string.f] at H);clear h
 by_cases c3:(l0.length:Int)=(l1.length:Int)
 ·
  (rw[if_pos c3] at H);have c3b0:((l0.length:Int) == (l1.length:Int))=true:=beq_iff_eq.mpr c3;have c3b1:((l0.length:Int) != (l1.length:Int))=false:=bne_eq_false_iff_eq.mpr c3;(have c3b2:(l0.length == l1.length)=true:=by first|simpa using c3|(simp at c3 ⊢;omega));clear c3;have H':=Aside0.mk H;clear H;go_enter Tryd.func96,Tryd.ntmps96;go_wp2;(repeat(go_quiet (fail);try go_wp2))
  go_loopg [13] k (fun kq v13 w' => ∃ (x13_1:Int),v13 = .int .i64 x13_1∧Aside0 (slices_Equal_string_string.l0 kq l0 l1 (l0.length:Int) x13_1=some r)∧Aside0 (kq≤k)∧Drawn0 w w')
  (case atStart=>exact⟨(0),rs_,H',⟨Nat.le_refl _⟩,d0_⟩)
  case round =>
   clear H';(try clear c1);(try clear p2);(try clear c3);(try clear c3b0);(try clear c3b1);(try clear c3b2);obtain⟨x13_1,rfl,HA,HK1,⟨m1,rfl⟩⟩:=hrel
   cases gk with
   | zero=>exact absurd HA.out (by simp[slices_Equal_string_string.l0])
   | succ k1 =>
    have H:=HA.out;clear HA;(simp only[slices_Equal_string_string.l0] at H)
    by_cases c4:x13_1 < (l0.length:Int)
    ·
     (rw[if_pos c4] at H);have c4b0:decide (x13_1 < (l0.length:Int))=true:=decide_eq_true c4;clear c4
     by_cases c5:0≤x13_1
     ·
      (rw[if_pos c5] at H);have c5b0:decide (0≤x13_1)=true:=decide_eq_true c5;clear c5
      by_cases c6:x13_1 < (l0.length:Int)
      ·
       (rw[if_pos c6] at H);have c6b0:decide (x13_1 < (l0.length:Int))=true:=decide_eq_true c6;clear c6
       by_cases c7:x13_1 < (l1.length:Int)
       ·
        (rw[if_pos c7] at H);have c7b0:decide (x13_1 < (l1.length:Int))=true:=decide_eq_true c7;clear c7
        by_cases c8:(rdOf ByteArray.empty l0 x13_1).toList=(rdOf ByteArray.empty l1 x13_1).toList
        ·
         (rw[if_pos c8] at H);have c8b0:((rdOf ByteArray.empty l0 x13_1).toList == (rdOf ByteArray.empty l1 x13_1).toList)=true:=beq_iff_eq.mpr c8;have c8b1:((rdOf ByteArray.empty l0 x13_1).toList != (rdOf ByteArray.empty l1 x13_1).toList)=false:=bne_eq_false_iff_eq.mpr c8;clear c8;have H':=Aside0.mk H;clear H;have p101:0≤(x13_1:Int):=dt_;have q101:x13_1 < (l0.length:Int):=dt_;obtain⟨ad101,e101,hx101_0⟩:=Kd.at_string HR0.out x13_1 p101 q101;cases e101;replace p101:=eq_true p101;replace q101:=eq_true q101;have p102:0≤(x13_1:Int):=dt_;have q102:x13_1 < (l1.length:Int):=dt_;obtain⟨ad102,e102,hx102_0⟩:=Kd.at_string HR1.out x13_1 p102 q102;cases e102;replace p102:=eq_true p102;replace q102:=eq_true q102;go_wp2;(repeat(go_quiet (fail);try go_wp2))
         go_roundg k1
         (case measure=>have:=HK1.out;omega);(case rel=>exact⟨(wrap64 (x13_1+1)),rs_,H',⟨by have:=HK1.out;omega⟩,d0_⟩)
        (· (rw[if_neg c8] at H);have c8b0:((rdOf ByteArray.empty l0 x13_1).toList == (rdOf ByteArray.empty l1 x13_1).toList)=false:=beq_eq_false_iff_ne.mpr c8;have c8b1:((rdOf ByteArray.empty l0 x13_1).toList != (rdOf ByteArray.empty l1 x13_1).toList)=true:=bne_iff_ne.mpr c8;obtain rfl:=Option.some.inj H;have p101:0≤(x13_1:Int):=dt_;have q101:x13_1 < (l0.length:Int):=dt_;obtain⟨ad101,e101,hx101_0⟩:=Kd.at_string HR0.out x13_1 p101 q101;cases e101;replace p101:=eq_true p101;replace q101:=eq_true q101;have p102:0≤(x13_1:Int):=dt_;have q102:x13_1 < (l1.length:Int):=dt_;obtain⟨ad102,e102,hx102_0⟩:=Kd.at_string HR1.out x13_1 p102 q102;cases e102;replace p102:=eq_true p102;replace q102:=eq_true q102;go_wp2;(repeat(go_quiet (fail);try go_wp2));go_ret;exact⟨by first|rfl|(simp;done)|(simp[*];done),d0_⟩)
       (· exact nx_ c7 H)
      (· exact nx_ c6 H)
     (· exact nx_ c5 H)
    (· (rw[if_neg c4] at H);have c4b0:decide (x13_1 < (l0.length:Int))=false:=decide_eq_false c4;clear c4;obtain rfl:=Option.some.inj H;go_wp2;(repeat(go_quiet (fail);try go_wp2));go_ret;exact⟨by first|rfl|(simp;done)|(simp[*];done),d0_⟩)
 (· (rw[if_neg c3] at H);have c3b0:((l0.length:Int) == (l1.length:Int))=false:=beq_eq_false_iff_ne.mpr c3;have c3b1:((l0.length:Int) != (l1.length:Int))=true:=bne_iff_ne.mpr c3;(have c3b2:(l0.length == l1.length)=false:=by first|simpa using c3|(simp at c3 ⊢;omega));obtain rfl:=Option.some.inj H;go_enter Tryd.func96,Tryd.ntmps96;go_wp2;(repeat(go_quiet (fail);try go_wp2));go_ret;exact⟨by first|rfl|(simp;done)|(simp[*];done),d0_⟩)
mutual
def sennitref21_Few.l0:Nat→List (S57)→Int→Option (Bool)
  | 0,_,_=>none
  | k+1,x0,x3=>if x3 < (x0.length:Int) then (sennitref21_Few.j1 k x0 x3 (decide (x3 < 41))) else (sennitref21_Few.j1 k x0 x3 false)
def sennitref21_Few.j1:Nat→List (S57)→Int→Bool→Option (Bool)
  | 0,_,_,_=>none
  | k+1,x0,x3,x11=>if x11=true then (if 0≤x3 then (if x3 < (x0.length:Int) then (if (((rd_T57 x0 x3).f0).size:Int) > 20 then (some false) else (if (((rd_T57 x0 x3).f1).size:Int) > 100 then (some false) else (sennitref21_Few.l0 k x0 (wrap64 (x3+1))))) else (none)) else (none)) else (some (decide ((x0.length:Int)≤40)))
end
def sennitref21_Few.f (k:Nat) (l0:List (S57)):Option (Bool):=sennitref21_Few.l0 k l0 0
theorem sennitref21_Few.calls (k:Nat) (A0:Option Addr) (c0:Nat) (l0:List (S57)) (r:Bool) (w:World) (hr0:Kd.C k57 w A0 l0.length l0) (hc0:l0.length≤c0) (h:sennitref21_Few.f k l0=some r) :
    Calls Tryd.prog 27 #[.slice A0 l0.length c0] w fun e w'=>e = .returned (.bool r)∧Drawn0 w w':=by
 have HR0:=Aside0.mk hr0;have HC0:=Aside0.mk hc0;clear hr0 hc0;have H:=h;(rw[sennitref21_Few.f] at H);clear h;have H':=Aside0.mk H;clear H;go_enter Tryd.func27,Tryd.ntmps27;go_wp2
 go_loopg [3] k (fun kq v3 w' => ∃ (x3_1:Int),v3 = .int .i64 x3_1∧Aside0 (sennitref21_Few.l0 kq l0 x3_1=some r)∧Aside0 (kq≤k)∧Drawn0 w w')
 (case atStart=>exact⟨(0),rs_,H',⟨Nat.le_refl _⟩,d0_⟩)
 case round =>
  clear H';obtain⟨x3_1,rfl,HA,HK1,⟨m1,rfl⟩⟩:=hrel
  cases gk with
  | zero=>exact absurd HA.out (by simp[sennitref21_Few.l0])
  | succ k1 =>
   have H:=HA.out;clear HA;(simp only[sennitref21_Few.l0] at H);have HC2:=Aside0.mk H;clear H
   go_upto_region 2 with (fail)
   go_cut [11] (fun v11 wc => ∃ (kq:Nat) (x11_1:Bool),v11 = .bool x11_1∧Aside0 (sennitref21_Few.j1 kq l0 x3_1 x11_1=some r)∧Aside0 (kq≤k1)∧Drawn0 w wc)
   case first =>
    have H:=HC2.out;clear HC2
    by_cases c3:x3_1 < (l0.length:Int)
    ·
     (rw[if_pos c3] at H);have c3b0:decide (x3_1 < (l0.length:Int))=true:=decide_eq_true c3;clear c3;(first|rw[c3b0]|(simp only[i64_w,i32_w];rw[c3b0])|skip);have H':=Aside0.mk H;clear H;go_wp2
     go_meet
     (case rel=>exact⟨_,(decide (x3_1 < 41)),rs_,H',⟨by have:=HK1.out;first|omega|exact Nat.le_refl _⟩,d0_⟩)
    ·
     (rw[if_neg c3] at H);have c3b0:decide (x3_1 < (l0.length:Int))=false:=decide_eq_false c3;clear c3;(first|rw[c3b0]|(simp only[i64_w,i32_w];rw[c3b0])|skip);have H':=Aside0.mk H;clear H;go_wp2
     go_meet
     (case rel=>exact⟨_,(false),rs_,H',⟨by have:=HK1.out;first|omega|exact Nat.le_refl _⟩,d0_⟩)
   case rest =>
    clear HC2;(try clear c2);(try clear p2);(try clear c3);(try clear c3b0);obtain⟨kq,x11_1,rfl,HA,HJ1,⟨mc1,rfl⟩⟩:=hcut
    cases kq with
    | zero=>exact absurd HA.out (by simp[sennitref21_Few.j1])
    | succ kj1 =>
     have H:=HA.out;clear HA;(simp only[sennitref21_Few.j1] at H)
     by_cases c4:x11_1=true
     ·
      subst c4;have H1:=H;(rw[if_pos rfl] at H1);clear H;have H:=H1;clear H1
      by_cases c5:0≤x3_1
      ·
       (rw[if_pos c5] at H);have c5b0:decide (0≤x3_1)=true:=decide_eq_true c5;clear c5
       by_cases c6:x3_1 < (l0.length:Int)
       ·
        (rw[if_pos c6] at H);have c6b0:decide (x3_1 < (l0.length:Int))=true:=decide_eq_true c6;clear c6
        by_cases c7:(((rd_T57 l0 x3_1).f0).size:Int) > 20
        (· (rw[if_pos c7] at H);have c7b0:decide (20 < (((rd_T57 l0 x3_1).f0).size:Int))=true:=decide_eq_true c7;have c7b1:decide (20 < ((rd_T57 l0 x3_1).f0).size)=true:=decide_eq_true (by omega);clear c7;obtain rfl:=Option.some.inj H;have p101:0≤(x3_1:Int):=dt_;have q101:x3_1 < (l0.length:Int):=dt_;obtain⟨ad101,e101,hx101_0,hx101_1⟩:=at_T57 HR0.out x3_1 p101 q101;cases e101;replace p101:=eq_true p101;replace q101:=eq_true q101;go_wp2;go_ret;exact⟨by first|rfl|(simp;done)|(simp[*];done),d0_⟩)
        ·
         (rw[if_neg c7] at H);have c7b0:decide (20 < (((rd_T57 l0 x3_1).f0).size:Int))=false:=decide_eq_false c7;have c7b1:decide (20 < ((rd_T57 l0 x3_1).f0).size)=false:=decide_eq_false (by omega);clear c7
         by_cases c8:(((rd_T57 l0 x3_1).f1).size:Int) > 100
         (· (rw[if_pos c8] at H);have c8b0:decide (100 < (((rd_T57 l0 x3_1).f1).size:Int))=true:=decide_eq_true c8;have c8b1:decide (100 < ((rd_T57 l0 x3_1).f1).size)=true:=decide_eq_true (by omega);clear c8;obtain rfl:=Option.some.inj H;have p101:0≤(x3_1:Int):=dt_;have q101:x3_1 < (l0.length:Int):=dt_;obtain⟨ad101,e101,hx101_0,hx101_1⟩:=at_T57 HR0.out x3_1 p101 q101;cases e101;replace p101:=eq_true p101;replace q101:=eq_true q101;have p102:0≤(x3_1:Int):=dt_;have q102:x3_1 < (l0.length:Int):=dt_;obtain⟨ad102,e102,hx102_0,hx102_1⟩:=at_T57 HR0.out x3_1 p102 q102;obtain rfl:ad101=ad102:=(by injection e102);replace p102:=eq_true p102;replace q102:=eq_true q102;go_wp2;go_ret;exact⟨by first|rfl|(simp;done)|(simp[*];done),d0_⟩)
         ·
          (rw[if_neg c8] at H);have c8b0:decide (100 < (((rd_T57 l0 x3_1).f1).size:Int))=false:=decide_eq_false c8;have c8b1:decide (100 < ((rd_T57 l0 x3_1).f1).size)=false:=decide_eq_false (by omega);clear c8;have H':=Aside0.mk H;clear H;have p101:0≤(x3_1:Int):=dt_;have q101:x3_1 < (l0.length:Int):=dt_;obtain⟨ad101,e101,hx101_0,hx101_1⟩:=at_T57 HR0.out x3_1 p101 q101;cases e101;replace p101:=eq_true p101;replace q101:=eq_true q101;have p102:0≤(x3_1:Int):=dt_;have q102:x3_1 < (l0.length:Int):=dt_;obtain⟨ad102,e102,hx102_0,hx102_1⟩:=at_T57 HR0.out x3_1 p102 q102;obtain rfl:ad101=ad102:=(by injection e102);replace p102:=eq_true p102;replace q102:=eq_true q102;go_wp2
          go_roundg kj1
          (case measure=>have:=HK1.out;have:=HJ1.out;omega);(case rel=>exact⟨(wrap64 (x3_1+1)),rs_,H',⟨by have:=HK1.out;have:=HJ1.out;omega⟩,d0_⟩)
       (· exact nx_ c6 H)
      (· exact nx_ c5 H)
     (· replace c4:=Bool.eq_false_iff.mpr c4;subst c4;have H1:=H;(rw[if_neg (show ¬ (false=true) by decide)] at H1);clear H;have H:=H1;clear H1;obtain rfl:=Option.some.inj H;go_wp2;go_ret;exact⟨by first|rfl|(simp;done)|(simp[*];done),d0_⟩)
def sennitref01_feeds.l0:Nat→ByteArray→Int→Int→Option (Int)
  | 0,_,_,_=>none
  | k+1,x0,x3,x4=>if x4 < (x0.size:Int) then (if 0≤x4 then (if (bt x0 x4)=10 then (sennitref01_feeds.l0 k x0 (wrap64 (x3+1)) (wrap64 (x4+1))) else (sennitref01_feeds.l0 k x0 x3 (wrap64 (x4+1)))) else (none)) else (some x3)
def sennitref01_feeds.f (k:Nat) (a0:ByteArray):Option (Int):=sennitref01_feeds.l0 k a0 0 0
theorem sennitref01_feeds.calls (k:Nat) (a0:ByteArray) (r:Int) (w:World) (h:sennitref01_feeds.f k a0=some r) :
    Calls Tryd.prog 51 #[.string a0] w fun e w'=>e = .returned (.int .i64 r)∧Drawn0 w w':=by
 have H:=h;(rw[sennitref01_feeds.f] at H);clear h;have H':=Aside0.mk H;clear H;go_enter Tryd.func51,Tryd.ntmps51;go_wp2
 go_loopg [3,4] k (fun kq v3 v4 w' => ∃ (x3_1:Int) (x4_1:Int),v3 = .int .i64 x3_1∧v4 = .int .i64 x4_1∧Aside0 (sennitref01_feeds.l0 kq a0 x3_1 x4_1=some r)∧Aside0 (kq≤k)∧Drawn0 w w')
 (case atStart=>exact⟨(0),(0),rs_,rs_,H',⟨Nat.le_refl _⟩,d0_⟩)
 case round =>
  clear H';obtain⟨x3_1,x4_1,rfl,rfl,HA,HK1,⟨m1,rfl⟩⟩:=hrel
  cases gk with
  | zero=>exact absurd HA.out (by simp[sennitref01_feeds.l0])
  | succ k1 =>
   have H:=HA.out;clear HA;(simp only[sennitref01_feeds.l0] at H)
   by_cases c2:x4_1 < (a0.size:Int)
   ·
    (rw[if_pos c2] at H);have c2b0:decide (x4_1 < (a0.size:Int))=true:=decide_eq_true c2;clear c2
    by_cases c3:0≤x4_1
    ·
     (rw[if_pos c3] at H);have c3b0:decide (0≤x4_1)=true:=decide_eq_true c3;clear c3
     by_cases c5:(bt a0 x4_1)=10
     ·
      (rw[if_pos c5] at H);have c5b0:((bt a0 x4_1) == 10)=true:=beq_iff_eq.mpr c5;have c5b1:((bt a0 x4_1) != 10)=false:=bne_eq_false_iff_eq.mpr c5;clear c5;have H':=Aside0.mk H;clear H;have p4:0≤(x4_1:Int):=dt_;have q4:x4_1 < (a0.size:Int):=dt_;have hx4:=bt_at a0 x4_1;replace p4:=eq_true p4;replace q4:=eq_true q4;go_wp2
      go_roundg k1
      (case measure=>have:=HK1.out;omega);(case rel=>exact⟨(wrap64 (x3_1+1)),(wrap64 (x4_1+1)),rs_,rs_,H',⟨by have:=HK1.out;omega⟩,d0_⟩)
     ·
      (rw[if_neg c5] at H);have c5b0:((bt a0 x4_1) == 10)=false:=beq_eq_false_iff_ne.mpr c5;have c5b1:((bt a0 x4_1) != 10)=true:=bne_iff_ne.mpr c5;have H':=Aside0.mk H;clear H;have p4:0≤(x4_1:Int):=dt_;have q4:x4_1 < (a0.size:Int):=dt_;have hx4:=bt_at a0 x4_1;replace p4:=eq_true p4;replace q4:=eq_true q4;go_wp2
      go_roundg k1
      (case measure=>have:=HK1.out;omega);(case rel=>exact⟨(x3_1),(wrap64 (x4_1+1)),rs_,rs_,H',⟨by have:=HK1.out;omega⟩,d0_⟩)
    (· exact nx_ c3 H)
   (· (rw[if_neg c2] at H);have c2b0:decide (x4_1 < (a0.size:Int))=false:=decide_eq_false c2;clear c2;obtain rfl:=Option.some.inj H;go_wp2;go_ret;exact⟨by first|rfl|(simp;done)|(simp[*];done),d0_⟩)
def sennitref01_Line.f (k:Nat) (a0:ByteArray):Option (Bool):=(sennitref01_feeds.f k a0).bind fun t103=>(if t103=1 then (if 0≤(wrap64 ((a0.size:Int) - 1)) then (if (wrap64 ((a0.size:Int) - 1)) < (a0.size:Int) then (some ((bt a0 (wrap64 ((a0.size:Int) - 1))) == 10)) else (none)) else (none)) else (some false))
theorem sennitref01_Line.calls (k:Nat) (a0:ByteArray) (r:Bool) (w:World) (h:sennitref01_Line.f k a0=some r) :
    Calls Tryd.prog 52 #[.string a0] w fun e w'=>e = .returned (.bool r)∧Drawn0 w w':=by
 have H:=h;(rw[sennitref01_Line.f] at H);clear h;replace H:=Option.bind_eq_some_iff.mp H;obtain⟨t103,A20,H⟩:=H;(try dsimp only at H);have A2:=Aside0.mk A20;clear A20
 by_cases c3:t103=1
 ·
  (rw[if_pos c3] at H);have c3b0:(t103 == 1)=true:=beq_iff_eq.mpr c3;have c3b1:(t103 != 1)=false:=bne_eq_false_iff_eq.mpr c3;clear c3;obtain⟨ji4,hji4⟩ : ∃ j_:Int,(wrap64 ((a0.size:Int) - 1))=j_:=⟨_,rfl⟩;(first|rw[hji4] at H|simp only[hji4] at H);(try rw[hji4] at A2);have hji4w:(IntKind.i64.wrap ((a0.size:Int) - 1))=ji4:=(i64_w _).trans hji4
  by_cases c5:0≤(ji4)
  ·
   (rw[if_pos c5] at H);have c5b0:decide (0≤(ji4))=true:=decide_eq_true c5;clear c5
   by_cases c6:(ji4) < (a0.size:Int)
   (· (rw[if_pos c6] at H);have c6b0:decide ((ji4) < (a0.size:Int))=true:=decide_eq_true c6;clear c6;obtain rfl:=Option.some.inj H;go_enter Tryd.func52,Tryd.ntmps52;(go_wp2_with (first|((with_reducible refine gate_callee (f:=51) rfl ?_);refine goesL_ (some 4) rfl rfl Tryd.func51 (by kernel_rfl) rfl #[.string a0] rfl am_ ?_;(with_reducible refine(sennitref01_feeds.calls k a0 t103 _ A2.out).mono ?_);rintro e w' ⟨rfl,⟨nd,rfl⟩⟩;refine⟨_,rfl,?_⟩;have p7:0≤((ji4):Int):=dt_;have q7:(ji4) < (a0.size:Int):=dt_;have hx7:=bt_at a0 (ji4);replace p7:=eq_true p7;replace q7:=eq_true q7)));go_ret;exact⟨by first|rfl|(simp;done)|(simp only[← hji4] <;> (first|rfl|simp))|(simp[*];done),d0_⟩);(· exact nx_ c6 H)
  (· exact nx_ c5 H)
 (· (rw[if_neg c3] at H);have c3b0:(t103 == 1)=false:=beq_eq_false_iff_ne.mpr c3;have c3b1:(t103 != 1)=true:=bne_iff_ne.mpr c3;obtain rfl:=Option.some.inj H;go_enter Tryd.func52,Tryd.ntmps52;(go_wp2_with (first|((with_reducible refine gate_callee (f:=51) rfl ?_);refine goesL_ (some 4) rfl rfl Tryd.func51 (by kernel_rfl) rfl #[.string a0] rfl am_ ?_;(with_reducible refine(sennitref01_feeds.calls k a0 t103 _ A2.out).mono ?_);rintro e w' ⟨rfl,⟨nd,rfl⟩⟩;refine⟨_,rfl,?_⟩)));go_ret;exact⟨by first|rfl|(simp;done)|(simp[*];done),d0_⟩)
def sennitref01_May.l0:Nat→List ByteArray→Int→Option (Bool)
  | 0,_,_=>none
  | k+1,x0,x3=>if x3 < (x0.length:Int) then (if x3=(wrap64 ((x0.length:Int) - 1)) then (if 0≤x3 then (if ((rdOf ByteArray.empty x0 x3).size:Int) > 0 then ((sennitref01_feeds.f k (rdOf ByteArray.empty x0 x3)).bind fun t106=>(if t106=0 then (sennitref01_May.l0 k x0 (wrap64 (x3+1))) else ((sennitref01_Line.f k (rdOf ByteArray.empty x0 x3)).bind fun t108=>(if t108=true then (sennitref01_May.l0 k x0 (wrap64 (x3+1))) else (some false))))) else ((sennitref01_Line.f k (rdOf ByteArray.empty x0 x3)).bind fun t110=>(if t110=true then (sennitref01_May.l0 k x0 (wrap64 (x3+1))) else (some false)))) else (none)) else (if 0≤x3 then ((sennitref01_Line.f k (rdOf ByteArray.empty x0 x3)).bind fun t112=>(if t112=true then (sennitref01_May.l0 k x0 (wrap64 (x3+1))) else (some false))) else (none))) else (some true)
def sennitref01_May.f (k:Nat) (l0:List ByteArray):Option (Bool):=sennitref01_May.l0 k l0 0
theorem sennitref01_May.calls (k:Nat) (A0:Option Addr) (c0:Nat) (l0:List ByteArray) (r:Bool) (w:World) (hr0:Kd.C Kd.string w A0 l0.length l0) (hc0:l0.length≤c0) (h:sennitref01_May.f k l0=some r) :
    Calls Tryd.prog 25 #[.slice A0 l0.length c0] w fun e w'=>e = .returned (.bool r)∧Drawn0 w w':=by
 have HR0:=Aside0.mk hr0;have HC0:=Aside0.mk hc0;clear hr0 hc0;have H:=h;(rw[sennitref01_May.f] at H);clear h;have H':=Aside0.mk H;clear H;go_enter Tryd.func25,Tryd.ntmps25;go_wp2
 go_loopg [3] k (fun kq v3 w' => ∃ (x3_1:Int),v3 = .int .i64 x3_1∧Aside0 (sennitref01_May.l0 kq l0 x3_1=some r)∧Aside0 (kq≤k)∧Drawn0 w w')
 (case atStart=>exact⟨(0),rs_,H',⟨Nat.le_refl _⟩,d0_⟩)
 case round =>
  clear H';obtain⟨x3_1,rfl,HA,HK1,⟨m1,rfl⟩⟩:=hrel
  cases gk with
  | zero=>exact absurd HA.out (by simp[sennitref01_May.l0])
  | succ k1 =>
   have H:=HA.out;clear HA;(simp only[sennitref01_May.l0] at H)
   by_cases c2:x3_1 < (l0.length:Int)
   ·
    (rw[if_pos c2] at H);have c2b0:decide (x3_1 < (l0.length:Int))=true:=decide_eq_true c2;clear c2
    by_cases c3:x3_1=(wrap64 ((l0.length:Int) - 1))
    ·
     (rw[if_pos c3] at H);have c3b0:(x3_1 == (wrap64 ((l0.length:Int) - 1)))=true:=beq_iff_eq.mpr c3;have c3b1:(x3_1 != (wrap64 ((l0.length:Int) - 1)))=false:=bne_eq_false_iff_eq.mpr c3;clear c3
     by_cases c4:0≤x3_1
     ·
      (rw[if_pos c4] at H);have c4b0:decide (0≤x3_1)=true:=decide_eq_true c4;clear c4
      by_cases c5:((rdOf ByteArray.empty l0 x3_1).size:Int) > 0
      ·
       (rw[if_pos c5] at H);have c5b0:decide (0 < ((rdOf ByteArray.empty l0 x3_1).size:Int))=true:=decide_eq_true c5;have c5b1:decide (0 < (rdOf ByteArray.empty l0 x3_1).size)=true:=decide_eq_true (by omega);clear c5;replace H:=Option.bind_eq_some_iff.mp H;obtain⟨t106,A60,H⟩:=H;(try dsimp only at H);have A6:=Aside0.mk A60;clear A60
       by_cases c7:t106=0
       ·
        (rw[if_pos c7] at H);have c7b0:(t106 == 0)=true:=beq_iff_eq.mpr c7;have c7b1:(t106 != 0)=false:=bne_eq_false_iff_eq.mpr c7;clear c7;have H':=Aside0.mk H;clear H;have p104:0≤(x3_1:Int):=dt_;have q104:x3_1 < (l0.length:Int):=dt_;obtain⟨ad104,e104,hx104_0⟩:=Kd.at_string HR0.out x3_1 p104 q104;cases e104;replace p104:=eq_true p104;replace q104:=eq_true q104;have p105:0≤(x3_1:Int):=dt_;have q105:x3_1 < (l0.length:Int):=dt_;obtain⟨ad105,e105,hx105_0⟩:=Kd.at_string HR0.out x3_1 p105 q105;obtain rfl:ad104=ad105:=(by injection e105);replace p105:=eq_true p105;replace q105:=eq_true q105;(go_wp2_with (first|(go_at_call 51;(with_reducible refine(sennitref01_feeds.calls k1 (rdOf ByteArray.empty l0 x3_1) t106 _ A6.out).mono ?_);rintro e w' ⟨rfl,⟨nd,rfl⟩⟩)))
        go_roundg k1
        (case measure=>have:=HK1.out;omega);(case rel=>exact⟨(wrap64 (x3_1+1)),rs_,H',⟨by have:=HK1.out;omega⟩,d0_⟩)
       ·
        (rw[if_neg c7] at H);have c7b0:(t106 == 0)=false:=beq_eq_false_iff_ne.mpr c7;have c7b1:(t106 != 0)=true:=bne_iff_ne.mpr c7;replace H:=Option.bind_eq_some_iff.mp H;obtain⟨t108,A80,H⟩:=H;(try dsimp only at H);have A8:=Aside0.mk A80;clear A80
        by_cases c9:t108=true
        ·
         subst c9;have H1:=H;(rw[if_pos rfl] at H1);clear H;have H:=H1;clear H1;have H':=Aside0.mk H;clear H;have p104:0≤(x3_1:Int):=dt_;have q104:x3_1 < (l0.length:Int):=dt_;obtain⟨ad104,e104,hx104_0⟩:=Kd.at_string HR0.out x3_1 p104 q104;cases e104;replace p104:=eq_true p104;replace q104:=eq_true q104;have p105:0≤(x3_1:Int):=dt_;have q105:x3_1 < (l0.length:Int):=dt_;obtain⟨ad105,e105,hx105_0⟩:=Kd.at_string HR0.out x3_1 p105 q105;obtain rfl:ad104=ad105:=(by injection e105);replace p105:=eq_true p105;replace q105:=eq_true q105;(go_wp2_with (first|(go_at_call 51;(with_reducible refine(sennitref01_feeds.calls k1 (rdOf ByteArray.empty l0 x3_1) t106 _ A6.out).mono ?_);rintro e w' ⟨rfl,⟨nd,rfl⟩⟩;have p107:0≤(x3_1:Int):=dt_;have q107:x3_1 < (l0.length:Int):=dt_;obtain⟨ad107,e107,hx107_0⟩:=Kd.at_string HR0.out x3_1 p107 q107;obtain rfl:ad104=ad107:=(by injection e107);replace p107:=eq_true p107;replace q107:=eq_true q107)|(go_at_call 52;(with_reducible refine(sennitref01_Line.calls k1 (rdOf ByteArray.empty l0 x3_1) true _ A8.out).mono ?_);rintro e w' ⟨rfl,⟨nd,rfl⟩⟩)))
         go_roundg k1
         (case measure=>have:=HK1.out;omega);(case rel=>exact⟨(wrap64 (x3_1+1)),rs_,H',⟨by have:=HK1.out;omega⟩,d0_⟩)
        (· replace c9:=Bool.eq_false_iff.mpr c9;subst c9;have H1:=H;(rw[if_neg (show ¬ (false=true) by decide)] at H1);clear H;have H:=H1;clear H1;obtain rfl:=Option.some.inj H;have p104:0≤(x3_1:Int):=dt_;have q104:x3_1 < (l0.length:Int):=dt_;obtain⟨ad104,e104,hx104_0⟩:=Kd.at_string HR0.out x3_1 p104 q104;cases e104;replace p104:=eq_true p104;replace q104:=eq_true q104;have p105:0≤(x3_1:Int):=dt_;have q105:x3_1 < (l0.length:Int):=dt_;obtain⟨ad105,e105,hx105_0⟩:=Kd.at_string HR0.out x3_1 p105 q105;obtain rfl:ad104=ad105:=(by injection e105);replace p105:=eq_true p105;replace q105:=eq_true q105;(go_wp2_with (first|(go_at_call 51;(with_reducible refine(sennitref01_feeds.calls k1 (rdOf ByteArray.empty l0 x3_1) t106 _ A6.out).mono ?_);rintro e w' ⟨rfl,⟨nd,rfl⟩⟩;have p107:0≤(x3_1:Int):=dt_;have q107:x3_1 < (l0.length:Int):=dt_;obtain⟨ad107,e107,hx107_0⟩:=Kd.at_string HR0.out x3_1 p107 q107;obtain rfl:ad104=ad107:=(by injection e107);replace p107:=eq_true p107;replace q107:=eq_true q107)|(go_at_call 52;(with_reducible refine(sennitref01_Line.calls k1 (rdOf ByteArray.empty l0 x3_1) false _ A8.out).mono ?_);rintro e w' ⟨rfl,⟨nd,rfl⟩⟩)));go_ret;exact⟨by first|rfl|(simp;done)|(simp[*];done),d0_⟩)
      ·
       (rw[if_neg c5] at H);have c5b0:decide (0 < ((rdOf ByteArray.empty l0 x3_1).size:Int))=false:=decide_eq_false c5;have c5b1:decide (0 < (rdOf ByteArray.empty l0 x3_1).size)=false:=decide_eq_false (by omega);clear c5;replace H:=Option.bind_eq_some_iff.mp H;obtain⟨t110,A100,H⟩:=H;(try dsimp only at H);have A10:=Aside0.mk A100;clear A100
       by_cases c11:t110=true
       ·
        subst c11;have H1:=H;(rw[if_pos rfl] at H1);clear H;have H:=H1;clear H1;have H':=Aside0.mk H;clear H;have p104:0≤(x3_1:Int):=dt_;have q104:x3_1 < (l0.length:Int):=dt_;obtain⟨ad104,e104,hx104_0⟩:=Kd.at_string HR0.out x3_1 p104 q104;cases e104;replace p104:=eq_true p104;replace q104:=eq_true q104;have p109:0≤(x3_1:Int):=dt_;have q109:x3_1 < (l0.length:Int):=dt_;obtain⟨ad109,e109,hx109_0⟩:=Kd.at_string HR0.out x3_1 p109 q109;obtain rfl:ad104=ad109:=(by injection e109);replace p109:=eq_true p109;replace q109:=eq_true q109;(go_wp2_with (first|(go_at_call 52;(with_reducible refine(sennitref01_Line.calls k1 (rdOf ByteArray.empty l0 x3_1) true _ A10.out).mono ?_);rintro e w' ⟨rfl,⟨nd,rfl⟩⟩)))
        go_roundg k1
        (case measure=>have:=HK1.out;omega);(case rel=>exact⟨(wrap64 (x3_1+1)),rs_,H',⟨by have:=HK1.out;omega⟩,d0_⟩)
       (· replace c11:=Bool.eq_false_iff.mpr c11;subst c11;have H1:=H;(rw[if_neg (show ¬ (false=true) by decide)] at H1);clear H;have H:=H1;clear H1;obtain rfl:=Option.some.inj H;have p104:0≤(x3_1:Int):=dt_;have q104:x3_1 < (l0.length:Int):=dt_;obtain⟨ad104,e104,hx104_0⟩:=Kd.at_string HR0.out x3_1 p104 q104;cases e104;replace p104:=eq_true p104;replace q104:=eq_true q104;have p109:0≤(x3_1:Int):=dt_;have q109:x3_1 < (l0.length:Int):=dt_;obtain⟨ad109,e109,hx109_0⟩:=Kd.at_string HR0.out x3_1 p109 q109;obtain rfl:ad104=ad109:=(by injection e109);replace p109:=eq_true p109;replace q109:=eq_true q109;(go_wp2_with (first|(go_at_call 52;(with_reducible refine(sennitref01_Line.calls k1 (rdOf ByteArray.empty l0 x3_1) false _ A10.out).mono ?_);rintro e w' ⟨rfl,⟨nd,rfl⟩⟩)));go_ret;exact⟨by first|rfl|(simp;done)|(simp[*];done),d0_⟩)
     (· exact nx_ c4 H)
    ·
     (rw[if_neg c3] at H);have c3b0:(x3_1 == (wrap64 ((l0.length:Int) - 1)))=false:=beq_eq_false_iff_ne.mpr c3;have c3b1:(x3_1 != (wrap64 ((l0.length:Int) - 1)))=true:=bne_iff_ne.mpr c3
     by_cases c12:0≤x3_1
     ·
      (rw[if_pos c12] at H);have c12b0:decide (0≤x3_1)=true:=decide_eq_true c12;clear c12;replace H:=Option.bind_eq_some_iff.mp H;obtain⟨t112,A130,H⟩:=H;(try dsimp only at H);have A13:=Aside0.mk A130;clear A130
      by_cases c14:t112=true
      ·
       subst c14;have H1:=H;(rw[if_pos rfl] at H1);clear H;have H:=H1;clear H1;have H':=Aside0.mk H;clear H;have p111:0≤(x3_1:Int):=dt_;have q111:x3_1 < (l0.length:Int):=dt_;obtain⟨ad111,e111,hx111_0⟩:=Kd.at_string HR0.out x3_1 p111 q111;cases e111;replace p111:=eq_true p111;replace q111:=eq_true q111;(go_wp2_with (first|(go_at_call 52;(with_reducible refine(sennitref01_Line.calls k1 (rdOf ByteArray.empty l0 x3_1) true _ A13.out).mono ?_);rintro e w' ⟨rfl,⟨nd,rfl⟩⟩)))
       go_roundg k1
       (case measure=>have:=HK1.out;omega);(case rel=>exact⟨(wrap64 (x3_1+1)),rs_,H',⟨by have:=HK1.out;omega⟩,d0_⟩)
      (· replace c14:=Bool.eq_false_iff.mpr c14;subst c14;have H1:=H;(rw[if_neg (show ¬ (false=true) by decide)] at H1);clear H;have H:=H1;clear H1;obtain rfl:=Option.some.inj H;have p111:0≤(x3_1:Int):=dt_;have q111:x3_1 < (l0.length:Int):=dt_;obtain⟨ad111,e111,hx111_0⟩:=Kd.at_string HR0.out x3_1 p111 q111;cases e111;replace p111:=eq_true p111;replace q111:=eq_true q111;(go_wp2_with (first|(go_at_call 52;(with_reducible refine(sennitref01_Line.calls k1 (rdOf ByteArray.empty l0 x3_1) false _ A13.out).mono ?_);rintro e w' ⟨rfl,⟨nd,rfl⟩⟩)));go_ret;exact⟨by first|rfl|(simp;done)|(simp[*];done),d0_⟩)
     (· exact nx_ c12 H)
   (· (rw[if_neg c2] at H);have c2b0:decide (x3_1 < (l0.length:Int))=false:=decide_eq_false c2;clear c2;obtain rfl:=Option.some.inj H;go_wp2;go_ret;exact⟨by first|rfl|(simp;done)|(simp[*];done),d0_⟩)
def sennitref21_may.l0:Nat→Int→Bool→Bool→Int→ByteArray→ByteArray→Option (Bool)
  | 0,_,_,_,_,_,_=>none
  | k+1,x1,x5,x6,x7,x114000,x114001=>if x7 < (x114000.size:Int) then (if 0≤x7 then (if x5=true then (if x6=true then (if (bt x114000 x7)=32 then (sennitref21_may.l0 k x1 true true (wrap64 (x7+1)) x114000 x114001) else (if (bt x114000 x7)=43 then (sennitref21_may.l0 k x1 true true (wrap64 (x7+1)) x114000 x114001) else (if (bt x114000 x7)=45 then (sennitref21_may.l0 k x1 true true (wrap64 (x7+1)) x114000 x114001) else (some false)))) else (if (bt x114000 x7)=32 then (sennitref21_may.l0 k x1 true ((bt x114000 x7) == 45) (wrap64 (x7+1)) x114000 x114001) else (if (bt x114000 x7)=43 then (sennitref21_may.l0 k x1 true ((bt x114000 x7) == 45) (wrap64 (x7+1)) x114000 x114001) else (if (bt x114000 x7)=45 then (sennitref21_may.l0 k x1 true ((bt x114000 x7) == 45) (wrap64 (x7+1)) x114000 x114001) else (some false))))) else (if x6=true then (if (bt x114000 x7)=32 then (sennitref21_may.l0 k x1 ((bt x114000 x7) == 43) true (wrap64 (x7+1)) x114000 x114001) else (if (bt x114000 x7)=43 then (sennitref21_may.l0 k x1 ((bt x114000 x7) == 43) true (wrap64 (x7+1)) x114000 x114001) else (if (bt x114000 x7)=45 then (sennitref21_may.l0 k x1 ((bt x114000 x7) == 43) true (wrap64 (x7+1)) x114000 x114001) else (some false)))) else (if (bt x114000 x7)=32 then (sennitref21_may.l0 k x1 ((bt x114000 x7) == 43) ((bt x114000 x7) == 45) (wrap64 (x7+1)) x114000 x114001) else (if (bt x114000 x7)=43 then (sennitref21_may.l0 k x1 ((bt x114000 x7) == 43) ((bt x114000 x7) == 45) (wrap64 (x7+1)) x114000 x114001) else (if (bt x114000 x7)=45 then (sennitref21_may.l0 k x1 ((bt x114000 x7) == 43) ((bt x114000 x7) == 45) (wrap64 (x7+1)) x114000 x114001) else (some false)))))) else (none)) else (if (x114000.size:Int)=x1 then (if x5=true then (if x6=true then (some false) else ((sennitref01_May.f k (([x114001]:List ByteArray))).bind fun t117=>(some t117))) else ((sennitref01_May.f k (([x114001]:List ByteArray))).bind fun t121=>(some t121))) else (some false))
def sennitref21_may.f (k:Nat) (a0_0:ByteArray) (a0_1:ByteArray) (a1:Int):Option (Bool):=sennitref21_may.l0 k a1 false false 0 a0_0 a0_1
theorem sennitref21_may.calls (k:Nat) (a0_0:ByteArray) (a0_1:ByteArray) (a1:Int) (r:Bool) (w:World) (h:sennitref21_may.f k a0_0 a0_1 a1=some r) :
    Calls Tryd.prog 57 #[.agg #[.string a0_0, .string a0_1], .int .i64 a1] w fun e w'=>e = .returned (.bool r)∧Below w.heap.size w w':=by
 have hu57:=Tryd.underlying57;have HB:=Aside0.mk (Below.refl w.heap.size w);have H:=h;(rw[sennitref21_may.f] at H);clear h;have H':=Aside0.mk H;clear H;go_enter Tryd.func57,Tryd.ntmps57;(go_wp2_with (first|((with_reducible refine gate_dst (N:=2) rfl ?_);(try(refine gate_guard (by rfl) ?_;dsimp only));refine box_event ?hg (N:=2) ?hd (cs:=#[.string a0_0, .string a0_1]) (t:=57) ?hr ?_;(case hd=>rfl);(case hg=>rfl);(case hr=>first|(go_simp;done)|(go_simp;rfl));intro gb113 hg w3 hbox hb;have BK113:=Aside0.mk (hbox);have GW113:=Aside0.mk ((by rw[hg];exact(below_size bel_):w.heap.size≤gb113));have GE113:=Aside0.mk ((by rw[hg];exact(below_size bel_):w.heap.size≤gb113));replace HB:=Aside0.mk (below_step bel_ hb);clear hb hbox hg)))
 go_loopg [5,6,7] k (fun kq v5 v6 v7 w' => ∃ (x5_1:Bool) (x6_1:Bool) (x7_1:Int),v5 = .bool x5_1∧v6 = .bool x6_1∧v7 = .int .i64 x7_1∧Aside0 (sennitref21_may.l0 kq a1 x5_1 x6_1 x7_1 a0_0 a0_1=some r)∧Aside0 (kq≤k)∧Aside0 (w'.heap[gb113]? = some (.cells #[.string a0_0, .string a0_1] 57 (0,0)))∧Aside0 (Below w.heap.size w w'))
 (case atStart=>exact⟨(false),(false),(0),rs_,rs_,rs_,H',⟨Nat.le_refl _⟩,⟨pK_ BK113.out⟩,⟨bs1_ GE113.out⟩⟩)
 case round =>
  clear H';(try clear p2);obtain⟨x5_1,x6_1,x7_1,rfl,rfl,rfl,HA,HK1,BK113,HB⟩:=hrel
  cases gk with
  | zero=>exact absurd HA.out (by simp[sennitref21_may.l0])
  | succ k1 =>
   have H:=HA.out;clear HA;(simp only[sennitref21_may.l0] at H)
   by_cases c4:x7_1 < (a0_0.size:Int)
   ·
    (rw[if_pos c4] at H);have c4b0:decide (x7_1 < (a0_0.size:Int))=true:=decide_eq_true c4;clear c4
    by_cases c5:0≤x7_1
    ·
     (rw[if_pos c5] at H);have c5b0:decide (0≤x7_1)=true:=decide_eq_true c5;clear c5
     by_cases c7:x5_1=true
     ·
      subst c7;have H1:=H;(rw[if_pos rfl] at H1);clear H;have H:=H1;clear H1
      by_cases c8:x6_1=true
      ·
       subst c8;have H1:=H;(rw[if_pos rfl] at H1);clear H;have H:=H1;clear H1
       by_cases c9:(bt a0_0 x7_1)=32
       ·
        (rw[if_pos c9] at H);have c9b0:((bt a0_0 x7_1) == 32)=true:=beq_iff_eq.mpr c9;have c9b1:((bt a0_0 x7_1) != 32)=false:=bne_eq_false_iff_eq.mpr c9;clear c9;have H':=Aside0.mk H;clear H;have hcz10_0:wr.cell? ⟨gb113,0,none⟩=some (.string a0_0):=(blk_cell BK113.out 0).trans rfl;have hcz10_1:wr.cell? ⟨gb113,1,none⟩=some (.string a0_1):=(blk_cell BK113.out 1).trans rfl;have hfz10_0:=blk_frozen BK113.out 0;have hfz10_1:=blk_frozen BK113.out 1;have p6:0≤(x7_1:Int):=dt_;have q6:x7_1 < (a0_0.size:Int):=dt_;have hx6:=bt_at a0_0 x7_1;replace p6:=eq_true p6;replace q6:=eq_true q6;go_wp2
        go_roundg k1
        (case measure=>have:=HK1.out;omega);(case rel=>exact⟨(true),(true),(wrap64 (x7_1+1)),rs_,rs_,rs_,H',⟨by have:=HK1.out;omega⟩,⟨pK_ BK113.out⟩,⟨bs1_ GE113.out⟩⟩)
       ·
        (rw[if_neg c9] at H);have c9b0:((bt a0_0 x7_1) == 32)=false:=beq_eq_false_iff_ne.mpr c9;have c9b1:((bt a0_0 x7_1) != 32)=true:=bne_iff_ne.mpr c9
        by_cases c11:(bt a0_0 x7_1)=43
        ·
         (rw[if_pos c11] at H);have c11b0:((bt a0_0 x7_1) == 43)=true:=beq_iff_eq.mpr c11;have c11b1:((bt a0_0 x7_1) != 43)=false:=bne_eq_false_iff_eq.mpr c11;clear c11;have H':=Aside0.mk H;clear H;have hcz12_0:wr.cell? ⟨gb113,0,none⟩=some (.string a0_0):=(blk_cell BK113.out 0).trans rfl;have hcz12_1:wr.cell? ⟨gb113,1,none⟩=some (.string a0_1):=(blk_cell BK113.out 1).trans rfl;have hfz12_0:=blk_frozen BK113.out 0;have hfz12_1:=blk_frozen BK113.out 1;have p6:0≤(x7_1:Int):=dt_;have q6:x7_1 < (a0_0.size:Int):=dt_;have hx6:=bt_at a0_0 x7_1;replace p6:=eq_true p6;replace q6:=eq_true q6;go_wp2
         go_roundg k1
         (case measure=>have:=HK1.out;omega);(case rel=>exact⟨(true),(true),(wrap64 (x7_1+1)),rs_,rs_,rs_,H',⟨by have:=HK1.out;omega⟩,⟨pK_ BK113.out⟩,⟨bs1_ GE113.out⟩⟩)
        ·
         (rw[if_neg c11] at H);have c11b0:((bt a0_0 x7_1) == 43)=false:=beq_eq_false_iff_ne.mpr c11;have c11b1:((bt a0_0 x7_1) != 43)=true:=bne_iff_ne.mpr c11
         by_cases c13:(bt a0_0 x7_1)=45
         ·
          (rw[if_pos c13] at H);have c13b0:((bt a0_0 x7_1) == 45)=true:=beq_iff_eq.mpr c13;have c13b1:((bt a0_0 x7_1) != 45)=false:=bne_eq_false_iff_eq.mpr c13;clear c13;have H':=Aside0.mk H;clear H;have hcz14_0:wr.cell? ⟨gb113,0,none⟩=some (.string a0_0):=(blk_cell BK113.out 0).trans rfl;have hcz14_1:wr.cell? ⟨gb113,1,none⟩=some (.string a0_1):=(blk_cell BK113.out 1).trans rfl;have hfz14_0:=blk_frozen BK113.out 0;have hfz14_1:=blk_frozen BK113.out 1;have p6:0≤(x7_1:Int):=dt_;have q6:x7_1 < (a0_0.size:Int):=dt_;have hx6:=bt_at a0_0 x7_1;replace p6:=eq_true p6;replace q6:=eq_true q6;go_wp2
          go_roundg k1
          (case measure=>have:=HK1.out;omega);(case rel=>exact⟨(true),(true),(wrap64 (x7_1+1)),rs_,rs_,rs_,H',⟨by have:=HK1.out;omega⟩,⟨pK_ BK113.out⟩,⟨bs1_ GE113.out⟩⟩)
         (· (rw[if_neg c13] at H);have c13b0:((bt a0_0 x7_1) == 45)=false:=beq_eq_false_iff_ne.mpr c13;have c13b1:((bt a0_0 x7_1) != 45)=true:=bne_iff_ne.mpr c13;obtain rfl:=Option.some.inj H;have hcz15_0:wr.cell? ⟨gb113,0,none⟩=some (.string a0_0):=(blk_cell BK113.out 0).trans rfl;have hcz15_1:wr.cell? ⟨gb113,1,none⟩=some (.string a0_1):=(blk_cell BK113.out 1).trans rfl;have hfz15_0:=blk_frozen BK113.out 0;have hfz15_1:=blk_frozen BK113.out 1;have p6:0≤(x7_1:Int):=dt_;have q6:x7_1 < (a0_0.size:Int):=dt_;have hx6:=bt_at a0_0 x7_1;replace p6:=eq_true p6;replace q6:=eq_true q6;go_wp2;go_ret;exact⟨by first|rfl|(simp[errW_none,errW_some] <;> rfl)|(simp[*,errW_none,errW_some] <;> rfl),by repeat(first|(with_reducible first|exact HB.out|apply below_alloc|apply pw_below_drewN|apply below_drew1|refine below_set ?_ GE113.out)|exact HB.out)⟩)
      ·
       replace c8:=Bool.eq_false_iff.mpr c8;subst c8;have H1:=H;(rw[if_neg (show ¬ (false=true) by decide)] at H1);clear H;have H:=H1;clear H1
       by_cases c16:(bt a0_0 x7_1)=32
       ·
        (rw[if_pos c16] at H);have c16b0:((bt a0_0 x7_1) == 32)=true:=beq_iff_eq.mpr c16;have c16b1:((bt a0_0 x7_1) != 32)=false:=bne_eq_false_iff_eq.mpr c16;clear c16;have H':=Aside0.mk H;clear H;have hcz17_0:wr.cell? ⟨gb113,0,none⟩=some (.string a0_0):=(blk_cell BK113.out 0).trans rfl;have hcz17_1:wr.cell? ⟨gb113,1,none⟩=some (.string a0_1):=(blk_cell BK113.out 1).trans rfl;have hfz17_0:=blk_frozen BK113.out 0;have hfz17_1:=blk_frozen BK113.out 1;have p6:0≤(x7_1:Int):=dt_;have q6:x7_1 < (a0_0.size:Int):=dt_;have hx6:=bt_at a0_0 x7_1;replace p6:=eq_true p6;replace q6:=eq_true q6;go_wp2
        go_roundg k1
        (case measure=>have:=HK1.out;omega);(case rel=>exact⟨(true),(((bt a0_0 x7_1) == 45)),(wrap64 (x7_1+1)),rs_,rs_,rs_,H',⟨by have:=HK1.out;omega⟩,⟨pK_ BK113.out⟩,⟨bs1_ GE113.out⟩⟩)
       ·
        (rw[if_neg c16] at H);have c16b0:((bt a0_0 x7_1) == 32)=false:=beq_eq_false_iff_ne.mpr c16;have c16b1:((bt a0_0 x7_1) != 32)=true:=bne_iff_ne.mpr c16
        by_cases c18:(bt a0_0 x7_1)=43
        ·
         (rw[if_pos c18] at H);have c18b0:((bt a0_0 x7_1) == 43)=true:=beq_iff_eq.mpr c18;have c18b1:((bt a0_0 x7_1) != 43)=false:=bne_eq_false_iff_eq.mpr c18;clear c18;have H':=Aside0.mk H;clear H;have hcz19_0:wr.cell? ⟨gb113,0,none⟩=some (.string a0_0):=(blk_cell BK113.out 0).trans rfl;have hcz19_1:wr.cell? ⟨gb113,1,none⟩=some (.string a0_1):=(blk_cell BK113.out 1).trans rfl;have hfz19_0:=blk_frozen BK113.out 0;have hfz19_1:=blk_frozen BK113.out 1;have p6:0≤(x7_1:Int):=dt_;have q6:x7_1 < (a0_0.size:Int):=dt_;have hx6:=bt_at a0_0 x7_1;replace p6:=eq_true p6;replace q6:=eq_true q6;go_wp2
         go_roundg k1
         (case measure=>have:=HK1.out;omega);(case rel=>exact⟨(true),(((bt a0_0 x7_1) == 45)),(wrap64 (x7_1+1)),rs_,rs_,rs_,H',⟨by have:=HK1.out;omega⟩,⟨pK_ BK113.out⟩,⟨bs1_ GE113.out⟩⟩)
        ·
         (rw[if_neg c18] at H);have c18b0:((bt a0_0 x7_1) == 43)=false:=beq_eq_false_iff_ne.mpr c18;have c18b1:((bt a0_0 x7_1) != 43)=true:=bne_iff_ne.mpr c18
         by_cases c20:(bt a0_0 x7_1)=45
         ·
          (rw[if_pos c20] at H);have c20b0:((bt a0_0 x7_1) == 45)=true:=beq_iff_eq.mpr c20;have c20b1:((bt a0_0 x7_1) != 45)=false:=bne_eq_false_iff_eq.mpr c20;clear c20;have H':=Aside0.mk H;clear H;have hcz21_0:wr.cell? ⟨gb113,0,none⟩=some (.string a0_0):=(blk_cell BK113.out 0).trans rfl;have hcz21_1:wr.cell? ⟨gb113,1,none⟩=some (.string a0_1):=(blk_cell BK113.out 1).trans rfl;have hfz21_0:=blk_frozen BK113.out 0;have hfz21_1:=blk_frozen BK113.out 1;have p6:0≤(x7_1:Int):=dt_;have q6:x7_1 < (a0_0.size:Int):=dt_;have hx6:=bt_at a0_0 x7_1;replace p6:=eq_true p6;replace q6:=eq_true q6;go_wp2
          go_roundg k1
          (case measure=>have:=HK1.out;omega);(case rel=>exact⟨(true),(((bt a0_0 x7_1) == 45)),(wrap64 (x7_1+1)),rs_,rs_,rs_,H',⟨by have:=HK1.out;omega⟩,⟨pK_ BK113.out⟩,⟨bs1_ GE113.out⟩⟩)
         (· (rw[if_neg c20] at H);have c20b0:((bt a0_0 x7_1) == 45)=false:=beq_eq_false_iff_ne.mpr c20;have c20b1:((bt a0_0 x7_1) != 45)=true:=bne_iff_ne.mpr c20;obtain rfl:=Option.some.inj H;have hcz22_0:wr.cell? ⟨gb113,0,none⟩=some (.string a0_0):=(blk_cell BK113.out 0).trans rfl;have hcz22_1:wr.cell? ⟨gb113,1,none⟩=some (.string a0_1):=(blk_cell BK113.out 1).trans rfl;have hfz22_0:=blk_frozen BK113.out 0;have hfz22_1:=blk_frozen BK113.out 1;have p6:0≤(x7_1:Int):=dt_;have q6:x7_1 < (a0_0.size:Int):=dt_;have hx6:=bt_at a0_0 x7_1;replace p6:=eq_true p6;replace q6:=eq_true q6;go_wp2;go_ret;exact⟨by first|rfl|(simp[errW_none,errW_some] <;> rfl)|(simp[*,errW_none,errW_some] <;> rfl),by repeat(first|(with_reducible first|exact HB.out|apply below_alloc|apply pw_below_drewN|apply below_drew1|refine below_set ?_ GE113.out)|exact HB.out)⟩)
     ·
      replace c7:=Bool.eq_false_iff.mpr c7;subst c7;have H1:=H;(rw[if_neg (show ¬ (false=true) by decide)] at H1);clear H;have H:=H1;clear H1
      by_cases c23:x6_1=true
      ·
       subst c23;have H1:=H;(rw[if_pos rfl] at H1);clear H;have H:=H1;clear H1
       by_cases c24:(bt a0_0 x7_1)=32
       ·
        (rw[if_pos c24] at H);have c24b0:((bt a0_0 x7_1) == 32)=true:=beq_iff_eq.mpr c24;have c24b1:((bt a0_0 x7_1) != 32)=false:=bne_eq_false_iff_eq.mpr c24;clear c24;have H':=Aside0.mk H;clear H;have hcz25_0:wr.cell? ⟨gb113,0,none⟩=some (.string a0_0):=(blk_cell BK113.out 0).trans rfl;have hcz25_1:wr.cell? ⟨gb113,1,none⟩=some (.string a0_1):=(blk_cell BK113.out 1).trans rfl;have hfz25_0:=blk_frozen BK113.out 0;have hfz25_1:=blk_frozen BK113.out 1;have p6:0≤(x7_1:Int):=dt_;have q6:x7_1 < (a0_0.size:Int):=dt_;have hx6:=bt_at a0_0 x7_1;replace p6:=eq_true p6;replace q6:=eq_true q6;go_wp2
        go_roundg k1
        (case measure=>have:=HK1.out;omega);(case rel=>exact⟨(((bt a0_0 x7_1) == 43)),(true),(wrap64 (x7_1+1)),rs_,rs_,rs_,H',⟨by have:=HK1.out;omega⟩,⟨pK_ BK113.out⟩,⟨bs1_ GE113.out⟩⟩)
       ·
        (rw[if_neg c24] at H);have c24b0:((bt a0_0 x7_1) == 32)=false:=beq_eq_false_iff_ne.mpr c24;have c24b1:((bt a0_0 x7_1) != 32)=true:=bne_iff_ne.mpr c24
        by_cases c26:(bt a0_0 x7_1)=43
        ·
         (rw[if_pos c26] at H);have c26b0:((bt a0_0 x7_1) == 43)=true:=beq_iff_eq.mpr c26;have c26b1:((bt a0_0 x7_1) != 43)=false:=bne_eq_false_iff_eq.mpr c26;clear c26;have H':=Aside0.mk H;clear H;have hcz27_0:wr.cell? ⟨gb113,0,none⟩=some (.string a0_0):=(blk_cell BK113.out 0).trans rfl;have hcz27_1:wr.cell? ⟨gb113,1,none⟩=some (.string a0_1):=(blk_cell BK113.out 1).trans rfl;have hfz27_0:=blk_frozen BK113.out 0;have hfz27_1:=blk_frozen BK113.out 1;have p6:0≤(x7_1:Int):=dt_;have q6:x7_1 < (a0_0.size:Int):=dt_;have hx6:=bt_at a0_0 x7_1;replace p6:=eq_true p6;replace q6:=eq_true q6;go_wp2
         go_roundg k1
         (case measure=>have:=HK1.out;omega);(case rel=>exact⟨(((bt a0_0 x7_1) == 43)),(true),(wrap64 (x7_1+1)),rs_,rs_,rs_,H',⟨by have:=HK1.out;omega⟩,⟨pK_ BK113.out⟩,⟨bs1_ GE113.out⟩⟩)
        ·
         (rw[if_neg c26] at H);have c26b0:((bt a0_0 x7_1) == 43)=false:=beq_eq_false_iff_ne.mpr c26;have c26b1:((bt a0_0 x7_1) != 43)=true:=bne_iff_ne.mpr c26
         by_cases c28:(bt a0_0 x7_1)=45
         ·
          (rw[if_pos c28] at H);have c28b0:((bt a0_0 x7_1) == 45)=true:=beq_iff_eq.mpr c28;have c28b1:((bt a0_0 x7_1) != 45)=false:=bne_eq_false_iff_eq.mpr c28;clear c28;have H':=Aside0.mk H;clear H;have hcz29_0:wr.cell? ⟨gb113,0,none⟩=some (.string a0_0):=(blk_cell BK113.out 0).trans rfl;have hcz29_1:wr.cell? ⟨gb113,1,none⟩=some (.string a0_1):=(blk_cell BK113.out 1).trans rfl;have hfz29_0:=blk_frozen BK113.out 0;have hfz29_1:=blk_frozen BK113.out 1;have p6:0≤(x7_1:Int):=dt_;have q6:x7_1 < (a0_0.size:Int):=dt_;have hx6:=bt_at a0_0 x7_1;replace p6:=eq_true p6;replace q6:=eq_true q6;go_wp2
          go_roundg k1
          (case measure=>have:=HK1.out;omega);(case rel=>exact⟨(((bt a0_0 x7_1) == 43)),(true),(wrap64 (x7_1+1)),rs_,rs_,rs_,H',⟨by have:=HK1.out;omega⟩,⟨pK_ BK113.out⟩,⟨bs1_ GE113.out⟩⟩)
         (· (rw[if_neg c28] at H);have c28b0:((bt a0_0 x7_1) == 45)=false:=beq_eq_false_iff_ne.mpr c28;have c28b1:((bt a0_0 x7_1) != 45)=true:=bne_iff_ne.mpr c28;obtain rfl:=Option.some.inj H;have hcz30_0:wr.cell? ⟨gb113,0,none⟩=some (.string a0_0):=(blk_cell BK113.out 0).trans rfl;have hcz30_1:wr.cell? ⟨gb113,1,none⟩=some (.string a0_1):=(blk_cell BK113.out 1).trans rfl;have hfz30_0:=blk_frozen BK113.out 0;have hfz30_1:=blk_frozen BK113.out 1;have p6:0≤(x7_1:Int):=dt_;have q6:x7_1 < (a0_0.size:Int):=dt_;have hx6:=bt_at a0_0 x7_1;replace p6:=eq_true p6;replace q6:=eq_true q6;go_wp2;go_ret;exact⟨by first|rfl|(simp[errW_none,errW_some] <;> rfl)|(simp[*,errW_none,errW_some] <;> rfl),by repeat(first|(with_reducible first|exact HB.out|apply below_alloc|apply pw_below_drewN|apply below_drew1|refine below_set ?_ GE113.out)|exact HB.out)⟩)
      ·
       replace c23:=Bool.eq_false_iff.mpr c23;subst c23;have H1:=H;(rw[if_neg (show ¬ (false=true) by decide)] at H1);clear H;have H:=H1;clear H1
       by_cases c31:(bt a0_0 x7_1)=32
       ·
        (rw[if_pos c31] at H);have c31b0:((bt a0_0 x7_1) == 32)=true:=beq_iff_eq.mpr c31;have c31b1:((bt a0_0 x7_1) != 32)=false:=bne_eq_false_iff_eq.mpr c31;clear c31;have H':=Aside0.mk H;clear H;have hcz32_0:wr.cell? ⟨gb113,0,none⟩=some (.string a0_0):=(blk_cell BK113.out 0).trans rfl;have hcz32_1:wr.cell? ⟨gb113,1,none⟩=some (.string a0_1):=(blk_cell BK113.out 1).trans rfl;have hfz32_0:=blk_frozen BK113.out 0;have hfz32_1:=blk_frozen BK113.out 1;have p6:0≤(x7_1:Int):=dt_;have q6:x7_1 < (a0_0.size:Int):=dt_;have hx6:=bt_at a0_0 x7_1;replace p6:=eq_true p6;replace q6:=eq_true q6;go_wp2
        go_roundg k1
        (case measure=>have:=HK1.out;omega);(case rel=>exact⟨(((bt a0_0 x7_1) == 43)),(((bt a0_0 x7_1) == 45)),(wrap64 (x7_1+1)),rs_,rs_,rs_,H',⟨by have:=HK1.out;omega⟩,⟨pK_ BK113.out⟩,⟨bs1_ GE113.out⟩⟩)
       ·
        (rw[if_neg c31] at H);have c31b0:((bt a0_0 x7_1) == 32)=false:=beq_eq_false_iff_ne.mpr c31;have c31b1:((bt a0_0 x7_1) != 32)=true:=bne_iff_ne.mpr c31
        by_cases c33:(bt a0_0 x7_1)=43
        ·
         (rw[if_pos c33] at H);have c33b0:((bt a0_0 x7_1) == 43)=true:=beq_iff_eq.mpr c33;have c33b1:((bt a0_0 x7_1) != 43)=false:=bne_eq_false_iff_eq.mpr c33;clear c33;have H':=Aside0.mk H;clear H;have hcz34_0:wr.cell? ⟨gb113,0,none⟩=some (.string a0_0):=(blk_cell BK113.out 0).trans rfl;have hcz34_1:wr.cell? ⟨gb113,1,none⟩=some (.string a0_1):=(blk_cell BK113.out 1).trans rfl;have hfz34_0:=blk_frozen BK113.out 0;have hfz34_1:=blk_frozen BK113.out 1;have p6:0≤(x7_1:Int):=dt_;have q6:x7_1 < (a0_0.size:Int):=dt_;have hx6:=bt_at a0_0 x7_1;replace p6:=eq_true p6;replace q6:=eq_true q6;go_wp2
         go_roundg k1
         (case measure=>have:=HK1.out;omega);(case rel=>exact⟨(((bt a0_0 x7_1) == 43)),(((bt a0_0 x7_1) == 45)),(wrap64 (x7_1+1)),rs_,rs_,rs_,H',⟨by have:=HK1.out;omega⟩,⟨pK_ BK113.out⟩,⟨bs1_ GE113.out⟩⟩)
        ·
         (rw[if_neg c33] at H);have c33b0:((bt a0_0 x7_1) == 43)=false:=beq_eq_false_iff_ne.mpr c33;have c33b1:((bt a0_0 x7_1) != 43)=true:=bne_iff_ne.mpr c33
         by_cases c35:(bt a0_0 x7_1)=45
         ·
          (rw[if_pos c35] at H);have c35b0:((bt a0_0 x7_1) == 45)=true:=beq_iff_eq.mpr c35;have c35b1:((bt a0_0 x7_1) != 45)=false:=bne_eq_false_iff_eq.mpr c35;clear c35;have H':=Aside0.mk H;clear H;have hcz36_0:wr.cell? ⟨gb113,0,none⟩=some (.string a0_0):=(blk_cell BK113.out 0).trans rfl;have hcz36_1:wr.cell? ⟨gb113,1,none⟩=some (.string a0_1):=(blk_cell BK113.out 1).trans rfl;have hfz36_0:=blk_frozen BK113.out 0;have hfz36_1:=blk_frozen BK113.out 1;have p6:0≤(x7_1:Int):=dt_;have q6:x7_1 < (a0_0.size:Int):=dt_;have hx6:=bt_at a0_0 x7_1;replace p6:=eq_true p6;replace q6:=eq_true q6;go_wp2
          go_roundg k1
          (case measure=>have:=HK1.out;omega);(case rel=>exact⟨(((bt a0_0 x7_1) == 43)),(((bt a0_0 x7_1) == 45)),(wrap64 (x7_1+1)),rs_,rs_,rs_,H',⟨by have:=HK1.out;omega⟩,⟨pK_ BK113.out⟩,⟨bs1_ GE113.out⟩⟩)
         (· (rw[if_neg c35] at H);have c35b0:((bt a0_0 x7_1) == 45)=false:=beq_eq_false_iff_ne.mpr c35;have c35b1:((bt a0_0 x7_1) != 45)=true:=bne_iff_ne.mpr c35;obtain rfl:=Option.some.inj H;have hcz37_0:wr.cell? ⟨gb113,0,none⟩=some (.string a0_0):=(blk_cell BK113.out 0).trans rfl;have hcz37_1:wr.cell? ⟨gb113,1,none⟩=some (.string a0_1):=(blk_cell BK113.out 1).trans rfl;have hfz37_0:=blk_frozen BK113.out 0;have hfz37_1:=blk_frozen BK113.out 1;have p6:0≤(x7_1:Int):=dt_;have q6:x7_1 < (a0_0.size:Int):=dt_;have hx6:=bt_at a0_0 x7_1;replace p6:=eq_true p6;replace q6:=eq_true q6;go_wp2;go_ret;exact⟨by first|rfl|(simp[errW_none,errW_some] <;> rfl)|(simp[*,errW_none,errW_some] <;> rfl),by repeat(first|(with_reducible first|exact HB.out|apply below_alloc|apply pw_below_drewN|apply below_drew1|refine below_set ?_ GE113.out)|exact HB.out)⟩)
    (· exact nx_ c5 H)
   ·
    (rw[if_neg c4] at H);have c4b0:decide (x7_1 < (a0_0.size:Int))=false:=decide_eq_false c4;clear c4
    by_cases c38:(a0_0.size:Int)=a1
    ·
     (rw[if_pos c38] at H);have c38b0:((a0_0.size:Int) == a1)=true:=beq_iff_eq.mpr c38;have c38b1:((a0_0.size:Int) != a1)=false:=bne_eq_false_iff_eq.mpr c38;clear c38
     by_cases c39:x5_1=true
     ·
      subst c39;have H1:=H;(rw[if_pos rfl] at H1);clear H;have H:=H1;clear H1
      by_cases c40:x6_1=true
      (· subst c40;have H1:=H;(rw[if_pos rfl] at H1);clear H;have H:=H1;clear H1;obtain rfl:=Option.some.inj H;have hcz41_0:wr.cell? ⟨gb113,0,none⟩=some (.string a0_0):=(blk_cell BK113.out 0).trans rfl;have hcz41_1:wr.cell? ⟨gb113,1,none⟩=some (.string a0_1):=(blk_cell BK113.out 1).trans rfl;have hfz41_0:=blk_frozen BK113.out 0;have hfz41_1:=blk_frozen BK113.out 1;go_wp2;go_ret;exact⟨by first|rfl|(simp[errW_none,errW_some] <;> rfl)|(simp[*,errW_none,errW_some] <;> rfl),by repeat(first|(with_reducible first|exact HB.out|apply below_alloc|apply pw_below_drewN|apply below_drew1|refine below_set ?_ GE113.out)|exact HB.out)⟩);(· replace c40:=Bool.eq_false_iff.mpr c40;subst c40;have H1:=H;(rw[if_neg (show ¬ (false=true) by decide)] at H1);clear H;have H:=H1;clear H1;obtain⟨y114,hy114⟩ : ∃ y_:List ByteArray,y_=(([a0_1]:List ByteArray)):=⟨_,rfl⟩;((try rw[Option.bind_some] at H);rw[← hy114] at H);have Ny114:=Aside0.mk hy114;clear hy114;replace H:=Option.bind_eq_some_iff.mp H;obtain⟨t117,A420,H⟩:=H;(try dsimp only at H);have A42:=Aside0.mk A420;clear A420;obtain rfl:=Option.some.inj H;have hcz43_0:wr.cell? ⟨gb113,0,none⟩=some (.string a0_0):=(blk_cell BK113.out 0).trans rfl;have hcz43_1:wr.cell? ⟨gb113,1,none⟩=some (.string a0_1):=(blk_cell BK113.out 1).trans rfl;have hfz43_0:=blk_frozen BK113.out 0;have hfz43_1:=blk_frozen BK113.out 1;(go_wp2_with (first|((with_reducible refine gate_dst (N:=55) rfl ?_);(try(refine gate_guard (by rfl) ?_;dsimp only));refine Kd.R_lit Kd.string _ 9 ?hg (N:=55) ?hd (xs:=([a0_1]:List ByteArray)) (inner:=[.string a0_1]) (ok:=fun _=>True) (okp:=fun _=>True) ?hr ?hp (fun _ hk=>hk) trivial (Below.refl _ _) (Nat.le_refl _) (by simp) ?_;(case hd=>rfl);(case hg=>rfl);(case hr=>first|(go_simp;done)|(go_simp;rfl));(case hp=>exact(Reps.one (show Kd.M Kd.string _ _ _ a0_1 [.string a0_1] from rfl) (Reps.none _ _)));intro v115 w44 ho45 hb hg_ hnew_;clear hg_ hnew_;(first|rw[← Ny114.out] at ho45|(simp only[Int.reduceToNat] at ho45;rw[← Ny114.out] at ho45));have HO116:=Aside0.mk (Kd.R_lower ho45 (below_size (bs1_ GE113.out)));replace BK113:=Aside0.mk (blk_below (g:=gb113) (o := .cells #[.string a0_0, .string a0_1] 57 (0,0)) (pK_ BK113.out) hb);replace HB:=Aside0.mk (below_step (bs1_ GE113.out) hb);clear hb ho45;obtain⟨Ao46,co46,eo46⟩:=Kd.R_slice HO116.out;subst eo46)|(go_at_call 25;(with_reducible refine(sennitref01_May.calls k1 _ _ y114 t117 _ ?side1 ?side2 A42.out).mono ?_);(case side1=>repeat(first|exact(Kd.R_reads' HO116.out).2.2|(with_reducible refine Kd.C_alloc ?_ _)|(with_reducible refine Kd.C_drewN ?_ _)|(with_reducible refine Kd.C_drew ?_)));(case side2=>exact(Kd.R_reads' HO116.out).2.1);rintro e w' ⟨rfl,⟨nd,rfl⟩⟩)));go_ret;exact⟨by first|rfl|(simp[errW_none,errW_some] <;> rfl)|(simp[*,errW_none,errW_some] <;> rfl),by repeat(first|(with_reducible first|exact HB.out|apply below_alloc|apply pw_below_drewN|apply below_drew1|refine below_set ?_ GE113.out)|exact HB.out)⟩)
     (· replace c39:=Bool.eq_false_iff.mpr c39;subst c39;have H1:=H;(rw[if_neg (show ¬ (false=true) by decide)] at H1);clear H;have H:=H1;clear H1;obtain⟨y118,hy118⟩ : ∃ y_:List ByteArray,y_=(([a0_1]:List ByteArray)):=⟨_,rfl⟩;((try rw[Option.bind_some] at H);rw[← hy118] at H);have Ny118:=Aside0.mk hy118;clear hy118;replace H:=Option.bind_eq_some_iff.mp H;obtain⟨t121,A470,H⟩:=H;(try dsimp only at H);have A47:=Aside0.mk A470;clear A470;obtain rfl:=Option.some.inj H;have hcz48_0:wr.cell? ⟨gb113,0,none⟩=some (.string a0_0):=(blk_cell BK113.out 0).trans rfl;have hcz48_1:wr.cell? ⟨gb113,1,none⟩=some (.string a0_1):=(blk_cell BK113.out 1).trans rfl;have hfz48_0:=blk_frozen BK113.out 0;have hfz48_1:=blk_frozen BK113.out 1;(go_wp2_with (first|((with_reducible refine gate_dst (N:=55) rfl ?_);(try(refine gate_guard (by rfl) ?_;dsimp only));refine Kd.R_lit Kd.string _ 9 ?hg (N:=55) ?hd (xs:=([a0_1]:List ByteArray)) (inner:=[.string a0_1]) (ok:=fun _=>True) (okp:=fun _=>True) ?hr ?hp (fun _ hk=>hk) trivial (Below.refl _ _) (Nat.le_refl _) (by simp) ?_;(case hd=>rfl);(case hg=>rfl);(case hr=>first|(go_simp;done)|(go_simp;rfl));(case hp=>exact(Reps.one (show Kd.M Kd.string _ _ _ a0_1 [.string a0_1] from rfl) (Reps.none _ _)));intro v119 w49 ho50 hb hg_ hnew_;clear hg_ hnew_;(first|rw[← Ny118.out] at ho50|(simp only[Int.reduceToNat] at ho50;rw[← Ny118.out] at ho50));have HO120:=Aside0.mk (Kd.R_lower ho50 (below_size (bs1_ GE113.out)));replace BK113:=Aside0.mk (blk_below (g:=gb113) (o := .cells #[.string a0_0, .string a0_1] 57 (0,0)) (pK_ BK113.out) hb);replace HB:=Aside0.mk (below_step (bs1_ GE113.out) hb);clear hb ho50;obtain⟨Ao51,co51,eo51⟩:=Kd.R_slice HO120.out;subst eo51)|(go_at_call 25;(with_reducible refine(sennitref01_May.calls k1 _ _ y118 t121 _ ?side1 ?side2 A47.out).mono ?_);(case side1=>repeat(first|exact(Kd.R_reads' HO120.out).2.2|(with_reducible refine Kd.C_alloc ?_ _)|(with_reducible refine Kd.C_drewN ?_ _)|(with_reducible refine Kd.C_drew ?_)));(case side2=>exact(Kd.R_reads' HO120.out).2.1);rintro e w' ⟨rfl,⟨nd,rfl⟩⟩)));go_ret;exact⟨by first|rfl|(simp[errW_none,errW_some] <;> rfl)|(simp[*,errW_none,errW_some] <;> rfl),by repeat(first|(with_reducible first|exact HB.out|apply below_alloc|apply pw_below_drewN|apply below_drew1|refine below_set ?_ GE113.out)|exact HB.out)⟩)
    (· (rw[if_neg c38] at H);have c38b0:((a0_0.size:Int) == a1)=false:=beq_eq_false_iff_ne.mpr c38;have c38b1:((a0_0.size:Int) != a1)=true:=bne_iff_ne.mpr c38;obtain rfl:=Option.some.inj H;have hcz52_0:wr.cell? ⟨gb113,0,none⟩=some (.string a0_0):=(blk_cell BK113.out 0).trans rfl;have hcz52_1:wr.cell? ⟨gb113,1,none⟩=some (.string a0_1):=(blk_cell BK113.out 1).trans rfl;have hfz52_0:=blk_frozen BK113.out 0;have hfz52_1:=blk_frozen BK113.out 1;go_wp2;go_ret;exact⟨by first|rfl|(simp[errW_none,errW_some] <;> rfl)|(simp[*,errW_none,errW_some] <;> rfl),by repeat(first|(with_reducible first|exact HB.out|apply below_alloc|apply pw_below_drewN|apply below_drew1|refine below_set ?_ GE113.out)|exact HB.out)⟩)
def sennitref21_May.l0:Nat→List (S57)→Int→Option (Bool)
  | 0,_,_=>none
  | k+1,x0,x3=>if x3 < (x0.length:Int) then (if 0 < (x0.length:Int) then (if (((rd_T57 x0 0).f0).size:Int) < 1 then (some false) else (if (((rd_T57 x0 0).f0).size:Int) > 16 then (some false) else (if 0≤x3 then ((sennitref21_may.f k ((rd_T57 x0 x3).f0) ((rd_T57 x0 x3).f1) (((rd_T57 x0 0).f0).size:Int)).bind fun t124=>(if t124=true then (sennitref21_May.l0 k x0 (wrap64 (x3+1))) else (some false))) else (none)))) else (none)) else (some true)
def sennitref21_May.f (k:Nat) (l0:List (S57)):Option (Bool):=sennitref21_May.l0 k l0 0
theorem sennitref21_May.calls (k:Nat) (A0:Option Addr) (c0:Nat) (l0:List (S57)) (r:Bool) (w:World) (hr0:Kd.C k57 w A0 l0.length l0) (hc0:l0.length≤c0) (h:sennitref21_May.f k l0=some r) :
    Calls Tryd.prog 30 #[.slice A0 l0.length c0] w fun e w'=>e = .returned (.bool r)∧Below w.heap.size w w':=by
 have hu57:=Tryd.underlying57;have HR0:=Aside0.mk hr0;have HC0:=Aside0.mk hc0;clear hr0 hc0;have HB:=Aside0.mk (Below.refl w.heap.size w);have H:=h;(rw[sennitref21_May.f] at H);clear h;have H':=Aside0.mk H;clear H;go_enter Tryd.func30,Tryd.ntmps30;go_wp2
 go_loopg [3] k (fun kq v3 w' => ∃ (x3_1:Int),v3 = .int .i64 x3_1∧Aside0 (sennitref21_May.l0 kq l0 x3_1=some r)∧Aside0 (kq≤k)∧Aside0 (Below w.heap.size w w'))
 (case atStart=>exact⟨(0),rs_,H',⟨Nat.le_refl _⟩,⟨bel_⟩⟩)
 case round =>
  clear H';obtain⟨x3_1,rfl,HA,HK1,HB⟩:=hrel
  cases gk with
  | zero=>exact absurd HA.out (by simp[sennitref21_May.l0])
  | succ k1 =>
   have H:=HA.out;clear HA;(simp only[sennitref21_May.l0] at H)
   by_cases c2:x3_1 < (l0.length:Int)
   ·
    (rw[if_pos c2] at H);have c2b0:decide (x3_1 < (l0.length:Int))=true:=decide_eq_true c2;clear c2
    by_cases c3:0 < (l0.length:Int)
    ·
     (rw[if_pos c3] at H);have c3b0:decide (0 < (l0.length:Int))=true:=decide_eq_true c3;have c3b1:decide (0 < l0.length)=true:=decide_eq_true (by omega);clear c3
     by_cases c4:(((rd_T57 l0 0).f0).size:Int) < 1
     (· (rw[if_pos c4] at H);have c4b0:decide ((((rd_T57 l0 0).f0).size:Int) < 1)=true:=decide_eq_true c4;have c4b1:decide (((rd_T57 l0 0).f0).size < 1)=true:=decide_eq_true (by omega);clear c4;obtain rfl:=Option.some.inj H;have p122:0≤(0:Int):=(by omega);have q122:0 < (l0.length:Int):=dt_;obtain⟨ad122,e122,hx122_0,hx122_1⟩:=at_T57 HR0.out 0 p122 q122;cases e122;have qi122:(0 < l0.length)=True:=eq_true (by omega);(try rw[show ((0:Int)).toNat=0 from rfl] at hx122_0);(try rw[show 0 * 2=0 from rfl] at hx122_0);(try rw[Addr.add_zero'] at hx122_0);(try rw[show ((0:Int)).toNat=0 from rfl] at hx122_1);(try rw[show 0 * 2=0 from rfl] at hx122_1);(try rw[Addr.add_zero'] at hx122_1);replace hx122_0:=(HB.out.cell (World.block_lt_of_cell? w _ hx122_0)).trans hx122_0;replace hx122_1:=(HB.out.cell (World.block_lt_of_cell? w _ hx122_1)).trans hx122_1;replace p122:=eq_true p122;replace q122:=eq_true q122;go_wp2;go_ret;exact⟨by first|rfl|(simp[errW_none,errW_some] <;> rfl)|(simp[*,errW_none,errW_some] <;> rfl),bel_⟩)
     ·
      (rw[if_neg c4] at H);have c4b0:decide ((((rd_T57 l0 0).f0).size:Int) < 1)=false:=decide_eq_false c4;have c4b1:decide (((rd_T57 l0 0).f0).size < 1)=false:=decide_eq_false (by omega);clear c4
      by_cases c5:(((rd_T57 l0 0).f0).size:Int) > 16
      (· (rw[if_pos c5] at H);have c5b0:decide (16 < (((rd_T57 l0 0).f0).size:Int))=true:=decide_eq_true c5;have c5b1:decide (16 < ((rd_T57 l0 0).f0).size)=true:=decide_eq_true (by omega);clear c5;obtain rfl:=Option.some.inj H;have p122:0≤(0:Int):=(by omega);have q122:0 < (l0.length:Int):=dt_;obtain⟨ad122,e122,hx122_0,hx122_1⟩:=at_T57 HR0.out 0 p122 q122;cases e122;have qi122:(0 < l0.length)=True:=eq_true (by omega);(try rw[show ((0:Int)).toNat=0 from rfl] at hx122_0);(try rw[show 0 * 2=0 from rfl] at hx122_0);(try rw[Addr.add_zero'] at hx122_0);(try rw[show ((0:Int)).toNat=0 from rfl] at hx122_1);(try rw[show 0 * 2=0 from rfl] at hx122_1);(try rw[Addr.add_zero'] at hx122_1);replace hx122_0:=(HB.out.cell (World.block_lt_of_cell? w _ hx122_0)).trans hx122_0;replace hx122_1:=(HB.out.cell (World.block_lt_of_cell? w _ hx122_1)).trans hx122_1;replace p122:=eq_true p122;replace q122:=eq_true q122;go_wp2;go_ret;exact⟨by first|rfl|(simp[errW_none,errW_some] <;> rfl)|(simp[*,errW_none,errW_some] <;> rfl),bel_⟩)
      ·
       (rw[if_neg c5] at H);have c5b0:decide (16 < (((rd_T57 l0 0).f0).size:Int))=false:=decide_eq_false c5;have c5b1:decide (16 < ((rd_T57 l0 0).f0).size)=false:=decide_eq_false (by omega);clear c5
       by_cases c6:0≤x3_1
       ·
        (rw[if_pos c6] at H);have c6b0:decide (0≤x3_1)=true:=decide_eq_true c6;clear c6;replace H:=Option.bind_eq_some_iff.mp H;obtain⟨t124,A70,H⟩:=H;(try dsimp only at H);have A7:=Aside0.mk A70;clear A70
        by_cases c8:t124=true
        ·
         subst c8;have H1:=H;(rw[if_pos rfl] at H1);clear H;have H:=H1;clear H1;have H':=Aside0.mk H;clear H;have p122:0≤(0:Int):=(by omega);have q122:0 < (l0.length:Int):=dt_;obtain⟨ad122,e122,hx122_0,hx122_1⟩:=at_T57 HR0.out 0 p122 q122;cases e122;have qi122:(0 < l0.length)=True:=eq_true (by omega);(try rw[show ((0:Int)).toNat=0 from rfl] at hx122_0);(try rw[show 0 * 2=0 from rfl] at hx122_0);(try rw[Addr.add_zero'] at hx122_0);(try rw[show ((0:Int)).toNat=0 from rfl] at hx122_1);(try rw[show 0 * 2=0 from rfl] at hx122_1);(try rw[Addr.add_zero'] at hx122_1);replace hx122_0:=(HB.out.cell (World.block_lt_of_cell? w _ hx122_0)).trans hx122_0;replace hx122_1:=(HB.out.cell (World.block_lt_of_cell? w _ hx122_1)).trans hx122_1;replace p122:=eq_true p122;replace q122:=eq_true q122;have p123:0≤(x3_1:Int):=dt_;have q123:x3_1 < (l0.length:Int):=dt_;obtain⟨ad123,e123,hx123_0,hx123_1⟩:=at_T57 HR0.out x3_1 p123 q123;obtain rfl:ad122=ad123:=(by injection e123);replace hx123_0:=(HB.out.cell (World.block_lt_of_cell? w _ hx123_0)).trans hx123_0;replace hx123_1:=(HB.out.cell (World.block_lt_of_cell? w _ hx123_1)).trans hx123_1;replace p123:=eq_true p123;replace q123:=eq_true q123;(go_wp2_with (first|(go_at_call 57;(with_reducible refine(sennitref21_may.calls k1 ((rd_T57 l0 x3_1).f0) ((rd_T57 l0 x3_1).f1) (((rd_T57 l0 0).f0).size:Int) true _ A7.out).mono ?_);rintro e w9 ⟨rfl,hb⟩;replace HB:=Aside0.mk (below_step bel_ hb);(try clear hb);(try clear hb2);(try clear hk);(try clear hi))))
         go_roundg k1
         (case measure=>have:=HK1.out;omega);(case rel=>exact⟨(wrap64 (x3_1+1)),rs_,H',⟨by have:=HK1.out;omega⟩,⟨bel_⟩⟩)
        (· replace c8:=Bool.eq_false_iff.mpr c8;subst c8;have H1:=H;(rw[if_neg (show ¬ (false=true) by decide)] at H1);clear H;have H:=H1;clear H1;obtain rfl:=Option.some.inj H;have p122:0≤(0:Int):=(by omega);have q122:0 < (l0.length:Int):=dt_;obtain⟨ad122,e122,hx122_0,hx122_1⟩:=at_T57 HR0.out 0 p122 q122;cases e122;have qi122:(0 < l0.length)=True:=eq_true (by omega);(try rw[show ((0:Int)).toNat=0 from rfl] at hx122_0);(try rw[show 0 * 2=0 from rfl] at hx122_0);(try rw[Addr.add_zero'] at hx122_0);(try rw[show ((0:Int)).toNat=0 from rfl] at hx122_1);(try rw[show 0 * 2=0 from rfl] at hx122_1);(try rw[Addr.add_zero'] at hx122_1);replace hx122_0:=(HB.out.cell (World.block_lt_of_cell? w _ hx122_0)).trans hx122_0;replace hx122_1:=(HB.out.cell (World.block_lt_of_cell? w _ hx122_1)).trans hx122_1;replace p122:=eq_true p122;replace q122:=eq_true q122;have p123:0≤(x3_1:Int):=dt_;have q123:x3_1 < (l0.length:Int):=dt_;obtain⟨ad123,e123,hx123_0,hx123_1⟩:=at_T57 HR0.out x3_1 p123 q123;obtain rfl:ad122=ad123:=(by injection e123);replace hx123_0:=(HB.out.cell (World.block_lt_of_cell? w _ hx123_0)).trans hx123_0;replace hx123_1:=(HB.out.cell (World.block_lt_of_cell? w _ hx123_1)).trans hx123_1;replace p123:=eq_true p123;replace q123:=eq_true q123;(go_wp2_with (first|(go_at_call 57;(with_reducible refine(sennitref21_may.calls k1 ((rd_T57 l0 x3_1).f0) ((rd_T57 l0 x3_1).f1) (((rd_T57 l0 0).f0).size:Int) false _ A7.out).mono ?_);rintro e w10 ⟨rfl,hb⟩;replace HB:=Aside0.mk (below_step bel_ hb);(try clear hb);(try clear hb2);(try clear hk);(try clear hi))));go_ret;exact⟨by first|rfl|(simp[errW_none,errW_some] <;> rfl)|(simp[*,errW_none,errW_some] <;> rfl),bel_⟩)
       (· exact nx_ c6 H)
    (· exact nx_ c3 H)
   (· (rw[if_neg c2] at H);have c2b0:decide (x3_1 < (l0.length:Int))=false:=decide_eq_false c2;clear c2;obtain rfl:=Option.some.inj H;go_wp2;go_ret;exact⟨by first|rfl|(simp[errW_none,errW_some] <;> rfl)|(simp[*,errW_none,errW_some] <;> rfl),bel_⟩)
def sennitref20_Lost.l0:Nat→Int→ByteArray→ByteArray→Option (Bool)
  | 0,_,_,_=>none
  | k+1,x3,x180000,x180001=>if x3 < (x180000.size:Int) then (if 0≤x3 then (if (bt x180000 x3)=45 then (some true) else (sennitref20_Lost.l0 k (wrap64 (x3+1)) x180000 x180001)) else (none)) else (some false)
def sennitref20_Lost.f (k:Nat) (a0_0:ByteArray) (a0_1:ByteArray):Option (Bool):=sennitref20_Lost.l0 k 0 a0_0 a0_1
theorem sennitref20_Lost.calls (k:Nat) (a0_0:ByteArray) (a0_1:ByteArray) (r:Bool) (w:World) (h:sennitref20_Lost.f k a0_0 a0_1=some r) :
    Calls Tryd.prog 104 #[.agg #[.string a0_0, .string a0_1]] w fun e w'=>e = .returned (.bool r)∧Below w.heap.size w w':=by
 have hu57:=Tryd.underlying57;have HB:=Aside0.mk (Below.refl w.heap.size w);have H:=h;(rw[sennitref20_Lost.f] at H);clear h;have H':=Aside0.mk H;clear H;go_enter Tryd.func104,Tryd.ntmps104;(go_wp2_with (first|((with_reducible refine gate_dst (N:=1) rfl ?_);refine box_event ?hg (N:=1) ?hd (cs:=#[.string a0_0, .string a0_1]) (t:=57) ?hr ?_;(case hd=>rfl);(case hg=>rfl);(case hr=>first|(go_simp;done)|(go_simp;rfl));intro gb179 hg w2 hbox hb;have BK179:=Aside0.mk (hbox);have GW179:=Aside0.mk ((by rw[hg];exact(below_size bel_):w.heap.size≤gb179));have GE179:=Aside0.mk ((by rw[hg];exact(below_size bel_):w.heap.size≤gb179));replace HB:=Aside0.mk (below_step bel_ hb);clear hb hbox hg)))
 go_loopg [3] k (fun kq v3 w' => ∃ (x3_1:Int),v3 = .int .i64 x3_1∧Aside0 (sennitref20_Lost.l0 kq x3_1 a0_0 a0_1=some r)∧Aside0 (kq≤k)∧Aside0 (w'.heap[gb179]? = some (.cells #[.string a0_0, .string a0_1] 57 (0,0)))∧Aside0 (Below w.heap.size w w'))
 (case atStart=>exact⟨(0),rs_,H',⟨Nat.le_refl _⟩,⟨pK_ BK179.out⟩,⟨bs1_ GE179.out⟩⟩)
 case round =>
  clear H';(try clear c1);(try clear p2);obtain⟨x3_1,rfl,HA,HK1,BK179,HB⟩:=hrel
  cases gk with
  | zero=>exact absurd HA.out (by simp[sennitref20_Lost.l0])
  | succ k1 =>
   have H:=HA.out;clear HA;(simp only[sennitref20_Lost.l0] at H)
   by_cases c3:x3_1 < (a0_0.size:Int)
   ·
    (rw[if_pos c3] at H);have c3b0:decide (x3_1 < (a0_0.size:Int))=true:=decide_eq_true c3;clear c3
    by_cases c4:0≤x3_1
    ·
     (rw[if_pos c4] at H);have c4b0:decide (0≤x3_1)=true:=decide_eq_true c4;clear c4
     by_cases c6:(bt a0_0 x3_1)=45
     (· (rw[if_pos c6] at H);have c6b0:((bt a0_0 x3_1) == 45)=true:=beq_iff_eq.mpr c6;have c6b1:((bt a0_0 x3_1) != 45)=false:=bne_eq_false_iff_eq.mpr c6;clear c6;obtain rfl:=Option.some.inj H;have hcz7_0:wr.cell? ⟨gb179,0,none⟩=some (.string a0_0):=(blk_cell BK179.out 0).trans rfl;have hcz7_1:wr.cell? ⟨gb179,1,none⟩=some (.string a0_1):=(blk_cell BK179.out 1).trans rfl;have hfz7_0:=blk_frozen BK179.out 0;have hfz7_1:=blk_frozen BK179.out 1;have p5:0≤(x3_1:Int):=dt_;have q5:x3_1 < (a0_0.size:Int):=dt_;have hx5:=bt_at a0_0 x3_1;replace p5:=eq_true p5;replace q5:=eq_true q5;go_wp2;go_ret;exact⟨by first|rfl|(simp[errW_none,errW_some] <;> rfl)|(simp[*,errW_none,errW_some] <;> rfl),by repeat(first|(with_reducible first|exact HB.out|apply below_alloc|apply pw_below_drewN|apply below_drew1|refine below_set ?_ GE179.out)|exact HB.out)⟩)
     ·
      (rw[if_neg c6] at H);have c6b0:((bt a0_0 x3_1) == 45)=false:=beq_eq_false_iff_ne.mpr c6;have c6b1:((bt a0_0 x3_1) != 45)=true:=bne_iff_ne.mpr c6;have H':=Aside0.mk H;clear H;have hcz8_0:wr.cell? ⟨gb179,0,none⟩=some (.string a0_0):=(blk_cell BK179.out 0).trans rfl;have hcz8_1:wr.cell? ⟨gb179,1,none⟩=some (.string a0_1):=(blk_cell BK179.out 1).trans rfl;have hfz8_0:=blk_frozen BK179.out 0;have hfz8_1:=blk_frozen BK179.out 1;have p5:0≤(x3_1:Int):=dt_;have q5:x3_1 < (a0_0.size:Int):=dt_;have hx5:=bt_at a0_0 x3_1;replace p5:=eq_true p5;replace q5:=eq_true q5;go_wp2
      go_roundg k1
      (case measure=>have:=HK1.out;omega);(case rel=>exact⟨(wrap64 (x3_1+1)),rs_,H',⟨by have:=HK1.out;omega⟩,⟨pK_ BK179.out⟩,⟨bs1_ GE179.out⟩⟩)
    (· exact nx_ c4 H)
   (· (rw[if_neg c3] at H);have c3b0:decide (x3_1 < (a0_0.size:Int))=false:=decide_eq_false c3;clear c3;obtain rfl:=Option.some.inj H;have hcz9_0:wr.cell? ⟨gb179,0,none⟩=some (.string a0_0):=(blk_cell BK179.out 0).trans rfl;have hcz9_1:wr.cell? ⟨gb179,1,none⟩=some (.string a0_1):=(blk_cell BK179.out 1).trans rfl;have hfz9_0:=blk_frozen BK179.out 0;have hfz9_1:=blk_frozen BK179.out 1;go_wp2;go_ret;exact⟨by first|rfl|(simp[errW_none,errW_some] <;> rfl)|(simp[*,errW_none,errW_some] <;> rfl),by repeat(first|(with_reducible first|exact HB.out|apply below_alloc|apply pw_below_drewN|apply below_drew1|refine below_set ?_ GE179.out)|exact HB.out)⟩)
def sennitref20_Result.l0:Nat→List (S57)→List ByteArray→Int→Option (List ByteArray)
  | 0,_,_,_=>none
  | k+1,x0,x3,x4=>if x4 < (x0.length:Int) then (if 0≤x4 then ((sennitref20_Lost.f k ((rd_T57 x0 x4).f0) ((rd_T57 x0 x4).f1)).bind fun t181=>(if t181=true then (sennitref20_Result.l0 k x0 x3 (wrap64 (x4+1))) else (if x3.length < 8796093022208 then (sennitref20_Result.l0 k x0 (x3 ++ [(rd_T57 x0 x4).f1]) (wrap64 (x4+1))) else (none)))) else (none)) else (some x3)
def sennitref20_Result.f (k:Nat) (l0:List (S57)):Option (List ByteArray):=sennitref20_Result.l0 k l0 ([]:List ByteArray) 0
theorem sennitref20_Result.calls (k:Nat) (A0:Option Addr) (c0:Nat) (l0:List (S57)) (r:List ByteArray) (w:World) (hr0:Kd.C k57 w A0 l0.length l0) (hc0:l0.length≤c0) (h:sennitref20_Result.f k l0=some r) :
    Calls Tryd.prog 81 #[.slice A0 l0.length c0] w fun e w' => ∃ v0_:Value,e = .returned (v0_)∧Kd.R Kd.string 9 w' w.heap.size (fun _=>True) v0_ r∧Below w.heap.size w w':=by
 have hu57:=Tryd.underlying57;have HR0:=Aside0.mk hr0;have HC0:=Aside0.mk hc0;clear hr0 hc0;have HB:=Aside0.mk (Below.refl w.heap.size w);have H:=h;(rw[sennitref20_Result.f] at H);clear h;have H':=Aside0.mk H;clear H;go_enter Tryd.func81,Tryd.ntmps81;go_wp2
 go_loopg [3,4] k (fun kq v3 v4 w' => ∃ (x3_1:List ByteArray) (x4_1:Int),v4 = .int .i64 x4_1∧Aside0 (sennitref20_Result.l0 kq l0 x3_1 x4_1=some r)∧Aside0 (kq≤k)∧Aside0 (Kd.R Kd.string 9 w' w.heap.size (fun _=>True) v3 x3_1)∧Aside0 (Below w.heap.size w w'))
 (case atStart=>exact⟨(([]:List ByteArray)),(0),rs_,H',⟨Nat.le_refl _⟩,⟨by first|exact Kd.R_nil _ _ _ _ _|exact Kd.N_nil _ _ _ _ _|exact Kd.V_nil _ _ _ _ _|exact Kd.Q_nil _ _ _ _ _|exact Kd.S_nil _ _ _ _ _⟩,⟨bel_⟩⟩)
 case round =>
  clear H';obtain⟨x3_1,x4_1,rfl,HA,HK1,HO_3,HB⟩:=hrel
  cases gk with
  | zero=>exact absurd HA.out (by simp[sennitref20_Result.l0])
  | succ k1 =>
   have H:=HA.out;clear HA;(simp only[sennitref20_Result.l0] at H)
   by_cases c2:x4_1 < (l0.length:Int)
   ·
    (rw[if_pos c2] at H);have c2b0:decide (x4_1 < (l0.length:Int))=true:=decide_eq_true c2;clear c2
    by_cases c3:0≤x4_1
    ·
     (rw[if_pos c3] at H);have c3b0:decide (0≤x4_1)=true:=decide_eq_true c3;clear c3;replace H:=Option.bind_eq_some_iff.mp H;obtain⟨t181,A40,H⟩:=H;(try dsimp only at H);have A4:=Aside0.mk A40;clear A40
     by_cases c5:t181=true
     ·
      subst c5;have H1:=H;(rw[if_pos rfl] at H1);clear H;have H:=H1;clear H1;have H':=Aside0.mk H;clear H;have p180:0≤(x4_1:Int):=dt_;have q180:x4_1 < (l0.length:Int):=dt_;obtain⟨ad180,e180,hx180_0,hx180_1⟩:=at_T57 HR0.out x4_1 p180 q180;cases e180;replace hx180_0:=(HB.out.cell (World.block_lt_of_cell? w _ hx180_0)).trans hx180_0;replace hx180_1:=(HB.out.cell (World.block_lt_of_cell? w _ hx180_1)).trans hx180_1;replace p180:=eq_true p180;replace q180:=eq_true q180;(go_wp2_with (first|((with_reducible refine gate_callee (f:=104) rfl ?_);refine goesL_ (some 15) rfl rfl Tryd.func104 (by kernel_rfl) rfl #[.agg #[.string ((rd_T57 l0 x4_1).f0), .string ((rd_T57 l0 x4_1).f1)]] rfl am_ ?_;(with_reducible refine(sennitref20_Lost.calls k1 ((rd_T57 l0 x4_1).f0) ((rd_T57 l0 x4_1).f1) true _ A4.out).mono ?_);rintro e w6 ⟨rfl,hb⟩;refine⟨_,rfl,?_⟩;replace HO_3:=Aside0.mk (Kd.R_below (pR_ HO_3.out) hb);replace HB:=Aside0.mk (below_step bel_ hb);(try clear hb);(try clear hb2);(try clear hk);(try clear hi))))
      go_roundg k1
      (case measure=>have:=HK1.out;omega);(case rel=>exact⟨(x3_1),(wrap64 (x4_1+1)),rs_,H',⟨by have:=HK1.out;omega⟩,⟨pR_ HO_3.out⟩,⟨bel_⟩⟩)
     ·
      replace c5:=Bool.eq_false_iff.mpr c5;subst c5;have H1:=H;(rw[if_neg (show ¬ (false=true) by decide)] at H1);clear H;have H:=H1;clear H1
      by_cases c7:x3_1.length < 8796093022208
      ·
       (rw[if_pos c7] at H);have LMc7:=Aside0.mk c7;clear c7;obtain⟨y183,hy183⟩ : ∃ y_:List ByteArray,y_=(x3_1 ++ [(rd_T57 l0 x4_1).f1]):=⟨_,rfl⟩;((try rw[Option.bind_some] at H);rw[← hy183] at H);have Ny183:=Aside0.mk hy183;clear hy183;have H':=Aside0.mk H;clear H;have p180:0≤(x4_1:Int):=dt_;have q180:x4_1 < (l0.length:Int):=dt_;obtain⟨ad180,e180,hx180_0,hx180_1⟩:=at_T57 HR0.out x4_1 p180 q180;cases e180;replace hx180_0:=(HB.out.cell (World.block_lt_of_cell? w _ hx180_0)).trans hx180_0;replace hx180_1:=(HB.out.cell (World.block_lt_of_cell? w _ hx180_1)).trans hx180_1;replace p180:=eq_true p180;replace q180:=eq_true q180;(go_wp2_with (first|((with_reducible refine gate_callee (f:=104) rfl ?_);refine goesL_ (some 15) rfl rfl Tryd.func104 (by kernel_rfl) rfl #[.agg #[.string ((rd_T57 l0 x4_1).f0), .string ((rd_T57 l0 x4_1).f1)]] rfl am_ ?_;(with_reducible refine(sennitref20_Lost.calls k1 ((rd_T57 l0 x4_1).f0) ((rd_T57 l0 x4_1).f1) false _ A4.out).mono ?_);rintro e w8 ⟨rfl,hb⟩;refine⟨_,rfl,?_⟩;replace HO_3:=Aside0.mk (Kd.R_below (pR_ HO_3.out) hb);replace HB:=Aside0.mk (below_step bel_ hb);(try clear hb);(try clear hb2);(try clear hk);(try clear hi);have p182:0≤(x4_1:Int):=dt_;have q182:x4_1 < (l0.length:Int):=dt_;obtain⟨ad182,e182,hx182_0,hx182_1⟩:=at_T57 HR0.out x4_1 p182 q182;obtain rfl:ad180=ad182:=(by injection e182);replace hx182_0:=(HB.out.cell (World.block_lt_of_cell? w _ hx182_0)).trans hx182_0;replace hx182_1:=(HB.out.cell (World.block_lt_of_cell? w _ hx182_1)).trans hx182_1;replace p182:=eq_true p182;replace q182:=eq_true q182)|((with_reducible refine gate_builtin (b := .append) (xs:=#[.tmp 17, .tmp 23]) rfl ?_);at_builtin;refine Kd.R_append Kd.string (w0:=w) w.heap.size rfl (.tmp 17) (.tmp 23) 23 9 (.string ⟨#[]⟩) 16 rfl Tryd.underlying23 info9 rfl (by decide) (by omega) u3 x3_1 ((rd_T57 l0 x4_1).f1) [.string ((rd_T57 l0 x4_1).f1)] (fun _=>True) (fun _=>False) rfl rfl ?aP (fun _ hk=>hk.elim) ?aF ?aO ?aB ?aS ?aL ?_;(case aP=>exact rfl);(case aB=>exact bel_);(case aF=>exact(fun _ _=>trivial));(case aO=>exact(pR_ HO_3.out));(case aS=>exact(below_size bel_));(case aL=>have:=LMc7.out;omega);intro v184 w9 ho hb hg hat;rw[← Ny183.out] at ho;replace HB:=Aside0.mk (hb);have HO185:=Aside0.mk (ho);clear HO_3;clear ho hb hg hat)))
       go_roundg k1
       (case measure=>have:=HK1.out;omega);(case rel=>exact⟨(y183),(wrap64 (x4_1+1)),rs_,H',⟨by have:=HK1.out;omega⟩,⟨pR_ HO185.out⟩,⟨bel_⟩⟩)
      (· exact nx_ c7 H)
    (· exact nx_ c3 H)
   (· (rw[if_neg c2] at H);have c2b0:decide (x4_1 < (l0.length:Int))=false:=decide_eq_false c2;clear c2;obtain rfl:=Option.some.inj H;go_wp2;go_ret;exact⟨_,ew_,by(with_reducible repeat(first|apply Kd.R_alloc|apply Kd.R_drewN|apply Kd.R_drew));exact HO_3.out,bel_⟩)
def sennitref20_Of.f (k:Nat) (a0_0:ByteArray) (a0_1:ByteArray) (a1:Int):Option (Bool):=if a1 < 0 then (some false) else (if a1 ≥ (a0_0.size:Int) then (some false) else (if 0≤a1 then (if a1 < (a0_0.size:Int) then (if (bt a0_0 a1)=45 then (some true) else (if (bt a0_0 a1)=32 then ((sennitref20_Lost.f k a0_0 a0_1).bind fun t187=>(some (!t187))) else (some false))) else (none)) else (none)))
theorem sennitref20_Of.calls (k:Nat) (a0_0:ByteArray) (a0_1:ByteArray) (a1:Int) (r:Bool) (w:World) (h:sennitref20_Of.f k a0_0 a0_1 a1=some r) :
    Calls Tryd.prog 105 #[.agg #[.string a0_0, .string a0_1], .int .i64 a1] w fun e w'=>e = .returned (.bool r)∧Below w.heap.size w w':=by
 have hu57:=Tryd.underlying57;have HB:=Aside0.mk (Below.refl w.heap.size w);have H:=h;(rw[sennitref20_Of.f] at H);clear h
 by_cases c3:a1 < 0
 (· (rw[if_pos c3] at H);have c3b0:decide (a1 < 0)=true:=decide_eq_true c3;clear c3;obtain rfl:=Option.some.inj H;go_enter Tryd.func105,Tryd.ntmps105;(go_wp2_with (first|((with_reducible refine gate_dst (N:=2) rfl ?_);(try(refine gate_guard (by rfl) ?_;dsimp only));refine box_event ?hg (N:=2) ?hd (cs:=#[.string a0_0, .string a0_1]) (t:=57) ?hr ?_;(case hd=>rfl);(case hg=>rfl);(case hr=>first|(go_simp;done)|(go_simp;rfl));intro gb186 hg w4 hbox hb;have BK186:=Aside0.mk (hbox);have GW186:=Aside0.mk ((by rw[hg];exact(below_size bel_):w.heap.size≤gb186));have GE186:=Aside0.mk ((by rw[hg];exact(below_size bel_):w.heap.size≤gb186));replace HB:=Aside0.mk (below_step bel_ hb);clear hb hbox hg)));go_ret;exact⟨by first|rfl|(simp[errW_none,errW_some] <;> rfl)|(simp[*,errW_none,errW_some] <;> rfl),by repeat(first|(with_reducible first|exact HB.out|apply below_alloc|apply pw_below_drewN|apply below_drew1|refine below_set ?_ GE186.out)|exact HB.out)⟩)
 ·
  (rw[if_neg c3] at H);have c3b0:decide (a1 < 0)=false:=decide_eq_false c3;clear c3
  by_cases c5:a1 ≥ (a0_0.size:Int)
  (· (rw[if_pos c5] at H);have c5b0:decide ((a0_0.size:Int)≤a1)=true:=decide_eq_true c5;clear c5;obtain rfl:=Option.some.inj H;go_enter Tryd.func105,Tryd.ntmps105;(go_wp2_with (first|((with_reducible refine gate_dst (N:=2) rfl ?_);(try(refine gate_guard (by rfl) ?_;dsimp only));refine box_event ?hg (N:=2) ?hd (cs:=#[.string a0_0, .string a0_1]) (t:=57) ?hr ?_;(case hd=>rfl);(case hg=>rfl);(case hr=>first|(go_simp;done)|(go_simp;rfl));intro gb186 hg w6 hbox hb;have BK186:=Aside0.mk (hbox);have GW186:=Aside0.mk ((by rw[hg];exact(below_size bel_):w.heap.size≤gb186));have GE186:=Aside0.mk ((by rw[hg];exact(below_size bel_):w.heap.size≤gb186));replace HB:=Aside0.mk (below_step bel_ hb);clear hb hbox hg;have hcz7_0:w6.cell? ⟨gb186,0,none⟩=some (.string a0_0):=(blk_cell BK186.out 0).trans rfl;have hcz7_1:w6.cell? ⟨gb186,1,none⟩=some (.string a0_1):=(blk_cell BK186.out 1).trans rfl;have hfz7_0:=blk_frozen BK186.out 0;have hfz7_1:=blk_frozen BK186.out 1)));go_ret;exact⟨by first|rfl|(simp[errW_none,errW_some] <;> rfl)|(simp[*,errW_none,errW_some] <;> rfl),by repeat(first|(with_reducible first|exact HB.out|apply below_alloc|apply pw_below_drewN|apply below_drew1|refine below_set ?_ GE186.out)|exact HB.out)⟩)
  ·
   (rw[if_neg c5] at H);have c5b0:decide ((a0_0.size:Int)≤a1)=false:=decide_eq_false c5;clear c5
   by_cases c8:0≤a1
   ·
    (rw[if_pos c8] at H);have c8b0:decide (0≤a1)=true:=decide_eq_true c8;clear c8
    by_cases c9:a1 < (a0_0.size:Int)
    ·
     (rw[if_pos c9] at H);have c9b0:decide (a1 < (a0_0.size:Int))=true:=decide_eq_true c9;clear c9
     by_cases c11:(bt a0_0 a1)=45
     (· (rw[if_pos c11] at H);have c11b0:((bt a0_0 a1) == 45)=true:=beq_iff_eq.mpr c11;have c11b1:((bt a0_0 a1) != 45)=false:=bne_eq_false_iff_eq.mpr c11;clear c11;obtain rfl:=Option.some.inj H;go_enter Tryd.func105,Tryd.ntmps105;(go_wp2_with (first|((with_reducible refine gate_dst (N:=2) rfl ?_);(try(refine gate_guard (by rfl) ?_;dsimp only));refine box_event ?hg (N:=2) ?hd (cs:=#[.string a0_0, .string a0_1]) (t:=57) ?hr ?_;(case hd=>rfl);(case hg=>rfl);(case hr=>first|(go_simp;done)|(go_simp;rfl));intro gb186 hg w12 hbox hb;have BK186:=Aside0.mk (hbox);have GW186:=Aside0.mk ((by rw[hg];exact(below_size bel_):w.heap.size≤gb186));have GE186:=Aside0.mk ((by rw[hg];exact(below_size bel_):w.heap.size≤gb186));replace HB:=Aside0.mk (below_step bel_ hb);clear hb hbox hg;have hcz13_0:w12.cell? ⟨gb186,0,none⟩=some (.string a0_0):=(blk_cell BK186.out 0).trans rfl;have hcz13_1:w12.cell? ⟨gb186,1,none⟩=some (.string a0_1):=(blk_cell BK186.out 1).trans rfl;have hfz13_0:=blk_frozen BK186.out 0;have hfz13_1:=blk_frozen BK186.out 1;have p10:0≤(a1:Int):=dt_;have q10:a1 < (a0_0.size:Int):=dt_;have hx10:=bt_at a0_0 a1;replace p10:=eq_true p10;replace q10:=eq_true q10)));go_ret;exact⟨by first|rfl|(simp[errW_none,errW_some] <;> rfl)|(simp[*,errW_none,errW_some] <;> rfl),by repeat(first|(with_reducible first|exact HB.out|apply below_alloc|apply pw_below_drewN|apply below_drew1|refine below_set ?_ GE186.out)|exact HB.out)⟩)
     ·
      (rw[if_neg c11] at H);have c11b0:((bt a0_0 a1) == 45)=false:=beq_eq_false_iff_ne.mpr c11;have c11b1:((bt a0_0 a1) != 45)=true:=bne_iff_ne.mpr c11
      by_cases c15:(bt a0_0 a1)=32
      (· (rw[if_pos c15] at H);have c15b0:((bt a0_0 a1) == 32)=true:=beq_iff_eq.mpr c15;have c15b1:((bt a0_0 a1) != 32)=false:=bne_eq_false_iff_eq.mpr c15;clear c15;replace H:=Option.bind_eq_some_iff.mp H;obtain⟨t187,A160,H⟩:=H;(try dsimp only at H);have A16:=Aside0.mk A160;clear A160;obtain rfl:=Option.some.inj H;go_enter Tryd.func105,Tryd.ntmps105;(go_wp2_with (first|((with_reducible refine gate_dst (N:=2) rfl ?_);(try(refine gate_guard (by rfl) ?_;dsimp only));refine box_event ?hg (N:=2) ?hd (cs:=#[.string a0_0, .string a0_1]) (t:=57) ?hr ?_;(case hd=>rfl);(case hg=>rfl);(case hr=>first|(go_simp;done)|(go_simp;rfl));intro gb186 hg w17 hbox hb;have BK186:=Aside0.mk (hbox);have GW186:=Aside0.mk ((by rw[hg];exact(below_size bel_):w.heap.size≤gb186));have GE186:=Aside0.mk ((by rw[hg];exact(below_size bel_):w.heap.size≤gb186));replace HB:=Aside0.mk (below_step bel_ hb);clear hb hbox hg;have hcz18_0:w17.cell? ⟨gb186,0,none⟩=some (.string a0_0):=(blk_cell BK186.out 0).trans rfl;have hcz18_1:w17.cell? ⟨gb186,1,none⟩=some (.string a0_1):=(blk_cell BK186.out 1).trans rfl;have hfz18_0:=blk_frozen BK186.out 0;have hfz18_1:=blk_frozen BK186.out 1;have p10:0≤(a1:Int):=dt_;have q10:a1 < (a0_0.size:Int):=dt_;have hx10:=bt_at a0_0 a1;replace p10:=eq_true p10;replace q10:=eq_true q10;have p14:0≤(a1:Int):=dt_;have q14:a1 < (a0_0.size:Int):=dt_;have hx14:=bt_at a0_0 a1;replace p14:=eq_true p14;replace q14:=eq_true q14)|(go_at_call 104;(with_reducible refine(sennitref20_Lost.calls k a0_0 a0_1 t187 _ A16.out).mono ?_);rintro e w19 ⟨rfl,hb⟩;replace BK186:=Aside0.mk (blk_below (g:=gb186) (o := .cells #[.string a0_0, .string a0_1] 57 (0,0)) (pK_ BK186.out) hb);replace HB:=Aside0.mk (below_step (bs1_ GE186.out) hb);(try clear hb);(try clear hb2);(try clear hk);(try clear hi))));go_ret;exact⟨by first|rfl|(simp[errW_none,errW_some] <;> rfl)|(simp[*,errW_none,errW_some] <;> rfl),by repeat(first|(with_reducible first|exact HB.out|apply below_alloc|apply pw_below_drewN|apply below_drew1|refine below_set ?_ GE186.out)|exact HB.out)⟩);(· (rw[if_neg c15] at H);have c15b0:((bt a0_0 a1) == 32)=false:=beq_eq_false_iff_ne.mpr c15;have c15b1:((bt a0_0 a1) != 32)=true:=bne_iff_ne.mpr c15;obtain rfl:=Option.some.inj H;go_enter Tryd.func105,Tryd.ntmps105;(go_wp2_with (first|((with_reducible refine gate_dst (N:=2) rfl ?_);(try(refine gate_guard (by rfl) ?_;dsimp only));refine box_event ?hg (N:=2) ?hd (cs:=#[.string a0_0, .string a0_1]) (t:=57) ?hr ?_;(case hd=>rfl);(case hg=>rfl);(case hr=>first|(go_simp;done)|(go_simp;rfl));intro gb186 hg w20 hbox hb;have BK186:=Aside0.mk (hbox);have GW186:=Aside0.mk ((by rw[hg];exact(below_size bel_):w.heap.size≤gb186));have GE186:=Aside0.mk ((by rw[hg];exact(below_size bel_):w.heap.size≤gb186));replace HB:=Aside0.mk (below_step bel_ hb);clear hb hbox hg;have hcz21_0:w20.cell? ⟨gb186,0,none⟩=some (.string a0_0):=(blk_cell BK186.out 0).trans rfl;have hcz21_1:w20.cell? ⟨gb186,1,none⟩=some (.string a0_1):=(blk_cell BK186.out 1).trans rfl;have hfz21_0:=blk_frozen BK186.out 0;have hfz21_1:=blk_frozen BK186.out 1;have p10:0≤(a1:Int):=dt_;have q10:a1 < (a0_0.size:Int):=dt_;have hx10:=bt_at a0_0 a1;replace p10:=eq_true p10;replace q10:=eq_true q10;have p14:0≤(a1:Int):=dt_;have q14:a1 < (a0_0.size:Int):=dt_;have hx14:=bt_at a0_0 a1;replace p14:=eq_true p14;replace q14:=eq_true q14)));go_ret;exact⟨by first|rfl|(simp[errW_none,errW_some] <;> rfl)|(simp[*,errW_none,errW_some] <;> rfl),by repeat(first|(with_reducible first|exact HB.out|apply below_alloc|apply pw_below_drewN|apply below_drew1|refine below_set ?_ GE186.out)|exact HB.out)⟩)
    (· exact nx_ c9 H)
   (· exact nx_ c8 H)
def sennitref20_Column.l0:Nat→List (S57)→Int→List ByteArray→Int→Option (List ByteArray)
  | 0,_,_,_,_=>none
  | k+1,x0,x1,x5,x6=>if x6 < (x0.length:Int) then (if 0≤x6 then ((sennitref20_Of.f k ((rd_T57 x0 x6).f0) ((rd_T57 x0 x6).f1) x1).bind fun t189=>(if t189=true then (if x5.length < 8796093022208 then (sennitref20_Column.l0 k x0 x1 (x5 ++ [(rd_T57 x0 x6).f1]) (wrap64 (x6+1))) else (none)) else (sennitref20_Column.l0 k x0 x1 x5 (wrap64 (x6+1))))) else (none)) else (some x5)
def sennitref20_Column.f (k:Nat) (l0:List (S57)) (a1:Int):Option (List ByteArray):=sennitref20_Column.l0 k l0 a1 ([]:List ByteArray) 0
theorem sennitref20_Column.calls (k:Nat) (A0:Option Addr) (c0:Nat) (l0:List (S57)) (a1:Int) (r:List ByteArray) (w:World) (hr0:Kd.C k57 w A0 l0.length l0) (hc0:l0.length≤c0) (h:sennitref20_Column.f k l0 a1=some r) :
    Calls Tryd.prog 82 #[.slice A0 l0.length c0, .int .i64 a1] w fun e w' => ∃ v0_:Value,e = .returned (v0_)∧Kd.R Kd.string 9 w' w.heap.size (fun _=>True) v0_ r∧Below w.heap.size w w':=by
 have hu57:=Tryd.underlying57;have HR0:=Aside0.mk hr0;have HC0:=Aside0.mk hc0;clear hr0 hc0;have HB:=Aside0.mk (Below.refl w.heap.size w);have H:=h;(rw[sennitref20_Column.f] at H);clear h;have H':=Aside0.mk H;clear H;go_enter Tryd.func82,Tryd.ntmps82;go_wp2
 go_loopg [5,6] k (fun kq v5 v6 w' => ∃ (x5_1:List ByteArray) (x6_1:Int),v6 = .int .i64 x6_1∧Aside0 (sennitref20_Column.l0 kq l0 a1 x5_1 x6_1=some r)∧Aside0 (kq≤k)∧Aside0 (Kd.R Kd.string 9 w' w.heap.size (fun _=>True) v5 x5_1)∧Aside0 (Below w.heap.size w w'))
 (case atStart=>exact⟨(([]:List ByteArray)),(0),rs_,H',⟨Nat.le_refl _⟩,⟨by first|exact Kd.R_nil _ _ _ _ _|exact Kd.N_nil _ _ _ _ _|exact Kd.V_nil _ _ _ _ _|exact Kd.Q_nil _ _ _ _ _|exact Kd.S_nil _ _ _ _ _⟩,⟨bel_⟩⟩)
 case round =>
  clear H';(try clear p2);obtain⟨x5_1,x6_1,rfl,HA,HK1,HO_5,HB⟩:=hrel
  cases gk with
  | zero=>exact absurd HA.out (by simp[sennitref20_Column.l0])
  | succ k1 =>
   have H:=HA.out;clear HA;(simp only[sennitref20_Column.l0] at H)
   by_cases c3:x6_1 < (l0.length:Int)
   ·
    (rw[if_pos c3] at H);have c3b0:decide (x6_1 < (l0.length:Int))=true:=decide_eq_true c3;clear c3
    by_cases c4:0≤x6_1
    ·
     (rw[if_pos c4] at H);have c4b0:decide (0≤x6_1)=true:=decide_eq_true c4;clear c4;replace H:=Option.bind_eq_some_iff.mp H;obtain⟨t189,A50,H⟩:=H;(try dsimp only at H);have A5:=Aside0.mk A50;clear A50
     by_cases c6:t189=true
     ·
      subst c6;have H1:=H;(rw[if_pos rfl] at H1);clear H;have H:=H1;clear H1
      by_cases c7:x5_1.length < 8796093022208
      ·
       (rw[if_pos c7] at H);have LMc7:=Aside0.mk c7;clear c7;obtain⟨y191,hy191⟩ : ∃ y_:List ByteArray,y_=(x5_1 ++ [(rd_T57 l0 x6_1).f1]):=⟨_,rfl⟩;((try rw[Option.bind_some] at H);rw[← hy191] at H);have Ny191:=Aside0.mk hy191;clear hy191;have H':=Aside0.mk H;clear H;have p188:0≤(x6_1:Int):=dt_;have q188:x6_1 < (l0.length:Int):=dt_;obtain⟨ad188,e188,hx188_0,hx188_1⟩:=at_T57 HR0.out x6_1 p188 q188;cases e188;replace hx188_0:=(HB.out.cell (World.block_lt_of_cell? w _ hx188_0)).trans hx188_0;replace hx188_1:=(HB.out.cell (World.block_lt_of_cell? w _ hx188_1)).trans hx188_1;replace p188:=eq_true p188;replace q188:=eq_true q188;(go_wp2_with (first|((with_reducible refine gate_callee (f:=105) rfl ?_);refine goesL_ (some 18) rfl rfl Tryd.func105 (by kernel_rfl) rfl #[.agg #[.string ((rd_T57 l0 x6_1).f0), .string ((rd_T57 l0 x6_1).f1)], .int .i64 a1] rfl am_ ?_;(with_reducible refine(sennitref20_Of.calls k1 ((rd_T57 l0 x6_1).f0) ((rd_T57 l0 x6_1).f1) a1 true _ A5.out).mono ?_);rintro e w8 ⟨rfl,hb⟩;refine⟨_,rfl,?_⟩;replace HO_5:=Aside0.mk (Kd.R_below (pR_ HO_5.out) hb);replace HB:=Aside0.mk (below_step bel_ hb);(try clear hb);(try clear hb2);(try clear hk);(try clear hi);have p190:0≤(x6_1:Int):=dt_;have q190:x6_1 < (l0.length:Int):=dt_;obtain⟨ad190,e190,hx190_0,hx190_1⟩:=at_T57 HR0.out x6_1 p190 q190;obtain rfl:ad188=ad190:=(by injection e190);replace hx190_0:=(HB.out.cell (World.block_lt_of_cell? w _ hx190_0)).trans hx190_0;replace hx190_1:=(HB.out.cell (World.block_lt_of_cell? w _ hx190_1)).trans hx190_1;replace p190:=eq_true p190;replace q190:=eq_true q190)|((with_reducible refine gate_builtin (b := .append) (xs:=#[.tmp 19, .tmp 25]) rfl ?_);at_builtin;refine Kd.R_append Kd.string (w0:=w) w.heap.size rfl (.tmp 19) (.tmp 25) 23 9 (.string ⟨#[]⟩) 16 rfl Tryd.underlying23 info9 rfl (by decide) (by omega) u5 x5_1 ((rd_T57 l0 x6_1).f1) [.string ((rd_T57 l0 x6_1).f1)] (fun _=>True) (fun _=>False) rfl rfl ?aP (fun _ hk=>hk.elim) ?aF ?aO ?aB ?aS ?aL ?_;(case aP=>exact rfl);(case aB=>exact bel_);(case aF=>exact(fun _ _=>trivial));(case aO=>exact(pR_ HO_5.out));(case aS=>exact(below_size bel_));(case aL=>have:=LMc7.out;omega);intro v192 w9 ho hb hg hat;rw[← Ny191.out] at ho;replace HB:=Aside0.mk (hb);have HO193:=Aside0.mk (ho);clear HO_5;clear ho hb hg hat)))
       go_roundg k1
       (case measure=>have:=HK1.out;omega);(case rel=>exact⟨(y191),(wrap64 (x6_1+1)),rs_,H',⟨by have:=HK1.out;omega⟩,⟨pR_ HO193.out⟩,⟨bel_⟩⟩)
      (· exact nx_ c7 H)
     ·
      replace c6:=Bool.eq_false_iff.mpr c6;subst c6;have H1:=H;(rw[if_neg (show ¬ (false=true) by decide)] at H1);clear H;have H:=H1;clear H1;have H':=Aside0.mk H;clear H;have p188:0≤(x6_1:Int):=dt_;have q188:x6_1 < (l0.length:Int):=dt_;obtain⟨ad188,e188,hx188_0,hx188_1⟩:=at_T57 HR0.out x6_1 p188 q188;cases e188;replace hx188_0:=(HB.out.cell (World.block_lt_of_cell? w _ hx188_0)).trans hx188_0;replace hx188_1:=(HB.out.cell (World.block_lt_of_cell? w _ hx188_1)).trans hx188_1;replace p188:=eq_true p188;replace q188:=eq_true q188;(go_wp2_with (first|((with_reducible refine gate_callee (f:=105) rfl ?_);refine goesL_ (some 18) rfl rfl Tryd.func105 (by kernel_rfl) rfl #[.agg #[.string ((rd_T57 l0 x6_1).f0), .string ((rd_T57 l0 x6_1).f1)], .int .i64 a1] rfl am_ ?_;(with_reducible refine(sennitref20_Of.calls k1 ((rd_T57 l0 x6_1).f0) ((rd_T57 l0 x6_1).f1) a1 false _ A5.out).mono ?_);rintro e w10 ⟨rfl,hb⟩;refine⟨_,rfl,?_⟩;replace HO_5:=Aside0.mk (Kd.R_below (pR_ HO_5.out) hb);replace HB:=Aside0.mk (below_step bel_ hb);(try clear hb);(try clear hb2);(try clear hk);(try clear hi))))
      go_roundg k1
      (case measure=>have:=HK1.out;omega);(case rel=>exact⟨(x5_1),(wrap64 (x6_1+1)),rs_,H',⟨by have:=HK1.out;omega⟩,⟨pR_ HO_5.out⟩,⟨bel_⟩⟩)
    (· exact nx_ c4 H)
   (· (rw[if_neg c3] at H);have c3b0:decide (x6_1 < (l0.length:Int))=false:=decide_eq_false c3;clear c3;obtain rfl:=Option.some.inj H;go_wp2;go_ret;exact⟨_,ew_,by(with_reducible repeat(first|apply Kd.R_alloc|apply Kd.R_drewN|apply Kd.R_drew));exact HO_5.out,bel_⟩)
mutual
def sennitref01_Few.l0:Nat→List ByteArray→Int→Int→Option (Bool)
  | 0,_,_,_=>none
  | k+1,x0,x1,x5=>if x5 < (x0.length:Int) then (sennitref01_Few.j1 k x0 x1 x5 (decide (x5≤x1))) else (sennitref01_Few.j1 k x0 x1 x5 false)
def sennitref01_Few.j1:Nat→List ByteArray→Int→Int→Bool→Option (Bool)
  | 0,_,_,_,_=>none
  | k+1,x0,x1,x5,x14=>if x14=true then (if 0≤x5 then (if x5 < (x0.length:Int) then (if ((rdOf ByteArray.empty x0 x5).size:Int) > 100 then (some false) else (sennitref01_Few.l0 k x0 x1 (wrap64 (x5+1)))) else (none)) else (none)) else (some (decide ((x0.length:Int)≤x1)))
end
def sennitref01_Few.f (k:Nat) (l0:List ByteArray) (a1:Int):Option (Bool):=sennitref01_Few.l0 k l0 a1 0
theorem sennitref01_Few.calls (k:Nat) (A0:Option Addr) (c0:Nat) (l0:List ByteArray) (a1:Int) (r:Bool) (w:World) (hr0:Kd.C Kd.string w A0 l0.length l0) (hc0:l0.length≤c0) (h:sennitref01_Few.f k l0 a1=some r) :
    Calls Tryd.prog 16 #[.slice A0 l0.length c0, .int .i64 a1] w fun e w'=>e = .returned (.bool r)∧Drawn0 w w':=by
 have HR0:=Aside0.mk hr0;have HC0:=Aside0.mk hc0;clear hr0 hc0;have H:=h;(rw[sennitref01_Few.f] at H);clear h;have H':=Aside0.mk H;clear H;go_enter Tryd.func16,Tryd.ntmps16;go_wp2
 go_loopg [5] k (fun kq v5 w' => ∃ (x5_1:Int),v5 = .int .i64 x5_1∧Aside0 (sennitref01_Few.l0 kq l0 a1 x5_1=some r)∧Aside0 (kq≤k)∧Drawn0 w w')
 (case atStart=>exact⟨(0),rs_,H',⟨Nat.le_refl _⟩,d0_⟩)
 case round =>
  clear H';(try clear c1);(try clear p2);obtain⟨x5_1,rfl,HA,HK1,⟨m1,rfl⟩⟩:=hrel
  cases gk with
  | zero=>exact absurd HA.out (by simp[sennitref01_Few.l0])
  | succ k1 =>
   have H:=HA.out;clear HA;(simp only[sennitref01_Few.l0] at H);have HC3:=Aside0.mk H;clear H
   go_upto_region 2 with (fail)
   go_cut [14] (fun v14 wc => ∃ (kq:Nat) (x14_2:Bool),v14 = .bool x14_2∧Aside0 (sennitref01_Few.j1 kq l0 a1 x5_1 x14_2=some r)∧Aside0 (kq≤k1)∧Drawn0 w wc)
   case first =>
    have H:=HC3.out;clear HC3
    by_cases c4:x5_1 < (l0.length:Int)
    ·
     (rw[if_pos c4] at H);have c4b0:decide (x5_1 < (l0.length:Int))=true:=decide_eq_true c4;clear c4;(first|rw[c4b0]|(simp only[i64_w,i32_w];rw[c4b0])|skip);have H':=Aside0.mk H;clear H;go_wp2
     go_meet
     (case rel=>exact⟨_,(decide (x5_1≤a1)),rs_,H',⟨by have:=HK1.out;first|omega|exact Nat.le_refl _⟩,d0_⟩)
    ·
     (rw[if_neg c4] at H);have c4b0:decide (x5_1 < (l0.length:Int))=false:=decide_eq_false c4;clear c4;(first|rw[c4b0]|(simp only[i64_w,i32_w];rw[c4b0])|skip);have H':=Aside0.mk H;clear H;go_wp2
     go_meet
     (case rel=>exact⟨_,(false),rs_,H',⟨by have:=HK1.out;first|omega|exact Nat.le_refl _⟩,d0_⟩)
   case rest =>
    clear HC3;(try clear c1);(try clear p2);(try clear c4);(try clear c4b0);(try clear p2);obtain⟨kq,x14_2,rfl,HA,HJ2,⟨mc2,rfl⟩⟩:=hcut
    cases kq with
    | zero=>exact absurd HA.out (by simp[sennitref01_Few.j1])
    | succ kj2 =>
     have H:=HA.out;clear HA;(simp only[sennitref01_Few.j1] at H)
     by_cases c5:x14_2=true
     ·
      subst c5;have H1:=H;(rw[if_pos rfl] at H1);clear H;have H:=H1;clear H1
      by_cases c6:0≤x5_1
      ·
       (rw[if_pos c6] at H);have c6b0:decide (0≤x5_1)=true:=decide_eq_true c6;clear c6
       by_cases c7:x5_1 < (l0.length:Int)
       ·
        (rw[if_pos c7] at H);have c7b0:decide (x5_1 < (l0.length:Int))=true:=decide_eq_true c7;clear c7
        by_cases c8:((rdOf ByteArray.empty l0 x5_1).size:Int) > 100
        (· (rw[if_pos c8] at H);have c8b0:decide (100 < ((rdOf ByteArray.empty l0 x5_1).size:Int))=true:=decide_eq_true c8;have c8b1:decide (100 < (rdOf ByteArray.empty l0 x5_1).size)=true:=decide_eq_true (by omega);clear c8;obtain rfl:=Option.some.inj H;have p234:0≤(x5_1:Int):=dt_;have q234:x5_1 < (l0.length:Int):=dt_;obtain⟨ad234,e234,hx234_0⟩:=Kd.at_string HR0.out x5_1 p234 q234;cases e234;replace p234:=eq_true p234;replace q234:=eq_true q234;go_wp2;go_ret;exact⟨by first|rfl|(simp;done)|(simp[*];done),d0_⟩)
        ·
         (rw[if_neg c8] at H);have c8b0:decide (100 < ((rdOf ByteArray.empty l0 x5_1).size:Int))=false:=decide_eq_false c8;have c8b1:decide (100 < (rdOf ByteArray.empty l0 x5_1).size)=false:=decide_eq_false (by omega);clear c8;have H':=Aside0.mk H;clear H;have p234:0≤(x5_1:Int):=dt_;have q234:x5_1 < (l0.length:Int):=dt_;obtain⟨ad234,e234,hx234_0⟩:=Kd.at_string HR0.out x5_1 p234 q234;cases e234;replace p234:=eq_true p234;replace q234:=eq_true q234;go_wp2
         go_roundg kj2
         (case measure=>have:=HK1.out;have:=HJ2.out;omega);(case rel=>exact⟨(wrap64 (x5_1+1)),rs_,H',⟨by have:=HK1.out;have:=HJ2.out;omega⟩,d0_⟩)
       (· exact nx_ c7 H)
      (· exact nx_ c6 H)
     (· replace c5:=Bool.eq_false_iff.mpr c5;subst c5;have H1:=H;(rw[if_neg (show ¬ (false=true) by decide)] at H1);clear H;have H:=H1;clear H1;obtain rfl:=Option.some.inj H;go_wp2;go_ret;exact⟨by first|rfl|(simp;done)|(simp[*];done),d0_⟩)
def sennitref01_Same.l0:Nat→List ByteArray→List ByteArray→Int→Option (Bool)
  | 0,_,_,_=>none
  | k+1,x0,x1,x5=>if x5 < (x0.length:Int) then (if 0≤x5 then (if x5 < (x1.length:Int) then (if (rdOf ByteArray.empty x0 x5).toList=(rdOf ByteArray.empty x1 x5).toList then (sennitref01_Same.l0 k x0 x1 (wrap64 (x5+1))) else (some false)) else (none)) else (none)) else (some true)
def sennitref01_Same.f (k:Nat) (l0:List ByteArray) (l1:List ByteArray):Option (Bool):=if (l0.length:Int)=(l1.length:Int) then (sennitref01_Same.l0 k l0 l1 0) else (some false)
theorem sennitref01_Same.calls (k:Nat) (A0:Option Addr) (c0:Nat) (l0:List ByteArray) (A1:Option Addr) (c1:Nat) (l1:List ByteArray) (r:Bool) (w:World) (hr0:Kd.C Kd.string w A0 l0.length l0) (hc0:l0.length≤c0) (hr1:Kd.C Kd.string w A1 l1.length l1) (hc1:l1.length≤c1) (h:sennitref01_Same.f k l0 l1=some r) :
    Calls Tryd.prog 21 #[.slice A0 l0.length c0, .slice A1 l1.length c1] w fun e w'=>e = .returned (.bool r)∧Drawn0 w w':=by
 have HR0:=Aside0.mk hr0;have HC0:=Aside0.mk hc0;clear hr0 hc0;have HR1:=Aside0.mk hr1;have HC1:=Aside0.mk hc1;clear hr1 hc1;have H:=h;(rw[sennitref01_Same.f] at H);clear h
 by_cases c3:(l0.length:Int)=(l1.length:Int)
 ·
  (rw[if_pos c3] at H);have c3b0:((l0.length:Int) == (l1.length:Int))=true:=beq_iff_eq.mpr c3;have c3b1:((l0.length:Int) != (l1.length:Int))=false:=bne_eq_false_iff_eq.mpr c3;(have c3b2:(l0.length == l1.length)=true:=by first|simpa using c3|(simp at c3 ⊢;omega));clear c3;have H':=Aside0.mk H;clear H;go_enter Tryd.func21,Tryd.ntmps21;go_wp2;(repeat(go_quiet (fail);try go_wp2))
  go_loopg [5] k (fun kq v5 w' => ∃ (x5_1:Int),v5 = .int .i64 x5_1∧Aside0 (sennitref01_Same.l0 kq l0 l1 x5_1=some r)∧Aside0 (kq≤k)∧Drawn0 w w')
  (case atStart=>exact⟨(0),rs_,H',⟨Nat.le_refl _⟩,d0_⟩)
  case round =>
   clear H';(try clear c1);(try clear c2);(try clear p2);(try clear c3);(try clear c3b0);(try clear c3b1);(try clear c3b2);obtain⟨x5_1,rfl,HA,HK1,⟨m1,rfl⟩⟩:=hrel
   cases gk with
   | zero=>exact absurd HA.out (by simp[sennitref01_Same.l0])
   | succ k1 =>
    have H:=HA.out;clear HA;(simp only[sennitref01_Same.l0] at H)
    by_cases c4:x5_1 < (l0.length:Int)
    ·
     (rw[if_pos c4] at H);have c4b0:decide (x5_1 < (l0.length:Int))=true:=decide_eq_true c4;clear c4
     by_cases c5:0≤x5_1
     ·
      (rw[if_pos c5] at H);have c5b0:decide (0≤x5_1)=true:=decide_eq_true c5;clear c5
      by_cases c6:x5_1 < (l1.length:Int)
      ·
       (rw[if_pos c6] at H);have c6b0:decide (x5_1 < (l1.length:Int))=true:=decide_eq_true c6;clear c6
       by_cases c7:(rdOf ByteArray.empty l0 x5_1).toList=(rdOf ByteArray.empty l1 x5_1).toList
       ·
        (rw[if_pos c7] at H);have c7b0:((rdOf ByteArray.empty l0 x5_1).toList == (rdOf ByteArray.empty l1 x5_1).toList)=true:=beq_iff_eq.mpr c7;have c7b1:((rdOf ByteArray.empty l0 x5_1).toList != (rdOf ByteArray.empty l1 x5_1).toList)=false:=bne_eq_false_iff_eq.mpr c7;clear c7;have H':=Aside0.mk H;clear H;have p365:0≤(x5_1:Int):=dt_;have q365:x5_1 < (l0.length:Int):=dt_;obtain⟨ad365,e365,hx365_0⟩:=Kd.at_string HR0.out x5_1 p365 q365;cases e365;replace p365:=eq_true p365;replace q365:=eq_true q365;have p366:0≤(x5_1:Int):=dt_;have q366:x5_1 < (l1.length:Int):=dt_;obtain⟨ad366,e366,hx366_0⟩:=Kd.at_string HR1.out x5_1 p366 q366;cases e366;replace p366:=eq_true p366;replace q366:=eq_true q366;go_wp2;(repeat(go_quiet (fail);try go_wp2))
        go_roundg k1
        (case measure=>have:=HK1.out;omega);(case rel=>exact⟨(wrap64 (x5_1+1)),rs_,H',⟨by have:=HK1.out;omega⟩,d0_⟩)
       (· (rw[if_neg c7] at H);have c7b0:((rdOf ByteArray.empty l0 x5_1).toList == (rdOf ByteArray.empty l1 x5_1).toList)=false:=beq_eq_false_iff_ne.mpr c7;have c7b1:((rdOf ByteArray.empty l0 x5_1).toList != (rdOf ByteArray.empty l1 x5_1).toList)=true:=bne_iff_ne.mpr c7;obtain rfl:=Option.some.inj H;have p365:0≤(x5_1:Int):=dt_;have q365:x5_1 < (l0.length:Int):=dt_;obtain⟨ad365,e365,hx365_0⟩:=Kd.at_string HR0.out x5_1 p365 q365;cases e365;replace p365:=eq_true p365;replace q365:=eq_true q365;have p366:0≤(x5_1:Int):=dt_;have q366:x5_1 < (l1.length:Int):=dt_;obtain⟨ad366,e366,hx366_0⟩:=Kd.at_string HR1.out x5_1 p366 q366;cases e366;replace p366:=eq_true p366;replace q366:=eq_true q366;go_wp2;(repeat(go_quiet (fail);try go_wp2));go_ret;exact⟨by first|rfl|(simp;done)|(simp[*];done),d0_⟩)
      (· exact nx_ c6 H)
     (· exact nx_ c5 H)
    (· (rw[if_neg c4] at H);have c4b0:decide (x5_1 < (l0.length:Int))=false:=decide_eq_false c4;clear c4;obtain rfl:=Option.some.inj H;go_wp2;(repeat(go_quiet (fail);try go_wp2));go_ret;exact⟨by first|rfl|(simp;done)|(simp[*];done),d0_⟩)
 (· (rw[if_neg c3] at H);have c3b0:((l0.length:Int) == (l1.length:Int))=false:=beq_eq_false_iff_ne.mpr c3;have c3b1:((l0.length:Int) != (l1.length:Int))=true:=bne_iff_ne.mpr c3;(have c3b2:(l0.length == l1.length)=false:=by first|simpa using c3|(simp at c3 ⊢;omega));obtain rfl:=Option.some.inj H;go_enter Tryd.func21,Tryd.ntmps21;go_wp2;(repeat(go_quiet (fail);try go_wp2));go_ret;exact⟨by first|rfl|(simp;done)|(simp[*];done),d0_⟩)
mutual
def sennitref22_Few.l0:Nat→List (S48)→Int→Option (Bool)
  | 0,_,_=>none
  | k+1,x0,x3=>if x3 < (x0.length:Int) then (sennitref22_Few.j1 k x0 x3 (decide (x3 < 7))) else (sennitref22_Few.j1 k x0 x3 false)
def sennitref22_Few.j1:Nat→List (S48)→Int→Bool→Option (Bool)
  | 0,_,_,_=>none
  | k+1,x0,x3,x11=>if x11=true then (if 0≤x3 then (if x3 < (x0.length:Int) then ((sennitref21_Few.f k ((rd_T48 x0 x3).f2)).bind fun t368=>(if t368=true then (if (((rd_T48 x0 x3).f0).length:Int) > 20 then (some false) else (sennitref22_Few.l0 k x0 (wrap64 (x3+1)))) else (some false))) else (none)) else (none)) else (some (decide ((x0.length:Int)≤6)))
end
def sennitref22_Few.f (k:Nat) (l0:List (S48)):Option (Bool):=sennitref22_Few.l0 k l0 0
theorem sennitref22_Few.calls (k:Nat) (A0:Option Addr) (c0:Nat) (l0:List (S48)) (r:Bool) (w:World) (hr0:Kd.C k48 w A0 l0.length l0) (hc0:l0.length≤c0) (h:sennitref22_Few.f k l0=some r) :
    Calls Tryd.prog 15 #[.slice A0 l0.length c0] w fun e w'=>e = .returned (.bool r)∧Drawn0 w w':=by
 have HR0:=Aside0.mk hr0;have HC0:=Aside0.mk hc0;clear hr0 hc0;have H:=h;(rw[sennitref22_Few.f] at H);clear h;have H':=Aside0.mk H;clear H;go_enter Tryd.func15,Tryd.ntmps15;go_wp2
 go_loopg [3] k (fun kq v3 w' => ∃ (x3_1:Int),v3 = .int .i64 x3_1∧Aside0 (sennitref22_Few.l0 kq l0 x3_1=some r)∧Aside0 (kq≤k)∧Drawn0 w w')
 (case atStart=>exact⟨(0),rs_,H',⟨Nat.le_refl _⟩,d0_⟩)
 case round =>
  clear H';(try clear c1);obtain⟨x3_1,rfl,HA,HK1,⟨m1,rfl⟩⟩:=hrel
  cases gk with
  | zero=>exact absurd HA.out (by simp[sennitref22_Few.l0])
  | succ k1 =>
   have H:=HA.out;clear HA;(simp only[sennitref22_Few.l0] at H);have HC2:=Aside0.mk H;clear H
   go_upto_region 2 with (fail)
   go_cut [11] (fun v11 wc => ∃ (kq:Nat) (x11_1:Bool),v11 = .bool x11_1∧Aside0 (sennitref22_Few.j1 kq l0 x3_1 x11_1=some r)∧Aside0 (kq≤k1)∧Drawn0 w wc)
   case first =>
    have H:=HC2.out;clear HC2
    by_cases c3:x3_1 < (l0.length:Int)
    ·
     (rw[if_pos c3] at H);have c3b0:decide (x3_1 < (l0.length:Int))=true:=decide_eq_true c3;clear c3;(first|rw[c3b0]|(simp only[i64_w,i32_w];rw[c3b0])|skip);have H':=Aside0.mk H;clear H;go_wp2
     go_meet
     (case rel=>exact⟨_,(decide (x3_1 < 7)),rs_,H',⟨by have:=HK1.out;first|omega|exact Nat.le_refl _⟩,d0_⟩)
    ·
     (rw[if_neg c3] at H);have c3b0:decide (x3_1 < (l0.length:Int))=false:=decide_eq_false c3;clear c3;(first|rw[c3b0]|(simp only[i64_w,i32_w];rw[c3b0])|skip);have H':=Aside0.mk H;clear H;go_wp2
     go_meet
     (case rel=>exact⟨_,(false),rs_,H',⟨by have:=HK1.out;first|omega|exact Nat.le_refl _⟩,d0_⟩)
   case rest =>
    clear HC2;(try clear c1);(try clear p2);(try clear c3);(try clear c3b0);obtain⟨kq,x11_1,rfl,HA,HJ1,⟨mc1,rfl⟩⟩:=hcut
    cases kq with
    | zero=>exact absurd HA.out (by simp[sennitref22_Few.j1])
    | succ kj1 =>
     have H:=HA.out;clear HA;(simp only[sennitref22_Few.j1] at H)
     by_cases c4:x11_1=true
     ·
      subst c4;have H1:=H;(rw[if_pos rfl] at H1);clear H;have H:=H1;clear H1
      by_cases c5:0≤x3_1
      ·
       (rw[if_pos c5] at H);have c5b0:decide (0≤x3_1)=true:=decide_eq_true c5;clear c5
       by_cases c6:x3_1 < (l0.length:Int)
       ·
        (rw[if_pos c6] at H);have c6b0:decide (x3_1 < (l0.length:Int))=true:=decide_eq_true c6;clear c6;replace H:=Option.bind_eq_some_iff.mp H;obtain⟨t368,A70,H⟩:=H;(try dsimp only at H);have A7:=Aside0.mk A70;clear A70
        by_cases c8:t368=true
        ·
         subst c8;have H1:=H;(rw[if_pos rfl] at H1);clear H;have H:=H1;clear H1
         by_cases c9:(((rd_T48 l0 x3_1).f0).length:Int) > 20
         (· (rw[if_pos c9] at H);have c9b0:decide (20 < (((rd_T48 l0 x3_1).f0).length:Int))=true:=decide_eq_true c9;have c9b1:decide (20 < ((rd_T48 l0 x3_1).f0).length)=true:=decide_eq_true (by omega);clear c9;obtain rfl:=Option.some.inj H;have p367:0≤(x3_1:Int):=dt_;have q367:x3_1 < (l0.length:Int):=dt_;obtain⟨ad367,A367_0,c367_0,A367_3,c367_3,e367,hx367_0,hx367_1,hx367_2,hx367_3,hl367_0,hi367_0,hl367_3,hi367_3⟩:=at_T48 HR0.out x3_1 p367 q367;cases e367;have HR367_0:=Aside0.mk hi367_0;have HC367_0:=Aside0.mk hl367_0;clear hi367_0 hl367_0;have HR367_3:=Aside0.mk hi367_3;have HC367_3:=Aside0.mk hl367_3;clear hi367_3 hl367_3;replace p367:=eq_true p367;replace q367:=eq_true q367;(go_wp2_with (first|((with_reducible refine gate_callee (f:=27) rfl ?_);refine goesL_ (some 19) rfl rfl Tryd.func27 (by kernel_rfl) rfl #[.slice A367_3 ((rd_T48 l0 x3_1).f2).length c367_3] rfl am_ ?_;(with_reducible refine(sennitref21_Few.calls kj1 _ _ ((rd_T48 l0 x3_1).f2) true _ ?side1 ?side2 A7.out).mono ?_);(case side1=>exact pC_ HR367_3.out);(case side2=>exact HC367_3.out);rintro e w' ⟨rfl,⟨nd,rfl⟩⟩;refine⟨_,rfl,?_⟩;have p369:0≤(x3_1:Int):=dt_;have q369:x3_1 < (l0.length:Int):=dt_;obtain⟨ad369,A369_0,c369_0,A369_3,c369_3,e369,hx369_0,hx369_1,hx369_2,hx369_3,hl369_0,hi369_0,hl369_3,hi369_3⟩:=at_T48 HR0.out x3_1 p369 q369;obtain rfl:ad367=ad369:=(by injection e369);have HR369_0:=Aside0.mk hi369_0;have HC369_0:=Aside0.mk hl369_0;clear hi369_0 hl369_0;have HR369_3:=Aside0.mk hi369_3;have HC369_3:=Aside0.mk hl369_3;clear hi369_3 hl369_3;replace p369:=eq_true p369;replace q369:=eq_true q369;have ea_:=Option.some.inj (hx367_0.symm.trans hx369_0);injection ea_ with ea_ en_ ec_;subst ea_;subst ec_;clear en_;have ea_:=Option.some.inj (hx367_3.symm.trans hx369_3);injection ea_ with ea_ en_ ec_;subst ea_;subst ec_;clear en_)));go_ret;exact⟨by first|rfl|(simp;done)|(simp[*];done),d0_⟩)
         ·
          (rw[if_neg c9] at H);have c9b0:decide (20 < (((rd_T48 l0 x3_1).f0).length:Int))=false:=decide_eq_false c9;have c9b1:decide (20 < ((rd_T48 l0 x3_1).f0).length)=false:=decide_eq_false (by omega);clear c9;have H':=Aside0.mk H;clear H;have p367:0≤(x3_1:Int):=dt_;have q367:x3_1 < (l0.length:Int):=dt_;obtain⟨ad367,A367_0,c367_0,A367_3,c367_3,e367,hx367_0,hx367_1,hx367_2,hx367_3,hl367_0,hi367_0,hl367_3,hi367_3⟩:=at_T48 HR0.out x3_1 p367 q367;cases e367;have HR367_0:=Aside0.mk hi367_0;have HC367_0:=Aside0.mk hl367_0;clear hi367_0 hl367_0;have HR367_3:=Aside0.mk hi367_3;have HC367_3:=Aside0.mk hl367_3;clear hi367_3 hl367_3;replace p367:=eq_true p367;replace q367:=eq_true q367;(go_wp2_with (first|((with_reducible refine gate_callee (f:=27) rfl ?_);refine goesL_ (some 19) rfl rfl Tryd.func27 (by kernel_rfl) rfl #[.slice A367_3 ((rd_T48 l0 x3_1).f2).length c367_3] rfl am_ ?_;(with_reducible refine(sennitref21_Few.calls kj1 _ _ ((rd_T48 l0 x3_1).f2) true _ ?side1 ?side2 A7.out).mono ?_);(case side1=>exact pC_ HR367_3.out);(case side2=>exact HC367_3.out);rintro e w' ⟨rfl,⟨nd,rfl⟩⟩;refine⟨_,rfl,?_⟩;have p369:0≤(x3_1:Int):=dt_;have q369:x3_1 < (l0.length:Int):=dt_;obtain⟨ad369,A369_0,c369_0,A369_3,c369_3,e369,hx369_0,hx369_1,hx369_2,hx369_3,hl369_0,hi369_0,hl369_3,hi369_3⟩:=at_T48 HR0.out x3_1 p369 q369;obtain rfl:ad367=ad369:=(by injection e369);have HR369_0:=Aside0.mk hi369_0;have HC369_0:=Aside0.mk hl369_0;clear hi369_0 hl369_0;have HR369_3:=Aside0.mk hi369_3;have HC369_3:=Aside0.mk hl369_3;clear hi369_3 hl369_3;replace p369:=eq_true p369;replace q369:=eq_true q369;have ea_:=Option.some.inj (hx367_0.symm.trans hx369_0);injection ea_ with ea_ en_ ec_;subst ea_;subst ec_;clear en_;have ea_:=Option.some.inj (hx367_3.symm.trans hx369_3);injection ea_ with ea_ en_ ec_;subst ea_;subst ec_;clear en_)))
          go_roundg kj1
          (case measure=>have:=HK1.out;have:=HJ1.out;omega);(case rel=>exact⟨(wrap64 (x3_1+1)),rs_,H',⟨by have:=HK1.out;have:=HJ1.out;omega⟩,d0_⟩)
        (· replace c8:=Bool.eq_false_iff.mpr c8;subst c8;have H1:=H;(rw[if_neg (show ¬ (false=true) by decide)] at H1);clear H;have H:=H1;clear H1;obtain rfl:=Option.some.inj H;have p367:0≤(x3_1:Int):=dt_;have q367:x3_1 < (l0.length:Int):=dt_;obtain⟨ad367,A367_0,c367_0,A367_3,c367_3,e367,hx367_0,hx367_1,hx367_2,hx367_3,hl367_0,hi367_0,hl367_3,hi367_3⟩:=at_T48 HR0.out x3_1 p367 q367;cases e367;have HR367_0:=Aside0.mk hi367_0;have HC367_0:=Aside0.mk hl367_0;clear hi367_0 hl367_0;have HR367_3:=Aside0.mk hi367_3;have HC367_3:=Aside0.mk hl367_3;clear hi367_3 hl367_3;replace p367:=eq_true p367;replace q367:=eq_true q367;(go_wp2_with (first|((with_reducible refine gate_callee (f:=27) rfl ?_);refine goesL_ (some 19) rfl rfl Tryd.func27 (by kernel_rfl) rfl #[.slice A367_3 ((rd_T48 l0 x3_1).f2).length c367_3] rfl am_ ?_;(with_reducible refine(sennitref21_Few.calls kj1 _ _ ((rd_T48 l0 x3_1).f2) false _ ?side1 ?side2 A7.out).mono ?_);(case side1=>exact pC_ HR367_3.out);(case side2=>exact HC367_3.out);rintro e w' ⟨rfl,⟨nd,rfl⟩⟩;refine⟨_,rfl,?_⟩)));go_ret;exact⟨by first|rfl|(simp;done)|(simp[*];done),d0_⟩)
       (· exact nx_ c6 H)
      (· exact nx_ c5 H)
     (· replace c4:=Bool.eq_false_iff.mpr c4;subst c4;have H1:=H;(rw[if_neg (show ¬ (false=true) by decide)] at H1);clear H;have H:=H1;clear H1;obtain rfl:=Option.some.inj H;go_wp2;go_ret;exact⟨by first|rfl|(simp;done)|(simp[*];done),d0_⟩)
def sennitref22_span.f (l0_0:List (S45)) (a0_1:Int) (a0_2:Int) (l0_3:List (S57)) (a1:Int):Option (Int × Int):=if a1 < 0 then (some (a0_1,a0_2)) else (if 0≤a1 then (if a1 < (l0_0.length:Int) then (some ((rd_T45 l0_0 a1).f0,(rd_T45 l0_0 a1).f1)) else (none)) else (none))
theorem sennitref22_span.calls (A0_0:Option Addr) (c0_0:Nat) (l0_0:List (S45)) (a0_1:Int) (a0_2:Int) (A0_3:Option Addr) (c0_3:Nat) (l0_3:List (S57)) (a1:Int) (r1:Int) (r2:Int) (w:World) (hr0_0:Kd.C k45 w A0_0 l0_0.length l0_0) (hc0_0:l0_0.length≤c0_0) (hr0_3:Kd.C k57 w A0_3 l0_3.length l0_3) (hc0_3:l0_3.length≤c0_3) (h:sennitref22_span.f l0_0 a0_1 a0_2 l0_3 a1=some (r1,r2)) :
    Calls Tryd.prog 131 #[.agg #[.slice A0_0 l0_0.length c0_0, .int .i64 a0_1, .int .i64 a0_2, .slice A0_3 l0_3.length c0_3], .int .i64 a1] w fun e w'=>e = .returned (.agg #[.int .i64 r1, .int .i64 r2])∧Below w.heap.size w w':=by
 have hu48:=Tryd.underlying48;have hu45:=Tryd.underlying45;have HR0_0:=Aside0.mk hr0_0;have HC0_0:=Aside0.mk hc0_0;clear hr0_0 hc0_0;have HR0_3:=Aside0.mk hr0_3;have HC0_3:=Aside0.mk hc0_3;clear hr0_3 hc0_3;have HB:=Aside0.mk (Below.refl w.heap.size w);have H:=h;(rw[sennitref22_span.f] at H);clear h
 by_cases c3:a1 < 0
 (· (rw[if_pos c3] at H);have c3b0:decide (a1 < 0)=true:=decide_eq_true c3;clear c3;(simp only[Option.some.injEq,Prod.mk.injEq] at H);obtain⟨rfl,rfl⟩:=H;go_enter Tryd.func131,Tryd.ntmps131;(go_wp2_with (first|((with_reducible refine gate_dst (N:=2) rfl ?_);refine box_event ?hg (N:=2) ?hd (cs:=#[.slice A0_0 l0_0.length c0_0, .int .i64 a0_1, .int .i64 a0_2, .slice A0_3 l0_3.length c0_3]) (t:=48) ?hr ?_;(case hd=>rfl);(case hg=>rfl);(case hr=>first|(go_simp;done)|(go_simp;rfl));intro gb370 hg w4 hbox hb;have BK370:=Aside0.mk (hbox);have GW370:=Aside0.mk ((by rw[hg];exact(below_size bel_):w.heap.size≤gb370));have GE370:=Aside0.mk ((by rw[hg];exact(below_size bel_):w.heap.size≤gb370));replace HB:=Aside0.mk (below_step bel_ hb);clear hb hbox hg)|((with_reducible refine gate_dst (N:=4) rfl ?_);refine box_event ?hg (N:=4) ?hd (cs:=#[.int .i64 0, .int .i64 0]) (t:=45) ?hr ?_;(case hd=>rfl);(case hg=>rfl);(case hr=>first|(go_simp;done)|(go_simp;rfl));intro gb371 hg w5 hbox hb;have BK371:=Aside0.mk (hbox);have GW371:=Aside0.mk ((by rw[hg];exact(below_size (bs1_ GE370.out)):w.heap.size≤gb371));have GE371:=Aside0.mk ((by rw[hg];exact(below_size (bs1_ GE370.out)):w.heap.size≤gb371));replace HB:=Aside0.mk (below_step (bs1_ GE370.out) hb);have NB370_371:=Aside0.mk ((by rw[hg];exact Nat.ne_of_lt (blk_lt (g:=gb370) (o := .cells #[.slice A0_0 l0_0.length c0_0, .int .i64 a0_1, .int .i64 a0_2, .slice A0_3 l0_3.length c0_3] 48 (0,0)) (pK_ BK370.out)):gb370≠gb371));have NB371_370:=Aside0.mk ((by rw[hg];exact Nat.ne_of_gt (blk_lt (g:=gb370) (o := .cells #[.slice A0_0 l0_0.length c0_0, .int .i64 a0_1, .int .i64 a0_2, .slice A0_3 l0_3.length c0_3] 48 (0,0)) (pK_ BK370.out)):gb371≠gb370));replace BK370:=Aside0.mk (blk_below (g:=gb370) (o := .cells #[.slice A0_0 l0_0.length c0_0, .int .i64 a0_1, .int .i64 a0_2, .slice A0_3 l0_3.length c0_3] 48 (0,0)) (pK_ BK370.out) hb);clear hb hbox hg;have hnb6:=NB370_371.out;have hnc6:=NB371_370.out;have hcz7_0:w5.cell? ⟨gb370,0,none⟩=some (.slice A0_0 l0_0.length c0_0):=(blk_cell BK370.out 0).trans rfl;have hcz7_1:w5.cell? ⟨gb370,1,none⟩=some (.int .i64 a0_1):=(blk_cell BK370.out 1).trans rfl;have hcz7_2:w5.cell? ⟨gb370,2,none⟩=some (.int .i64 a0_2):=(blk_cell BK370.out 2).trans rfl;have hcz7_3:w5.cell? ⟨gb370,3,none⟩=some (.slice A0_3 l0_3.length c0_3):=(blk_cell BK370.out 3).trans rfl;have hfz7_0:=blk_frozen BK370.out 0;have hfz7_1:=blk_frozen BK370.out 1;have hfz7_2:=blk_frozen BK370.out 2;have hfz7_3:=blk_frozen BK370.out 3;have hcz8_0:w5.cell? ⟨gb371,0,none⟩=some (.int .i64 0):=(blk_cell BK371.out 0).trans rfl;have hcz8_1:w5.cell? ⟨gb371,1,none⟩=some (.int .i64 0):=(blk_cell BK371.out 1).trans rfl;have hfz8_0:=blk_frozen BK371.out 0;have hfz8_1:=blk_frozen BK371.out 1)));refine bodyPost_ret (results_cell_row rfl _ _ gb371 45 #[.int .i64 a0_1, .int .i64 a0_2] (0,0) _ rfl (by(with_reducible repeat(first|refine blk_drewN ?_ _|refine blk_drew ?_|refine blk_alloc ?_ _));refine blk_put (cs:=#[.int .i64 a0_1, .int .i64 0]) ?_ 1 _ rfl;(with_reducible repeat(first|refine blk_drewN ?_ _|refine blk_drew ?_|refine blk_alloc ?_ _));refine blk_put (cs:=#[.int .i64 0, .int .i64 0]) ?_ 0 _ rfl;(with_reducible repeat(first|refine blk_drewN ?_ _|refine blk_drew ?_|refine blk_alloc ?_ _));exact BK371.out) Tryd.underlying45 rfl (by kernel_rfl)) rfl ?_;exact⟨by first|rfl|(simp[errW_none,errW_some] <;> rfl)|(simp[*,errW_none,errW_some] <;> rfl),by repeat(first|(with_reducible first|exact HB.out|apply below_alloc|apply pw_below_drewN|apply below_drew1|refine below_set ?_ GE370.out|refine below_set ?_ GE371.out)|exact HB.out)⟩)
 ·
  (rw[if_neg c3] at H);have c3b0:decide (a1 < 0)=false:=decide_eq_false c3;clear c3
  by_cases c9:0≤a1
  ·
   (rw[if_pos c9] at H);have c9b0:decide (0≤a1)=true:=decide_eq_true c9;clear c9
   by_cases c10:a1 < (l0_0.length:Int)
   (· (rw[if_pos c10] at H);have c10b0:decide (a1 < (l0_0.length:Int))=true:=decide_eq_true c10;clear c10;(simp only[Option.some.injEq,Prod.mk.injEq] at H);obtain⟨rfl,rfl⟩:=H;go_enter Tryd.func131,Tryd.ntmps131;(go_wp2_with (first|((with_reducible refine gate_dst (N:=2) rfl ?_);refine box_event ?hg (N:=2) ?hd (cs:=#[.slice A0_0 l0_0.length c0_0, .int .i64 a0_1, .int .i64 a0_2, .slice A0_3 l0_3.length c0_3]) (t:=48) ?hr ?_;(case hd=>rfl);(case hg=>rfl);(case hr=>first|(go_simp;done)|(go_simp;rfl));intro gb370 hg w11 hbox hb;have BK370:=Aside0.mk (hbox);have GW370:=Aside0.mk ((by rw[hg];exact(below_size bel_):w.heap.size≤gb370));have GE370:=Aside0.mk ((by rw[hg];exact(below_size bel_):w.heap.size≤gb370));replace HB:=Aside0.mk (below_step bel_ hb);clear hb hbox hg)|((with_reducible refine gate_dst (N:=4) rfl ?_);refine box_event ?hg (N:=4) ?hd (cs:=#[.int .i64 0, .int .i64 0]) (t:=45) ?hr ?_;(case hd=>rfl);(case hg=>rfl);(case hr=>first|(go_simp;done)|(go_simp;rfl));intro gb371 hg w12 hbox hb;have BK371:=Aside0.mk (hbox);have GW371:=Aside0.mk ((by rw[hg];exact(below_size (bs1_ GE370.out)):w.heap.size≤gb371));have GE371:=Aside0.mk ((by rw[hg];exact(below_size (bs1_ GE370.out)):w.heap.size≤gb371));replace HB:=Aside0.mk (below_step (bs1_ GE370.out) hb);have NB370_371:=Aside0.mk ((by rw[hg];exact Nat.ne_of_lt (blk_lt (g:=gb370) (o := .cells #[.slice A0_0 l0_0.length c0_0, .int .i64 a0_1, .int .i64 a0_2, .slice A0_3 l0_3.length c0_3] 48 (0,0)) (pK_ BK370.out)):gb370≠gb371));have NB371_370:=Aside0.mk ((by rw[hg];exact Nat.ne_of_gt (blk_lt (g:=gb370) (o := .cells #[.slice A0_0 l0_0.length c0_0, .int .i64 a0_1, .int .i64 a0_2, .slice A0_3 l0_3.length c0_3] 48 (0,0)) (pK_ BK370.out)):gb371≠gb370));replace BK370:=Aside0.mk (blk_below (g:=gb370) (o := .cells #[.slice A0_0 l0_0.length c0_0, .int .i64 a0_1, .int .i64 a0_2, .slice A0_3 l0_3.length c0_3] 48 (0,0)) (pK_ BK370.out) hb);clear hb hbox hg;have hnb13:=NB370_371.out;have hnc13:=NB371_370.out;have hcz14_0:w12.cell? ⟨gb370,0,none⟩=some (.slice A0_0 l0_0.length c0_0):=(blk_cell BK370.out 0).trans rfl;have hcz14_1:w12.cell? ⟨gb370,1,none⟩=some (.int .i64 a0_1):=(blk_cell BK370.out 1).trans rfl;have hcz14_2:w12.cell? ⟨gb370,2,none⟩=some (.int .i64 a0_2):=(blk_cell BK370.out 2).trans rfl;have hcz14_3:w12.cell? ⟨gb370,3,none⟩=some (.slice A0_3 l0_3.length c0_3):=(blk_cell BK370.out 3).trans rfl;have hfz14_0:=blk_frozen BK370.out 0;have hfz14_1:=blk_frozen BK370.out 1;have hfz14_2:=blk_frozen BK370.out 2;have hfz14_3:=blk_frozen BK370.out 3;have p372:0≤(a1:Int):=dt_;have q372:a1 < (l0_0.length:Int):=dt_;obtain⟨ad372,e372,hx372_0,hx372_1⟩:=at_T45 HR0_0.out a1 p372 q372;cases e372;replace hx372_0:=(HB.out.cell (World.block_lt_of_cell? w _ hx372_0)).trans hx372_0;replace hx372_1:=(HB.out.cell (World.block_lt_of_cell? w _ hx372_1)).trans hx372_1;replace p372:=eq_true p372;replace q372:=eq_true q372;have hcz15_0:w12.cell? ⟨gb371,0,none⟩=some (.int .i64 0):=(blk_cell BK371.out 0).trans rfl;have hcz15_1:w12.cell? ⟨gb371,1,none⟩=some (.int .i64 0):=(blk_cell BK371.out 1).trans rfl;have hfz15_0:=blk_frozen BK371.out 0;have hfz15_1:=blk_frozen BK371.out 1)));refine bodyPost_ret (results_cell_row rfl _ _ gb371 45 #[.int .i64 ((rd_T45 l0_0 a1).f0), .int .i64 ((rd_T45 l0_0 a1).f1)] (0,0) _ rfl (by(with_reducible repeat(first|refine blk_drewN ?_ _|refine blk_drew ?_|refine blk_alloc ?_ _));refine blk_put (cs:=#[.int .i64 ((rd_T45 l0_0 a1).f0), .int .i64 0]) ?_ 1 _ rfl;(with_reducible repeat(first|refine blk_drewN ?_ _|refine blk_drew ?_|refine blk_alloc ?_ _));refine blk_put (cs:=#[.int .i64 0, .int .i64 0]) ?_ 0 _ rfl;(with_reducible repeat(first|refine blk_drewN ?_ _|refine blk_drew ?_|refine blk_alloc ?_ _));exact BK371.out) Tryd.underlying45 rfl (by kernel_rfl)) rfl ?_;exact⟨by first|rfl|(simp[errW_none,errW_some] <;> rfl)|(simp[*,errW_none,errW_some] <;> rfl),by repeat(first|(with_reducible first|exact HB.out|apply below_alloc|apply pw_below_drewN|apply below_drew1|refine below_set ?_ GE370.out|refine below_set ?_ GE371.out)|exact HB.out)⟩)
   (· exact nx_ c10 H)
  (· exact nx_ c9 H)
def sennitref22_many.f (k:Nat) (l0:List (S57)) (a1:Int):Option (Int):=if a1 < 0 then ((sennitref20_Result.f k l0).bind fun t373=>(some (t373.length:Int))) else ((sennitref20_Column.f k l0 a1).bind fun t376=>(some (t376.length:Int)))
theorem sennitref22_many.calls (k:Nat) (A0:Option Addr) (c0:Nat) (l0:List (S57)) (a1:Int) (r:Int) (w:World) (hr0:Kd.C k57 w A0 l0.length l0) (hc0:l0.length≤c0) (h:sennitref22_many.f k l0 a1=some r) :
    Calls Tryd.prog 132 #[.slice A0 l0.length c0, .int .i64 a1] w fun e w'=>e = .returned (.int .i64 r)∧Below w.heap.size w w':=by
 have HR0:=Aside0.mk hr0;have HC0:=Aside0.mk hc0;clear hr0 hc0;have HB:=Aside0.mk (Below.refl w.heap.size w);have H:=h;(rw[sennitref22_many.f] at H);clear h
 by_cases c3:a1 < 0
 (· (rw[if_pos c3] at H);have c3b0:decide (a1 < 0)=true:=decide_eq_true c3;clear c3;replace H:=Option.bind_eq_some_iff.mp H;obtain⟨t373,A40,H⟩:=H;(try dsimp only at H);have A4:=Aside0.mk A40;clear A40;obtain rfl:=Option.some.inj H;go_enter Tryd.func132,Tryd.ntmps132;(go_wp2_with (first|((with_reducible refine gate_callee (f:=81) rfl ?_);refine goesL_ (some 8) rfl rfl Tryd.func81 (by kernel_rfl) rfl #[.slice A0 l0.length c0] rfl am_ ?_;(with_reducible refine(sennitref20_Result.calls k _ _ l0 t373 _ ?side1 ?side2 A4.out).mono ?_);(case side1=>exact pC_ HR0.out);(case side2=>exact HC0.out);rintro e w5 ⟨v374,rfl,ho0,hb⟩;refine⟨_,rfl,?_⟩;have HO375:=Aside0.mk (Kd.R_lower ho0 (below_size bel_));replace HB:=Aside0.mk (below_step bel_ hb);(try clear hb);(try clear hb2);(try clear hk);(try clear hi);(try clear ho0);obtain⟨Ao6,co6,eo6⟩:=Kd.R_slice HO375.out;subst eo6)));go_ret;exact⟨by first|rfl|(simp[errW_none,errW_some] <;> rfl)|(simp[*,errW_none,errW_some] <;> rfl),bel_⟩);(· (rw[if_neg c3] at H);have c3b0:decide (a1 < 0)=false:=decide_eq_false c3;clear c3;replace H:=Option.bind_eq_some_iff.mp H;obtain⟨t376,A70,H⟩:=H;(try dsimp only at H);have A7:=Aside0.mk A70;clear A70;obtain rfl:=Option.some.inj H;go_enter Tryd.func132,Tryd.ntmps132;(go_wp2_with (first|((with_reducible refine gate_callee (f:=82) rfl ?_);refine goesL_ (some 12) rfl rfl Tryd.func82 (by kernel_rfl) rfl #[.slice A0 l0.length c0, .int .i64 a1] rfl am_ ?_;(with_reducible refine(sennitref20_Column.calls k _ _ l0 a1 t376 _ ?side1 ?side2 A7.out).mono ?_);(case side1=>exact pC_ HR0.out);(case side2=>exact HC0.out);rintro e w8 ⟨v377,rfl,ho0,hb⟩;refine⟨_,rfl,?_⟩;have HO378:=Aside0.mk (Kd.R_lower ho0 (below_size bel_));replace HB:=Aside0.mk (below_step bel_ hb);(try clear hb);(try clear hb2);(try clear hk);(try clear hi);(try clear ho0);obtain⟨Ao9,co9,eo9⟩:=Kd.R_slice HO378.out;subst eo9)));go_ret;exact⟨by first|rfl|(simp[errW_none,errW_some] <;> rfl)|(simp[*,errW_none,errW_some] <;> rfl),bel_⟩)
end Go.Proofs.YthcnfflhejogfaaDoor.X
