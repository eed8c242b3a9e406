/- Parts of one proof. -/
import Derived.Test.YthcnfflhejogfaaDoorBApplyNothing3
import Derived.Test.YthcnfflhejogfaaDoorProg
import Derived.Below
import Derived.Deep.Draws
import Derived.Deep.AppendLies
import Derived.Maps.AppendAt
import Derived.OwnWalk
import Derived.Laws.BytesArg
import Derived.Laws.MakeOwn
import Derived.Laws.OwnMore
import Derived.Deep.OwnRows
import Derived.Tactics
import Derived.Lib.ConvBytes
import Derived.Laws.Slices
import Derived.WalkKit
import Derived.KernelRfl
import Derived.RowKit3
import Derived.Deep.LoopGhost
import Derived.Deep.QuietTactic
import Derived.BigQuiet
import Derived.WideLaws
import Derived.Deep.DeepCutAuto
import Derived.Deep.CutBlock
import Derived.Deep.RegionHeld3
import Derived.Laws.Rows
import Derived.Lib.AppendStr
import Derived.ArgAppend
import Derived.Laws.IdiomCopy
import Derived.OrdersHeld
import Derived.Laws.BitsLemmas
import Derived.RowKit
set_option linter.unusedVariables false
set_option linter.unusedSimpArgs false
set_option maxRecDepth 100000
set_option maxHeartbeats 8000000
namespace Go.Proofs.YthcnfflhejogfaaDoor.X
open Go.RowKit YthcnfflhejogfaaDoorW.PrintWords YthcnfflhejogfaaDoorW.PrintLast YthcnfflhejogfaaDoorW.PrintMore
attribute [local go_sem] max2_int min2_int max_two min_two max_three min_three max_four min_four
def errW:Option Int→Value
  | none => .nilIface
  | some c => .iface 0 (.int .i64 c)
theorem errW_none:errW none = .nilIface:=rfl
theorem errW_some (c:Int):errW (some c) = .iface 0 (.int .i64 c):=rfl

theorem info3:(Tryd.prog.info? 3).map (fun i=>(i.zero,i.size,i.bytes))=some (some (.int .i64 0),1,8):=by kernel_rfl
theorem info9:(Tryd.prog.info? 9).map (fun i=>(i.zero,i.size,i.bytes))=some (some (.string ⟨#[]⟩),1,16):=by kernel_rfl
theorem info23:(Tryd.prog.info? 23).map (fun i=>(i.zero,i.size,i.bytes))=some (some (.slice none 0 0),1,24):=by kernel_rfl
theorem info45:(Tryd.prog.info? 45).map (fun i=>(i.zero,i.size,i.bytes))=some (some (.agg #[(.int .i64 0),(.int .i64 0)]),2,16):=by kernel_rfl
theorem info48:(Tryd.prog.info? 48).map (fun i=>(i.zero,i.size,i.bytes))=some (some (.agg #[(.slice none 0 0),(.int .i64 0),(.int .i64 0),(.slice none 0 0)]),4,64):=by kernel_rfl
theorem info57:(Tryd.prog.info? 57).map (fun i=>(i.zero,i.size,i.bytes))=some (some (.agg #[(.string ⟨#[]⟩),(.string ⟨#[]⟩)]),2,32):=by kernel_rfl
theorem info76:(Tryd.prog.info? 76).map (fun i=>(i.zero,i.size,i.bytes))=some (some (.slice none 0 0),1,24):=by kernel_rfl
structure S45 where
  f0:Int
  f1:Int
def z45:S45:=⟨(0:Int),(0:Int)⟩
def k45:Kd S45:=Kd.iso (Kd.pair (Kd.int .i64) (Kd.int .i64)) (fun x:S45=>(x.f0,x.f1))
theorem k45_open {w:World} {x:S45} {cs:List Value} (h:k45.K w x cs):cs=[.int .i64 x.f0, .int .i64 x.f1]:=by
  obtain⟨_,_,rfl,rfl,rfl⟩:=h
  exact rfl
theorem k45_mk (w:World) (x:S45)  : k45.K w x [.int .i64 x.f0, .int .i64 x.f1]:=⟨[.int .i64 x.f0],[.int .i64 x.f1],rfl,rfl,rfl⟩
theorem k45_mkM (w:World) (base:Nat) (ok:Nat→Prop) (x:S45)  : k45.M w base ok x [.int .i64 x.f0, .int .i64 x.f1]:=⟨[.int .i64 x.f0],[.int .i64 x.f1],rfl,rfl,rfl⟩
def rd_T45 (xs:List S45) (i:Int):S45:=xs.getD i.toNat z45
theorem at_T45 {w:World} {A:Option Addr} {n:Nat} {xs:List S45} (h:Kd.C k45 w A n xs) (i:Int) (h0:0≤i) (h1:i < n) : ∃ ad ,A=some ad∧w.cell? (ad.add (i.toNat * 2))=some (.int .i64 (rd_T45 xs i).f0)∧w.cell? ⟨(ad.add (i.toNat * 2)).block,(ad.add (i.toNat * 2)).off+1,none⟩=some (.int .i64 (rd_T45 xs i).f1):=by
  obtain⟨ad,c,e,_,hK,hc0⟩:=Kd.C_get h z45 i h0 h1
  have hc : ∀ j u,c[j]? = some u→w.cell? (ad.add (i.toNat * 2+j))=some u:=hc0
  obtain rfl:=k45_open hK
  exact⟨ad,e,hc 0 _ rfl,by rw[← add_field _ _ 1 (by omega)];exact hc 1 _ rfl⟩

structure S57 where
  f0:ByteArray
  f1:ByteArray
def z57:S57:=⟨(⟨#[]⟩:ByteArray),(⟨#[]⟩:ByteArray)⟩
def k57:Kd S57:=Kd.iso (Kd.pair Kd.string Kd.string) (fun x:S57=>(x.f0,x.f1))
theorem k57_open {w:World} {x:S57} {cs:List Value} (h:k57.K w x cs):cs=[.string x.f0, .string x.f1]:=by
  obtain⟨_,_,rfl,rfl,rfl⟩:=h
  exact rfl
theorem k57_mkM (w:World) (base:Nat) (ok:Nat→Prop) (x:S57)  : k57.M w base ok x [.string x.f0, .string x.f1]:=⟨[.string x.f0],[.string x.f1],rfl,rfl,rfl⟩
def rd_T57 (xs:List S57) (i:Int):S57:=xs.getD i.toNat z57
theorem at_T57 {w:World} {A:Option Addr} {n:Nat} {xs:List S57} (h:Kd.C k57 w A n xs) (i:Int) (h0:0≤i) (h1:i < n) : ∃ ad ,A=some ad∧w.cell? (ad.add (i.toNat * 2))=some (.string (rd_T57 xs i).f0)∧w.cell? ⟨(ad.add (i.toNat * 2)).block,(ad.add (i.toNat * 2)).off+1,none⟩=some (.string (rd_T57 xs i).f1):=by
  obtain⟨ad,c,e,_,hK,hc0⟩:=Kd.C_get h z57 i h0 h1
  have hc : ∀ j u,c[j]? = some u→w.cell? (ad.add (i.toNat * 2+j))=some u:=hc0
  obtain rfl:=k57_open hK
  exact⟨ad,e,hc 0 _ rfl,by rw[← add_field _ _ 1 (by omega)];exact hc 1 _ rfl⟩

structure S48 where
  f0:(List S45)
  f1:S45
  f2:(List S57)
def z48:S48:=⟨([]:List S45),z45,([]:List S57)⟩
def k48:Kd S48:=Kd.iso (Kd.pair (Kd.slice 45 k45) (Kd.pair k45 (Kd.slice 57 k57))) (fun x:S48=>(x.f0,x.f1,x.f2))
theorem k48_open {w:World} {x:S48} {cs:List Value} (h:k48.K w x cs) : ∃ A0 c0 A3 c3,cs=[.slice A0 x.f0.length c0, .int .i64 x.f1.f0, .int .i64 x.f1.f1, .slice A3 x.f2.length c3]∧x.f0.length≤c0∧k45.C w A0 x.f0.length x.f0∧x.f2.length≤c3∧k57.C w A3 x.f2.length x.f2:=by
  obtain⟨_,_,rfl,⟨A0,c0,rfl,l0,g0⟩,⟨_,_,rfl,s1,⟨A3,c3,rfl,l3,g3⟩⟩⟩:=h
  obtain rfl:=k45_open s1
  exact⟨A0,c0,A3,c3,rfl,l0,g0,l3,g3⟩
theorem k48_mk (w:World) (x:S48) {A0:Option Addr} {c0:Nat} (l0:x.f0.length≤c0) (g0:k45.C w A0 x.f0.length x.f0) {A3:Option Addr} {c3:Nat} (l3:x.f2.length≤c3) (g3:k57.C w A3 x.f2.length x.f2):k48.K w x [.slice A0 x.f0.length c0, .int .i64 x.f1.f0, .int .i64 x.f1.f1, .slice A3 x.f2.length c3]:=⟨[.slice A0 x.f0.length c0],[.int .i64 x.f1.f0, .int .i64 x.f1.f1, .slice A3 x.f2.length c3],rfl,⟨A0,c0,rfl,l0,g0⟩,⟨[.int .i64 x.f1.f0, .int .i64 x.f1.f1],[.slice A3 x.f2.length c3],rfl,(k45_mk w x.f1 ),⟨A3,c3,rfl,l3,g3⟩⟩⟩
theorem k48_mkF (W:World) (ok:Nat→Prop) (x:S48) {A0:Option Addr} {c0:Nat} (l0:x.f0.length≤c0) (g0:Kd.F k45 W ok A0 x.f0.length x.f0) {A3:Option Addr} {c3:Nat} (l3:x.f2.length≤c3) (g3:Kd.F k57 W ok A3 x.f2.length x.f2):Kd.FK k48 W ok x [.slice A0 x.f0.length c0, .int .i64 x.f1.f0, .int .i64 x.f1.f1, .slice A3 x.f2.length c3]:=fun W2 hW=>k48_mk W2 x l0 (g0 W2 hW) l3 (g3 W2 hW)
def rd_T48 (xs:List S48) (i:Int):S48:=xs.getD i.toNat z48
theorem at_T48 {w:World} {A:Option Addr} {n:Nat} {xs:List S48} (h:Kd.C k48 w A n xs) (i:Int) (h0:0≤i) (h1:i < n) : ∃ ad A0 c0 A3 c3,A=some ad∧w.cell? (ad.add (i.toNat * 4))=some (.slice A0 (rd_T48 xs i).f0.length c0)∧w.cell? ⟨(ad.add (i.toNat * 4)).block,(ad.add (i.toNat * 4)).off+1,none⟩=some (.int .i64 (rd_T48 xs i).f1.f0)∧w.cell? ⟨(ad.add (i.toNat * 4)).block,(ad.add (i.toNat * 4)).off+2,none⟩=some (.int .i64 (rd_T48 xs i).f1.f1)∧w.cell? ⟨(ad.add (i.toNat * 4)).block,(ad.add (i.toNat * 4)).off+3,none⟩=some (.slice A3 (rd_T48 xs i).f2.length c3)∧(rd_T48 xs i).f0.length≤c0∧k45.C w A0 (rd_T48 xs i).f0.length (rd_T48 xs i).f0∧(rd_T48 xs i).f2.length≤c3∧k57.C w A3 (rd_T48 xs i).f2.length (rd_T48 xs i).f2:=by
  obtain⟨ad,c,e,_,hK,hc0⟩:=Kd.C_get h z48 i h0 h1
  have hc : ∀ j u,c[j]? = some u→w.cell? (ad.add (i.toNat * 4+j))=some u:=hc0
  obtain⟨A0,c0,A3,c3,rfl,l0,g0,l3,g3⟩:=k48_open hK
  exact⟨ad,A0,c0,A3,c3,e,hc 0 _ rfl,by rw[← add_field _ _ 1 (by omega)];exact hc 1 _ rfl,by rw[← add_field _ _ 2 (by omega)];exact hc 2 _ rfl,by rw[← add_field _ _ 3 (by omega)];exact hc 3 _ rfl,l0,g0,l3,g3⟩

def rd_L8 (xs:List (List ByteArray)) (i:Int):(List ByteArray):=xs.getD i.toNat ([]:List ByteArray)
theorem at_L8 {w:World} {A:Option Addr} {n:Nat} {xs:List (List ByteArray)} (h:Kd.C (Kd.slice 9 Kd.string) w A n xs) (i:Int) (h0:0≤i) (h1:i < n) : ∃ ad A0 c0,A=some ad∧w.cell? (ad.add i.toNat)=some (.slice A0 (rd_L8 xs i).length c0)∧(rd_L8 xs i).length≤c0∧Kd.string.C w A0 (rd_L8 xs i).length (rd_L8 xs i):=by
  obtain⟨ad,c,e,_,hK,hc0⟩:=Kd.C_get h ([]:List ByteArray) i h0 h1
  have hc : ∀ j u,c[j]? = some u→w.cell? (ad.add (i.toNat * 1+j))=some u:=hc0
  obtain⟨A0,c0,rfl,l0,g0⟩:=hK
  exact⟨ad,A0,c0,e,by have hq:=hc 0 _ rfl;rwa [Nat.mul_one,Nat.add_zero] at hq,l0,g0⟩

def rd_L13 (xs:List (List Int)) (i:Int):(List Int):=xs.getD i.toNat ([]:List Int)
theorem at_L13 {w:World} {A:Option Addr} {n:Nat} {xs:List (List Int)} (h:Kd.C (Kd.slice 3 (Kd.int .i64)) w A n xs) (i:Int) (h0:0≤i) (h1:i < n) : ∃ ad A0 c0,A=some ad∧w.cell? (ad.add i.toNat)=some (.slice A0 (rd_L13 xs i).length c0)∧(rd_L13 xs i).length≤c0∧(Kd.int .i64).C w A0 (rd_L13 xs i).length (rd_L13 xs i):=by
  obtain⟨ad,c,e,_,hK,hc0⟩:=Kd.C_get h ([]:List Int) i h0 h1
  have hc : ∀ j u,c[j]? = some u→w.cell? (ad.add (i.toNat * 1+j))=some u:=hc0
  obtain⟨A0,c0,rfl,l0,g0⟩:=hK
  exact⟨ad,A0,c0,e,by have hq:=hc 0 _ rfl;rwa [Nat.mul_one,Nat.add_zero] at hq,l0,g0⟩

theorem eqA45 (d:Nat) (w:World) (x0 y0:Int) (x1 y1:Int) :
    (Op.equalIn (d+2) 45 (.agg #[.int .i64 x0, .int .i64 x1]) (.agg #[.int .i64 y0, .int .i64 y1])).run Tryd.prog w = .ok (x0 == y0 && (x1 == y1)) w:=by
  refine eqA_of Tryd.underlying45 (by kernel_rfl) ?_
  refine eqf_cons (by rfl) (by go_simp;rfl) (by go_simp;rfl) (by go_simp) ?_
  exact eqf_last (by rfl) (by go_simp;rfl) (by go_simp;rfl) (by go_simp)
theorem eqA57 (d:Nat) (w:World) (x0 y0:ByteArray) (x1 y1:ByteArray) :
    (Op.equalIn (d+2) 57 (.agg #[.string x0, .string x1]) (.agg #[.string y0, .string y1])).run Tryd.prog w = .ok (x0.toList == y0.toList && (x1.toList == y1.toList)) w:=by
  refine eqA_of Tryd.underlying57 (by kernel_rfl) ?_
  refine eqf_cons (by rfl) (by go_simp;rfl) (by go_simp;rfl) (by go_simp) ?_
  exact eqf_last (by rfl) (by go_simp;rfl) (by go_simp;rfl) (by go_simp)
end Go.Proofs.YthcnfflhejogfaaDoor.X
namespace Go.Proofs.YthcnfflhejogfaaDoor.X
open Go.RowKit YthcnfflhejogfaaDoorW.PrintWords
theorem cellD {w w1:World} {n:Nat} {a:Addr} {v:Option Value} (h:w.drewN n=w1) (hc:w.cell? a=v):w1.cell? a=v:=by
  rw[← h,← hc];simp
theorem frozenD {w w1:World} {n:Nat} {a:Addr} {v:Bool} (h:w.drewN n=w1) (hc:w.frozen? a=v):w1.frozen? a=v:=by
  rw[← h,← hc];simp
section
variable {P:Program} {ops:Array Oper} {rest:List Oper} {o:Oper} {a:Act} {Q:Exit→Act→World→Prop} {W:World}
end
theorem cell_blk {W:World} {g j:Nat} {cs:Array Value} {t:TypeId} {v:Value} (h:W.heap[g]? = some (.cells cs t (0,0))) (hj:cs[j]? = some v):W.cell? ⟨g,j,none⟩=some v:=by
  rw[cell_of_row W g j cs t (0,0) h,hj]
theorem heap_set_same {W:World} {g j:Nat} {cs:Array Value} {t:TypeId} {fr:Nat × Nat} (h:W.heap[g]? = some (.cells cs t fr)) (v:Value):(W.setCell ⟨g,j,none⟩ v).heap[g]? = some (.cells (cs.setIfInBounds j v) t fr):=by
  have hlt:g < W.heap.size:=(Array.getElem?_eq_some_iff.1 h).1
  rw[Array.getElem?_eq_getElem hlt] at h
  injection h with h
  simp[World.setCell,hlt,Array.getElem_modify,h]
theorem heap_set_other {W:World} {g g' j:Nat} (hne:g'≠g) (v:Value):(W.setCell ⟨g,j,none⟩ v).heap[g']? = W.heap[g']? := Below.heap_setCell W ⟨g,j,none⟩ v g' hne
theorem cell_alloc_of {w:World} {a:Addr} {v:Value} (h:w.cell? a=some v) (o:Obj):(w.alloc o).cell? a=some v :=
  (World.cell?_alloc_lt _ _ _ (World.block_lt_of_cell? w a h)).trans h
end Go.Proofs.YthcnfflhejogfaaDoor.X
namespace Go.Proofs.YthcnfflhejogfaaDoor.X
open Go.RowKit YthcnfflhejogfaaDoorW.PrintWords YthcnfflhejogfaaDoorW.PrintLast YthcnfflhejogfaaDoorW.PrintMore
theorem C_blk {α:Type} {d:Kd α} {W:World} {g:Nat} {t:TypeId} {fr:Nat × Nat} {xs:List α} {inner:List Value} (h:W.heap[g]? = some (.cells inner.toArray t fr)) (hr:Reps (d.K W) d.sz xs inner) (hl:xs.length≤9223372036854775807):d.C W (some ⟨g,0,none⟩) xs.length xs:=by
 refine⟨rfl,hl,fun _=>⟨_,rfl,fun j p hj=>⟨_,?_,hr.2 j p hj,fun i u hu=>?_⟩⟩⟩;(· have hjl:=(List.getElem?_eq_some_iff.1 hj).1;(have h1:j * d.sz+d.sz≤inner.length:=by rw[hr.1,← Nat.succ_mul];exact Nat.mul_le_mul_right _ hjl);(rw[List.length_take,List.length_drop];omega))
 ·
  have hil:=(List.getElem?_eq_some_iff.1 hu).1;(rw[List.length_take] at hil);(rw[List.getElem?_take_of_lt (by omega),List.getElem?_drop] at hu);(have:W.cell? ⟨g,j * d.sz+i,none⟩=some u:=by rw[cell_of_row W g _ _ t fr h];simpa using hu);obtain⟨q,hq⟩ : ∃ q,j * d.sz+i=q:=⟨_,rfl⟩;(rw[hq] at this ⊢)
  by_cases e:q=0
  (· (subst e;simpa [Addr.add] using this));(· simpa [Addr.add,e] using this)
theorem far_ {W w w':World} (h:Below W.heap.size W w) (hb:Below w.heap.size w w'):Below W.heap.size W w':=h.trans (hb.mono h.size)
theorem at_slice {α:Type} {e:Nat} {d:Kd α} {w:World} {A:Option Addr} {n:Nat} {xs:List (List α)} (h:(Kd.slice e d).C w A n xs) (i:Nat) (hi:i < n) :
    ∃ ad A0 c0,A=some ad∧w.cell? (ad.add i)=some (.slice A0 (xs.getD i []).length c0)∧(xs.getD i []).length≤c0∧d.C w A0 (xs.getD i []).length (xs.getD i []):=by
 obtain⟨ad,c,e1,_,⟨A0,c0,e2,e3,e4⟩,e5⟩:=ReadsRow.get_ h [] (i:Int) (by omega) (by omega);(rw[Int.toNat_natCast] at e2 e3 e4 e5);subst e2;have:=e5 0 _ rfl;(rw[show i * (Kd.slice e d).sz+0=i from by rw[show (Kd.slice e d).sz=1 from rfl];omega] at this);exact⟨ad,A0,c0,e1,this,e3,e4⟩
theorem getD_get {α:Type} {d:α} {l:List α} {i:Nat} (h:i < l.length):l.getD i d=l[i]:=by simp[h]
theorem dt_ {p:Prop} [Decidable p] (h:decide p=true:=by first|(with_reducible assumption)|assumption):p:=of_decide_eq_true h
theorem bel_ {p:Prop} (h:p:=by repeat(first|(with_reducible first|exact HB.out|apply below_alloc|apply pw_below_drewN|apply below_drew1)|exact HB.out)):p:=h
theorem pR_ {p q:Prop} (h:p) (hq:p→q:=by(intro h;(with_reducible repeat(first|apply Kd.R_alloc|apply Kd.R_drewN|apply Kd.R_drew));exact h)):q:=hq h
theorem pK_ {p q:Prop} (h:p) (hq:p→q:=by(intro h;(with_reducible repeat(first|refine blk_drewN ?_ _|refine blk_drew ?_|refine blk_alloc ?_ _));exact h)):q:=hq h
theorem rs_ {p:Prop} (h:p:=by first|rfl|(simp;done)|(simp[*];done)):p:=h
theorem d0_ {p:Prop} (h:p:=by repeat(first|exact Drawn0.refl _|apply Drawn0.step)):p:=h
def bl_:Nat→Nat→List Bool
  | 0,_=>[]
  | n+1,b=>(b % 2 == 1) :: bl_ n (b / 2)
def bm_ (n b:Nat):Array Bool:=⟨bl_ n b⟩
theorem nx_ {p q:Prop} [Decidable p] {α:Type} {a:Option α} {r:α} (c : ¬p) (h:(if p then a else none)=some r):q:=by
  rw[if_neg c] at h
  cases h
theorem bs1_ {p q:Prop} (hg:q) (h:q→p:=by(intro GE_;repeat(first|(with_reducible first|exact HB.out|apply below_alloc|apply pw_below_drewN|apply below_drew1|refine below_set ?_ GE_)|exact HB.out))):p:=h hg
theorem bs2_ {p q r:Prop} (hg:q) (hg2:r) (h:q→r→p:=by(intro GE_ GF_;repeat(first|(with_reducible first|exact HB.out|apply below_alloc|apply pw_below_drewN|apply below_drew1|refine below_set ?_ GE_|refine below_set ?_ GF_)|exact HB.out))):p:=h hg hg2
section
variable {α:Type} {d:Kd α} {e:TypeId} {W W':World} {B:Nat} {ok:Nat→Prop} {v:Value} {xs:List α}
theorem pV_ (h:Kd.V d e W B ok v xs) (hq:Kd.V d e W B ok v xs→Kd.V d e W' B ok v xs:=by(intro h;(with_reducible repeat(first|apply Kd.V_alloc|apply Kd.V_drewN|apply Kd.V_drew));exact h)):Kd.V d e W' B ok v xs:=hq h
theorem pN_ (h:Kd.N d e W B ok v xs) (hq:Kd.N d e W B ok v xs→Kd.N d e W' B ok v xs:=by(intro h;(with_reducible repeat(first|apply Kd.N_alloc|apply Kd.N_drewN|apply Kd.N_drew));exact h)):Kd.N d e W' B ok v xs:=hq h
theorem pS_ (h:Kd.S d e W B ok v xs) (hq:Kd.S d e W B ok v xs→Kd.S d e W' B ok v xs:=by(intro h;(with_reducible repeat(first|apply Kd.S_alloc|apply Kd.S_drewN|apply Kd.S_drew));exact h)):Kd.S d e W' B ok v xs:=hq h
theorem pRm_ (h:Kd.R d e W B ok v xs) (hq:Kd.R d e W B ok v xs→Kd.R d e W' B ok v xs:=by(intro h;(with_reducible repeat(first|apply Kd.R_alloc|apply Kd.R_drewN|apply Kd.R_drew));exact h)):Kd.R d e W' B ok v xs:=hq h
end
theorem pC_ {p q:Prop} (h:p) (hq:p→q:=by(intro h;repeat(first|exact h|(with_reducible refine Kd.C_alloc ?_ _)|(with_reducible refine Kd.C_drewN ?_ _)|(with_reducible refine Kd.C_drew ?_)))):q:=hq h
theorem nb_ {p q:Prop} (h:p) (hq:p→q:=by(intro h;first|exact h|exact Kd.S_N h)):q:=hq h
theorem am_ {p:Prop} (h:p:=by((try simp only[List.map_toArray,List.map_cons,List.map_nil]);first|done|rfl|(simp only[List.length_drop,List.length_take];rfl))):p:=h
theorem ew_ {p:Prop} (h:p:=by first|rfl|(simp[errW_none,errW_some] <;> rfl)|(simp[*,errW_none,errW_some] <;> rfl)):p:=h
section
variable {P:Program} {md:Region.Mode} {ops:Array Oper} {Q:Exit→Act→World→Prop} {S:World→Prop} {ds:List Nat}
theorem pq_ {i:Nat} {N:Option Tmp} {oi:Oper} {v:Value} {fuel:Nat} {l:Array Bool} {a:Act} {w:World} (l':Array Bool) {a':Act} (h:wpAnyLast P md ops Q S ds fuel l' a' w) (hi:ops[i]? = some oi:=by rfl) (hN:oi.dst=N:=by rfl) (hc:anyB md ops l l' i=true:=by kernel_rfl)
    (hQ : ∀ c a w,Q (.panic c) (a.put oi.dst v) w→Q (.panic c) a w:=by exact fun _ _ _ h=>h) (hy:Yields P ops oi v a:=by exact Or.inl ⟨by rfl,by(intro w';go_simp;with_reducible rfl)⟩) (ha:a.put N v=a':=by(simp only[Act.put,List.setIfInBounds_toArray,List.set_cons_zero,List.set_cons_succ,i64_w,i32_w];rfl)):wpAnyLast P md ops Q S ds (fuel+1) l a w:=pure_ l' hi hN hc hQ hy ha h
theorem pu_ {i:Nat} {N:Option Tmp} {oi:Oper} {fuel:Nat} {l:Array Bool} {a:Act} {w:World} (l':Array Bool) {a':Act} (h:wpAnyLast P md ops Q S ds fuel l' a' w) (hi:ops[i]? = some oi:=by rfl) (hN:oi.dst=N:=by rfl) (hc:anyB md ops l l' i=true:=by kernel_rfl)
    (hQ : ∀ c a w,Q (.panic c) (a.put oi.dst undef) w→Q (.panic c) a w:=by exact fun _ _ _ h=>h) (hy:Yields P ops oi undef a:=by exact Or.inr ⟨by rfl,rfl⟩) (ha:a.put N undef=a':=by(simp only[Act.put,List.setIfInBounds_toArray,List.set_cons_zero,List.set_cons_succ,i64_w,i32_w];rfl)):wpAnyLast P md ops Q S ds (fuel+1) l a w:=pure_ l' hi hN hc hQ hy ha h
theorem tq_ {i:Nat} {N:Option Tmp} {oi:Oper} {v:Value} {fuel:Nat} {l:Array Bool} {a:Act} {w:World} (l':Array Bool) {a':Act} (hS:S w) (h:wpAnyLast P md ops Q S ds fuel l' a' w) (hi:ops[i]? = some oi:=by rfl) (hN:oi.dst=N:=by rfl) (hc:takeB md ops ds l l' i=true:=by kernel_rfl)
    (hQ : ∀ c a w,Q (.panic c) (a.put oi.dst v) w→Q (.panic c) a w:=by exact fun _ _ _ h=>h) (hy:YieldsIf P ops S oi v a:=by exact Or.inl ⟨by rfl,by(intro w' s;(repeat(obtain⟨_,s⟩:=s));go_simp;with_reducible rfl)⟩) (ha:a.put N v=a':=by(simp only[Act.put,List.setIfInBounds_toArray,List.set_cons_zero,List.set_cons_succ,i64_w,i32_w];rfl)):wpAnyLast P md ops Q S ds (fuel+1) l a w:=take_ l' hi hN hc hQ hy hS ha h
theorem nq_ {fuel:Nat} {l:Array Bool} {a a':Act} {w:World} {N:Option Tmp} {v:Value} (h:wpAnyLast P md ops Q S ds fuel l a' w) (ha:a.put N v=a':=by(show Act.put _ _ _=_;simp only[Act.put,List.setIfInBounds_toArray,List.set_cons_zero,List.set_cons_succ,i64_w,i32_w];rfl)):wpAnyLast P md ops Q S ds fuel l (a.put N v) w:=norm_ ha h
end
end Go.Proofs.YthcnfflhejogfaaDoor.X
namespace Go.Proofs.YthcnfflhejogfaaDoor.X
open Go.RowKit YthcnfflhejogfaaDoorW.PrintWords YthcnfflhejogfaaDoorW.PrintLast YthcnfflhejogfaaDoorW.PrintMore
attribute [local go_sem] max2_int min2_int max_two min_two max_three min_three max_four min_four
def slices_Equal_string_string.l0:Nat→List ByteArray→List ByteArray→Int→Int→Option (Bool)
  | 0,_,_,_,_=>none
  | k+1,x0,x1,x12,x13=>if x13 < x12 then (if 0≤x13 then (if x13 < (x0.length:Int) then (if x13 < (x1.length:Int) then (if (rdOf ByteArray.empty x0 x13).toList=(rdOf ByteArray.empty x1 x13).toList then (slices_Equal_string_string.l0 k x0 x1 x12 (wrap64 (x13+1))) else (some false)) else (none)) else (none)) else (none)) else (some true)
def slices_Equal_string_string.f (k:Nat) (l0:List ByteArray) (l1:List ByteArray):Option (Bool):=if (l0.length:Int)=(l1.length:Int) then (slices_Equal_string_string.l0 k l0 l1 (l0.length:Int) 0) else (some false)
theorem slices_Equal_string_string.calls (k:Nat) (A0:Option Addr) (c0:Nat) (l0:List ByteArray) (A1:Option Addr) (c1:Nat) (l1:List ByteArray) (r:Bool) (w:World) (hr0:Kd.C Kd.string w A0 l0.length l0) (hc0:l0.length≤c0) (hr1:Kd.C Kd.string w A1 l1.length l1) (hc1:l1.length≤c1) (h:slices_Equal_string_string.f k l0 l1=some r) :
    Calls Tryd.prog 96 #[.slice A0 l0.length c0, .slice A1 l1.length c1] w fun e w'=>e = .returned (.bool r)∧Drawn0 w w':=by
 have HR0:=Aside0.mk hr0;have HC0:=Aside0.mk hc0;clear hr0 hc0;have HR1:=Aside0.mk hr1;have HC1:=Aside0.mk hc1;clear hr1 hc1;have H:=h;(rw[slices_Equal_string_string.f] at H);clear h
 by_cases c3:(l0.length:Int)=(l1.length:Int)
 ·
  (rw[if_pos c3] at H);have c3b0:((l0.length:Int) == (l1.length:Int))=true:=beq_iff_eq.mpr c3;have c3b1:((l0.length:Int) != (l1.length:Int))=false:=bne_eq_false_iff_eq.mpr c3;(have c3b2:(l0.length == l1.length)=true:=by first|simpa using c3|(simp at c3 ⊢;omega));clear c3;have H':=Aside0.mk H;clear H;go_enter Tryd.func96,Tryd.ntmps96;go_wp2;(repeat(go_quiet (fail);try go_wp2))
  go_loopg [13] k (fun kq v13 w' => ∃ (x13_1:Int),v13 = .int .i64 x13_1∧Aside0 (slices_Equal_string_string.l0 kq l0 l1 (l0.length:Int) x13_1=some r)∧Aside0 (kq≤k)∧Drawn0 w w')
  (case atStart=>exact⟨(0),rs_,H',⟨Nat.le_refl _⟩,d0_⟩)
  case round =>
   clear H';(try clear c1);(try clear p2);(try clear c3);(try clear c3b0);(try clear c3b1);(try clear c3b2);obtain⟨x13_1,rfl,HA,HK1,⟨m1,rfl⟩⟩:=hrel
   cases gk with
   | zero=>exact absurd HA.out (by simp[slices_Equal_string_string.l0])
   | succ k1 =>
    have H:=HA.out;clear HA;(simp only[slices_Equal_string_string.l0] at H)
    by_cases c4:x13_1 < (l0.length:Int)
    ·
     (rw[if_pos c4] at H);have c4b0:decide (x13_1 < (l0.length:Int))=true:=decide_eq_true c4;clear c4
     by_cases c5:0≤x13_1
     ·
      (rw[if_pos c5] at H);have c5b0:decide (0≤x13_1)=true:=decide_eq_true c5;clear c5
      by_cases c6:x13_1 < (l0.length:Int)
      ·
       (rw[if_pos c6] at H);have c6b0:decide (x13_1 < (l0.length:Int))=true:=decide_eq_true c6;clear c6
       by_cases c7:x13_1 < (l1.length:Int)
       ·
        (rw[if_pos c7] at H);have c7b0:decide (x13_1 < (l1.length:Int))=true:=decide_eq_true c7;clear c7
        by_cases c8:(rdOf ByteArray.empty l0 x13_1).toList=(rdOf ByteArray.empty l1 x13_1).toList
        ·
         (rw[if_pos c8] at H);have c8b0:((rdOf ByteArray.empty l0 x13_1).toList == (rdOf ByteArray.empty l1 x13_1).toList)=true:=beq_iff_eq.mpr c8;have c8b1:((rdOf ByteArray.empty l0 x13_1).toList != (rdOf ByteArray.empty l1 x13_1).toList)=false:=bne_eq_false_iff_eq.mpr c8;clear c8;have H':=Aside0.mk H;clear H;have p101:0≤(x13_1:Int):=dt_;have q101:x13_1 < (l0.length:Int):=dt_;obtain⟨ad101,e101,hx101_0⟩:=Kd.at_string HR0.out x13_1 p101 q101;cases e101;replace p101:=eq_true p101;replace q101:=eq_true q101;have p102:0≤(x13_1:Int):=dt_;have q102:x13_1 < (l1.length:Int):=dt_;obtain⟨ad102,e102,hx102_0⟩:=Kd.at_string HR1.out x13_1 p102 q102;cases e102;replace p102:=eq_true p102;replace q102:=eq_true q102;go_wp2;(repeat(go_quiet (fail);try go_wp2))
         go_roundg k1
         (case measure=>have:=HK1.out;omega);(case rel=>exact⟨(wrap64 (x13_1+1)),rs_,H',⟨by have:=HK1.out;omega⟩,d0_⟩)
        (· (rw[if_neg c8] at H);have c8b0:((rdOf ByteArray.empty l0 x13_1).toList == (rdOf ByteArray.empty l1 x13_1).toList)=false:=beq_eq_false_iff_ne.mpr c8;have c8b1:((rdOf ByteArray.empty l0 x13_1).toList != (rdOf ByteArray.empty l1 x13_1).toList)=true:=bne_iff_ne.mpr c8;obtain rfl:=Option.some.inj H;have p101:0≤(x13_1:Int):=dt_;have q101:x13_1 < (l0.length:Int):=dt_;obtain⟨ad101,e101,hx101_0⟩:=Kd.at_string HR0.out x13_1 p101 q101;cases e101;replace p101:=eq_true p101;replace q101:=eq_true q101;have p102:0≤(x13_1:Int):=dt_;have q102:x13_1 < (l1.length:Int):=dt_;obtain⟨ad102,e102,hx102_0⟩:=Kd.at_string HR1.out x13_1 p102 q102;cases e102;replace p102:=eq_true p102;replace q102:=eq_true q102;go_wp2;(repeat(go_quiet (fail);try go_wp2));go_ret;exact⟨by first|rfl|(simp;done)|(simp[*];done),d0_⟩)
       (· exact nx_ c7 H)
      (· exact nx_ c6 H)
     (· exact nx_ c5 H)
    (· (rw[if_neg c4] at H);have c4b0:decide (x13_1 < (l0.length:Int))=false:=decide_eq_false c4;clear c4;obtain rfl:=Option.some.inj H;go_wp2;(repeat(go_quiet (fail);try go_wp2));go_ret;exact⟨by first|rfl|(simp;done)|(simp[*];done),d0_⟩)
 (· (rw[if_neg c3] at H);have c3b0:((l0.length:Int) == (l1.length:Int))=false:=beq_eq_false_iff_ne.mpr c3;have c3b1:((l0.length:Int) != (l1.length:Int))=true:=bne_iff_ne.mpr c3;(have c3b2:(l0.length == l1.length)=false:=by first|simpa using c3|(simp at c3 ⊢;omega));obtain rfl:=Option.some.inj H;go_enter Tryd.func96,Tryd.ntmps96;go_wp2;(repeat(go_quiet (fail);try go_wp2));go_ret;exact⟨by first|rfl|(simp;done)|(simp[*];done),d0_⟩)
def sennitref01_feeds.l0:Nat→ByteArray→Int→Int→Option (Int)
  | 0,_,_,_=>none
  | k+1,x0,x3,x4=>if x4 < (x0.size:Int) then (if 0≤x4 then (if (bt x0 x4)=10 then (sennitref01_feeds.l0 k x0 (wrap64 (x3+1)) (wrap64 (x4+1))) else (sennitref01_feeds.l0 k x0 x3 (wrap64 (x4+1)))) else (none)) else (some x3)
def sennitref01_feeds.f (k:Nat) (a0:ByteArray):Option (Int):=sennitref01_feeds.l0 k a0 0 0
theorem sennitref01_feeds.calls (k:Nat) (a0:ByteArray) (r:Int) (w:World) (h:sennitref01_feeds.f k a0=some r) :
    Calls Tryd.prog 51 #[.string a0] w fun e w'=>e = .returned (.int .i64 r)∧Drawn0 w w':=by
 have H:=h;(rw[sennitref01_feeds.f] at H);clear h;have H':=Aside0.mk H;clear H;go_enter Tryd.func51,Tryd.ntmps51;go_wp2
 go_loopg [3,4] k (fun kq v3 v4 w' => ∃ (x3_1:Int) (x4_1:Int),v3 = .int .i64 x3_1∧v4 = .int .i64 x4_1∧Aside0 (sennitref01_feeds.l0 kq a0 x3_1 x4_1=some r)∧Aside0 (kq≤k)∧Drawn0 w w')
 (case atStart=>exact⟨(0),(0),rs_,rs_,H',⟨Nat.le_refl _⟩,d0_⟩)
 case round =>
  clear H';obtain⟨x3_1,x4_1,rfl,rfl,HA,HK1,⟨m1,rfl⟩⟩:=hrel
  cases gk with
  | zero=>exact absurd HA.out (by simp[sennitref01_feeds.l0])
  | succ k1 =>
   have H:=HA.out;clear HA;(simp only[sennitref01_feeds.l0] at H)
   by_cases c2:x4_1 < (a0.size:Int)
   ·
    (rw[if_pos c2] at H);have c2b0:decide (x4_1 < (a0.size:Int))=true:=decide_eq_true c2;clear c2
    by_cases c3:0≤x4_1
    ·
     (rw[if_pos c3] at H);have c3b0:decide (0≤x4_1)=true:=decide_eq_true c3;clear c3
     by_cases c5:(bt a0 x4_1)=10
     ·
      (rw[if_pos c5] at H);have c5b0:((bt a0 x4_1) == 10)=true:=beq_iff_eq.mpr c5;have c5b1:((bt a0 x4_1) != 10)=false:=bne_eq_false_iff_eq.mpr c5;clear c5;have H':=Aside0.mk H;clear H;have p4:0≤(x4_1:Int):=dt_;have q4:x4_1 < (a0.size:Int):=dt_;have hx4:=bt_at a0 x4_1;replace p4:=eq_true p4;replace q4:=eq_true q4;go_wp2
      go_roundg k1
      (case measure=>have:=HK1.out;omega);(case rel=>exact⟨(wrap64 (x3_1+1)),(wrap64 (x4_1+1)),rs_,rs_,H',⟨by have:=HK1.out;omega⟩,d0_⟩)
     ·
      (rw[if_neg c5] at H);have c5b0:((bt a0 x4_1) == 10)=false:=beq_eq_false_iff_ne.mpr c5;have c5b1:((bt a0 x4_1) != 10)=true:=bne_iff_ne.mpr c5;have H':=Aside0.mk H;clear H;have p4:0≤(x4_1:Int):=dt_;have q4:x4_1 < (a0.size:Int):=dt_;have hx4:=bt_at a0 x4_1;replace p4:=eq_true p4;replace q4:=eq_true q4;go_wp2
      go_roundg k1
      (case measure=>have:=HK1.out;omega);(case rel=>exact⟨(x3_1),(wrap64 (x4_1+1)),rs_,rs_,H',⟨by have:=HK1.out;omega⟩,d0_⟩)
    (· exact nx_ c3 H)
   (· (rw[if_neg c2] at H);have c2b0:decide (x4_1 < (a0.size:Int))=false:=decide_eq_false c2;clear c2;obtain rfl:=Option.some.inj H;go_wp2;go_ret;exact⟨by first|rfl|(simp;done)|(simp[*];done),d0_⟩)
def sennitref01_Line.f (k:Nat) (a0:ByteArray):Option (Bool):=(sennitref01_feeds.f k a0).bind fun t103=>(if t103=1 then (if 0≤(wrap64 ((a0.size:Int) - 1)) then (if (wrap64 ((a0.size:Int) - 1)) < (a0.size:Int) then (some ((bt a0 (wrap64 ((a0.size:Int) - 1))) == 10)) else (none)) else (none)) else (some false))
theorem sennitref01_Line.calls (k:Nat) (a0:ByteArray) (r:Bool) (w:World) (h:sennitref01_Line.f k a0=some r) :
    Calls Tryd.prog 52 #[.string a0] w fun e w'=>e = .returned (.bool r)∧Drawn0 w w':=by
 have H:=h;(rw[sennitref01_Line.f] at H);clear h;replace H:=Option.bind_eq_some_iff.mp H;obtain⟨t103,A20,H⟩:=H;(try dsimp only at H);have A2:=Aside0.mk A20;clear A20
 by_cases c3:t103=1
 ·
  (rw[if_pos c3] at H);have c3b0:(t103 == 1)=true:=beq_iff_eq.mpr c3;have c3b1:(t103 != 1)=false:=bne_eq_false_iff_eq.mpr c3;clear c3;obtain⟨ji4,hji4⟩ : ∃ j_:Int,(wrap64 ((a0.size:Int) - 1))=j_:=⟨_,rfl⟩;(first|rw[hji4] at H|simp only[hji4] at H);(try rw[hji4] at A2);have hji4w:(IntKind.i64.wrap ((a0.size:Int) - 1))=ji4:=(i64_w _).trans hji4
  by_cases c5:0≤(ji4)
  ·
   (rw[if_pos c5] at H);have c5b0:decide (0≤(ji4))=true:=decide_eq_true c5;clear c5
   by_cases c6:(ji4) < (a0.size:Int)
   (· (rw[if_pos c6] at H);have c6b0:decide ((ji4) < (a0.size:Int))=true:=decide_eq_true c6;clear c6;obtain rfl:=Option.some.inj H;go_enter Tryd.func52,Tryd.ntmps52;(go_wp2_with (first|((with_reducible refine gate_callee (f:=51) rfl ?_);refine goesL_ (some 4) rfl rfl Tryd.func51 (by kernel_rfl) rfl #[.string a0] rfl am_ ?_;(with_reducible refine(sennitref01_feeds.calls k a0 t103 _ A2.out).mono ?_);rintro e w' ⟨rfl,⟨nd,rfl⟩⟩;refine⟨_,rfl,?_⟩;have p7:0≤((ji4):Int):=dt_;have q7:(ji4) < (a0.size:Int):=dt_;have hx7:=bt_at a0 (ji4);replace p7:=eq_true p7;replace q7:=eq_true q7)));go_ret;exact⟨by first|rfl|(simp;done)|(simp only[← hji4] <;> (first|rfl|simp))|(simp[*];done),d0_⟩);(· exact nx_ c6 H)
  (· exact nx_ c5 H)
 (· (rw[if_neg c3] at H);have c3b0:(t103 == 1)=false:=beq_eq_false_iff_ne.mpr c3;have c3b1:(t103 != 1)=true:=bne_iff_ne.mpr c3;obtain rfl:=Option.some.inj H;go_enter Tryd.func52,Tryd.ntmps52;(go_wp2_with (first|((with_reducible refine gate_callee (f:=51) rfl ?_);refine goesL_ (some 4) rfl rfl Tryd.func51 (by kernel_rfl) rfl #[.string a0] rfl am_ ?_;(with_reducible refine(sennitref01_feeds.calls k a0 t103 _ A2.out).mono ?_);rintro e w' ⟨rfl,⟨nd,rfl⟩⟩;refine⟨_,rfl,?_⟩)));go_ret;exact⟨by first|rfl|(simp;done)|(simp[*];done),d0_⟩)
def sennitref01_May.l0:Nat→List ByteArray→Int→Option (Bool)
  | 0,_,_=>none
  | k+1,x0,x3=>if x3 < (x0.length:Int) then (if x3=(wrap64 ((x0.length:Int) - 1)) then (if 0≤x3 then (if ((rdOf ByteArray.empty x0 x3).size:Int) > 0 then ((sennitref01_feeds.f k (rdOf ByteArray.empty x0 x3)).bind fun t106=>(if t106=0 then (sennitref01_May.l0 k x0 (wrap64 (x3+1))) else ((sennitref01_Line.f k (rdOf ByteArray.empty x0 x3)).bind fun t108=>(if t108=true then (sennitref01_May.l0 k x0 (wrap64 (x3+1))) else (some false))))) else ((sennitref01_Line.f k (rdOf ByteArray.empty x0 x3)).bind fun t110=>(if t110=true then (sennitref01_May.l0 k x0 (wrap64 (x3+1))) else (some false)))) else (none)) else (if 0≤x3 then ((sennitref01_Line.f k (rdOf ByteArray.empty x0 x3)).bind fun t112=>(if t112=true then (sennitref01_May.l0 k x0 (wrap64 (x3+1))) else (some false))) else (none))) else (some true)
def sennitref01_May.f (k:Nat) (l0:List ByteArray):Option (Bool):=sennitref01_May.l0 k l0 0
theorem sennitref01_May.calls (k:Nat) (A0:Option Addr) (c0:Nat) (l0:List ByteArray) (r:Bool) (w:World) (hr0:Kd.C Kd.string w A0 l0.length l0) (hc0:l0.length≤c0) (h:sennitref01_May.f k l0=some r) :
    Calls Tryd.prog 25 #[.slice A0 l0.length c0] w fun e w'=>e = .returned (.bool r)∧Drawn0 w w':=by
 have HR0:=Aside0.mk hr0;have HC0:=Aside0.mk hc0;clear hr0 hc0;have H:=h;(rw[sennitref01_May.f] at H);clear h;have H':=Aside0.mk H;clear H;go_enter Tryd.func25,Tryd.ntmps25;go_wp2
 go_loopg [3] k (fun kq v3 w' => ∃ (x3_1:Int),v3 = .int .i64 x3_1∧Aside0 (sennitref01_May.l0 kq l0 x3_1=some r)∧Aside0 (kq≤k)∧Drawn0 w w')
 (case atStart=>exact⟨(0),rs_,H',⟨Nat.le_refl _⟩,d0_⟩)
 case round =>
  clear H';obtain⟨x3_1,rfl,HA,HK1,⟨m1,rfl⟩⟩:=hrel
  cases gk with
  | zero=>exact absurd HA.out (by simp[sennitref01_May.l0])
  | succ k1 =>
   have H:=HA.out;clear HA;(simp only[sennitref01_May.l0] at H)
   by_cases c2:x3_1 < (l0.length:Int)
   ·
    (rw[if_pos c2] at H);have c2b0:decide (x3_1 < (l0.length:Int))=true:=decide_eq_true c2;clear c2
    by_cases c3:x3_1=(wrap64 ((l0.length:Int) - 1))
    ·
     (rw[if_pos c3] at H);have c3b0:(x3_1 == (wrap64 ((l0.length:Int) - 1)))=true:=beq_iff_eq.mpr c3;have c3b1:(x3_1 != (wrap64 ((l0.length:Int) - 1)))=false:=bne_eq_false_iff_eq.mpr c3;clear c3
     by_cases c4:0≤x3_1
     ·
      (rw[if_pos c4] at H);have c4b0:decide (0≤x3_1)=true:=decide_eq_true c4;clear c4
      by_cases c5:((rdOf ByteArray.empty l0 x3_1).size:Int) > 0
      ·
       (rw[if_pos c5] at H);have c5b0:decide (0 < ((rdOf ByteArray.empty l0 x3_1).size:Int))=true:=decide_eq_true c5;have c5b1:decide (0 < (rdOf ByteArray.empty l0 x3_1).size)=true:=decide_eq_true (by omega);clear c5;replace H:=Option.bind_eq_some_iff.mp H;obtain⟨t106,A60,H⟩:=H;(try dsimp only at H);have A6:=Aside0.mk A60;clear A60
       by_cases c7:t106=0
       ·
        (rw[if_pos c7] at H);have c7b0:(t106 == 0)=true:=beq_iff_eq.mpr c7;have c7b1:(t106 != 0)=false:=bne_eq_false_iff_eq.mpr c7;clear c7;have H':=Aside0.mk H;clear H;have p104:0≤(x3_1:Int):=dt_;have q104:x3_1 < (l0.length:Int):=dt_;obtain⟨ad104,e104,hx104_0⟩:=Kd.at_string HR0.out x3_1 p104 q104;cases e104;replace p104:=eq_true p104;replace q104:=eq_true q104;have p105:0≤(x3_1:Int):=dt_;have q105:x3_1 < (l0.length:Int):=dt_;obtain⟨ad105,e105,hx105_0⟩:=Kd.at_string HR0.out x3_1 p105 q105;obtain rfl:ad104=ad105:=(by injection e105);replace p105:=eq_true p105;replace q105:=eq_true q105;(go_wp2_with (first|(go_at_call 51;(with_reducible refine(sennitref01_feeds.calls k1 (rdOf ByteArray.empty l0 x3_1) t106 _ A6.out).mono ?_);rintro e w' ⟨rfl,⟨nd,rfl⟩⟩)))
        go_roundg k1
        (case measure=>have:=HK1.out;omega);(case rel=>exact⟨(wrap64 (x3_1+1)),rs_,H',⟨by have:=HK1.out;omega⟩,d0_⟩)
       ·
        (rw[if_neg c7] at H);have c7b0:(t106 == 0)=false:=beq_eq_false_iff_ne.mpr c7;have c7b1:(t106 != 0)=true:=bne_iff_ne.mpr c7;replace H:=Option.bind_eq_some_iff.mp H;obtain⟨t108,A80,H⟩:=H;(try dsimp only at H);have A8:=Aside0.mk A80;clear A80
        by_cases c9:t108=true
        ·
         subst c9;have H1:=H;(rw[if_pos rfl] at H1);clear H;have H:=H1;clear H1;have H':=Aside0.mk H;clear H;have p104:0≤(x3_1:Int):=dt_;have q104:x3_1 < (l0.length:Int):=dt_;obtain⟨ad104,e104,hx104_0⟩:=Kd.at_string HR0.out x3_1 p104 q104;cases e104;replace p104:=eq_true p104;replace q104:=eq_true q104;have p105:0≤(x3_1:Int):=dt_;have q105:x3_1 < (l0.length:Int):=dt_;obtain⟨ad105,e105,hx105_0⟩:=Kd.at_string HR0.out x3_1 p105 q105;obtain rfl:ad104=ad105:=(by injection e105);replace p105:=eq_true p105;replace q105:=eq_true q105;(go_wp2_with (first|(go_at_call 51;(with_reducible refine(sennitref01_feeds.calls k1 (rdOf ByteArray.empty l0 x3_1) t106 _ A6.out).mono ?_);rintro e w' ⟨rfl,⟨nd,rfl⟩⟩;have p107:0≤(x3_1:Int):=dt_;have q107:x3_1 < (l0.length:Int):=dt_;obtain⟨ad107,e107,hx107_0⟩:=Kd.at_string HR0.out x3_1 p107 q107;obtain rfl:ad104=ad107:=(by injection e107);replace p107:=eq_true p107;replace q107:=eq_true q107)|(go_at_call 52;(with_reducible refine(sennitref01_Line.calls k1 (rdOf ByteArray.empty l0 x3_1) true _ A8.out).mono ?_);rintro e w' ⟨rfl,⟨nd,rfl⟩⟩)))
         go_roundg k1
         (case measure=>have:=HK1.out;omega);(case rel=>exact⟨(wrap64 (x3_1+1)),rs_,H',⟨by have:=HK1.out;omega⟩,d0_⟩)
        (· replace c9:=Bool.eq_false_iff.mpr c9;subst c9;have H1:=H;(rw[if_neg (show ¬ (false=true) by decide)] at H1);clear H;have H:=H1;clear H1;obtain rfl:=Option.some.inj H;have p104:0≤(x3_1:Int):=dt_;have q104:x3_1 < (l0.length:Int):=dt_;obtain⟨ad104,e104,hx104_0⟩:=Kd.at_string HR0.out x3_1 p104 q104;cases e104;replace p104:=eq_true p104;replace q104:=eq_true q104;have p105:0≤(x3_1:Int):=dt_;have q105:x3_1 < (l0.length:Int):=dt_;obtain⟨ad105,e105,hx105_0⟩:=Kd.at_string HR0.out x3_1 p105 q105;obtain rfl:ad104=ad105:=(by injection e105);replace p105:=eq_true p105;replace q105:=eq_true q105;(go_wp2_with (first|(go_at_call 51;(with_reducible refine(sennitref01_feeds.calls k1 (rdOf ByteArray.empty l0 x3_1) t106 _ A6.out).mono ?_);rintro e w' ⟨rfl,⟨nd,rfl⟩⟩;have p107:0≤(x3_1:Int):=dt_;have q107:x3_1 < (l0.length:Int):=dt_;obtain⟨ad107,e107,hx107_0⟩:=Kd.at_string HR0.out x3_1 p107 q107;obtain rfl:ad104=ad107:=(by injection e107);replace p107:=eq_true p107;replace q107:=eq_true q107)|(go_at_call 52;(with_reducible refine(sennitref01_Line.calls k1 (rdOf ByteArray.empty l0 x3_1) false _ A8.out).mono ?_);rintro e w' ⟨rfl,⟨nd,rfl⟩⟩)));go_ret;exact⟨by first|rfl|(simp;done)|(simp[*];done),d0_⟩)
      ·
       (rw[if_neg c5] at H);have c5b0:decide (0 < ((rdOf ByteArray.empty l0 x3_1).size:Int))=false:=decide_eq_false c5;have c5b1:decide (0 < (rdOf ByteArray.empty l0 x3_1).size)=false:=decide_eq_false (by omega);clear c5;replace H:=Option.bind_eq_some_iff.mp H;obtain⟨t110,A100,H⟩:=H;(try dsimp only at H);have A10:=Aside0.mk A100;clear A100
       by_cases c11:t110=true
       ·
        subst c11;have H1:=H;(rw[if_pos rfl] at H1);clear H;have H:=H1;clear H1;have H':=Aside0.mk H;clear H;have p104:0≤(x3_1:Int):=dt_;have q104:x3_1 < (l0.length:Int):=dt_;obtain⟨ad104,e104,hx104_0⟩:=Kd.at_string HR0.out x3_1 p104 q104;cases e104;replace p104:=eq_true p104;replace q104:=eq_true q104;have p109:0≤(x3_1:Int):=dt_;have q109:x3_1 < (l0.length:Int):=dt_;obtain⟨ad109,e109,hx109_0⟩:=Kd.at_string HR0.out x3_1 p109 q109;obtain rfl:ad104=ad109:=(by injection e109);replace p109:=eq_true p109;replace q109:=eq_true q109;(go_wp2_with (first|(go_at_call 52;(with_reducible refine(sennitref01_Line.calls k1 (rdOf ByteArray.empty l0 x3_1) true _ A10.out).mono ?_);rintro e w' ⟨rfl,⟨nd,rfl⟩⟩)))
        go_roundg k1
        (case measure=>have:=HK1.out;omega);(case rel=>exact⟨(wrap64 (x3_1+1)),rs_,H',⟨by have:=HK1.out;omega⟩,d0_⟩)
       (· replace c11:=Bool.eq_false_iff.mpr c11;subst c11;have H1:=H;(rw[if_neg (show ¬ (false=true) by decide)] at H1);clear H;have H:=H1;clear H1;obtain rfl:=Option.some.inj H;have p104:0≤(x3_1:Int):=dt_;have q104:x3_1 < (l0.length:Int):=dt_;obtain⟨ad104,e104,hx104_0⟩:=Kd.at_string HR0.out x3_1 p104 q104;cases e104;replace p104:=eq_true p104;replace q104:=eq_true q104;have p109:0≤(x3_1:Int):=dt_;have q109:x3_1 < (l0.length:Int):=dt_;obtain⟨ad109,e109,hx109_0⟩:=Kd.at_string HR0.out x3_1 p109 q109;obtain rfl:ad104=ad109:=(by injection e109);replace p109:=eq_true p109;replace q109:=eq_true q109;(go_wp2_with (first|(go_at_call 52;(with_reducible refine(sennitref01_Line.calls k1 (rdOf ByteArray.empty l0 x3_1) false _ A10.out).mono ?_);rintro e w' ⟨rfl,⟨nd,rfl⟩⟩)));go_ret;exact⟨by first|rfl|(simp;done)|(simp[*];done),d0_⟩)
     (· exact nx_ c4 H)
    ·
     (rw[if_neg c3] at H);have c3b0:(x3_1 == (wrap64 ((l0.length:Int) - 1)))=false:=beq_eq_false_iff_ne.mpr c3;have c3b1:(x3_1 != (wrap64 ((l0.length:Int) - 1)))=true:=bne_iff_ne.mpr c3
     by_cases c12:0≤x3_1
     ·
      (rw[if_pos c12] at H);have c12b0:decide (0≤x3_1)=true:=decide_eq_true c12;clear c12;replace H:=Option.bind_eq_some_iff.mp H;obtain⟨t112,A130,H⟩:=H;(try dsimp only at H);have A13:=Aside0.mk A130;clear A130
      by_cases c14:t112=true
      ·
       subst c14;have H1:=H;(rw[if_pos rfl] at H1);clear H;have H:=H1;clear H1;have H':=Aside0.mk H;clear H;have p111:0≤(x3_1:Int):=dt_;have q111:x3_1 < (l0.length:Int):=dt_;obtain⟨ad111,e111,hx111_0⟩:=Kd.at_string HR0.out x3_1 p111 q111;cases e111;replace p111:=eq_true p111;replace q111:=eq_true q111;(go_wp2_with (first|(go_at_call 52;(with_reducible refine(sennitref01_Line.calls k1 (rdOf ByteArray.empty l0 x3_1) true _ A13.out).mono ?_);rintro e w' ⟨rfl,⟨nd,rfl⟩⟩)))
       go_roundg k1
       (case measure=>have:=HK1.out;omega);(case rel=>exact⟨(wrap64 (x3_1+1)),rs_,H',⟨by have:=HK1.out;omega⟩,d0_⟩)
      (· replace c14:=Bool.eq_false_iff.mpr c14;subst c14;have H1:=H;(rw[if_neg (show ¬ (false=true) by decide)] at H1);clear H;have H:=H1;clear H1;obtain rfl:=Option.some.inj H;have p111:0≤(x3_1:Int):=dt_;have q111:x3_1 < (l0.length:Int):=dt_;obtain⟨ad111,e111,hx111_0⟩:=Kd.at_string HR0.out x3_1 p111 q111;cases e111;replace p111:=eq_true p111;replace q111:=eq_true q111;(go_wp2_with (first|(go_at_call 52;(with_reducible refine(sennitref01_Line.calls k1 (rdOf ByteArray.empty l0 x3_1) false _ A13.out).mono ?_);rintro e w' ⟨rfl,⟨nd,rfl⟩⟩)));go_ret;exact⟨by first|rfl|(simp;done)|(simp[*];done),d0_⟩)
     (· exact nx_ c12 H)
   (· (rw[if_neg c2] at H);have c2b0:decide (x3_1 < (l0.length:Int))=false:=decide_eq_false c2;clear c2;obtain rfl:=Option.some.inj H;go_wp2;go_ret;exact⟨by first|rfl|(simp;done)|(simp[*];done),d0_⟩)
def sennitref21_may.l0:Nat→Int→Bool→Bool→Int→ByteArray→ByteArray→Option (Bool)
  | 0,_,_,_,_,_,_=>none
  | k+1,x1,x5,x6,x7,x114000,x114001=>if x7 < (x114000.size:Int) then (if 0≤x7 then (if x5=true then (if x6=true then (if (bt x114000 x7)=32 then (sennitref21_may.l0 k x1 true true (wrap64 (x7+1)) x114000 x114001) else (if (bt x114000 x7)=43 then (sennitref21_may.l0 k x1 true true (wrap64 (x7+1)) x114000 x114001) else (if (bt x114000 x7)=45 then (sennitref21_may.l0 k x1 true true (wrap64 (x7+1)) x114000 x114001) else (some false)))) else (if (bt x114000 x7)=32 then (sennitref21_may.l0 k x1 true ((bt x114000 x7) == 45) (wrap64 (x7+1)) x114000 x114001) else (if (bt x114000 x7)=43 then (sennitref21_may.l0 k x1 true ((bt x114000 x7) == 45) (wrap64 (x7+1)) x114000 x114001) else (if (bt x114000 x7)=45 then (sennitref21_may.l0 k x1 true ((bt x114000 x7) == 45) (wrap64 (x7+1)) x114000 x114001) else (some false))))) else (if x6=true then (if (bt x114000 x7)=32 then (sennitref21_may.l0 k x1 ((bt x114000 x7) == 43) true (wrap64 (x7+1)) x114000 x114001) else (if (bt x114000 x7)=43 then (sennitref21_may.l0 k x1 ((bt x114000 x7) == 43) true (wrap64 (x7+1)) x114000 x114001) else (if (bt x114000 x7)=45 then (sennitref21_may.l0 k x1 ((bt x114000 x7) == 43) true (wrap64 (x7+1)) x114000 x114001) else (some false)))) else (if (bt x114000 x7)=32 then (sennitref21_may.l0 k x1 ((bt x114000 x7) == 43) ((bt x114000 x7) == 45) (wrap64 (x7+1)) x114000 x114001) else (if (bt x114000 x7)=43 then (sennitref21_may.l0 k x1 ((bt x114000 x7) == 43) ((bt x114000 x7) == 45) (wrap64 (x7+1)) x114000 x114001) else (if (bt x114000 x7)=45 then (sennitref21_may.l0 k x1 ((bt x114000 x7) == 43) ((bt x114000 x7) == 45) (wrap64 (x7+1)) x114000 x114001) else (some false)))))) else (none)) else (if (x114000.size:Int)=x1 then (if x5=true then (if x6=true then (some false) else ((sennitref01_May.f k (([x114001]:List ByteArray))).bind fun t117=>(some t117))) else ((sennitref01_May.f k (([x114001]:List ByteArray))).bind fun t121=>(some t121))) else (some false))
def sennitref21_may.f (k:Nat) (a0_0:ByteArray) (a0_1:ByteArray) (a1:Int):Option (Bool):=sennitref21_may.l0 k a1 false false 0 a0_0 a0_1
theorem sennitref21_may.calls (k:Nat) (a0_0:ByteArray) (a0_1:ByteArray) (a1:Int) (r:Bool) (w:World) (h:sennitref21_may.f k a0_0 a0_1 a1=some r) :
    Calls Tryd.prog 57 #[.agg #[.string a0_0, .string a0_1], .int .i64 a1] w fun e w'=>e = .returned (.bool r)∧Below w.heap.size w w':=by
 have hu57:=Tryd.underlying57;have HB:=Aside0.mk (Below.refl w.heap.size w);have H:=h;(rw[sennitref21_may.f] at H);clear h;have H':=Aside0.mk H;clear H;go_enter Tryd.func57,Tryd.ntmps57;(go_wp2_with (first|((with_reducible refine gate_dst (N:=2) rfl ?_);(try(refine gate_guard (by rfl) ?_;dsimp only));refine box_event ?hg (N:=2) ?hd (cs:=#[.string a0_0, .string a0_1]) (t:=57) ?hr ?_;(case hd=>rfl);(case hg=>rfl);(case hr=>first|(go_simp;done)|(go_simp;rfl));intro gb113 hg w3 hbox hb;have BK113:=Aside0.mk (hbox);have GW113:=Aside0.mk ((by rw[hg];exact(bsz bel_):w.heap.size≤gb113));have GE113:=Aside0.mk ((by rw[hg];exact(bsz bel_):w.heap.size≤gb113));replace HB:=Aside0.mk (bst bel_ hb);clear hb hbox hg)))
 go_loopg [5,6,7] k (fun kq v5 v6 v7 w' => ∃ (x5_1:Bool) (x6_1:Bool) (x7_1:Int),v5 = .bool x5_1∧v6 = .bool x6_1∧v7 = .int .i64 x7_1∧Aside0 (sennitref21_may.l0 kq a1 x5_1 x6_1 x7_1 a0_0 a0_1=some r)∧Aside0 (kq≤k)∧Aside0 (w'.heap[gb113]? = some (.cells #[.string a0_0, .string a0_1] 57 (0,0)))∧Aside0 (Below w.heap.size w w'))
 (case atStart=>exact⟨(false),(false),(0),rs_,rs_,rs_,H',⟨Nat.le_refl _⟩,⟨pK_ BK113.out⟩,⟨bs1_ GE113.out⟩⟩)
 case round =>
  clear H';(try clear p2);obtain⟨x5_1,x6_1,x7_1,rfl,rfl,rfl,HA,HK1,BK113,HB⟩:=hrel
  cases gk with
  | zero=>exact absurd HA.out (by simp[sennitref21_may.l0])
  | succ k1 =>
   have H:=HA.out;clear HA;(simp only[sennitref21_may.l0] at H)
   by_cases c4:x7_1 < (a0_0.size:Int)
   ·
    (rw[if_pos c4] at H);have c4b0:decide (x7_1 < (a0_0.size:Int))=true:=decide_eq_true c4;clear c4
    by_cases c5:0≤x7_1
    ·
     (rw[if_pos c5] at H);have c5b0:decide (0≤x7_1)=true:=decide_eq_true c5;clear c5
     by_cases c7:x5_1=true
     ·
      subst c7;have H1:=H;(rw[if_pos rfl] at H1);clear H;have H:=H1;clear H1
      by_cases c8:x6_1=true
      ·
       subst c8;have H1:=H;(rw[if_pos rfl] at H1);clear H;have H:=H1;clear H1
       by_cases c9:(bt a0_0 x7_1)=32
       ·
        (rw[if_pos c9] at H);have c9b0:((bt a0_0 x7_1) == 32)=true:=beq_iff_eq.mpr c9;have c9b1:((bt a0_0 x7_1) != 32)=false:=bne_eq_false_iff_eq.mpr c9;clear c9;have H':=Aside0.mk H;clear H;have hcz10_0:wr.cell? ⟨gb113,0,none⟩=some (.string a0_0):=(bcl BK113.out 0).trans rfl;have hcz10_1:wr.cell? ⟨gb113,1,none⟩=some (.string a0_1):=(bcl BK113.out 1).trans rfl;have hfz10_0:=bfz BK113.out 0;have hfz10_1:=bfz BK113.out 1;have p6:0≤(x7_1:Int):=dt_;have q6:x7_1 < (a0_0.size:Int):=dt_;have hx6:=bt_at a0_0 x7_1;replace p6:=eq_true p6;replace q6:=eq_true q6;go_wp2
        go_roundg k1
        (case measure=>have:=HK1.out;omega);(case rel=>exact⟨(true),(true),(wrap64 (x7_1+1)),rs_,rs_,rs_,H',⟨by have:=HK1.out;omega⟩,⟨pK_ BK113.out⟩,⟨bs1_ GE113.out⟩⟩)
       ·
        (rw[if_neg c9] at H);have c9b0:((bt a0_0 x7_1) == 32)=false:=beq_eq_false_iff_ne.mpr c9;have c9b1:((bt a0_0 x7_1) != 32)=true:=bne_iff_ne.mpr c9
        by_cases c11:(bt a0_0 x7_1)=43
        ·
         (rw[if_pos c11] at H);have c11b0:((bt a0_0 x7_1) == 43)=true:=beq_iff_eq.mpr c11;have c11b1:((bt a0_0 x7_1) != 43)=false:=bne_eq_false_iff_eq.mpr c11;clear c11;have H':=Aside0.mk H;clear H;have hcz12_0:wr.cell? ⟨gb113,0,none⟩=some (.string a0_0):=(bcl BK113.out 0).trans rfl;have hcz12_1:wr.cell? ⟨gb113,1,none⟩=some (.string a0_1):=(bcl BK113.out 1).trans rfl;have hfz12_0:=bfz BK113.out 0;have hfz12_1:=bfz BK113.out 1;have p6:0≤(x7_1:Int):=dt_;have q6:x7_1 < (a0_0.size:Int):=dt_;have hx6:=bt_at a0_0 x7_1;replace p6:=eq_true p6;replace q6:=eq_true q6;go_wp2
         go_roundg k1
         (case measure=>have:=HK1.out;omega);(case rel=>exact⟨(true),(true),(wrap64 (x7_1+1)),rs_,rs_,rs_,H',⟨by have:=HK1.out;omega⟩,⟨pK_ BK113.out⟩,⟨bs1_ GE113.out⟩⟩)
        ·
         (rw[if_neg c11] at H);have c11b0:((bt a0_0 x7_1) == 43)=false:=beq_eq_false_iff_ne.mpr c11;have c11b1:((bt a0_0 x7_1) != 43)=true:=bne_iff_ne.mpr c11
         by_cases c13:(bt a0_0 x7_1)=45
         ·
          (rw[if_pos c13] at H);have c13b0:((bt a0_0 x7_1) == 45)=true:=beq_iff_eq.mpr c13;have c13b1:((bt a0_0 x7_1) != 45)=false:=bne_eq_false_iff_eq.mpr c13;clear c13;have H':=Aside0.mk H;clear H;have hcz14_0:wr.cell? ⟨gb113,0,none⟩=some (.string a0_0):=(bcl BK113.out 0).trans rfl;have hcz14_1:wr.cell? ⟨gb113,1,none⟩=some (.string a0_1):=(bcl BK113.out 1).trans rfl;have hfz14_0:=bfz BK113.out 0;have hfz14_1:=bfz BK113.out 1;have p6:0≤(x7_1:Int):=dt_;have q6:x7_1 < (a0_0.size:Int):=dt_;have hx6:=bt_at a0_0 x7_1;replace p6:=eq_true p6;replace q6:=eq_true q6;go_wp2
          go_roundg k1
          (case measure=>have:=HK1.out;omega);(case rel=>exact⟨(true),(true),(wrap64 (x7_1+1)),rs_,rs_,rs_,H',⟨by have:=HK1.out;omega⟩,⟨pK_ BK113.out⟩,⟨bs1_ GE113.out⟩⟩)
         (· (rw[if_neg c13] at H);have c13b0:((bt a0_0 x7_1) == 45)=false:=beq_eq_false_iff_ne.mpr c13;have c13b1:((bt a0_0 x7_1) != 45)=true:=bne_iff_ne.mpr c13;obtain rfl:=Option.some.inj H;have hcz15_0:wr.cell? ⟨gb113,0,none⟩=some (.string a0_0):=(bcl BK113.out 0).trans rfl;have hcz15_1:wr.cell? ⟨gb113,1,none⟩=some (.string a0_1):=(bcl BK113.out 1).trans rfl;have hfz15_0:=bfz BK113.out 0;have hfz15_1:=bfz BK113.out 1;have p6:0≤(x7_1:Int):=dt_;have q6:x7_1 < (a0_0.size:Int):=dt_;have hx6:=bt_at a0_0 x7_1;replace p6:=eq_true p6;replace q6:=eq_true q6;go_wp2;go_ret;exact⟨by first|rfl|(simp[errW_none,errW_some] <;> rfl)|(simp[*,errW_none,errW_some] <;> rfl),by repeat(first|(with_reducible first|exact HB.out|apply below_alloc|apply pw_below_drewN|apply below_drew1|refine below_set ?_ GE113.out)|exact HB.out)⟩)
      ·
       replace c8:=Bool.eq_false_iff.mpr c8;subst c8;have H1:=H;(rw[if_neg (show ¬ (false=true) by decide)] at H1);clear H;have H:=H1;clear H1
       by_cases c16:(bt a0_0 x7_1)=32
       ·
        (rw[if_pos c16] at H);have c16b0:((bt a0_0 x7_1) == 32)=true:=beq_iff_eq.mpr c16;have c16b1:((bt a0_0 x7_1) != 32)=false:=bne_eq_false_iff_eq.mpr c16;clear c16;have H':=Aside0.mk H;clear H;have hcz17_0:wr.cell? ⟨gb113,0,none⟩=some (.string a0_0):=(bcl BK113.out 0).trans rfl;have hcz17_1:wr.cell? ⟨gb113,1,none⟩=some (.string a0_1):=(bcl BK113.out 1).trans rfl;have hfz17_0:=bfz BK113.out 0;have hfz17_1:=bfz BK113.out 1;have p6:0≤(x7_1:Int):=dt_;have q6:x7_1 < (a0_0.size:Int):=dt_;have hx6:=bt_at a0_0 x7_1;replace p6:=eq_true p6;replace q6:=eq_true q6;go_wp2
        go_roundg k1
        (case measure=>have:=HK1.out;omega);(case rel=>exact⟨(true),(((bt a0_0 x7_1) == 45)),(wrap64 (x7_1+1)),rs_,rs_,rs_,H',⟨by have:=HK1.out;omega⟩,⟨pK_ BK113.out⟩,⟨bs1_ GE113.out⟩⟩)
       ·
        (rw[if_neg c16] at H);have c16b0:((bt a0_0 x7_1) == 32)=false:=beq_eq_false_iff_ne.mpr c16;have c16b1:((bt a0_0 x7_1) != 32)=true:=bne_iff_ne.mpr c16
        by_cases c18:(bt a0_0 x7_1)=43
        ·
         (rw[if_pos c18] at H);have c18b0:((bt a0_0 x7_1) == 43)=true:=beq_iff_eq.mpr c18;have c18b1:((bt a0_0 x7_1) != 43)=false:=bne_eq_false_iff_eq.mpr c18;clear c18;have H':=Aside0.mk H;clear H;have hcz19_0:wr.cell? ⟨gb113,0,none⟩=some (.string a0_0):=(bcl BK113.out 0).trans rfl;have hcz19_1:wr.cell? ⟨gb113,1,none⟩=some (.string a0_1):=(bcl BK113.out 1).trans rfl;have hfz19_0:=bfz BK113.out 0;have hfz19_1:=bfz BK113.out 1;have p6:0≤(x7_1:Int):=dt_;have q6:x7_1 < (a0_0.size:Int):=dt_;have hx6:=bt_at a0_0 x7_1;replace p6:=eq_true p6;replace q6:=eq_true q6;go_wp2
         go_roundg k1
         (case measure=>have:=HK1.out;omega);(case rel=>exact⟨(true),(((bt a0_0 x7_1) == 45)),(wrap64 (x7_1+1)),rs_,rs_,rs_,H',⟨by have:=HK1.out;omega⟩,⟨pK_ BK113.out⟩,⟨bs1_ GE113.out⟩⟩)
        ·
         (rw[if_neg c18] at H);have c18b0:((bt a0_0 x7_1) == 43)=false:=beq_eq_false_iff_ne.mpr c18;have c18b1:((bt a0_0 x7_1) != 43)=true:=bne_iff_ne.mpr c18
         by_cases c20:(bt a0_0 x7_1)=45
         ·
          (rw[if_pos c20] at H);have c20b0:((bt a0_0 x7_1) == 45)=true:=beq_iff_eq.mpr c20;have c20b1:((bt a0_0 x7_1) != 45)=false:=bne_eq_false_iff_eq.mpr c20;clear c20;have H':=Aside0.mk H;clear H;have hcz21_0:wr.cell? ⟨gb113,0,none⟩=some (.string a0_0):=(bcl BK113.out 0).trans rfl;have hcz21_1:wr.cell? ⟨gb113,1,none⟩=some (.string a0_1):=(bcl BK113.out 1).trans rfl;have hfz21_0:=bfz BK113.out 0;have hfz21_1:=bfz BK113.out 1;have p6:0≤(x7_1:Int):=dt_;have q6:x7_1 < (a0_0.size:Int):=dt_;have hx6:=bt_at a0_0 x7_1;replace p6:=eq_true p6;replace q6:=eq_true q6;go_wp2
          go_roundg k1
          (case measure=>have:=HK1.out;omega);(case rel=>exact⟨(true),(((bt a0_0 x7_1) == 45)),(wrap64 (x7_1+1)),rs_,rs_,rs_,H',⟨by have:=HK1.out;omega⟩,⟨pK_ BK113.out⟩,⟨bs1_ GE113.out⟩⟩)
         (· (rw[if_neg c20] at H);have c20b0:((bt a0_0 x7_1) == 45)=false:=beq_eq_false_iff_ne.mpr c20;have c20b1:((bt a0_0 x7_1) != 45)=true:=bne_iff_ne.mpr c20;obtain rfl:=Option.some.inj H;have hcz22_0:wr.cell? ⟨gb113,0,none⟩=some (.string a0_0):=(bcl BK113.out 0).trans rfl;have hcz22_1:wr.cell? ⟨gb113,1,none⟩=some (.string a0_1):=(bcl BK113.out 1).trans rfl;have hfz22_0:=bfz BK113.out 0;have hfz22_1:=bfz BK113.out 1;have p6:0≤(x7_1:Int):=dt_;have q6:x7_1 < (a0_0.size:Int):=dt_;have hx6:=bt_at a0_0 x7_1;replace p6:=eq_true p6;replace q6:=eq_true q6;go_wp2;go_ret;exact⟨by first|rfl|(simp[errW_none,errW_some] <;> rfl)|(simp[*,errW_none,errW_some] <;> rfl),by repeat(first|(with_reducible first|exact HB.out|apply below_alloc|apply pw_below_drewN|apply below_drew1|refine below_set ?_ GE113.out)|exact HB.out)⟩)
     ·
      replace c7:=Bool.eq_false_iff.mpr c7;subst c7;have H1:=H;(rw[if_neg (show ¬ (false=true) by decide)] at H1);clear H;have H:=H1;clear H1
      by_cases c23:x6_1=true
      ·
       subst c23;have H1:=H;(rw[if_pos rfl] at H1);clear H;have H:=H1;clear H1
       by_cases c24:(bt a0_0 x7_1)=32
       ·
        (rw[if_pos c24] at H);have c24b0:((bt a0_0 x7_1) == 32)=true:=beq_iff_eq.mpr c24;have c24b1:((bt a0_0 x7_1) != 32)=false:=bne_eq_false_iff_eq.mpr c24;clear c24;have H':=Aside0.mk H;clear H;have hcz25_0:wr.cell? ⟨gb113,0,none⟩=some (.string a0_0):=(bcl BK113.out 0).trans rfl;have hcz25_1:wr.cell? ⟨gb113,1,none⟩=some (.string a0_1):=(bcl BK113.out 1).trans rfl;have hfz25_0:=bfz BK113.out 0;have hfz25_1:=bfz BK113.out 1;have p6:0≤(x7_1:Int):=dt_;have q6:x7_1 < (a0_0.size:Int):=dt_;have hx6:=bt_at a0_0 x7_1;replace p6:=eq_true p6;replace q6:=eq_true q6;go_wp2
        go_roundg k1
        (case measure=>have:=HK1.out;omega);(case rel=>exact⟨(((bt a0_0 x7_1) == 43)),(true),(wrap64 (x7_1+1)),rs_,rs_,rs_,H',⟨by have:=HK1.out;omega⟩,⟨pK_ BK113.out⟩,⟨bs1_ GE113.out⟩⟩)
       ·
        (rw[if_neg c24] at H);have c24b0:((bt a0_0 x7_1) == 32)=false:=beq_eq_false_iff_ne.mpr c24;have c24b1:((bt a0_0 x7_1) != 32)=true:=bne_iff_ne.mpr c24
        by_cases c26:(bt a0_0 x7_1)=43
        ·
         (rw[if_pos c26] at H);have c26b0:((bt a0_0 x7_1) == 43)=true:=beq_iff_eq.mpr c26;have c26b1:((bt a0_0 x7_1) != 43)=false:=bne_eq_false_iff_eq.mpr c26;clear c26;have H':=Aside0.mk H;clear H;have hcz27_0:wr.cell? ⟨gb113,0,none⟩=some (.string a0_0):=(bcl BK113.out 0).trans rfl;have hcz27_1:wr.cell? ⟨gb113,1,none⟩=some (.string a0_1):=(bcl BK113.out 1).trans rfl;have hfz27_0:=bfz BK113.out 0;have hfz27_1:=bfz BK113.out 1;have p6:0≤(x7_1:Int):=dt_;have q6:x7_1 < (a0_0.size:Int):=dt_;have hx6:=bt_at a0_0 x7_1;replace p6:=eq_true p6;replace q6:=eq_true q6;go_wp2
         go_roundg k1
         (case measure=>have:=HK1.out;omega);(case rel=>exact⟨(((bt a0_0 x7_1) == 43)),(true),(wrap64 (x7_1+1)),rs_,rs_,rs_,H',⟨by have:=HK1.out;omega⟩,⟨pK_ BK113.out⟩,⟨bs1_ GE113.out⟩⟩)
        ·
         (rw[if_neg c26] at H);have c26b0:((bt a0_0 x7_1) == 43)=false:=beq_eq_false_iff_ne.mpr c26;have c26b1:((bt a0_0 x7_1) != 43)=true:=bne_iff_ne.mpr c26
         by_cases c28:(bt a0_0 x7_1)=45
         ·
          (rw[if_pos c28] at H);have c28b0:((bt a0_0 x7_1) == 45)=true:=beq_iff_eq.mpr c28;have c28b1:((bt a0_0 x7_1) != 45)=false:=bne_eq_false_iff_eq.mpr c28;clear c28;have H':=Aside0.mk H;clear H;have hcz29_0:wr.cell? ⟨gb113,0,none⟩=some (.string a0_0):=(bcl BK113.out 0).trans rfl;have hcz29_1:wr.cell? ⟨gb113,1,none⟩=some (.string a0_1):=(bcl BK113.out 1).trans rfl;have hfz29_0:=bfz BK113.out 0;have hfz29_1:=bfz BK113.out 1;have p6:0≤(x7_1:Int):=dt_;have q6:x7_1 < (a0_0.size:Int):=dt_;have hx6:=bt_at a0_0 x7_1;replace p6:=eq_true p6;replace q6:=eq_true q6;go_wp2
          go_roundg k1
          (case measure=>have:=HK1.out;omega);(case rel=>exact⟨(((bt a0_0 x7_1) == 43)),(true),(wrap64 (x7_1+1)),rs_,rs_,rs_,H',⟨by have:=HK1.out;omega⟩,⟨pK_ BK113.out⟩,⟨bs1_ GE113.out⟩⟩)
         (· (rw[if_neg c28] at H);have c28b0:((bt a0_0 x7_1) == 45)=false:=beq_eq_false_iff_ne.mpr c28;have c28b1:((bt a0_0 x7_1) != 45)=true:=bne_iff_ne.mpr c28;obtain rfl:=Option.some.inj H;have hcz30_0:wr.cell? ⟨gb113,0,none⟩=some (.string a0_0):=(bcl BK113.out 0).trans rfl;have hcz30_1:wr.cell? ⟨gb113,1,none⟩=some (.string a0_1):=(bcl BK113.out 1).trans rfl;have hfz30_0:=bfz BK113.out 0;have hfz30_1:=bfz BK113.out 1;have p6:0≤(x7_1:Int):=dt_;have q6:x7_1 < (a0_0.size:Int):=dt_;have hx6:=bt_at a0_0 x7_1;replace p6:=eq_true p6;replace q6:=eq_true q6;go_wp2;go_ret;exact⟨by first|rfl|(simp[errW_none,errW_some] <;> rfl)|(simp[*,errW_none,errW_some] <;> rfl),by repeat(first|(with_reducible first|exact HB.out|apply below_alloc|apply pw_below_drewN|apply below_drew1|refine below_set ?_ GE113.out)|exact HB.out)⟩)
      ·
       replace c23:=Bool.eq_false_iff.mpr c23;subst c23;have H1:=H;(rw[if_neg (show ¬ (false=true) by decide)] at H1);clear H;have H:=H1;clear H1
       by_cases c31:(bt a0_0 x7_1)=32
       ·
        (rw[if_pos c31] at H);have c31b0:((bt a0_0 x7_1) == 32)=true:=beq_iff_eq.mpr c31;have c31b1:((bt a0_0 x7_1) != 32)=false:=bne_eq_false_iff_eq.mpr c31;clear c31;have H':=Aside0.mk H;clear H;have hcz32_0:wr.cell? ⟨gb113,0,none⟩=some (.string a0_0):=(bcl BK113.out 0).trans rfl;have hcz32_1:wr.cell? ⟨gb113,1,none⟩=some (.string a0_1):=(bcl BK113.out 1).trans rfl;have hfz32_0:=bfz BK113.out 0;have hfz32_1:=bfz BK113.out 1;have p6:0≤(x7_1:Int):=dt_;have q6:x7_1 < (a0_0.size:Int):=dt_;have hx6:=bt_at a0_0 x7_1;replace p6:=eq_true p6;replace q6:=eq_true q6;go_wp2
        go_roundg k1
        (case measure=>have:=HK1.out;omega);(case rel=>exact⟨(((bt a0_0 x7_1) == 43)),(((bt a0_0 x7_1) == 45)),(wrap64 (x7_1+1)),rs_,rs_,rs_,H',⟨by have:=HK1.out;omega⟩,⟨pK_ BK113.out⟩,⟨bs1_ GE113.out⟩⟩)
       ·
        (rw[if_neg c31] at H);have c31b0:((bt a0_0 x7_1) == 32)=false:=beq_eq_false_iff_ne.mpr c31;have c31b1:((bt a0_0 x7_1) != 32)=true:=bne_iff_ne.mpr c31
        by_cases c33:(bt a0_0 x7_1)=43
        ·
         (rw[if_pos c33] at H);have c33b0:((bt a0_0 x7_1) == 43)=true:=beq_iff_eq.mpr c33;have c33b1:((bt a0_0 x7_1) != 43)=false:=bne_eq_false_iff_eq.mpr c33;clear c33;have H':=Aside0.mk H;clear H;have hcz34_0:wr.cell? ⟨gb113,0,none⟩=some (.string a0_0):=(bcl BK113.out 0).trans rfl;have hcz34_1:wr.cell? ⟨gb113,1,none⟩=some (.string a0_1):=(bcl BK113.out 1).trans rfl;have hfz34_0:=bfz BK113.out 0;have hfz34_1:=bfz BK113.out 1;have p6:0≤(x7_1:Int):=dt_;have q6:x7_1 < (a0_0.size:Int):=dt_;have hx6:=bt_at a0_0 x7_1;replace p6:=eq_true p6;replace q6:=eq_true q6;go_wp2
         go_roundg k1
         (case measure=>have:=HK1.out;omega);(case rel=>exact⟨(((bt a0_0 x7_1) == 43)),(((bt a0_0 x7_1) == 45)),(wrap64 (x7_1+1)),rs_,rs_,rs_,H',⟨by have:=HK1.out;omega⟩,⟨pK_ BK113.out⟩,⟨bs1_ GE113.out⟩⟩)
        ·
         (rw[if_neg c33] at H);have c33b0:((bt a0_0 x7_1) == 43)=false:=beq_eq_false_iff_ne.mpr c33;have c33b1:((bt a0_0 x7_1) != 43)=true:=bne_iff_ne.mpr c33
         by_cases c35:(bt a0_0 x7_1)=45
         ·
          (rw[if_pos c35] at H);have c35b0:((bt a0_0 x7_1) == 45)=true:=beq_iff_eq.mpr c35;have c35b1:((bt a0_0 x7_1) != 45)=false:=bne_eq_false_iff_eq.mpr c35;clear c35;have H':=Aside0.mk H;clear H;have hcz36_0:wr.cell? ⟨gb113,0,none⟩=some (.string a0_0):=(bcl BK113.out 0).trans rfl;have hcz36_1:wr.cell? ⟨gb113,1,none⟩=some (.string a0_1):=(bcl BK113.out 1).trans rfl;have hfz36_0:=bfz BK113.out 0;have hfz36_1:=bfz BK113.out 1;have p6:0≤(x7_1:Int):=dt_;have q6:x7_1 < (a0_0.size:Int):=dt_;have hx6:=bt_at a0_0 x7_1;replace p6:=eq_true p6;replace q6:=eq_true q6;go_wp2
          go_roundg k1
          (case measure=>have:=HK1.out;omega);(case rel=>exact⟨(((bt a0_0 x7_1) == 43)),(((bt a0_0 x7_1) == 45)),(wrap64 (x7_1+1)),rs_,rs_,rs_,H',⟨by have:=HK1.out;omega⟩,⟨pK_ BK113.out⟩,⟨bs1_ GE113.out⟩⟩)
         (· (rw[if_neg c35] at H);have c35b0:((bt a0_0 x7_1) == 45)=false:=beq_eq_false_iff_ne.mpr c35;have c35b1:((bt a0_0 x7_1) != 45)=true:=bne_iff_ne.mpr c35;obtain rfl:=Option.some.inj H;have hcz37_0:wr.cell? ⟨gb113,0,none⟩=some (.string a0_0):=(bcl BK113.out 0).trans rfl;have hcz37_1:wr.cell? ⟨gb113,1,none⟩=some (.string a0_1):=(bcl BK113.out 1).trans rfl;have hfz37_0:=bfz BK113.out 0;have hfz37_1:=bfz BK113.out 1;have p6:0≤(x7_1:Int):=dt_;have q6:x7_1 < (a0_0.size:Int):=dt_;have hx6:=bt_at a0_0 x7_1;replace p6:=eq_true p6;replace q6:=eq_true q6;go_wp2;go_ret;exact⟨by first|rfl|(simp[errW_none,errW_some] <;> rfl)|(simp[*,errW_none,errW_some] <;> rfl),by repeat(first|(with_reducible first|exact HB.out|apply below_alloc|apply pw_below_drewN|apply below_drew1|refine below_set ?_ GE113.out)|exact HB.out)⟩)
    (· exact nx_ c5 H)
   ·
    (rw[if_neg c4] at H);have c4b0:decide (x7_1 < (a0_0.size:Int))=false:=decide_eq_false c4;clear c4
    by_cases c38:(a0_0.size:Int)=a1
    ·
     (rw[if_pos c38] at H);have c38b0:((a0_0.size:Int) == a1)=true:=beq_iff_eq.mpr c38;have c38b1:((a0_0.size:Int) != a1)=false:=bne_eq_false_iff_eq.mpr c38;clear c38
     by_cases c39:x5_1=true
     ·
      subst c39;have H1:=H;(rw[if_pos rfl] at H1);clear H;have H:=H1;clear H1
      by_cases c40:x6_1=true
      (· subst c40;have H1:=H;(rw[if_pos rfl] at H1);clear H;have H:=H1;clear H1;obtain rfl:=Option.some.inj H;have hcz41_0:wr.cell? ⟨gb113,0,none⟩=some (.string a0_0):=(bcl BK113.out 0).trans rfl;have hcz41_1:wr.cell? ⟨gb113,1,none⟩=some (.string a0_1):=(bcl BK113.out 1).trans rfl;have hfz41_0:=bfz BK113.out 0;have hfz41_1:=bfz BK113.out 1;go_wp2;go_ret;exact⟨by first|rfl|(simp[errW_none,errW_some] <;> rfl)|(simp[*,errW_none,errW_some] <;> rfl),by repeat(first|(with_reducible first|exact HB.out|apply below_alloc|apply pw_below_drewN|apply below_drew1|refine below_set ?_ GE113.out)|exact HB.out)⟩);(· replace c40:=Bool.eq_false_iff.mpr c40;subst c40;have H1:=H;(rw[if_neg (show ¬ (false=true) by decide)] at H1);clear H;have H:=H1;clear H1;obtain⟨y114,hy114⟩ : ∃ y_:List ByteArray,y_=(([a0_1]:List ByteArray)):=⟨_,rfl⟩;((try rw[Option.bind_some] at H);rw[← hy114] at H);have Ny114:=Aside0.mk hy114;clear hy114;replace H:=Option.bind_eq_some_iff.mp H;obtain⟨t117,A420,H⟩:=H;(try dsimp only at H);have A42:=Aside0.mk A420;clear A420;obtain rfl:=Option.some.inj H;have hcz43_0:wr.cell? ⟨gb113,0,none⟩=some (.string a0_0):=(bcl BK113.out 0).trans rfl;have hcz43_1:wr.cell? ⟨gb113,1,none⟩=some (.string a0_1):=(bcl BK113.out 1).trans rfl;have hfz43_0:=bfz BK113.out 0;have hfz43_1:=bfz BK113.out 1;(go_wp2_with (first|((with_reducible refine gate_dst (N:=55) rfl ?_);(try(refine gate_guard (by rfl) ?_;dsimp only));refine Kd.R_lit Kd.string _ 9 ?hg (N:=55) ?hd (xs:=([a0_1]:List ByteArray)) (inner:=[.string a0_1]) (ok:=fun _=>True) (okp:=fun _=>True) ?hr ?hp (fun _ hk=>hk) trivial (Below.refl _ _) (Nat.le_refl _) (by simp) ?_;(case hd=>rfl);(case hg=>rfl);(case hr=>first|(go_simp;done)|(go_simp;rfl));(case hp=>exact(Reps.one (show Kd.M Kd.string _ _ _ a0_1 [.string a0_1] from rfl) (Reps.none _ _)));intro v115 w44 ho45 hb hg_ hnew_;clear hg_ hnew_;(first|rw[← Ny114.out] at ho45|(simp only[Int.reduceToNat] at ho45;rw[← Ny114.out] at ho45));have HO116:=Aside0.mk (Kd.R_lower ho45 (bsz (bs1_ GE113.out)));replace BK113:=Aside0.mk (blk_below (g:=gb113) (o := .cells #[.string a0_0, .string a0_1] 57 (0,0)) (pK_ BK113.out) hb);replace HB:=Aside0.mk (bst (bs1_ GE113.out) hb);clear hb ho45;obtain⟨Ao46,co46,eo46⟩:=Kd.R_slice HO116.out;subst eo46)|(go_at_call 25;(with_reducible refine(sennitref01_May.calls k1 _ _ y114 t117 _ ?side1 ?side2 A42.out).mono ?_);(case side1=>repeat(first|exact(Kd.R_reads' HO116.out).2.2|(with_reducible refine Kd.C_alloc ?_ _)|(with_reducible refine Kd.C_drewN ?_ _)|(with_reducible refine Kd.C_drew ?_)));(case side2=>exact(Kd.R_reads' HO116.out).2.1);rintro e w' ⟨rfl,⟨nd,rfl⟩⟩)));go_ret;exact⟨by first|rfl|(simp[errW_none,errW_some] <;> rfl)|(simp[*,errW_none,errW_some] <;> rfl),by repeat(first|(with_reducible first|exact HB.out|apply below_alloc|apply pw_below_drewN|apply below_drew1|refine below_set ?_ GE113.out)|exact HB.out)⟩)
     (· replace c39:=Bool.eq_false_iff.mpr c39;subst c39;have H1:=H;(rw[if_neg (show ¬ (false=true) by decide)] at H1);clear H;have H:=H1;clear H1;obtain⟨y118,hy118⟩ : ∃ y_:List ByteArray,y_=(([a0_1]:List ByteArray)):=⟨_,rfl⟩;((try rw[Option.bind_some] at H);rw[← hy118] at H);have Ny118:=Aside0.mk hy118;clear hy118;replace H:=Option.bind_eq_some_iff.mp H;obtain⟨t121,A470,H⟩:=H;(try dsimp only at H);have A47:=Aside0.mk A470;clear A470;obtain rfl:=Option.some.inj H;have hcz48_0:wr.cell? ⟨gb113,0,none⟩=some (.string a0_0):=(bcl BK113.out 0).trans rfl;have hcz48_1:wr.cell? ⟨gb113,1,none⟩=some (.string a0_1):=(bcl BK113.out 1).trans rfl;have hfz48_0:=bfz BK113.out 0;have hfz48_1:=bfz BK113.out 1;(go_wp2_with (first|((with_reducible refine gate_dst (N:=55) rfl ?_);(try(refine gate_guard (by rfl) ?_;dsimp only));refine Kd.R_lit Kd.string _ 9 ?hg (N:=55) ?hd (xs:=([a0_1]:List ByteArray)) (inner:=[.string a0_1]) (ok:=fun _=>True) (okp:=fun _=>True) ?hr ?hp (fun _ hk=>hk) trivial (Below.refl _ _) (Nat.le_refl _) (by simp) ?_;(case hd=>rfl);(case hg=>rfl);(case hr=>first|(go_simp;done)|(go_simp;rfl));(case hp=>exact(Reps.one (show Kd.M Kd.string _ _ _ a0_1 [.string a0_1] from rfl) (Reps.none _ _)));intro v119 w49 ho50 hb hg_ hnew_;clear hg_ hnew_;(first|rw[← Ny118.out] at ho50|(simp only[Int.reduceToNat] at ho50;rw[← Ny118.out] at ho50));have HO120:=Aside0.mk (Kd.R_lower ho50 (bsz (bs1_ GE113.out)));replace BK113:=Aside0.mk (blk_below (g:=gb113) (o := .cells #[.string a0_0, .string a0_1] 57 (0,0)) (pK_ BK113.out) hb);replace HB:=Aside0.mk (bst (bs1_ GE113.out) hb);clear hb ho50;obtain⟨Ao51,co51,eo51⟩:=Kd.R_slice HO120.out;subst eo51)|(go_at_call 25;(with_reducible refine(sennitref01_May.calls k1 _ _ y118 t121 _ ?side1 ?side2 A47.out).mono ?_);(case side1=>repeat(first|exact(Kd.R_reads' HO120.out).2.2|(with_reducible refine Kd.C_alloc ?_ _)|(with_reducible refine Kd.C_drewN ?_ _)|(with_reducible refine Kd.C_drew ?_)));(case side2=>exact(Kd.R_reads' HO120.out).2.1);rintro e w' ⟨rfl,⟨nd,rfl⟩⟩)));go_ret;exact⟨by first|rfl|(simp[errW_none,errW_some] <;> rfl)|(simp[*,errW_none,errW_some] <;> rfl),by repeat(first|(with_reducible first|exact HB.out|apply below_alloc|apply pw_below_drewN|apply below_drew1|refine below_set ?_ GE113.out)|exact HB.out)⟩)
    (· (rw[if_neg c38] at H);have c38b0:((a0_0.size:Int) == a1)=false:=beq_eq_false_iff_ne.mpr c38;have c38b1:((a0_0.size:Int) != a1)=true:=bne_iff_ne.mpr c38;obtain rfl:=Option.some.inj H;have hcz52_0:wr.cell? ⟨gb113,0,none⟩=some (.string a0_0):=(bcl BK113.out 0).trans rfl;have hcz52_1:wr.cell? ⟨gb113,1,none⟩=some (.string a0_1):=(bcl BK113.out 1).trans rfl;have hfz52_0:=bfz BK113.out 0;have hfz52_1:=bfz BK113.out 1;go_wp2;go_ret;exact⟨by first|rfl|(simp[errW_none,errW_some] <;> rfl)|(simp[*,errW_none,errW_some] <;> rfl),by repeat(first|(with_reducible first|exact HB.out|apply below_alloc|apply pw_below_drewN|apply below_drew1|refine below_set ?_ GE113.out)|exact HB.out)⟩)
def sennitref21_May.l0:Nat→List (S57)→Int→Option (Bool)
  | 0,_,_=>none
  | k+1,x0,x3=>if x3 < (x0.length:Int) then (if 0 < (x0.length:Int) then (if (((rd_T57 x0 0).f0).size:Int) < 1 then (some false) else (if (((rd_T57 x0 0).f0).size:Int) > 16 then (some false) else (if 0≤x3 then ((sennitref21_may.f k ((rd_T57 x0 x3).f0) ((rd_T57 x0 x3).f1) (((rd_T57 x0 0).f0).size:Int)).bind fun t124=>(if t124=true then (sennitref21_May.l0 k x0 (wrap64 (x3+1))) else (some false))) else (none)))) else (none)) else (some true)
def sennitref21_May.f (k:Nat) (l0:List (S57)):Option (Bool):=sennitref21_May.l0 k l0 0
theorem sennitref21_May.calls (k:Nat) (A0:Option Addr) (c0:Nat) (l0:List (S57)) (r:Bool) (w:World) (hr0:Kd.C k57 w A0 l0.length l0) (hc0:l0.length≤c0) (h:sennitref21_May.f k l0=some r) :
    Calls Tryd.prog 30 #[.slice A0 l0.length c0] w fun e w'=>e = .returned (.bool r)∧Below w.heap.size w w':=by
 have hu57:=Tryd.underlying57;have HR0:=Aside0.mk hr0;have HC0:=Aside0.mk hc0;clear hr0 hc0;have HB:=Aside0.mk (Below.refl w.heap.size w);have H:=h;(rw[sennitref21_May.f] at H);clear h;have H':=Aside0.mk H;clear H;go_enter Tryd.func30,Tryd.ntmps30;go_wp2
 go_loopg [3] k (fun kq v3 w' => ∃ (x3_1:Int),v3 = .int .i64 x3_1∧Aside0 (sennitref21_May.l0 kq l0 x3_1=some r)∧Aside0 (kq≤k)∧Aside0 (Below w.heap.size w w'))
 (case atStart=>exact⟨(0),rs_,H',⟨Nat.le_refl _⟩,⟨bel_⟩⟩)
 case round =>
  clear H';obtain⟨x3_1,rfl,HA,HK1,HB⟩:=hrel
  cases gk with
  | zero=>exact absurd HA.out (by simp[sennitref21_May.l0])
  | succ k1 =>
   have H:=HA.out;clear HA;(simp only[sennitref21_May.l0] at H)
   by_cases c2:x3_1 < (l0.length:Int)
   ·
    (rw[if_pos c2] at H);have c2b0:decide (x3_1 < (l0.length:Int))=true:=decide_eq_true c2;clear c2
    by_cases c3:0 < (l0.length:Int)
    ·
     (rw[if_pos c3] at H);have c3b0:decide (0 < (l0.length:Int))=true:=decide_eq_true c3;have c3b1:decide (0 < l0.length)=true:=decide_eq_true (by omega);clear c3
     by_cases c4:(((rd_T57 l0 0).f0).size:Int) < 1
     (· (rw[if_pos c4] at H);have c4b0:decide ((((rd_T57 l0 0).f0).size:Int) < 1)=true:=decide_eq_true c4;have c4b1:decide (((rd_T57 l0 0).f0).size < 1)=true:=decide_eq_true (by omega);clear c4;obtain rfl:=Option.some.inj H;have p122:0≤(0:Int):=(by omega);have q122:0 < (l0.length:Int):=dt_;obtain⟨ad122,e122,hx122_0,hx122_1⟩:=at_T57 HR0.out 0 p122 q122;cases e122;have qi122:(0 < l0.length)=True:=eq_true (by omega);(try rw[show ((0:Int)).toNat=0 from rfl] at hx122_0);(try rw[show 0 * 2=0 from rfl] at hx122_0);(try rw[Addr.add_zero'] at hx122_0);(try rw[show ((0:Int)).toNat=0 from rfl] at hx122_1);(try rw[show 0 * 2=0 from rfl] at hx122_1);(try rw[Addr.add_zero'] at hx122_1);replace hx122_0:=(HB.out.cell (World.block_lt_of_cell? w _ hx122_0)).trans hx122_0;replace hx122_1:=(HB.out.cell (World.block_lt_of_cell? w _ hx122_1)).trans hx122_1;replace p122:=eq_true p122;replace q122:=eq_true q122;go_wp2;go_ret;exact⟨by first|rfl|(simp[errW_none,errW_some] <;> rfl)|(simp[*,errW_none,errW_some] <;> rfl),bel_⟩)
     ·
      (rw[if_neg c4] at H);have c4b0:decide ((((rd_T57 l0 0).f0).size:Int) < 1)=false:=decide_eq_false c4;have c4b1:decide (((rd_T57 l0 0).f0).size < 1)=false:=decide_eq_false (by omega);clear c4
      by_cases c5:(((rd_T57 l0 0).f0).size:Int) > 16
      (· (rw[if_pos c5] at H);have c5b0:decide (16 < (((rd_T57 l0 0).f0).size:Int))=true:=decide_eq_true c5;have c5b1:decide (16 < ((rd_T57 l0 0).f0).size)=true:=decide_eq_true (by omega);clear c5;obtain rfl:=Option.some.inj H;have p122:0≤(0:Int):=(by omega);have q122:0 < (l0.length:Int):=dt_;obtain⟨ad122,e122,hx122_0,hx122_1⟩:=at_T57 HR0.out 0 p122 q122;cases e122;have qi122:(0 < l0.length)=True:=eq_true (by omega);(try rw[show ((0:Int)).toNat=0 from rfl] at hx122_0);(try rw[show 0 * 2=0 from rfl] at hx122_0);(try rw[Addr.add_zero'] at hx122_0);(try rw[show ((0:Int)).toNat=0 from rfl] at hx122_1);(try rw[show 0 * 2=0 from rfl] at hx122_1);(try rw[Addr.add_zero'] at hx122_1);replace hx122_0:=(HB.out.cell (World.block_lt_of_cell? w _ hx122_0)).trans hx122_0;replace hx122_1:=(HB.out.cell (World.block_lt_of_cell? w _ hx122_1)).trans hx122_1;replace p122:=eq_true p122;replace q122:=eq_true q122;go_wp2;go_ret;exact⟨by first|rfl|(simp[errW_none,errW_some] <;> rfl)|(simp[*,errW_none,errW_some] <;> rfl),bel_⟩)
      ·
       (rw[if_neg c5] at H);have c5b0:decide (16 < (((rd_T57 l0 0).f0).size:Int))=false:=decide_eq_false c5;have c5b1:decide (16 < ((rd_T57 l0 0).f0).size)=false:=decide_eq_false (by omega);clear c5
       by_cases c6:0≤x3_1
       ·
        (rw[if_pos c6] at H);have c6b0:decide (0≤x3_1)=true:=decide_eq_true c6;clear c6;replace H:=Option.bind_eq_some_iff.mp H;obtain⟨t124,A70,H⟩:=H;(try dsimp only at H);have A7:=Aside0.mk A70;clear A70
        by_cases c8:t124=true
        ·
         subst c8;have H1:=H;(rw[if_pos rfl] at H1);clear H;have H:=H1;clear H1;have H':=Aside0.mk H;clear H;have p122:0≤(0:Int):=(by omega);have q122:0 < (l0.length:Int):=dt_;obtain⟨ad122,e122,hx122_0,hx122_1⟩:=at_T57 HR0.out 0 p122 q122;cases e122;have qi122:(0 < l0.length)=True:=eq_true (by omega);(try rw[show ((0:Int)).toNat=0 from rfl] at hx122_0);(try rw[show 0 * 2=0 from rfl] at hx122_0);(try rw[Addr.add_zero'] at hx122_0);(try rw[show ((0:Int)).toNat=0 from rfl] at hx122_1);(try rw[show 0 * 2=0 from rfl] at hx122_1);(try rw[Addr.add_zero'] at hx122_1);replace hx122_0:=(HB.out.cell (World.block_lt_of_cell? w _ hx122_0)).trans hx122_0;replace hx122_1:=(HB.out.cell (World.block_lt_of_cell? w _ hx122_1)).trans hx122_1;replace p122:=eq_true p122;replace q122:=eq_true q122;have p123:0≤(x3_1:Int):=dt_;have q123:x3_1 < (l0.length:Int):=dt_;obtain⟨ad123,e123,hx123_0,hx123_1⟩:=at_T57 HR0.out x3_1 p123 q123;obtain rfl:ad122=ad123:=(by injection e123);replace hx123_0:=(HB.out.cell (World.block_lt_of_cell? w _ hx123_0)).trans hx123_0;replace hx123_1:=(HB.out.cell (World.block_lt_of_cell? w _ hx123_1)).trans hx123_1;replace p123:=eq_true p123;replace q123:=eq_true q123;(go_wp2_with (first|(go_at_call 57;(with_reducible refine(sennitref21_may.calls k1 ((rd_T57 l0 x3_1).f0) ((rd_T57 l0 x3_1).f1) (((rd_T57 l0 0).f0).size:Int) true _ A7.out).mono ?_);rintro e w9 ⟨rfl,hb⟩;replace HB:=Aside0.mk (bst bel_ hb);(try clear hb);(try clear hb2);(try clear hk);(try clear hi))))
         go_roundg k1
         (case measure=>have:=HK1.out;omega);(case rel=>exact⟨(wrap64 (x3_1+1)),rs_,H',⟨by have:=HK1.out;omega⟩,⟨bel_⟩⟩)
        (· replace c8:=Bool.eq_false_iff.mpr c8;subst c8;have H1:=H;(rw[if_neg (show ¬ (false=true) by decide)] at H1);clear H;have H:=H1;clear H1;obtain rfl:=Option.some.inj H;have p122:0≤(0:Int):=(by omega);have q122:0 < (l0.length:Int):=dt_;obtain⟨ad122,e122,hx122_0,hx122_1⟩:=at_T57 HR0.out 0 p122 q122;cases e122;have qi122:(0 < l0.length)=True:=eq_true (by omega);(try rw[show ((0:Int)).toNat=0 from rfl] at hx122_0);(try rw[show 0 * 2=0 from rfl] at hx122_0);(try rw[Addr.add_zero'] at hx122_0);(try rw[show ((0:Int)).toNat=0 from rfl] at hx122_1);(try rw[show 0 * 2=0 from rfl] at hx122_1);(try rw[Addr.add_zero'] at hx122_1);replace hx122_0:=(HB.out.cell (World.block_lt_of_cell? w _ hx122_0)).trans hx122_0;replace hx122_1:=(HB.out.cell (World.block_lt_of_cell? w _ hx122_1)).trans hx122_1;replace p122:=eq_true p122;replace q122:=eq_true q122;have p123:0≤(x3_1:Int):=dt_;have q123:x3_1 < (l0.length:Int):=dt_;obtain⟨ad123,e123,hx123_0,hx123_1⟩:=at_T57 HR0.out x3_1 p123 q123;obtain rfl:ad122=ad123:=(by injection e123);replace hx123_0:=(HB.out.cell (World.block_lt_of_cell? w _ hx123_0)).trans hx123_0;replace hx123_1:=(HB.out.cell (World.block_lt_of_cell? w _ hx123_1)).trans hx123_1;replace p123:=eq_true p123;replace q123:=eq_true q123;(go_wp2_with (first|(go_at_call 57;(with_reducible refine(sennitref21_may.calls k1 ((rd_T57 l0 x3_1).f0) ((rd_T57 l0 x3_1).f1) (((rd_T57 l0 0).f0).size:Int) false _ A7.out).mono ?_);rintro e w10 ⟨rfl,hb⟩;replace HB:=Aside0.mk (bst bel_ hb);(try clear hb);(try clear hb2);(try clear hk);(try clear hi))));go_ret;exact⟨by first|rfl|(simp[errW_none,errW_some] <;> rfl)|(simp[*,errW_none,errW_some] <;> rfl),bel_⟩)
       (· exact nx_ c6 H)
    (· exact nx_ c3 H)
   (· (rw[if_neg c2] at H);have c2b0:decide (x3_1 < (l0.length:Int))=false:=decide_eq_false c2;clear c2;obtain rfl:=Option.some.inj H;go_wp2;go_ret;exact⟨by first|rfl|(simp[errW_none,errW_some] <;> rfl)|(simp[*,errW_none,errW_some] <;> rfl),bel_⟩)
def sennitref21_Marked.l0:Nat→Int→ByteArray→ByteArray→Option (Bool)
  | 0,_,_,_=>none
  | k+1,x3,x126000,x126001=>if x3 < (x126000.size:Int) then (if 0≤x3 then (if (bt x126000 x3)=32 then (sennitref21_Marked.l0 k (wrap64 (x3+1)) x126000 x126001) else (some true)) else (none)) else (some false)
def sennitref21_Marked.f (k:Nat) (a0_0:ByteArray) (a0_1:ByteArray):Option (Bool):=sennitref21_Marked.l0 k 0 a0_0 a0_1
theorem sennitref21_Marked.calls (k:Nat) (a0_0:ByteArray) (a0_1:ByteArray) (r:Bool) (w:World) (h:sennitref21_Marked.f k a0_0 a0_1=some r) :
    Calls Tryd.prog 36 #[.agg #[.string a0_0, .string a0_1]] w fun e w'=>e = .returned (.bool r)∧Below w.heap.size w w':=by
 have hu57:=Tryd.underlying57;have HB:=Aside0.mk (Below.refl w.heap.size w);have H:=h;(rw[sennitref21_Marked.f] at H);clear h;have H':=Aside0.mk H;clear H;go_enter Tryd.func36,Tryd.ntmps36;(go_wp2_with (first|((with_reducible refine gate_dst (N:=1) rfl ?_);refine box_event ?hg (N:=1) ?hd (cs:=#[.string a0_0, .string a0_1]) (t:=57) ?hr ?_;(case hd=>rfl);(case hg=>rfl);(case hr=>first|(go_simp;done)|(go_simp;rfl));intro gb125 hg w2 hbox hb;have BK125:=Aside0.mk (hbox);have GW125:=Aside0.mk ((by rw[hg];exact(bsz bel_):w.heap.size≤gb125));have GE125:=Aside0.mk ((by rw[hg];exact(bsz bel_):w.heap.size≤gb125));replace HB:=Aside0.mk (bst bel_ hb);clear hb hbox hg)))
 go_loopg [3] k (fun kq v3 w' => ∃ (x3_1:Int),v3 = .int .i64 x3_1∧Aside0 (sennitref21_Marked.l0 kq x3_1 a0_0 a0_1=some r)∧Aside0 (kq≤k)∧Aside0 (w'.heap[gb125]? = some (.cells #[.string a0_0, .string a0_1] 57 (0,0)))∧Aside0 (Below w.heap.size w w'))
 (case atStart=>exact⟨(0),rs_,H',⟨Nat.le_refl _⟩,⟨pK_ BK125.out⟩,⟨bs1_ GE125.out⟩⟩)
 case round =>
  clear H';(try clear p2);obtain⟨x3_1,rfl,HA,HK1,BK125,HB⟩:=hrel
  cases gk with
  | zero=>exact absurd HA.out (by simp[sennitref21_Marked.l0])
  | succ k1 =>
   have H:=HA.out;clear HA;(simp only[sennitref21_Marked.l0] at H)
   by_cases c3:x3_1 < (a0_0.size:Int)
   ·
    (rw[if_pos c3] at H);have c3b0:decide (x3_1 < (a0_0.size:Int))=true:=decide_eq_true c3;clear c3
    by_cases c4:0≤x3_1
    ·
     (rw[if_pos c4] at H);have c4b0:decide (0≤x3_1)=true:=decide_eq_true c4;clear c4
     by_cases c6:(bt a0_0 x3_1)=32
     ·
      (rw[if_pos c6] at H);have c6b0:((bt a0_0 x3_1) == 32)=true:=beq_iff_eq.mpr c6;have c6b1:((bt a0_0 x3_1) != 32)=false:=bne_eq_false_iff_eq.mpr c6;clear c6;have H':=Aside0.mk H;clear H;have hcz7_0:wr.cell? ⟨gb125,0,none⟩=some (.string a0_0):=(bcl BK125.out 0).trans rfl;have hcz7_1:wr.cell? ⟨gb125,1,none⟩=some (.string a0_1):=(bcl BK125.out 1).trans rfl;have hfz7_0:=bfz BK125.out 0;have hfz7_1:=bfz BK125.out 1;have p5:0≤(x3_1:Int):=dt_;have q5:x3_1 < (a0_0.size:Int):=dt_;have hx5:=bt_at a0_0 x3_1;replace p5:=eq_true p5;replace q5:=eq_true q5;go_wp2
      go_roundg k1
      (case measure=>have:=HK1.out;omega);(case rel=>exact⟨(wrap64 (x3_1+1)),rs_,H',⟨by have:=HK1.out;omega⟩,⟨pK_ BK125.out⟩,⟨bs1_ GE125.out⟩⟩)
     (· (rw[if_neg c6] at H);have c6b0:((bt a0_0 x3_1) == 32)=false:=beq_eq_false_iff_ne.mpr c6;have c6b1:((bt a0_0 x3_1) != 32)=true:=bne_iff_ne.mpr c6;obtain rfl:=Option.some.inj H;have hcz8_0:wr.cell? ⟨gb125,0,none⟩=some (.string a0_0):=(bcl BK125.out 0).trans rfl;have hcz8_1:wr.cell? ⟨gb125,1,none⟩=some (.string a0_1):=(bcl BK125.out 1).trans rfl;have hfz8_0:=bfz BK125.out 0;have hfz8_1:=bfz BK125.out 1;have p5:0≤(x3_1:Int):=dt_;have q5:x3_1 < (a0_0.size:Int):=dt_;have hx5:=bt_at a0_0 x3_1;replace p5:=eq_true p5;replace q5:=eq_true q5;go_wp2;go_ret;exact⟨by first|rfl|(simp[errW_none,errW_some] <;> rfl)|(simp[*,errW_none,errW_some] <;> rfl),by repeat(first|(with_reducible first|exact HB.out|apply below_alloc|apply pw_below_drewN|apply below_drew1|refine below_set ?_ GE125.out)|exact HB.out)⟩)
    (· exact nx_ c4 H)
   (· (rw[if_neg c3] at H);have c3b0:decide (x3_1 < (a0_0.size:Int))=false:=decide_eq_false c3;clear c3;obtain rfl:=Option.some.inj H;have hcz9_0:wr.cell? ⟨gb125,0,none⟩=some (.string a0_0):=(bcl BK125.out 0).trans rfl;have hcz9_1:wr.cell? ⟨gb125,1,none⟩=some (.string a0_1):=(bcl BK125.out 1).trans rfl;have hfz9_0:=bfz BK125.out 0;have hfz9_1:=bfz BK125.out 1;go_wp2;go_ret;exact⟨by first|rfl|(simp[errW_none,errW_some] <;> rfl)|(simp[*,errW_none,errW_some] <;> rfl),by repeat(first|(with_reducible first|exact HB.out|apply below_alloc|apply pw_below_drewN|apply below_drew1|refine below_set ?_ GE125.out)|exact HB.out)⟩)
def sennitref21_end.l0:Nat→List (S57)→Int→Option (Int)
  | 0,_,_=>none
  | k+1,x0,x1=>if x1 < (x0.length:Int) then (if 0≤x1 then ((sennitref21_Marked.f k ((rd_T57 x0 x1).f0) ((rd_T57 x0 x1).f1)).bind fun t131=>(if t131=true then (sennitref21_end.l0 k x0 (wrap64 (x1+1))) else (some x1))) else (none)) else (some x1)
def sennitref21_end.f (k:Nat) (l0:List (S57)) (a1:Int):Option (Int):=sennitref21_end.l0 k l0 a1
theorem sennitref21_end.calls (k:Nat) (A0:Option Addr) (c0:Nat) (l0:List (S57)) (a1:Int) (r:Int) (w:World) (hr0:Kd.C k57 w A0 l0.length l0) (hc0:l0.length≤c0) (h:sennitref21_end.f k l0 a1=some r) :
    Calls Tryd.prog 59 #[.slice A0 l0.length c0, .int .i64 a1] w fun e w'=>e = .returned (.int .i64 r)∧Below w.heap.size w w':=by
 have hu57:=Tryd.underlying57;have HR0:=Aside0.mk hr0;have HC0:=Aside0.mk hc0;clear hr0 hc0;have HB:=Aside0.mk (Below.refl w.heap.size w);have H:=h;(rw[sennitref21_end.f] at H);clear h;have H':=Aside0.mk H;clear H;go_enter Tryd.func59,Tryd.ntmps59;go_wp2
 go_loopg [1] k (fun kq v1 w' => ∃ (x1_1:Int),v1 = .int .i64 x1_1∧Aside0 (sennitref21_end.l0 kq l0 x1_1=some r)∧Aside0 (kq≤k)∧Aside0 (Below w.heap.size w w'))
 (case atStart=>exact⟨(a1),rs_,H',⟨Nat.le_refl _⟩,⟨bel_⟩⟩)
 case round =>
  clear H';(try clear p2);obtain⟨x1_1,rfl,HA,HK1,HB⟩:=hrel
  cases gk with
  | zero=>exact absurd HA.out (by simp[sennitref21_end.l0])
  | succ k1 =>
   have H:=HA.out;clear HA;(simp only[sennitref21_end.l0] at H)
   by_cases c3:x1_1 < (l0.length:Int)
   ·
    (rw[if_pos c3] at H);have c3b0:decide (x1_1 < (l0.length:Int))=true:=decide_eq_true c3;clear c3
    by_cases c4:0≤x1_1
    ·
     (rw[if_pos c4] at H);have c4b0:decide (0≤x1_1)=true:=decide_eq_true c4;clear c4;replace H:=Option.bind_eq_some_iff.mp H;obtain⟨t131,A50,H⟩:=H;(try dsimp only at H);have A5:=Aside0.mk A50;clear A50
     by_cases c6:t131=true
     ·
      subst c6;have H1:=H;(rw[if_pos rfl] at H1);clear H;have H:=H1;clear H1;have H':=Aside0.mk H;clear H;have p130:0≤(x1_1:Int):=dt_;have q130:x1_1 < (l0.length:Int):=dt_;obtain⟨ad130,e130,hx130_0,hx130_1⟩:=at_T57 HR0.out x1_1 p130 q130;cases e130;replace hx130_0:=(HB.out.cell (World.block_lt_of_cell? w _ hx130_0)).trans hx130_0;replace hx130_1:=(HB.out.cell (World.block_lt_of_cell? w _ hx130_1)).trans hx130_1;replace p130:=eq_true p130;replace q130:=eq_true q130;(go_wp2_with (first|(go_at_call 36;(with_reducible refine(sennitref21_Marked.calls k1 ((rd_T57 l0 x1_1).f0) ((rd_T57 l0 x1_1).f1) true _ A5.out).mono ?_);rintro e w7 ⟨rfl,hb⟩;replace HB:=Aside0.mk (bst bel_ hb);(try clear hb);(try clear hb2);(try clear hk);(try clear hi))))
      go_roundg k1
      (case measure=>have:=HK1.out;omega);(case rel=>exact⟨(wrap64 (x1_1+1)),rs_,H',⟨by have:=HK1.out;omega⟩,⟨bel_⟩⟩)
     (· replace c6:=Bool.eq_false_iff.mpr c6;subst c6;have H1:=H;(rw[if_neg (show ¬ (false=true) by decide)] at H1);clear H;have H:=H1;clear H1;obtain rfl:=Option.some.inj H;have p130:0≤(x1_1:Int):=dt_;have q130:x1_1 < (l0.length:Int):=dt_;obtain⟨ad130,e130,hx130_0,hx130_1⟩:=at_T57 HR0.out x1_1 p130 q130;cases e130;replace hx130_0:=(HB.out.cell (World.block_lt_of_cell? w _ hx130_0)).trans hx130_0;replace hx130_1:=(HB.out.cell (World.block_lt_of_cell? w _ hx130_1)).trans hx130_1;replace p130:=eq_true p130;replace q130:=eq_true q130;(go_wp2_with (first|(go_at_call 36;(with_reducible refine(sennitref21_Marked.calls k1 ((rd_T57 l0 x1_1).f0) ((rd_T57 l0 x1_1).f1) false _ A5.out).mono ?_);rintro e w8 ⟨rfl,hb⟩;replace HB:=Aside0.mk (bst bel_ hb);(try clear hb);(try clear hb2);(try clear hk);(try clear hi))));go_ret;exact⟨by first|rfl|(simp[errW_none,errW_some] <;> rfl)|(simp[*,errW_none,errW_some] <;> rfl),bel_⟩)
    (· exact nx_ c4 H)
   (· (rw[if_neg c3] at H);have c3b0:decide (x1_1 < (l0.length:Int))=false:=decide_eq_false c3;clear c3;obtain rfl:=Option.some.inj H;go_wp2;go_ret;exact⟨by first|rfl|(simp[errW_none,errW_some] <;> rfl)|(simp[*,errW_none,errW_some] <;> rfl),bel_⟩)
mutual
def sennitref21_Dull.l0:Nat→List (S57)→Int→Int→Option (Bool)
  | 0,_,_,_=>none
  | k+1,x0,x3,x4=>if 0 < (x0.length:Int) then (if x4 < (((rd_T57 x0 0).f0).size:Int) then (sennitref21_Dull.l1 k x0 x3 x4 0) else (if x3 > 0 then (some (decide (x3 < (((rd_T57 x0 0).f0).size:Int)))) else (some false))) else (none)
def sennitref21_Dull.l1:Nat→List (S57)→Int→Int→Int→Option (Bool)
  | 0,_,_,_,_=>none
  | k+1,x0,x3,x4,x5=>if x5 < (x0.length:Int) then (if 0≤x5 then (if 0≤x4 then (if x4 < (((rd_T57 x0 x5).f0).size:Int) then (if 0 < (x0.length:Int) then (if x4 < (((rd_T57 x0 0).f0).size:Int) then (if (((bt ((rd_T57 x0 x5).f0) x4) == 32) != ((bt ((rd_T57 x0 0).f0) x4) == 32))=true then (some false) else (sennitref21_Dull.l1 k x0 x3 x4 (wrap64 (x5+1)))) else (none)) else (none)) else (none)) else (none)) else (none)) else (if 0 < (x0.length:Int) then (if 0≤x4 then (if x4 < (((rd_T57 x0 0).f0).size:Int) then (if (bt ((rd_T57 x0 0).f0) x4)=32 then (sennitref21_Dull.l0 k x0 (wrap64 (x3+1)) (wrap64 (x4+1))) else (sennitref21_Dull.l0 k x0 x3 (wrap64 (x4+1)))) else (none)) else (none)) else (none))
end
def sennitref21_Dull.f (k:Nat) (l0:List (S57)):Option (Bool):=if (l0.length:Int)=0 then (some false) else (sennitref21_Dull.l0 k l0 0 0)
theorem sennitref21_Dull.calls (k:Nat) (A0:Option Addr) (c0:Nat) (l0:List (S57)) (r:Bool) (w:World) (hr0:Kd.C k57 w A0 l0.length l0) (hc0:l0.length≤c0) (h:sennitref21_Dull.f k l0=some r) :
    Calls Tryd.prog 34 #[.slice A0 l0.length c0] w fun e w'=>e = .returned (.bool r)∧Drawn0 w w':=by
 have HR0:=Aside0.mk hr0;have HC0:=Aside0.mk hc0;clear hr0 hc0;have H:(if (l0.length:Int)=0 then (some false) else (sennitref21_Dull.l0 k l0 0 0))=some r:=h;clear h
 by_cases c2:(l0.length:Int)=0
 (· (rw[if_pos c2] at H);have c2b0:((l0.length:Int) == 0)=true:=beq_iff_eq.mpr c2;have c2b1:((l0.length:Int) != 0)=false:=bne_eq_false_iff_eq.mpr c2;clear c2;obtain rfl:=Option.some.inj H;go_enter Tryd.func34,Tryd.ntmps34;go_wp2;(repeat(go_quiet (fail);try go_wp2));go_ret;exact⟨by first|rfl|(simp;done)|(simp[*];done),d0_⟩)
 ·
  (rw[if_neg c2] at H);have c2b0:((l0.length:Int) == 0)=false:=beq_eq_false_iff_ne.mpr c2;have c2b1:((l0.length:Int) != 0)=true:=bne_iff_ne.mpr c2;(have c2b2 : ¬ (l0=[]):=fun h_=>c2 (by rw[h_];rfl));have H':=Aside0.mk H;clear H;go_enter Tryd.func34,Tryd.ntmps34;go_wp2;(repeat(go_quiet (fail);try go_wp2))
  go_loopg [3,4] k (fun kq v3 v4 w' => ∃ (x3_1:Int) (x4_1:Int),v3 = .int .i64 x3_1∧v4 = .int .i64 x4_1∧Aside0 (sennitref21_Dull.l0 kq l0 x3_1 x4_1=some r)∧Aside0 (kq≤k)∧Drawn0 w w')
  (case atStart=>exact⟨(0),(0),rs_,rs_,H',⟨Nat.le_refl _⟩,d0_⟩)
  case round =>
   clear H';(try clear c2);(try clear c2b0);(try clear c2b1);(try clear c2b2);(try clear p2);obtain⟨x3_1,x4_1,rfl,rfl,HA,HK1,⟨m1,rfl⟩⟩:=hrel
   cases gk with
   | zero=>exact absurd HA.out (by simp[sennitref21_Dull.l0])
   | succ k1 =>
    have H:=HA.out;clear HA;(simp only[sennitref21_Dull.l0] at H)
    by_cases c3:0 < (l0.length:Int)
    ·
     (rw[if_pos c3] at H);have c3b0:decide (0 < (l0.length:Int))=true:=decide_eq_true c3;have c3b1:decide (0 < l0.length)=true:=decide_eq_true (by omega);clear c3
     by_cases c4:x4_1 < (((rd_T57 l0 0).f0).size:Int)
     ·
      (rw[if_pos c4] at H);have c4b0:decide (x4_1 < (((rd_T57 l0 0).f0).size:Int))=true:=decide_eq_true c4;clear c4;have H':=Aside0.mk H;clear H;have p137:0≤(0:Int):=(by omega);have q137:0 < (l0.length:Int):=dt_;obtain⟨ad137,e137,hx137_0,hx137_1⟩:=at_T57 HR0.out 0 p137 q137;cases e137;have qi137:(0 < l0.length)=True:=eq_true (by omega);(try rw[show ((0:Int)).toNat=0 from rfl] at hx137_0);(try rw[show 0 * 2=0 from rfl] at hx137_0);(try rw[Addr.add_zero'] at hx137_0);(try rw[show ((0:Int)).toNat=0 from rfl] at hx137_1);(try rw[show 0 * 2=0 from rfl] at hx137_1);(try rw[Addr.add_zero'] at hx137_1);replace p137:=eq_true p137;replace q137:=eq_true q137;go_wp2;(repeat(go_quiet (fail);try go_wp2))
      go_loopg [5] k1 (fun kq v5 w' => ∃ (x5_2:Int),v5 = .int .i64 x5_2∧Aside0 (sennitref21_Dull.l1 kq l0 x3_1 x4_1 x5_2=some r)∧Aside0 (kq≤k1)∧Drawn0 w w')
      (case atStart=>exact⟨(0),rs_,H',⟨Nat.le_refl _⟩,d0_⟩)
      case round =>
       clear H';(try clear p1);(try clear q1);(try clear hx1);(try clear qi1);(try clear c2);(try clear c2b0);(try clear c2b1);(try clear c2b2);(try clear p2);(try clear c3);(try clear c3b0);(try clear c3b1);(try clear c4);(try clear c4b0);(try clear hx137_0);(try clear hx137_1);(try clear p137);(try clear p2);(try clear q137);obtain⟨x5_2,rfl,HA,HK2,⟨m2,rfl⟩⟩:=hrel
       cases gk with
       | zero=>exact absurd HA.out (by simp[sennitref21_Dull.l1])
       | succ k2 =>
        have H:=HA.out;clear HA;(simp only[sennitref21_Dull.l1] at H)
        by_cases c5:x5_2 < (l0.length:Int)
        ·
         (rw[if_pos c5] at H);have c5b0:decide (x5_2 < (l0.length:Int))=true:=decide_eq_true c5;clear c5
         by_cases c6:0≤x5_2
         ·
          (rw[if_pos c6] at H);have c6b0:decide (0≤x5_2)=true:=decide_eq_true c6;clear c6
          by_cases c7:0≤x4_1
          ·
           (rw[if_pos c7] at H);have c7b0:decide (0≤x4_1)=true:=decide_eq_true c7;clear c7
           by_cases c8:x4_1 < (((rd_T57 l0 x5_2).f0).size:Int)
           ·
            (rw[if_pos c8] at H);have c8b0:decide (x4_1 < (((rd_T57 l0 x5_2).f0).size:Int))=true:=decide_eq_true c8;clear c8
            by_cases c10:0 < (l0.length:Int)
            ·
             (rw[if_pos c10] at H);have c10b0:decide (0 < (l0.length:Int))=true:=decide_eq_true c10;have c10b1:decide (0 < l0.length)=true:=decide_eq_true (by omega);clear c10
             by_cases c11:x4_1 < (((rd_T57 l0 0).f0).size:Int)
             ·
              (rw[if_pos c11] at H);have c11b0:decide (x4_1 < (((rd_T57 l0 0).f0).size:Int))=true:=decide_eq_true c11;clear c11
              by_cases c13:(((bt ((rd_T57 l0 x5_2).f0) x4_1) == 32) != ((bt ((rd_T57 l0 0).f0) x4_1) == 32))=true
              (· (rw[if_pos c13] at H);have c13b0:(((bt ((rd_T57 l0 x5_2).f0) x4_1) == 32) != ((bt ((rd_T57 l0 0).f0) x4_1) == 32))=true:=c13;(try(have c13b1:decide (((bt ((rd_T57 l0 x5_2).f0) x4_1) == 32)=((bt ((rd_T57 l0 0).f0) x4_1) == 32))=false:=by simpa using c13));(try(have c13b2:(((bt ((rd_T57 l0 x5_2).f0) x4_1) == 32) == ((bt ((rd_T57 l0 0).f0) x4_1) == 32))=false:=by simpa using c13));(try(have c13b3 : ¬ (((bt ((rd_T57 l0 x5_2).f0) x4_1) == 32)=((bt ((rd_T57 l0 0).f0) x4_1) == 32)):=by simpa using c13));clear c13;obtain rfl:=Option.some.inj H;have p139:0≤(x5_2:Int):=dt_;have q139:x5_2 < (l0.length:Int):=dt_;obtain⟨ad139,e139,hx139_0,hx139_1⟩:=at_T57 HR0.out x5_2 p139 q139;obtain rfl:ad137=ad139:=(by injection e139);replace p139:=eq_true p139;replace q139:=eq_true q139;have p9:0≤(x4_1:Int):=dt_;have q9:x4_1 < (((rd_T57 l0 x5_2).f0).size:Int):=dt_;have hx9:=bt_at ((rd_T57 l0 x5_2).f0) x4_1;replace p9:=eq_true p9;replace q9:=eq_true q9;have p140:0≤(0:Int):=(by omega);have q140:0 < (l0.length:Int):=dt_;obtain⟨ad140,e140,hx140_0,hx140_1⟩:=at_T57 HR0.out 0 p140 q140;obtain rfl:ad137=ad140:=(by injection e140);have qi140:(0 < l0.length)=True:=eq_true (by omega);(try rw[show ((0:Int)).toNat=0 from rfl] at hx140_0);(try rw[show 0 * 2=0 from rfl] at hx140_0);(try rw[Addr.add_zero'] at hx140_0);(try rw[show ((0:Int)).toNat=0 from rfl] at hx140_1);(try rw[show 0 * 2=0 from rfl] at hx140_1);(try rw[Addr.add_zero'] at hx140_1);replace p140:=eq_true p140;replace q140:=eq_true q140;have p12:0≤(x4_1:Int):=dt_;have q12:x4_1 < (((rd_T57 l0 0).f0).size:Int):=dt_;have hx12:=bt_at ((rd_T57 l0 0).f0) x4_1;replace p12:=eq_true p12;replace q12:=eq_true q12;go_wp2;(repeat(go_quiet (fail);try go_wp2));go_ret;exact⟨by first|rfl|(simp;done)|(simp[*];done),d0_⟩)
              ·
               (rw[if_neg c13] at H);(have c13b0:(((bt ((rd_T57 l0 x5_2).f0) x4_1) == 32) != ((bt ((rd_T57 l0 0).f0) x4_1) == 32))=false:=by simpa using c13);(try(have c13b1:decide (((bt ((rd_T57 l0 x5_2).f0) x4_1) == 32)=((bt ((rd_T57 l0 0).f0) x4_1) == 32))=true:=by simpa using c13));(try(have c13b2:(((bt ((rd_T57 l0 x5_2).f0) x4_1) == 32) == ((bt ((rd_T57 l0 0).f0) x4_1) == 32))=true:=by simpa using c13));clear c13;have H':=Aside0.mk H;clear H;have p139:0≤(x5_2:Int):=dt_;have q139:x5_2 < (l0.length:Int):=dt_;obtain⟨ad139,e139,hx139_0,hx139_1⟩:=at_T57 HR0.out x5_2 p139 q139;obtain rfl:ad137=ad139:=(by injection e139);replace p139:=eq_true p139;replace q139:=eq_true q139;have p9:0≤(x4_1:Int):=dt_;have q9:x4_1 < (((rd_T57 l0 x5_2).f0).size:Int):=dt_;have hx9:=bt_at ((rd_T57 l0 x5_2).f0) x4_1;replace p9:=eq_true p9;replace q9:=eq_true q9;have p140:0≤(0:Int):=(by omega);have q140:0 < (l0.length:Int):=dt_;obtain⟨ad140,e140,hx140_0,hx140_1⟩:=at_T57 HR0.out 0 p140 q140;obtain rfl:ad137=ad140:=(by injection e140);have qi140:(0 < l0.length)=True:=eq_true (by omega);(try rw[show ((0:Int)).toNat=0 from rfl] at hx140_0);(try rw[show 0 * 2=0 from rfl] at hx140_0);(try rw[Addr.add_zero'] at hx140_0);(try rw[show ((0:Int)).toNat=0 from rfl] at hx140_1);(try rw[show 0 * 2=0 from rfl] at hx140_1);(try rw[Addr.add_zero'] at hx140_1);replace p140:=eq_true p140;replace q140:=eq_true q140;have p12:0≤(x4_1:Int):=dt_;have q12:x4_1 < (((rd_T57 l0 0).f0).size:Int):=dt_;have hx12:=bt_at ((rd_T57 l0 0).f0) x4_1;replace p12:=eq_true p12;replace q12:=eq_true q12;go_wp2;(repeat(go_quiet (fail);try go_wp2))
               go_roundg k2
               (case measure=>have:=HK1.out;have:=HK2.out;omega);(case rel=>exact⟨(wrap64 (x5_2+1)),rs_,H',⟨by have:=HK1.out;have:=HK2.out;omega⟩,d0_⟩)
             (· exact nx_ c11 H)
            (· exact nx_ c10 H)
           (· exact nx_ c8 H)
          (· exact nx_ c7 H)
         (· exact nx_ c6 H)
        ·
         (rw[if_neg c5] at H);have c5b0:decide (x5_2 < (l0.length:Int))=false:=decide_eq_false c5;clear c5
         by_cases c14:0 < (l0.length:Int)
         ·
          (rw[if_pos c14] at H);have c14b0:decide (0 < (l0.length:Int))=true:=decide_eq_true c14;have c14b1:decide (0 < l0.length)=true:=decide_eq_true (by omega);clear c14
          by_cases c15:0≤x4_1
          ·
           (rw[if_pos c15] at H);have c15b0:decide (0≤x4_1)=true:=decide_eq_true c15;clear c15
           by_cases c16:x4_1 < (((rd_T57 l0 0).f0).size:Int)
           ·
            (rw[if_pos c16] at H);have c16b0:decide (x4_1 < (((rd_T57 l0 0).f0).size:Int))=true:=decide_eq_true c16;clear c16
            by_cases c18:(bt ((rd_T57 l0 0).f0) x4_1)=32
            ·
             (rw[if_pos c18] at H);have c18b0:((bt ((rd_T57 l0 0).f0) x4_1) == 32)=true:=beq_iff_eq.mpr c18;have c18b1:((bt ((rd_T57 l0 0).f0) x4_1) != 32)=false:=bne_eq_false_iff_eq.mpr c18;clear c18;have H':=Aside0.mk H;clear H;have p141:0≤(0:Int):=(by omega);have q141:0 < (l0.length:Int):=dt_;obtain⟨ad141,e141,hx141_0,hx141_1⟩:=at_T57 HR0.out 0 p141 q141;obtain rfl:ad137=ad141:=(by injection e141);have qi141:(0 < l0.length)=True:=eq_true (by omega);(try rw[show ((0:Int)).toNat=0 from rfl] at hx141_0);(try rw[show 0 * 2=0 from rfl] at hx141_0);(try rw[Addr.add_zero'] at hx141_0);(try rw[show ((0:Int)).toNat=0 from rfl] at hx141_1);(try rw[show 0 * 2=0 from rfl] at hx141_1);(try rw[Addr.add_zero'] at hx141_1);replace p141:=eq_true p141;replace q141:=eq_true q141;have p17:0≤(x4_1:Int):=dt_;have q17:x4_1 < (((rd_T57 l0 0).f0).size:Int):=dt_;have hx17:=bt_at ((rd_T57 l0 0).f0) x4_1;replace p17:=eq_true p17;replace q17:=eq_true q17;go_wp2;(repeat(go_quiet (fail);try go_wp2))
             go_roundg k2
             (case measure=>have:=HK1.out;have:=HK2.out;omega);(case rel=>exact⟨(wrap64 (x3_1+1)),(wrap64 (x4_1+1)),rs_,rs_,H',⟨by have:=HK1.out;have:=HK2.out;omega⟩,d0_⟩)
            ·
             (rw[if_neg c18] at H);have c18b0:((bt ((rd_T57 l0 0).f0) x4_1) == 32)=false:=beq_eq_false_iff_ne.mpr c18;have c18b1:((bt ((rd_T57 l0 0).f0) x4_1) != 32)=true:=bne_iff_ne.mpr c18;have H':=Aside0.mk H;clear H;have p141:0≤(0:Int):=(by omega);have q141:0 < (l0.length:Int):=dt_;obtain⟨ad141,e141,hx141_0,hx141_1⟩:=at_T57 HR0.out 0 p141 q141;obtain rfl:ad137=ad141:=(by injection e141);have qi141:(0 < l0.length)=True:=eq_true (by omega);(try rw[show ((0:Int)).toNat=0 from rfl] at hx141_0);(try rw[show 0 * 2=0 from rfl] at hx141_0);(try rw[Addr.add_zero'] at hx141_0);(try rw[show ((0:Int)).toNat=0 from rfl] at hx141_1);(try rw[show 0 * 2=0 from rfl] at hx141_1);(try rw[Addr.add_zero'] at hx141_1);replace p141:=eq_true p141;replace q141:=eq_true q141;have p17:0≤(x4_1:Int):=dt_;have q17:x4_1 < (((rd_T57 l0 0).f0).size:Int):=dt_;have hx17:=bt_at ((rd_T57 l0 0).f0) x4_1;replace p17:=eq_true p17;replace q17:=eq_true q17;go_wp2;(repeat(go_quiet (fail);try go_wp2))
             go_roundg k2
             (case measure=>have:=HK1.out;have:=HK2.out;omega);(case rel=>exact⟨(x3_1),(wrap64 (x4_1+1)),rs_,rs_,H',⟨by have:=HK1.out;have:=HK2.out;omega⟩,d0_⟩)
           (· exact nx_ c16 H)
          (· exact nx_ c15 H)
         (· exact nx_ c14 H)
     ·
      (rw[if_neg c4] at H);have c4b0:decide (x4_1 < (((rd_T57 l0 0).f0).size:Int))=false:=decide_eq_false c4;clear c4
      by_cases c19:x3_1 > 0
      (· (rw[if_pos c19] at H);have c19b0:decide (0 < x3_1)=true:=decide_eq_true c19;clear c19;obtain rfl:=Option.some.inj H;have p137:0≤(0:Int):=(by omega);have q137:0 < (l0.length:Int):=dt_;obtain⟨ad137,e137,hx137_0,hx137_1⟩:=at_T57 HR0.out 0 p137 q137;cases e137;have qi137:(0 < l0.length)=True:=eq_true (by omega);(try rw[show ((0:Int)).toNat=0 from rfl] at hx137_0);(try rw[show 0 * 2=0 from rfl] at hx137_0);(try rw[Addr.add_zero'] at hx137_0);(try rw[show ((0:Int)).toNat=0 from rfl] at hx137_1);(try rw[show 0 * 2=0 from rfl] at hx137_1);(try rw[Addr.add_zero'] at hx137_1);replace p137:=eq_true p137;replace q137:=eq_true q137;have p138:0≤(0:Int):=(by omega);have q138:0 < (l0.length:Int):=dt_;obtain⟨ad138,e138,hx138_0,hx138_1⟩:=at_T57 HR0.out 0 p138 q138;obtain rfl:ad137=ad138:=(by injection e138);have qi138:(0 < l0.length)=True:=eq_true (by omega);(try rw[show ((0:Int)).toNat=0 from rfl] at hx138_0);(try rw[show 0 * 2=0 from rfl] at hx138_0);(try rw[Addr.add_zero'] at hx138_0);(try rw[show ((0:Int)).toNat=0 from rfl] at hx138_1);(try rw[show 0 * 2=0 from rfl] at hx138_1);(try rw[Addr.add_zero'] at hx138_1);replace p138:=eq_true p138;replace q138:=eq_true q138;go_wp2;(repeat(go_quiet (fail);try go_wp2));go_ret;exact⟨by first|rfl|(simp;done)|(simp[*];done),d0_⟩);(· (rw[if_neg c19] at H);have c19b0:decide (0 < x3_1)=false:=decide_eq_false c19;clear c19;obtain rfl:=Option.some.inj H;have p137:0≤(0:Int):=(by omega);have q137:0 < (l0.length:Int):=dt_;obtain⟨ad137,e137,hx137_0,hx137_1⟩:=at_T57 HR0.out 0 p137 q137;cases e137;have qi137:(0 < l0.length)=True:=eq_true (by omega);(try rw[show ((0:Int)).toNat=0 from rfl] at hx137_0);(try rw[show 0 * 2=0 from rfl] at hx137_0);(try rw[Addr.add_zero'] at hx137_0);(try rw[show ((0:Int)).toNat=0 from rfl] at hx137_1);(try rw[show 0 * 2=0 from rfl] at hx137_1);(try rw[Addr.add_zero'] at hx137_1);replace p137:=eq_true p137;replace q137:=eq_true q137;go_wp2;(repeat(go_quiet (fail);try go_wp2));go_ret;exact⟨by first|rfl|(simp;done)|(simp[*];done),d0_⟩)
    (· exact nx_ c3 H)
def sennitref21_begin.l0:Nat→List (S57)→Int→Option (Int)
  | 0,_,_=>none
  | k+1,x0,x1=>if x1 > 0 then (if 0≤(wrap64 (x1 - 1)) then (if (wrap64 (x1 - 1)) < (x0.length:Int) then ((sennitref21_Marked.f k ((rd_T57 x0 (wrap64 (x1 - 1))).f0) ((rd_T57 x0 (wrap64 (x1 - 1))).f1)).bind fun t143=>(if t143=true then (sennitref21_begin.l0 k x0 (wrap64 (x1 - 1))) else (some x1))) else (none)) else (none)) else (some x1)
def sennitref21_begin.f (k:Nat) (l0:List (S57)) (a1:Int):Option (Int):=sennitref21_begin.l0 k l0 a1
theorem sennitref21_begin.calls (k:Nat) (A0:Option Addr) (c0:Nat) (l0:List (S57)) (a1:Int) (r:Int) (w:World) (hr0:Kd.C k57 w A0 l0.length l0) (hc0:l0.length≤c0) (h:sennitref21_begin.f k l0 a1=some r) :
    Calls Tryd.prog 103 #[.slice A0 l0.length c0, .int .i64 a1] w fun e w'=>e = .returned (.int .i64 r)∧Below w.heap.size w w':=by
 have hu57:=Tryd.underlying57;have HR0:=Aside0.mk hr0;have HC0:=Aside0.mk hc0;clear hr0 hc0;have HB:=Aside0.mk (Below.refl w.heap.size w);have H:=h;(rw[sennitref21_begin.f] at H);clear h;have H':=Aside0.mk H;clear H;go_enter Tryd.func103,Tryd.ntmps103;go_wp2
 go_loopg [1] k (fun kq v1 w' => ∃ (x1_1:Int),v1 = .int .i64 x1_1∧Aside0 (sennitref21_begin.l0 kq l0 x1_1=some r)∧Aside0 (kq≤k)∧Aside0 (Below w.heap.size w w'))
 (case atStart=>exact⟨(a1),rs_,H',⟨Nat.le_refl _⟩,⟨bel_⟩⟩)
 case round =>
  clear H';(try clear c1);(try clear p2);obtain⟨x1_1,rfl,HA,HK1,HB⟩:=hrel
  cases gk with
  | zero=>exact absurd HA.out (by simp[sennitref21_begin.l0])
  | succ k1 =>
   have H:=HA.out;clear HA;(simp only[sennitref21_begin.l0] at H)
   by_cases c3:x1_1 > 0
   ·
    (rw[if_pos c3] at H);have c3b0:decide (0 < x1_1)=true:=decide_eq_true c3;clear c3;obtain⟨ji4,hji4⟩ : ∃ j_:Int,(wrap64 (x1_1 - 1))=j_:=⟨_,rfl⟩;(first|rw[hji4] at H|simp only[hji4] at H);have hji4w:(IntKind.i64.wrap (x1_1 - 1))=ji4:=(i64_w _).trans hji4
    by_cases c5:0≤(ji4)
    ·
     (rw[if_pos c5] at H);have c5b0:decide (0≤(ji4))=true:=decide_eq_true c5;clear c5
     by_cases c6:(ji4) < (l0.length:Int)
     ·
      (rw[if_pos c6] at H);have c6b0:decide ((ji4) < (l0.length:Int))=true:=decide_eq_true c6;clear c6;replace H:=Option.bind_eq_some_iff.mp H;obtain⟨t143,A70,H⟩:=H;(try dsimp only at H);have A7:=Aside0.mk A70;clear A70
      by_cases c8:t143=true
      ·
       subst c8;have H1:=H;(rw[if_pos rfl] at H1);clear H;have H:=H1;clear H1;have H':=Aside0.mk H;clear H;have p142:0≤((ji4):Int):=dt_;have q142:(ji4) < (l0.length:Int):=dt_;obtain⟨ad142,e142,hx142_0,hx142_1⟩:=at_T57 HR0.out (ji4) p142 q142;cases e142;replace hx142_0:=(HB.out.cell (World.block_lt_of_cell? w _ hx142_0)).trans hx142_0;replace hx142_1:=(HB.out.cell (World.block_lt_of_cell? w _ hx142_1)).trans hx142_1;replace p142:=eq_true p142;replace q142:=eq_true q142;(go_wp2_with (first|(go_at_call 36;(with_reducible refine(sennitref21_Marked.calls k1 ((rd_T57 l0 (ji4)).f0) ((rd_T57 l0 (ji4)).f1) true _ A7.out).mono ?_);rintro e w9 ⟨rfl,hb⟩;replace HB:=Aside0.mk (bst bel_ hb);(try clear hb);(try clear hb2);(try clear hk);(try clear hi))))
       go_roundg k1
       (case measure=>have:=HK1.out;omega);(case rel=>exact⟨(ji4),(by first|rfl|(simp;done)|(simp only[← hji4] <;> (first|rfl|simp))|(simp[*];done)),H',⟨by have:=HK1.out;omega⟩,⟨bel_⟩⟩)
      (· replace c8:=Bool.eq_false_iff.mpr c8;subst c8;have H1:=H;(rw[if_neg (show ¬ (false=true) by decide)] at H1);clear H;have H:=H1;clear H1;obtain rfl:=Option.some.inj H;have p142:0≤((ji4):Int):=dt_;have q142:(ji4) < (l0.length:Int):=dt_;obtain⟨ad142,e142,hx142_0,hx142_1⟩:=at_T57 HR0.out (ji4) p142 q142;cases e142;replace hx142_0:=(HB.out.cell (World.block_lt_of_cell? w _ hx142_0)).trans hx142_0;replace hx142_1:=(HB.out.cell (World.block_lt_of_cell? w _ hx142_1)).trans hx142_1;replace p142:=eq_true p142;replace q142:=eq_true q142;(go_wp2_with (first|(go_at_call 36;(with_reducible refine(sennitref21_Marked.calls k1 ((rd_T57 l0 (ji4)).f0) ((rd_T57 l0 (ji4)).f1) false _ A7.out).mono ?_);rintro e w10 ⟨rfl,hb⟩;replace HB:=Aside0.mk (bst bel_ hb);(try clear hb);(try clear hb2);(try clear hk);(try clear hi))));go_ret;exact⟨by first|rfl|(simp[errW_none,errW_some] <;> rfl)|(simp only[← hji4];first|rfl|(simp[errW_none,errW_some] <;> rfl))|(simp[*,errW_none,errW_some] <;> rfl),bel_⟩)
     (· exact nx_ c6 H)
    (· exact nx_ c5 H)
   (· (rw[if_neg c3] at H);have c3b0:decide (0 < x1_1)=false:=decide_eq_false c3;clear c3;obtain rfl:=Option.some.inj H;go_wp2;go_ret;exact⟨by first|rfl|(simp[errW_none,errW_some] <;> rfl)|(simp[*,errW_none,errW_some] <;> rfl),bel_⟩)
def sennitref21_kept.f (k:Nat) (l0:List (S57)) (a1:Int) (a2:Bool):Option (Bool):=if 0≤a1 then (if a1 < (l0.length:Int) then ((sennitref21_Marked.f k ((rd_T57 l0 a1).f0) ((rd_T57 l0 a1).f1)).bind fun t145=>(if t145=true then (if a2=true then ((sennitref21_begin.f k l0 a1).bind fun t146=>((sennitref21_end.f k l0 a1).bind fun t147=>(if 0≤t146 then (if t146≤t147 then (if t147≤(l0.length:Int) then ((sennitref21_Dull.f k ((l0.take (t147:Int).toNat).drop (t146:Int).toNat)).bind fun t152=>(some (!t152))) else (none)) else (none)) else (none)))) else (some (!false))) else (some false))) else (none)) else (none)
theorem sennitref21_kept.calls (k:Nat) (A0:Option Addr) (c0:Nat) (l0:List (S57)) (a1:Int) (a2:Bool) (r:Bool) (w:World) (hr0:Kd.C k57 w A0 l0.length l0) (hc0:l0.length≤c0) (h:sennitref21_kept.f k l0 a1 a2=some r) :
    Calls Tryd.prog 80 #[.slice A0 l0.length c0, .int .i64 a1, .bool a2] w fun e w'=>e = .returned (.bool r)∧Below w.heap.size w w':=by
 have hu57:=Tryd.underlying57;have HR0:=Aside0.mk hr0;have HC0:=Aside0.mk hc0;clear hr0 hc0;have HB:=Aside0.mk (Below.refl w.heap.size w);have H:=h;(rw[sennitref21_kept.f] at H);clear h
 by_cases c4:0≤a1
 ·
  (rw[if_pos c4] at H);have c4b0:decide (0≤a1)=true:=decide_eq_true c4;clear c4
  by_cases c5:a1 < (l0.length:Int)
  ·
   (rw[if_pos c5] at H);have c5b0:decide (a1 < (l0.length:Int))=true:=decide_eq_true c5;clear c5;replace H:=Option.bind_eq_some_iff.mp H;obtain⟨t145,A60,H⟩:=H;(try dsimp only at H);have A6:=Aside0.mk A60;clear A60
   by_cases c7:t145=true
   ·
    subst c7;have H1:=H;(rw[if_pos rfl] at H1);clear H;have H:=H1;clear H1
    by_cases c8:a2=true
    ·
     subst c8;have H1:=H;(rw[if_pos rfl] at H1);clear H;have H:=H1;clear H1;replace H:=Option.bind_eq_some_iff.mp H;obtain⟨t146,A90,H⟩:=H;(try dsimp only at H);have A9:=Aside0.mk A90;clear A90;replace H:=Option.bind_eq_some_iff.mp H;obtain⟨t147,A100,H⟩:=H;(try dsimp only at H);have A10:=Aside0.mk A100;clear A100
     by_cases c11:0≤t146
     ·
      (rw[if_pos c11] at H);have c11b0:=eq_true c11;have c11b1:decide (0≤t146)=true:=decide_eq_true c11;clear c11
      by_cases c12:t146≤t147
      ·
       (rw[if_pos c12] at H);have c12b0:=eq_true c12;have c12b1:decide (t146≤t147)=true:=decide_eq_true c12;clear c12
       by_cases c13:t147≤(l0.length:Int)
       (· (rw[if_pos c13] at H);have c13b0:=eq_true c13;have c13b1:decide (t147≤(l0.length:Int))=true:=decide_eq_true c13;clear c13;obtain⟨y148,hy148⟩ : ∃ y_:List (S57),y_=((l0.take (t147:Int).toNat).drop (t146:Int).toNat):=⟨_,rfl⟩;((try rw[Option.bind_some] at H);rw[← hy148] at H);have Ny148:=Aside0.mk hy148;clear hy148;replace H:=Option.bind_eq_some_iff.mp H;obtain⟨t152,A140,H⟩:=H;(try dsimp only at H);have A14:=Aside0.mk A140;clear A140;obtain rfl:=Option.some.inj H;have p144:0≤(a1:Int):=dt_;have q144:a1 < (l0.length:Int):=dt_;obtain⟨ad144,e144,hx144_0,hx144_1⟩:=at_T57 HR0.out a1 p144 q144;cases e144;replace p144:=eq_true p144;replace q144:=eq_true q144;go_enter Tryd.func80,Tryd.ntmps80;(go_wp2_with (first|((with_reducible refine gate_callee (f:=36) rfl ?_);refine goesL_ (some 11) rfl rfl Tryd.func36 (by kernel_rfl) rfl #[.agg #[.string ((rd_T57 l0 a1).f0), .string ((rd_T57 l0 a1).f1)]] rfl am_ ?_;(with_reducible refine(sennitref21_Marked.calls k ((rd_T57 l0 a1).f0) ((rd_T57 l0 a1).f1) true _ A6.out).mono ?_);rintro e w15 ⟨rfl,hb⟩;refine⟨_,rfl,?_⟩;replace HB:=Aside0.mk (bst bel_ hb);(try clear hb);(try clear hb2);(try clear hk);(try clear hi))|(go_at_call 103;(with_reducible refine(sennitref21_begin.calls k _ _ l0 a1 t146 _ ?side1 ?side2 A9.out).mono ?_);(case side1=>repeat(first|exact(Kd.C_below HR0.out HB.out)|(with_reducible refine Kd.C_alloc ?_ _)|(with_reducible refine Kd.C_drewN ?_ _)|(with_reducible refine Kd.C_drew ?_)));(case side2=>exact HC0.out);rintro e w16 ⟨rfl,hb⟩;replace HB:=Aside0.mk (bst bel_ hb);(try clear hb);(try clear hb2);(try clear hk);(try clear hi))|(go_at_call 59;(with_reducible refine(sennitref21_end.calls k _ _ l0 a1 t147 _ ?side1 ?side2 A10.out).mono ?_);(case side1=>repeat(first|exact(Kd.C_below HR0.out HB.out)|(with_reducible refine Kd.C_alloc ?_ _)|(with_reducible refine Kd.C_drewN ?_ _)|(with_reducible refine Kd.C_drew ?_)));(case side2=>exact HC0.out);rintro e w17 ⟨rfl,hb⟩;replace HB:=Aside0.mk (bst bel_ hb);(try clear hb);(try clear hb2);(try clear hk);(try clear hi);have q18:(t147:Int)≤((l0.length:Int):Int):=dt_;obtain⟨i018,hi018,_,hsz18,_⟩:=info_parts info57;have hroom18:l0.length≤c0:=HC0.out;have hC18:Kd.C k57 _ (some ad144) l0.length l0:=HR0.out;have ql18:(t146:Int)≤(t147:Int):=dt_;have q018:(0:Int)≤(t146:Int):=dt_;have hcut18:=cut_mid (P:=Tryd.prog) 36 57 .i64 .i64 Tryd.underlying36 hi018 2 hsz18 (some ad144) l0.length c0 t146 t147 q018 ql18 q18 hroom18;have hr18:=Kd.C_mid (lo:=(t146:Int).toNat) (hi:=(t147:Int).toNat) (c:=c0) hC18 (by omega) (by omega) hroom18;obtain⟨A18,hA18⟩ : ∃ Az_,Az_=(if c0=(t146:Int).toNat then (some ad144) else ((some ad144):Option Addr).map (·.add ((t146:Int).toNat * 2))):=⟨_,rfl⟩;obtain⟨c18,hc18⟩ : ∃ c1,c1=c0 - (t146:Int).toNat:=⟨_,rfl⟩;have hy18:y148.length=(t147:Int).toNat - (t146:Int).toNat:=(by rw[Ny148.out,List.length_drop,List.length_take] <;> omega);rw[show ((l0).take (t147:Int).toNat).drop (t146:Int).toNat=y148 from Ny148.out.symm] at hr18;replace hr18:Kd.C k57 _ A18 y148.length y148:=(by rw[hA18];exact hr18);rw[← hy18,← hA18,← hc18] at hcut18;have HR151:=Aside0.mk hr18;have HC151:=Aside0.mk (show y148.length≤c18 from by rw[hy18,hc18];exact Nat.sub_le_sub_right (Nat.le_trans (by omega) hroom18) _);clear hr18 hC18 hroom18 hi018 hsz18 hc18;have KY18:=Aside0.mk hy18;have KA18:=Aside0.mk hA18;clear hy18 hA18;replace q18:=eq_true q18)|(go_at_call 34;(with_reducible refine(sennitref21_Dull.calls k _ _ y148 t152 _ ?side1 ?side2 A14.out).mono ?_);(case side1=>repeat(first|exact(Kd.C_below HR151.out HB.out)|(with_reducible refine Kd.C_alloc ?_ _)|(with_reducible refine Kd.C_drewN ?_ _)|(with_reducible refine Kd.C_drew ?_)));(case side2=>exact HC151.out);rintro e w' ⟨rfl,⟨nd,rfl⟩⟩)));go_ret;exact⟨by first|rfl|(simp[errW_none,errW_some] <;> rfl)|(simp[*,errW_none,errW_some] <;> rfl),bel_⟩);(· exact nx_ c13 H)
      (· exact nx_ c12 H)
     (· exact nx_ c11 H)
    (· replace c8:=Bool.eq_false_iff.mpr c8;subst c8;have H1:=H;(rw[if_neg (show ¬ (false=true) by decide)] at H1);clear H;have H:=H1;clear H1;obtain rfl:=Option.some.inj H;have p144:0≤(a1:Int):=dt_;have q144:a1 < (l0.length:Int):=dt_;obtain⟨ad144,e144,hx144_0,hx144_1⟩:=at_T57 HR0.out a1 p144 q144;cases e144;replace p144:=eq_true p144;replace q144:=eq_true q144;go_enter Tryd.func80,Tryd.ntmps80;(go_wp2_with (first|((with_reducible refine gate_callee (f:=36) rfl ?_);refine goesL_ (some 11) rfl rfl Tryd.func36 (by kernel_rfl) rfl #[.agg #[.string ((rd_T57 l0 a1).f0), .string ((rd_T57 l0 a1).f1)]] rfl am_ ?_;(with_reducible refine(sennitref21_Marked.calls k ((rd_T57 l0 a1).f0) ((rd_T57 l0 a1).f1) true _ A6.out).mono ?_);rintro e w19 ⟨rfl,hb⟩;refine⟨_,rfl,?_⟩;replace HB:=Aside0.mk (bst bel_ hb);(try clear hb);(try clear hb2);(try clear hk);(try clear hi))));go_ret;exact⟨by first|rfl|(simp[errW_none,errW_some] <;> rfl)|(simp[*,errW_none,errW_some] <;> rfl),bel_⟩)
   (· replace c7:=Bool.eq_false_iff.mpr c7;subst c7;have H1:=H;(rw[if_neg (show ¬ (false=true) by decide)] at H1);clear H;have H:=H1;clear H1;obtain rfl:=Option.some.inj H;have p144:0≤(a1:Int):=dt_;have q144:a1 < (l0.length:Int):=dt_;obtain⟨ad144,e144,hx144_0,hx144_1⟩:=at_T57 HR0.out a1 p144 q144;cases e144;replace p144:=eq_true p144;replace q144:=eq_true q144;go_enter Tryd.func80,Tryd.ntmps80;(go_wp2_with (first|((with_reducible refine gate_callee (f:=36) rfl ?_);refine goesL_ (some 11) rfl rfl Tryd.func36 (by kernel_rfl) rfl #[.agg #[.string ((rd_T57 l0 a1).f0), .string ((rd_T57 l0 a1).f1)]] rfl am_ ?_;(with_reducible refine(sennitref21_Marked.calls k ((rd_T57 l0 a1).f0) ((rd_T57 l0 a1).f1) false _ A6.out).mono ?_);rintro e w20 ⟨rfl,hb⟩;refine⟨_,rfl,?_⟩;replace HB:=Aside0.mk (bst bel_ hb);(try clear hb);(try clear hb2);(try clear hk);(try clear hi))));go_ret;exact⟨by first|rfl|(simp[errW_none,errW_some] <;> rfl)|(simp[*,errW_none,errW_some] <;> rfl),bel_⟩)
  (· exact nx_ c5 H)
 (· exact nx_ c4 H)
attribute [local go_sem high] eqA57
mutual
def sennitref21_shown.j1:Nat→List (S57)→Int→Int→Bool→Int→Option (Bool)
  | 0,_,_,_,_,_=>none
  | k+1,x0,x1,x2,x3,x9=>sennitref21_shown.l1 k x0 x1 x2 x3 x9 (wrap64 (x1+1))
def sennitref21_shown.l1:Nat→List (S57)→Int→Int→Bool→Int→Int→Option (Bool)
  | 0,_,_,_,_,_,_=>none
  | k+1,x0,x1,x2,x3,x9,x10=>if x10 < (x0.length:Int) then (if 0≤x10 then ((sennitref21_Marked.f k ((rd_T57 x0 x10).f0) ((rd_T57 x0 x10).f1)).bind fun t159=>(if t159=true then (if x9 ≥ 0 then (if (wrap64 (x1 - x9))≤x2 then ((sennitref21_kept.f k x0 x9 x3).bind fun t160=>(if (wrap64 (x10 - x1))≤x2 then ((sennitref21_kept.f k x0 x10 x3).bind fun t161=>(if t160=true then (some true) else (some t161))) else (if t160=true then (some true) else (some false)))) else (if (wrap64 (x10 - x1))≤x2 then ((sennitref21_kept.f k x0 x10 x3).bind fun t162=>(some t162)) else (some false))) else (if (wrap64 (x10 - x1))≤x2 then ((sennitref21_kept.f k x0 x10 x3).bind fun t163=>(some t163)) else (some false))) else (sennitref21_shown.l1 k x0 x1 x2 x3 x9 (wrap64 (x10+1))))) else (none)) else (if x9 ≥ 0 then (if (wrap64 (x1 - x9))≤x2 then ((sennitref21_kept.f k x0 x9 x3).bind fun t164=>(if t164=true then (some true) else (some false))) else (some false)) else (some false))
def sennitref21_shown.l0:Nat→List (S57)→Int→Int→Bool→Int→Option (Bool)
  | 0,_,_,_,_,_=>none
  | k+1,x0,x1,x2,x3,x9=>if x9 ≥ 0 then (if 0≤x9 then (if x9 < (x0.length:Int) then ((sennitref21_Marked.f k ((rd_T57 x0 x9).f0) ((rd_T57 x0 x9).f1)).bind fun t157=>(if t157=true then (sennitref21_shown.j1 k x0 x1 x2 x3 x9) else (sennitref21_shown.l0 k x0 x1 x2 x3 (wrap64 (x9 - 1))))) else (none)) else (none)) else (sennitref21_shown.j1 k x0 x1 x2 x3 x9)
end
def sennitref21_shown.f (k:Nat) (l0:List (S57)) (a1:Int) (a2:Int) (a3:Bool):Option (Bool):=if 0≤a1 then (if a1 < (l0.length:Int) then ((sennitref21_Marked.f k ((rd_T57 l0 a1).f0) ((rd_T57 l0 a1).f1)).bind fun t154=>(if t154=true then ((sennitref21_kept.f k l0 a1 a3).bind fun t155=>(some t155)) else (sennitref21_shown.l0 k l0 a1 a2 a3 (wrap64 (a1 - 1))))) else (none)) else (none)
theorem sennitref21_shown.calls (k:Nat) (A0:Option Addr) (c0:Nat) (l0:List (S57)) (a1:Int) (a2:Int) (a3:Bool) (r:Bool) (w:World) (hr0:Kd.C k57 w A0 l0.length l0) (hc0:l0.length≤c0) (h:sennitref21_shown.f k l0 a1 a2 a3=some r) :
    Calls Tryd.prog 49 #[.slice A0 l0.length c0, .int .i64 a1, .int .i64 a2, .bool a3] w fun e w'=>e = .returned (.bool r)∧Below w.heap.size w w':=by
 have hu57:=Tryd.underlying57;have HR0:=Aside0.mk hr0;have HC0:=Aside0.mk hc0;clear hr0 hc0;have HB:=Aside0.mk (Below.refl w.heap.size w);have H:=h;(rw[sennitref21_shown.f] at H);clear h
 by_cases c5:0≤a1
 ·
  (rw[if_pos c5] at H);have c5b0:decide (0≤a1)=true:=decide_eq_true c5;clear c5
  by_cases c6:a1 < (l0.length:Int)
  ·
   (rw[if_pos c6] at H);have c6b0:decide (a1 < (l0.length:Int))=true:=decide_eq_true c6;clear c6;replace H:=Option.bind_eq_some_iff.mp H;obtain⟨t154,A70,H⟩:=H;(try dsimp only at H);have A7:=Aside0.mk A70;clear A70
   by_cases c8:t154=true
   (· subst c8;have H1:=H;(rw[if_pos rfl] at H1);clear H;have H:=H1;clear H1;replace H:=Option.bind_eq_some_iff.mp H;obtain⟨t155,A90,H⟩:=H;(try dsimp only at H);have A9:=Aside0.mk A90;clear A90;obtain rfl:=Option.some.inj H;have p153:0≤(a1:Int):=dt_;have q153:a1 < (l0.length:Int):=dt_;obtain⟨ad153,e153,hx153_0,hx153_1⟩:=at_T57 HR0.out a1 p153 q153;cases e153;replace p153:=eq_true p153;replace q153:=eq_true q153;go_enter Tryd.func49,Tryd.ntmps49;(go_wp2_with (first|((with_reducible refine gate_callee (f:=36) rfl ?_);refine goesL_ (some 17) rfl rfl Tryd.func36 (by kernel_rfl) rfl #[.agg #[.string ((rd_T57 l0 a1).f0), .string ((rd_T57 l0 a1).f1)]] rfl am_ ?_;(with_reducible refine(sennitref21_Marked.calls k ((rd_T57 l0 a1).f0) ((rd_T57 l0 a1).f1) true _ A7.out).mono ?_);rintro e w10 ⟨rfl,hb⟩;refine⟨_,rfl,?_⟩;replace HB:=Aside0.mk (bst bel_ hb);(try clear hb);(try clear hb2);(try clear hk);(try clear hi))|((with_reducible refine gate_callee (f:=80) rfl ?_);refine goesL_ (some 21) rfl rfl Tryd.func80 (by kernel_rfl) rfl #[.slice (some ad153) l0.length c0, .int .i64 a1, .bool a3] rfl am_ ?_;(with_reducible refine(sennitref21_kept.calls k _ _ l0 a1 a3 t155 _ ?side1 ?side2 A9.out).mono ?_);(case side1=>repeat(first|exact(Kd.C_below HR0.out HB.out)|(with_reducible refine Kd.C_alloc ?_ _)|(with_reducible refine Kd.C_drewN ?_ _)|(with_reducible refine Kd.C_drew ?_)));(case side2=>exact HC0.out);rintro e w11 ⟨rfl,hb⟩;refine⟨_,rfl,?_⟩;replace HB:=Aside0.mk (bst bel_ hb);(try clear hb);(try clear hb2);(try clear hk);(try clear hi))));go_ret;exact⟨by first|rfl|(simp[errW_none,errW_some] <;> rfl)|(simp[*,errW_none,errW_some] <;> rfl),bel_⟩)
   ·
    replace c8:=Bool.eq_false_iff.mpr c8;subst c8;have H1:=H;(rw[if_neg (show ¬ (false=true) by decide)] at H1);clear H;have H:=H1;clear H1;have HC12:=Aside0.mk H;clear H;have p153:0≤(a1:Int):=dt_;have q153:a1 < (l0.length:Int):=dt_;obtain⟨ad153,e153,hx153_0,hx153_1⟩:=at_T57 HR0.out a1 p153 q153;cases e153;replace p153:=eq_true p153;replace q153:=eq_true q153;go_enter Tryd.func49,Tryd.ntmps49
    go_upto_block 0 with (first|((with_reducible refine gate_callee (f:=36) rfl ?_);refine goesL_ (some 17) rfl rfl Tryd.func36 (by kernel_rfl) rfl #[.agg #[.string ((rd_T57 l0 a1).f0), .string ((rd_T57 l0 a1).f1)]] rfl am_ ?_;(with_reducible refine(sennitref21_Marked.calls k ((rd_T57 l0 a1).f0) ((rd_T57 l0 a1).f1) false _ A7.out).mono ?_);rintro e w13 ⟨rfl,hb⟩;refine⟨_,rfl,?_⟩;replace HB:=Aside0.mk (bst bel_ hb);(try clear hb);(try clear hb2);(try clear hk);(try clear hi)))
    (try simp only[Act.put,List.setIfInBounds_toArray,List.set_cons_zero,List.set_cons_succ])
    go_cut [9] (fun v9 wc => ∃ (kq:Nat) (x9_11:Int),v9 = .int .i64 x9_11∧Aside0 (sennitref21_shown.j1 kq l0 a1 a2 a3 x9_11=some r)∧Aside0 (kq≤k)∧Aside0 (Below w.heap.size w wc))
    case first =>
     have H:=HC12.out;clear HC12;have H':=Aside0.mk H;clear H;go_wp2
     go_loopg [9] k (fun kq v9 w' => ∃ (x9_1:Int),v9 = .int .i64 x9_1∧Aside0 (sennitref21_shown.l0 kq l0 a1 a2 a3 x9_1=some r)∧Aside0 (kq≤k)∧Aside0 (Below w.heap.size w w'))
     (case atStart=>exact⟨(wrap64 (a1 - 1)),rs_,H',⟨Nat.le_refl _⟩,⟨bel_⟩⟩)
     case round =>
      clear H';(try clear p1);(try clear q1);(try clear hx1);(try clear p2);(try clear c3);(try clear c4);(try clear c5);(try clear c5b0);(try clear c6);(try clear c6b0);(try clear p6);(try clear c8);(try clear hx153_0);(try clear hx153_1);(try clear p153);(try clear q153);obtain⟨x9_1,rfl,HA,HK1,HB⟩:=hrel
      cases gk with
      | zero=>exact absurd HA.out (by simp[sennitref21_shown.l0])
      | succ k1 =>
       have H:=HA.out;clear HA;(simp only[sennitref21_shown.l0] at H)
       by_cases c14:x9_1 ≥ 0
       ·
        (rw[if_pos c14] at H);have c14b0:decide (0≤x9_1)=true:=decide_eq_true c14;clear c14;(first|rw[c14b0]|(simp only[i64_w,i32_w];rw[c14b0])|skip)
        by_cases c15:0≤x9_1
        ·
         (rw[if_pos c15] at H);have c15b0:decide (0≤x9_1)=true:=decide_eq_true c15;clear c15
         by_cases c16:x9_1 < (l0.length:Int)
         ·
          (rw[if_pos c16] at H);have c16b0:decide (x9_1 < (l0.length:Int))=true:=decide_eq_true c16;clear c16;replace H:=Option.bind_eq_some_iff.mp H;obtain⟨t157,A170,H⟩:=H;(try dsimp only at H);have A17:=Aside0.mk A170;clear A170
          by_cases c18:t157=true
          ·
           subst c18;have H1:=H;(rw[if_pos rfl] at H1);clear H;have H:=H1;clear H1;have H':=Aside0.mk H;clear H;have p156:0≤(x9_1:Int):=dt_;have q156:x9_1 < (l0.length:Int):=dt_;obtain⟨ad156,e156,hx156_0,hx156_1⟩:=at_T57 HR0.out x9_1 p156 q156;obtain rfl:ad153=ad156:=(by injection e156);replace hx156_0:=(HB.out.cell (World.block_lt_of_cell? w _ hx156_0)).trans hx156_0;replace hx156_1:=(HB.out.cell (World.block_lt_of_cell? w _ hx156_1)).trans hx156_1;replace p156:=eq_true p156;replace q156:=eq_true q156;(go_wp2_with (first|(go_at_call 36;(with_reducible refine(sennitref21_Marked.calls k1 ((rd_T57 l0 x9_1).f0) ((rd_T57 l0 x9_1).f1) true _ A17.out).mono ?_);rintro e w19 ⟨rfl,hb⟩;replace HB:=Aside0.mk (bst bel_ hb);(try clear hb);(try clear hb2);(try clear hk);(try clear hi))))
           go_meet
           (case rel=>exact⟨_,(x9_1),rs_,H',⟨by have:=HK1.out;first|omega|exact Nat.le_refl _⟩,⟨bel_⟩⟩)
          ·
           replace c18:=Bool.eq_false_iff.mpr c18;subst c18;have H1:=H;(rw[if_neg (show ¬ (false=true) by decide)] at H1);clear H;have H:=H1;clear H1;have H':=Aside0.mk H;clear H;have p156:0≤(x9_1:Int):=dt_;have q156:x9_1 < (l0.length:Int):=dt_;obtain⟨ad156,e156,hx156_0,hx156_1⟩:=at_T57 HR0.out x9_1 p156 q156;obtain rfl:ad153=ad156:=(by injection e156);replace hx156_0:=(HB.out.cell (World.block_lt_of_cell? w _ hx156_0)).trans hx156_0;replace hx156_1:=(HB.out.cell (World.block_lt_of_cell? w _ hx156_1)).trans hx156_1;replace p156:=eq_true p156;replace q156:=eq_true q156;(go_wp2_with (first|(go_at_call 36;(with_reducible refine(sennitref21_Marked.calls k1 ((rd_T57 l0 x9_1).f0) ((rd_T57 l0 x9_1).f1) false _ A17.out).mono ?_);rintro e w20 ⟨rfl,hb⟩;replace HB:=Aside0.mk (bst bel_ hb);(try clear hb);(try clear hb2);(try clear hk);(try clear hi))))
           go_roundg k1
           (case measure=>have:=HK1.out;omega);(case rel=>exact⟨(wrap64 (x9_1 - 1)),rs_,H',⟨by have:=HK1.out;omega⟩,⟨bel_⟩⟩)
         (· exact nx_ c16 H)
        (· exact nx_ c15 H)
       ·
        (rw[if_neg c14] at H);have c14b0:decide (0≤x9_1)=false:=decide_eq_false c14;clear c14;(first|rw[c14b0]|(simp only[i64_w,i32_w];rw[c14b0])|skip);have H':=Aside0.mk H;clear H;go_wp2
        go_meet
        (case rel=>exact⟨_,(x9_1),rs_,H',⟨by have:=HK1.out;first|omega|exact Nat.le_refl _⟩,⟨bel_⟩⟩)
    case rest =>
     clear HC12;(try clear c1);(try clear p1);(try clear q1);(try clear hx1);(try clear p2);(try clear c3);(try clear c4);(try clear c5);(try clear c5b0);(try clear c6);(try clear c6b0);(try clear p6);(try clear c8);(try clear c14);(try clear c14b0);(try clear c15);(try clear c15b0);(try clear p15);(try clear q15);(try clear hx15);(try clear c16);(try clear c16b0);(try clear c18);(try clear hx153_0);(try clear hx153_1);(try clear hx156_0);(try clear hx156_1);(try clear p1);(try clear p153);(try clear p156);(try clear p2);(try clear p6);(try clear q1);(try clear q153);(try clear q156);obtain⟨kq,x9_11,rfl,HA,HJ11,HB⟩:=hcut
     cases kq with
     | zero=>exact absurd HA.out (by simp[sennitref21_shown.j1])
     | succ kj11 =>
      have H:=HA.out;clear HA;(simp only[sennitref21_shown.j1] at H);have H':=Aside0.mk H;clear H;go_wp2
      go_loopg [10] kj11 (fun kq v10 w' => ∃ (x10_2:Int),v10 = .int .i64 x10_2∧Aside0 (sennitref21_shown.l1 kq l0 a1 a2 a3 x9_11 x10_2=some r)∧Aside0 (kq≤kj11)∧Aside0 (Below w.heap.size w w'))
      (case atStart=>exact⟨(wrap64 (a1+1)),rs_,H',⟨Nat.le_refl _⟩,⟨bel_⟩⟩)
      case round =>
       clear H';(try clear c1);(try clear p1);(try clear q1);(try clear hx1);(try clear p2);(try clear c3);(try clear c4);(try clear c5);(try clear c5b0);(try clear c6);(try clear c6b0);(try clear p6);(try clear c8);(try clear c14);(try clear c14b0);(try clear c15);(try clear c15b0);(try clear p15);(try clear q15);(try clear hx15);(try clear c16);(try clear c16b0);(try clear c18);(try clear hx153_0);(try clear hx153_1);(try clear hx156_0);(try clear hx156_1);(try clear p1);(try clear p15);(try clear p153);(try clear p156);(try clear p2);(try clear p6);(try clear q1);(try clear q15);(try clear q153);(try clear q156);obtain⟨x10_2,rfl,HA,HK2,HB⟩:=hrel
       cases gk with
       | zero=>exact absurd HA.out (by simp[sennitref21_shown.l1])
       | succ k2 =>
        have H:=HA.out;clear HA;(simp only[sennitref21_shown.l1] at H)
        by_cases c21:x10_2 < (l0.length:Int)
        ·
         (rw[if_pos c21] at H);have c21b0:decide (x10_2 < (l0.length:Int))=true:=decide_eq_true c21;clear c21
         by_cases c22:0≤x10_2
         ·
          (rw[if_pos c22] at H);have c22b0:decide (0≤x10_2)=true:=decide_eq_true c22;clear c22;replace H:=Option.bind_eq_some_iff.mp H;obtain⟨t159,A230,H⟩:=H;(try dsimp only at H);have A23:=Aside0.mk A230;clear A230
          by_cases c24:t159=true
          ·
           subst c24;have H1:=H;(rw[if_pos rfl] at H1);clear H;have H:=H1;clear H1
           by_cases c25:x9_11 ≥ 0
           ·
            (rw[if_pos c25] at H);have c25b0:decide (0≤x9_11)=true:=decide_eq_true c25;clear c25
            by_cases c26:(wrap64 (a1 - x9_11))≤a2
            ·
             (rw[if_pos c26] at H);have c26b0:decide ((wrap64 (a1 - x9_11))≤a2)=true:=decide_eq_true c26;clear c26;replace H:=Option.bind_eq_some_iff.mp H;obtain⟨t160,A270,H⟩:=H;(try dsimp only at H);have A27:=Aside0.mk A270;clear A270
             by_cases c28:(wrap64 (x10_2 - a1))≤a2
             ·
              (rw[if_pos c28] at H);have c28b0:decide ((wrap64 (x10_2 - a1))≤a2)=true:=decide_eq_true c28;clear c28;replace H:=Option.bind_eq_some_iff.mp H;obtain⟨t161,A290,H⟩:=H;(try dsimp only at H);have A29:=Aside0.mk A290;clear A290
              by_cases c30:t160=true
              (· subst c30;have H1:=H;(rw[if_pos rfl] at H1);clear H;have H:=H1;clear H1;obtain rfl:=Option.some.inj H;have p158:0≤(x10_2:Int):=dt_;have q158:x10_2 < (l0.length:Int):=dt_;obtain⟨ad158,e158,hx158_0,hx158_1⟩:=at_T57 HR0.out x10_2 p158 q158;obtain rfl:ad153=ad158:=(by injection e158);replace hx158_0:=(HB.out.cell (World.block_lt_of_cell? w _ hx158_0)).trans hx158_0;replace hx158_1:=(HB.out.cell (World.block_lt_of_cell? w _ hx158_1)).trans hx158_1;replace p158:=eq_true p158;replace q158:=eq_true q158;(go_wp2_with (first|(go_at_call 36;(with_reducible refine(sennitref21_Marked.calls k2 ((rd_T57 l0 x10_2).f0) ((rd_T57 l0 x10_2).f1) true _ A23.out).mono ?_);rintro e w31 ⟨rfl,hb⟩;replace HB:=Aside0.mk (bst bel_ hb);(try clear hb);(try clear hb2);(try clear hk);(try clear hi))|(go_at_call 80;(with_reducible refine(sennitref21_kept.calls k2 _ _ l0 x9_11 a3 true _ ?side1 ?side2 A27.out).mono ?_);(case side1=>repeat(first|exact(Kd.C_below HR0.out HB.out)|(with_reducible refine Kd.C_alloc ?_ _)|(with_reducible refine Kd.C_drewN ?_ _)|(with_reducible refine Kd.C_drew ?_)));(case side2=>exact HC0.out);rintro e w32 ⟨rfl,hb⟩;replace HB:=Aside0.mk (bst bel_ hb);(try clear hb);(try clear hb2);(try clear hk);(try clear hi))|(go_at_call 80;(with_reducible refine(sennitref21_kept.calls k2 _ _ l0 x10_2 a3 t161 _ ?side1 ?side2 A29.out).mono ?_);(case side1=>repeat(first|exact(Kd.C_below HR0.out HB.out)|(with_reducible refine Kd.C_alloc ?_ _)|(with_reducible refine Kd.C_drewN ?_ _)|(with_reducible refine Kd.C_drew ?_)));(case side2=>exact HC0.out);rintro e w33 ⟨rfl,hb⟩;replace HB:=Aside0.mk (bst bel_ hb);(try clear hb);(try clear hb2);(try clear hk);(try clear hi))));go_ret;exact⟨by first|rfl|(simp[errW_none,errW_some] <;> rfl)|(simp[*,errW_none,errW_some] <;> rfl),bel_⟩);(· replace c30:=Bool.eq_false_iff.mpr c30;subst c30;have H1:=H;(rw[if_neg (show ¬ (false=true) by decide)] at H1);clear H;have H:=H1;clear H1;obtain rfl:=Option.some.inj H;have p158:0≤(x10_2:Int):=dt_;have q158:x10_2 < (l0.length:Int):=dt_;obtain⟨ad158,e158,hx158_0,hx158_1⟩:=at_T57 HR0.out x10_2 p158 q158;obtain rfl:ad153=ad158:=(by injection e158);replace hx158_0:=(HB.out.cell (World.block_lt_of_cell? w _ hx158_0)).trans hx158_0;replace hx158_1:=(HB.out.cell (World.block_lt_of_cell? w _ hx158_1)).trans hx158_1;replace p158:=eq_true p158;replace q158:=eq_true q158;(go_wp2_with (first|(go_at_call 36;(with_reducible refine(sennitref21_Marked.calls k2 ((rd_T57 l0 x10_2).f0) ((rd_T57 l0 x10_2).f1) true _ A23.out).mono ?_);rintro e w34 ⟨rfl,hb⟩;replace HB:=Aside0.mk (bst bel_ hb);(try clear hb);(try clear hb2);(try clear hk);(try clear hi))|(go_at_call 80;(with_reducible refine(sennitref21_kept.calls k2 _ _ l0 x9_11 a3 false _ ?side1 ?side2 A27.out).mono ?_);(case side1=>repeat(first|exact(Kd.C_below HR0.out HB.out)|(with_reducible refine Kd.C_alloc ?_ _)|(with_reducible refine Kd.C_drewN ?_ _)|(with_reducible refine Kd.C_drew ?_)));(case side2=>exact HC0.out);rintro e w35 ⟨rfl,hb⟩;replace HB:=Aside0.mk (bst bel_ hb);(try clear hb);(try clear hb2);(try clear hk);(try clear hi))|(go_at_call 80;(with_reducible refine(sennitref21_kept.calls k2 _ _ l0 x10_2 a3 t161 _ ?side1 ?side2 A29.out).mono ?_);(case side1=>repeat(first|exact(Kd.C_below HR0.out HB.out)|(with_reducible refine Kd.C_alloc ?_ _)|(with_reducible refine Kd.C_drewN ?_ _)|(with_reducible refine Kd.C_drew ?_)));(case side2=>exact HC0.out);rintro e w36 ⟨rfl,hb⟩;replace HB:=Aside0.mk (bst bel_ hb);(try clear hb);(try clear hb2);(try clear hk);(try clear hi))));go_ret;exact⟨by first|rfl|(simp[errW_none,errW_some] <;> rfl)|(simp[*,errW_none,errW_some] <;> rfl),bel_⟩)
             ·
              (rw[if_neg c28] at H);have c28b0:decide ((wrap64 (x10_2 - a1))≤a2)=false:=decide_eq_false c28;clear c28
              by_cases c37:t160=true
              (· subst c37;have H1:=H;(rw[if_pos rfl] at H1);clear H;have H:=H1;clear H1;obtain rfl:=Option.some.inj H;have p158:0≤(x10_2:Int):=dt_;have q158:x10_2 < (l0.length:Int):=dt_;obtain⟨ad158,e158,hx158_0,hx158_1⟩:=at_T57 HR0.out x10_2 p158 q158;obtain rfl:ad153=ad158:=(by injection e158);replace hx158_0:=(HB.out.cell (World.block_lt_of_cell? w _ hx158_0)).trans hx158_0;replace hx158_1:=(HB.out.cell (World.block_lt_of_cell? w _ hx158_1)).trans hx158_1;replace p158:=eq_true p158;replace q158:=eq_true q158;(go_wp2_with (first|(go_at_call 36;(with_reducible refine(sennitref21_Marked.calls k2 ((rd_T57 l0 x10_2).f0) ((rd_T57 l0 x10_2).f1) true _ A23.out).mono ?_);rintro e w38 ⟨rfl,hb⟩;replace HB:=Aside0.mk (bst bel_ hb);(try clear hb);(try clear hb2);(try clear hk);(try clear hi))|(go_at_call 80;(with_reducible refine(sennitref21_kept.calls k2 _ _ l0 x9_11 a3 true _ ?side1 ?side2 A27.out).mono ?_);(case side1=>repeat(first|exact(Kd.C_below HR0.out HB.out)|(with_reducible refine Kd.C_alloc ?_ _)|(with_reducible refine Kd.C_drewN ?_ _)|(with_reducible refine Kd.C_drew ?_)));(case side2=>exact HC0.out);rintro e w39 ⟨rfl,hb⟩;replace HB:=Aside0.mk (bst bel_ hb);(try clear hb);(try clear hb2);(try clear hk);(try clear hi))));go_ret;exact⟨by first|rfl|(simp[errW_none,errW_some] <;> rfl)|(simp[*,errW_none,errW_some] <;> rfl),bel_⟩);(· replace c37:=Bool.eq_false_iff.mpr c37;subst c37;have H1:=H;(rw[if_neg (show ¬ (false=true) by decide)] at H1);clear H;have H:=H1;clear H1;obtain rfl:=Option.some.inj H;have p158:0≤(x10_2:Int):=dt_;have q158:x10_2 < (l0.length:Int):=dt_;obtain⟨ad158,e158,hx158_0,hx158_1⟩:=at_T57 HR0.out x10_2 p158 q158;obtain rfl:ad153=ad158:=(by injection e158);replace hx158_0:=(HB.out.cell (World.block_lt_of_cell? w _ hx158_0)).trans hx158_0;replace hx158_1:=(HB.out.cell (World.block_lt_of_cell? w _ hx158_1)).trans hx158_1;replace p158:=eq_true p158;replace q158:=eq_true q158;(go_wp2_with (first|(go_at_call 36;(with_reducible refine(sennitref21_Marked.calls k2 ((rd_T57 l0 x10_2).f0) ((rd_T57 l0 x10_2).f1) true _ A23.out).mono ?_);rintro e w40 ⟨rfl,hb⟩;replace HB:=Aside0.mk (bst bel_ hb);(try clear hb);(try clear hb2);(try clear hk);(try clear hi))|(go_at_call 80;(with_reducible refine(sennitref21_kept.calls k2 _ _ l0 x9_11 a3 false _ ?side1 ?side2 A27.out).mono ?_);(case side1=>repeat(first|exact(Kd.C_below HR0.out HB.out)|(with_reducible refine Kd.C_alloc ?_ _)|(with_reducible refine Kd.C_drewN ?_ _)|(with_reducible refine Kd.C_drew ?_)));(case side2=>exact HC0.out);rintro e w41 ⟨rfl,hb⟩;replace HB:=Aside0.mk (bst bel_ hb);(try clear hb);(try clear hb2);(try clear hk);(try clear hi))));go_ret;exact⟨by first|rfl|(simp[errW_none,errW_some] <;> rfl)|(simp[*,errW_none,errW_some] <;> rfl),bel_⟩)
            ·
             (rw[if_neg c26] at H);have c26b0:decide ((wrap64 (a1 - x9_11))≤a2)=false:=decide_eq_false c26;clear c26
             by_cases c42:(wrap64 (x10_2 - a1))≤a2
             (· (rw[if_pos c42] at H);have c42b0:decide ((wrap64 (x10_2 - a1))≤a2)=true:=decide_eq_true c42;clear c42;replace H:=Option.bind_eq_some_iff.mp H;obtain⟨t162,A430,H⟩:=H;(try dsimp only at H);have A43:=Aside0.mk A430;clear A430;obtain rfl:=Option.some.inj H;have p158:0≤(x10_2:Int):=dt_;have q158:x10_2 < (l0.length:Int):=dt_;obtain⟨ad158,e158,hx158_0,hx158_1⟩:=at_T57 HR0.out x10_2 p158 q158;obtain rfl:ad153=ad158:=(by injection e158);replace hx158_0:=(HB.out.cell (World.block_lt_of_cell? w _ hx158_0)).trans hx158_0;replace hx158_1:=(HB.out.cell (World.block_lt_of_cell? w _ hx158_1)).trans hx158_1;replace p158:=eq_true p158;replace q158:=eq_true q158;(go_wp2_with (first|(go_at_call 36;(with_reducible refine(sennitref21_Marked.calls k2 ((rd_T57 l0 x10_2).f0) ((rd_T57 l0 x10_2).f1) true _ A23.out).mono ?_);rintro e w44 ⟨rfl,hb⟩;replace HB:=Aside0.mk (bst bel_ hb);(try clear hb);(try clear hb2);(try clear hk);(try clear hi))|(go_at_call 80;(with_reducible refine(sennitref21_kept.calls k2 _ _ l0 x10_2 a3 t162 _ ?side1 ?side2 A43.out).mono ?_);(case side1=>repeat(first|exact(Kd.C_below HR0.out HB.out)|(with_reducible refine Kd.C_alloc ?_ _)|(with_reducible refine Kd.C_drewN ?_ _)|(with_reducible refine Kd.C_drew ?_)));(case side2=>exact HC0.out);rintro e w45 ⟨rfl,hb⟩;replace HB:=Aside0.mk (bst bel_ hb);(try clear hb);(try clear hb2);(try clear hk);(try clear hi))));go_ret;exact⟨by first|rfl|(simp[errW_none,errW_some] <;> rfl)|(simp[*,errW_none,errW_some] <;> rfl),bel_⟩);(· (rw[if_neg c42] at H);have c42b0:decide ((wrap64 (x10_2 - a1))≤a2)=false:=decide_eq_false c42;clear c42;obtain rfl:=Option.some.inj H;have p158:0≤(x10_2:Int):=dt_;have q158:x10_2 < (l0.length:Int):=dt_;obtain⟨ad158,e158,hx158_0,hx158_1⟩:=at_T57 HR0.out x10_2 p158 q158;obtain rfl:ad153=ad158:=(by injection e158);replace hx158_0:=(HB.out.cell (World.block_lt_of_cell? w _ hx158_0)).trans hx158_0;replace hx158_1:=(HB.out.cell (World.block_lt_of_cell? w _ hx158_1)).trans hx158_1;replace p158:=eq_true p158;replace q158:=eq_true q158;(go_wp2_with (first|(go_at_call 36;(with_reducible refine(sennitref21_Marked.calls k2 ((rd_T57 l0 x10_2).f0) ((rd_T57 l0 x10_2).f1) true _ A23.out).mono ?_);rintro e w46 ⟨rfl,hb⟩;replace HB:=Aside0.mk (bst bel_ hb);(try clear hb);(try clear hb2);(try clear hk);(try clear hi))));go_ret;exact⟨by first|rfl|(simp[errW_none,errW_some] <;> rfl)|(simp[*,errW_none,errW_some] <;> rfl),bel_⟩)
           ·
            (rw[if_neg c25] at H);have c25b0:decide (0≤x9_11)=false:=decide_eq_false c25;clear c25
            by_cases c47:(wrap64 (x10_2 - a1))≤a2
            (· (rw[if_pos c47] at H);have c47b0:decide ((wrap64 (x10_2 - a1))≤a2)=true:=decide_eq_true c47;clear c47;replace H:=Option.bind_eq_some_iff.mp H;obtain⟨t163,A480,H⟩:=H;(try dsimp only at H);have A48:=Aside0.mk A480;clear A480;obtain rfl:=Option.some.inj H;have p158:0≤(x10_2:Int):=dt_;have q158:x10_2 < (l0.length:Int):=dt_;obtain⟨ad158,e158,hx158_0,hx158_1⟩:=at_T57 HR0.out x10_2 p158 q158;obtain rfl:ad153=ad158:=(by injection e158);replace hx158_0:=(HB.out.cell (World.block_lt_of_cell? w _ hx158_0)).trans hx158_0;replace hx158_1:=(HB.out.cell (World.block_lt_of_cell? w _ hx158_1)).trans hx158_1;replace p158:=eq_true p158;replace q158:=eq_true q158;(go_wp2_with (first|(go_at_call 36;(with_reducible refine(sennitref21_Marked.calls k2 ((rd_T57 l0 x10_2).f0) ((rd_T57 l0 x10_2).f1) true _ A23.out).mono ?_);rintro e w49 ⟨rfl,hb⟩;replace HB:=Aside0.mk (bst bel_ hb);(try clear hb);(try clear hb2);(try clear hk);(try clear hi))|(go_at_call 80;(with_reducible refine(sennitref21_kept.calls k2 _ _ l0 x10_2 a3 t163 _ ?side1 ?side2 A48.out).mono ?_);(case side1=>repeat(first|exact(Kd.C_below HR0.out HB.out)|(with_reducible refine Kd.C_alloc ?_ _)|(with_reducible refine Kd.C_drewN ?_ _)|(with_reducible refine Kd.C_drew ?_)));(case side2=>exact HC0.out);rintro e w50 ⟨rfl,hb⟩;replace HB:=Aside0.mk (bst bel_ hb);(try clear hb);(try clear hb2);(try clear hk);(try clear hi))));go_ret;exact⟨by first|rfl|(simp[errW_none,errW_some] <;> rfl)|(simp[*,errW_none,errW_some] <;> rfl),bel_⟩);(· (rw[if_neg c47] at H);have c47b0:decide ((wrap64 (x10_2 - a1))≤a2)=false:=decide_eq_false c47;clear c47;obtain rfl:=Option.some.inj H;have p158:0≤(x10_2:Int):=dt_;have q158:x10_2 < (l0.length:Int):=dt_;obtain⟨ad158,e158,hx158_0,hx158_1⟩:=at_T57 HR0.out x10_2 p158 q158;obtain rfl:ad153=ad158:=(by injection e158);replace hx158_0:=(HB.out.cell (World.block_lt_of_cell? w _ hx158_0)).trans hx158_0;replace hx158_1:=(HB.out.cell (World.block_lt_of_cell? w _ hx158_1)).trans hx158_1;replace p158:=eq_true p158;replace q158:=eq_true q158;(go_wp2_with (first|(go_at_call 36;(with_reducible refine(sennitref21_Marked.calls k2 ((rd_T57 l0 x10_2).f0) ((rd_T57 l0 x10_2).f1) true _ A23.out).mono ?_);rintro e w51 ⟨rfl,hb⟩;replace HB:=Aside0.mk (bst bel_ hb);(try clear hb);(try clear hb2);(try clear hk);(try clear hi))));go_ret;exact⟨by first|rfl|(simp[errW_none,errW_some] <;> rfl)|(simp[*,errW_none,errW_some] <;> rfl),bel_⟩)
          ·
           replace c24:=Bool.eq_false_iff.mpr c24;subst c24;have H1:=H;(rw[if_neg (show ¬ (false=true) by decide)] at H1);clear H;have H:=H1;clear H1;have H':=Aside0.mk H;clear H;have p158:0≤(x10_2:Int):=dt_;have q158:x10_2 < (l0.length:Int):=dt_;obtain⟨ad158,e158,hx158_0,hx158_1⟩:=at_T57 HR0.out x10_2 p158 q158;obtain rfl:ad153=ad158:=(by injection e158);replace hx158_0:=(HB.out.cell (World.block_lt_of_cell? w _ hx158_0)).trans hx158_0;replace hx158_1:=(HB.out.cell (World.block_lt_of_cell? w _ hx158_1)).trans hx158_1;replace p158:=eq_true p158;replace q158:=eq_true q158;(go_wp2_with (first|(go_at_call 36;(with_reducible refine(sennitref21_Marked.calls k2 ((rd_T57 l0 x10_2).f0) ((rd_T57 l0 x10_2).f1) false _ A23.out).mono ?_);rintro e w52 ⟨rfl,hb⟩;replace HB:=Aside0.mk (bst bel_ hb);(try clear hb);(try clear hb2);(try clear hk);(try clear hi))))
           go_roundg k2
           (case measure=>have:=HJ11.out;have:=HK2.out;omega);(case rel=>exact⟨(wrap64 (x10_2+1)),rs_,H',⟨by have:=HJ11.out;have:=HK2.out;omega⟩,⟨bel_⟩⟩)
         (· exact nx_ c22 H)
        ·
         (rw[if_neg c21] at H);have c21b0:decide (x10_2 < (l0.length:Int))=false:=decide_eq_false c21;clear c21
         by_cases c53:x9_11 ≥ 0
         ·
          (rw[if_pos c53] at H);have c53b0:decide (0≤x9_11)=true:=decide_eq_true c53;clear c53
          by_cases c54:(wrap64 (a1 - x9_11))≤a2
          ·
           (rw[if_pos c54] at H);have c54b0:decide ((wrap64 (a1 - x9_11))≤a2)=true:=decide_eq_true c54;clear c54;replace H:=Option.bind_eq_some_iff.mp H;obtain⟨t164,A550,H⟩:=H;(try dsimp only at H);have A55:=Aside0.mk A550;clear A550
           by_cases c56:t164=true
           (· subst c56;have H1:=H;(rw[if_pos rfl] at H1);clear H;have H:=H1;clear H1;obtain rfl:=Option.some.inj H;(go_wp2_with (first|(go_at_call 80;(with_reducible refine(sennitref21_kept.calls k2 _ _ l0 x9_11 a3 true _ ?side1 ?side2 A55.out).mono ?_);(case side1=>repeat(first|exact(Kd.C_below HR0.out HB.out)|(with_reducible refine Kd.C_alloc ?_ _)|(with_reducible refine Kd.C_drewN ?_ _)|(with_reducible refine Kd.C_drew ?_)));(case side2=>exact HC0.out);rintro e w57 ⟨rfl,hb⟩;replace HB:=Aside0.mk (bst bel_ hb);(try clear hb);(try clear hb2);(try clear hk);(try clear hi))));go_ret;exact⟨by first|rfl|(simp[errW_none,errW_some] <;> rfl)|(simp[*,errW_none,errW_some] <;> rfl),bel_⟩);(· replace c56:=Bool.eq_false_iff.mpr c56;subst c56;have H1:=H;(rw[if_neg (show ¬ (false=true) by decide)] at H1);clear H;have H:=H1;clear H1;obtain rfl:=Option.some.inj H;(go_wp2_with (first|(go_at_call 80;(with_reducible refine(sennitref21_kept.calls k2 _ _ l0 x9_11 a3 false _ ?side1 ?side2 A55.out).mono ?_);(case side1=>repeat(first|exact(Kd.C_below HR0.out HB.out)|(with_reducible refine Kd.C_alloc ?_ _)|(with_reducible refine Kd.C_drewN ?_ _)|(with_reducible refine Kd.C_drew ?_)));(case side2=>exact HC0.out);rintro e w58 ⟨rfl,hb⟩;replace HB:=Aside0.mk (bst bel_ hb);(try clear hb);(try clear hb2);(try clear hk);(try clear hi))));go_ret;exact⟨by first|rfl|(simp[errW_none,errW_some] <;> rfl)|(simp[*,errW_none,errW_some] <;> rfl),bel_⟩)
          (· (rw[if_neg c54] at H);have c54b0:decide ((wrap64 (a1 - x9_11))≤a2)=false:=decide_eq_false c54;clear c54;obtain rfl:=Option.some.inj H;go_wp2;go_ret;exact⟨by first|rfl|(simp[errW_none,errW_some] <;> rfl)|(simp[*,errW_none,errW_some] <;> rfl),bel_⟩)
         (· (rw[if_neg c53] at H);have c53b0:decide (0≤x9_11)=false:=decide_eq_false c53;clear c53;obtain rfl:=Option.some.inj H;go_wp2;go_ret;exact⟨by first|rfl|(simp[errW_none,errW_some] <;> rfl)|(simp[*,errW_none,errW_some] <;> rfl),bel_⟩)
  (· exact nx_ c6 H)
 (· exact nx_ c5 H)
end Go.Proofs.YthcnfflhejogfaaDoor.X
namespace Go.Proofs.YthcnfflhejogfaaDoor.X
open Go.RowKit YthcnfflhejogfaaDoorW.PrintWords YthcnfflhejogfaaDoorW.PrintLast YthcnfflhejogfaaDoorW.PrintMore
attribute [local go_sem] max2_int min2_int max_two min_two max_three min_three max_four min_four
def sennitref20_Lost.l0:Nat→Int→ByteArray→ByteArray→Option (Bool)
  | 0,_,_,_=>none
  | k+1,x3,x180000,x180001=>if x3 < (x180000.size:Int) then (if 0≤x3 then (if (bt x180000 x3)=45 then (some true) else (sennitref20_Lost.l0 k (wrap64 (x3+1)) x180000 x180001)) else (none)) else (some false)
def sennitref20_Lost.f (k:Nat) (a0_0:ByteArray) (a0_1:ByteArray):Option (Bool):=sennitref20_Lost.l0 k 0 a0_0 a0_1
theorem sennitref20_Lost.calls (k:Nat) (a0_0:ByteArray) (a0_1:ByteArray) (r:Bool) (w:World) (h:sennitref20_Lost.f k a0_0 a0_1=some r) :
    Calls Tryd.prog 104 #[.agg #[.string a0_0, .string a0_1]] w fun e w'=>e = .returned (.bool r)∧Below w.heap.size w w':=by
 have hu57:=Tryd.underlying57;have HB:=Aside0.mk (Below.refl w.heap.size w);have H:=h;(rw[sennitref20_Lost.f] at H);clear h;have H':=Aside0.mk H;clear H;go_enter Tryd.func104,Tryd.ntmps104;(go_wp2_with (first|((with_reducible refine gate_dst (N:=1) rfl ?_);refine box_event ?hg (N:=1) ?hd (cs:=#[.string a0_0, .string a0_1]) (t:=57) ?hr ?_;(case hd=>rfl);(case hg=>rfl);(case hr=>first|(go_simp;done)|(go_simp;rfl));intro gb179 hg w2 hbox hb;have BK179:=Aside0.mk (hbox);have GW179:=Aside0.mk ((by rw[hg];exact(bsz bel_):w.heap.size≤gb179));have GE179:=Aside0.mk ((by rw[hg];exact(bsz bel_):w.heap.size≤gb179));replace HB:=Aside0.mk (bst bel_ hb);clear hb hbox hg)))
 go_loopg [3] k (fun kq v3 w' => ∃ (x3_1:Int),v3 = .int .i64 x3_1∧Aside0 (sennitref20_Lost.l0 kq x3_1 a0_0 a0_1=some r)∧Aside0 (kq≤k)∧Aside0 (w'.heap[gb179]? = some (.cells #[.string a0_0, .string a0_1] 57 (0,0)))∧Aside0 (Below w.heap.size w w'))
 (case atStart=>exact⟨(0),rs_,H',⟨Nat.le_refl _⟩,⟨pK_ BK179.out⟩,⟨bs1_ GE179.out⟩⟩)
 case round =>
  clear H';(try clear c1);(try clear p2);obtain⟨x3_1,rfl,HA,HK1,BK179,HB⟩:=hrel
  cases gk with
  | zero=>exact absurd HA.out (by simp[sennitref20_Lost.l0])
  | succ k1 =>
   have H:=HA.out;clear HA;(simp only[sennitref20_Lost.l0] at H)
   by_cases c3:x3_1 < (a0_0.size:Int)
   ·
    (rw[if_pos c3] at H);have c3b0:decide (x3_1 < (a0_0.size:Int))=true:=decide_eq_true c3;clear c3
    by_cases c4:0≤x3_1
    ·
     (rw[if_pos c4] at H);have c4b0:decide (0≤x3_1)=true:=decide_eq_true c4;clear c4
     by_cases c6:(bt a0_0 x3_1)=45
     (· (rw[if_pos c6] at H);have c6b0:((bt a0_0 x3_1) == 45)=true:=beq_iff_eq.mpr c6;have c6b1:((bt a0_0 x3_1) != 45)=false:=bne_eq_false_iff_eq.mpr c6;clear c6;obtain rfl:=Option.some.inj H;have hcz7_0:wr.cell? ⟨gb179,0,none⟩=some (.string a0_0):=(bcl BK179.out 0).trans rfl;have hcz7_1:wr.cell? ⟨gb179,1,none⟩=some (.string a0_1):=(bcl BK179.out 1).trans rfl;have hfz7_0:=bfz BK179.out 0;have hfz7_1:=bfz BK179.out 1;have p5:0≤(x3_1:Int):=dt_;have q5:x3_1 < (a0_0.size:Int):=dt_;have hx5:=bt_at a0_0 x3_1;replace p5:=eq_true p5;replace q5:=eq_true q5;go_wp2;go_ret;exact⟨by first|rfl|(simp[errW_none,errW_some] <;> rfl)|(simp[*,errW_none,errW_some] <;> rfl),by repeat(first|(with_reducible first|exact HB.out|apply below_alloc|apply pw_below_drewN|apply below_drew1|refine below_set ?_ GE179.out)|exact HB.out)⟩)
     ·
      (rw[if_neg c6] at H);have c6b0:((bt a0_0 x3_1) == 45)=false:=beq_eq_false_iff_ne.mpr c6;have c6b1:((bt a0_0 x3_1) != 45)=true:=bne_iff_ne.mpr c6;have H':=Aside0.mk H;clear H;have hcz8_0:wr.cell? ⟨gb179,0,none⟩=some (.string a0_0):=(bcl BK179.out 0).trans rfl;have hcz8_1:wr.cell? ⟨gb179,1,none⟩=some (.string a0_1):=(bcl BK179.out 1).trans rfl;have hfz8_0:=bfz BK179.out 0;have hfz8_1:=bfz BK179.out 1;have p5:0≤(x3_1:Int):=dt_;have q5:x3_1 < (a0_0.size:Int):=dt_;have hx5:=bt_at a0_0 x3_1;replace p5:=eq_true p5;replace q5:=eq_true q5;go_wp2
      go_roundg k1
      (case measure=>have:=HK1.out;omega);(case rel=>exact⟨(wrap64 (x3_1+1)),rs_,H',⟨by have:=HK1.out;omega⟩,⟨pK_ BK179.out⟩,⟨bs1_ GE179.out⟩⟩)
    (· exact nx_ c4 H)
   (· (rw[if_neg c3] at H);have c3b0:decide (x3_1 < (a0_0.size:Int))=false:=decide_eq_false c3;clear c3;obtain rfl:=Option.some.inj H;have hcz9_0:wr.cell? ⟨gb179,0,none⟩=some (.string a0_0):=(bcl BK179.out 0).trans rfl;have hcz9_1:wr.cell? ⟨gb179,1,none⟩=some (.string a0_1):=(bcl BK179.out 1).trans rfl;have hfz9_0:=bfz BK179.out 0;have hfz9_1:=bfz BK179.out 1;go_wp2;go_ret;exact⟨by first|rfl|(simp[errW_none,errW_some] <;> rfl)|(simp[*,errW_none,errW_some] <;> rfl),by repeat(first|(with_reducible first|exact HB.out|apply below_alloc|apply pw_below_drewN|apply below_drew1|refine below_set ?_ GE179.out)|exact HB.out)⟩)
def sennitref20_Result.l0:Nat→List (S57)→List ByteArray→Int→Option (List ByteArray)
  | 0,_,_,_=>none
  | k+1,x0,x3,x4=>if x4 < (x0.length:Int) then (if 0≤x4 then ((sennitref20_Lost.f k ((rd_T57 x0 x4).f0) ((rd_T57 x0 x4).f1)).bind fun t181=>(if t181=true then (sennitref20_Result.l0 k x0 x3 (wrap64 (x4+1))) else (if x3.length < 8796093022208 then (sennitref20_Result.l0 k x0 (x3 ++ [(rd_T57 x0 x4).f1]) (wrap64 (x4+1))) else (none)))) else (none)) else (some x3)
def sennitref20_Result.f (k:Nat) (l0:List (S57)):Option (List ByteArray):=sennitref20_Result.l0 k l0 ([]:List ByteArray) 0
theorem sennitref20_Result.calls (k:Nat) (A0:Option Addr) (c0:Nat) (l0:List (S57)) (r:List ByteArray) (w:World) (hr0:Kd.C k57 w A0 l0.length l0) (hc0:l0.length≤c0) (h:sennitref20_Result.f k l0=some r) :
    Calls Tryd.prog 81 #[.slice A0 l0.length c0] w fun e w' => ∃ v0_:Value,e = .returned (v0_)∧Kd.R Kd.string 9 w' w.heap.size (fun _=>True) v0_ r∧Below w.heap.size w w':=by
 have hu57:=Tryd.underlying57;have HR0:=Aside0.mk hr0;have HC0:=Aside0.mk hc0;clear hr0 hc0;have HB:=Aside0.mk (Below.refl w.heap.size w);have H:=h;(rw[sennitref20_Result.f] at H);clear h;have H':=Aside0.mk H;clear H;go_enter Tryd.func81,Tryd.ntmps81;go_wp2
 go_loopg [3,4] k (fun kq v3 v4 w' => ∃ (x3_1:List ByteArray) (x4_1:Int),v4 = .int .i64 x4_1∧Aside0 (sennitref20_Result.l0 kq l0 x3_1 x4_1=some r)∧Aside0 (kq≤k)∧Aside0 (Kd.R Kd.string 9 w' w.heap.size (fun _=>True) v3 x3_1)∧Aside0 (Below w.heap.size w w'))
 (case atStart=>exact⟨(([]:List ByteArray)),(0),rs_,H',⟨Nat.le_refl _⟩,⟨by first|exact Kd.R_nil _ _ _ _ _|exact Kd.N_nil _ _ _ _ _|exact Kd.V_nil _ _ _ _ _|exact Kd.Q_nil _ _ _ _ _|exact Kd.S_nil _ _ _ _ _⟩,⟨bel_⟩⟩)
 case round =>
  clear H';obtain⟨x3_1,x4_1,rfl,HA,HK1,HO_3,HB⟩:=hrel
  cases gk with
  | zero=>exact absurd HA.out (by simp[sennitref20_Result.l0])
  | succ k1 =>
   have H:=HA.out;clear HA;(simp only[sennitref20_Result.l0] at H)
   by_cases c2:x4_1 < (l0.length:Int)
   ·
    (rw[if_pos c2] at H);have c2b0:decide (x4_1 < (l0.length:Int))=true:=decide_eq_true c2;clear c2
    by_cases c3:0≤x4_1
    ·
     (rw[if_pos c3] at H);have c3b0:decide (0≤x4_1)=true:=decide_eq_true c3;clear c3;replace H:=Option.bind_eq_some_iff.mp H;obtain⟨t181,A40,H⟩:=H;(try dsimp only at H);have A4:=Aside0.mk A40;clear A40
     by_cases c5:t181=true
     ·
      subst c5;have H1:=H;(rw[if_pos rfl] at H1);clear H;have H:=H1;clear H1;have H':=Aside0.mk H;clear H;have p180:0≤(x4_1:Int):=dt_;have q180:x4_1 < (l0.length:Int):=dt_;obtain⟨ad180,e180,hx180_0,hx180_1⟩:=at_T57 HR0.out x4_1 p180 q180;cases e180;replace hx180_0:=(HB.out.cell (World.block_lt_of_cell? w _ hx180_0)).trans hx180_0;replace hx180_1:=(HB.out.cell (World.block_lt_of_cell? w _ hx180_1)).trans hx180_1;replace p180:=eq_true p180;replace q180:=eq_true q180;(go_wp2_with (first|((with_reducible refine gate_callee (f:=104) rfl ?_);refine goesL_ (some 15) rfl rfl Tryd.func104 (by kernel_rfl) rfl #[.agg #[.string ((rd_T57 l0 x4_1).f0), .string ((rd_T57 l0 x4_1).f1)]] rfl am_ ?_;(with_reducible refine(sennitref20_Lost.calls k1 ((rd_T57 l0 x4_1).f0) ((rd_T57 l0 x4_1).f1) true _ A4.out).mono ?_);rintro e w6 ⟨rfl,hb⟩;refine⟨_,rfl,?_⟩;replace HO_3:=Aside0.mk (Kd.R_below (pR_ HO_3.out) hb);replace HB:=Aside0.mk (bst bel_ hb);(try clear hb);(try clear hb2);(try clear hk);(try clear hi))))
      go_roundg k1
      (case measure=>have:=HK1.out;omega);(case rel=>exact⟨(x3_1),(wrap64 (x4_1+1)),rs_,H',⟨by have:=HK1.out;omega⟩,⟨pR_ HO_3.out⟩,⟨bel_⟩⟩)
     ·
      replace c5:=Bool.eq_false_iff.mpr c5;subst c5;have H1:=H;(rw[if_neg (show ¬ (false=true) by decide)] at H1);clear H;have H:=H1;clear H1
      by_cases c7:x3_1.length < 8796093022208
      ·
       (rw[if_pos c7] at H);have LMc7:=Aside0.mk c7;clear c7;obtain⟨y183,hy183⟩ : ∃ y_:List ByteArray,y_=(x3_1 ++ [(rd_T57 l0 x4_1).f1]):=⟨_,rfl⟩;((try rw[Option.bind_some] at H);rw[← hy183] at H);have Ny183:=Aside0.mk hy183;clear hy183;have H':=Aside0.mk H;clear H;have p180:0≤(x4_1:Int):=dt_;have q180:x4_1 < (l0.length:Int):=dt_;obtain⟨ad180,e180,hx180_0,hx180_1⟩:=at_T57 HR0.out x4_1 p180 q180;cases e180;replace hx180_0:=(HB.out.cell (World.block_lt_of_cell? w _ hx180_0)).trans hx180_0;replace hx180_1:=(HB.out.cell (World.block_lt_of_cell? w _ hx180_1)).trans hx180_1;replace p180:=eq_true p180;replace q180:=eq_true q180;(go_wp2_with (first|((with_reducible refine gate_callee (f:=104) rfl ?_);refine goesL_ (some 15) rfl rfl Tryd.func104 (by kernel_rfl) rfl #[.agg #[.string ((rd_T57 l0 x4_1).f0), .string ((rd_T57 l0 x4_1).f1)]] rfl am_ ?_;(with_reducible refine(sennitref20_Lost.calls k1 ((rd_T57 l0 x4_1).f0) ((rd_T57 l0 x4_1).f1) false _ A4.out).mono ?_);rintro e w8 ⟨rfl,hb⟩;refine⟨_,rfl,?_⟩;replace HO_3:=Aside0.mk (Kd.R_below (pR_ HO_3.out) hb);replace HB:=Aside0.mk (bst bel_ hb);(try clear hb);(try clear hb2);(try clear hk);(try clear hi);have p182:0≤(x4_1:Int):=dt_;have q182:x4_1 < (l0.length:Int):=dt_;obtain⟨ad182,e182,hx182_0,hx182_1⟩:=at_T57 HR0.out x4_1 p182 q182;obtain rfl:ad180=ad182:=(by injection e182);replace hx182_0:=(HB.out.cell (World.block_lt_of_cell? w _ hx182_0)).trans hx182_0;replace hx182_1:=(HB.out.cell (World.block_lt_of_cell? w _ hx182_1)).trans hx182_1;replace p182:=eq_true p182;replace q182:=eq_true q182)|((with_reducible refine gate_builtin (b := .append) (xs:=#[.tmp 17, .tmp 23]) rfl ?_);at_builtin;refine Kd.R_append Kd.string (w0:=w) w.heap.size rfl (.tmp 17) (.tmp 23) 23 9 (.string ⟨#[]⟩) 16 rfl Tryd.underlying23 info9 rfl (by decide) (by omega) u3 x3_1 ((rd_T57 l0 x4_1).f1) [.string ((rd_T57 l0 x4_1).f1)] (fun _=>True) (fun _=>False) rfl rfl ?aP (fun _ hk=>hk.elim) ?aF ?aO ?aB ?aS ?aL ?_;(case aP=>exact rfl);(case aB=>exact bel_);(case aF=>exact(fun _ _=>trivial));(case aO=>exact(pR_ HO_3.out));(case aS=>exact(bsz bel_));(case aL=>have:=LMc7.out;omega);intro v184 w9 ho hb hg hat;rw[← Ny183.out] at ho;replace HB:=Aside0.mk (hb);have HO185:=Aside0.mk (ho);clear HO_3;clear ho hb hg hat)))
       go_roundg k1
       (case measure=>have:=HK1.out;omega);(case rel=>exact⟨(y183),(wrap64 (x4_1+1)),rs_,H',⟨by have:=HK1.out;omega⟩,⟨pR_ HO185.out⟩,⟨bel_⟩⟩)
      (· exact nx_ c7 H)
    (· exact nx_ c3 H)
   (· (rw[if_neg c2] at H);have c2b0:decide (x4_1 < (l0.length:Int))=false:=decide_eq_false c2;clear c2;obtain rfl:=Option.some.inj H;go_wp2;go_ret;exact⟨_,ew_,by(with_reducible repeat(first|apply Kd.R_alloc|apply Kd.R_drewN|apply Kd.R_drew));exact HO_3.out,bel_⟩)
def sennitref20_Of.f (k:Nat) (a0_0:ByteArray) (a0_1:ByteArray) (a1:Int):Option (Bool):=if a1 < 0 then (some false) else (if a1 ≥ (a0_0.size:Int) then (some false) else (if 0≤a1 then (if a1 < (a0_0.size:Int) then (if (bt a0_0 a1)=45 then (some true) else (if (bt a0_0 a1)=32 then ((sennitref20_Lost.f k a0_0 a0_1).bind fun t187=>(some (!t187))) else (some false))) else (none)) else (none)))
theorem sennitref20_Of.calls (k:Nat) (a0_0:ByteArray) (a0_1:ByteArray) (a1:Int) (r:Bool) (w:World) (h:sennitref20_Of.f k a0_0 a0_1 a1=some r) :
    Calls Tryd.prog 105 #[.agg #[.string a0_0, .string a0_1], .int .i64 a1] w fun e w'=>e = .returned (.bool r)∧Below w.heap.size w w':=by
 have hu57:=Tryd.underlying57;have HB:=Aside0.mk (Below.refl w.heap.size w);have H:=h;(rw[sennitref20_Of.f] at H);clear h
 by_cases c3:a1 < 0
 (· (rw[if_pos c3] at H);have c3b0:decide (a1 < 0)=true:=decide_eq_true c3;clear c3;obtain rfl:=Option.some.inj H;go_enter Tryd.func105,Tryd.ntmps105;(go_wp2_with (first|((with_reducible refine gate_dst (N:=2) rfl ?_);(try(refine gate_guard (by rfl) ?_;dsimp only));refine box_event ?hg (N:=2) ?hd (cs:=#[.string a0_0, .string a0_1]) (t:=57) ?hr ?_;(case hd=>rfl);(case hg=>rfl);(case hr=>first|(go_simp;done)|(go_simp;rfl));intro gb186 hg w4 hbox hb;have BK186:=Aside0.mk (hbox);have GW186:=Aside0.mk ((by rw[hg];exact(bsz bel_):w.heap.size≤gb186));have GE186:=Aside0.mk ((by rw[hg];exact(bsz bel_):w.heap.size≤gb186));replace HB:=Aside0.mk (bst bel_ hb);clear hb hbox hg)));go_ret;exact⟨by first|rfl|(simp[errW_none,errW_some] <;> rfl)|(simp[*,errW_none,errW_some] <;> rfl),by repeat(first|(with_reducible first|exact HB.out|apply below_alloc|apply pw_below_drewN|apply below_drew1|refine below_set ?_ GE186.out)|exact HB.out)⟩)
 ·
  (rw[if_neg c3] at H);have c3b0:decide (a1 < 0)=false:=decide_eq_false c3;clear c3
  by_cases c5:a1 ≥ (a0_0.size:Int)
  (· (rw[if_pos c5] at H);have c5b0:decide ((a0_0.size:Int)≤a1)=true:=decide_eq_true c5;clear c5;obtain rfl:=Option.some.inj H;go_enter Tryd.func105,Tryd.ntmps105;(go_wp2_with (first|((with_reducible refine gate_dst (N:=2) rfl ?_);(try(refine gate_guard (by rfl) ?_;dsimp only));refine box_event ?hg (N:=2) ?hd (cs:=#[.string a0_0, .string a0_1]) (t:=57) ?hr ?_;(case hd=>rfl);(case hg=>rfl);(case hr=>first|(go_simp;done)|(go_simp;rfl));intro gb186 hg w6 hbox hb;have BK186:=Aside0.mk (hbox);have GW186:=Aside0.mk ((by rw[hg];exact(bsz bel_):w.heap.size≤gb186));have GE186:=Aside0.mk ((by rw[hg];exact(bsz bel_):w.heap.size≤gb186));replace HB:=Aside0.mk (bst bel_ hb);clear hb hbox hg;have hcz7_0:w6.cell? ⟨gb186,0,none⟩=some (.string a0_0):=(bcl BK186.out 0).trans rfl;have hcz7_1:w6.cell? ⟨gb186,1,none⟩=some (.string a0_1):=(bcl BK186.out 1).trans rfl;have hfz7_0:=bfz BK186.out 0;have hfz7_1:=bfz BK186.out 1)));go_ret;exact⟨by first|rfl|(simp[errW_none,errW_some] <;> rfl)|(simp[*,errW_none,errW_some] <;> rfl),by repeat(first|(with_reducible first|exact HB.out|apply below_alloc|apply pw_below_drewN|apply below_drew1|refine below_set ?_ GE186.out)|exact HB.out)⟩)
  ·
   (rw[if_neg c5] at H);have c5b0:decide ((a0_0.size:Int)≤a1)=false:=decide_eq_false c5;clear c5
   by_cases c8:0≤a1
   ·
    (rw[if_pos c8] at H);have c8b0:decide (0≤a1)=true:=decide_eq_true c8;clear c8
    by_cases c9:a1 < (a0_0.size:Int)
    ·
     (rw[if_pos c9] at H);have c9b0:decide (a1 < (a0_0.size:Int))=true:=decide_eq_true c9;clear c9
     by_cases c11:(bt a0_0 a1)=45
     (· (rw[if_pos c11] at H);have c11b0:((bt a0_0 a1) == 45)=true:=beq_iff_eq.mpr c11;have c11b1:((bt a0_0 a1) != 45)=false:=bne_eq_false_iff_eq.mpr c11;clear c11;obtain rfl:=Option.some.inj H;go_enter Tryd.func105,Tryd.ntmps105;(go_wp2_with (first|((with_reducible refine gate_dst (N:=2) rfl ?_);(try(refine gate_guard (by rfl) ?_;dsimp only));refine box_event ?hg (N:=2) ?hd (cs:=#[.string a0_0, .string a0_1]) (t:=57) ?hr ?_;(case hd=>rfl);(case hg=>rfl);(case hr=>first|(go_simp;done)|(go_simp;rfl));intro gb186 hg w12 hbox hb;have BK186:=Aside0.mk (hbox);have GW186:=Aside0.mk ((by rw[hg];exact(bsz bel_):w.heap.size≤gb186));have GE186:=Aside0.mk ((by rw[hg];exact(bsz bel_):w.heap.size≤gb186));replace HB:=Aside0.mk (bst bel_ hb);clear hb hbox hg;have hcz13_0:w12.cell? ⟨gb186,0,none⟩=some (.string a0_0):=(bcl BK186.out 0).trans rfl;have hcz13_1:w12.cell? ⟨gb186,1,none⟩=some (.string a0_1):=(bcl BK186.out 1).trans rfl;have hfz13_0:=bfz BK186.out 0;have hfz13_1:=bfz BK186.out 1;have p10:0≤(a1:Int):=dt_;have q10:a1 < (a0_0.size:Int):=dt_;have hx10:=bt_at a0_0 a1;replace p10:=eq_true p10;replace q10:=eq_true q10)));go_ret;exact⟨by first|rfl|(simp[errW_none,errW_some] <;> rfl)|(simp[*,errW_none,errW_some] <;> rfl),by repeat(first|(with_reducible first|exact HB.out|apply below_alloc|apply pw_below_drewN|apply below_drew1|refine below_set ?_ GE186.out)|exact HB.out)⟩)
     ·
      (rw[if_neg c11] at H);have c11b0:((bt a0_0 a1) == 45)=false:=beq_eq_false_iff_ne.mpr c11;have c11b1:((bt a0_0 a1) != 45)=true:=bne_iff_ne.mpr c11
      by_cases c15:(bt a0_0 a1)=32
      (· (rw[if_pos c15] at H);have c15b0:((bt a0_0 a1) == 32)=true:=beq_iff_eq.mpr c15;have c15b1:((bt a0_0 a1) != 32)=false:=bne_eq_false_iff_eq.mpr c15;clear c15;replace H:=Option.bind_eq_some_iff.mp H;obtain⟨t187,A160,H⟩:=H;(try dsimp only at H);have A16:=Aside0.mk A160;clear A160;obtain rfl:=Option.some.inj H;go_enter Tryd.func105,Tryd.ntmps105;(go_wp2_with (first|((with_reducible refine gate_dst (N:=2) rfl ?_);(try(refine gate_guard (by rfl) ?_;dsimp only));refine box_event ?hg (N:=2) ?hd (cs:=#[.string a0_0, .string a0_1]) (t:=57) ?hr ?_;(case hd=>rfl);(case hg=>rfl);(case hr=>first|(go_simp;done)|(go_simp;rfl));intro gb186 hg w17 hbox hb;have BK186:=Aside0.mk (hbox);have GW186:=Aside0.mk ((by rw[hg];exact(bsz bel_):w.heap.size≤gb186));have GE186:=Aside0.mk ((by rw[hg];exact(bsz bel_):w.heap.size≤gb186));replace HB:=Aside0.mk (bst bel_ hb);clear hb hbox hg;have hcz18_0:w17.cell? ⟨gb186,0,none⟩=some (.string a0_0):=(bcl BK186.out 0).trans rfl;have hcz18_1:w17.cell? ⟨gb186,1,none⟩=some (.string a0_1):=(bcl BK186.out 1).trans rfl;have hfz18_0:=bfz BK186.out 0;have hfz18_1:=bfz BK186.out 1;have p10:0≤(a1:Int):=dt_;have q10:a1 < (a0_0.size:Int):=dt_;have hx10:=bt_at a0_0 a1;replace p10:=eq_true p10;replace q10:=eq_true q10;have p14:0≤(a1:Int):=dt_;have q14:a1 < (a0_0.size:Int):=dt_;have hx14:=bt_at a0_0 a1;replace p14:=eq_true p14;replace q14:=eq_true q14)|(go_at_call 104;(with_reducible refine(sennitref20_Lost.calls k a0_0 a0_1 t187 _ A16.out).mono ?_);rintro e w19 ⟨rfl,hb⟩;replace BK186:=Aside0.mk (blk_below (g:=gb186) (o := .cells #[.string a0_0, .string a0_1] 57 (0,0)) (pK_ BK186.out) hb);replace HB:=Aside0.mk (bst (bs1_ GE186.out) hb);(try clear hb);(try clear hb2);(try clear hk);(try clear hi))));go_ret;exact⟨by first|rfl|(simp[errW_none,errW_some] <;> rfl)|(simp[*,errW_none,errW_some] <;> rfl),by repeat(first|(with_reducible first|exact HB.out|apply below_alloc|apply pw_below_drewN|apply below_drew1|refine below_set ?_ GE186.out)|exact HB.out)⟩);(· (rw[if_neg c15] at H);have c15b0:((bt a0_0 a1) == 32)=false:=beq_eq_false_iff_ne.mpr c15;have c15b1:((bt a0_0 a1) != 32)=true:=bne_iff_ne.mpr c15;obtain rfl:=Option.some.inj H;go_enter Tryd.func105,Tryd.ntmps105;(go_wp2_with (first|((with_reducible refine gate_dst (N:=2) rfl ?_);(try(refine gate_guard (by rfl) ?_;dsimp only));refine box_event ?hg (N:=2) ?hd (cs:=#[.string a0_0, .string a0_1]) (t:=57) ?hr ?_;(case hd=>rfl);(case hg=>rfl);(case hr=>first|(go_simp;done)|(go_simp;rfl));intro gb186 hg w20 hbox hb;have BK186:=Aside0.mk (hbox);have GW186:=Aside0.mk ((by rw[hg];exact(bsz bel_):w.heap.size≤gb186));have GE186:=Aside0.mk ((by rw[hg];exact(bsz bel_):w.heap.size≤gb186));replace HB:=Aside0.mk (bst bel_ hb);clear hb hbox hg;have hcz21_0:w20.cell? ⟨gb186,0,none⟩=some (.string a0_0):=(bcl BK186.out 0).trans rfl;have hcz21_1:w20.cell? ⟨gb186,1,none⟩=some (.string a0_1):=(bcl BK186.out 1).trans rfl;have hfz21_0:=bfz BK186.out 0;have hfz21_1:=bfz BK186.out 1;have p10:0≤(a1:Int):=dt_;have q10:a1 < (a0_0.size:Int):=dt_;have hx10:=bt_at a0_0 a1;replace p10:=eq_true p10;replace q10:=eq_true q10;have p14:0≤(a1:Int):=dt_;have q14:a1 < (a0_0.size:Int):=dt_;have hx14:=bt_at a0_0 a1;replace p14:=eq_true p14;replace q14:=eq_true q14)));go_ret;exact⟨by first|rfl|(simp[errW_none,errW_some] <;> rfl)|(simp[*,errW_none,errW_some] <;> rfl),by repeat(first|(with_reducible first|exact HB.out|apply below_alloc|apply pw_below_drewN|apply below_drew1|refine below_set ?_ GE186.out)|exact HB.out)⟩)
    (· exact nx_ c9 H)
   (· exact nx_ c8 H)
def sennitref20_Column.l0:Nat→List (S57)→Int→List ByteArray→Int→Option (List ByteArray)
  | 0,_,_,_,_=>none
  | k+1,x0,x1,x5,x6=>if x6 < (x0.length:Int) then (if 0≤x6 then ((sennitref20_Of.f k ((rd_T57 x0 x6).f0) ((rd_T57 x0 x6).f1) x1).bind fun t189=>(if t189=true then (if x5.length < 8796093022208 then (sennitref20_Column.l0 k x0 x1 (x5 ++ [(rd_T57 x0 x6).f1]) (wrap64 (x6+1))) else (none)) else (sennitref20_Column.l0 k x0 x1 x5 (wrap64 (x6+1))))) else (none)) else (some x5)
def sennitref20_Column.f (k:Nat) (l0:List (S57)) (a1:Int):Option (List ByteArray):=sennitref20_Column.l0 k l0 a1 ([]:List ByteArray) 0
theorem sennitref20_Column.calls (k:Nat) (A0:Option Addr) (c0:Nat) (l0:List (S57)) (a1:Int) (r:List ByteArray) (w:World) (hr0:Kd.C k57 w A0 l0.length l0) (hc0:l0.length≤c0) (h:sennitref20_Column.f k l0 a1=some r) :
    Calls Tryd.prog 82 #[.slice A0 l0.length c0, .int .i64 a1] w fun e w' => ∃ v0_:Value,e = .returned (v0_)∧Kd.R Kd.string 9 w' w.heap.size (fun _=>True) v0_ r∧Below w.heap.size w w':=by
 have hu57:=Tryd.underlying57;have HR0:=Aside0.mk hr0;have HC0:=Aside0.mk hc0;clear hr0 hc0;have HB:=Aside0.mk (Below.refl w.heap.size w);have H:=h;(rw[sennitref20_Column.f] at H);clear h;have H':=Aside0.mk H;clear H;go_enter Tryd.func82,Tryd.ntmps82;go_wp2
 go_loopg [5,6] k (fun kq v5 v6 w' => ∃ (x5_1:List ByteArray) (x6_1:Int),v6 = .int .i64 x6_1∧Aside0 (sennitref20_Column.l0 kq l0 a1 x5_1 x6_1=some r)∧Aside0 (kq≤k)∧Aside0 (Kd.R Kd.string 9 w' w.heap.size (fun _=>True) v5 x5_1)∧Aside0 (Below w.heap.size w w'))
 (case atStart=>exact⟨(([]:List ByteArray)),(0),rs_,H',⟨Nat.le_refl _⟩,⟨by first|exact Kd.R_nil _ _ _ _ _|exact Kd.N_nil _ _ _ _ _|exact Kd.V_nil _ _ _ _ _|exact Kd.Q_nil _ _ _ _ _|exact Kd.S_nil _ _ _ _ _⟩,⟨bel_⟩⟩)
 case round =>
  clear H';(try clear p2);obtain⟨x5_1,x6_1,rfl,HA,HK1,HO_5,HB⟩:=hrel
  cases gk with
  | zero=>exact absurd HA.out (by simp[sennitref20_Column.l0])
  | succ k1 =>
   have H:=HA.out;clear HA;(simp only[sennitref20_Column.l0] at H)
   by_cases c3:x6_1 < (l0.length:Int)
   ·
    (rw[if_pos c3] at H);have c3b0:decide (x6_1 < (l0.length:Int))=true:=decide_eq_true c3;clear c3
    by_cases c4:0≤x6_1
    ·
     (rw[if_pos c4] at H);have c4b0:decide (0≤x6_1)=true:=decide_eq_true c4;clear c4;replace H:=Option.bind_eq_some_iff.mp H;obtain⟨t189,A50,H⟩:=H;(try dsimp only at H);have A5:=Aside0.mk A50;clear A50
     by_cases c6:t189=true
     ·
      subst c6;have H1:=H;(rw[if_pos rfl] at H1);clear H;have H:=H1;clear H1
      by_cases c7:x5_1.length < 8796093022208
      ·
       (rw[if_pos c7] at H);have LMc7:=Aside0.mk c7;clear c7;obtain⟨y191,hy191⟩ : ∃ y_:List ByteArray,y_=(x5_1 ++ [(rd_T57 l0 x6_1).f1]):=⟨_,rfl⟩;((try rw[Option.bind_some] at H);rw[← hy191] at H);have Ny191:=Aside0.mk hy191;clear hy191;have H':=Aside0.mk H;clear H;have p188:0≤(x6_1:Int):=dt_;have q188:x6_1 < (l0.length:Int):=dt_;obtain⟨ad188,e188,hx188_0,hx188_1⟩:=at_T57 HR0.out x6_1 p188 q188;cases e188;replace hx188_0:=(HB.out.cell (World.block_lt_of_cell? w _ hx188_0)).trans hx188_0;replace hx188_1:=(HB.out.cell (World.block_lt_of_cell? w _ hx188_1)).trans hx188_1;replace p188:=eq_true p188;replace q188:=eq_true q188;(go_wp2_with (first|((with_reducible refine gate_callee (f:=105) rfl ?_);refine goesL_ (some 18) rfl rfl Tryd.func105 (by kernel_rfl) rfl #[.agg #[.string ((rd_T57 l0 x6_1).f0), .string ((rd_T57 l0 x6_1).f1)], .int .i64 a1] rfl am_ ?_;(with_reducible refine(sennitref20_Of.calls k1 ((rd_T57 l0 x6_1).f0) ((rd_T57 l0 x6_1).f1) a1 true _ A5.out).mono ?_);rintro e w8 ⟨rfl,hb⟩;refine⟨_,rfl,?_⟩;replace HO_5:=Aside0.mk (Kd.R_below (pR_ HO_5.out) hb);replace HB:=Aside0.mk (bst bel_ hb);(try clear hb);(try clear hb2);(try clear hk);(try clear hi);have p190:0≤(x6_1:Int):=dt_;have q190:x6_1 < (l0.length:Int):=dt_;obtain⟨ad190,e190,hx190_0,hx190_1⟩:=at_T57 HR0.out x6_1 p190 q190;obtain rfl:ad188=ad190:=(by injection e190);replace hx190_0:=(HB.out.cell (World.block_lt_of_cell? w _ hx190_0)).trans hx190_0;replace hx190_1:=(HB.out.cell (World.block_lt_of_cell? w _ hx190_1)).trans hx190_1;replace p190:=eq_true p190;replace q190:=eq_true q190)|((with_reducible refine gate_builtin (b := .append) (xs:=#[.tmp 19, .tmp 25]) rfl ?_);at_builtin;refine Kd.R_append Kd.string (w0:=w) w.heap.size rfl (.tmp 19) (.tmp 25) 23 9 (.string ⟨#[]⟩) 16 rfl Tryd.underlying23 info9 rfl (by decide) (by omega) u5 x5_1 ((rd_T57 l0 x6_1).f1) [.string ((rd_T57 l0 x6_1).f1)] (fun _=>True) (fun _=>False) rfl rfl ?aP (fun _ hk=>hk.elim) ?aF ?aO ?aB ?aS ?aL ?_;(case aP=>exact rfl);(case aB=>exact bel_);(case aF=>exact(fun _ _=>trivial));(case aO=>exact(pR_ HO_5.out));(case aS=>exact(bsz bel_));(case aL=>have:=LMc7.out;omega);intro v192 w9 ho hb hg hat;rw[← Ny191.out] at ho;replace HB:=Aside0.mk (hb);have HO193:=Aside0.mk (ho);clear HO_5;clear ho hb hg hat)))
       go_roundg k1
       (case measure=>have:=HK1.out;omega);(case rel=>exact⟨(y191),(wrap64 (x6_1+1)),rs_,H',⟨by have:=HK1.out;omega⟩,⟨pR_ HO193.out⟩,⟨bel_⟩⟩)
      (· exact nx_ c7 H)
     ·
      replace c6:=Bool.eq_false_iff.mpr c6;subst c6;have H1:=H;(rw[if_neg (show ¬ (false=true) by decide)] at H1);clear H;have H:=H1;clear H1;have H':=Aside0.mk H;clear H;have p188:0≤(x6_1:Int):=dt_;have q188:x6_1 < (l0.length:Int):=dt_;obtain⟨ad188,e188,hx188_0,hx188_1⟩:=at_T57 HR0.out x6_1 p188 q188;cases e188;replace hx188_0:=(HB.out.cell (World.block_lt_of_cell? w _ hx188_0)).trans hx188_0;replace hx188_1:=(HB.out.cell (World.block_lt_of_cell? w _ hx188_1)).trans hx188_1;replace p188:=eq_true p188;replace q188:=eq_true q188;(go_wp2_with (first|((with_reducible refine gate_callee (f:=105) rfl ?_);refine goesL_ (some 18) rfl rfl Tryd.func105 (by kernel_rfl) rfl #[.agg #[.string ((rd_T57 l0 x6_1).f0), .string ((rd_T57 l0 x6_1).f1)], .int .i64 a1] rfl am_ ?_;(with_reducible refine(sennitref20_Of.calls k1 ((rd_T57 l0 x6_1).f0) ((rd_T57 l0 x6_1).f1) a1 false _ A5.out).mono ?_);rintro e w10 ⟨rfl,hb⟩;refine⟨_,rfl,?_⟩;replace HO_5:=Aside0.mk (Kd.R_below (pR_ HO_5.out) hb);replace HB:=Aside0.mk (bst bel_ hb);(try clear hb);(try clear hb2);(try clear hk);(try clear hi))))
      go_roundg k1
      (case measure=>have:=HK1.out;omega);(case rel=>exact⟨(x5_1),(wrap64 (x6_1+1)),rs_,H',⟨by have:=HK1.out;omega⟩,⟨pR_ HO_5.out⟩,⟨bel_⟩⟩)
    (· exact nx_ c4 H)
   (· (rw[if_neg c3] at H);have c3b0:decide (x6_1 < (l0.length:Int))=false:=decide_eq_false c3;clear c3;obtain rfl:=Option.some.inj H;go_wp2;go_ret;exact⟨_,ew_,by(with_reducible repeat(first|apply Kd.R_alloc|apply Kd.R_drewN|apply Kd.R_drew));exact HO_5.out,bel_⟩)
mutual
def sennitref01_Few.l0:Nat→List ByteArray→Int→Int→Option (Bool)
  | 0,_,_,_=>none
  | k+1,x0,x1,x5=>if x5 < (x0.length:Int) then (sennitref01_Few.j1 k x0 x1 x5 (decide (x5≤x1))) else (sennitref01_Few.j1 k x0 x1 x5 false)
def sennitref01_Few.j1:Nat→List ByteArray→Int→Int→Bool→Option (Bool)
  | 0,_,_,_,_=>none
  | k+1,x0,x1,x5,x14=>if x14=true then (if 0≤x5 then (if x5 < (x0.length:Int) then (if ((rdOf ByteArray.empty x0 x5).size:Int) > 100 then (some false) else (sennitref01_Few.l0 k x0 x1 (wrap64 (x5+1)))) else (none)) else (none)) else (some (decide ((x0.length:Int)≤x1)))
end
def sennitref01_Few.f (k:Nat) (l0:List ByteArray) (a1:Int):Option (Bool):=sennitref01_Few.l0 k l0 a1 0
theorem sennitref01_Few.calls (k:Nat) (A0:Option Addr) (c0:Nat) (l0:List ByteArray) (a1:Int) (r:Bool) (w:World) (hr0:Kd.C Kd.string w A0 l0.length l0) (hc0:l0.length≤c0) (h:sennitref01_Few.f k l0 a1=some r) :
    Calls Tryd.prog 16 #[.slice A0 l0.length c0, .int .i64 a1] w fun e w'=>e = .returned (.bool r)∧Drawn0 w w':=by
 have HR0:=Aside0.mk hr0;have HC0:=Aside0.mk hc0;clear hr0 hc0;have H:=h;(rw[sennitref01_Few.f] at H);clear h;have H':=Aside0.mk H;clear H;go_enter Tryd.func16,Tryd.ntmps16;go_wp2
 go_loopg [5] k (fun kq v5 w' => ∃ (x5_1:Int),v5 = .int .i64 x5_1∧Aside0 (sennitref01_Few.l0 kq l0 a1 x5_1=some r)∧Aside0 (kq≤k)∧Drawn0 w w')
 (case atStart=>exact⟨(0),rs_,H',⟨Nat.le_refl _⟩,d0_⟩)
 case round =>
  clear H';(try clear c1);(try clear p2);obtain⟨x5_1,rfl,HA,HK1,⟨m1,rfl⟩⟩:=hrel
  cases gk with
  | zero=>exact absurd HA.out (by simp[sennitref01_Few.l0])
  | succ k1 =>
   have H:=HA.out;clear HA;(simp only[sennitref01_Few.l0] at H);have HC3:=Aside0.mk H;clear H
   go_upto_region 2 with (fail)
   go_cut [14] (fun v14 wc => ∃ (kq:Nat) (x14_2:Bool),v14 = .bool x14_2∧Aside0 (sennitref01_Few.j1 kq l0 a1 x5_1 x14_2=some r)∧Aside0 (kq≤k1)∧Drawn0 w wc)
   case first =>
    have H:=HC3.out;clear HC3
    by_cases c4:x5_1 < (l0.length:Int)
    ·
     (rw[if_pos c4] at H);have c4b0:decide (x5_1 < (l0.length:Int))=true:=decide_eq_true c4;clear c4;(first|rw[c4b0]|(simp only[i64_w,i32_w];rw[c4b0])|skip);have H':=Aside0.mk H;clear H;go_wp2
     go_meet
     (case rel=>exact⟨_,(decide (x5_1≤a1)),rs_,H',⟨by have:=HK1.out;first|omega|exact Nat.le_refl _⟩,d0_⟩)
    ·
     (rw[if_neg c4] at H);have c4b0:decide (x5_1 < (l0.length:Int))=false:=decide_eq_false c4;clear c4;(first|rw[c4b0]|(simp only[i64_w,i32_w];rw[c4b0])|skip);have H':=Aside0.mk H;clear H;go_wp2
     go_meet
     (case rel=>exact⟨_,(false),rs_,H',⟨by have:=HK1.out;first|omega|exact Nat.le_refl _⟩,d0_⟩)
   case rest =>
    clear HC3;(try clear c1);(try clear p2);(try clear c4);(try clear c4b0);(try clear p2);obtain⟨kq,x14_2,rfl,HA,HJ2,⟨mc2,rfl⟩⟩:=hcut
    cases kq with
    | zero=>exact absurd HA.out (by simp[sennitref01_Few.j1])
    | succ kj2 =>
     have H:=HA.out;clear HA;(simp only[sennitref01_Few.j1] at H)
     by_cases c5:x14_2=true
     ·
      subst c5;have H1:=H;(rw[if_pos rfl] at H1);clear H;have H:=H1;clear H1
      by_cases c6:0≤x5_1
      ·
       (rw[if_pos c6] at H);have c6b0:decide (0≤x5_1)=true:=decide_eq_true c6;clear c6
       by_cases c7:x5_1 < (l0.length:Int)
       ·
        (rw[if_pos c7] at H);have c7b0:decide (x5_1 < (l0.length:Int))=true:=decide_eq_true c7;clear c7
        by_cases c8:((rdOf ByteArray.empty l0 x5_1).size:Int) > 100
        (· (rw[if_pos c8] at H);have c8b0:decide (100 < ((rdOf ByteArray.empty l0 x5_1).size:Int))=true:=decide_eq_true c8;have c8b1:decide (100 < (rdOf ByteArray.empty l0 x5_1).size)=true:=decide_eq_true (by omega);clear c8;obtain rfl:=Option.some.inj H;have p234:0≤(x5_1:Int):=dt_;have q234:x5_1 < (l0.length:Int):=dt_;obtain⟨ad234,e234,hx234_0⟩:=Kd.at_string HR0.out x5_1 p234 q234;cases e234;replace p234:=eq_true p234;replace q234:=eq_true q234;go_wp2;go_ret;exact⟨by first|rfl|(simp;done)|(simp[*];done),d0_⟩)
        ·
         (rw[if_neg c8] at H);have c8b0:decide (100 < ((rdOf ByteArray.empty l0 x5_1).size:Int))=false:=decide_eq_false c8;have c8b1:decide (100 < (rdOf ByteArray.empty l0 x5_1).size)=false:=decide_eq_false (by omega);clear c8;have H':=Aside0.mk H;clear H;have p234:0≤(x5_1:Int):=dt_;have q234:x5_1 < (l0.length:Int):=dt_;obtain⟨ad234,e234,hx234_0⟩:=Kd.at_string HR0.out x5_1 p234 q234;cases e234;replace p234:=eq_true p234;replace q234:=eq_true q234;go_wp2
         go_roundg kj2
         (case measure=>have:=HK1.out;have:=HJ2.out;omega);(case rel=>exact⟨(wrap64 (x5_1+1)),rs_,H',⟨by have:=HK1.out;have:=HJ2.out;omega⟩,d0_⟩)
       (· exact nx_ c7 H)
      (· exact nx_ c6 H)
     (· replace c5:=Bool.eq_false_iff.mpr c5;subst c5;have H1:=H;(rw[if_neg (show ¬ (false=true) by decide)] at H1);clear H;have H:=H1;clear H1;obtain rfl:=Option.some.inj H;go_wp2;go_ret;exact⟨by first|rfl|(simp;done)|(simp[*];done),d0_⟩)
def sennitref21_Hunk.l0:Nat→List (S57)→Int→Int→Int→List (S45)→Int→Int→List (S57)→Option ((List (S45)) × Int × Int × (List (S57)))
  | 0,_,_,_,_,_,_,_,_=>none
  | k+1,x0,x1,x2,x9,x160000,x160001,x160002,x160003=>if 0 < (x0.length:Int) then (if x9 < (((rd_T57 x0 0).f0).size:Int) then (if 0≤x1 then (if x1≤(x0.length:Int) then ((sennitref20_Column.f k (x0.take (x1:Int).toNat) x9).bind fun t182=>(if x1≤x2 then (if x2≤(x0.length:Int) then ((sennitref20_Column.f k ((x0.take (x2:Int).toNat).drop (x1:Int).toNat) x9).bind fun t190=>(if x160000.length < 8796093022208 then (sennitref21_Hunk.l0 k x0 x1 x2 (wrap64 (x9+1)) (x160000 ++ [(⟨(t182.length:Int),wrap64 ((t182.length:Int)+(t190.length:Int))⟩:S45)]) x160001 x160002 x160003) else (none))) else (none)) else (none))) else (none)) else (none)) else (some (x160000,x160001,x160002,x160003))) else (none)
def sennitref21_Hunk.f (k:Nat) (l0:List (S57)) (a1:Int) (a2:Int):Option ((List (S45)) × Int × Int × (List (S57))):=if 0≤a1 then (if a1≤a2 then (if a2≤(l0.length:Int) then (if a1≤(l0.length:Int) then ((sennitref20_Result.f k (l0.take (a1:Int).toNat)).bind fun t165=>((sennitref20_Result.f k ((l0.take (a2:Int).toNat).drop (a1:Int).toNat)).bind fun t173=>(sennitref21_Hunk.l0 k l0 a1 a2 0 ([]:List (S45)) (t165.length:Int) (wrap64 ((t165.length:Int)+(t173.length:Int))) ((l0.take (a2:Int).toNat).drop (a1:Int).toNat)))) else (none)) else (none)) else (none)) else (none)
def sennitref21_Hunk.T8:Bool × List (List Nat × List Nat):=(true,[([],[]),([0],[0]),([],[]),([],[]),([],[]),([],[]),([],[]),([4,5,6],[4,5,6]),([],[]),([7,8],[7,8]),([9],[9]),([3,10],[3,10]),([2,11],[2,11]),([12],[12]),([1,13,9],[1,13]),([0,1,2,3,4,5,6,7,8,9,10,11,12,13,14],[]),([15,14,14,0,1,2,3,4,5,6,7,8,9,10,11,12,13,14],[14,15])])
def sennitref21_Hunk.B8:List Nat:=[0,1,0,0,0,0,0,112,0,496,1008,2040,4092,8188,16383,32767,65535]
theorem sennitref21_Hunk.tab8:rtab .any (opsOf Tryd.f50 8)=sennitref21_Hunk.T8:=by kernel_rfl
theorem sennitref21_Hunk.bits8:waitsOk sennitref21_Hunk.T8.2 sennitref21_Hunk.B8=true:=by kernel_rfl
theorem sennitref21_Hunk.calls (k:Nat) (P0_:Nat→Prop) (A0:Option Addr) (c0:Nat) (l0:List (S57)) (a1:Int) (a2:Int) (r1:List (S45)) (r2:Int) (r3:Int) (r4:List (S57)) (w:World) (hs0:Kd.V k57 57 w w.heap.size (fun k_=>P0_ k_) (.slice A0 l0.length c0) l0) (h:sennitref21_Hunk.f k l0 a1 a2=some (r1,r2,r3,r4)) :
    Calls Tryd.prog 50 #[.slice A0 l0.length c0, .int .i64 a1, .int .i64 a2] w fun e w' => ∃ v0_ v3_:Value,e = .returned (.agg #[v0_, .int .i64 r2, .int .i64 r3,v3_])∧Kd.R k45 45 w' w.heap.size (fun k_=>(w.heap.size≤k_)) v0_ r1∧Kd.V k57 57 w' w.heap.size (fun k_=>(P0_ k_∨w.heap.size≤k_)∧some k_≠(v0_:Value).ownBlock) v3_ r4∧Below w.heap.size w w':=by
 have hu48:=Tryd.underlying48;have hu45:=Tryd.underlying45;have HO0:=Aside0.mk (show Kd.V k57 57 w w.heap.size (fun k_=>(P0_ k_∨w.heap.size≤k_)) (.slice A0 l0.length c0) l0 from Kd.V_mono hs0 (fun k_ hk => .inl hk));have HB:=Aside0.mk (Below.refl w.heap.size w);have H:=h;(rw[sennitref21_Hunk.f] at H);clear h
 by_cases c4:0≤a1
 ·
  (rw[if_pos c4] at H);have c4b0:=eq_true c4;have c4b1:decide (0≤a1)=true:=decide_eq_true c4;clear c4
  by_cases c5:a1≤a2
  ·
   (rw[if_pos c5] at H);have c5b0:=eq_true c5;have c5b1:decide (a1≤a2)=true:=decide_eq_true c5;clear c5
   by_cases c6:a2≤(l0.length:Int)
   ·
    (rw[if_pos c6] at H);have c6b0:=eq_true c6;have c6b1:decide (a2≤(l0.length:Int))=true:=decide_eq_true c6;clear c6;obtain⟨y154,hy154⟩ : ∃ y_:List (S57),y_=((l0.take (a2:Int).toNat).drop (a1:Int).toNat):=⟨_,rfl⟩;(replace H:(if a1≤(l0.length:Int) then ((sennitref20_Result.f k (l0.take (a1:Int).toNat)).bind fun t165=>((sennitref20_Result.f k ((l0.take (a2:Int).toNat).drop (a1:Int).toNat)).bind fun t173=>(sennitref21_Hunk.l0 k l0 a1 a2 0 ([]:List (S45)) (t165.length:Int) (wrap64 ((t165.length:Int)+(t173.length:Int))) y154))) else (none))=some (r1,r2,r3,r4):=by first|(rw[hy154];with_reducible exact H)|(have H2_:=(Option.bind_some _ _).symm.trans H;rw[hy154];with_reducible exact H2_)|(have H2_:=(Option.bind_some _ _).symm.trans H;with_reducible exact H2_)|with_reducible exact H|(rw[hy154];exact H)|exact H);have Ny154:=Aside0.mk hy154;clear hy154;have c7b0:=eq_true (dt_:0≤a1)
    by_cases c8:a1≤(l0.length:Int)
    ·
     (rw[if_pos c8] at H);have c8b0:=eq_true c8;have c8b1:decide (a1≤(l0.length:Int))=true:=decide_eq_true c8;clear c8;obtain⟨y160,hy160⟩ : ∃ y_:List (S57),y_=(l0.take (a1:Int).toNat):=⟨_,rfl⟩;(replace H:((sennitref20_Result.f k y160).bind fun t165=>((sennitref20_Result.f k ((l0.take (a2:Int).toNat).drop (a1:Int).toNat)).bind fun t173=>(sennitref21_Hunk.l0 k l0 a1 a2 0 ([]:List (S45)) (t165.length:Int) (wrap64 ((t165.length:Int)+(t173.length:Int))) y154)))=some (r1,r2,r3,r4):=by first|(rw[hy160];with_reducible exact H)|(have H2_:=(Option.bind_some _ _).symm.trans H;rw[hy160];with_reducible exact H2_)|(have H2_:=(Option.bind_some _ _).symm.trans H;with_reducible exact H2_)|with_reducible exact H|(rw[hy160];exact H)|exact H);have Ny160:=Aside0.mk hy160;clear hy160;replace H:=Option.bind_eq_some_iff.mp H;obtain⟨t165,A90,H⟩:=H;replace H:((sennitref20_Result.f k ((l0.take (a2:Int).toNat).drop (a1:Int).toNat)).bind fun t173=>(sennitref21_Hunk.l0 k l0 a1 a2 0 ([]:List (S45)) (t165.length:Int) (wrap64 ((t165.length:Int)+(t173.length:Int))) y154))=some (r1,r2,r3,r4):=H;have A9:=Aside0.mk A90;clear A90;have c10b0:=eq_true (dt_:0≤a1);have c11b0:=eq_true (dt_:a1≤a2);have c12b0:=eq_true (dt_:a2≤(l0.length:Int));obtain⟨y168,hy168⟩ : ∃ y_:List (S57),y_=((l0.take (a2:Int).toNat).drop (a1:Int).toNat):=⟨_,rfl⟩;(replace H:((sennitref20_Result.f k y168).bind fun t173=>(sennitref21_Hunk.l0 k l0 a1 a2 0 ([]:List (S45)) (t165.length:Int) (wrap64 ((t165.length:Int)+(t173.length:Int))) y154))=some (r1,r2,r3,r4):=by first|(rw[hy168];with_reducible exact H)|(have H2_:=(Option.bind_some _ _).symm.trans H;rw[hy168];with_reducible exact H2_)|(have H2_:=(Option.bind_some _ _).symm.trans H;with_reducible exact H2_)|with_reducible exact H|(rw[hy168];exact H)|exact H);have Ny168:=Aside0.mk hy168;clear hy168;replace H:=Option.bind_eq_some_iff.mp H;obtain⟨t173,A130,H⟩:=H;replace H:(sennitref21_Hunk.l0 k l0 a1 a2 0 ([]:List (S45)) (t165.length:Int) (wrap64 ((t165.length:Int)+(t173.length:Int))) y154)=some (r1,r2,r3,r4):=H;have A13:=Aside0.mk A130;clear A130;have H':=Aside0.mk H;clear H;go_enter Tryd.func50,Tryd.ntmps50
     (go_wp2_with (first|((with_reducible refine gate_dst (N:=6) rfl ?_);refine box_event ?hg (N:=6) ?hd (cs:=#[.slice none 0 0, .int .i64 0, .int .i64 0, .slice none 0 0]) (t:=48) ?hr ?_;(case hd=>rfl);(case hg=>rfl);(case hr=>first|(go_simp;done)|(go_simp;rfl));intro gb153 hg w14 hbox hb;replace HO0:=Aside0.mk (Kd.V_below (Kd.V_elderB (pV_ HO0.out) gb153 (Nat.le_of_eq hg.symm)) hb);have BK153:=Aside0.mk (hbox);have GW153:=Aside0.mk ((by rw[hg];exact(bsz bel_):w.heap.size≤gb153));have GE153:=Aside0.mk ((by rw[hg];exact(bsz bel_):w.heap.size≤gb153));replace HB:=Aside0.mk (bst bel_ hb);clear hb hbox hg;have q15:(a2:Int)≤((l0.length:Int):Int):=dt_;obtain⟨i015,hi015,_,hsz15,_⟩:=info_parts info57;have hroom15:l0.length≤c0:=(Kd.V_reads' HO0.out).2.1;have hC15:Kd.F k57 _ _ A0 l0.length l0:=(Kd.V_at (base:=w.heap.size) HO0.out).2.2;have ql15:(a1:Int)≤(a2:Int):=dt_;have q015:(0:Int)≤(a1:Int):=dt_;have hcut15:=cut_mid (P:=Tryd.prog) 36 57 .i64 .i64 Tryd.underlying36 hi015 2 hsz15 A0 l0.length c0 a1 a2 q015 ql15 q15 hroom15;have hr15:=Kd.F_mid (lo:=(a1:Int).toNat) (hi:=(a2:Int).toNat) (c:=c0) hC15 (by omega) (by omega) hroom15;obtain⟨A15,hA15⟩ : ∃ Az_,Az_=(if c0=(a1:Int).toNat then A0 else (A0:Option Addr).map (·.add ((a1:Int).toNat * 2))):=⟨_,rfl⟩;obtain⟨c15,hc15⟩ : ∃ c1,c1=c0 - (a1:Int).toNat:=⟨_,rfl⟩;have hy15:y154.length=(a2:Int).toNat - (a1:Int).toNat:=(by rw[Ny154.out,List.length_drop,List.length_take] <;> omega);rw[show ((l0).take (a2:Int).toNat).drop (a1:Int).toNat=y154 from Ny154.out.symm] at hr15;replace hr15:Kd.F k57 _ _ A15 y154.length y154:=(by rw[hA15];exact hr15);rw[← hy15,← hA15,← hc15] at hcut15;have HO158:=Aside0.mk (show Kd.V k57 57 _ w.heap.size _ (.slice A15 y154.length c15) y154 from Kd.V_mk (by rw[hy15,hc15];exact Nat.sub_le_sub_right (Nat.le_trans (by omega) hroom15) _) hr15);have HC158:=Aside0.mk (show y154.length≤c15 from by rw[hy15,hc15];exact Nat.sub_le_sub_right (Nat.le_trans (by omega) hroom15) _);clear hr15 hC15 hroom15 hi015 hsz15 hc15;have KY15:=Aside0.mk hy15;have KA15:=Aside0.mk hA15;clear hy15 hA15;replace q15:=eq_true q15)|((with_reducible refine gate_dst (N:=7) rfl ?_);refine box_event ?hg (N:=7) ?hd (cs:=#[.slice none 0 0, .int .i64 0, .int .i64 0, .slice none 0 0]) (t:=48) ?hr ?_;(case hd=>rfl);(case hg=>rfl);(case hr=>first|(go_simp;done)|(go_simp;rfl));intro gb159 hg w16 hbox hb;replace HO0:=Aside0.mk (Kd.V_below (Kd.V_elderB (pV_ HO0.out) gb159 (Nat.le_of_eq hg.symm)) hb);replace HO158:=Aside0.mk (Kd.V_below (Kd.V_elderB (pV_ HO158.out) gb159 (Nat.le_of_eq hg.symm)) hb);have BK159:=Aside0.mk (hbox);have GW159:=Aside0.mk ((by rw[hg];exact(bsz (bs1_ GE153.out)):w.heap.size≤gb159));have GE159:=Aside0.mk ((by rw[hg];exact(bsz (bs1_ GE153.out)):w.heap.size≤gb159));replace HB:=Aside0.mk (bst (bs1_ GE153.out) hb);have NB153_159:=Aside0.mk ((by rw[hg];exact Nat.ne_of_lt (blk_lt (g:=gb153) (o := .cells #[.slice none 0 0, .int .i64 0, .int .i64 0, .slice none 0 0] 48 (0,0)) (pK_ BK153.out)):gb153≠gb159));have NB159_153:=Aside0.mk ((by rw[hg];exact Nat.ne_of_gt (blk_lt (g:=gb153) (o := .cells #[.slice none 0 0, .int .i64 0, .int .i64 0, .slice none 0 0] 48 (0,0)) (pK_ BK153.out)):gb159≠gb153));replace BK153:=Aside0.mk (blk_below (g:=gb153) (o := .cells #[.slice none 0 0, .int .i64 0, .int .i64 0, .slice none 0 0] 48 (0,0)) (pK_ BK153.out) hb);clear hb hbox hg;have hnb17:=NB159_153.out;have hnc17:=NB153_159.out;have hcz18_0:w16.cell? ⟨gb159,0,none⟩=some (.slice none 0 0):=(bcl BK159.out 0).trans rfl;have hcz18_1:w16.cell? ⟨gb159,1,none⟩=some (.int .i64 0):=(bcl BK159.out 1).trans rfl;have hcz18_2:w16.cell? ⟨gb159,2,none⟩=some (.int .i64 0):=(bcl BK159.out 2).trans rfl;have hcz18_3:w16.cell? ⟨gb159,3,none⟩=some (.slice none 0 0):=(bcl BK159.out 3).trans rfl;have hfz18_0:=bfz BK159.out 0;have hfz18_1:=bfz BK159.out 1;have hfz18_2:=bfz BK159.out 2;have hfz18_3:=bfz BK159.out 3)|((with_reducible refine gate_store (t:=48) (p:=7) rfl ?_);refine store_event (t:=48) (p:=7) (v:=?vo_w19) (w1:=((((w16.setCell ⟨gb159,0,none⟩ (.slice none 0 0)).setCell ⟨gb159,1,none⟩ (.int .i64 0)).setCell ⟨gb159,2,none⟩ (.int .i64 0)).setCell ⟨gb159,3,none⟩ (.slice A15 y154.length c15))) ?hg ?ho ?hn ?hr ?_;(case ho=>rfl);(case hg=>rfl);(case hn=>rfl);(case hr=>first|(go_simp;done)|(go_simp;rfl));intro w19 hw;have n0_:Aside0 (Kd.V k57 57 w19 w.heap.size (fun k_=>(P0_ k_∨w.heap.size≤k_)∧k_≠gb153∧k_≠gb159) (.slice A0 l0.length c0) l0):=⟨(by rw[hw];exact(by(with_reducible repeat(first|apply Kd.V_alloc|apply Kd.V_drewN|apply Kd.V_drew));exact Kd.V_mono (Kd.V_far (p:=⟨gb159,3,none⟩) (Kd.V_far (p:=⟨gb159,2,none⟩) (Kd.V_far (p:=⟨gb159,1,none⟩) (Kd.V_far (p:=⟨gb159,0,none⟩) (Kd.V_mono HO0.out (fun k_ hk=>(⟨hk,hk.2⟩:_∧k_≠gb159))) (fun _ hk=>hk.2) (.slice none 0 0)) (fun _ hk=>hk.2) (.int .i64 0)) (fun _ hk=>hk.2) (.int .i64 0)) (fun _ hk=>hk.2) (.slice A15 y154.length c15)) (fun _ hk=>⟨hk.1.1.1,⟨hk.1.1.2,hk.1.2⟩⟩)))⟩;have n1_:Aside0 (Kd.V k57 57 w19 w.heap.size (fun k_=>(P0_ k_∨w.heap.size≤k_)∧k_≠gb153∧k_≠gb159) (.slice A15 y154.length c15) y154):=⟨(by rw[hw];exact(by(with_reducible repeat(first|apply Kd.V_alloc|apply Kd.V_drewN|apply Kd.V_drew));exact Kd.V_mono (Kd.V_far (p:=⟨gb159,3,none⟩) (Kd.V_far (p:=⟨gb159,2,none⟩) (Kd.V_far (p:=⟨gb159,1,none⟩) (Kd.V_far (p:=⟨gb159,0,none⟩) (Kd.V_mono HO158.out (fun k_ hk=>(⟨hk,hk.2⟩:_∧k_≠gb159))) (fun _ hk=>hk.2) (.slice none 0 0)) (fun _ hk=>hk.2) (.int .i64 0)) (fun _ hk=>hk.2) (.int .i64 0)) (fun _ hk=>hk.2) (.slice A15 y154.length c15)) (fun _ hk=>⟨hk.1.1.1,⟨hk.1.1.2,hk.1.2⟩⟩)))⟩;have n2_:Aside0 (w19.heap[gb153]? = some (.cells #[.slice none 0 0, .int .i64 0, .int .i64 0, .slice none 0 0] 48 (0,0))):=⟨(by rw[hw];exact(by(with_reducible repeat(first|refine blk_drewN ?_ _|refine blk_drew ?_|refine blk_alloc ?_ _));refine blk_far ?_ NB153_159.out _;(with_reducible repeat(first|refine blk_drewN ?_ _|refine blk_drew ?_|refine blk_alloc ?_ _));refine blk_far ?_ NB153_159.out _;(with_reducible repeat(first|refine blk_drewN ?_ _|refine blk_drew ?_|refine blk_alloc ?_ _));refine blk_far ?_ NB153_159.out _;(with_reducible repeat(first|refine blk_drewN ?_ _|refine blk_drew ?_|refine blk_alloc ?_ _));refine blk_far ?_ NB153_159.out _;(with_reducible repeat(first|refine blk_drewN ?_ _|refine blk_drew ?_|refine blk_alloc ?_ _));exact BK153.out))⟩;have n3_:Aside0 (w19.heap[gb159]? = some (.cells #[.slice none 0 0, .int .i64 0, .int .i64 0, .slice A15 y154.length c15] 48 (0,0))):=⟨(by rw[hw];exact(by(with_reducible repeat(first|refine blk_drewN ?_ _|refine blk_drew ?_|refine blk_alloc ?_ _));refine blk_put (cs:=#[.slice none 0 0, .int .i64 0, .int .i64 0, .slice none 0 0]) ?_ 3 _ rfl;(with_reducible repeat(first|refine blk_drewN ?_ _|refine blk_drew ?_|refine blk_alloc ?_ _));refine blk_put (cs:=#[.slice none 0 0, .int .i64 0, .int .i64 0, .slice none 0 0]) ?_ 2 _ rfl;(with_reducible repeat(first|refine blk_drewN ?_ _|refine blk_drew ?_|refine blk_alloc ?_ _));refine blk_put (cs:=#[.slice none 0 0, .int .i64 0, .int .i64 0, .slice none 0 0]) ?_ 1 _ rfl;(with_reducible repeat(first|refine blk_drewN ?_ _|refine blk_drew ?_|refine blk_alloc ?_ _));refine blk_put (cs:=#[.slice none 0 0, .int .i64 0, .int .i64 0, .slice none 0 0]) ?_ 0 _ rfl;(with_reducible repeat(first|refine blk_drewN ?_ _|refine blk_drew ?_|refine blk_alloc ?_ _));exact BK159.out))⟩;have n4_:Aside0 (Below w.heap.size w w19):=⟨(by rw[hw];exact(bs2_ GE153.out GE159.out))⟩;clear hw;clear HO0;clear HO158;clear BK153;clear BK159;clear HB;have HO0:=n0_;have HO158:=n1_;have BK153:=n2_;have BK159:=n3_;have HB:=n4_;clear n0_ n1_ n2_ n3_ n4_;have q20:(a1:Int)≤((l0.length:Int):Int):=dt_;obtain⟨i020,hi020,_,hsz20,_⟩:=info_parts info57;have hroom20:l0.length≤c0:=(Kd.V_reads' HO0.out).2.1;have hC20:Kd.F k57 _ _ A0 l0.length l0:=(Kd.V_at (base:=w.heap.size) HO0.out).2.2;have hcut20:=cut_to (P:=Tryd.prog) 36 57 .i64 Tryd.underlying36 hi020 A0 l0.length c0 a1 (dt_) q20 hroom20;have hr20:=Kd.F_take (m:=(a1:Int).toNat) hC20 (by omega);have hy20:y160.length=(a1:Int).toNat:=(by rw[Ny160.out,List.length_take];omega);rw[← Ny160.out] at hr20;rw[← hy20] at hcut20;have HO164:=Aside0.mk (show Kd.V k57 57 _ w.heap.size _ (.slice A0 y160.length c0) y160 from Kd.V_mk (by omega) hr20);have HC164:=Aside0.mk (show y160.length≤c0 from by omega);clear hr20 hC20 hroom20 hi020 hsz20;have KY20:=Aside0.mk hy20;clear hy20;replace q20:=eq_true q20)|((with_reducible refine gate_callee (f:=81) rfl ?_);refine goesL_ (some 19) rfl rfl Tryd.func81 (by kernel_rfl) rfl #[.slice A0 y160.length c0] rfl am_ ?_;(with_reducible refine(sennitref20_Result.calls k _ _ y160 t165 _ ?side1 ?side2 A9.out).mono ?_);(case side1=>repeat(first|exact(Kd.V_reads' HO164.out).2.2|(with_reducible refine Kd.C_alloc ?_ _)|(with_reducible refine Kd.C_drewN ?_ _)|(with_reducible refine Kd.C_drew ?_)));(case side2=>exact(Kd.V_reads' HO164.out).2.1);rintro e w21 ⟨v166,rfl,ho0,hb⟩;refine⟨_,rfl,?_⟩;replace HO0:=Aside0.mk (Kd.V_elder' (pV_ HO0.out) (Kd.R_base ho0) hb);replace HO158:=Aside0.mk (Kd.V_elder' (pV_ HO158.out) (Kd.R_base ho0) hb);replace HO164:=Aside0.mk (Kd.V_elder' (pV_ HO164.out) (Kd.R_base ho0) hb);have HO167:=Aside0.mk (Kd.R_lower (Kd.R_newM (M:=fun k_=>(w.heap.size≤k_)) ho0 (bsz (bs2_ GE153.out GE159.out)) (fun k_ h_=>h_)) (bsz (bs2_ GE153.out GE159.out)));replace BK153:=Aside0.mk (blk_below (g:=gb153) (o := .cells #[.slice none 0 0, .int .i64 0, .int .i64 0, .slice none 0 0] 48 (0,0)) (pK_ BK153.out) hb);replace BK159:=Aside0.mk (blk_below (g:=gb159) (o := .cells #[.slice none 0 0, .int .i64 0, .int .i64 0, .slice A15 y154.length c15] 48 (0,0)) (pK_ BK159.out) hb);replace HB:=Aside0.mk (bst (bs2_ GE153.out GE159.out) hb);(try clear hb);(try clear hb2);(try clear hk);(try clear hi);(try clear ho0);obtain⟨Ao22,co22,eo22⟩:=Kd.R_slice HO167.out;subst eo22;have q23:(a2:Int)≤((l0.length:Int):Int):=dt_;obtain⟨i023,hi023,_,hsz23,_⟩:=info_parts info57;have hroom23:l0.length≤c0:=(Kd.V_reads' HO0.out).2.1;have hC23:Kd.F k57 _ _ A0 l0.length l0:=(Kd.V_at (base:=w.heap.size) HO0.out).2.2;have ql23:(a1:Int)≤(a2:Int):=dt_;have q023:(0:Int)≤(a1:Int):=dt_;have hcut23:=cut_mid (P:=Tryd.prog) 36 57 .i64 .i64 Tryd.underlying36 hi023 2 hsz23 A0 l0.length c0 a1 a2 q023 ql23 q23 hroom23;have hr23:=Kd.F_mid (lo:=(a1:Int).toNat) (hi:=(a2:Int).toNat) (c:=c0) hC23 (by omega) (by omega) hroom23;obtain⟨A23,hA23⟩ : ∃ Az_,Az_=(if c0=(a1:Int).toNat then A0 else (A0:Option Addr).map (·.add ((a1:Int).toNat * 2))):=⟨_,rfl⟩;obtain⟨c23,hc23⟩ : ∃ c1,c1=c0 - (a1:Int).toNat:=⟨_,rfl⟩;have hy23:y168.length=(a2:Int).toNat - (a1:Int).toNat:=(by rw[Ny168.out,List.length_drop,List.length_take] <;> omega);rw[show ((l0).take (a2:Int).toNat).drop (a1:Int).toNat=y168 from Ny168.out.symm] at hr23;replace hr23:Kd.F k57 _ _ A23 y168.length y168:=(by rw[hA23];exact hr23);rw[← hy23,← hA23,← hc23] at hcut23;have HO172:=Aside0.mk (show Kd.V k57 57 _ w.heap.size _ (.slice A23 y168.length c23) y168 from Kd.V_mk (by rw[hy23,hc23];exact Nat.sub_le_sub_right (Nat.le_trans (by omega) hroom23) _) hr23);have HC172:=Aside0.mk (show y168.length≤c23 from by rw[hy23,hc23];exact Nat.sub_le_sub_right (Nat.le_trans (by omega) hroom23) _);clear hr23 hC23 hroom23 hi023 hsz23 hc23;have KY23:=Aside0.mk hy23;have KA23:=Aside0.mk hA23;clear hy23 hA23;replace q23:=eq_true q23)|((with_reducible refine gate_callee (f:=81) rfl ?_);have HO172:=HO158;have HC172:=HC158;refine goesL_ (some 27) rfl rfl Tryd.func81 (by kernel_rfl) rfl #[.slice A15 y154.length c15] rfl am_ ?_;(with_reducible refine(sennitref20_Result.calls k _ _ y154 t173 _ ?side1 ?side2 ((congrArg (sennitref20_Result.f k) (Ny154.out.trans Ny168.out.symm)).trans A13.out)).mono ?_);(case side1=>repeat(first|exact(Kd.V_reads' HO172.out).2.2|(with_reducible refine Kd.C_alloc ?_ _)|(with_reducible refine Kd.C_drewN ?_ _)|(with_reducible refine Kd.C_drew ?_)));(case side2=>exact(Kd.V_reads' HO172.out).2.1);rintro e w24 ⟨v174,rfl,ho0,hb⟩;refine⟨_,rfl,?_⟩;replace HO0:=Aside0.mk (Kd.V_elder' (pV_ HO0.out) (Kd.R_base ho0) hb);replace HO158:=Aside0.mk (Kd.V_elder' (pV_ HO158.out) (Kd.R_base ho0) hb);replace HO164:=Aside0.mk (Kd.V_elder' (pV_ HO164.out) (Kd.R_base ho0) hb);replace HO172:=Aside0.mk (Kd.V_elder' (pV_ HO172.out) (Kd.R_base ho0) hb);have HO175:=Aside0.mk (Kd.R_lower (Kd.R_new' (Kd.R_newM (M:=fun k_=>(w.heap.size≤k_)) ho0 (bsz (bs2_ GE153.out GE159.out)) (fun k_ h_=>h_)) (Kd.R_lt (pR_ HO167.out))) (bsz (bs2_ GE153.out GE159.out)));replace HO167:=Aside0.mk (Kd.R_elder' (pR_ HO167.out) (Kd.R_base ho0) hb);replace BK153:=Aside0.mk (blk_below (g:=gb153) (o := .cells #[.slice none 0 0, .int .i64 0, .int .i64 0, .slice none 0 0] 48 (0,0)) (pK_ BK153.out) hb);replace BK159:=Aside0.mk (blk_below (g:=gb159) (o := .cells #[.slice none 0 0, .int .i64 0, .int .i64 0, .slice A15 y154.length c15] 48 (0,0)) (pK_ BK159.out) hb);replace HB:=Aside0.mk (bst (bs2_ GE153.out GE159.out) hb);(try clear hb);(try clear hb2);(try clear hk);(try clear hi);(try clear ho0);obtain⟨Ao25,co25,eo25⟩:=Kd.R_slice HO175.out;subst eo25;have hcz26_0:w24.cell? ⟨gb159,0,none⟩=some (.slice none 0 0):=(bcl BK159.out 0).trans rfl;have hcz26_1:w24.cell? ⟨gb159,1,none⟩=some (.int .i64 0):=(bcl BK159.out 1).trans rfl;have hcz26_2:w24.cell? ⟨gb159,2,none⟩=some (.int .i64 0):=(bcl BK159.out 2).trans rfl;have hcz26_3:w24.cell? ⟨gb159,3,none⟩=some (.slice A15 y154.length c15):=(bcl BK159.out 3).trans rfl;have hfz26_0:=bfz BK159.out 0;have hfz26_1:=bfz BK159.out 1;have hfz26_2:=bfz BK159.out 2;have hfz26_3:=bfz BK159.out 3)))
     go_loopg [9] k (fun kq v9 w' => ∃ (x9_1:Int) (x160000_1:List (S45)) (u160000:Value),v9 = .int .i64 x9_1∧Aside0 (sennitref21_Hunk.l0 kq l0 a1 a2 x9_1 x160000_1 (t165.length:Int) (wrap64 ((t165.length:Int)+(t173.length:Int))) y154=some (r1,r2,r3,r4))∧Aside0 (kq≤k)∧Aside0 (Kd.V k57 57 w' w.heap.size (fun k_=>(P0_ k_∨w.heap.size≤k_)∧some k_≠(u160000:Value).ownBlock∧k_≠gb153∧k_≠gb159) (.slice A0 l0.length c0) l0)∧Aside0 (Kd.R k45 45 w' w.heap.size (fun k_=>(w.heap.size≤k_)) u160000 x160000_1)∧Aside0 (Kd.V k57 57 w' w.heap.size (fun k_=>(P0_ k_∨w.heap.size≤k_)∧some k_≠(u160000:Value).ownBlock∧k_≠gb153∧k_≠gb159) (.slice A15 y154.length c15) y154)∧Aside0 (w'.heap[gb153]? = some (.cells #[(.slice none 0 0), .int .i64 0, .int .i64 0,(.slice none 0 0)] 48 (0,0)))∧Aside0 (w'.heap[gb159]? = some (.cells #[u160000, .int .i64 (t165.length:Int), .int .i64 (wrap64 ((t165.length:Int)+(t173.length:Int))),(.slice A15 y154.length c15)] 48 (0,0)))∧Aside0 (Below w.heap.size w w'))
     (case atStart=>exact⟨(0),(([]:List (S45))),(.slice none 0 0),rs_,H',⟨Nat.le_refl _⟩,⟨by(with_reducible repeat(first|apply Kd.V_alloc|apply Kd.V_drewN|apply Kd.V_drew));exact Kd.V_mono (Kd.V_far (p:=⟨gb159,2,none⟩) (Kd.V_far (p:=⟨gb159,1,none⟩) (Kd.V_mono HO0.out (fun k_ hk=>(⟨hk,hk.1.1.2.2⟩:_∧k_≠gb159))) (fun _ hk=>hk.2) (.int .i64 (t165.length:Int))) (fun _ hk=>hk.2) (.int .i64 (wrap64 ((t165.length:Int)+(t173.length:Int))))) (fun _ hk=>⟨hk.1.1.1.1,⟨(by simp[Value.ownBlock]),⟨hk.1.1.1.2.1,hk.1.1.1.2.2⟩⟩⟩)⟩,⟨by first|exact Kd.R_nil _ _ _ _ _|exact Kd.N_nil _ _ _ _ _|exact Kd.V_nil _ _ _ _ _|exact Kd.Q_nil _ _ _ _ _|exact Kd.S_nil _ _ _ _ _⟩,⟨by(with_reducible repeat(first|apply Kd.V_alloc|apply Kd.V_drewN|apply Kd.V_drew));exact Kd.V_mono (Kd.V_far (p:=⟨gb159,2,none⟩) (Kd.V_far (p:=⟨gb159,1,none⟩) (Kd.V_mono HO158.out (fun k_ hk=>(⟨hk,hk.1.1.2.2⟩:_∧k_≠gb159))) (fun _ hk=>hk.2) (.int .i64 (t165.length:Int))) (fun _ hk=>hk.2) (.int .i64 (wrap64 ((t165.length:Int)+(t173.length:Int))))) (fun _ hk=>⟨hk.1.1.1.1,⟨(by simp[Value.ownBlock]),⟨hk.1.1.1.2.1,hk.1.1.1.2.2⟩⟩⟩)⟩,⟨by(with_reducible repeat(first|refine blk_drewN ?_ _|refine blk_drew ?_|refine blk_alloc ?_ _));refine blk_far ?_ NB153_159.out _;(with_reducible repeat(first|refine blk_drewN ?_ _|refine blk_drew ?_|refine blk_alloc ?_ _));refine blk_far ?_ NB153_159.out _;(with_reducible repeat(first|refine blk_drewN ?_ _|refine blk_drew ?_|refine blk_alloc ?_ _));exact BK153.out⟩,⟨by(with_reducible repeat(first|refine blk_drewN ?_ _|refine blk_drew ?_|refine blk_alloc ?_ _));refine blk_put (cs:=#[.slice none 0 0, .int .i64 (t165.length:Int), .int .i64 0, .slice A15 y154.length c15]) ?_ 2 _ rfl;(with_reducible repeat(first|refine blk_drewN ?_ _|refine blk_drew ?_|refine blk_alloc ?_ _));refine blk_put (cs:=#[.slice none 0 0, .int .i64 0, .int .i64 0, .slice A15 y154.length c15]) ?_ 1 _ rfl;(with_reducible repeat(first|refine blk_drewN ?_ _|refine blk_drew ?_|refine blk_alloc ?_ _));exact BK159.out⟩,⟨bs2_ GE153.out GE159.out⟩⟩)
     case round =>
      clear H';(try clear c1);(try clear q1);(try clear c2);(try clear p2);(try clear q2);(try clear c4);(try clear c4b0);(try clear c4b1);(try clear c5);(try clear c5b0);(try clear c5b1);(try clear c6);(try clear c6b0);(try clear c6b1);(try clear p6);(try clear c7);(try clear c7b0);(try clear c8);(try clear c8b0);(try clear c8b1);(try clear c10);(try clear c10b0);(try clear c11);(try clear c11b0);(try clear c12);(try clear c12b0);(try clear c15);(try clear q15);(try clear c17);(try clear q20);(try clear c23);(try clear q23);(try clear hcz18_0);(try clear hcz18_1);(try clear hcz18_2);(try clear hcz18_3);(try clear hcz26_0);(try clear hcz26_1);(try clear hcz26_2);(try clear hcz26_3);(try clear hfz18_0);(try clear hfz18_1);(try clear hfz18_2);(try clear hfz18_3);(try clear hfz26_0);(try clear hfz26_1);(try clear hfz26_2);(try clear hfz26_3);(try clear q015);(try clear q023);(try clear q15);(try clear q20);(try clear q23);obtain⟨x9_1,x160000_1,u160000,rfl,HA,HK1,HO_0,HO_160000,HO_160003,BK153,BK159,HB⟩:=hrel
      cases gk with
      | zero=>exact absurd HA.out (by simp[sennitref21_Hunk.l0])
      | succ k1 =>
       have H:=HA.out;clear HA;(simp only[sennitref21_Hunk.l0] at H)
       by_cases c27:0 < (l0.length:Int)
       ·
        (rw[if_pos c27] at H);have c27b0:decide (0 < (l0.length:Int))=true:=decide_eq_true c27;have c27b1:decide (0 < l0.length)=true:=decide_eq_true (by omega);clear c27
        by_cases c28:x9_1 < (((rd_T57 l0 0).f0).size:Int)
        ·
         (rw[if_pos c28] at H);have c28b0:decide (x9_1 < (((rd_T57 l0 0).f0).size:Int))=true:=decide_eq_true c28;clear c28
         by_cases c29:0≤a1
         ·
          (rw[if_pos c29] at H);have c29b0:=eq_true c29;have c29b1:decide (0≤a1)=true:=decide_eq_true c29;clear c29
          by_cases c30:a1≤(l0.length:Int)
          ·
           (rw[if_pos c30] at H);have c30b0:=eq_true c30;have c30b1:decide (a1≤(l0.length:Int))=true:=decide_eq_true c30;clear c30;obtain⟨y177,hy177⟩ : ∃ y_:List (S57),y_=(l0.take (a1:Int).toNat):=⟨_,rfl⟩;(replace H:((sennitref20_Column.f k1 y177 x9_1).bind fun t182=>(if a1≤a2 then (if a2≤(l0.length:Int) then ((sennitref20_Column.f k1 ((l0.take (a2:Int).toNat).drop (a1:Int).toNat) x9_1).bind fun t190=>(if x160000_1.length < 8796093022208 then (sennitref21_Hunk.l0 k1 l0 a1 a2 (wrap64 (x9_1+1)) (x160000_1 ++ [(⟨(t182.length:Int),wrap64 ((t182.length:Int)+(t190.length:Int))⟩:S45)]) (t165.length:Int) (wrap64 ((t165.length:Int)+(t173.length:Int))) y154) else (none))) else (none)) else (none)))=some (r1,r2,r3,r4):=by first|(rw[hy177];with_reducible exact H)|(have H2_:=(Option.bind_some _ _).symm.trans H;rw[hy177];with_reducible exact H2_)|(have H2_:=(Option.bind_some _ _).symm.trans H;with_reducible exact H2_)|with_reducible exact H|(rw[hy177];exact H)|exact H);have Ny177:=Aside0.mk hy177;clear hy177;replace H:=Option.bind_eq_some_iff.mp H;obtain⟨t182,A310,H⟩:=H;replace H:(if a1≤a2 then (if a2≤(l0.length:Int) then ((sennitref20_Column.f k1 ((l0.take (a2:Int).toNat).drop (a1:Int).toNat) x9_1).bind fun t190=>(if x160000_1.length < 8796093022208 then (sennitref21_Hunk.l0 k1 l0 a1 a2 (wrap64 (x9_1+1)) (x160000_1 ++ [(⟨(t182.length:Int),wrap64 ((t182.length:Int)+(t190.length:Int))⟩:S45)]) (t165.length:Int) (wrap64 ((t165.length:Int)+(t173.length:Int))) y154) else (none))) else (none)) else (none))=some (r1,r2,r3,r4):=H;have A31:=Aside0.mk A310;clear A310;have c32b0:=eq_true (dt_:0≤a1)
           by_cases c33:a1≤a2
           ·
            (rw[if_pos c33] at H);have c33b0:=eq_true c33;have c33b1:decide (a1≤a2)=true:=decide_eq_true c33;clear c33
            by_cases c34:a2≤(l0.length:Int)
            ·
             (rw[if_pos c34] at H);have c34b0:=eq_true c34;have c34b1:decide (a2≤(l0.length:Int))=true:=decide_eq_true c34;clear c34;obtain⟨y185,hy185⟩ : ∃ y_:List (S57),y_=((l0.take (a2:Int).toNat).drop (a1:Int).toNat):=⟨_,rfl⟩;(replace H:((sennitref20_Column.f k1 y185 x9_1).bind fun t190=>(if x160000_1.length < 8796093022208 then (sennitref21_Hunk.l0 k1 l0 a1 a2 (wrap64 (x9_1+1)) (x160000_1 ++ [(⟨(t182.length:Int),wrap64 ((t182.length:Int)+(t190.length:Int))⟩:S45)]) (t165.length:Int) (wrap64 ((t165.length:Int)+(t173.length:Int))) y154) else (none)))=some (r1,r2,r3,r4):=by first|(rw[hy185];with_reducible exact H)|(have H2_:=(Option.bind_some _ _).symm.trans H;rw[hy185];with_reducible exact H2_)|(have H2_:=(Option.bind_some _ _).symm.trans H;with_reducible exact H2_)|with_reducible exact H|(rw[hy185];exact H)|exact H);have Ny185:=Aside0.mk hy185;clear hy185;replace H:=Option.bind_eq_some_iff.mp H;obtain⟨t190,A350,H⟩:=H;replace H:(if x160000_1.length < 8796093022208 then (sennitref21_Hunk.l0 k1 l0 a1 a2 (wrap64 (x9_1+1)) (x160000_1 ++ [(⟨(t182.length:Int),wrap64 ((t182.length:Int)+(t190.length:Int))⟩:S45)]) (t165.length:Int) (wrap64 ((t165.length:Int)+(t173.length:Int))) y154) else (none))=some (r1,r2,r3,r4):=H;have A35:=Aside0.mk A350;clear A350
             by_cases c36:x160000_1.length < 8796093022208
             ·
              (rw[if_pos c36] at H);have LMc36:=Aside0.mk c36;clear c36;obtain⟨y193,hy193⟩ : ∃ y_:List (S45),y_=(x160000_1 ++ [(⟨(t182.length:Int),wrap64 ((t182.length:Int)+(t190.length:Int))⟩:S45)]):=⟨_,rfl⟩;(replace H:(sennitref21_Hunk.l0 k1 l0 a1 a2 (wrap64 (x9_1+1)) y193 (t165.length:Int) (wrap64 ((t165.length:Int)+(t173.length:Int))) y154)=some (r1,r2,r3,r4):=by first|(rw[hy193];with_reducible exact H)|(have H2_:=(Option.bind_some _ _).symm.trans H;rw[hy193];with_reducible exact H2_)|(have H2_:=(Option.bind_some _ _).symm.trans H;with_reducible exact H2_)|with_reducible exact H|(rw[hy193];exact H)|exact H);have Ny193:=Aside0.mk hy193;clear hy193;have H':=Aside0.mk H;clear H;have p176:0≤(0:Int):=(by omega);have q176:0 < (l0.length:Int):=dt_;obtain⟨ad176,e176,hx176_0,hx176_1⟩:=at_T57 (Kd.V_reads' HO_0.out).2.2 0 p176 q176;cases e176;have qi176:(0 < l0.length)=True:=eq_true (by omega);(try rw[show ((0:Int)).toNat=0 from rfl] at hx176_0);(try rw[show 0 * 2=0 from rfl] at hx176_0);(try rw[Addr.add_zero'] at hx176_0);(try rw[show ((0:Int)).toNat=0 from rfl] at hx176_1);(try rw[show 0 * 2=0 from rfl] at hx176_1);(try rw[Addr.add_zero'] at hx176_1);replace p176:=eq_true p176;replace q176:=eq_true q176;have q37:(a1:Int)≤((l0.length:Int):Int):=dt_;obtain⟨i037,hi037,_,hsz37,_⟩:=info_parts info57;have hroom37:l0.length≤c0:=(Kd.V_reads' HO_0.out).2.1;have hC37:Kd.F k57 _ _ (some ad176) l0.length l0:=(Kd.V_at (base:=w.heap.size) HO_0.out).2.2;have hcut37:=cut_to (P:=Tryd.prog) 36 57 .i64 Tryd.underlying36 hi037 (some ad176) l0.length c0 a1 (dt_) q37 hroom37;have hr37:=Kd.F_take (m:=(a1:Int).toNat) hC37 (by omega);have hy37:y177.length=(a1:Int).toNat:=(by rw[Ny177.out,List.length_take];omega);(rw[← Ny177.out] at hr37);(rw[← hy37] at hcut37);have HO181:=Aside0.mk (show Kd.V k57 57 _ w.heap.size _ (.slice (some ad176) y177.length c0) y177 from Kd.V_mk (by omega) hr37);have HC181:=Aside0.mk (show y177.length≤c0 from by omega);clear hr37 hC37 hroom37 hi037 hsz37;have KY37:=Aside0.mk hy37;clear hy37;replace q37:=eq_true q37;obtain rfl:y177=y160:=Ny177.out.trans Ny160.out.symm;(try go_wp2_with (first|((with_reducible refine gate_callee (f:=82) rfl ?_);refine goesL_ (some 45) rfl rfl Tryd.func82 (by kernel_rfl) rfl #[.slice (some ad176) y177.length c0, .int .i64 x9_1] rfl am_ ?_;(with_reducible refine(sennitref20_Column.calls k1 _ _ y177 x9_1 t182 _ ?side1 ?side2 A31.out).mono ?_);(case side1=>repeat(first|exact(Kd.V_reads' HO181.out).2.2|(with_reducible refine Kd.C_alloc ?_ _)|(with_reducible refine Kd.C_drewN ?_ _)|(with_reducible refine Kd.C_drew ?_)));(case side2=>exact(Kd.V_reads' HO181.out).2.1);rintro e w38 ⟨v183,rfl,ho0,hb⟩;refine⟨_,rfl,?_⟩;replace HO_0:=Aside0.mk (Kd.V_elder' (pV_ HO_0.out) (Kd.R_base ho0) hb);replace HO_160000:=Aside0.mk (Kd.R_below (pR_ HO_160000.out) hb);replace HO_160003:=Aside0.mk (Kd.V_elder' (pV_ HO_160003.out) (Kd.R_base ho0) hb);replace HO181:=Aside0.mk (Kd.V_elder' (pV_ HO181.out) (Kd.R_base ho0) hb);have HO184:=Aside0.mk (Kd.R_lower (Kd.R_newM (M:=fun k_=>(w.heap.size≤k_)) ho0 (bsz (bs2_ GE153.out GE159.out)) (fun k_ h_=>h_)) (bsz (bs2_ GE153.out GE159.out)));replace BK153:=Aside0.mk (blk_below (g:=gb153) (o := .cells #[.slice none 0 0, .int .i64 0, .int .i64 0, .slice none 0 0] 48 (0,0)) (pK_ BK153.out) hb);replace BK159:=Aside0.mk (blk_below (g:=gb159) (o := .cells #[u160000, .int .i64 (t165.length:Int), .int .i64 (wrap64 ((t165.length:Int)+(t173.length:Int))), .slice A15 y154.length c15] 48 (0,0)) (pK_ BK159.out) hb);replace HB:=Aside0.mk (bst (bs2_ GE153.out GE159.out) hb);(try clear hb);(try clear hb2);(try clear hk);(try clear hi);(try clear ho0);obtain⟨Ao39,co39,eo39⟩:=Kd.R_slice HO184.out;subst eo39)));have n0_:=Aside0.mk (Kd.V_drew HO_0.out);have n1_:=Aside0.mk (Kd.R_drew HO_160000.out);have n2_:=Aside0.mk (Kd.V_drew HO_160003.out);have n3_:=Aside0.mk (Kd.V_drew HO181.out);have n4_:=Aside0.mk (Kd.R_drew HO184.out);have n5_:=Aside0.mk (blk_drew BK153.out);have n6_:=Aside0.mk (blk_drew BK159.out)
              have n7_:=Aside0.mk (below_drew1 HB.out);clear HO_0;clear HO_160000;clear HO_160003;clear HO181;clear HO184;clear BK153;clear BK159;clear HB;have HO_0:=n0_;have HO_160000:=n1_;have HO_160003:=n2_;have HO181:=n3_;have HO184:=n4_;have BK153:=n5_;have BK159:=n6_;have HB:=n7_;clear n0_ n1_ n2_ n3_ n4_ n5_ n6_ n7_;have q41:(a2:Int)≤((l0.length:Int):Int):=dt_;obtain⟨i041,hi041,_,hsz41,_⟩:=info_parts info57;have hroom41:l0.length≤c0:=(Kd.V_reads' HO_0.out).2.1;have hC41:Kd.F k57 _ _ (some ad176) l0.length l0:=(Kd.V_at (base:=w.heap.size) HO_0.out).2.2;have ql41:(a1:Int)≤(a2:Int):=dt_;have q041:(0:Int)≤(a1:Int):=dt_;have hcut41:=cut_mid (P:=Tryd.prog) 36 57 .i64 .i64 Tryd.underlying36 hi041 2 hsz41 (some ad176) l0.length c0 a1 a2 q041 ql41 q41 hroom41;have hr41:=Kd.F_mid (lo:=(a1:Int).toNat) (hi:=(a2:Int).toNat) (c:=c0) hC41 (by omega) (by omega) hroom41;obtain⟨A41,hA41⟩ : ∃ Az_,Az_=(if c0=(a1:Int).toNat then (some ad176) else ((some ad176):Option Addr).map (·.add ((a1:Int).toNat * 2))):=⟨_,rfl⟩;obtain⟨c41,hc41⟩ : ∃ c1,c1=c0 - (a1:Int).toNat:=⟨_,rfl⟩;have hy41:y185.length=(a2:Int).toNat - (a1:Int).toNat:=(by rw[Ny185.out,List.length_drop,List.length_take] <;> omega);(rw[show ((l0).take (a2:Int).toNat).drop (a1:Int).toNat=y185 from Ny185.out.symm] at hr41);replace hr41:Kd.F k57 _ _ A41 y185.length y185:=(by rw[hA41];exact hr41);(rw[← hy41,← hA41,← hc41] at hcut41);have e_:=(hcut15 w).symm.trans (hcut41 w);(have e2_:A15=A41∧y154.length=y185.length∧c15=c41:=by simpa using e_);clear e_;obtain⟨e3_,_,e4_⟩:=e2_;have e5_:y154=y185:=Ny154.out.trans Ny185.out.symm;subst e3_ e4_ e5_;have HO189:=Aside0.mk (show Kd.V k57 57 _ w.heap.size _ (.slice A15 y154.length c15) y154 from Kd.V_mk (by rw[hy41,hc41];exact Nat.sub_le_sub_right (Nat.le_trans (by omega) hroom41) _) hr41);have HC189:=Aside0.mk (show y154.length≤c15 from by rw[hy41,hc41];exact Nat.sub_le_sub_right (Nat.le_trans (by omega) hroom41) _);clear hr41 hC41 hroom41 hi041 hsz41 hc41;have KY41:=Aside0.mk hy41;have KA41:=Aside0.mk hA41;clear hy41 hA41;replace q41:=eq_true q41;(refine start_ (n:=17) (S:=fun w'=>w'.cell? ⟨gb159,0,none⟩=some (u160000)∧w'.cell? ⟨gb159,1,none⟩=some (.int .i64 (t165.length:Int))∧w'.cell? ⟨gb159,2,none⟩=some (.int .i64 (wrap64 ((t165.length:Int)+(t173.length:Int))))∧w'.cell? ⟨gb159,3,none⟩=some (.slice A15 y154.length c15)) (ds:=[16]) (bm_ 17 0) (by kernel_rfl) rfl rfl ⟨(bcl BK159.out 0).trans rfl,(bcl BK159.out 1).trans rfl,(bcl BK159.out 2).trans rfl,(bcl BK159.out 3).trans rfl⟩ (fun hHeld=>?_);refine with_tabW sennitref21_Hunk.tab8 sennitref21_Hunk.bits8 (fun HT_ HW_=>?_));(generalize w38.drew=w40 at HO_0 HO_160000 HO_160003 HO181 HO184 BK153 BK159 HB HO189 hHeld ⊢);refine pq_ (i:=0) (N:=some 47) (hc:=any_of HT_.out (by kernel_rfl)) (bm_ 17 1) ?_;refine pq_ (i:=2) (N:=some 49) (hc:=any_of HT_.out (by kernel_rfl)) (bm_ 17 5) ?_;refine pq_ (i:=3) (N:=some 50) (hc:=any_of HT_.out (by kernel_rfl)) (bm_ 17 13) ?_;refine pq_ (i:=4) (N:=some 51) (hc:=any_of HT_.out (by kernel_rfl)) (bm_ 17 29) ?_;refine pq_ (i:=5) (N:=some 52) (hc:=any_of HT_.out (by kernel_rfl)) (bm_ 17 61) ?_;refine pq_ (i:=6) (N:=some 53) (hc:=any_of HT_.out (by kernel_rfl)) (bm_ 17 125) ?_
              refine pq_ (i:=7) (N:=some 54) (hc:=any_of HT_.out (by kernel_rfl)) (bm_ 17 253) ?_;refine pq_ (i:=8) (N:=some 55) (hc:=any_of HT_.out (by kernel_rfl)) (bm_ 17 509) ?_;refine tq_ (i:=1) (N:=some 48) (hc:=take_ofW HT_.out HW_.out (by kernel_rfl)) (bm_ 17 511) hHeld ?_;refine one_ (i:=9) (N:=some 56) (bm_ 17 1023) rfl rfl (one_of HT_.out (by kernel_rfl)) (by decide) (fun K hK=>?_);refine goes_ Tryd.func82 (by kernel_rfl) rfl #[.slice A15 y154.length c15, .int .i64 x9_1] (by rfl) rfl rfl am_ ?_;(with_reducible refine(sennitref20_Column.calls k1 _ _ y154 x9_1 t190 _ ?side1 ?side2 A35.out).mono ?_);(case side1=>repeat(first|exact(Kd.V_reads' HO189.out).2.2|(with_reducible refine Kd.C_alloc ?_ _)|(with_reducible refine Kd.C_drewN ?_ _)|(with_reducible refine Kd.C_drew ?_)));(case side2=>exact(Kd.V_reads' HO189.out).2.1);rintro e w42 ⟨v191,rfl,ho0,hb⟩;refine⟨_,rfl,?_⟩;replace HO_0:=Aside0.mk (Kd.V_elder' (pV_ HO_0.out) (Kd.R_base ho0) hb);replace HO_160000:=Aside0.mk (Kd.R_below (pR_ HO_160000.out) hb);replace HO_160003:=Aside0.mk (Kd.V_elder' (pV_ HO_160003.out) (Kd.R_base ho0) hb);replace HO181:=Aside0.mk (Kd.V_elder' (pV_ HO181.out) (Kd.R_base ho0) hb);replace HO189:=Aside0.mk (Kd.V_elder' (pV_ HO189.out) (Kd.R_base ho0) hb);have HO192:=Aside0.mk (Kd.R_lower (Kd.R_new' (Kd.R_newM (M:=fun k_=>(w.heap.size≤k_)) ho0 (bsz (bs2_ GE153.out GE159.out)) (fun k_ h_=>h_)) (Kd.R_lt (pR_ HO184.out))) (bsz (bs2_ GE153.out GE159.out)));replace HO184:=Aside0.mk (Kd.R_elder' (pR_ HO184.out) (Kd.R_base ho0) hb);replace BK153:=Aside0.mk (blk_below (g:=gb153) (o := .cells #[.slice none 0 0, .int .i64 0, .int .i64 0, .slice none 0 0] 48 (0,0)) (pK_ BK153.out) hb);replace BK159:=Aside0.mk (blk_below (g:=gb159) (o := .cells #[u160000, .int .i64 (t165.length:Int), .int .i64 (wrap64 ((t165.length:Int)+(t173.length:Int))), .slice A15 y154.length c15] 48 (0,0)) (pK_ BK159.out) hb);replace HB:=Aside0.mk (bst (bs2_ GE153.out GE159.out) hb);(try clear hb);(try clear hb2);(try clear hk);(try clear hi);(try clear ho0);obtain⟨Ao43,co43,eo43⟩:=Kd.R_slice HO192.out;(first|subst eo43|(injection eo43 with f1_ f2_ f3_;have f4_:=f1_.symm;have f5_:=f3_.symm;clear f1_ f2_ f3_;subst f4_;subst f5_));refine hK.out _ _ ⟨(bcl BK159.out 0).trans rfl,(bcl BK159.out 1).trans rfl,(bcl BK159.out 2).trans rfl,(bcl BK159.out 3).trans rfl⟩ (fun hHeld=>?_);clear hK K;refine nq_ (N:=some 56) ?_;refine pure_ (i:=10) (N:=some 57) (v:=?_) (a':=?_) (bm_ 17 2047) rfl rfl (any_of HT_.out (by kernel_rfl)) (fun _ _ _ h=>h) (Or.inl ⟨by rfl,?_⟩) ?_ ?_;rotate_left;(· intro w';go_simp;(with_reducible rfl));rotate_left
              (· simp only[Act.put,List.setIfInBounds_toArray,List.set_cons_zero,List.set_cons_succ,i64_w,i32_w];rfl);refine pq_ (i:=11) (N:=some 58) (hc:=any_of HT_.out (by kernel_rfl)) (bm_ 17 4095) ?_;refine pq_ (i:=12) (N:=some 59) (hc:=any_of HT_.out (by kernel_rfl)) (bm_ 17 8191) ?_;refine one_ (i:=13) (N:=some 60) (bm_ 17 16383) rfl rfl (one_of HT_.out (by kernel_rfl)) (by decide) (fun K hK=>?_);refine value_ (w1:=?_) (v:=?_) (by rfl) rfl ?_ ?_;rotate_left 2
              ·
               go_simp;constructor;(· rfl);(· rfl)
              refine hK.out _ _ ⟨(bcl (blk_alloc BK159.out _) 0).trans rfl,(bcl (blk_alloc BK159.out _) 1).trans rfl,(bcl (blk_alloc BK159.out _) 2).trans rfl,(bcl (blk_alloc BK159.out _) 3).trans rfl⟩ (fun hHeld=>?_);clear hK K;refine nq_ (N:=some 60) ?_;refine one_ (i:=14) (N:=some 61) (bm_ 17 32767) rfl rfl (one_of HT_.out (by kernel_rfl)) (by decide) (fun K hK=>?_);refine Kd.R_append_step k45 (w0:=w) w.heap.size (by rfl) (.tmp 48) (.tmp 60) 46 45 (.agg #[(.int .i64 0),(.int .i64 0)]) 16 rfl Tryd.underlying46 info45 rfl (by decide) (by omega) u160000 x160000_1 (⟨(t182.length:Int),wrap64 ((t182.length:Int)+(t190.length:Int))⟩:S45) [.int .i64 (t182.length:Int), .int .i64 (wrap64 ((t182.length:Int)+(t190.length:Int)))] (fun k_=>(w.heap.size≤k_)) (fun _=>False) rfl rfl ?aP (fun _ hk=>hk.elim) ?aF ?aO ?aB ?aS ?aL ?_;(case aP=>exact k45_mkM _ _ _ (⟨(t182.length:Int),wrap64 ((t182.length:Int)+(t190.length:Int))⟩:S45));(case aB=>exact(bs2_ GE153.out GE159.out));(case aF=>exact(fun k_ hk=>(Nat.le_trans (bsz (bs2_ GE153.out GE159.out)) hk)));(case aO=>exact(pR_ HO_160000.out));(case aS=>exact(bsz (bs2_ GE153.out GE159.out)));(case aL=>have:=LMc36.out;omega);intro v194 w44 ho hb hg hat;(rw[← Ny193.out] at ho);replace HO_0:=Aside0.mk (Kd.V_afterv (ok:=(fun k_=>(P0_ k_∨w.heap.size≤k_)∧some k_≠(.slice Ao39 t182.length co39:Value).ownBlock∧some k_≠(.slice Ao43 t190.length co43:Value).ownBlock∧k_≠gb153∧k_≠gb159)) (Kd.V_mono (pV_ HO_0.out) (fun _ hk=>⟨⟨hk.1.1.1,⟨hk.1.2,⟨hk.2,⟨hk.1.1.2.2.1,hk.1.1.2.2.2⟩⟩⟩⟩,hk.1.1.2.1⟩)) hg hat);replace HO_160003:=Aside0.mk (Kd.V_afterv (ok:=(fun k_=>(P0_ k_∨w.heap.size≤k_)∧some k_≠(.slice Ao39 t182.length co39:Value).ownBlock∧some k_≠(.slice Ao43 t190.length co43:Value).ownBlock∧k_≠gb153∧k_≠gb159)) (Kd.V_mono (pV_ HO_160003.out) (fun _ hk=>⟨⟨hk.1.1.1,⟨hk.1.2,⟨hk.2,⟨hk.1.1.2.2.1,hk.1.1.2.2.2⟩⟩⟩⟩,hk.1.1.2.1⟩)) hg hat);replace BK153:=Aside0.mk (blk_grown (g:=gb153) (o := .cells #[.slice none 0 0, .int .i64 0, .int .i64 0, .slice none 0 0] 48 (0,0)) (pK_ BK153.out) hg (Kd.R_ne HO_160000.out BK153.out (by decide)));replace BK159:=Aside0.mk (blk_grown (g:=gb159) (o := .cells #[u160000, .int .i64 (t165.length:Int), .int .i64 (wrap64 ((t165.length:Int)+(t173.length:Int))), .slice A15 y154.length c15] 48 (0,0)) (pK_ BK159.out) hg (Kd.R_ne HO_160000.out BK159.out (by decide)));replace HO181:=Aside0.mk (Kd.V_afterv (ok:=(fun k_=>(P0_ k_∨w.heap.size≤k_)∧some k_≠(.slice Ao39 t182.length co39:Value).ownBlock∧some k_≠(.slice Ao43 t190.length co43:Value).ownBlock∧k_≠gb153∧k_≠gb159)) (Kd.V_mono (pV_ HO181.out) (fun _ hk=>⟨⟨hk.1.1.1,⟨hk.1.2,⟨hk.2,⟨hk.1.1.2.2.1,hk.1.1.2.2.2⟩⟩⟩⟩,hk.1.1.2.1⟩)) hg hat);replace HO184:=Aside0.mk (Kd.R_over' (pR_ HO184.out) (Kd.R_typed (pR_ HO_160000.out)) (by decide) hg);replace HO189:=Aside0.mk (Kd.V_afterv (ok:=(fun k_=>(P0_ k_∨w.heap.size≤k_)∧some k_≠(.slice Ao39 t182.length co39:Value).ownBlock∧some k_≠(.slice Ao43 t190.length co43:Value).ownBlock∧k_≠gb153∧k_≠gb159)) (Kd.V_mono (pV_ HO189.out) (fun _ hk=>⟨⟨hk.1.1.1,⟨hk.1.2,⟨hk.2,⟨hk.1.1.2.2.1,hk.1.1.2.2.2⟩⟩⟩⟩,hk.1.1.2.1⟩)) hg hat);replace HO192:=Aside0.mk (Kd.R_over' (pR_ HO192.out) (Kd.R_typed (pR_ HO_160000.out)) (by decide) hg);replace HB:=Aside0.mk (hb);have HO195:=Aside0.mk (ho);clear HO_160000;clear ho hb hg hat;obtain⟨Ao45,co45,eo45⟩:=Kd.R_slice HO195.out;(first|subst eo45|(injection eo45 with f1_ f2_ f3_;have f4_:=f1_.symm;have f5_:=f3_.symm;clear f1_ f2_ f3_;subst f4_;subst f5_));refine hK.out _ _ ⟨(bcl BK159.out 0).trans rfl,(bcl BK159.out 1).trans rfl,(bcl BK159.out 2).trans rfl,(bcl BK159.out 3).trans rfl⟩ (fun hHeld=>?_);clear hK K;refine norm_ (a':=?_) ?_ ?_
              rotate_left;(· show Act.put _ (some 61) _=_;simp only[Act.put,List.setIfInBounds_toArray,List.set_cons_zero,List.set_cons_succ,i64_w,i32_w];rfl);refine pq_ (i:=15) (N:=some 62) (hc:=any_of HT_.out (by kernel_rfl)) (bm_ 17 65535) ?_;refine last_ (i:=16) (N:=none) (bm_ 17 131071) rfl rfl (one_of HT_.out (by kernel_rfl)) (by decide) (fun K hK=>?_);have hs46:w44.cell? ⟨gb159,0,none⟩=some (u160000):=(bcl BK159.out 0).trans rfl;have hfs46:=bfz BK159.out 0;have hns46_0:=NB153_159.out;have hms46_0:=NB159_153.out;refine skip_ (w1:=?_) (by rfl) rfl ?_ ?_;rotate_left;(· go_simp;rfl);refine hK.out _ _ ?_;clear hK K;refine done_ (done_of HT_.out (by kernel_rfl)) ?_;(try go_wp2)
              go_roundg k1
              (case measure=>have:=HK1.out;omega);(case rel=>exact⟨(wrap64 (x9_1+1)),(y193),(.slice Ao45 y193.length co45),rs_,H',⟨by have:=HK1.out;omega⟩,⟨by(with_reducible repeat(first|apply Kd.V_alloc|apply Kd.V_drewN|apply Kd.V_drew));exact Kd.V_mono (Kd.V_far (p:=⟨gb159,0,none⟩) (Kd.V_mono HO_0.out (fun k_ hk=>(⟨hk,hk.1.2.2.2.2⟩:_∧k_≠gb159))) (fun _ hk=>hk.2) (.slice Ao45 y193.length co45)) (fun _ hk=>⟨hk.1.1.1,⟨hk.1.2,⟨hk.1.1.2.2.2.1,hk.1.1.2.2.2.2⟩⟩⟩)⟩,⟨by(with_reducible repeat(first|apply Kd.R_alloc|apply Kd.R_drewN|apply Kd.R_drew));exact Kd.R_mono (Kd.R_far (p:=⟨gb159,0,none⟩) (Kd.R_types HO195.out BK159.out (by decide)) (fun _ hk=>hk.2) (.slice Ao45 y193.length co45)) (fun _ hk=>hk.1)⟩,⟨by(with_reducible repeat(first|apply Kd.V_alloc|apply Kd.V_drewN|apply Kd.V_drew));exact Kd.V_mono (Kd.V_far (p:=⟨gb159,0,none⟩) (Kd.V_mono HO_160003.out (fun k_ hk=>(⟨hk,hk.1.2.2.2.2⟩:_∧k_≠gb159))) (fun _ hk=>hk.2) (.slice Ao45 y193.length co45)) (fun _ hk=>⟨hk.1.1.1,⟨hk.1.2,⟨hk.1.1.2.2.2.1,hk.1.1.2.2.2.2⟩⟩⟩)⟩,⟨by(with_reducible repeat(first|refine blk_drewN ?_ _|refine blk_drew ?_|refine blk_alloc ?_ _));refine blk_far ?_ NB153_159.out _;(with_reducible repeat(first|refine blk_drewN ?_ _|refine blk_drew ?_|refine blk_alloc ?_ _));exact BK153.out⟩,⟨by(with_reducible repeat(first|refine blk_drewN ?_ _|refine blk_drew ?_|refine blk_alloc ?_ _));refine blk_put (cs:=#[u160000, .int .i64 (t165.length:Int), .int .i64 (wrap64 ((t165.length:Int)+(t173.length:Int))), .slice A15 y154.length c15]) ?_ 0 _ rfl;(with_reducible repeat(first|refine blk_drewN ?_ _|refine blk_drew ?_|refine blk_alloc ?_ _));exact BK159.out⟩,⟨bs2_ GE153.out GE159.out⟩⟩)
             (· exact nx_ c36 H)
            (· exact nx_ c34 H)
           (· exact nx_ c33 H)
          (· exact nx_ c30 H)
         (· exact nx_ c29 H)
        (· (rw[if_neg c28] at H);have c28b0:decide (x9_1 < (((rd_T57 l0 0).f0).size:Int))=false:=decide_eq_false c28;clear c28;(simp only[Option.some.injEq,Prod.mk.injEq] at H);obtain⟨rfl,rfl,rfl,rfl⟩:=H;have p176:0≤(0:Int):=(by omega);have q176:0 < (l0.length:Int):=dt_;obtain⟨ad176,e176,hx176_0,hx176_1⟩:=at_T57 (Kd.V_reads' HO_0.out).2.2 0 p176 q176;cases e176;have qi176:(0 < l0.length)=True:=eq_true (by omega);(try rw[show ((0:Int)).toNat=0 from rfl] at hx176_0);(try rw[show 0 * 2=0 from rfl] at hx176_0);(try rw[Addr.add_zero'] at hx176_0);(try rw[show ((0:Int)).toNat=0 from rfl] at hx176_1);(try rw[show 0 * 2=0 from rfl] at hx176_1);(try rw[Addr.add_zero'] at hx176_1);replace p176:=eq_true p176;replace q176:=eq_true q176;have hnb47:=NB159_153.out;have hnc47:=NB153_159.out;have hcz48_0:wr.cell? ⟨gb159,0,none⟩=some (u160000):=(bcl BK159.out 0).trans rfl;have hcz48_1:wr.cell? ⟨gb159,1,none⟩=some (.int .i64 (t165.length:Int)):=(bcl BK159.out 1).trans rfl;have hcz48_2:wr.cell? ⟨gb159,2,none⟩=some (.int .i64 (wrap64 ((t165.length:Int)+(t173.length:Int)))):=(bcl BK159.out 2).trans rfl;have hcz48_3:wr.cell? ⟨gb159,3,none⟩=some (.slice A15 y154.length c15):=(bcl BK159.out 3).trans rfl;have hfz48_0:=bfz BK159.out 0;have hfz48_1:=bfz BK159.out 1;have hfz48_2:=bfz BK159.out 2;have hfz48_3:=bfz BK159.out 3;obtain⟨Ao49,co49,eo49⟩:=Kd.R_slice HO_160000.out;subst eo49;have hcz50_0:wr.cell? ⟨gb153,0,none⟩=some (.slice none 0 0):=(bcl BK153.out 0).trans rfl;have hcz50_1:wr.cell? ⟨gb153,1,none⟩=some (.int .i64 0):=(bcl BK153.out 1).trans rfl;have hcz50_2:wr.cell? ⟨gb153,2,none⟩=some (.int .i64 0):=(bcl BK153.out 2).trans rfl;have hcz50_3:wr.cell? ⟨gb153,3,none⟩=some (.slice none 0 0):=(bcl BK153.out 3).trans rfl;have hfz50_0:=bfz BK153.out 0;have hfz50_1:=bfz BK153.out 1;have hfz50_2:=bfz BK153.out 2;have hfz50_3:=bfz BK153.out 3;go_wp2;refine bodyPost_ret (results_cell_row rfl _ _ gb153 48 #[.slice Ao49 x160000_1.length co49, .int .i64 (t165.length:Int), .int .i64 (wrap64 ((t165.length:Int)+(t173.length:Int))), .slice A15 y154.length c15] (0,0) _ rfl (by(with_reducible repeat(first|refine blk_drewN ?_ _|refine blk_drew ?_|refine blk_alloc ?_ _));refine blk_put (cs:=#[.slice Ao49 x160000_1.length co49, .int .i64 (t165.length:Int), .int .i64 (wrap64 ((t165.length:Int)+(t173.length:Int))), .slice none 0 0]) ?_ 3 _ rfl;(with_reducible repeat(first|refine blk_drewN ?_ _|refine blk_drew ?_|refine blk_alloc ?_ _));refine blk_put (cs:=#[.slice Ao49 x160000_1.length co49, .int .i64 (t165.length:Int), .int .i64 0, .slice none 0 0]) ?_ 2 _ rfl;(with_reducible repeat(first|refine blk_drewN ?_ _|refine blk_drew ?_|refine blk_alloc ?_ _));refine blk_put (cs:=#[.slice Ao49 x160000_1.length co49, .int .i64 0, .int .i64 0, .slice none 0 0]) ?_ 1 _ rfl;(with_reducible repeat(first|refine blk_drewN ?_ _|refine blk_drew ?_|refine blk_alloc ?_ _));refine blk_put (cs:=#[.slice none 0 0, .int .i64 0, .int .i64 0, .slice none 0 0]) ?_ 0 _ rfl;(with_reducible repeat(first|refine blk_drewN ?_ _|refine blk_drew ?_|refine blk_alloc ?_ _));exact BK153.out) Tryd.underlying48 rfl (by kernel_rfl)) rfl ?_;exact⟨_,_,ew_,by(with_reducible repeat(first|apply Kd.R_alloc|apply Kd.R_drewN|apply Kd.R_drew));exact Kd.R_mono (Kd.R_far (p:=⟨gb153,3,none⟩) (Kd.R_far (p:=⟨gb153,2,none⟩) (Kd.R_far (p:=⟨gb153,1,none⟩) (Kd.R_far (p:=⟨gb153,0,none⟩) (Kd.R_types HO_160000.out BK153.out (by decide)) (fun _ hk=>hk.2) (.slice Ao49 x160000_1.length co49)) (fun _ hk=>hk.2) (.int .i64 (t165.length:Int))) (fun _ hk=>hk.2) (.int .i64 (wrap64 ((t165.length:Int)+(t173.length:Int))))) (fun _ hk=>hk.2) (.slice A15 y154.length c15)) (fun _ hk=>hk.1),by(with_reducible repeat(first|apply Kd.V_alloc|apply Kd.V_drewN|apply Kd.V_drew));exact Kd.V_mono (Kd.V_far (p:=⟨gb153,3,none⟩) (Kd.V_far (p:=⟨gb153,2,none⟩) (Kd.V_far (p:=⟨gb153,1,none⟩) (Kd.V_far (p:=⟨gb153,0,none⟩) (Kd.V_mono HO_160003.out (fun k_ hk=>(⟨hk,hk.2.2.1⟩:_∧k_≠gb153))) (fun _ hk=>hk.2) (.slice Ao49 x160000_1.length co49)) (fun _ hk=>hk.2) (.int .i64 (t165.length:Int))) (fun _ hk=>hk.2) (.int .i64 (wrap64 ((t165.length:Int)+(t173.length:Int))))) (fun _ hk=>hk.2) (.slice A15 y154.length c15)) (fun _ hk=>⟨hk.1.1,hk.1.2.1⟩),by repeat(first|(with_reducible first|exact HB.out|apply below_alloc|apply pw_below_drewN|apply below_drew1|refine below_set ?_ GE153.out|refine below_set ?_ GE159.out)|exact HB.out)⟩)
       (· exact nx_ c27 H)
    (· exact nx_ c8 H)
   (· exact nx_ c6 H)
  (· exact nx_ c5 H)
 (· exact nx_ c4 H)
end Go.Proofs.YthcnfflhejogfaaDoor.X
