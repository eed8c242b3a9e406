/-
  Parts of one proof, one behind the other: X0, XPre, XSq, XRn6, XRn7, XRn1, XRn2, XEn1, XAn1, XIn3, XIn1, XIn2.
-/
import Derived.Test.YtbbhdbeaikclcaaGreatBMergeTells3
import Derived.Test.YtbbhdbeaikclcaaGreatProg
import Derived.Below
import Derived.Deep.Draws
import Derived.Deep.AppendLies
import Derived.Maps.AppendAt
import Derived.OwnWalk
import Derived.Laws.BytesArg
import Derived.Laws.MakeOwn
import Derived.Laws.OwnMore
import Derived.Deep.OwnRows
import Derived.Tactics
import Derived.Lib.ConvBytes
import Derived.Laws.Slices
import Derived.WalkKit
import Derived.KernelRfl
import Derived.RowKit3
import Derived.Deep.LoopGhost
import Derived.Deep.QuietTactic
import Derived.BigQuiet
import Derived.WideLaws
import Derived.Deep.DeepCutAuto
import Derived.Deep.CutBlock
import Derived.Deep.RegionHeld3
import Derived.Laws.Rows
import Derived.Lib.AppendStr
import Derived.ArgAppend
import Derived.Laws.IdiomCopy
import Derived.OrdersHeld
import Derived.Laws.BitsLemmas
import Derived.RowKit
set_option linter.unusedVariables false
set_option linter.unusedSimpArgs false
set_option maxRecDepth 100000
set_option maxHeartbeats 8000000
namespace Go.Proofs.YtbbhdbeaikclcaaGreat.X
open Go.RowKit Go.Proofs.YtbbhdbeaikclcaaGreatW.PrintWords Go.Proofs.YtbbhdbeaikclcaaGreatW.PrintLast Go.Proofs.YtbbhdbeaikclcaaGreatW.PrintMore
attribute [local go_sem] max2_int min2_int max_two min_two max_three min_three max_four min_four
def errW:Option Int→Value
  | none => .nilIface
  | some c => .iface 0 (.int .i64 c)
theorem errW_none:errW none = .nilIface:=rfl
theorem errW_some (c:Int):errW (some c) = .iface 0 (.int .i64 c):=rfl

theorem info3:(Tryz.prog.info? 3).map (fun i=>(i.zero,i.size,i.bytes))=some (some (.int .i64 0),1,8):=by kernel_rfl
theorem info5:(Tryz.prog.info? 5).map (fun i=>(i.zero,i.size,i.bytes))=some (some (.int .u8 0),1,1):=by kernel_rfl
theorem info9:(Tryz.prog.info? 9).map (fun i=>(i.zero,i.size,i.bytes))=some (some (.string ⟨#[]⟩),1,16):=by kernel_rfl
theorem info22:(Tryz.prog.info? 22).map (fun i=>(i.zero,i.size,i.bytes))=some (some (.slice none 0 0),1,24):=by kernel_rfl
theorem info45:(Tryz.prog.info? 45).map (fun i=>(i.zero,i.size,i.bytes))=some (some (.agg #[(.int .i64 0),(.int .i64 0)]),2,16):=by kernel_rfl
theorem info48:(Tryz.prog.info? 48).map (fun i=>(i.zero,i.size,i.bytes))=some (some (.agg #[(.bool false),(.int .i64 0),(.int .i64 0),(.slice none 0 0)]),4,48):=by kernel_rfl
theorem info66:(Tryz.prog.info? 66).map (fun i=>(i.zero,i.size,i.bytes))=some (some (.agg #[(.bool false),(.slice none 0 0),(.slice none 0 0),(.slice none 0 0)]),4,80):=by kernel_rfl
theorem info72:(Tryz.prog.info? 72).map (fun i=>(i.zero,i.size,i.bytes))=some (some (.slice none 0 0),1,24):=by kernel_rfl
def rd_L1 (xs:List (List ByteArray)) (i:Int):(List ByteArray):=xs.getD i.toNat ([]:List ByteArray)
theorem at_L1 {w:World} {A:Option Addr} {n:Nat} {xs:List (List ByteArray)} (h:Kd.C (Kd.slice 9 Kd.string) w A n xs) (i:Int) (h0:0≤i) (h1:i < n) : ∃ ad A0 c0,A=some ad∧w.cell? (ad.add i.toNat)=some (.slice A0 (rd_L1 xs i).length c0)∧(rd_L1 xs i).length≤c0∧Kd.string.C w A0 (rd_L1 xs i).length (rd_L1 xs i):=by
  obtain⟨ad,c,e,_,hK,hc0⟩:=Kd.C_get h ([]:List ByteArray) i h0 h1
  have hc : ∀ j u,c[j]? = some u→w.cell? (ad.add (i.toNat * 1+j))=some u:=hc0
  obtain⟨A0,c0,rfl,l0,g0⟩:=hK
  exact⟨ad,A0,c0,e,by have hq:=hc 0 _ rfl;rwa [Nat.mul_one,Nat.add_zero] at hq,l0,g0⟩

structure S45 where
  f0:Int
  f1:Int
def z45:S45:=⟨(0:Int),(0:Int)⟩
def k45:Kd S45:=Kd.iso (Kd.pair (Kd.int .i64) (Kd.int .i64)) (fun x:S45=>(x.f0,x.f1))
theorem k45_open {w:World} {x:S45} {cs:List Value} (h:k45.K w x cs):cs=[.int .i64 x.f0, .int .i64 x.f1]:=by
  obtain⟨_,_,rfl,rfl,rfl⟩:=h
  exact rfl
theorem k45_mkM (w:World) (base:Nat) (ok:Nat→Prop) (x:S45)  : k45.M w base ok x [.int .i64 x.f0, .int .i64 x.f1]:=⟨[.int .i64 x.f0],[.int .i64 x.f1],rfl,rfl,rfl⟩
def rd_T45 (xs:List S45) (i:Int):S45:=xs.getD i.toNat z45
theorem at_T45 {w:World} {A:Option Addr} {n:Nat} {xs:List S45} (h:Kd.C k45 w A n xs) (i:Int) (h0:0≤i) (h1:i < n) : ∃ ad ,A=some ad∧w.cell? (ad.add (i.toNat * 2))=some (.int .i64 (rd_T45 xs i).f0)∧w.cell? ⟨(ad.add (i.toNat * 2)).block,(ad.add (i.toNat * 2)).off+1,none⟩=some (.int .i64 (rd_T45 xs i).f1):=by
  obtain⟨ad,c,e,_,hK,hc0⟩:=Kd.C_get h z45 i h0 h1
  have hc : ∀ j u,c[j]? = some u→w.cell? (ad.add (i.toNat * 2+j))=some u:=hc0
  obtain rfl:=k45_open hK
  exact⟨ad,e,hc 0 _ rfl,by rw[← add_field _ _ 1 (by omega)];exact hc 1 _ rfl⟩

structure S48 where
  f0:Bool
  f1:S45
  f2:(List S45)
def z48:S48:=⟨false,z45,([]:List S45)⟩
def k48:Kd S48:=Kd.iso (Kd.pair Kd.bool (Kd.pair k45 (Kd.slice 45 k45))) (fun x:S48=>(x.f0,x.f1,x.f2))
theorem k48_open {w:World} {x:S48} {cs:List Value} (h:k48.K w x cs) : ∃ A3 c3,cs=[.bool x.f0, .int .i64 x.f1.f0, .int .i64 x.f1.f1, .slice A3 x.f2.length c3]∧x.f2.length≤c3∧k45.C w A3 x.f2.length x.f2:=by
  obtain⟨_,_,rfl,rfl,⟨_,_,rfl,s1,⟨A3,c3,rfl,l3,g3⟩⟩⟩:=h
  obtain rfl:=k45_open s1
  exact⟨A3,c3,rfl,l3,g3⟩
theorem k48_mkM (w:World) (base:Nat) (ok:Nat→Prop) (x:S48) {v3:Value} (g3:k45.R 45 w base ok v3 x.f2):k48.M w base ok x [.bool x.f0, .int .i64 x.f1.f0, .int .i64 x.f1.f1,v3]:=⟨[.bool x.f0],[.int .i64 x.f1.f0, .int .i64 x.f1.f1,v3],rfl,rfl,⟨[.int .i64 x.f1.f0, .int .i64 x.f1.f1],[v3],rfl,(k45_mkM w base ok x.f1 ),⟨v3,rfl,g3⟩⟩⟩
theorem k48_openF {W:World} {ok:Nat→Prop} {x:S48} {cs:List Value} (h:Kd.FK k48 W ok x cs) : ∃ A3 c3,cs=[.bool x.f0, .int .i64 x.f1.f0, .int .i64 x.f1.f1, .slice A3 x.f2.length c3]∧x.f2.length≤c3∧Kd.F k45 W ok A3 x.f2.length x.f2:=by
  obtain⟨A3,c3,rfl,l3,_⟩:=k48_open (Kd.FK_now h)
  exact⟨A3,c3,rfl,l3,(fun W' hW=>by obtain⟨A3_,c3_,he,l3_,g3_⟩:=k48_open (h W' hW);injection (Option.some.inj (show some (Value.slice A3 x.f2.length c3)=some (Value.slice A3_ x.f2.length c3_) from congrArg (fun l=>l[3]?) he)) with ha_ _ _;rw[ha_];exact g3_)⟩
def rd_T48 (xs:List S48) (i:Int):S48:=xs.getD i.toNat z48
theorem at_T48 {w:World} {A:Option Addr} {n:Nat} {xs:List S48} (h:Kd.C k48 w A n xs) (i:Int) (h0:0≤i) (h1:i < n) : ∃ ad A3 c3,A=some ad∧w.cell? (ad.add (i.toNat * 4))=some (.bool (rd_T48 xs i).f0)∧w.cell? ⟨(ad.add (i.toNat * 4)).block,(ad.add (i.toNat * 4)).off+1,none⟩=some (.int .i64 (rd_T48 xs i).f1.f0)∧w.cell? ⟨(ad.add (i.toNat * 4)).block,(ad.add (i.toNat * 4)).off+2,none⟩=some (.int .i64 (rd_T48 xs i).f1.f1)∧w.cell? ⟨(ad.add (i.toNat * 4)).block,(ad.add (i.toNat * 4)).off+3,none⟩=some (.slice A3 (rd_T48 xs i).f2.length c3)∧(rd_T48 xs i).f2.length≤c3∧k45.C w A3 (rd_T48 xs i).f2.length (rd_T48 xs i).f2:=by
  obtain⟨ad,c,e,_,hK,hc0⟩:=Kd.C_get h z48 i h0 h1
  have hc : ∀ j u,c[j]? = some u→w.cell? (ad.add (i.toNat * 4+j))=some u:=hc0
  obtain⟨A3,c3,rfl,l3,g3⟩:=k48_open hK
  exact⟨ad,A3,c3,e,hc 0 _ rfl,by rw[← add_field _ _ 1 (by omega)];exact hc 1 _ rfl,by rw[← add_field _ _ 2 (by omega)];exact hc 2 _ rfl,by rw[← add_field _ _ 3 (by omega)];exact hc 3 _ rfl,l3,g3⟩

structure S34 where
  f0:Int
  f1:Bool
def k34:Kd S34:=Kd.iso (Kd.pair (Kd.int .i64) Kd.bool) (fun x:S34=>(x.f0,x.f1))
theorem k34_open {w:World} {x:S34} {cs:List Value} (h:k34.K w x cs):cs=[.int .i64 x.f0, .bool x.f1]:=by
  obtain⟨_,_,rfl,rfl,rfl⟩:=h
  exact rfl
structure S66 where
  f0:Bool
  f1:(List ByteArray)
  f2:(List ByteArray)
  f3:(List (List ByteArray))
def z66:S66:=⟨false,([]:List ByteArray),([]:List ByteArray),([]:List (List ByteArray))⟩
def k66:Kd S66:=Kd.iso (Kd.pair Kd.bool (Kd.pair (Kd.slice 9 Kd.string) (Kd.pair (Kd.slice 9 Kd.string) (Kd.slice 22 (Kd.slice 9 Kd.string))))) (fun x:S66=>(x.f0,x.f1,x.f2,x.f3))
theorem k66_open {w:World} {x:S66} {cs:List Value} (h:k66.K w x cs) : ∃ A1 c1 A2 c2 A3 c3,cs=[.bool x.f0, .slice A1 x.f1.length c1, .slice A2 x.f2.length c2, .slice A3 x.f3.length c3]∧x.f1.length≤c1∧Kd.string.C w A1 x.f1.length x.f1∧x.f2.length≤c2∧Kd.string.C w A2 x.f2.length x.f2∧x.f3.length≤c3∧(Kd.slice 9 Kd.string).C w A3 x.f3.length x.f3:=by
  obtain⟨_,_,rfl,rfl,⟨_,_,rfl,⟨A1,c1,rfl,l1,g1⟩,⟨_,_,rfl,⟨A2,c2,rfl,l2,g2⟩,⟨A3,c3,rfl,l3,g3⟩⟩⟩⟩:=h
  exact⟨A1,c1,A2,c2,A3,c3,rfl,l1,g1,l2,g2,l3,g3⟩
theorem k66_mk (w:World) (x:S66) {A1:Option Addr} {c1:Nat} (l1:x.f1.length≤c1) (g1:Kd.string.C w A1 x.f1.length x.f1) {A2:Option Addr} {c2:Nat} (l2:x.f2.length≤c2) (g2:Kd.string.C w A2 x.f2.length x.f2) {A3:Option Addr} {c3:Nat} (l3:x.f3.length≤c3) (g3:(Kd.slice 9 Kd.string).C w A3 x.f3.length x.f3):k66.K w x [.bool x.f0, .slice A1 x.f1.length c1, .slice A2 x.f2.length c2, .slice A3 x.f3.length c3]:=⟨[.bool x.f0],[.slice A1 x.f1.length c1, .slice A2 x.f2.length c2, .slice A3 x.f3.length c3],rfl,rfl,⟨[.slice A1 x.f1.length c1],[.slice A2 x.f2.length c2, .slice A3 x.f3.length c3],rfl,⟨A1,c1,rfl,l1,g1⟩,⟨[.slice A2 x.f2.length c2],[.slice A3 x.f3.length c3],rfl,⟨A2,c2,rfl,l2,g2⟩,⟨A3,c3,rfl,l3,g3⟩⟩⟩⟩
theorem k66_openF {W:World} {ok:Nat→Prop} {x:S66} {cs:List Value} (h:Kd.FK k66 W ok x cs) : ∃ A1 c1 A2 c2 A3 c3,cs=[.bool x.f0, .slice A1 x.f1.length c1, .slice A2 x.f2.length c2, .slice A3 x.f3.length c3]∧x.f1.length≤c1∧Kd.F Kd.string W ok A1 x.f1.length x.f1∧x.f2.length≤c2∧Kd.F Kd.string W ok A2 x.f2.length x.f2∧x.f3.length≤c3∧Kd.F (Kd.slice 9 Kd.string) W ok A3 x.f3.length x.f3:=by
  obtain⟨A1,c1,A2,c2,A3,c3,rfl,l1,_,l2,_,l3,_⟩:=k66_open (Kd.FK_now h)
  exact⟨A1,c1,A2,c2,A3,c3,rfl,l1,(fun W' hW=>by obtain⟨A1_,c1_,A2_,c2_,A3_,c3_,he,l1_,g1_,l2_,g2_,l3_,g3_⟩:=k66_open (h W' hW);injection (Option.some.inj (show some (Value.slice A1 x.f1.length c1)=some (Value.slice A1_ x.f1.length c1_) from congrArg (fun l=>l[1]?) he)) with ha_ _ _;rw[ha_];exact g1_),l2,(fun W' hW=>by obtain⟨A1_,c1_,A2_,c2_,A3_,c3_,he,l1_,g1_,l2_,g2_,l3_,g3_⟩:=k66_open (h W' hW);injection (Option.some.inj (show some (Value.slice A2 x.f2.length c2)=some (Value.slice A2_ x.f2.length c2_) from congrArg (fun l=>l[2]?) he)) with ha_ _ _;rw[ha_];exact g2_),l3,(fun W' hW=>by obtain⟨A1_,c1_,A2_,c2_,A3_,c3_,he,l1_,g1_,l2_,g2_,l3_,g3_⟩:=k66_open (h W' hW);injection (Option.some.inj (show some (Value.slice A3 x.f3.length c3)=some (Value.slice A3_ x.f3.length c3_) from congrArg (fun l=>l[3]?) he)) with ha_ _ _;rw[ha_];exact g3_)⟩
theorem k66_mkF (W:World) (ok:Nat→Prop) (x:S66) {A1:Option Addr} {c1:Nat} (l1:x.f1.length≤c1) (g1:Kd.F Kd.string W ok A1 x.f1.length x.f1) {A2:Option Addr} {c2:Nat} (l2:x.f2.length≤c2) (g2:Kd.F Kd.string W ok A2 x.f2.length x.f2) {A3:Option Addr} {c3:Nat} (l3:x.f3.length≤c3) (g3:Kd.F (Kd.slice 9 Kd.string) W ok A3 x.f3.length x.f3):Kd.FK k66 W ok x [.bool x.f0, .slice A1 x.f1.length c1, .slice A2 x.f2.length c2, .slice A3 x.f3.length c3]:=fun W2 hW=>k66_mk W2 x l1 (g1 W2 hW) l2 (g2 W2 hW) l3 (g3 W2 hW)
def rd_T66 (xs:List S66) (i:Int):S66:=xs.getD i.toNat z66
theorem at_T66 {w:World} {A:Option Addr} {n:Nat} {xs:List S66} (h:Kd.C k66 w A n xs) (i:Int) (h0:0≤i) (h1:i < n) : ∃ ad A1 c1 A2 c2 A3 c3,A=some ad∧w.cell? (ad.add (i.toNat * 4))=some (.bool (rd_T66 xs i).f0)∧w.cell? ⟨(ad.add (i.toNat * 4)).block,(ad.add (i.toNat * 4)).off+1,none⟩=some (.slice A1 (rd_T66 xs i).f1.length c1)∧w.cell? ⟨(ad.add (i.toNat * 4)).block,(ad.add (i.toNat * 4)).off+2,none⟩=some (.slice A2 (rd_T66 xs i).f2.length c2)∧w.cell? ⟨(ad.add (i.toNat * 4)).block,(ad.add (i.toNat * 4)).off+3,none⟩=some (.slice A3 (rd_T66 xs i).f3.length c3)∧(rd_T66 xs i).f1.length≤c1∧Kd.string.C w A1 (rd_T66 xs i).f1.length (rd_T66 xs i).f1∧(rd_T66 xs i).f2.length≤c2∧Kd.string.C w A2 (rd_T66 xs i).f2.length (rd_T66 xs i).f2∧(rd_T66 xs i).f3.length≤c3∧(Kd.slice 9 Kd.string).C w A3 (rd_T66 xs i).f3.length (rd_T66 xs i).f3:=by
  obtain⟨ad,c,e,_,hK,hc0⟩:=Kd.C_get h z66 i h0 h1
  have hc : ∀ j u,c[j]? = some u→w.cell? (ad.add (i.toNat * 4+j))=some u:=hc0
  obtain⟨A1,c1,A2,c2,A3,c3,rfl,l1,g1,l2,g2,l3,g3⟩:=k66_open hK
  exact⟨ad,A1,c1,A2,c2,A3,c3,e,hc 0 _ rfl,by rw[← add_field _ _ 1 (by omega)];exact hc 1 _ rfl,by rw[← add_field _ _ 2 (by omega)];exact hc 2 _ rfl,by rw[← add_field _ _ 3 (by omega)];exact hc 3 _ rfl,l1,g1,l2,g2,l3,g3⟩

def rd_L16 (xs:List (List Int)) (i:Int):(List Int):=xs.getD i.toNat ([]:List Int)
theorem at_L16 {w:World} {A:Option Addr} {n:Nat} {xs:List (List Int)} (h:Kd.C (Kd.slice 3 (Kd.int .i64)) w A n xs) (i:Int) (h0:0≤i) (h1:i < n) : ∃ ad A0 c0,A=some ad∧w.cell? (ad.add i.toNat)=some (.slice A0 (rd_L16 xs i).length c0)∧(rd_L16 xs i).length≤c0∧(Kd.int .i64).C w A0 (rd_L16 xs i).length (rd_L16 xs i):=by
  obtain⟨ad,c,e,_,hK,hc0⟩:=Kd.C_get h ([]:List Int) i h0 h1
  have hc : ∀ j u,c[j]? = some u→w.cell? (ad.add (i.toNat * 1+j))=some u:=hc0
  obtain⟨A0,c0,rfl,l0,g0⟩:=hK
  exact⟨ad,A0,c0,e,by have hq:=hc 0 _ rfl;rwa [Nat.mul_one,Nat.add_zero] at hq,l0,g0⟩

theorem eqA45 (d:Nat) (w:World) (x0 y0:Int) (x1 y1:Int) :
    (Op.equalIn (d+2) 45 (.agg #[.int .i64 x0, .int .i64 x1]) (.agg #[.int .i64 y0, .int .i64 y1])).run Tryz.prog w = .ok (x0 == y0 && (x1 == y1)) w:=by
  refine eqA_of Tryz.underlying45 (by kernel_rfl) ?_
  refine eqf_cons (by rfl) (by go_simp;rfl) (by go_simp;rfl) (by go_simp) ?_
  exact eqf_last (by rfl) (by go_simp;rfl) (by go_simp;rfl) (by go_simp)
end Go.Proofs.YtbbhdbeaikclcaaGreat.X
namespace Go.Proofs.YtbbhdbeaikclcaaGreat.X
open Go.RowKit Go.Proofs.YtbbhdbeaikclcaaGreatW.PrintWords
theorem cellD {w w1:World} {n:Nat} {a:Addr} {v:Option Value} (h:w.drewN n=w1) (hc:w.cell? a=v):w1.cell? a=v:=by
  rw[← h,← hc];simp
theorem frozenD {w w1:World} {n:Nat} {a:Addr} {v:Bool} (h:w.drewN n=w1) (hc:w.frozen? a=v):w1.frozen? a=v:=by
  rw[← h,← hc];simp
theorem R_int_of_cells {k:IntKind} {W:World} {g base:Nat} {e:TypeId} {xs:List Int} (h:W.heap[g]? = some (.cells (xs.map (Value.int k)).toArray e (0,0))) (hb:base≤g) (hl:xs.length≤maxLen) :
    Kd.R (Kd.int k) e W base (fun _=>True) (.slice (some ⟨g,0,none⟩) xs.length xs.length) xs:=by
  refine⟨fun _ _=>trivial,xs.map (Value.int k),⟨by simp[Kd.int,Kd.scalar], .inr ⟨g,xs.length,_,rfl,hb,h,Nat.le_refl _,hl,by simp[Kd.int,Kd.scalar],by simp[Kd.int,Kd.scalar,List.take_of_length_le]⟩⟩,by simp[Kd.int,Kd.scalar],fun j p hj=>?_⟩
  obtain⟨hl,rfl⟩:=List.getElem?_eq_some_iff.1 hj
  show ((xs.map (Value.int k)).drop (j * 1)).take 1=[Value.int k xs[j]]
  rw[Nat.mul_one,List.drop_eq_getElem_cons (by simpa using hl)]
  simp
section
variable {P:Program} {ops:Array Oper} {rest:List Oper} {o:Oper} {a:Act} {Q:Exit→Act→World→Prop} {W:World}
theorem event_at {v:Value} {w1:World} (hgd:o.guard=none) (hrun:(execOp a.eval o).run P W = .ok (.value v) w1) (h : ∀ w',Aside0 (w'=w1)→wpList P ops Q rest (a.put o.dst v) w'):wpList P ops Q (o :: rest) a W :=
  Kd.event_run hgd hrun (h _ ⟨rfl⟩)
theorem store_at {w1:World} (hgd:o.guard=none) {t:TypeId} {p:Tmp} {v:Operand} (ho:o.op = .store t (.tmp p) v) (hN:o.dst=none) (hrun:(execOp a.eval o).run P W = .ok .skip w1) (h : ∀ w',Aside0 (w'=w1)→wpList P ops Q rest a w'):wpList P ops Q (o :: rest) a W :=
  store_event hgd ho hN hrun (fun w' hw=>h w' ⟨hw⟩)
end
theorem cell_blk {W:World} {g j:Nat} {cs:Array Value} {t:TypeId} {v:Value} (h:W.heap[g]? = some (.cells cs t (0,0))) (hj:cs[j]? = some v):W.cell? ⟨g,j,none⟩=some v:=by
  rw[cell_of_row W g j cs t (0,0) h,hj]
theorem heap_set_same {W:World} {g j:Nat} {cs:Array Value} {t:TypeId} {fr:Nat × Nat} (h:W.heap[g]? = some (.cells cs t fr)) (v:Value):(W.setCell ⟨g,j,none⟩ v).heap[g]? = some (.cells (cs.setIfInBounds j v) t fr):=by
  have hlt:g < W.heap.size:=(Array.getElem?_eq_some_iff.1 h).1
  rw[Array.getElem?_eq_getElem hlt] at h
  injection h with h
  simp[World.setCell,hlt,Array.getElem_modify,h]
theorem heap_set_other {W:World} {g g' j:Nat} (hne:g'≠g) (v:Value):(W.setCell ⟨g,j,none⟩ v).heap[g']? = W.heap[g']? := Below.heap_setCell W ⟨g,j,none⟩ v g' hne
theorem cell_alloc_of {w:World} {a:Addr} {v:Value} (h:w.cell? a=some v) (o:Obj):(w.alloc o).cell? a=some v :=
  (World.cell?_alloc_lt _ _ _ (World.block_lt_of_cell? w a h)).trans h
end Go.Proofs.YtbbhdbeaikclcaaGreat.X
namespace Go.Proofs.YtbbhdbeaikclcaaGreat.X
open Go.RowKit Go.Proofs.YtbbhdbeaikclcaaGreatW.PrintWords Go.Proofs.YtbbhdbeaikclcaaGreatW.PrintLast Go.Proofs.YtbbhdbeaikclcaaGreatW.PrintMore
theorem dt_ {p:Prop} [Decidable p] (h:decide p=true:=by first|(with_reducible assumption)|assumption):p:=of_decide_eq_true h
theorem bel_ {p:Prop} (h:p:=by repeat(first|(with_reducible first|exact HB.out|apply below_alloc|apply pw_below_drewN|apply below_drew1)|exact HB.out)):p:=h
theorem pR_ {p q:Prop} (h:p) (hq:p→q:=by(intro h;(with_reducible repeat(first|apply Kd.R_alloc|apply Kd.R_drewN|apply Kd.R_drew));exact h)):q:=hq h
theorem pK_ {p q:Prop} (h:p) (hq:p→q:=by(intro h;(with_reducible repeat(first|refine blk_drewN ?_ _|refine blk_drew ?_|refine blk_alloc ?_ _));exact h)):q:=hq h
theorem rs_ {p:Prop} (h:p:=by first|rfl|(simp;done)|(simp[*];done)):p:=h
theorem d0_ {p:Prop} (h:p:=by repeat(first|exact Drawn0.refl _|apply Drawn0.step)):p:=h
def bl_:Nat→Nat→List Bool
  | 0,_=>[]
  | n+1,b=>(b % 2 == 1) :: bl_ n (b / 2)
def bm_ (n b:Nat):Array Bool:=⟨bl_ n b⟩
theorem nx_ {p q:Prop} [Decidable p] {α:Type} {a:Option α} {r:α} (c : ¬p) (h:(if p then a else none)=some r):q:=by
  rw[if_neg c] at h
  cases h
theorem bs1_ {p q:Prop} (hg:q) (h:q→p:=by(intro GE_;repeat(first|(with_reducible first|exact HB.out|apply below_alloc|apply pw_below_drewN|apply below_drew1|refine below_set ?_ GE_)|exact HB.out))):p:=h hg
theorem bs2_ {p q r:Prop} (hg:q) (hg2:r) (h:q→r→p:=by(intro GE_ GF_;repeat(first|(with_reducible first|exact HB.out|apply below_alloc|apply pw_below_drewN|apply below_drew1|refine below_set ?_ GE_|refine below_set ?_ GF_)|exact HB.out))):p:=h hg hg2
section
variable {α:Type} {d:Kd α} {e:TypeId} {W W':World} {B:Nat} {ok:Nat→Prop} {v:Value} {xs:List α}
theorem pV_ (h:Kd.V d e W B ok v xs) (hq:Kd.V d e W B ok v xs→Kd.V d e W' B ok v xs:=by(intro h;(with_reducible repeat(first|apply Kd.V_alloc|apply Kd.V_drewN|apply Kd.V_drew));exact h)):Kd.V d e W' B ok v xs:=hq h
theorem pN_ (h:Kd.N d e W B ok v xs) (hq:Kd.N d e W B ok v xs→Kd.N d e W' B ok v xs:=by(intro h;(with_reducible repeat(first|apply Kd.N_alloc|apply Kd.N_drewN|apply Kd.N_drew));exact h)):Kd.N d e W' B ok v xs:=hq h
theorem pS_ (h:Kd.S d e W B ok v xs) (hq:Kd.S d e W B ok v xs→Kd.S d e W' B ok v xs:=by(intro h;(with_reducible repeat(first|apply Kd.S_alloc|apply Kd.S_drewN|apply Kd.S_drew));exact h)):Kd.S d e W' B ok v xs:=hq h
theorem pRm_ (h:Kd.R d e W B ok v xs) (hq:Kd.R d e W B ok v xs→Kd.R d e W' B ok v xs:=by(intro h;(with_reducible repeat(first|apply Kd.R_alloc|apply Kd.R_drewN|apply Kd.R_drew));exact h)):Kd.R d e W' B ok v xs:=hq h
end
theorem pC_ {p q:Prop} (h:p) (hq:p→q:=by(intro h;repeat(first|exact h|(with_reducible refine Kd.C_alloc ?_ _)|(with_reducible refine Kd.C_drewN ?_ _)|(with_reducible refine Kd.C_drew ?_)))):q:=hq h
theorem nb_ {p q:Prop} (h:p) (hq:p→q:=by(intro h;first|exact h|exact Kd.S_N h)):q:=hq h
theorem am_ {p:Prop} (h:p:=by((try simp only[List.map_toArray,List.map_cons,List.map_nil]);first|done|rfl|(simp only[List.length_drop,List.length_take];rfl))):p:=h
theorem ew_ {p:Prop} (h:p:=by first|rfl|(simp[errW_none,errW_some] <;> rfl)|(simp[*,errW_none,errW_some] <;> rfl)):p:=h
section
variable {P:Program} {md:Region.Mode} {ops:Array Oper} {Q:Exit→Act→World→Prop} {S:World→Prop} {ds:List Nat}
theorem pq_ {i:Nat} {N:Option Tmp} {oi:Oper} {v:Value} {fuel:Nat} {l:Array Bool} {a:Act} {w:World} (l':Array Bool) {a':Act} (h:wpAnyLast P md ops Q S ds fuel l' a' w) (hi:ops[i]? = some oi:=by rfl) (hN:oi.dst=N:=by rfl) (hc:anyB md ops l l' i=true:=by kernel_rfl)
    (hQ : ∀ c a w,Q (.panic c) (a.put oi.dst v) w→Q (.panic c) a w:=by exact fun _ _ _ h=>h) (hy:Yields P ops oi v a:=by exact Or.inl ⟨by rfl,by(intro w';go_simp;with_reducible rfl)⟩) (ha:a.put N v=a':=by(simp only[Act.put,List.setIfInBounds_toArray,List.set_cons_zero,List.set_cons_succ,i64_w,i32_w];rfl)):wpAnyLast P md ops Q S ds (fuel+1) l a w:=pure_ l' hi hN hc hQ hy ha h
theorem pu_ {i:Nat} {N:Option Tmp} {oi:Oper} {fuel:Nat} {l:Array Bool} {a:Act} {w:World} (l':Array Bool) {a':Act} (h:wpAnyLast P md ops Q S ds fuel l' a' w) (hi:ops[i]? = some oi:=by rfl) (hN:oi.dst=N:=by rfl) (hc:anyB md ops l l' i=true:=by kernel_rfl)
    (hQ : ∀ c a w,Q (.panic c) (a.put oi.dst undef) w→Q (.panic c) a w:=by exact fun _ _ _ h=>h) (hy:Yields P ops oi undef a:=by exact Or.inr ⟨by rfl,rfl⟩) (ha:a.put N undef=a':=by(simp only[Act.put,List.setIfInBounds_toArray,List.set_cons_zero,List.set_cons_succ,i64_w,i32_w];rfl)):wpAnyLast P md ops Q S ds (fuel+1) l a w:=pure_ l' hi hN hc hQ hy ha h
theorem tq_ {i:Nat} {N:Option Tmp} {oi:Oper} {v:Value} {fuel:Nat} {l:Array Bool} {a:Act} {w:World} (l':Array Bool) {a':Act} (hS:S w) (h:wpAnyLast P md ops Q S ds fuel l' a' w) (hi:ops[i]? = some oi:=by rfl) (hN:oi.dst=N:=by rfl) (hc:takeB md ops ds l l' i=true:=by kernel_rfl)
    (hQ : ∀ c a w,Q (.panic c) (a.put oi.dst v) w→Q (.panic c) a w:=by exact fun _ _ _ h=>h) (hy:YieldsIf P ops S oi v a:=by exact Or.inl ⟨by rfl,by(intro w' s;(repeat(obtain⟨_,s⟩:=s));go_simp;with_reducible rfl)⟩) (ha:a.put N v=a':=by(simp only[Act.put,List.setIfInBounds_toArray,List.set_cons_zero,List.set_cons_succ,i64_w,i32_w];rfl)):wpAnyLast P md ops Q S ds (fuel+1) l a w:=take_ l' hi hN hc hQ hy hS ha h
theorem nq_ {fuel:Nat} {l:Array Bool} {a a':Act} {w:World} {N:Option Tmp} {v:Value} (h:wpAnyLast P md ops Q S ds fuel l a' w) (ha:a.put N v=a':=by(show Act.put _ _ _=_;simp only[Act.put,List.setIfInBounds_toArray,List.set_cons_zero,List.set_cons_succ,i64_w,i32_w];rfl)):wpAnyLast P md ops Q S ds fuel l (a.put N v) w:=norm_ ha h
end
end Go.Proofs.YtbbhdbeaikclcaaGreat.X
namespace Go.Proofs.YtbbhdbeaikclcaaGreat.X
open Go.RowKit Go.Proofs.YtbbhdbeaikclcaaGreatW.PrintWords Go.Proofs.YtbbhdbeaikclcaaGreatW.PrintLast Go.Proofs.YtbbhdbeaikclcaaGreatW.PrintMore
attribute [local go_sem] max2_int min2_int max_two min_two max_three min_three max_four min_four
attribute [local go_sem high] eqA45
def sennitref01_Same.l0:Nat→List ByteArray→List ByteArray→Int→Option (Bool)
  | 0,_,_,_=>none
  | k+1,x0,x1,x5=>if x5 < (x0.length:Int) then (if 0≤x5 then (if x5 < (x1.length:Int) then (if (rdOf ByteArray.empty x0 x5).toList=(rdOf ByteArray.empty x1 x5).toList then (sennitref01_Same.l0 k x0 x1 (wrap64 (x5+1))) else (some false)) else (none)) else (none)) else (some true)
def sennitref01_Same.f (k:Nat) (l0:List ByteArray) (l1:List ByteArray):Option (Bool):=if (l0.length:Int)=(l1.length:Int) then (sennitref01_Same.l0 k l0 l1 0) else (some false)
theorem sennitref01_Same.calls (k:Nat) (A0:Option Addr) (c0:Nat) (l0:List ByteArray) (A1:Option Addr) (c1:Nat) (l1:List ByteArray) (r:Bool) (w:World) (hr0:Kd.C Kd.string w A0 l0.length l0) (hc0:l0.length≤c0) (hr1:Kd.C Kd.string w A1 l1.length l1) (hc1:l1.length≤c1) (h:sennitref01_Same.f k l0 l1=some r) :
    Calls Tryz.prog 26 #[.slice A0 l0.length c0, .slice A1 l1.length c1] w fun e w'=>e = .returned (.bool r)∧Drawn0 w w':=by
 have HR0:=Aside0.mk hr0;have HC0:=Aside0.mk hc0;clear hr0 hc0;have HR1:=Aside0.mk hr1;have HC1:=Aside0.mk hc1;clear hr1 hc1;have H:=h;(rw[sennitref01_Same.f] at H);clear h
 by_cases c3:(l0.length:Int)=(l1.length:Int)
 ·
  (rw[if_pos c3] at H);have c3b0:((l0.length:Int) == (l1.length:Int))=true:=beq_iff_eq.mpr c3;have c3b1:((l0.length:Int) != (l1.length:Int))=false:=bne_eq_false_iff_eq.mpr c3;(have c3b2:(l0.length == l1.length)=true:=by first|simpa using c3|(simp at c3 ⊢;omega));clear c3;have H':=Aside0.mk H;clear H;go_enter Tryz.func26,Tryz.ntmps26;go_wp2;(repeat(go_quiet (fail);try go_wp2))
  go_loopg [5] k (fun kq v5 w' => ∃ (x5_1:Int),v5 = .int .i64 x5_1∧Aside0 (sennitref01_Same.l0 kq l0 l1 x5_1=some r)∧Aside0 (kq≤k)∧Drawn0 w w')
  (case atStart=>exact⟨(0),rs_,H',⟨Nat.le_refl _⟩,d0_⟩)
  case round =>
   clear H';(try clear c1);(try clear c2);(try clear p2);(try clear c3);(try clear c3b0);(try clear c3b1);(try clear c3b2);obtain⟨x5_1,rfl,HA,HK1,⟨m1,rfl⟩⟩:=hrel
   cases gk with
   | zero=>exact absurd HA.out (by simp[sennitref01_Same.l0])
   | succ k1 =>
    have H:=HA.out;clear HA;(simp only[sennitref01_Same.l0] at H)
    by_cases c4:x5_1 < (l0.length:Int)
    ·
     (rw[if_pos c4] at H);have c4b0:decide (x5_1 < (l0.length:Int))=true:=decide_eq_true c4;clear c4
     by_cases c5:0≤x5_1
     ·
      (rw[if_pos c5] at H);have c5b0:decide (0≤x5_1)=true:=decide_eq_true c5;clear c5
      by_cases c6:x5_1 < (l1.length:Int)
      ·
       (rw[if_pos c6] at H);have c6b0:decide (x5_1 < (l1.length:Int))=true:=decide_eq_true c6;clear c6
       by_cases c7:(rdOf ByteArray.empty l0 x5_1).toList=(rdOf ByteArray.empty l1 x5_1).toList
       ·
        (rw[if_pos c7] at H);have c7b0:((rdOf ByteArray.empty l0 x5_1).toList == (rdOf ByteArray.empty l1 x5_1).toList)=true:=beq_iff_eq.mpr c7;have c7b1:((rdOf ByteArray.empty l0 x5_1).toList != (rdOf ByteArray.empty l1 x5_1).toList)=false:=bne_eq_false_iff_eq.mpr c7;clear c7;have H':=Aside0.mk H;clear H;have p218:0≤(x5_1:Int):=dt_;have q218:x5_1 < (l0.length:Int):=dt_;obtain⟨ad218,e218,hx218_0⟩:=Kd.at_string HR0.out x5_1 p218 q218;cases e218;replace p218:=eq_true p218;replace q218:=eq_true q218;have p219:0≤(x5_1:Int):=dt_;have q219:x5_1 < (l1.length:Int):=dt_;obtain⟨ad219,e219,hx219_0⟩:=Kd.at_string HR1.out x5_1 p219 q219;cases e219;replace p219:=eq_true p219;replace q219:=eq_true q219;go_wp2;(repeat(go_quiet (fail);try go_wp2))
        go_roundg k1
        (case measure=>have:=HK1.out;omega);(case rel=>exact⟨(wrap64 (x5_1+1)),rs_,H',⟨by have:=HK1.out;omega⟩,d0_⟩)
       (· (rw[if_neg c7] at H);have c7b0:((rdOf ByteArray.empty l0 x5_1).toList == (rdOf ByteArray.empty l1 x5_1).toList)=false:=beq_eq_false_iff_ne.mpr c7;have c7b1:((rdOf ByteArray.empty l0 x5_1).toList != (rdOf ByteArray.empty l1 x5_1).toList)=true:=bne_iff_ne.mpr c7;obtain rfl:=Option.some.inj H;have p218:0≤(x5_1:Int):=dt_;have q218:x5_1 < (l0.length:Int):=dt_;obtain⟨ad218,e218,hx218_0⟩:=Kd.at_string HR0.out x5_1 p218 q218;cases e218;replace p218:=eq_true p218;replace q218:=eq_true q218;have p219:0≤(x5_1:Int):=dt_;have q219:x5_1 < (l1.length:Int):=dt_;obtain⟨ad219,e219,hx219_0⟩:=Kd.at_string HR1.out x5_1 p219 q219;cases e219;replace p219:=eq_true p219;replace q219:=eq_true q219;go_wp2;(repeat(go_quiet (fail);try go_wp2));go_ret;exact⟨by first|rfl|(simp;done)|(simp[*];done),d0_⟩)
      (· exact nx_ c6 H)
     (· exact nx_ c5 H)
    (· (rw[if_neg c4] at H);have c4b0:decide (x5_1 < (l0.length:Int))=false:=decide_eq_false c4;clear c4;obtain rfl:=Option.some.inj H;go_wp2;(repeat(go_quiet (fail);try go_wp2));go_ret;exact⟨by first|rfl|(simp;done)|(simp[*];done),d0_⟩)
 (· (rw[if_neg c3] at H);have c3b0:((l0.length:Int) == (l1.length:Int))=false:=beq_eq_false_iff_ne.mpr c3;have c3b1:((l0.length:Int) != (l1.length:Int))=true:=bne_iff_ne.mpr c3;(have c3b2:(l0.length == l1.length)=false:=by first|simpa using c3|(simp at c3 ⊢;omega));obtain rfl:=Option.some.inj H;go_enter Tryz.func26,Tryz.ntmps26;go_wp2;(repeat(go_quiet (fail);try go_wp2));go_ret;exact⟨by first|rfl|(simp;done)|(simp[*];done),d0_⟩)
end Go.Proofs.YtbbhdbeaikclcaaGreat.X
namespace Go.Proofs.YtbbhdbeaikclcaaGreat.X
open Go.RowKit Go.Proofs.YtbbhdbeaikclcaaGreatW.PrintWords Go.Proofs.YtbbhdbeaikclcaaGreatW.PrintLast Go.Proofs.YtbbhdbeaikclcaaGreatW.PrintMore
attribute [local go_sem] max2_int min2_int max_two min_two max_three min_three max_four min_four
mutual
def sennitref06_Differing.l0:Nat→List ByteArray→List (List ByteArray)→List (List ByteArray)→Int→Option ((List (List ByteArray)))
  | 0,_,_,_,_=>none
  | k+1,x0,x1,x5,x6=>if x6 < (x1.length:Int) then (if 0≤x6 then ((sennitref01_Same.f k (rd_L1 x1 x6) x0).bind fun t221=>(sennitref06_Differing.l1 k x0 x1 x5 x6 t221 0)) else (none)) else (some x5)
def sennitref06_Differing.l1:Nat→List ByteArray→List (List ByteArray)→List (List ByteArray)→Int→Bool→Int→Option ((List (List ByteArray)))
  | 0,_,_,_,_,_,_=>none
  | k+1,x0,x1,x5,x6,x7,x8=>if x8 < x6 then (if x7=true then (sennitref06_Differing.l1 k x0 x1 x5 x6 true (wrap64 (x8+1))) else (if 0≤x6 then (if x6 < (x1.length:Int) then (if 0≤x8 then (if x8 < (x1.length:Int) then ((sennitref01_Same.f k (rd_L1 x1 x6) (rd_L1 x1 x8)).bind fun t224=>(sennitref06_Differing.l1 k x0 x1 x5 x6 t224 (wrap64 (x8+1)))) else (none)) else (none)) else (none)) else (none))) else (if x7=true then (sennitref06_Differing.l0 k x0 x1 x5 (wrap64 (x6+1))) else (if 0≤x6 then (if x6 < (x1.length:Int) then (if x5.length < 5864062014805 then (sennitref06_Differing.l0 k x0 x1 (x5 ++ [rd_L1 x1 x6]) (wrap64 (x6+1))) else (none)) else (none)) else (none)))
end
def sennitref06_Differing.f (k:Nat) (l0:List ByteArray) (l1:List (List ByteArray)):Option ((List (List ByteArray))):=sennitref06_Differing.l0 k l0 l1 ([]:List (List ByteArray)) 0
theorem sennitref06_Differing.calls (k:Nat) (A0:Option Addr) (c0:Nat) (l0:List ByteArray) (P1_:Nat→Prop) (A1:Option Addr) (c1:Nat) (l1:List (List ByteArray)) (r:List (List ByteArray)) (w:World) (hr0:Kd.C Kd.string w A0 l0.length l0) (hc0:l0.length≤c0) (hs1:Kd.V (Kd.slice 9 Kd.string) 22 w w.heap.size (fun k_=>P1_ k_) (.slice A1 l1.length c1) l1) (h:sennitref06_Differing.f k l0 l1=some r) :
    Calls Tryz.prog 49 #[.slice A0 l0.length c0, .slice A1 l1.length c1] w fun e w' => ∃ v0_:Value,e = .returned (v0_)∧Kd.N (Kd.slice 9 Kd.string) 22 w' w.heap.size (fun k_=>(P1_ k_∨w.heap.size≤k_)) v0_ r∧Below w.heap.size w w':=by
 have HR0:=Aside0.mk hr0;have HC0:=Aside0.mk hc0;clear hr0 hc0;have HO1:=Aside0.mk (show Kd.V (Kd.slice 9 Kd.string) 22 w w.heap.size (fun k_=>(P1_ k_∨w.heap.size≤k_)) (.slice A1 l1.length c1) l1 from Kd.V_mono hs1 (fun k_ hk => .inl hk));have HB:=Aside0.mk (Below.refl w.heap.size w);have H:=h;(rw[sennitref06_Differing.f] at H);clear h;have H':=Aside0.mk H;clear H;go_enter Tryz.func49,Tryz.ntmps49;go_wp2;(repeat(go_quiet (fail);try go_wp2))
 go_loopg [5,6] k (fun kq v5 v6 w' => ∃ (x5_1:List (List ByteArray)) (x6_1:Int),v6 = .int .i64 x6_1∧Aside0 (sennitref06_Differing.l0 kq l0 l1 x5_1 x6_1=some r)∧Aside0 (kq≤k)∧Aside0 (Kd.V (Kd.slice 9 Kd.string) 22 w' w.heap.size (fun k_=>(P1_ k_∨w.heap.size≤k_)∧some k_≠(v5:Value).ownBlock) (.slice A1 l1.length c1) l1)∧Aside0 (Kd.N (Kd.slice 9 Kd.string) 22 w' w.heap.size (fun k_=>(P1_ k_∨w.heap.size≤k_)) v5 x5_1)∧Aside0 (Below w.heap.size w w'))
 (case atStart=>exact⟨(([]:List (List ByteArray))),(0),rs_,H',⟨Nat.le_refl _⟩,⟨Kd.V_mono (pV_ HO1.out) (fun _ hk=>⟨hk,(by simp[Value.ownBlock])⟩)⟩,⟨by first|exact Kd.S_nil _ _ _ _ _|exact Kd.N_nil _ _ _ _ _|exact Kd.V_nil _ _ _ _ _|exact Kd.Q_nil _ _ _ _ _|exact Kd.R_nil _ _ _ _ _⟩,⟨bel_⟩⟩)
 case round =>
  clear H';(try clear c1);(try clear p2);obtain⟨x5_1,x6_1,rfl,HA,HK1,HO_1,HO_5,HB⟩:=hrel
  cases gk with
  | zero=>exact absurd HA.out (by simp[sennitref06_Differing.l0])
  | succ k1 =>
   have H:=HA.out;clear HA;(simp only[sennitref06_Differing.l0] at H)
   by_cases c3:x6_1 < (l1.length:Int)
   ·
    (rw[if_pos c3] at H);have c3b0:decide (x6_1 < (l1.length:Int))=true:=decide_eq_true c3;clear c3
    by_cases c4:0≤x6_1
    ·
     (rw[if_pos c4] at H);have c4b0:decide (0≤x6_1)=true:=decide_eq_true c4;clear c4;replace H:=Option.bind_eq_some_iff.mp H;obtain⟨t221,A50,H⟩:=H;(try dsimp only at H);have A5:=Aside0.mk A50;clear A50;have H':=Aside0.mk H;clear H;have p220:0≤(x6_1:Int):=dt_;have q220:x6_1 < (l1.length:Int):=dt_;obtain⟨ad220,A220_0,c220_0,e220,hx220_0,hl220_0,hi220_0⟩:=at_L1 (Kd.V_reads' HO_1.out).2.2 x6_1 p220 q220;cases e220;obtain⟨ce220,hce220,hMe220,hcc220⟩:=Kd.V_get HO_1.out [] x6_1 p220 (by first|exact q220|exact dt_|(have e_:=(Kd.V_reads' HO_1.out).1;omega));obtain⟨ua220_0,uc220_0,rfl,ul220_0,ge220_0⟩:=Kd.FK_slice_open hMe220;have hv220_0:=hcc220 0 _ rfl;(rw[Nat.add_zero,show ((Kd.slice 9 Kd.string)).sz=1 from rfl,Nat.mul_one] at hv220_0);replace hv220_0:=Option.some.inj (hv220_0.symm.trans hx220_0);(injection hv220_0 with hva_ hvn_ hvc_);(rw[hva_] at ge220_0);(rw[hvc_] at ul220_0);have HL220_0:=Aside0.mk (show Kd.V Kd.string 9 _ w.heap.size _ _ (rd_L1 l1 x6_1) from Kd.V_mk ul220_0 ge220_0);clear hva_ hvn_ hvc_ ge220_0 ul220_0;clear hcc220 hce220;have HR220_0:=Aside0.mk hi220_0;have HC220_0:=Aside0.mk hl220_0;clear hi220_0 hl220_0;replace p220:=eq_true p220;replace q220:=eq_true q220;(go_wp2_with (first|(go_at_call 26;(with_reducible refine(sennitref01_Same.calls k1 _ _ (rd_L1 l1 x6_1) _ _ l0 t221 _ ?side1 ?side2 ?side3 ?side4 A5.out).mono ?_);(case side1=>exact pC_ HR220_0.out);(case side2=>exact HC220_0.out);(case side3=>repeat(first|exact(Kd.C_below HR0.out HB.out)|(with_reducible refine Kd.C_alloc ?_ _)|(with_reducible refine Kd.C_drewN ?_ _)|(with_reducible refine Kd.C_drew ?_)));(case side4=>exact HC0.out);rintro e w' ⟨rfl,⟨nd,rfl⟩⟩;(try first|exact⟨rfl,_,World.drewN_drewN _ _ _⟩|exact⟨rfl,_,Eq.trans (World.drewN_drewN _ _ _) (congrArg (World.drewN _) (Nat.add_assoc _ _ _))⟩))));(repeat(go_quiet (first|(go_at_call 26;(with_reducible refine(sennitref01_Same.calls k1 _ _ (rd_L1 l1 x6_1) _ _ l0 t221 _ ?side1 ?side2 ?side3 ?side4 A5.out).mono ?_);(case side1=>exact pC_ HR220_0.out);(case side2=>exact HC220_0.out);(case side3=>repeat(first|exact(Kd.C_below HR0.out HB.out)|(with_reducible refine Kd.C_alloc ?_ _)|(with_reducible refine Kd.C_drewN ?_ _)|(with_reducible refine Kd.C_drew ?_)));(case side4=>exact HC0.out);rintro e w' ⟨rfl,⟨nd,rfl⟩⟩;(try first|exact⟨rfl,_,World.drewN_drewN _ _ _⟩|exact⟨rfl,_,Eq.trans (World.drewN_drewN _ _ _) (congrArg (World.drewN _) (Nat.add_assoc _ _ _))⟩)));try go_wp2_with (first|(go_at_call 26;(with_reducible refine(sennitref01_Same.calls k1 _ _ (rd_L1 l1 x6_1) _ _ l0 t221 _ ?side1 ?side2 ?side3 ?side4 A5.out).mono ?_);(case side1=>exact pC_ HR220_0.out);(case side2=>exact HC220_0.out);(case side3=>repeat(first|exact(Kd.C_below HR0.out HB.out)|(with_reducible refine Kd.C_alloc ?_ _)|(with_reducible refine Kd.C_drewN ?_ _)|(with_reducible refine Kd.C_drew ?_)));(case side4=>exact HC0.out);rintro e w' ⟨rfl,⟨nd,rfl⟩⟩;(try first|exact⟨rfl,_,World.drewN_drewN _ _ _⟩|exact⟨rfl,_,Eq.trans (World.drewN_drewN _ _ _) (congrArg (World.drewN _) (Nat.add_assoc _ _ _))⟩)))))
     go_loopg [7,8] k1 (fun kq v7 v8 w' => ∃ (x7_2:Bool) (x8_2:Int),v7 = .bool x7_2∧v8 = .int .i64 x8_2∧Aside0 (sennitref06_Differing.l1 kq l0 l1 x5_1 x6_1 x7_2 x8_2=some r)∧Aside0 (kq≤k1)∧Aside0 (Kd.V (Kd.slice 9 Kd.string) 22 w' w.heap.size (fun k_=>(P1_ k_∨w.heap.size≤k_)∧some k_≠(u5:Value).ownBlock) (.slice (some ad220) l1.length c1) l1)∧Aside0 (Kd.N (Kd.slice 9 Kd.string) 22 w' w.heap.size (fun k_=>(P1_ k_∨w.heap.size≤k_)) u5 x5_1)∧Aside0 (Kd.C Kd.string w' A220_0 (rd_L1 l1 x6_1).length (rd_L1 l1 x6_1))∧Aside0 (Below w.heap.size w w'))
     (case atStart=>exact⟨(t221),(0),rs_,rs_,H',⟨Nat.le_refl _⟩,⟨pV_ HO_1.out⟩,⟨pN_ HO_5.out⟩,⟨by repeat(first|(with_reducible exact HR220_0.out)|(with_reducible refine Kd.C_alloc ?_ _)|(with_reducible refine Kd.C_drewN ?_ _)|(with_reducible refine Kd.C_drew ?_)|exact HR220_0.out)⟩,⟨bel_⟩⟩)
     case round =>
      clear H';(try clear c1);(try clear c2);(try clear p2);(try clear q2);(try clear hx2);(try clear c3);(try clear c3b0);(try clear c4);(try clear c4b0);(try clear hx220_0);(try clear p2);(try clear p220);(try clear q220);obtain⟨x7_2,x8_2,rfl,rfl,HA,HK2,HO_1,HO_5,HR220_0,HB⟩:=hrel
      cases gk with
      | zero=>exact absurd HA.out (by simp[sennitref06_Differing.l1])
      | succ k2 =>
       have H:=HA.out;clear HA;(simp only[sennitref06_Differing.l1] at H)
       by_cases c6:x8_2 < x6_1
       ·
        (rw[if_pos c6] at H);have c6b0:decide (x8_2 < x6_1)=true:=decide_eq_true c6;clear c6
        by_cases c7:x7_2=true
        ·
         subst c7;have H1:=H;(rw[if_pos rfl] at H1);clear H;have H:=H1;clear H1;have H':=Aside0.mk H;clear H;go_wp2;(repeat(go_quiet (fail);try go_wp2))
         go_roundg k2
         (case measure=>have:=HK1.out;have:=HK2.out;omega);(case rel=>exact⟨(true),(wrap64 (x8_2+1)),rs_,rs_,H',⟨by have:=HK1.out;have:=HK2.out;omega⟩,⟨pV_ HO_1.out⟩,⟨pN_ HO_5.out⟩,⟨by repeat(first|(with_reducible exact HR220_0.out)|(with_reducible refine Kd.C_alloc ?_ _)|(with_reducible refine Kd.C_drewN ?_ _)|(with_reducible refine Kd.C_drew ?_)|exact HR220_0.out)⟩,⟨bel_⟩⟩)
        ·
         replace c7:=Bool.eq_false_iff.mpr c7;subst c7;have H1:=H;(rw[if_neg (show ¬ (false=true) by decide)] at H1);clear H;have H:=H1;clear H1
         by_cases c8:0≤x6_1
         ·
          (rw[if_pos c8] at H);have c8b0:decide (0≤x6_1)=true:=decide_eq_true c8;clear c8
          by_cases c9:x6_1 < (l1.length:Int)
          ·
           (rw[if_pos c9] at H);have c9b0:decide (x6_1 < (l1.length:Int))=true:=decide_eq_true c9;clear c9
           by_cases c10:0≤x8_2
           ·
            (rw[if_pos c10] at H);have c10b0:decide (0≤x8_2)=true:=decide_eq_true c10;clear c10
            by_cases c11:x8_2 < (l1.length:Int)
            ·
             (rw[if_pos c11] at H);have c11b0:decide (x8_2 < (l1.length:Int))=true:=decide_eq_true c11;clear c11;replace H:=Option.bind_eq_some_iff.mp H;obtain⟨t224,A120,H⟩:=H;(try dsimp only at H);have A12:=Aside0.mk A120;clear A120;have H':=Aside0.mk H;clear H;have p222:0≤(x6_1:Int):=dt_;have q222:x6_1 < (l1.length:Int):=dt_;obtain⟨ad222,A222_0,c222_0,e222,hx222_0,hl222_0,hi222_0⟩:=at_L1 (Kd.V_reads' HO_1.out).2.2 x6_1 p222 q222;obtain rfl:ad220=ad222:=(by injection e222);obtain⟨ce222,hce222,hMe222,hcc222⟩:=Kd.V_get HO_1.out [] x6_1 p222 (by first|exact q222|exact dt_|(have e_:=(Kd.V_reads' HO_1.out).1;omega));obtain⟨ua222_0,uc222_0,rfl,ul222_0,ge222_0⟩:=Kd.FK_slice_open hMe222;have hv222_0:=hcc222 0 _ rfl;(rw[Nat.add_zero,show ((Kd.slice 9 Kd.string)).sz=1 from rfl,Nat.mul_one] at hv222_0);replace hv222_0:=Option.some.inj (hv222_0.symm.trans hx222_0);(injection hv222_0 with hva_ hvn_ hvc_);(rw[hva_] at ge222_0);(rw[hvc_] at ul222_0);have HL222_0:=Aside0.mk (show Kd.V Kd.string 9 _ w.heap.size _ _ (rd_L1 l1 x6_1) from Kd.V_mk ul222_0 ge222_0);clear hva_ hvn_ hvc_ ge222_0 ul222_0;clear hcc222 hce222;have HR222_0:=Aside0.mk hi222_0;have HC222_0:=Aside0.mk hl222_0;clear hi222_0 hl222_0;replace p222:=eq_true p222;replace q222:=eq_true q222;have p223:0≤(x8_2:Int):=dt_;have q223:x8_2 < (l1.length:Int):=dt_;obtain⟨ad223,A223_0,c223_0,e223,hx223_0,hl223_0,hi223_0⟩:=at_L1 (Kd.V_reads' HO_1.out).2.2 x8_2 p223 q223;obtain rfl:ad220=ad223:=(by injection e223);obtain⟨ce223,hce223,hMe223,hcc223⟩:=Kd.V_get HO_1.out [] x8_2 p223 (by first|exact q223|exact dt_|(have e_:=(Kd.V_reads' HO_1.out).1;omega));obtain⟨ua223_0,uc223_0,rfl,ul223_0,ge223_0⟩:=Kd.FK_slice_open hMe223;have hv223_0:=hcc223 0 _ rfl;(rw[Nat.add_zero,show ((Kd.slice 9 Kd.string)).sz=1 from rfl,Nat.mul_one] at hv223_0);replace hv223_0:=Option.some.inj (hv223_0.symm.trans hx223_0);(injection hv223_0 with hva_ hvn_ hvc_);(rw[hva_] at ge223_0);(rw[hvc_] at ul223_0);have HL223_0:=Aside0.mk (show Kd.V Kd.string 9 _ w.heap.size _ _ (rd_L1 l1 x8_2) from Kd.V_mk ul223_0 ge223_0);clear hva_ hvn_ hvc_ ge223_0 ul223_0;clear hcc223 hce223;have HR223_0:=Aside0.mk hi223_0;have HC223_0:=Aside0.mk hl223_0;clear hi223_0 hl223_0;replace p223:=eq_true p223;replace q223:=eq_true q223;(go_wp2_with (first|(go_at_call 26;(with_reducible refine(sennitref01_Same.calls k2 _ _ (rd_L1 l1 x6_1) _ _ (rd_L1 l1 x8_2) t224 _ ?side1 ?side2 ?side3 ?side4 A12.out).mono ?_);(case side1=>exact pC_ HR222_0.out);(case side2=>exact HC222_0.out);(case side3=>exact pC_ HR223_0.out);(case side4=>exact HC223_0.out);rintro e w' ⟨rfl,⟨nd,rfl⟩⟩;(try first|exact⟨rfl,_,World.drewN_drewN _ _ _⟩|exact⟨rfl,_,Eq.trans (World.drewN_drewN _ _ _) (congrArg (World.drewN _) (Nat.add_assoc _ _ _))⟩))))
             (repeat(go_quiet (first|(go_at_call 26;(with_reducible refine(sennitref01_Same.calls k2 _ _ (rd_L1 l1 x6_1) _ _ (rd_L1 l1 x8_2) t224 _ ?side1 ?side2 ?side3 ?side4 A12.out).mono ?_);(case side1=>exact pC_ HR222_0.out);(case side2=>exact HC222_0.out);(case side3=>exact pC_ HR223_0.out);(case side4=>exact HC223_0.out);rintro e w' ⟨rfl,⟨nd,rfl⟩⟩;(try first|exact⟨rfl,_,World.drewN_drewN _ _ _⟩|exact⟨rfl,_,Eq.trans (World.drewN_drewN _ _ _) (congrArg (World.drewN _) (Nat.add_assoc _ _ _))⟩)));try go_wp2_with (first|(go_at_call 26;(with_reducible refine(sennitref01_Same.calls k2 _ _ (rd_L1 l1 x6_1) _ _ (rd_L1 l1 x8_2) t224 _ ?side1 ?side2 ?side3 ?side4 A12.out).mono ?_);(case side1=>exact pC_ HR222_0.out);(case side2=>exact HC222_0.out);(case side3=>exact pC_ HR223_0.out);(case side4=>exact HC223_0.out);rintro e w' ⟨rfl,⟨nd,rfl⟩⟩;(try first|exact⟨rfl,_,World.drewN_drewN _ _ _⟩|exact⟨rfl,_,Eq.trans (World.drewN_drewN _ _ _) (congrArg (World.drewN _) (Nat.add_assoc _ _ _))⟩)))))
             go_roundg k2
             (case measure=>have:=HK1.out;have:=HK2.out;omega);(case rel=>exact⟨(t224),(wrap64 (x8_2+1)),rs_,rs_,H',⟨by have:=HK1.out;have:=HK2.out;omega⟩,⟨pV_ HO_1.out⟩,⟨pN_ HO_5.out⟩,⟨by repeat(first|(with_reducible exact HR220_0.out)|(with_reducible refine Kd.C_alloc ?_ _)|(with_reducible refine Kd.C_drewN ?_ _)|(with_reducible refine Kd.C_drew ?_)|exact HR220_0.out)⟩,⟨bel_⟩⟩)
            (· exact nx_ c11 H)
           (· exact nx_ c10 H)
          (· exact nx_ c9 H)
         (· exact nx_ c8 H)
       ·
        (rw[if_neg c6] at H);have c6b0:decide (x8_2 < x6_1)=false:=decide_eq_false c6;clear c6
        by_cases c13:x7_2=true
        ·
         subst c13;have H1:=H;(rw[if_pos rfl] at H1);clear H;have H:=H1;clear H1;have H':=Aside0.mk H;clear H;go_wp2;(repeat(go_quiet (fail);try go_wp2))
         go_roundg k2
         (case measure=>have:=HK1.out;have:=HK2.out;omega);(case rel=>exact⟨(x5_1),(wrap64 (x6_1+1)),rs_,H',⟨by have:=HK1.out;have:=HK2.out;omega⟩,⟨pV_ HO_1.out⟩,⟨pN_ HO_5.out⟩,⟨bel_⟩⟩)
        ·
         replace c13:=Bool.eq_false_iff.mpr c13;subst c13;have H1:=H;(rw[if_neg (show ¬ (false=true) by decide)] at H1);clear H;have H:=H1;clear H1
         by_cases c14:0≤x6_1
         ·
          (rw[if_pos c14] at H);have c14b0:decide (0≤x6_1)=true:=decide_eq_true c14;clear c14
          by_cases c15:x6_1 < (l1.length:Int)
          ·
           (rw[if_pos c15] at H);have c15b0:decide (x6_1 < (l1.length:Int))=true:=decide_eq_true c15;clear c15
           by_cases c16:x5_1.length < 5864062014805
           ·
            (rw[if_pos c16] at H);have LMc16:=Aside0.mk c16;clear c16;obtain⟨y226,hy226⟩ : ∃ y_:List (List ByteArray),y_=(x5_1 ++ [rd_L1 l1 x6_1]):=⟨_,rfl⟩;((try rw[Option.bind_some] at H);rw[← hy226] at H);have Ny226:=Aside0.mk hy226;clear hy226;have H':=Aside0.mk H;clear H;have p225:0≤(x6_1:Int):=dt_;have q225:x6_1 < (l1.length:Int):=dt_;obtain⟨ad225,A225_0,c225_0,e225,hx225_0,hl225_0,hi225_0⟩:=at_L1 (Kd.V_reads' HO_1.out).2.2 x6_1 p225 q225;obtain rfl:ad220=ad225:=(by injection e225);obtain⟨ce225,hce225,hMe225,hcc225⟩:=Kd.V_get HO_1.out [] x6_1 p225 (by first|exact q225|exact dt_|(have e_:=(Kd.V_reads' HO_1.out).1;omega));obtain⟨ua225_0,uc225_0,rfl,ul225_0,ge225_0⟩:=Kd.FK_slice_open hMe225;have hv225_0:=hcc225 0 _ rfl;(rw[Nat.add_zero,show ((Kd.slice 9 Kd.string)).sz=1 from rfl,Nat.mul_one] at hv225_0);replace hv225_0:=Option.some.inj (hv225_0.symm.trans hx225_0);(injection hv225_0 with hva_ hvn_ hvc_);(rw[hva_] at ge225_0);(rw[hvc_] at ul225_0);have HL225_0:=Aside0.mk (show Kd.V Kd.string 9 _ w.heap.size _ _ (rd_L1 l1 x6_1) from Kd.V_mk ul225_0 ge225_0);clear hva_ hvn_ hvc_ ge225_0 ul225_0;clear hcc225 hce225;have HR225_0:=Aside0.mk hi225_0;have HC225_0:=Aside0.mk hl225_0;clear hi225_0 hl225_0;replace p225:=eq_true p225;replace q225:=eq_true q225;(go_wp2_with (first|((with_reducible refine gate_builtin (b := .append) (xs:=#[.tmp 40, .tmp 45]) rfl ?_);at_builtin;refine Kd.N_append (Kd.slice 9 Kd.string) (w0:=w) w.heap.size rfl (.tmp 40) (.tmp 45) 23 22 (.slice none 0 0) 24 rfl Tryz.underlying23 info22 rfl (by decide) (by omega) u5 x5_1 (rd_L1 l1 x6_1) [.slice A225_0 (rd_L1 l1 x6_1).length c225_0] (fun k_=>(P1_ k_∨w.heap.size≤k_)) (fun k_=>((fun k_=>(P1_ k_∨w.heap.size≤k_))) k_∧some k_≠(u5:Value).ownBlock) rfl rfl ?aP (fun _ hk=>hk) ?aF ?aO ?aB ?aS ?aL ?_;(case aP=>exact(Kd.FK_slice_mk (Kd.V_reads' (Kd.V_mono (ok':=(fun k_=>((fun k_=>(P1_ k_∨w.heap.size≤k_))) k_∧some k_≠(u5:Value).ownBlock)) (HL225_0.out) (fun k_ hk=>⟨hk.1,hk.2⟩))).2.1 (Kd.V_F (Kd.V_mono (ok':=(fun k_=>((fun k_=>(P1_ k_∨w.heap.size≤k_))) k_∧some k_≠(u5:Value).ownBlock)) (HL225_0.out) (fun k_ hk=>⟨hk.1,hk.2⟩)))));(case aB=>exact bel_);(case aF=>exact(fun k_ hk=>(.inr (Nat.le_trans (below_size bel_) hk))));(case aO=>exact(pN_ HO_5.out));(case aS=>exact(below_size bel_));(case aL=>have:=LMc16.out;omega);intro v227 w17 ho hb hg hat;rw[← Ny226.out] at ho;replace HO_1:=Aside0.mk (Kd.V_afterv (ok:=(fun k_=>(P1_ k_∨w.heap.size≤k_))) (pV_ HO_1.out) hg hat);replace HL225_0:=Aside0.mk (Kd.V_afterv (ok:=(fun k_=>(P1_ k_∨w.heap.size≤k_))) (pV_ HL225_0.out) hg hat);replace HB:=Aside0.mk (hb);have HO228:=Aside0.mk (ho);clear HO_5;clear ho hb hg hat)))
            (repeat(go_quiet (first|((with_reducible refine gate_builtin (b := .append) (xs:=#[.tmp 40, .tmp 45]) rfl ?_);at_builtin;refine Kd.N_append (Kd.slice 9 Kd.string) (w0:=w) w.heap.size rfl (.tmp 40) (.tmp 45) 23 22 (.slice none 0 0) 24 rfl Tryz.underlying23 info22 rfl (by decide) (by omega) u5 x5_1 (rd_L1 l1 x6_1) [.slice A225_0 (rd_L1 l1 x6_1).length c225_0] (fun k_=>(P1_ k_∨w.heap.size≤k_)) (fun k_=>((fun k_=>(P1_ k_∨w.heap.size≤k_))) k_∧some k_≠(u5:Value).ownBlock) rfl rfl ?aP (fun _ hk=>hk) ?aF ?aO ?aB ?aS ?aL ?_;(case aP=>exact(Kd.FK_slice_mk (Kd.V_reads' (Kd.V_mono (ok':=(fun k_=>((fun k_=>(P1_ k_∨w.heap.size≤k_))) k_∧some k_≠(u5:Value).ownBlock)) (HL225_0.out) (fun k_ hk=>⟨hk.1,hk.2⟩))).2.1 (Kd.V_F (Kd.V_mono (ok':=(fun k_=>((fun k_=>(P1_ k_∨w.heap.size≤k_))) k_∧some k_≠(u5:Value).ownBlock)) (HL225_0.out) (fun k_ hk=>⟨hk.1,hk.2⟩)))));(case aB=>exact bel_);(case aF=>exact(fun k_ hk=>(.inr (Nat.le_trans (below_size bel_) hk))));(case aO=>exact(pN_ HO_5.out));(case aS=>exact(below_size bel_));(case aL=>have:=LMc16.out;omega);intro v227 w17 ho hb hg hat;rw[← Ny226.out] at ho;replace HO_1:=Aside0.mk (Kd.V_afterv (ok:=(fun k_=>(P1_ k_∨w.heap.size≤k_))) (pV_ HO_1.out) hg hat);replace HL225_0:=Aside0.mk (Kd.V_afterv (ok:=(fun k_=>(P1_ k_∨w.heap.size≤k_))) (pV_ HL225_0.out) hg hat);replace HB:=Aside0.mk (hb);have HO228:=Aside0.mk (ho);clear HO_5;clear ho hb hg hat));try go_wp2_with (first|((with_reducible refine gate_builtin (b := .append) (xs:=#[.tmp 40, .tmp 45]) rfl ?_);at_builtin;refine Kd.N_append (Kd.slice 9 Kd.string) (w0:=w) w.heap.size rfl (.tmp 40) (.tmp 45) 23 22 (.slice none 0 0) 24 rfl Tryz.underlying23 info22 rfl (by decide) (by omega) u5 x5_1 (rd_L1 l1 x6_1) [.slice A225_0 (rd_L1 l1 x6_1).length c225_0] (fun k_=>(P1_ k_∨w.heap.size≤k_)) (fun k_=>((fun k_=>(P1_ k_∨w.heap.size≤k_))) k_∧some k_≠(u5:Value).ownBlock) rfl rfl ?aP (fun _ hk=>hk) ?aF ?aO ?aB ?aS ?aL ?_;(case aP=>exact(Kd.FK_slice_mk (Kd.V_reads' (Kd.V_mono (ok':=(fun k_=>((fun k_=>(P1_ k_∨w.heap.size≤k_))) k_∧some k_≠(u5:Value).ownBlock)) (HL225_0.out) (fun k_ hk=>⟨hk.1,hk.2⟩))).2.1 (Kd.V_F (Kd.V_mono (ok':=(fun k_=>((fun k_=>(P1_ k_∨w.heap.size≤k_))) k_∧some k_≠(u5:Value).ownBlock)) (HL225_0.out) (fun k_ hk=>⟨hk.1,hk.2⟩)))));(case aB=>exact bel_);(case aF=>exact(fun k_ hk=>(.inr (Nat.le_trans (below_size bel_) hk))));(case aO=>exact(pN_ HO_5.out));(case aS=>exact(below_size bel_));(case aL=>have:=LMc16.out;omega);intro v227 w17 ho hb hg hat;rw[← Ny226.out] at ho;replace HO_1:=Aside0.mk (Kd.V_afterv (ok:=(fun k_=>(P1_ k_∨w.heap.size≤k_))) (pV_ HO_1.out) hg hat);replace HL225_0:=Aside0.mk (Kd.V_afterv (ok:=(fun k_=>(P1_ k_∨w.heap.size≤k_))) (pV_ HL225_0.out) hg hat);replace HB:=Aside0.mk (hb);have HO228:=Aside0.mk (ho);clear HO_5;clear ho hb hg hat))))
            go_roundg k2
            (case measure=>have:=HK1.out;have:=HK2.out;omega);(case rel=>exact⟨(y226),(wrap64 (x6_1+1)),rs_,H',⟨by have:=HK1.out;have:=HK2.out;omega⟩,⟨pV_ HO_1.out⟩,⟨pN_ HO228.out⟩,⟨bel_⟩⟩)
           (· exact nx_ c16 H)
          (· exact nx_ c15 H)
         (· exact nx_ c14 H)
    (· exact nx_ c4 H)
   (· (rw[if_neg c3] at H);have c3b0:decide (x6_1 < (l1.length:Int))=false:=decide_eq_false c3;clear c3;obtain rfl:=Option.some.inj H;go_wp2;(repeat(go_quiet (fail);try go_wp2));go_ret;exact⟨_,ew_,by(with_reducible repeat(first|apply Kd.N_alloc|apply Kd.N_drewN|apply Kd.N_drew));exact HO_5.out,bel_⟩)
def sennitref06_All.l0:Nat→List (List ByteArray)→List (List ByteArray)→Int→Option (Bool)
  | 0,_,_,_=>none
  | k+1,x0,x1,x5=>if x5 < (x0.length:Int) then (if 0≤x5 then (if x5 < (x1.length:Int) then ((sennitref01_Same.f k (rd_L1 x0 x5) (rd_L1 x1 x5)).bind fun t234=>(if t234=true then (sennitref06_All.l0 k x0 x1 (wrap64 (x5+1))) else (some false))) else (none)) else (none)) else (some true)
def sennitref06_All.f (k:Nat) (l0:List (List ByteArray)) (l1:List (List ByteArray)):Option (Bool):=if (l0.length:Int)=(l1.length:Int) then (sennitref06_All.l0 k l0 l1 0) else (some false)
theorem sennitref06_All.calls (k:Nat) (A0:Option Addr) (c0:Nat) (l0:List (List ByteArray)) (A1:Option Addr) (c1:Nat) (l1:List (List ByteArray)) (r:Bool) (w:World) (hr0:Kd.C (Kd.slice 9 Kd.string) w A0 l0.length l0) (hc0:l0.length≤c0) (hr1:Kd.C (Kd.slice 9 Kd.string) w A1 l1.length l1) (hc1:l1.length≤c1) (h:sennitref06_All.f k l0 l1=some r) :
    Calls Tryz.prog 47 #[.slice A0 l0.length c0, .slice A1 l1.length c1] w fun e w'=>e = .returned (.bool r)∧Drawn0 w w':=by
 have HR0:=Aside0.mk hr0;have HC0:=Aside0.mk hc0;clear hr0 hc0;have HR1:=Aside0.mk hr1;have HC1:=Aside0.mk hc1;clear hr1 hc1;have H:=h;(rw[sennitref06_All.f] at H);clear h
 by_cases c3:(l0.length:Int)=(l1.length:Int)
 ·
  (rw[if_pos c3] at H);have c3b0:((l0.length:Int) == (l1.length:Int))=true:=beq_iff_eq.mpr c3;have c3b1:((l0.length:Int) != (l1.length:Int))=false:=bne_eq_false_iff_eq.mpr c3;(have c3b2:(l0.length == l1.length)=true:=by first|simpa using c3|(simp at c3 ⊢;omega));clear c3;have H':=Aside0.mk H;clear H;go_enter Tryz.func47,Tryz.ntmps47;go_wp2;(repeat(go_quiet (fail);try go_wp2))
  go_loopg [5] k (fun kq v5 w' => ∃ (x5_1:Int),v5 = .int .i64 x5_1∧Aside0 (sennitref06_All.l0 kq l0 l1 x5_1=some r)∧Aside0 (kq≤k)∧Drawn0 w w')
  (case atStart=>exact⟨(0),rs_,H',⟨Nat.le_refl _⟩,d0_⟩)
  case round =>
   clear H';(try clear c1);(try clear p2);(try clear c3);(try clear c3b0);(try clear c3b1);(try clear c3b2);obtain⟨x5_1,rfl,HA,HK1,⟨m1,rfl⟩⟩:=hrel
   cases gk with
   | zero=>exact absurd HA.out (by simp[sennitref06_All.l0])
   | succ k1 =>
    have H:=HA.out;clear HA;(simp only[sennitref06_All.l0] at H)
    by_cases c4:x5_1 < (l0.length:Int)
    ·
     (rw[if_pos c4] at H);have c4b0:decide (x5_1 < (l0.length:Int))=true:=decide_eq_true c4;clear c4
     by_cases c5:0≤x5_1
     ·
      (rw[if_pos c5] at H);have c5b0:decide (0≤x5_1)=true:=decide_eq_true c5;clear c5
      by_cases c6:x5_1 < (l1.length:Int)
      ·
       (rw[if_pos c6] at H);have c6b0:decide (x5_1 < (l1.length:Int))=true:=decide_eq_true c6;clear c6;replace H:=Option.bind_eq_some_iff.mp H;obtain⟨t234,A70,H⟩:=H;(try dsimp only at H);have A7:=Aside0.mk A70;clear A70
       by_cases c8:t234=true
       ·
        subst c8;have H1:=H;(rw[if_pos rfl] at H1);clear H;have H:=H1;clear H1;have H':=Aside0.mk H;clear H;have p232:0≤(x5_1:Int):=dt_;have q232:x5_1 < (l0.length:Int):=dt_;obtain⟨ad232,A232_0,c232_0,e232,hx232_0,hl232_0,hi232_0⟩:=at_L1 HR0.out x5_1 p232 q232;cases e232;have HR232_0:=Aside0.mk hi232_0;have HC232_0:=Aside0.mk hl232_0;clear hi232_0 hl232_0;replace p232:=eq_true p232;replace q232:=eq_true q232;have p233:0≤(x5_1:Int):=dt_;have q233:x5_1 < (l1.length:Int):=dt_;obtain⟨ad233,A233_0,c233_0,e233,hx233_0,hl233_0,hi233_0⟩:=at_L1 HR1.out x5_1 p233 q233;cases e233;have HR233_0:=Aside0.mk hi233_0;have HC233_0:=Aside0.mk hl233_0;clear hi233_0 hl233_0;replace p233:=eq_true p233;replace q233:=eq_true q233;(go_wp2_with (first|(go_at_call 26;(with_reducible refine(sennitref01_Same.calls k1 _ _ (rd_L1 l0 x5_1) _ _ (rd_L1 l1 x5_1) true _ ?side1 ?side2 ?side3 ?side4 A7.out).mono ?_);(case side1=>exact pC_ HR232_0.out);(case side2=>exact HC232_0.out);(case side3=>exact pC_ HR233_0.out);(case side4=>exact HC233_0.out);rintro e w' ⟨rfl,⟨nd,rfl⟩⟩;(try first|exact⟨rfl,_,World.drewN_drewN _ _ _⟩|exact⟨rfl,_,Eq.trans (World.drewN_drewN _ _ _) (congrArg (World.drewN _) (Nat.add_assoc _ _ _))⟩))));(repeat(go_quiet (first|(go_at_call 26;(with_reducible refine(sennitref01_Same.calls k1 _ _ (rd_L1 l0 x5_1) _ _ (rd_L1 l1 x5_1) true _ ?side1 ?side2 ?side3 ?side4 A7.out).mono ?_);(case side1=>exact pC_ HR232_0.out);(case side2=>exact HC232_0.out);(case side3=>exact pC_ HR233_0.out);(case side4=>exact HC233_0.out);rintro e w' ⟨rfl,⟨nd,rfl⟩⟩;(try first|exact⟨rfl,_,World.drewN_drewN _ _ _⟩|exact⟨rfl,_,Eq.trans (World.drewN_drewN _ _ _) (congrArg (World.drewN _) (Nat.add_assoc _ _ _))⟩)));try go_wp2_with (first|(go_at_call 26;(with_reducible refine(sennitref01_Same.calls k1 _ _ (rd_L1 l0 x5_1) _ _ (rd_L1 l1 x5_1) true _ ?side1 ?side2 ?side3 ?side4 A7.out).mono ?_);(case side1=>exact pC_ HR232_0.out);(case side2=>exact HC232_0.out);(case side3=>exact pC_ HR233_0.out);(case side4=>exact HC233_0.out);rintro e w' ⟨rfl,⟨nd,rfl⟩⟩;(try first|exact⟨rfl,_,World.drewN_drewN _ _ _⟩|exact⟨rfl,_,Eq.trans (World.drewN_drewN _ _ _) (congrArg (World.drewN _) (Nat.add_assoc _ _ _))⟩)))))
        go_roundg k1
        (case measure=>have:=HK1.out;omega);(case rel=>exact⟨(wrap64 (x5_1+1)),rs_,H',⟨by have:=HK1.out;omega⟩,d0_⟩)
       (· replace c8:=Bool.eq_false_iff.mpr c8;subst c8;have H1:=H;(rw[if_neg (show ¬ (false=true) by decide)] at H1);clear H;have H:=H1;clear H1;obtain rfl:=Option.some.inj H;have p232:0≤(x5_1:Int):=dt_;have q232:x5_1 < (l0.length:Int):=dt_;obtain⟨ad232,A232_0,c232_0,e232,hx232_0,hl232_0,hi232_0⟩:=at_L1 HR0.out x5_1 p232 q232;cases e232;have HR232_0:=Aside0.mk hi232_0;have HC232_0:=Aside0.mk hl232_0;clear hi232_0 hl232_0;replace p232:=eq_true p232;replace q232:=eq_true q232;have p233:0≤(x5_1:Int):=dt_;have q233:x5_1 < (l1.length:Int):=dt_;obtain⟨ad233,A233_0,c233_0,e233,hx233_0,hl233_0,hi233_0⟩:=at_L1 HR1.out x5_1 p233 q233;cases e233;have HR233_0:=Aside0.mk hi233_0;have HC233_0:=Aside0.mk hl233_0;clear hi233_0 hl233_0;replace p233:=eq_true p233;replace q233:=eq_true q233;(go_wp2_with (first|(go_at_call 26;(with_reducible refine(sennitref01_Same.calls k1 _ _ (rd_L1 l0 x5_1) _ _ (rd_L1 l1 x5_1) false _ ?side1 ?side2 ?side3 ?side4 A7.out).mono ?_);(case side1=>exact pC_ HR232_0.out);(case side2=>exact HC232_0.out);(case side3=>exact pC_ HR233_0.out);(case side4=>exact HC233_0.out);rintro e w' ⟨rfl,⟨nd,rfl⟩⟩;(try first|exact⟨rfl,_,World.drewN_drewN _ _ _⟩|exact⟨rfl,_,Eq.trans (World.drewN_drewN _ _ _) (congrArg (World.drewN _) (Nat.add_assoc _ _ _))⟩))));(repeat(go_quiet (first|(go_at_call 26;(with_reducible refine(sennitref01_Same.calls k1 _ _ (rd_L1 l0 x5_1) _ _ (rd_L1 l1 x5_1) false _ ?side1 ?side2 ?side3 ?side4 A7.out).mono ?_);(case side1=>exact pC_ HR232_0.out);(case side2=>exact HC232_0.out);(case side3=>exact pC_ HR233_0.out);(case side4=>exact HC233_0.out);rintro e w' ⟨rfl,⟨nd,rfl⟩⟩;(try first|exact⟨rfl,_,World.drewN_drewN _ _ _⟩|exact⟨rfl,_,Eq.trans (World.drewN_drewN _ _ _) (congrArg (World.drewN _) (Nat.add_assoc _ _ _))⟩)));try go_wp2_with (first|(go_at_call 26;(with_reducible refine(sennitref01_Same.calls k1 _ _ (rd_L1 l0 x5_1) _ _ (rd_L1 l1 x5_1) false _ ?side1 ?side2 ?side3 ?side4 A7.out).mono ?_);(case side1=>exact pC_ HR232_0.out);(case side2=>exact HC232_0.out);(case side3=>exact pC_ HR233_0.out);(case side4=>exact HC233_0.out);rintro e w' ⟨rfl,⟨nd,rfl⟩⟩;(try first|exact⟨rfl,_,World.drewN_drewN _ _ _⟩|exact⟨rfl,_,Eq.trans (World.drewN_drewN _ _ _) (congrArg (World.drewN _) (Nat.add_assoc _ _ _))⟩)))));go_ret;exact⟨by first|rfl|(simp;done)|(simp[*];done),d0_⟩)
      (· exact nx_ c6 H)
     (· exact nx_ c5 H)
    (· (rw[if_neg c4] at H);have c4b0:decide (x5_1 < (l0.length:Int))=false:=decide_eq_false c4;clear c4;obtain rfl:=Option.some.inj H;go_wp2;(repeat(go_quiet (fail);try go_wp2));go_ret;exact⟨by first|rfl|(simp;done)|(simp[*];done),d0_⟩)
 (· (rw[if_neg c3] at H);have c3b0:((l0.length:Int) == (l1.length:Int))=false:=beq_eq_false_iff_ne.mpr c3;have c3b1:((l0.length:Int) != (l1.length:Int))=true:=bne_iff_ne.mpr c3;(have c3b2:(l0.length == l1.length)=false:=by first|simpa using c3|(simp at c3 ⊢;omega));obtain rfl:=Option.some.inj H;go_enter Tryz.func47,Tryz.ntmps47;go_wp2;(repeat(go_quiet (fail);try go_wp2));go_ret;exact⟨by first|rfl|(simp;done)|(simp[*];done),d0_⟩)
def sennitref01_Open.f (l0:List ByteArray):Option (Bool):=if (l0.length:Int)=0 then (some false) else (if 0≤(wrap64 ((l0.length:Int) - 1)) then (if (wrap64 ((l0.length:Int) - 1)) < (l0.length:Int) then (if ((rdOf ByteArray.empty l0 (wrap64 ((l0.length:Int) - 1))).size:Int)=0 then (some true) else (if 0≤(wrap64 (((rdOf ByteArray.empty l0 (wrap64 ((l0.length:Int) - 1))).size:Int) - 1)) then (if (wrap64 (((rdOf ByteArray.empty l0 (wrap64 ((l0.length:Int) - 1))).size:Int) - 1)) < ((rdOf ByteArray.empty l0 (wrap64 ((l0.length:Int) - 1))).size:Int) then (some ((bt (rdOf ByteArray.empty l0 (wrap64 ((l0.length:Int) - 1))) (wrap64 (((rdOf ByteArray.empty l0 (wrap64 ((l0.length:Int) - 1))).size:Int) - 1))) != 10)) else (none)) else (none))) else (none)) else (none))
theorem sennitref01_Open.calls (A0:Option Addr) (c0:Nat) (l0:List ByteArray) (r:Bool) (w:World) (hr0:Kd.C Kd.string w A0 l0.length l0) (hc0:l0.length≤c0) (h:sennitref01_Open.f l0=some r) :
    Calls Tryz.prog 106 #[.slice A0 l0.length c0] w fun e w'=>e = .returned (.bool r)∧Drawn0 w w':=by
 have HR0:=Aside0.mk hr0;have HC0:=Aside0.mk hc0;clear hr0 hc0;have H:=h;(rw[sennitref01_Open.f] at H);clear h
 by_cases c2:(l0.length:Int)=0
 (· (rw[if_pos c2] at H);have c2b0:((l0.length:Int) == 0)=true:=beq_iff_eq.mpr c2;have c2b1:((l0.length:Int) != 0)=false:=bne_eq_false_iff_eq.mpr c2;clear c2;obtain rfl:=Option.some.inj H;go_enter Tryz.func106,Tryz.ntmps106;go_wp2;go_ret;exact⟨by first|rfl|(simp;done)|(simp[*];done),d0_⟩)
 ·
  (rw[if_neg c2] at H);have c2b0:((l0.length:Int) == 0)=false:=beq_eq_false_iff_ne.mpr c2;have c2b1:((l0.length:Int) != 0)=true:=bne_iff_ne.mpr c2;(have c2b2 : ¬ (l0=[]):=fun h_=>c2 (by rw[h_];rfl));obtain⟨ji3,hji3⟩ : ∃ j_:Int,(wrap64 ((l0.length:Int) - 1))=j_:=⟨_,rfl⟩;(first|rw[hji3] at H|simp only[hji3] at H);have hji3w:(IntKind.i64.wrap ((l0.length:Int) - 1))=ji3:=(i64_w _).trans hji3
  by_cases c4:0≤(ji3)
  ·
   (rw[if_pos c4] at H);have c4b0:decide (0≤(ji3))=true:=decide_eq_true c4;clear c4
   by_cases c5:(ji3) < (l0.length:Int)
   ·
    (rw[if_pos c5] at H);have c5b0:decide ((ji3) < (l0.length:Int))=true:=decide_eq_true c5;clear c5
    by_cases c6:((rdOf ByteArray.empty l0 (ji3)).size:Int)=0
    (· (rw[if_pos c6] at H);have c6b0:(((rdOf ByteArray.empty l0 (ji3)).size:Int) == 0)=true:=beq_iff_eq.mpr c6;have c6b1:(((rdOf ByteArray.empty l0 (ji3)).size:Int) != 0)=false:=bne_eq_false_iff_eq.mpr c6;clear c6;obtain rfl:=Option.some.inj H;have p235:0≤((ji3):Int):=dt_;have q235:(ji3) < (l0.length:Int):=dt_;obtain⟨ad235,e235,hx235_0⟩:=Kd.at_string HR0.out (ji3) p235 q235;cases e235;replace p235:=eq_true p235;replace q235:=eq_true q235;go_enter Tryz.func106,Tryz.ntmps106;go_wp2;go_ret;exact⟨by first|rfl|(simp;done)|(simp only[← hji3] <;> (first|rfl|simp))|(simp[*];done),d0_⟩)
    ·
     (rw[if_neg c6] at H);have c6b0:(((rdOf ByteArray.empty l0 (ji3)).size:Int) == 0)=false:=beq_eq_false_iff_ne.mpr c6;have c6b1:(((rdOf ByteArray.empty l0 (ji3)).size:Int) != 0)=true:=bne_iff_ne.mpr c6;obtain⟨ji7,hji7⟩ : ∃ j_:Int,(wrap64 (((rdOf ByteArray.empty l0 (ji3)).size:Int) - 1))=j_:=⟨_,rfl⟩;(first|rw[hji7] at H|simp only[hji7] at H);have hji7w:(IntKind.i64.wrap (((rdOf ByteArray.empty l0 (ji3)).size:Int) - 1))=ji7:=(i64_w _).trans hji7
     by_cases c8:0≤(ji7)
     ·
      (rw[if_pos c8] at H);have c8b0:decide (0≤(ji7))=true:=decide_eq_true c8;clear c8
      by_cases c9:(ji7) < ((rdOf ByteArray.empty l0 (ji3)).size:Int)
      (· (rw[if_pos c9] at H);have c9b0:decide ((ji7) < ((rdOf ByteArray.empty l0 (ji3)).size:Int))=true:=decide_eq_true c9;clear c9;obtain rfl:=Option.some.inj H;have p235:0≤((ji3):Int):=dt_;have q235:(ji3) < (l0.length:Int):=dt_;obtain⟨ad235,e235,hx235_0⟩:=Kd.at_string HR0.out (ji3) p235 q235;cases e235;replace p235:=eq_true p235;replace q235:=eq_true q235;have p10:0≤((ji7):Int):=dt_;have q10:(ji7) < ((rdOf ByteArray.empty l0 (ji3)).size:Int):=dt_;have hx10:=bt_at (rdOf ByteArray.empty l0 (ji3)) (ji7);replace p10:=eq_true p10;replace q10:=eq_true q10;go_enter Tryz.func106,Tryz.ntmps106;go_wp2;go_ret;exact⟨by first|rfl|(simp;done)|(simp only[← hji3,← hji7] <;> (first|rfl|simp))|(simp[*];done),d0_⟩);(· exact nx_ c9 H)
     (· exact nx_ c8 H)
   (· exact nx_ c5 H)
  (· exact nx_ c4 H)
def sennitref02_Id.l0:Nat→List ByteArray→ByteArray→Int→Option (List ByteArray × Int)
  | 0,_,_,_=>none
  | k+1,x0,x1,x6=>if x6 < (x0.length:Int) then (if 0≤x6 then (if (rdOf ByteArray.empty x0 x6).toList=x1.toList then (some (x0,x6)) else (sennitref02_Id.l0 k x0 x1 (wrap64 (x6+1)))) else (none)) else ((some (([]:List ByteArray):List ByteArray)).bind fun y237=>(if y237.length+x0.length < 8796093022208 then ((some (y237 ++ x0:List ByteArray)).bind fun y240=>(if y240.length < 8796093022208 then (some ((y240 ++ [x1]),(x0.length:Int))) else (none))) else (none)))
def sennitref02_Id.f (k:Nat) (l0:List ByteArray) (a1:ByteArray):Option (List ByteArray × Int):=sennitref02_Id.l0 k l0 a1 0
theorem sennitref02_Id.calls (k:Nat) (P0_:Nat→Prop) (u9000_:Value) (l0:List ByteArray) (a1:ByteArray) (r1:List ByteArray) (r2:Int) (w0 w:World) (hB:Below w0.heap.size w0 w) (ho0:Kd.R Kd.string 9 w w0.heap.size P0_ u9000_ l0) (h:sennitref02_Id.f k l0 a1=some (r1,r2)) :
    Calls Tryz.prog 78 #[u9000_, .string a1] w fun e w' => ∃ v0_:Value,e = .returned (.tuple #[v0_, .int .i64 r2])∧Kd.R Kd.string 9 w' w0.heap.size (fun k_=>(P0_ k_∨w.heap.size≤k_)) v0_ r1∧Below w0.heap.size w0 w'∧Kept w w' (fun k_=>P0_ k_):=by
 have HO0:=Aside0.mk (show Kd.R Kd.string 9 w w0.heap.size (fun k_=>(P0_ k_∨w.heap.size≤k_)) u9000_ l0 from Kd.R_mono ho0 (fun k_ hk=>(.inl hk)));have HK:=Aside0.mk (Kept.refl w (fun k_=>P0_ k_));have HW0:=Aside0.mk hB.size;have HB:=Aside0.mk hB;clear hB;have H:=h;(rw[sennitref02_Id.f] at H);clear h;have H':=Aside0.mk H;clear H;go_enter Tryz.func78,Tryz.ntmps78;go_wp2
 go_loopg [6] k (fun kq v6 w' => ∃ (x6_1:Int),v6 = .int .i64 x6_1∧Aside0 (sennitref02_Id.l0 kq l0 a1 x6_1=some (r1,r2))∧Aside0 (kq≤k)∧Aside0 (Kd.R Kd.string 9 w' w0.heap.size (fun k_=>(P0_ k_∨w.heap.size≤k_)) u9000_ l0)∧Aside0 (Kept w w' (fun k_=>P0_ k_))∧Aside0 (Below w0.heap.size w0 w'))
 (case atStart=>exact⟨(0),rs_,H',⟨Nat.le_refl _⟩,⟨pR_ HO0.out⟩,⟨by repeat(first|(with_reducible first|exact HK.out|apply Kept.alloc|apply Kept.drewN|apply Kept.drew)|exact HK.out)⟩,⟨bel_⟩⟩)
 case round =>
  clear H';(try clear p2);obtain⟨x6_1,rfl,HA,HK1,HO_0,HK,HB⟩:=hrel
  cases gk with
  | zero=>exact absurd HA.out (by simp[sennitref02_Id.l0])
  | succ k1 =>
   have H:=HA.out;clear HA;(simp only[sennitref02_Id.l0] at H)
   by_cases c3:x6_1 < (l0.length:Int)
   ·
    (rw[if_pos c3] at H);have c3b0:decide (x6_1 < (l0.length:Int))=true:=decide_eq_true c3;clear c3
    by_cases c4:0≤x6_1
    ·
     (rw[if_pos c4] at H);have c4b0:decide (0≤x6_1)=true:=decide_eq_true c4;clear c4
     by_cases c5:(rdOf ByteArray.empty l0 x6_1).toList=a1.toList
     (· (rw[if_pos c5] at H);have c5b0:((rdOf ByteArray.empty l0 x6_1).toList == a1.toList)=true:=beq_iff_eq.mpr c5;have c5b1:((rdOf ByteArray.empty l0 x6_1).toList != a1.toList)=false:=bne_eq_false_iff_eq.mpr c5;clear c5;(simp only[Option.some.injEq,Prod.mk.injEq] at H);obtain⟨rfl,rfl⟩:=H;obtain⟨Ao6,co6,eo6⟩:=Kd.R_slice HO_0.out;subst eo6;have p236:0≤(x6_1:Int):=dt_;have q236:x6_1 < (l0.length:Int):=dt_;obtain⟨ad236,e236,hx236_0⟩:=Kd.at_string (Kd.R_reads' HO_0.out).2.2 x6_1 p236 q236;cases e236;replace p236:=eq_true p236;replace q236:=eq_true q236;go_wp2;go_ret2;exact⟨_,ew_,by(with_reducible repeat(first|apply Kd.R_alloc|apply Kd.R_drewN|apply Kd.R_drew));exact HO_0.out,bel_,by repeat(first|(with_reducible first|exact HK.out|apply Kept.alloc|apply Kept.drewN|apply Kept.drew)|exact HK.out)⟩)
     ·
      (rw[if_neg c5] at H);have c5b0:((rdOf ByteArray.empty l0 x6_1).toList == a1.toList)=false:=beq_eq_false_iff_ne.mpr c5;have c5b1:((rdOf ByteArray.empty l0 x6_1).toList != a1.toList)=true:=bne_iff_ne.mpr c5;have H':=Aside0.mk H;clear H;obtain⟨Ao7,co7,eo7⟩:=Kd.R_slice HO_0.out;subst eo7;have p236:0≤(x6_1:Int):=dt_;have q236:x6_1 < (l0.length:Int):=dt_;obtain⟨ad236,e236,hx236_0⟩:=Kd.at_string (Kd.R_reads' HO_0.out).2.2 x6_1 p236 q236;cases e236;replace p236:=eq_true p236;replace q236:=eq_true q236;go_wp2
      go_roundg k1
      (case measure=>have:=HK1.out;omega);(case rel=>exact⟨(wrap64 (x6_1+1)),rs_,H',⟨by have:=HK1.out;omega⟩,⟨pR_ HO_0.out⟩,⟨by repeat(first|(with_reducible first|exact HK.out|apply Kept.alloc|apply Kept.drewN|apply Kept.drew)|exact HK.out)⟩,⟨bel_⟩⟩)
    (· exact nx_ c4 H)
   ·
    (rw[if_neg c3] at H);have c3b0:decide (x6_1 < (l0.length:Int))=false:=decide_eq_false c3;clear c3;obtain⟨y237,hy237⟩ : ∃ y_:List ByteArray,y_=(([]:List ByteArray)):=⟨_,rfl⟩;(replace H:(if y237.length+l0.length < 8796093022208 then ((some (y237 ++ l0:List ByteArray)).bind fun y240=>(if y240.length < 8796093022208 then (some ((y240 ++ [a1]),(l0.length:Int))) else (none))) else (none))=some (r1,r2):=by first|(rw[hy237];with_reducible exact H)|(have H2_:=(Option.bind_some _ _).symm.trans H;rw[hy237];with_reducible exact H2_)|(have H2_:=(Option.bind_some _ _).symm.trans H;with_reducible exact H2_)|with_reducible exact H|(rw[hy237];exact H)|exact H);have Ny237:=Aside0.mk hy237;clear hy237
    by_cases c8:y237.length+l0.length < 8796093022208
    ·
     (rw[if_pos c8] at H);have LMc8:=Aside0.mk c8;clear c8;obtain⟨y240,hy240⟩ : ∃ y_:List ByteArray,y_=(y237 ++ l0):=⟨_,rfl⟩;(replace H:(if y240.length < 8796093022208 then (some ((y240 ++ [a1]),(l0.length:Int))) else (none))=some (r1,r2):=by first|(rw[hy240];with_reducible exact H)|(have H2_:=(Option.bind_some _ _).symm.trans H;rw[hy240];with_reducible exact H2_)|(have H2_:=(Option.bind_some _ _).symm.trans H;with_reducible exact H2_)|with_reducible exact H|(rw[hy240];exact H)|exact H);have Ny240:=Aside0.mk hy240;clear hy240
     by_cases c9:y240.length < 8796093022208
     (· (rw[if_pos c9] at H);have LMc9:=Aside0.mk c9;clear c9;obtain⟨y243,hy243⟩ : ∃ y_:List ByteArray,y_=(y240 ++ [a1]):=⟨_,rfl⟩;(replace H:(some (y243,(l0.length:Int)))=some (r1,r2):=by first|(rw[hy243];with_reducible exact H)|(have H2_:=(Option.bind_some _ _).symm.trans H;rw[hy243];with_reducible exact H2_)|(have H2_:=(Option.bind_some _ _).symm.trans H;with_reducible exact H2_)|with_reducible exact H|(rw[hy243];exact H)|exact H);have Ny243:=Aside0.mk hy243;clear hy243;(simp only[Option.some.injEq,Prod.mk.injEq] at H);obtain⟨rfl,rfl⟩:=H;obtain⟨Ao10,co10,eo10⟩:=Kd.R_slice HO_0.out;subst eo10;(go_wp2_with (first|((with_reducible refine gate_dst (N:=22) rfl ?_);refine Kd.R_lit Kd.string _ 9 ?hg (N:=22) ?hd (xs:=([]:List ByteArray)) (inner:=[]) (ok:=fun _=>True) (okp:=fun _=>True) ?hr ?hp (fun _ hk=>hk) trivial (Below.refl _ _) (Nat.le_refl _) (by simp) ?_;(case hd=>rfl);(case hg=>rfl);(case hr=>first|(go_simp;done)|(go_simp;rfl));(case hp=>exact(Reps.none _ _));intro v238 w11 ho12 hb hg_ hnew_;clear hg_ hnew_;(first|rw[← Ny237.out] at ho12|(simp only[Int.reduceToNat] at ho12;rw[← Ny237.out] at ho12));have HO239:=Aside0.mk (Kd.R_lower (Kd.R_new' (Kd.R_newM (M:=fun k_=>(P0_ k_∨w.heap.size≤k_)) ho12 (by first|exact HK.out.1|exact(show Kept w _ (fun k_=>P0_ k_) from by repeat(first|(with_reducible first|exact HK.out|apply Kept.alloc|apply Kept.drewN|apply Kept.drew)|exact HK.out)).1) (fun k_ h_ => .inr h_)) (Kd.R_lt (pR_ HO_0.out))) (below_size bel_));replace HO_0:=Aside0.mk (Kd.R_elder' (pR_ HO_0.out) (Kd.R_base ho12) hb);replace HK:=Aside0.mk (Kept.below (S:=(fun k_=>P0_ k_)) (by repeat(first|(with_reducible first|exact HK.out|apply Kept.alloc|apply Kept.drewN|apply Kept.drew)|exact HK.out)) hb);replace HB:=Aside0.mk (below_step bel_ hb);clear hb ho12)|((with_reducible refine gate_builtin (b := .append) (xs:=#[.tmp 22, .tmp 23]) rfl ?_);at_builtin;refine Kd.R_append_rows Kd.string (w0:=w0) w0.heap.size rfl (.tmp 22) (.tmp 23) 22 9 (.string ⟨#[]⟩) 16 rfl Tryz.underlying22 info9 rfl (by decide) (by omega) v238 y237 l0 _ _ _ (fun k_=>(P0_ k_∨w.heap.size≤k_)∧some k_≠(.slice Ao10 l0.length co10:Value).ownBlock) (fun _=>False) rfl rfl ?aO ?aR (fun _ _ h=>h) (fun _ h=>h.elim) ?aF ?aB ?aS ?aL ?_;(case aR=>repeat(first|exact(Kd.R_reads' HO_0.out).2.2|(with_reducible refine Kd.C_alloc ?_ _)|(with_reducible refine Kd.C_drewN ?_ _)|(with_reducible refine Kd.C_drew ?_)));(case aB=>exact bel_);(case aF=>exact(fun k_ hk=>⟨(.inr (Nat.le_trans (by first|exact HK.out.1|exact(show Kept w _ (fun k_=>P0_ k_) from by repeat(first|(with_reducible first|exact HK.out|apply Kept.alloc|apply Kept.drewN|apply Kept.drew)|exact HK.out)).1) hk)),Kd.fresh' (Kd.R_lt (pR_ HO_0.out)) k_ hk⟩));(case aO=>exact(Kd.R_mono (pRm_ HO239.out) (fun _ hk=>⟨hk.1.1,hk.2⟩)));(case aS=>exact(below_size bel_));(case aL=>have:=LMc8.out;omega);intro v241 w13 ho hb hg hat;rw[← Ny240.out] at ho;replace HO_0:=Aside0.mk (Kd.R_after (ok:=(fun k_=>(P0_ k_∨w.heap.size≤k_))) (pR_ HO_0.out) hg hat);replace HB:=Aside0.mk (hb);replace HK:=Aside0.mk (Kept.of_grown (S:=(fun k_=>P0_ k_)) hg (by repeat(first|(with_reducible first|exact HK.out|apply Kept.alloc|apply Kept.drewN|apply Kept.drew)|exact HK.out)) (fun k_ e_=>(HO239.out.1 k_ e_).1.1));have HO242:=Aside0.mk (ho);clear HO239;clear ho hb hg hat)|((with_reducible refine gate_builtin (b := .append) (xs:=#[.tmp 25, .tmp 27]) rfl ?_);at_builtin;refine Kd.R_append Kd.string (w0:=w0) w0.heap.size rfl (.tmp 25) (.tmp 27) 22 9 (.string ⟨#[]⟩) 16 rfl Tryz.underlying22 info9 rfl (by decide) (by omega) v241 y240 a1 [.string a1] (fun k_=>(P0_ k_∨w.heap.size≤k_)∧some k_≠(.slice Ao10 l0.length co10:Value).ownBlock) (fun _=>False) rfl rfl ?aP (fun _ hk=>hk.elim) ?aF ?aO ?aB ?aS ?aL ?_;(case aP=>exact rfl);(case aB=>exact bel_);(case aF=>exact(fun k_ hk=>⟨(.inr (Nat.le_trans (by first|exact HK.out.1|exact(show Kept w _ (fun k_=>P0_ k_) from by repeat(first|(with_reducible first|exact HK.out|apply Kept.alloc|apply Kept.drewN|apply Kept.drew)|exact HK.out)).1) hk)),Kd.fresh' (Kd.R_lt (pR_ HO_0.out)) k_ hk⟩));(case aO=>exact(pR_ HO242.out));(case aS=>exact(below_size bel_));(case aL=>have:=LMc9.out;omega);intro v244 w14 ho hb hg hat;rw[← Ny243.out] at ho;replace HO_0:=Aside0.mk (Kd.R_after (ok:=(fun k_=>(P0_ k_∨w.heap.size≤k_))) (pR_ HO_0.out) hg hat);replace HB:=Aside0.mk (hb);replace HK:=Aside0.mk (Kept.of_grown (S:=(fun k_=>P0_ k_)) hg (by repeat(first|(with_reducible first|exact HK.out|apply Kept.alloc|apply Kept.drewN|apply Kept.drew)|exact HK.out)) (fun k_ e_=>(HO242.out.1 k_ e_).1));have HO245:=Aside0.mk (ho);clear HO242;clear ho hb hg hat)));go_ret2;exact⟨_,ew_,Kd.R_mono (pRm_ HO245.out) (fun _ hk=>hk.1),bel_,by repeat(first|(with_reducible first|exact HK.out|apply Kept.alloc|apply Kept.drewN|apply Kept.drew)|exact HK.out)⟩)
     (· exact nx_ c9 H)
    (· exact nx_ c8 H)
mutual
def sennitref01_Few.l0:Nat→List ByteArray→Int→Int→Option (Bool)
  | 0,_,_,_=>none
  | k+1,x0,x1,x5=>if x5 < (x0.length:Int) then (sennitref01_Few.j1 k x0 x1 x5 (decide (x5≤x1))) else (sennitref01_Few.j1 k x0 x1 x5 false)
def sennitref01_Few.j1:Nat→List ByteArray→Int→Int→Bool→Option (Bool)
  | 0,_,_,_,_=>none
  | k+1,x0,x1,x5,x14=>if x14=true then (if 0≤x5 then (if x5 < (x0.length:Int) then (if ((rdOf ByteArray.empty x0 x5).size:Int) > 100 then (some false) else (sennitref01_Few.l0 k x0 x1 (wrap64 (x5+1)))) else (none)) else (none)) else (some (decide ((x0.length:Int)≤x1)))
end
def sennitref01_Few.f (k:Nat) (l0:List ByteArray) (a1:Int):Option (Bool):=sennitref01_Few.l0 k l0 a1 0
theorem sennitref01_Few.calls (k:Nat) (A0:Option Addr) (c0:Nat) (l0:List ByteArray) (a1:Int) (r:Bool) (w:World) (hr0:Kd.C Kd.string w A0 l0.length l0) (hc0:l0.length≤c0) (h:sennitref01_Few.f k l0 a1=some r) :
    Calls Tryz.prog 32 #[.slice A0 l0.length c0, .int .i64 a1] w fun e w'=>e = .returned (.bool r)∧Drawn0 w w':=by
 have HR0:=Aside0.mk hr0;have HC0:=Aside0.mk hc0;clear hr0 hc0;have H:=h;(rw[sennitref01_Few.f] at H);clear h;have H':=Aside0.mk H;clear H;go_enter Tryz.func32,Tryz.ntmps32;go_wp2
 go_loopg [5] k (fun kq v5 w' => ∃ (x5_1:Int),v5 = .int .i64 x5_1∧Aside0 (sennitref01_Few.l0 kq l0 a1 x5_1=some r)∧Aside0 (kq≤k)∧Drawn0 w w')
 (case atStart=>exact⟨(0),rs_,H',⟨Nat.le_refl _⟩,d0_⟩)
 case round =>
  clear H';(try clear p2);obtain⟨x5_1,rfl,HA,HK1,⟨m1,rfl⟩⟩:=hrel
  cases gk with
  | zero=>exact absurd HA.out (by simp[sennitref01_Few.l0])
  | succ k1 =>
   have H:=HA.out;clear HA;(simp only[sennitref01_Few.l0] at H);have HC3:=Aside0.mk H;clear H
   go_upto_region 2 with (fail)
   go_cut [14] (fun v14 wc => ∃ (kq:Nat) (x14_2:Bool),v14 = .bool x14_2∧Aside0 (sennitref01_Few.j1 kq l0 a1 x5_1 x14_2=some r)∧Aside0 (kq≤k1)∧Drawn0 w wc)
   case first =>
    have H:=HC3.out;clear HC3
    by_cases c4:x5_1 < (l0.length:Int)
    ·
     (rw[if_pos c4] at H);have c4b0:decide (x5_1 < (l0.length:Int))=true:=decide_eq_true c4;clear c4;(first|rw[c4b0]|(simp only[i64_w,i32_w];rw[c4b0])|skip);have H':=Aside0.mk H;clear H;go_wp2
     go_meet
     (case rel=>exact⟨_,(decide (x5_1≤a1)),rs_,H',⟨by have:=HK1.out;first|omega|exact Nat.le_refl _⟩,d0_⟩)
    ·
     (rw[if_neg c4] at H);have c4b0:decide (x5_1 < (l0.length:Int))=false:=decide_eq_false c4;clear c4;(first|rw[c4b0]|(simp only[i64_w,i32_w];rw[c4b0])|skip);have H':=Aside0.mk H;clear H;go_wp2
     go_meet
     (case rel=>exact⟨_,(false),rs_,H',⟨by have:=HK1.out;first|omega|exact Nat.le_refl _⟩,d0_⟩)
   case rest =>
    clear HC3;(try clear p2);(try clear c3);(try clear c4);(try clear c4b0);(try clear p2);obtain⟨kq,x14_2,rfl,HA,HJ2,⟨mc2,rfl⟩⟩:=hcut
    cases kq with
    | zero=>exact absurd HA.out (by simp[sennitref01_Few.j1])
    | succ kj2 =>
     have H:=HA.out;clear HA;(simp only[sennitref01_Few.j1] at H)
     by_cases c5:x14_2=true
     ·
      subst c5;have H1:=H;(rw[if_pos rfl] at H1);clear H;have H:=H1;clear H1
      by_cases c6:0≤x5_1
      ·
       (rw[if_pos c6] at H);have c6b0:decide (0≤x5_1)=true:=decide_eq_true c6;clear c6
       by_cases c7:x5_1 < (l0.length:Int)
       ·
        (rw[if_pos c7] at H);have c7b0:decide (x5_1 < (l0.length:Int))=true:=decide_eq_true c7;clear c7
        by_cases c8:((rdOf ByteArray.empty l0 x5_1).size:Int) > 100
        (· (rw[if_pos c8] at H);have c8b0:decide (100 < ((rdOf ByteArray.empty l0 x5_1).size:Int))=true:=decide_eq_true c8;have c8b1:decide (100 < (rdOf ByteArray.empty l0 x5_1).size)=true:=decide_eq_true (by omega);clear c8;obtain rfl:=Option.some.inj H;have p101:0≤(x5_1:Int):=dt_;have q101:x5_1 < (l0.length:Int):=dt_;obtain⟨ad101,e101,hx101_0⟩:=Kd.at_string HR0.out x5_1 p101 q101;cases e101;replace p101:=eq_true p101;replace q101:=eq_true q101;go_wp2;go_ret;exact⟨by first|rfl|(simp;done)|(simp[*];done),d0_⟩)
        ·
         (rw[if_neg c8] at H);have c8b0:decide (100 < ((rdOf ByteArray.empty l0 x5_1).size:Int))=false:=decide_eq_false c8;have c8b1:decide (100 < (rdOf ByteArray.empty l0 x5_1).size)=false:=decide_eq_false (by omega);clear c8;have H':=Aside0.mk H;clear H;have p101:0≤(x5_1:Int):=dt_;have q101:x5_1 < (l0.length:Int):=dt_;obtain⟨ad101,e101,hx101_0⟩:=Kd.at_string HR0.out x5_1 p101 q101;cases e101;replace p101:=eq_true p101;replace q101:=eq_true q101;go_wp2
         go_roundg kj2
         (case measure=>have:=HK1.out;have:=HJ2.out;omega);(case rel=>exact⟨(wrap64 (x5_1+1)),rs_,H',⟨by have:=HK1.out;have:=HJ2.out;omega⟩,d0_⟩)
       (· exact nx_ c7 H)
      (· exact nx_ c6 H)
     (· replace c5:=Bool.eq_false_iff.mpr c5;subst c5;have H1:=H;(rw[if_neg (show ¬ (false=true) by decide)] at H1);clear H;have H:=H1;clear H1;obtain rfl:=Option.some.inj H;go_wp2;go_ret;exact⟨by first|rfl|(simp;done)|(simp[*];done),d0_⟩)
mutual
def sennitref08_Few.l0:Nat→List ByteArray→List (List ByteArray)→Int→Option (Bool)
  | 0,_,_,_=>none
  | k+1,x0,x1,x5=>if x5 < (x1.length:Int) then (sennitref08_Few.j1 k x0 x1 x5 (decide (x5 < 7))) else (sennitref08_Few.j1 k x0 x1 x5 false)
def sennitref08_Few.j1:Nat→List ByteArray→List (List ByteArray)→Int→Bool→Option (Bool)
  | 0,_,_,_,_=>none
  | k+1,x0,x1,x5,x13=>if x13=true then (if 0≤x5 then (if x5 < (x1.length:Int) then ((sennitref01_Few.f k (rd_L1 x1 x5) 16).bind fun t103=>(if t103=true then (sennitref08_Few.l0 k x0 x1 (wrap64 (x5+1))) else (some false))) else (none)) else (none)) else ((sennitref01_Few.f k x0 16).bind fun t104=>(if t104=true then (some (decide ((x1.length:Int)≤6))) else (some false)))
end
def sennitref08_Few.f (k:Nat) (l0:List ByteArray) (l1:List (List ByteArray)):Option (Bool):=sennitref08_Few.l0 k l0 l1 0
theorem sennitref08_Few.calls (k:Nat) (A0:Option Addr) (c0:Nat) (l0:List ByteArray) (A1:Option Addr) (c1:Nat) (l1:List (List ByteArray)) (r:Bool) (w:World) (hr0:Kd.C Kd.string w A0 l0.length l0) (hc0:l0.length≤c0) (hr1:Kd.C (Kd.slice 9 Kd.string) w A1 l1.length l1) (hc1:l1.length≤c1) (h:sennitref08_Few.f k l0 l1=some r) :
    Calls Tryz.prog 14 #[.slice A0 l0.length c0, .slice A1 l1.length c1] w fun e w'=>e = .returned (.bool r)∧Drawn0 w w':=by
 have HR0:=Aside0.mk hr0;have HC0:=Aside0.mk hc0;clear hr0 hc0;have HR1:=Aside0.mk hr1;have HC1:=Aside0.mk hc1;clear hr1 hc1;have H:=h;(rw[sennitref08_Few.f] at H);clear h;have H':=Aside0.mk H;clear H;go_enter Tryz.func14,Tryz.ntmps14;go_wp2
 go_loopg [5] k (fun kq v5 w' => ∃ (x5_1:Int),v5 = .int .i64 x5_1∧Aside0 (sennitref08_Few.l0 kq l0 l1 x5_1=some r)∧Aside0 (kq≤k)∧Drawn0 w w')
 (case atStart=>exact⟨(0),rs_,H',⟨Nat.le_refl _⟩,d0_⟩)
 case round =>
  clear H';(try clear c1);(try clear p2);obtain⟨x5_1,rfl,HA,HK1,⟨m1,rfl⟩⟩:=hrel
  cases gk with
  | zero=>exact absurd HA.out (by simp[sennitref08_Few.l0])
  | succ k1 =>
   have H:=HA.out;clear HA;(simp only[sennitref08_Few.l0] at H);have HC3:=Aside0.mk H;clear H
   go_upto_region 2 with (fail)
   go_cut [13] (fun v13 wc => ∃ (kq:Nat) (x13_2:Bool),v13 = .bool x13_2∧Aside0 (sennitref08_Few.j1 kq l0 l1 x5_1 x13_2=some r)∧Aside0 (kq≤k1)∧Drawn0 w wc)
   case first =>
    have H:=HC3.out;clear HC3
    by_cases c4:x5_1 < (l1.length:Int)
    ·
     (rw[if_pos c4] at H);have c4b0:decide (x5_1 < (l1.length:Int))=true:=decide_eq_true c4;clear c4;(first|rw[c4b0]|(simp only[i64_w,i32_w];rw[c4b0])|skip);have H':=Aside0.mk H;clear H;go_wp2
     go_meet
     (case rel=>exact⟨_,(decide (x5_1 < 7)),rs_,H',⟨by have:=HK1.out;first|omega|exact Nat.le_refl _⟩,d0_⟩)
    ·
     (rw[if_neg c4] at H);have c4b0:decide (x5_1 < (l1.length:Int))=false:=decide_eq_false c4;clear c4;(first|rw[c4b0]|(simp only[i64_w,i32_w];rw[c4b0])|skip);have H':=Aside0.mk H;clear H;go_wp2
     go_meet
     (case rel=>exact⟨_,(false),rs_,H',⟨by have:=HK1.out;first|omega|exact Nat.le_refl _⟩,d0_⟩)
   case rest =>
    clear HC3;(try clear c1);(try clear p2);(try clear c4);(try clear c4b0);(try clear p2);obtain⟨kq,x13_2,rfl,HA,HJ2,⟨mc2,rfl⟩⟩:=hcut
    cases kq with
    | zero=>exact absurd HA.out (by simp[sennitref08_Few.j1])
    | succ kj2 =>
     have H:=HA.out;clear HA;(simp only[sennitref08_Few.j1] at H)
     by_cases c5:x13_2=true
     ·
      subst c5;have H1:=H;(rw[if_pos rfl] at H1);clear H;have H:=H1;clear H1
      by_cases c6:0≤x5_1
      ·
       (rw[if_pos c6] at H);have c6b0:decide (0≤x5_1)=true:=decide_eq_true c6;clear c6
       by_cases c7:x5_1 < (l1.length:Int)
       ·
        (rw[if_pos c7] at H);have c7b0:decide (x5_1 < (l1.length:Int))=true:=decide_eq_true c7;clear c7;replace H:=Option.bind_eq_some_iff.mp H;obtain⟨t103,A80,H⟩:=H;(try dsimp only at H);have A8:=Aside0.mk A80;clear A80
        by_cases c9:t103=true
        ·
         subst c9;have H1:=H;(rw[if_pos rfl] at H1);clear H;have H:=H1;clear H1;have H':=Aside0.mk H;clear H;have p102:0≤(x5_1:Int):=dt_;have q102:x5_1 < (l1.length:Int):=dt_;obtain⟨ad102,A102_0,c102_0,e102,hx102_0,hl102_0,hi102_0⟩:=at_L1 HR1.out x5_1 p102 q102;cases e102;have HR102_0:=Aside0.mk hi102_0;have HC102_0:=Aside0.mk hl102_0;clear hi102_0 hl102_0;replace p102:=eq_true p102;replace q102:=eq_true q102;(go_wp2_with (first|((with_reducible refine gate_callee (f:=32) rfl ?_);refine goesL_ (some 20) rfl rfl Tryz.func32 (by kernel_rfl) rfl #[.slice A102_0 (rd_L1 l1 x5_1).length c102_0, .int .i64 16] rfl am_ ?_;(with_reducible refine(sennitref01_Few.calls kj2 _ _ (rd_L1 l1 x5_1) 16 true _ ?side1 ?side2 A8.out).mono ?_);(case side1=>exact pC_ HR102_0.out);(case side2=>exact HC102_0.out);rintro e w' ⟨rfl,⟨nd,rfl⟩⟩;refine⟨_,rfl,?_⟩)))
         go_roundg kj2
         (case measure=>have:=HK1.out;have:=HJ2.out;omega);(case rel=>exact⟨(wrap64 (x5_1+1)),rs_,H',⟨by have:=HK1.out;have:=HJ2.out;omega⟩,d0_⟩)
        (· replace c9:=Bool.eq_false_iff.mpr c9;subst c9;have H1:=H;(rw[if_neg (show ¬ (false=true) by decide)] at H1);clear H;have H:=H1;clear H1;obtain rfl:=Option.some.inj H;have p102:0≤(x5_1:Int):=dt_;have q102:x5_1 < (l1.length:Int):=dt_;obtain⟨ad102,A102_0,c102_0,e102,hx102_0,hl102_0,hi102_0⟩:=at_L1 HR1.out x5_1 p102 q102;cases e102;have HR102_0:=Aside0.mk hi102_0;have HC102_0:=Aside0.mk hl102_0;clear hi102_0 hl102_0;replace p102:=eq_true p102;replace q102:=eq_true q102;(go_wp2_with (first|((with_reducible refine gate_callee (f:=32) rfl ?_);refine goesL_ (some 20) rfl rfl Tryz.func32 (by kernel_rfl) rfl #[.slice A102_0 (rd_L1 l1 x5_1).length c102_0, .int .i64 16] rfl am_ ?_;(with_reducible refine(sennitref01_Few.calls kj2 _ _ (rd_L1 l1 x5_1) 16 false _ ?side1 ?side2 A8.out).mono ?_);(case side1=>exact pC_ HR102_0.out);(case side2=>exact HC102_0.out);rintro e w' ⟨rfl,⟨nd,rfl⟩⟩;refine⟨_,rfl,?_⟩)));go_ret;exact⟨by first|rfl|(simp;done)|(simp[*];done),d0_⟩)
       (· exact nx_ c7 H)
      (· exact nx_ c6 H)
     ·
      replace c5:=Bool.eq_false_iff.mpr c5;subst c5;have H1:=H;(rw[if_neg (show ¬ (false=true) by decide)] at H1);clear H;have H:=H1;clear H1;replace H:=Option.bind_eq_some_iff.mp H;obtain⟨t104,A100,H⟩:=H;(try dsimp only at H);have A10:=Aside0.mk A100;clear A100
      by_cases c11:t104=true
      (· subst c11;have H1:=H;(rw[if_pos rfl] at H1);clear H;have H:=H1;clear H1;obtain rfl:=Option.some.inj H;(go_wp2_with (first|((with_reducible refine gate_callee (f:=32) rfl ?_);refine goesL_ (some 23) rfl rfl Tryz.func32 (by kernel_rfl) rfl #[.slice A0 l0.length c0, .int .i64 16] rfl am_ ?_;(with_reducible refine(sennitref01_Few.calls kj2 _ _ l0 16 true _ ?side1 ?side2 A10.out).mono ?_);(case side1=>exact pC_ HR0.out);(case side2=>exact HC0.out);rintro e w' ⟨rfl,⟨nd,rfl⟩⟩;refine⟨_,rfl,?_⟩)));go_ret;exact⟨by first|rfl|(simp;done)|(simp[*];done),d0_⟩);(· replace c11:=Bool.eq_false_iff.mpr c11;subst c11;have H1:=H;(rw[if_neg (show ¬ (false=true) by decide)] at H1);clear H;have H:=H1;clear H1;obtain rfl:=Option.some.inj H;(go_wp2_with (first|((with_reducible refine gate_callee (f:=32) rfl ?_);refine goesL_ (some 23) rfl rfl Tryz.func32 (by kernel_rfl) rfl #[.slice A0 l0.length c0, .int .i64 16] rfl am_ ?_;(with_reducible refine(sennitref01_Few.calls kj2 _ _ l0 16 false _ ?side1 ?side2 A10.out).mono ?_);(case side1=>exact pC_ HR0.out);(case side2=>exact HC0.out);rintro e w' ⟨rfl,⟨nd,rfl⟩⟩;refine⟨_,rfl,?_⟩)));go_ret;exact⟨by first|rfl|(simp;done)|(simp[*];done),d0_⟩)
def sennitref01_feeds.l0:Nat→ByteArray→Int→Int→Option (Int)
  | 0,_,_,_=>none
  | k+1,x0,x3,x4=>if x4 < (x0.size:Int) then (if 0≤x4 then (if (bt x0 x4)=10 then (sennitref01_feeds.l0 k x0 (wrap64 (x3+1)) (wrap64 (x4+1))) else (sennitref01_feeds.l0 k x0 x3 (wrap64 (x4+1)))) else (none)) else (some x3)
def sennitref01_feeds.f (k:Nat) (a0:ByteArray):Option (Int):=sennitref01_feeds.l0 k a0 0 0
theorem sennitref01_feeds.calls (k:Nat) (a0:ByteArray) (r:Int) (w:World) (h:sennitref01_feeds.f k a0=some r) :
    Calls Tryz.prog 54 #[.string a0] w fun e w'=>e = .returned (.int .i64 r)∧Drawn0 w w':=by
 have H:=h;(rw[sennitref01_feeds.f] at H);clear h;have H':=Aside0.mk H;clear H;go_enter Tryz.func54,Tryz.ntmps54;go_wp2
 go_loopg [3,4] k (fun kq v3 v4 w' => ∃ (x3_1:Int) (x4_1:Int),v3 = .int .i64 x3_1∧v4 = .int .i64 x4_1∧Aside0 (sennitref01_feeds.l0 kq a0 x3_1 x4_1=some r)∧Aside0 (kq≤k)∧Drawn0 w w')
 (case atStart=>exact⟨(0),(0),rs_,rs_,H',⟨Nat.le_refl _⟩,d0_⟩)
 case round =>
  clear H';obtain⟨x3_1,x4_1,rfl,rfl,HA,HK1,⟨m1,rfl⟩⟩:=hrel
  cases gk with
  | zero=>exact absurd HA.out (by simp[sennitref01_feeds.l0])
  | succ k1 =>
   have H:=HA.out;clear HA;(simp only[sennitref01_feeds.l0] at H)
   by_cases c2:x4_1 < (a0.size:Int)
   ·
    (rw[if_pos c2] at H);have c2b0:decide (x4_1 < (a0.size:Int))=true:=decide_eq_true c2;clear c2
    by_cases c3:0≤x4_1
    ·
     (rw[if_pos c3] at H);have c3b0:decide (0≤x4_1)=true:=decide_eq_true c3;clear c3
     by_cases c5:(bt a0 x4_1)=10
     ·
      (rw[if_pos c5] at H);have c5b0:((bt a0 x4_1) == 10)=true:=beq_iff_eq.mpr c5;have c5b1:((bt a0 x4_1) != 10)=false:=bne_eq_false_iff_eq.mpr c5;clear c5;have H':=Aside0.mk H;clear H;have p4:0≤(x4_1:Int):=dt_;have q4:x4_1 < (a0.size:Int):=dt_;have hx4:=bt_at a0 x4_1;replace p4:=eq_true p4;replace q4:=eq_true q4;go_wp2
      go_roundg k1
      (case measure=>have:=HK1.out;omega);(case rel=>exact⟨(wrap64 (x3_1+1)),(wrap64 (x4_1+1)),rs_,rs_,H',⟨by have:=HK1.out;omega⟩,d0_⟩)
     ·
      (rw[if_neg c5] at H);have c5b0:((bt a0 x4_1) == 10)=false:=beq_eq_false_iff_ne.mpr c5;have c5b1:((bt a0 x4_1) != 10)=true:=bne_iff_ne.mpr c5;have H':=Aside0.mk H;clear H;have p4:0≤(x4_1:Int):=dt_;have q4:x4_1 < (a0.size:Int):=dt_;have hx4:=bt_at a0 x4_1;replace p4:=eq_true p4;replace q4:=eq_true q4;go_wp2
      go_roundg k1
      (case measure=>have:=HK1.out;omega);(case rel=>exact⟨(x3_1),(wrap64 (x4_1+1)),rs_,rs_,H',⟨by have:=HK1.out;omega⟩,d0_⟩)
    (· exact nx_ c3 H)
   (· (rw[if_neg c2] at H);have c2b0:decide (x4_1 < (a0.size:Int))=false:=decide_eq_false c2;clear c2;obtain rfl:=Option.some.inj H;go_wp2;go_ret;exact⟨by first|rfl|(simp;done)|(simp[*];done),d0_⟩)
def sennitref01_Line.f (k:Nat) (a0:ByteArray):Option (Bool):=(sennitref01_feeds.f k a0).bind fun t105=>(if t105=1 then (if 0≤(wrap64 ((a0.size:Int) - 1)) then (if (wrap64 ((a0.size:Int) - 1)) < (a0.size:Int) then (some ((bt a0 (wrap64 ((a0.size:Int) - 1))) == 10)) else (none)) else (none)) else (some false))
theorem sennitref01_Line.calls (k:Nat) (a0:ByteArray) (r:Bool) (w:World) (h:sennitref01_Line.f k a0=some r) :
    Calls Tryz.prog 55 #[.string a0] w fun e w'=>e = .returned (.bool r)∧Drawn0 w w':=by
 have H:=h;(rw[sennitref01_Line.f] at H);clear h;replace H:=Option.bind_eq_some_iff.mp H;obtain⟨t105,A20,H⟩:=H;(try dsimp only at H);have A2:=Aside0.mk A20;clear A20
 by_cases c3:t105=1
 ·
  (rw[if_pos c3] at H);have c3b0:(t105 == 1)=true:=beq_iff_eq.mpr c3;have c3b1:(t105 != 1)=false:=bne_eq_false_iff_eq.mpr c3;clear c3;obtain⟨ji4,hji4⟩ : ∃ j_:Int,(wrap64 ((a0.size:Int) - 1))=j_:=⟨_,rfl⟩;(first|rw[hji4] at H|simp only[hji4] at H);(try rw[hji4] at A2);have hji4w:(IntKind.i64.wrap ((a0.size:Int) - 1))=ji4:=(i64_w _).trans hji4
  by_cases c5:0≤(ji4)
  ·
   (rw[if_pos c5] at H);have c5b0:decide (0≤(ji4))=true:=decide_eq_true c5;clear c5
   by_cases c6:(ji4) < (a0.size:Int)
   (· (rw[if_pos c6] at H);have c6b0:decide ((ji4) < (a0.size:Int))=true:=decide_eq_true c6;clear c6;obtain rfl:=Option.some.inj H;go_enter Tryz.func55,Tryz.ntmps55;(go_wp2_with (first|((with_reducible refine gate_callee (f:=54) rfl ?_);refine goesL_ (some 4) rfl rfl Tryz.func54 (by kernel_rfl) rfl #[.string a0] rfl am_ ?_;(with_reducible refine(sennitref01_feeds.calls k a0 t105 _ A2.out).mono ?_);rintro e w' ⟨rfl,⟨nd,rfl⟩⟩;refine⟨_,rfl,?_⟩;have p7:0≤((ji4):Int):=dt_;have q7:(ji4) < (a0.size:Int):=dt_;have hx7:=bt_at a0 (ji4);replace p7:=eq_true p7;replace q7:=eq_true q7)));go_ret;exact⟨by first|rfl|(simp;done)|(simp only[← hji4] <;> (first|rfl|simp))|(simp[*];done),d0_⟩);(· exact nx_ c6 H)
  (· exact nx_ c5 H)
 (· (rw[if_neg c3] at H);have c3b0:(t105 == 1)=false:=beq_eq_false_iff_ne.mpr c3;have c3b1:(t105 != 1)=true:=bne_iff_ne.mpr c3;obtain rfl:=Option.some.inj H;go_enter Tryz.func55,Tryz.ntmps55;(go_wp2_with (first|((with_reducible refine gate_callee (f:=54) rfl ?_);refine goesL_ (some 4) rfl rfl Tryz.func54 (by kernel_rfl) rfl #[.string a0] rfl am_ ?_;(with_reducible refine(sennitref01_feeds.calls k a0 t105 _ A2.out).mono ?_);rintro e w' ⟨rfl,⟨nd,rfl⟩⟩;refine⟨_,rfl,?_⟩)));go_ret;exact⟨by first|rfl|(simp;done)|(simp[*];done),d0_⟩)
def sennitref01_May.l0:Nat→List ByteArray→Int→Option (Bool)
  | 0,_,_=>none
  | k+1,x0,x3=>if x3 < (x0.length:Int) then (if x3=(wrap64 ((x0.length:Int) - 1)) then (if 0≤x3 then (if ((rdOf ByteArray.empty x0 x3).size:Int) > 0 then ((sennitref01_feeds.f k (rdOf ByteArray.empty x0 x3)).bind fun t108=>(if t108=0 then (sennitref01_May.l0 k x0 (wrap64 (x3+1))) else ((sennitref01_Line.f k (rdOf ByteArray.empty x0 x3)).bind fun t110=>(if t110=true then (sennitref01_May.l0 k x0 (wrap64 (x3+1))) else (some false))))) else ((sennitref01_Line.f k (rdOf ByteArray.empty x0 x3)).bind fun t112=>(if t112=true then (sennitref01_May.l0 k x0 (wrap64 (x3+1))) else (some false)))) else (none)) else (if 0≤x3 then ((sennitref01_Line.f k (rdOf ByteArray.empty x0 x3)).bind fun t114=>(if t114=true then (sennitref01_May.l0 k x0 (wrap64 (x3+1))) else (some false))) else (none))) else (some true)
def sennitref01_May.f (k:Nat) (l0:List ByteArray):Option (Bool):=sennitref01_May.l0 k l0 0
theorem sennitref01_May.calls (k:Nat) (A0:Option Addr) (c0:Nat) (l0:List ByteArray) (r:Bool) (w:World) (hr0:Kd.C Kd.string w A0 l0.length l0) (hc0:l0.length≤c0) (h:sennitref01_May.f k l0=some r) :
    Calls Tryz.prog 28 #[.slice A0 l0.length c0] w fun e w'=>e = .returned (.bool r)∧Drawn0 w w':=by
 have HR0:=Aside0.mk hr0;have HC0:=Aside0.mk hc0;clear hr0 hc0;have H:=h;(rw[sennitref01_May.f] at H);clear h;have H':=Aside0.mk H;clear H;go_enter Tryz.func28,Tryz.ntmps28;go_wp2
 go_loopg [3] k (fun kq v3 w' => ∃ (x3_1:Int),v3 = .int .i64 x3_1∧Aside0 (sennitref01_May.l0 kq l0 x3_1=some r)∧Aside0 (kq≤k)∧Drawn0 w w')
 (case atStart=>exact⟨(0),rs_,H',⟨Nat.le_refl _⟩,d0_⟩)
 case round =>
  clear H';obtain⟨x3_1,rfl,HA,HK1,⟨m1,rfl⟩⟩:=hrel
  cases gk with
  | zero=>exact absurd HA.out (by simp[sennitref01_May.l0])
  | succ k1 =>
   have H:=HA.out;clear HA;(simp only[sennitref01_May.l0] at H)
   by_cases c2:x3_1 < (l0.length:Int)
   ·
    (rw[if_pos c2] at H);have c2b0:decide (x3_1 < (l0.length:Int))=true:=decide_eq_true c2;clear c2
    by_cases c3:x3_1=(wrap64 ((l0.length:Int) - 1))
    ·
     (rw[if_pos c3] at H);have c3b0:(x3_1 == (wrap64 ((l0.length:Int) - 1)))=true:=beq_iff_eq.mpr c3;have c3b1:(x3_1 != (wrap64 ((l0.length:Int) - 1)))=false:=bne_eq_false_iff_eq.mpr c3;clear c3
     by_cases c4:0≤x3_1
     ·
      (rw[if_pos c4] at H);have c4b0:decide (0≤x3_1)=true:=decide_eq_true c4;clear c4
      by_cases c5:((rdOf ByteArray.empty l0 x3_1).size:Int) > 0
      ·
       (rw[if_pos c5] at H);have c5b0:decide (0 < ((rdOf ByteArray.empty l0 x3_1).size:Int))=true:=decide_eq_true c5;have c5b1:decide (0 < (rdOf ByteArray.empty l0 x3_1).size)=true:=decide_eq_true (by omega);clear c5;replace H:=Option.bind_eq_some_iff.mp H;obtain⟨t108,A60,H⟩:=H;(try dsimp only at H);have A6:=Aside0.mk A60;clear A60
       by_cases c7:t108=0
       ·
        (rw[if_pos c7] at H);have c7b0:(t108 == 0)=true:=beq_iff_eq.mpr c7;have c7b1:(t108 != 0)=false:=bne_eq_false_iff_eq.mpr c7;clear c7;have H':=Aside0.mk H;clear H;have p106:0≤(x3_1:Int):=dt_;have q106:x3_1 < (l0.length:Int):=dt_;obtain⟨ad106,e106,hx106_0⟩:=Kd.at_string HR0.out x3_1 p106 q106;cases e106;replace p106:=eq_true p106;replace q106:=eq_true q106;have p107:0≤(x3_1:Int):=dt_;have q107:x3_1 < (l0.length:Int):=dt_;obtain⟨ad107,e107,hx107_0⟩:=Kd.at_string HR0.out x3_1 p107 q107;obtain rfl:ad106=ad107:=(by injection e107);replace p107:=eq_true p107;replace q107:=eq_true q107;(go_wp2_with (first|(go_at_call 54;(with_reducible refine(sennitref01_feeds.calls k1 (rdOf ByteArray.empty l0 x3_1) t108 _ A6.out).mono ?_);rintro e w' ⟨rfl,⟨nd,rfl⟩⟩)))
        go_roundg k1
        (case measure=>have:=HK1.out;omega);(case rel=>exact⟨(wrap64 (x3_1+1)),rs_,H',⟨by have:=HK1.out;omega⟩,d0_⟩)
       ·
        (rw[if_neg c7] at H);have c7b0:(t108 == 0)=false:=beq_eq_false_iff_ne.mpr c7;have c7b1:(t108 != 0)=true:=bne_iff_ne.mpr c7;replace H:=Option.bind_eq_some_iff.mp H;obtain⟨t110,A80,H⟩:=H;(try dsimp only at H);have A8:=Aside0.mk A80;clear A80
        by_cases c9:t110=true
        ·
         subst c9;have H1:=H;(rw[if_pos rfl] at H1);clear H;have H:=H1;clear H1;have H':=Aside0.mk H;clear H;have p106:0≤(x3_1:Int):=dt_;have q106:x3_1 < (l0.length:Int):=dt_;obtain⟨ad106,e106,hx106_0⟩:=Kd.at_string HR0.out x3_1 p106 q106;cases e106;replace p106:=eq_true p106;replace q106:=eq_true q106;have p107:0≤(x3_1:Int):=dt_;have q107:x3_1 < (l0.length:Int):=dt_;obtain⟨ad107,e107,hx107_0⟩:=Kd.at_string HR0.out x3_1 p107 q107;obtain rfl:ad106=ad107:=(by injection e107);replace p107:=eq_true p107;replace q107:=eq_true q107;(go_wp2_with (first|(go_at_call 54;(with_reducible refine(sennitref01_feeds.calls k1 (rdOf ByteArray.empty l0 x3_1) t108 _ A6.out).mono ?_);rintro e w' ⟨rfl,⟨nd,rfl⟩⟩;have p109:0≤(x3_1:Int):=dt_;have q109:x3_1 < (l0.length:Int):=dt_;obtain⟨ad109,e109,hx109_0⟩:=Kd.at_string HR0.out x3_1 p109 q109;obtain rfl:ad106=ad109:=(by injection e109);replace p109:=eq_true p109;replace q109:=eq_true q109)|(go_at_call 55;(with_reducible refine(sennitref01_Line.calls k1 (rdOf ByteArray.empty l0 x3_1) true _ A8.out).mono ?_);rintro e w' ⟨rfl,⟨nd,rfl⟩⟩)))
         go_roundg k1
         (case measure=>have:=HK1.out;omega);(case rel=>exact⟨(wrap64 (x3_1+1)),rs_,H',⟨by have:=HK1.out;omega⟩,d0_⟩)
        (· replace c9:=Bool.eq_false_iff.mpr c9;subst c9;have H1:=H;(rw[if_neg (show ¬ (false=true) by decide)] at H1);clear H;have H:=H1;clear H1;obtain rfl:=Option.some.inj H;have p106:0≤(x3_1:Int):=dt_;have q106:x3_1 < (l0.length:Int):=dt_;obtain⟨ad106,e106,hx106_0⟩:=Kd.at_string HR0.out x3_1 p106 q106;cases e106;replace p106:=eq_true p106;replace q106:=eq_true q106;have p107:0≤(x3_1:Int):=dt_;have q107:x3_1 < (l0.length:Int):=dt_;obtain⟨ad107,e107,hx107_0⟩:=Kd.at_string HR0.out x3_1 p107 q107;obtain rfl:ad106=ad107:=(by injection e107);replace p107:=eq_true p107;replace q107:=eq_true q107;(go_wp2_with (first|(go_at_call 54;(with_reducible refine(sennitref01_feeds.calls k1 (rdOf ByteArray.empty l0 x3_1) t108 _ A6.out).mono ?_);rintro e w' ⟨rfl,⟨nd,rfl⟩⟩;have p109:0≤(x3_1:Int):=dt_;have q109:x3_1 < (l0.length:Int):=dt_;obtain⟨ad109,e109,hx109_0⟩:=Kd.at_string HR0.out x3_1 p109 q109;obtain rfl:ad106=ad109:=(by injection e109);replace p109:=eq_true p109;replace q109:=eq_true q109)|(go_at_call 55;(with_reducible refine(sennitref01_Line.calls k1 (rdOf ByteArray.empty l0 x3_1) false _ A8.out).mono ?_);rintro e w' ⟨rfl,⟨nd,rfl⟩⟩)));go_ret;exact⟨by first|rfl|(simp;done)|(simp[*];done),d0_⟩)
      ·
       (rw[if_neg c5] at H);have c5b0:decide (0 < ((rdOf ByteArray.empty l0 x3_1).size:Int))=false:=decide_eq_false c5;have c5b1:decide (0 < (rdOf ByteArray.empty l0 x3_1).size)=false:=decide_eq_false (by omega);clear c5;replace H:=Option.bind_eq_some_iff.mp H;obtain⟨t112,A100,H⟩:=H;(try dsimp only at H);have A10:=Aside0.mk A100;clear A100
       by_cases c11:t112=true
       ·
        subst c11;have H1:=H;(rw[if_pos rfl] at H1);clear H;have H:=H1;clear H1;have H':=Aside0.mk H;clear H;have p106:0≤(x3_1:Int):=dt_;have q106:x3_1 < (l0.length:Int):=dt_;obtain⟨ad106,e106,hx106_0⟩:=Kd.at_string HR0.out x3_1 p106 q106;cases e106;replace p106:=eq_true p106;replace q106:=eq_true q106;have p111:0≤(x3_1:Int):=dt_;have q111:x3_1 < (l0.length:Int):=dt_;obtain⟨ad111,e111,hx111_0⟩:=Kd.at_string HR0.out x3_1 p111 q111;obtain rfl:ad106=ad111:=(by injection e111);replace p111:=eq_true p111;replace q111:=eq_true q111;(go_wp2_with (first|(go_at_call 55;(with_reducible refine(sennitref01_Line.calls k1 (rdOf ByteArray.empty l0 x3_1) true _ A10.out).mono ?_);rintro e w' ⟨rfl,⟨nd,rfl⟩⟩)))
        go_roundg k1
        (case measure=>have:=HK1.out;omega);(case rel=>exact⟨(wrap64 (x3_1+1)),rs_,H',⟨by have:=HK1.out;omega⟩,d0_⟩)
       (· replace c11:=Bool.eq_false_iff.mpr c11;subst c11;have H1:=H;(rw[if_neg (show ¬ (false=true) by decide)] at H1);clear H;have H:=H1;clear H1;obtain rfl:=Option.some.inj H;have p106:0≤(x3_1:Int):=dt_;have q106:x3_1 < (l0.length:Int):=dt_;obtain⟨ad106,e106,hx106_0⟩:=Kd.at_string HR0.out x3_1 p106 q106;cases e106;replace p106:=eq_true p106;replace q106:=eq_true q106;have p111:0≤(x3_1:Int):=dt_;have q111:x3_1 < (l0.length:Int):=dt_;obtain⟨ad111,e111,hx111_0⟩:=Kd.at_string HR0.out x3_1 p111 q111;obtain rfl:ad106=ad111:=(by injection e111);replace p111:=eq_true p111;replace q111:=eq_true q111;(go_wp2_with (first|(go_at_call 55;(with_reducible refine(sennitref01_Line.calls k1 (rdOf ByteArray.empty l0 x3_1) false _ A10.out).mono ?_);rintro e w' ⟨rfl,⟨nd,rfl⟩⟩)));go_ret;exact⟨by first|rfl|(simp;done)|(simp[*];done),d0_⟩)
     (· exact nx_ c4 H)
    ·
     (rw[if_neg c3] at H);have c3b0:(x3_1 == (wrap64 ((l0.length:Int) - 1)))=false:=beq_eq_false_iff_ne.mpr c3;have c3b1:(x3_1 != (wrap64 ((l0.length:Int) - 1)))=true:=bne_iff_ne.mpr c3
     by_cases c12:0≤x3_1
     ·
      (rw[if_pos c12] at H);have c12b0:decide (0≤x3_1)=true:=decide_eq_true c12;clear c12;replace H:=Option.bind_eq_some_iff.mp H;obtain⟨t114,A130,H⟩:=H;(try dsimp only at H);have A13:=Aside0.mk A130;clear A130
      by_cases c14:t114=true
      ·
       subst c14;have H1:=H;(rw[if_pos rfl] at H1);clear H;have H:=H1;clear H1;have H':=Aside0.mk H;clear H;have p113:0≤(x3_1:Int):=dt_;have q113:x3_1 < (l0.length:Int):=dt_;obtain⟨ad113,e113,hx113_0⟩:=Kd.at_string HR0.out x3_1 p113 q113;cases e113;replace p113:=eq_true p113;replace q113:=eq_true q113;(go_wp2_with (first|(go_at_call 55;(with_reducible refine(sennitref01_Line.calls k1 (rdOf ByteArray.empty l0 x3_1) true _ A13.out).mono ?_);rintro e w' ⟨rfl,⟨nd,rfl⟩⟩)))
       go_roundg k1
       (case measure=>have:=HK1.out;omega);(case rel=>exact⟨(wrap64 (x3_1+1)),rs_,H',⟨by have:=HK1.out;omega⟩,d0_⟩)
      (· replace c14:=Bool.eq_false_iff.mpr c14;subst c14;have H1:=H;(rw[if_neg (show ¬ (false=true) by decide)] at H1);clear H;have H:=H1;clear H1;obtain rfl:=Option.some.inj H;have p113:0≤(x3_1:Int):=dt_;have q113:x3_1 < (l0.length:Int):=dt_;obtain⟨ad113,e113,hx113_0⟩:=Kd.at_string HR0.out x3_1 p113 q113;cases e113;replace p113:=eq_true p113;replace q113:=eq_true q113;(go_wp2_with (first|(go_at_call 55;(with_reducible refine(sennitref01_Line.calls k1 (rdOf ByteArray.empty l0 x3_1) false _ A13.out).mono ?_);rintro e w' ⟨rfl,⟨nd,rfl⟩⟩)));go_ret;exact⟨by first|rfl|(simp;done)|(simp[*];done),d0_⟩)
     (· exact nx_ c12 H)
   (· (rw[if_neg c2] at H);have c2b0:decide (x3_1 < (l0.length:Int))=false:=decide_eq_false c2;clear c2;obtain rfl:=Option.some.inj H;go_wp2;go_ret;exact⟨by first|rfl|(simp;done)|(simp[*];done),d0_⟩)
mutual
def sennitref08_wrong.j0:Nat→List ByteArray→List (List ByteArray)→Bool→Option (Int)
  | 0,_,_,_=>none
  | k+1,x0,x1,x15=>if x15=true then (some 1) else ((sennitref01_May.f k x0).bind fun t115=>(sennitref08_wrong.l0 k x1 t115 (decide ((x0.length:Int) > 2000)) 0))
def sennitref08_wrong.l0:Nat→List (List ByteArray)→Bool→Bool→Int→Option (Int)
  | 0,_,_,_,_=>none
  | k+1,x1,x5,x6,x7=>if x7 < (x1.length:Int) then (if x5=true then (if 0≤x7 then ((sennitref01_May.f k (rd_L1 x1 x7)).bind fun t117=>(if x6=true then (sennitref08_wrong.l0 k x1 t117 true (wrap64 (x7+1))) else (sennitref08_wrong.l0 k x1 t117 (decide (((rd_L1 x1 x7).length:Int) > 2000)) (wrap64 (x7+1))))) else (none)) else (if x6=true then (sennitref08_wrong.l0 k x1 false true (wrap64 (x7+1))) else (if 0≤x7 then (sennitref08_wrong.l0 k x1 false (decide (((rd_L1 x1 x7).length:Int) > 2000)) (wrap64 (x7+1))) else (none)))) else (if x5=true then (if x6=true then (some 4) else (some 0)) else (some 2))
end
def sennitref08_wrong.f (k:Nat) (l0:List ByteArray) (l1:List (List ByteArray)):Option (Int):=if (l1.length:Int)=0 then (sennitref08_wrong.j0 k l0 l1 true) else (sennitref08_wrong.j0 k l0 l1 (decide ((l1.length:Int) > 16)))
theorem sennitref08_wrong.calls (k:Nat) (A0:Option Addr) (c0:Nat) (l0:List ByteArray) (A1:Option Addr) (c1:Nat) (l1:List (List ByteArray)) (r:Int) (w:World) (hr0:Kd.C Kd.string w A0 l0.length l0) (hc0:l0.length≤c0) (hr1:Kd.C (Kd.slice 9 Kd.string) w A1 l1.length l1) (hc1:l1.length≤c1) (h:sennitref08_wrong.f k l0 l1=some r) :
    Calls Tryz.prog 39 #[.slice A0 l0.length c0, .slice A1 l1.length c1] w fun e w'=>e = .returned (.int .i64 r)∧Drawn0 w w':=by
 have HR0:=Aside0.mk hr0;have HC0:=Aside0.mk hc0;clear hr0 hc0;have HR1:=Aside0.mk hr1;have HC1:=Aside0.mk hc1;clear hr1 hc1;have H:=h;(rw[sennitref08_wrong.f] at H);clear h;have HC3:=Aside0.mk H;clear H;go_enter Tryz.func39,Tryz.ntmps39
 go_upto_region 1 with (fail)
 go_cut [15] (fun v15 wc => ∃ (kq:Nat) (x15_2:Bool),v15 = .bool x15_2∧Aside0 (sennitref08_wrong.j0 kq l0 l1 x15_2=some r)∧Aside0 (kq≤k)∧Drawn0 w wc)
 case first =>
  have H:=HC3.out;clear HC3
  by_cases c4:(l1.length:Int)=0
  ·
   (rw[if_pos c4] at H);have c4b0:((l1.length:Int) == 0)=true:=beq_iff_eq.mpr c4;have c4b1:((l1.length:Int) != 0)=false:=bne_eq_false_iff_eq.mpr c4;clear c4;(first|rw[c4b0]|(simp only[i64_w,i32_w];rw[c4b0])|skip);have H':=Aside0.mk H;clear H;go_wp2
   go_meet
   (case rel=>exact⟨_,(true),rs_,H',⟨by first|omega|exact Nat.le_refl _⟩,d0_⟩)
  ·
   (rw[if_neg c4] at H);have c4b0:((l1.length:Int) == 0)=false:=beq_eq_false_iff_ne.mpr c4;have c4b1:((l1.length:Int) != 0)=true:=bne_iff_ne.mpr c4;(have c4b2 : ¬ (l1=[]):=fun h_=>c4 (by rw[h_];rfl));(first|rw[c4b0]|(simp only[i64_w,i32_w];rw[c4b0])|skip);have H':=Aside0.mk H;clear H;go_wp2
   go_meet
   (case rel=>exact⟨_,(decide ((l1.length:Int) > 16)),rs_,H',⟨by first|omega|exact Nat.le_refl _⟩,d0_⟩)
 case rest =>
  clear HC3;(try clear c1);(try clear p2);(try clear c3);(try clear c4);(try clear c4b0);(try clear c4b1);(try clear c4b2);obtain⟨kq,x15_2,rfl,HA,HJ2,⟨mc2,rfl⟩⟩:=hcut
  cases kq with
  | zero=>exact absurd HA.out (by simp[sennitref08_wrong.j0])
  | succ kj2 =>
   have H:=HA.out;clear HA;(simp only[sennitref08_wrong.j0] at H)
   by_cases c5:x15_2=true
   (· subst c5;have H1:=H;(rw[if_pos rfl] at H1);clear H;have H:=H1;clear H1;obtain rfl:=Option.some.inj H;go_wp2;go_ret;exact⟨by first|rfl|(simp;done)|(simp[*];done),d0_⟩)
   ·
    replace c5:=Bool.eq_false_iff.mpr c5;subst c5;have H1:=H;(rw[if_neg (show ¬ (false=true) by decide)] at H1);clear H;have H:=H1;clear H1;replace H:=Option.bind_eq_some_iff.mp H;obtain⟨t115,A60,H⟩:=H;(try dsimp only at H);have A6:=Aside0.mk A60;clear A60;have H':=Aside0.mk H;clear H;(go_wp2_with (first|((with_reducible refine gate_callee (f:=28) rfl ?_);refine goesL_ (some 17) rfl rfl Tryz.func28 (by kernel_rfl) rfl #[.slice A0 l0.length c0] rfl am_ ?_;(with_reducible refine(sennitref01_May.calls kj2 _ _ l0 t115 _ ?side1 ?side2 A6.out).mono ?_);(case side1=>exact pC_ HR0.out);(case side2=>exact HC0.out);rintro e w' ⟨rfl,⟨nd,rfl⟩⟩;refine⟨_,rfl,?_⟩)))
    go_loopg [5,6,7] kj2 (fun kq v5 v6 v7 w' => ∃ (x5_2:Bool) (x6_2:Bool) (x7_2:Int),v5 = .bool x5_2∧v6 = .bool x6_2∧v7 = .int .i64 x7_2∧Aside0 (sennitref08_wrong.l0 kq l1 x5_2 x6_2 x7_2=some r)∧Aside0 (kq≤kj2)∧Drawn0 w w')
    (case atStart=>exact⟨(t115),(decide ((l0.length:Int) > 2000)),(0),rs_,rs_,rs_,H',⟨Nat.le_refl _⟩,d0_⟩)
    case round =>
     clear H';(try clear c1);(try clear c2);(try clear p2);(try clear c3);(try clear c4);(try clear c4b0);(try clear c4b1);(try clear c4b2);(try clear c5);(try clear p2);obtain⟨x5_2,x6_2,x7_2,rfl,rfl,rfl,HA,HK2,⟨m2,rfl⟩⟩:=hrel
     cases gk with
     | zero=>exact absurd HA.out (by simp[sennitref08_wrong.l0])
     | succ k2 =>
      have H:=HA.out;clear HA;(simp only[sennitref08_wrong.l0] at H)
      by_cases c7:x7_2 < (l1.length:Int)
      ·
       (rw[if_pos c7] at H);have c7b0:decide (x7_2 < (l1.length:Int))=true:=decide_eq_true c7;clear c7
       by_cases c8:x5_2=true
       ·
        subst c8;have H1:=H;(rw[if_pos rfl] at H1);clear H;have H:=H1;clear H1
        by_cases c9:0≤x7_2
        ·
         (rw[if_pos c9] at H);have c9b0:decide (0≤x7_2)=true:=decide_eq_true c9;clear c9;replace H:=Option.bind_eq_some_iff.mp H;obtain⟨t117,A100,H⟩:=H;(try dsimp only at H);have A10:=Aside0.mk A100;clear A100
         by_cases c11:x6_2=true
         ·
          subst c11;have H1:=H;(rw[if_pos rfl] at H1);clear H;have H:=H1;clear H1;have H':=Aside0.mk H;clear H;have p116:0≤(x7_2:Int):=dt_;have q116:x7_2 < (l1.length:Int):=dt_;obtain⟨ad116,A116_0,c116_0,e116,hx116_0,hl116_0,hi116_0⟩:=at_L1 HR1.out x7_2 p116 q116;cases e116;have HR116_0:=Aside0.mk hi116_0;have HC116_0:=Aside0.mk hl116_0;clear hi116_0 hl116_0;replace p116:=eq_true p116;replace q116:=eq_true q116;(go_wp2_with (first|(go_at_call 28;(with_reducible refine(sennitref01_May.calls k2 _ _ (rd_L1 l1 x7_2) t117 _ ?side1 ?side2 A10.out).mono ?_);(case side1=>exact pC_ HR116_0.out);(case side2=>exact HC116_0.out);rintro e w' ⟨rfl,⟨nd,rfl⟩⟩)))
          go_roundg k2
          (case measure=>have:=HJ2.out;have:=HK2.out;omega);(case rel=>exact⟨(t117),(true),(wrap64 (x7_2+1)),rs_,rs_,rs_,H',⟨by have:=HJ2.out;have:=HK2.out;omega⟩,d0_⟩)
         ·
          replace c11:=Bool.eq_false_iff.mpr c11;subst c11;have H1:=H;(rw[if_neg (show ¬ (false=true) by decide)] at H1);clear H;have H:=H1;clear H1;have H':=Aside0.mk H;clear H;have p116:0≤(x7_2:Int):=dt_;have q116:x7_2 < (l1.length:Int):=dt_;obtain⟨ad116,A116_0,c116_0,e116,hx116_0,hl116_0,hi116_0⟩:=at_L1 HR1.out x7_2 p116 q116;cases e116;have HR116_0:=Aside0.mk hi116_0;have HC116_0:=Aside0.mk hl116_0;clear hi116_0 hl116_0;replace p116:=eq_true p116;replace q116:=eq_true q116;(go_wp2_with (first|(go_at_call 28;(with_reducible refine(sennitref01_May.calls k2 _ _ (rd_L1 l1 x7_2) t117 _ ?side1 ?side2 A10.out).mono ?_);(case side1=>exact pC_ HR116_0.out);(case side2=>exact HC116_0.out);rintro e w' ⟨rfl,⟨nd,rfl⟩⟩;have p118:0≤(x7_2:Int):=dt_;have q118:x7_2 < (l1.length:Int):=dt_;obtain⟨ad118,A118_0,c118_0,e118,hx118_0,hl118_0,hi118_0⟩:=at_L1 HR1.out x7_2 p118 q118;obtain rfl:ad116=ad118:=(by injection e118);have HR118_0:=Aside0.mk hi118_0;have HC118_0:=Aside0.mk hl118_0;clear hi118_0 hl118_0;replace p118:=eq_true p118;replace q118:=eq_true q118;have ea_:=Option.some.inj (hx116_0.symm.trans hx118_0);injection ea_ with ea_ en_ ec_;subst ea_;subst ec_;clear en_)))
          go_roundg k2
          (case measure=>have:=HJ2.out;have:=HK2.out;omega);(case rel=>exact⟨(t117),(decide (((rd_L1 l1 x7_2).length:Int) > 2000)),(wrap64 (x7_2+1)),rs_,rs_,rs_,H',⟨by have:=HJ2.out;have:=HK2.out;omega⟩,d0_⟩)
        (· exact nx_ c9 H)
       ·
        replace c8:=Bool.eq_false_iff.mpr c8;subst c8;have H1:=H;(rw[if_neg (show ¬ (false=true) by decide)] at H1);clear H;have H:=H1;clear H1
        by_cases c12:x6_2=true
        ·
         subst c12;have H1:=H;(rw[if_pos rfl] at H1);clear H;have H:=H1;clear H1;have H':=Aside0.mk H;clear H;go_wp2
         go_roundg k2
         (case measure=>have:=HJ2.out;have:=HK2.out;omega);(case rel=>exact⟨(false),(true),(wrap64 (x7_2+1)),rs_,rs_,rs_,H',⟨by have:=HJ2.out;have:=HK2.out;omega⟩,d0_⟩)
        ·
         replace c12:=Bool.eq_false_iff.mpr c12;subst c12;have H1:=H;(rw[if_neg (show ¬ (false=true) by decide)] at H1);clear H;have H:=H1;clear H1
         by_cases c13:0≤x7_2
         ·
          (rw[if_pos c13] at H);have c13b0:decide (0≤x7_2)=true:=decide_eq_true c13;clear c13;have H':=Aside0.mk H;clear H;have p119:0≤(x7_2:Int):=dt_;have q119:x7_2 < (l1.length:Int):=dt_;obtain⟨ad119,A119_0,c119_0,e119,hx119_0,hl119_0,hi119_0⟩:=at_L1 HR1.out x7_2 p119 q119;cases e119;have HR119_0:=Aside0.mk hi119_0;have HC119_0:=Aside0.mk hl119_0;clear hi119_0 hl119_0;replace p119:=eq_true p119;replace q119:=eq_true q119;go_wp2
          go_roundg k2
          (case measure=>have:=HJ2.out;have:=HK2.out;omega);(case rel=>exact⟨(false),(decide (((rd_L1 l1 x7_2).length:Int) > 2000)),(wrap64 (x7_2+1)),rs_,rs_,rs_,H',⟨by have:=HJ2.out;have:=HK2.out;omega⟩,d0_⟩)
         (· exact nx_ c13 H)
      ·
       (rw[if_neg c7] at H);have c7b0:decide (x7_2 < (l1.length:Int))=false:=decide_eq_false c7;clear c7
       by_cases c14:x5_2=true
       ·
        subst c14;have H1:=H;(rw[if_pos rfl] at H1);clear H;have H:=H1;clear H1
        by_cases c15:x6_2=true
        (· subst c15;have H1:=H;(rw[if_pos rfl] at H1);clear H;have H:=H1;clear H1;obtain rfl:=Option.some.inj H;go_wp2;go_ret;exact⟨by first|rfl|(simp;done)|(simp[*];done),d0_⟩);(· replace c15:=Bool.eq_false_iff.mpr c15;subst c15;have H1:=H;(rw[if_neg (show ¬ (false=true) by decide)] at H1);clear H;have H:=H1;clear H1;obtain rfl:=Option.some.inj H;go_wp2;go_ret;exact⟨by first|rfl|(simp;done)|(simp[*];done),d0_⟩)
       (· replace c14:=Bool.eq_false_iff.mpr c14;subst c14;have H1:=H;(rw[if_neg (show ¬ (false=true) by decide)] at H1);clear H;have H:=H1;clear H1;obtain rfl:=Option.some.inj H;go_wp2;go_ret;exact⟨by first|rfl|(simp;done)|(simp[*];done),d0_⟩)
def sennitref04_May.l0:Nat→List Int→Int→Int→Int→Option (Bool)
  | 0,_,_,_,_=>none
  | k+1,x0,x1,x5,x6=>if x6 < (x0.length:Int) then (if 0≤x6 then (if (rd x0 x6)=(-1) then (sennitref04_May.l0 k x0 x1 x5 (wrap64 (x6+1))) else (if (rd x0 x6) < x5 then (some false) else (if (rd x0 x6) ≥ x1 then (some false) else (sennitref04_May.l0 k x0 x1 (wrap64 ((rd x0 x6)+1)) (wrap64 (x6+1)))))) else (none)) else (some true)
def sennitref04_May.f (k:Nat) (l0:List Int) (a1:Int):Option (Bool):=if a1 < 0 then (some false) else (sennitref04_May.l0 k l0 a1 0 0)
theorem sennitref04_May.calls (k:Nat) (A0:Option Addr) (c0:Nat) (l0:List Int) (a1:Int) (r:Bool) (w:World) (hr0:Kd.C (Kd.int .i64) w A0 l0.length l0) (hc0:l0.length≤c0) (h:sennitref04_May.f k l0 a1=some r) :
    Calls Tryz.prog 100 #[.slice A0 l0.length c0, .int .i64 a1] w fun e w'=>e = .returned (.bool r)∧Drawn0 w w':=by
 have HR0:=Aside0.mk hr0;have HC0:=Aside0.mk hc0;clear hr0 hc0;have H:=h;(rw[sennitref04_May.f] at H);clear h
 by_cases c3:a1 < 0
 (· (rw[if_pos c3] at H);have c3b0:decide (a1 < 0)=true:=decide_eq_true c3;clear c3;obtain rfl:=Option.some.inj H;go_enter Tryz.func100,Tryz.ntmps100;go_wp2;go_ret;exact⟨by first|rfl|(simp;done)|(simp[*];done),d0_⟩)
 ·
  (rw[if_neg c3] at H);have c3b0:decide (a1 < 0)=false:=decide_eq_false c3;clear c3;have H':=Aside0.mk H;clear H;go_enter Tryz.func100,Tryz.ntmps100;go_wp2
  go_loopg [5,6] k (fun kq v5 v6 w' => ∃ (x5_1:Int) (x6_1:Int),v5 = .int .i64 x5_1∧v6 = .int .i64 x6_1∧Aside0 (sennitref04_May.l0 kq l0 a1 x5_1 x6_1=some r)∧Aside0 (kq≤k)∧Drawn0 w w')
  (case atStart=>exact⟨(0),(0),rs_,rs_,H',⟨Nat.le_refl _⟩,d0_⟩)
  case round =>
   clear H';(try clear c1);(try clear p2);(try clear c3);(try clear c3b0);obtain⟨x5_1,x6_1,rfl,rfl,HA,HK1,⟨m1,rfl⟩⟩:=hrel
   cases gk with
   | zero=>exact absurd HA.out (by simp[sennitref04_May.l0])
   | succ k1 =>
    have H:=HA.out;clear HA;(simp only[sennitref04_May.l0] at H)
    by_cases c4:x6_1 < (l0.length:Int)
    ·
     (rw[if_pos c4] at H);have c4b0:decide (x6_1 < (l0.length:Int))=true:=decide_eq_true c4;clear c4
     by_cases c5:0≤x6_1
     ·
      (rw[if_pos c5] at H);have c5b0:decide (0≤x6_1)=true:=decide_eq_true c5;clear c5
      by_cases c6:(rd l0 x6_1)=(-1)
      ·
       (rw[if_pos c6] at H);have c6b0:((rd l0 x6_1) == (-1))=true:=beq_iff_eq.mpr c6;have c6b1:((rd l0 x6_1) != (-1))=false:=bne_eq_false_iff_eq.mpr c6;clear c6;have H':=Aside0.mk H;clear H;have p122:0≤(x6_1:Int):=dt_;have q122:x6_1 < (l0.length:Int):=dt_;obtain⟨ad122,e122,hx122_0⟩:=Kd.at_int HR0.out x6_1 p122 q122;cases e122;replace p122:=eq_true p122;replace q122:=eq_true q122;go_wp2
       go_roundg k1
       (case measure=>have:=HK1.out;omega);(case rel=>exact⟨(x5_1),(wrap64 (x6_1+1)),rs_,rs_,H',⟨by have:=HK1.out;omega⟩,d0_⟩)
      ·
       (rw[if_neg c6] at H);have c6b0:((rd l0 x6_1) == (-1))=false:=beq_eq_false_iff_ne.mpr c6;have c6b1:((rd l0 x6_1) != (-1))=true:=bne_iff_ne.mpr c6
       by_cases c7:(rd l0 x6_1) < x5_1
       (· (rw[if_pos c7] at H);have c7b0:decide ((rd l0 x6_1) < x5_1)=true:=decide_eq_true c7;clear c7;obtain rfl:=Option.some.inj H;have p122:0≤(x6_1:Int):=dt_;have q122:x6_1 < (l0.length:Int):=dt_;obtain⟨ad122,e122,hx122_0⟩:=Kd.at_int HR0.out x6_1 p122 q122;cases e122;replace p122:=eq_true p122;replace q122:=eq_true q122;have p123:0≤(x6_1:Int):=dt_;have q123:x6_1 < (l0.length:Int):=dt_;obtain⟨ad123,e123,hx123_0⟩:=Kd.at_int HR0.out x6_1 p123 q123;obtain rfl:ad122=ad123:=(by injection e123);replace p123:=eq_true p123;replace q123:=eq_true q123;go_wp2;go_ret;exact⟨by first|rfl|(simp;done)|(simp[*];done),d0_⟩)
       ·
        (rw[if_neg c7] at H);have c7b0:decide ((rd l0 x6_1) < x5_1)=false:=decide_eq_false c7;clear c7
        by_cases c8:(rd l0 x6_1) ≥ a1
        (· (rw[if_pos c8] at H);have c8b0:decide (a1≤(rd l0 x6_1))=true:=decide_eq_true c8;clear c8;obtain rfl:=Option.some.inj H;have p122:0≤(x6_1:Int):=dt_;have q122:x6_1 < (l0.length:Int):=dt_;obtain⟨ad122,e122,hx122_0⟩:=Kd.at_int HR0.out x6_1 p122 q122;cases e122;replace p122:=eq_true p122;replace q122:=eq_true q122;have p123:0≤(x6_1:Int):=dt_;have q123:x6_1 < (l0.length:Int):=dt_;obtain⟨ad123,e123,hx123_0⟩:=Kd.at_int HR0.out x6_1 p123 q123;obtain rfl:ad122=ad123:=(by injection e123);replace p123:=eq_true p123;replace q123:=eq_true q123;have p124:0≤(x6_1:Int):=dt_;have q124:x6_1 < (l0.length:Int):=dt_;obtain⟨ad124,e124,hx124_0⟩:=Kd.at_int HR0.out x6_1 p124 q124;obtain rfl:ad122=ad124:=(by injection e124);replace p124:=eq_true p124;replace q124:=eq_true q124;go_wp2;go_ret;exact⟨by first|rfl|(simp;done)|(simp[*];done),d0_⟩)
        ·
         (rw[if_neg c8] at H);have c8b0:decide (a1≤(rd l0 x6_1))=false:=decide_eq_false c8;clear c8;have H':=Aside0.mk H;clear H;have p122:0≤(x6_1:Int):=dt_;have q122:x6_1 < (l0.length:Int):=dt_;obtain⟨ad122,e122,hx122_0⟩:=Kd.at_int HR0.out x6_1 p122 q122;cases e122;replace p122:=eq_true p122;replace q122:=eq_true q122;have p123:0≤(x6_1:Int):=dt_;have q123:x6_1 < (l0.length:Int):=dt_;obtain⟨ad123,e123,hx123_0⟩:=Kd.at_int HR0.out x6_1 p123 q123;obtain rfl:ad122=ad123:=(by injection e123);replace p123:=eq_true p123;replace q123:=eq_true q123;have p124:0≤(x6_1:Int):=dt_;have q124:x6_1 < (l0.length:Int):=dt_;obtain⟨ad124,e124,hx124_0⟩:=Kd.at_int HR0.out x6_1 p124 q124;obtain rfl:ad122=ad124:=(by injection e124);replace p124:=eq_true p124;replace q124:=eq_true q124;have p125:0≤(x6_1:Int):=dt_;have q125:x6_1 < (l0.length:Int):=dt_;obtain⟨ad125,e125,hx125_0⟩:=Kd.at_int HR0.out x6_1 p125 q125;obtain rfl:ad122=ad125:=(by injection e125);replace p125:=eq_true p125;replace q125:=eq_true q125;go_wp2
         go_roundg k1
         (case measure=>have:=HK1.out;omega);(case rel=>exact⟨(wrap64 ((rd l0 x6_1)+1)),(wrap64 (x6_1+1)),rs_,rs_,H',⟨by have:=HK1.out;omega⟩,d0_⟩)
     (· exact nx_ c5 H)
    (· (rw[if_neg c4] at H);have c4b0:decide (x6_1 < (l0.length:Int))=false:=decide_eq_false c4;clear c4;obtain rfl:=Option.some.inj H;go_wp2;go_ret;exact⟨by first|rfl|(simp;done)|(simp[*];done),d0_⟩)
mutual
def sennitref05_may.j0:Nat→Int→List Int→List (List Int)→Bool→Option (Bool)
  | 0,_,_,_,_=>none
  | k+1,x0,x1,x2,x22=>if x22=true then (some false) else (sennitref05_may.l0 k x0 x1 x2 0)
def sennitref05_may.l0:Nat→Int→List Int→List (List Int)→Int→Option (Bool)
  | 0,_,_,_,_=>none
  | k+1,x0,x1,x2,x7=>if x7 < (x2.length:Int) then (if 0≤x7 then (if ((rd_L16 x2 x7).length:Int)=x0 then (if x7 < (x1.length:Int) then ((sennitref04_May.f k (rd_L16 x2 x7) (rd x1 x7)).bind fun t129=>(if t129=true then (sennitref05_may.l0 k x0 x1 x2 (wrap64 (x7+1))) else (some false))) else (none)) else (some false)) else (none)) else (some true)
end
def sennitref05_may.f (k:Nat) (a0:Int) (l1:List Int) (l2:List (List Int)):Option (Bool):=if (l2.length:Int)=0 then (sennitref05_may.j0 k a0 l1 l2 true) else (if (l2.length:Int) > 16 then (sennitref05_may.j0 k a0 l1 l2 true) else (sennitref05_may.j0 k a0 l1 l2 ((l1.length:Int) != (l2.length:Int))))
theorem sennitref05_may.calls (k:Nat) (a0:Int) (A1:Option Addr) (c1:Nat) (l1:List Int) (A2:Option Addr) (c2:Nat) (l2:List (List Int)) (r:Bool) (w:World) (hr1:Kd.C (Kd.int .i64) w A1 l1.length l1) (hc1:l1.length≤c1) (hr2:Kd.C (Kd.slice 3 (Kd.int .i64)) w A2 l2.length l2) (hc2:l2.length≤c2) (h:sennitref05_may.f k a0 l1 l2=some r) :
    Calls Tryz.prog 80 #[.int .i64 a0, .slice A1 l1.length c1, .slice A2 l2.length c2] w fun e w'=>e = .returned (.bool r)∧Drawn0 w w':=by
 have HR1:=Aside0.mk hr1;have HC1:=Aside0.mk hc1;clear hr1 hc1;have HR2:=Aside0.mk hr2;have HC2:=Aside0.mk hc2;clear hr2 hc2;have H:=h;(rw[sennitref05_may.f] at H);clear h;have HC4:=Aside0.mk H;clear H;go_enter Tryz.func80,Tryz.ntmps80
 go_upto_region 1 with (fail)
 (repeat(go_quiet (fail);go_upto_region 1 with (fail)))
 go_cut [22] (fun v22 wc => ∃ (kq:Nat) (x22_3:Bool),v22 = .bool x22_3∧Aside0 (sennitref05_may.j0 kq a0 l1 l2 x22_3=some r)∧Aside0 (kq≤k)∧Drawn0 w wc)
 case first =>
  have H:=HC4.out;clear HC4
  by_cases c5:(l2.length:Int)=0
  ·
   (rw[if_pos c5] at H);have c5b0:((l2.length:Int) == 0)=true:=beq_iff_eq.mpr c5;have c5b1:((l2.length:Int) != 0)=false:=bne_eq_false_iff_eq.mpr c5;clear c5;(first|rw[c5b0]|(simp only[i64_w,i32_w];rw[c5b0])|skip);have H':=Aside0.mk H;clear H;go_wp2;(repeat(go_quiet (fail);try go_wp2))
   go_meet
   (case rel=>exact⟨_,(true),rs_,H',⟨by first|omega|exact Nat.le_refl _⟩,d0_⟩)
  ·
   (rw[if_neg c5] at H);have c5b0:((l2.length:Int) == 0)=false:=beq_eq_false_iff_ne.mpr c5;have c5b1:((l2.length:Int) != 0)=true:=bne_iff_ne.mpr c5;(have c5b2 : ¬ (l2=[]):=fun h_=>c5 (by rw[h_];rfl));(first|rw[c5b0]|(simp only[i64_w,i32_w];rw[c5b0])|skip)
   by_cases c6:(l2.length:Int) > 16
   ·
    (rw[if_pos c6] at H);have c6b0:decide (16 < (l2.length:Int))=true:=decide_eq_true c6;have c6b1:decide (16 < l2.length)=true:=decide_eq_true (by omega);clear c6;have H':=Aside0.mk H;clear H;go_wp2;(repeat(go_quiet (fail);try go_wp2))
    go_meet
    (case rel=>exact⟨_,(true),rs_,H',⟨by first|omega|exact Nat.le_refl _⟩,d0_⟩)
   ·
    (rw[if_neg c6] at H);have c6b0:decide (16 < (l2.length:Int))=false:=decide_eq_false c6;have c6b1:decide (16 < l2.length)=false:=decide_eq_false (by omega);clear c6;have H':=Aside0.mk H;clear H;go_wp2;(repeat(go_quiet (fail);try go_wp2))
    go_meet
    (case rel=>exact⟨_,(((l1.length:Int) != (l2.length:Int))),rs_,H',⟨by first|omega|exact Nat.le_refl _⟩,d0_⟩)
 case rest =>
  clear HC4;(try clear c1);(try clear c2);(try clear p2);(try clear c5);(try clear c5b0);(try clear c5b1);(try clear c5b2);(try clear c6);(try clear c6b0);(try clear c6b1);obtain⟨kq,x22_3,rfl,HA,HJ3,⟨mc3,rfl⟩⟩:=hcut
  cases kq with
  | zero=>exact absurd HA.out (by simp[sennitref05_may.j0])
  | succ kj3 =>
   have H:=HA.out;clear HA;(simp only[sennitref05_may.j0] at H)
   by_cases c7:x22_3=true
   (· subst c7;have H1:=H;(rw[if_pos rfl] at H1);clear H;have H:=H1;clear H1;obtain rfl:=Option.some.inj H;go_wp2;(repeat(go_quiet (fail);try go_wp2));go_ret;exact⟨by first|rfl|(simp;done)|(simp[*];done),d0_⟩)
   ·
    replace c7:=Bool.eq_false_iff.mpr c7;subst c7;have H1:=H;(rw[if_neg (show ¬ (false=true) by decide)] at H1);clear H;have H:=H1;clear H1;have H':=Aside0.mk H;clear H;go_wp2;(repeat(go_quiet (fail);try go_wp2))
    go_loopg [7] kj3 (fun kq v7 w' => ∃ (x7_2:Int),v7 = .int .i64 x7_2∧Aside0 (sennitref05_may.l0 kq a0 l1 l2 x7_2=some r)∧Aside0 (kq≤kj3)∧Drawn0 w w')
    (case atStart=>exact⟨(0),rs_,H',⟨Nat.le_refl _⟩,d0_⟩)
    case round =>
     clear H';(try clear c1);(try clear c2);(try clear p2);(try clear c3);(try clear c5);(try clear c5b0);(try clear c5b1);(try clear c5b2);(try clear c6);(try clear c6b0);(try clear c6b1);(try clear c7);(try clear p2);obtain⟨x7_2,rfl,HA,HK2,⟨m2,rfl⟩⟩:=hrel
     cases gk with
     | zero=>exact absurd HA.out (by simp[sennitref05_may.l0])
     | succ k2 =>
      have H:=HA.out;clear HA;(simp only[sennitref05_may.l0] at H)
      by_cases c8:x7_2 < (l2.length:Int)
      ·
       (rw[if_pos c8] at H);have c8b0:decide (x7_2 < (l2.length:Int))=true:=decide_eq_true c8;clear c8
       by_cases c9:0≤x7_2
       ·
        (rw[if_pos c9] at H);have c9b0:decide (0≤x7_2)=true:=decide_eq_true c9;clear c9
        by_cases c10:((rd_L16 l2 x7_2).length:Int)=a0
        ·
         (rw[if_pos c10] at H);have c10b0:(((rd_L16 l2 x7_2).length:Int) == a0)=true:=beq_iff_eq.mpr c10;have c10b1:(((rd_L16 l2 x7_2).length:Int) != a0)=false:=bne_eq_false_iff_eq.mpr c10;clear c10
         by_cases c11:x7_2 < (l1.length:Int)
         ·
          (rw[if_pos c11] at H);have c11b0:decide (x7_2 < (l1.length:Int))=true:=decide_eq_true c11;clear c11;replace H:=Option.bind_eq_some_iff.mp H;obtain⟨t129,A120,H⟩:=H;(try dsimp only at H);have A12:=Aside0.mk A120;clear A120
          by_cases c13:t129=true
          ·
           subst c13;have H1:=H;(rw[if_pos rfl] at H1);clear H;have H:=H1;clear H1;have H':=Aside0.mk H;clear H;have p126:0≤(x7_2:Int):=dt_;have q126:x7_2 < (l2.length:Int):=dt_;obtain⟨ad126,A126_0,c126_0,e126,hx126_0,hl126_0,hi126_0⟩:=at_L16 HR2.out x7_2 p126 q126;cases e126;have HR126_0:=Aside0.mk hi126_0;have HC126_0:=Aside0.mk hl126_0;clear hi126_0 hl126_0;replace p126:=eq_true p126;replace q126:=eq_true q126;have p127:0≤(x7_2:Int):=dt_;have q127:x7_2 < (l2.length:Int):=dt_;obtain⟨ad127,A127_0,c127_0,e127,hx127_0,hl127_0,hi127_0⟩:=at_L16 HR2.out x7_2 p127 q127;obtain rfl:ad126=ad127:=(by injection e127);have HR127_0:=Aside0.mk hi127_0;have HC127_0:=Aside0.mk hl127_0;clear hi127_0 hl127_0;replace p127:=eq_true p127;replace q127:=eq_true q127;have ea_:=Option.some.inj (hx126_0.symm.trans hx127_0);(injection ea_ with ea_ en_ ec_);subst ea_;subst ec_;clear en_;have p128:0≤(x7_2:Int):=dt_;have q128:x7_2 < (l1.length:Int):=dt_;obtain⟨ad128,e128,hx128_0⟩:=Kd.at_int HR1.out x7_2 p128 q128;cases e128;replace p128:=eq_true p128;replace q128:=eq_true q128;(go_wp2_with (first|(go_at_call 100;(with_reducible refine(sennitref04_May.calls k2 _ _ (rd_L16 l2 x7_2) (rd l1 x7_2) true _ ?side1 ?side2 A12.out).mono ?_);(case side1=>exact pC_ HR127_0.out);(case side2=>exact HC127_0.out);rintro e w' ⟨rfl,⟨nd,rfl⟩⟩;(try first|exact⟨rfl,_,World.drewN_drewN _ _ _⟩|exact⟨rfl,_,Eq.trans (World.drewN_drewN _ _ _) (congrArg (World.drewN _) (Nat.add_assoc _ _ _))⟩))));(repeat(go_quiet (first|(go_at_call 100;(with_reducible refine(sennitref04_May.calls k2 _ _ (rd_L16 l2 x7_2) (rd l1 x7_2) true _ ?side1 ?side2 A12.out).mono ?_);(case side1=>exact pC_ HR127_0.out);(case side2=>exact HC127_0.out);rintro e w' ⟨rfl,⟨nd,rfl⟩⟩;(try first|exact⟨rfl,_,World.drewN_drewN _ _ _⟩|exact⟨rfl,_,Eq.trans (World.drewN_drewN _ _ _) (congrArg (World.drewN _) (Nat.add_assoc _ _ _))⟩)));try go_wp2_with (first|(go_at_call 100;(with_reducible refine(sennitref04_May.calls k2 _ _ (rd_L16 l2 x7_2) (rd l1 x7_2) true _ ?side1 ?side2 A12.out).mono ?_);(case side1=>exact pC_ HR127_0.out);(case side2=>exact HC127_0.out);rintro e w' ⟨rfl,⟨nd,rfl⟩⟩;(try first|exact⟨rfl,_,World.drewN_drewN _ _ _⟩|exact⟨rfl,_,Eq.trans (World.drewN_drewN _ _ _) (congrArg (World.drewN _) (Nat.add_assoc _ _ _))⟩)))))
           go_roundg k2
           (case measure=>have:=HJ3.out;have:=HK2.out;omega);(case rel=>exact⟨(wrap64 (x7_2+1)),rs_,H',⟨by have:=HJ3.out;have:=HK2.out;omega⟩,d0_⟩)
          (· replace c13:=Bool.eq_false_iff.mpr c13;subst c13;have H1:=H;(rw[if_neg (show ¬ (false=true) by decide)] at H1);clear H;have H:=H1;clear H1;obtain rfl:=Option.some.inj H;have p126:0≤(x7_2:Int):=dt_;have q126:x7_2 < (l2.length:Int):=dt_;obtain⟨ad126,A126_0,c126_0,e126,hx126_0,hl126_0,hi126_0⟩:=at_L16 HR2.out x7_2 p126 q126;cases e126;have HR126_0:=Aside0.mk hi126_0;have HC126_0:=Aside0.mk hl126_0;clear hi126_0 hl126_0;replace p126:=eq_true p126;replace q126:=eq_true q126;have p127:0≤(x7_2:Int):=dt_;have q127:x7_2 < (l2.length:Int):=dt_;obtain⟨ad127,A127_0,c127_0,e127,hx127_0,hl127_0,hi127_0⟩:=at_L16 HR2.out x7_2 p127 q127;obtain rfl:ad126=ad127:=(by injection e127);have HR127_0:=Aside0.mk hi127_0;have HC127_0:=Aside0.mk hl127_0;clear hi127_0 hl127_0;replace p127:=eq_true p127;replace q127:=eq_true q127;have ea_:=Option.some.inj (hx126_0.symm.trans hx127_0);(injection ea_ with ea_ en_ ec_);subst ea_;subst ec_;clear en_;have p128:0≤(x7_2:Int):=dt_;have q128:x7_2 < (l1.length:Int):=dt_;obtain⟨ad128,e128,hx128_0⟩:=Kd.at_int HR1.out x7_2 p128 q128;cases e128;replace p128:=eq_true p128;replace q128:=eq_true q128;(go_wp2_with (first|(go_at_call 100;(with_reducible refine(sennitref04_May.calls k2 _ _ (rd_L16 l2 x7_2) (rd l1 x7_2) false _ ?side1 ?side2 A12.out).mono ?_);(case side1=>exact pC_ HR127_0.out);(case side2=>exact HC127_0.out);rintro e w' ⟨rfl,⟨nd,rfl⟩⟩;(try first|exact⟨rfl,_,World.drewN_drewN _ _ _⟩|exact⟨rfl,_,Eq.trans (World.drewN_drewN _ _ _) (congrArg (World.drewN _) (Nat.add_assoc _ _ _))⟩))));(repeat(go_quiet (first|(go_at_call 100;(with_reducible refine(sennitref04_May.calls k2 _ _ (rd_L16 l2 x7_2) (rd l1 x7_2) false _ ?side1 ?side2 A12.out).mono ?_);(case side1=>exact pC_ HR127_0.out);(case side2=>exact HC127_0.out);rintro e w' ⟨rfl,⟨nd,rfl⟩⟩;(try first|exact⟨rfl,_,World.drewN_drewN _ _ _⟩|exact⟨rfl,_,Eq.trans (World.drewN_drewN _ _ _) (congrArg (World.drewN _) (Nat.add_assoc _ _ _))⟩)));try go_wp2_with (first|(go_at_call 100;(with_reducible refine(sennitref04_May.calls k2 _ _ (rd_L16 l2 x7_2) (rd l1 x7_2) false _ ?side1 ?side2 A12.out).mono ?_);(case side1=>exact pC_ HR127_0.out);(case side2=>exact HC127_0.out);rintro e w' ⟨rfl,⟨nd,rfl⟩⟩;(try first|exact⟨rfl,_,World.drewN_drewN _ _ _⟩|exact⟨rfl,_,Eq.trans (World.drewN_drewN _ _ _) (congrArg (World.drewN _) (Nat.add_assoc _ _ _))⟩)))));go_ret;exact⟨by first|rfl|(simp;done)|(simp[*];done),d0_⟩)
         (· exact nx_ c11 H)
        (· (rw[if_neg c10] at H);have c10b0:(((rd_L16 l2 x7_2).length:Int) == a0)=false:=beq_eq_false_iff_ne.mpr c10;have c10b1:(((rd_L16 l2 x7_2).length:Int) != a0)=true:=bne_iff_ne.mpr c10;obtain rfl:=Option.some.inj H;have p126:0≤(x7_2:Int):=dt_;have q126:x7_2 < (l2.length:Int):=dt_;obtain⟨ad126,A126_0,c126_0,e126,hx126_0,hl126_0,hi126_0⟩:=at_L16 HR2.out x7_2 p126 q126;cases e126;have HR126_0:=Aside0.mk hi126_0;have HC126_0:=Aside0.mk hl126_0;clear hi126_0 hl126_0;replace p126:=eq_true p126;replace q126:=eq_true q126;go_wp2;(repeat(go_quiet (fail);try go_wp2));go_ret;exact⟨by first|rfl|(simp;done)|(simp[*];done),d0_⟩)
       (· exact nx_ c9 H)
      (· (rw[if_neg c8] at H);have c8b0:decide (x7_2 < (l2.length:Int))=false:=decide_eq_false c8;clear c8;obtain rfl:=Option.some.inj H;go_wp2;(repeat(go_quiet (fail);try go_wp2));go_ret;exact⟨by first|rfl|(simp;done)|(simp[*];done),d0_⟩)
def slices_Equal_string_string.l0:Nat→List ByteArray→List ByteArray→Int→Int→Option (Bool)
  | 0,_,_,_,_=>none
  | k+1,x0,x1,x12,x13=>if x13 < x12 then (if 0≤x13 then (if x13 < (x0.length:Int) then (if x13 < (x1.length:Int) then (if (rdOf ByteArray.empty x0 x13).toList=(rdOf ByteArray.empty x1 x13).toList then (slices_Equal_string_string.l0 k x0 x1 x12 (wrap64 (x13+1))) else (some false)) else (none)) else (none)) else (none)) else (some true)
def slices_Equal_string_string.f (k:Nat) (l0:List ByteArray) (l1:List ByteArray):Option (Bool):=if (l0.length:Int)=(l1.length:Int) then (slices_Equal_string_string.l0 k l0 l1 (l0.length:Int) 0) else (some false)
theorem slices_Equal_string_string.calls (k:Nat) (A0:Option Addr) (c0:Nat) (l0:List ByteArray) (A1:Option Addr) (c1:Nat) (l1:List ByteArray) (r:Bool) (w:World) (hr0:Kd.C Kd.string w A0 l0.length l0) (hc0:l0.length≤c0) (hr1:Kd.C Kd.string w A1 l1.length l1) (hc1:l1.length≤c1) (h:slices_Equal_string_string.f k l0 l1=some r) :
    Calls Tryz.prog 114 #[.slice A0 l0.length c0, .slice A1 l1.length c1] w fun e w'=>e = .returned (.bool r)∧Drawn0 w w':=by
 have HR0:=Aside0.mk hr0;have HC0:=Aside0.mk hc0;clear hr0 hc0;have HR1:=Aside0.mk hr1;have HC1:=Aside0.mk hc1;clear hr1 hc1;have H:=h;(rw[slices_Equal_string_string.f] at H);clear h
 by_cases c3:(l0.length:Int)=(l1.length:Int)
 ·
  (rw[if_pos c3] at H);have c3b0:((l0.length:Int) == (l1.length:Int))=true:=beq_iff_eq.mpr c3;have c3b1:((l0.length:Int) != (l1.length:Int))=false:=bne_eq_false_iff_eq.mpr c3;(have c3b2:(l0.length == l1.length)=true:=by first|simpa using c3|(simp at c3 ⊢;omega));clear c3;have H':=Aside0.mk H;clear H;go_enter Tryz.func114,Tryz.ntmps114;go_wp2;(repeat(go_quiet (fail);try go_wp2))
  go_loopg [13] k (fun kq v13 w' => ∃ (x13_1:Int),v13 = .int .i64 x13_1∧Aside0 (slices_Equal_string_string.l0 kq l0 l1 (l0.length:Int) x13_1=some r)∧Aside0 (kq≤k)∧Drawn0 w w')
  (case atStart=>exact⟨(0),rs_,H',⟨Nat.le_refl _⟩,d0_⟩)
  case round =>
   clear H';(try clear c1);(try clear p2);(try clear c3);(try clear c3b0);(try clear c3b1);(try clear c3b2);obtain⟨x13_1,rfl,HA,HK1,⟨m1,rfl⟩⟩:=hrel
   cases gk with
   | zero=>exact absurd HA.out (by simp[slices_Equal_string_string.l0])
   | succ k1 =>
    have H:=HA.out;clear HA;(simp only[slices_Equal_string_string.l0] at H)
    by_cases c4:x13_1 < (l0.length:Int)
    ·
     (rw[if_pos c4] at H);have c4b0:decide (x13_1 < (l0.length:Int))=true:=decide_eq_true c4;clear c4
     by_cases c5:0≤x13_1
     ·
      (rw[if_pos c5] at H);have c5b0:decide (0≤x13_1)=true:=decide_eq_true c5;clear c5
      by_cases c6:x13_1 < (l0.length:Int)
      ·
       (rw[if_pos c6] at H);have c6b0:decide (x13_1 < (l0.length:Int))=true:=decide_eq_true c6;clear c6
       by_cases c7:x13_1 < (l1.length:Int)
       ·
        (rw[if_pos c7] at H);have c7b0:decide (x13_1 < (l1.length:Int))=true:=decide_eq_true c7;clear c7
        by_cases c8:(rdOf ByteArray.empty l0 x13_1).toList=(rdOf ByteArray.empty l1 x13_1).toList
        ·
         (rw[if_pos c8] at H);have c8b0:((rdOf ByteArray.empty l0 x13_1).toList == (rdOf ByteArray.empty l1 x13_1).toList)=true:=beq_iff_eq.mpr c8;have c8b1:((rdOf ByteArray.empty l0 x13_1).toList != (rdOf ByteArray.empty l1 x13_1).toList)=false:=bne_eq_false_iff_eq.mpr c8;clear c8;have H':=Aside0.mk H;clear H;have p101:0≤(x13_1:Int):=dt_;have q101:x13_1 < (l0.length:Int):=dt_;obtain⟨ad101,e101,hx101_0⟩:=Kd.at_string HR0.out x13_1 p101 q101;cases e101;replace p101:=eq_true p101;replace q101:=eq_true q101;have p102:0≤(x13_1:Int):=dt_;have q102:x13_1 < (l1.length:Int):=dt_;obtain⟨ad102,e102,hx102_0⟩:=Kd.at_string HR1.out x13_1 p102 q102;cases e102;replace p102:=eq_true p102;replace q102:=eq_true q102;go_wp2;(repeat(go_quiet (fail);try go_wp2))
         go_roundg k1
         (case measure=>have:=HK1.out;omega);(case rel=>exact⟨(wrap64 (x13_1+1)),rs_,H',⟨by have:=HK1.out;omega⟩,d0_⟩)
        (· (rw[if_neg c8] at H);have c8b0:((rdOf ByteArray.empty l0 x13_1).toList == (rdOf ByteArray.empty l1 x13_1).toList)=false:=beq_eq_false_iff_ne.mpr c8;have c8b1:((rdOf ByteArray.empty l0 x13_1).toList != (rdOf ByteArray.empty l1 x13_1).toList)=true:=bne_iff_ne.mpr c8;obtain rfl:=Option.some.inj H;have p101:0≤(x13_1:Int):=dt_;have q101:x13_1 < (l0.length:Int):=dt_;obtain⟨ad101,e101,hx101_0⟩:=Kd.at_string HR0.out x13_1 p101 q101;cases e101;replace p101:=eq_true p101;replace q101:=eq_true q101;have p102:0≤(x13_1:Int):=dt_;have q102:x13_1 < (l1.length:Int):=dt_;obtain⟨ad102,e102,hx102_0⟩:=Kd.at_string HR1.out x13_1 p102 q102;cases e102;replace p102:=eq_true p102;replace q102:=eq_true q102;go_wp2;(repeat(go_quiet (fail);try go_wp2));go_ret;exact⟨by first|rfl|(simp;done)|(simp[*];done),d0_⟩)
       (· exact nx_ c7 H)
      (· exact nx_ c6 H)
     (· exact nx_ c5 H)
    (· (rw[if_neg c4] at H);have c4b0:decide (x13_1 < (l0.length:Int))=false:=decide_eq_false c4;clear c4;obtain rfl:=Option.some.inj H;go_wp2;(repeat(go_quiet (fail);try go_wp2));go_ret;exact⟨by first|rfl|(simp;done)|(simp[*];done),d0_⟩)
 (· (rw[if_neg c3] at H);have c3b0:((l0.length:Int) == (l1.length:Int))=false:=beq_eq_false_iff_ne.mpr c3;have c3b1:((l0.length:Int) != (l1.length:Int))=true:=bne_iff_ne.mpr c3;(have c3b2:(l0.length == l1.length)=false:=by first|simpa using c3|(simp at c3 ⊢;omega));obtain rfl:=Option.some.inj H;go_enter Tryz.func114,Tryz.ntmps114;go_wp2;(repeat(go_quiet (fail);try go_wp2));go_ret;exact⟨by first|rfl|(simp;done)|(simp[*];done),d0_⟩)
def align_may.l0:Nat→List Int→Int→Int→Int→List Int→Int→Int→Option (Bool)
  | 0,_,_,_,_,_,_,_=>none
  | k+1,x0,x1,x2,x7,x10,x11,x12=>if x12 < x11 then (if 0≤x12 then (if x12 < (x10.length:Int) then (if (rd x10 x12) < (-1) then (some false) else (if (rd x10 x12) ≥ x2 then (some false) else (if (rd x10 x12) ≥ 0 then (if (rd x10 x12)≤x7 then (some false) else (align_may.l0 k x0 x1 x2 (mx x7 (rd x10 x12)) x10 x11 (wrap64 (x12+1)))) else (align_may.l0 k x0 x1 x2 (mx x7 (rd x10 x12)) x10 x11 (wrap64 (x12+1)))))) else (none)) else (none)) else (if (x0.length:Int)=x1 then (some (decide (x2 ≥ 0))) else (some false))
def align_may.f (k:Nat) (l0:List Int) (a1:Int) (a2:Int):Option (Bool):=align_may.l0 k l0 a1 a2 (-1) l0 (l0.length:Int) 0
theorem align_may.calls (k:Nat) (A0:Option Addr) (c0:Nat) (l0:List Int) (a1:Int) (a2:Int) (r:Bool) (w:World) (hr0:Kd.C (Kd.int .i64) w A0 l0.length l0) (hc0:l0.length≤c0) (h:align_may.f k l0 a1 a2=some r) :
    Calls Tryz.prog 71 #[.slice A0 l0.length c0, .int .i64 a1, .int .i64 a2] w fun e w'=>e = .returned (.bool r)∧Below w.heap.size w w':=by
 have HR0:=Aside0.mk hr0;have HC0:=Aside0.mk hc0;clear hr0 hc0;have HB:=Aside0.mk (Below.refl w.heap.size w);have H:=h;(rw[align_may.f] at H);clear h;have H':=Aside0.mk H;clear H;go_enter Tryz.func71,Tryz.ntmps71;go_wp2
 go_loopg [7,12] k (fun kq v7 v12 w' => ∃ (x7_1:Int) (x12_1:Int),v7 = .int .i64 x7_1∧v12 = .int .i64 x12_1∧Aside0 (align_may.l0 kq l0 a1 a2 x7_1 l0 (l0.length:Int) x12_1=some r)∧Aside0 (kq≤k)∧Aside0 (Below w.heap.size w w'))
 (case atStart=>exact⟨((-1)),(0),rs_,rs_,H',⟨Nat.le_refl _⟩,⟨bel_⟩⟩)
 case round =>
  clear H';(try clear p2);obtain⟨x7_1,x12_1,rfl,rfl,HA,HK1,HB⟩:=hrel
  cases gk with
  | zero=>exact absurd HA.out (by simp[align_may.l0])
  | succ k1 =>
   have H:=HA.out;clear HA;(simp only[align_may.l0] at H)
   by_cases c4:x12_1 < (l0.length:Int)
   ·
    (rw[if_pos c4] at H);have c4b0:decide (x12_1 < (l0.length:Int))=true:=decide_eq_true c4;clear c4
    by_cases c5:0≤x12_1
    ·
     (rw[if_pos c5] at H);have c5b0:decide (0≤x12_1)=true:=decide_eq_true c5;clear c5
     by_cases c6:x12_1 < (l0.length:Int)
     ·
      (rw[if_pos c6] at H);have c6b0:decide (x12_1 < (l0.length:Int))=true:=decide_eq_true c6;clear c6
      by_cases c7:(rd l0 x12_1) < (-1)
      (· (rw[if_pos c7] at H);have c7b0:decide ((rd l0 x12_1) < (-1))=true:=decide_eq_true c7;clear c7;obtain rfl:=Option.some.inj H;have p101:0≤(x12_1:Int):=dt_;have q101:x12_1 < (l0.length:Int):=dt_;obtain⟨ad101,e101,hx101_0⟩:=Kd.at_int HR0.out x12_1 p101 q101;cases e101;replace hx101_0:=(HB.out.cell (World.block_lt_of_cell? w _ hx101_0)).trans hx101_0;replace p101:=eq_true p101;replace q101:=eq_true q101;go_wp2;go_ret;exact⟨by first|rfl|(simp[errW_none,errW_some] <;> rfl)|(simp[*,errW_none,errW_some] <;> rfl),bel_⟩)
      ·
       (rw[if_neg c7] at H);have c7b0:decide ((rd l0 x12_1) < (-1))=false:=decide_eq_false c7;clear c7
       by_cases c8:(rd l0 x12_1) ≥ a2
       (· (rw[if_pos c8] at H);have c8b0:decide (a2≤(rd l0 x12_1))=true:=decide_eq_true c8;clear c8;obtain rfl:=Option.some.inj H;have p101:0≤(x12_1:Int):=dt_;have q101:x12_1 < (l0.length:Int):=dt_;obtain⟨ad101,e101,hx101_0⟩:=Kd.at_int HR0.out x12_1 p101 q101;cases e101;replace hx101_0:=(HB.out.cell (World.block_lt_of_cell? w _ hx101_0)).trans hx101_0;replace p101:=eq_true p101;replace q101:=eq_true q101;go_wp2;go_ret;exact⟨by first|rfl|(simp[errW_none,errW_some] <;> rfl)|(simp[*,errW_none,errW_some] <;> rfl),bel_⟩)
       ·
        (rw[if_neg c8] at H);have c8b0:decide (a2≤(rd l0 x12_1))=false:=decide_eq_false c8;clear c8
        by_cases c9:(rd l0 x12_1) ≥ 0
        ·
         (rw[if_pos c9] at H);have c9b0:decide (0≤(rd l0 x12_1))=true:=decide_eq_true c9;clear c9
         by_cases c10:(rd l0 x12_1)≤x7_1
         (· (rw[if_pos c10] at H);have c10b0:decide ((rd l0 x12_1)≤x7_1)=true:=decide_eq_true c10;clear c10;obtain rfl:=Option.some.inj H;have p101:0≤(x12_1:Int):=dt_;have q101:x12_1 < (l0.length:Int):=dt_;obtain⟨ad101,e101,hx101_0⟩:=Kd.at_int HR0.out x12_1 p101 q101;cases e101;replace hx101_0:=(HB.out.cell (World.block_lt_of_cell? w _ hx101_0)).trans hx101_0;replace p101:=eq_true p101;replace q101:=eq_true q101;go_wp2;go_ret;exact⟨by first|rfl|(simp[errW_none,errW_some] <;> rfl)|(simp[*,errW_none,errW_some] <;> rfl),bel_⟩)
         ·
          (rw[if_neg c10] at H);have c10b0:decide ((rd l0 x12_1)≤x7_1)=false:=decide_eq_false c10;clear c10;obtain⟨ji11,hji11⟩ : ∃ j_:Int,(mx x7_1 (rd l0 x12_1))=j_:=⟨_,rfl⟩;(first|rw[hji11] at H|simp only[hji11] at H);have hji11_:(if x7_1 < (rd l0 x12_1) then (rd l0 x12_1) else x7_1)=ji11:=hji11;have H':=Aside0.mk H;clear H;have p101:0≤(x12_1:Int):=dt_;have q101:x12_1 < (l0.length:Int):=dt_;obtain⟨ad101,e101,hx101_0⟩:=Kd.at_int HR0.out x12_1 p101 q101;cases e101;replace hx101_0:=(HB.out.cell (World.block_lt_of_cell? w _ hx101_0)).trans hx101_0;replace p101:=eq_true p101;replace q101:=eq_true q101;go_wp2
          go_roundg k1
          (case measure=>have:=HK1.out;omega);(case rel=>exact⟨(ji11),(wrap64 (x12_1+1)),(by first|rfl|(simp;done)|(simp only[← hji11] <;> (first|rfl|simp))|(simp[*];done)),rs_,H',⟨by have:=HK1.out;omega⟩,⟨bel_⟩⟩)
        ·
         (rw[if_neg c9] at H);have c9b0:decide (0≤(rd l0 x12_1))=false:=decide_eq_false c9;clear c9;obtain⟨ji12,hji12⟩ : ∃ j_:Int,(mx x7_1 (rd l0 x12_1))=j_:=⟨_,rfl⟩;(first|rw[hji12] at H|simp only[hji12] at H);have hji12_:(if x7_1 < (rd l0 x12_1) then (rd l0 x12_1) else x7_1)=ji12:=hji12;have H':=Aside0.mk H;clear H;have p101:0≤(x12_1:Int):=dt_;have q101:x12_1 < (l0.length:Int):=dt_;obtain⟨ad101,e101,hx101_0⟩:=Kd.at_int HR0.out x12_1 p101 q101;cases e101;replace hx101_0:=(HB.out.cell (World.block_lt_of_cell? w _ hx101_0)).trans hx101_0;replace p101:=eq_true p101;replace q101:=eq_true q101;go_wp2
         go_roundg k1
         (case measure=>have:=HK1.out;omega);(case rel=>exact⟨(ji12),(wrap64 (x12_1+1)),(by first|rfl|(simp;done)|(simp only[← hji12] <;> (first|rfl|simp))|(simp[*];done)),rs_,H',⟨by have:=HK1.out;omega⟩,⟨bel_⟩⟩)
     (· exact nx_ c6 H)
    (· exact nx_ c5 H)
   ·
    (rw[if_neg c4] at H);have c4b0:decide (x12_1 < (l0.length:Int))=false:=decide_eq_false c4;clear c4
    by_cases c13:(l0.length:Int)=a1
    (· (rw[if_pos c13] at H);have c13b0:((l0.length:Int) == a1)=true:=beq_iff_eq.mpr c13;have c13b1:((l0.length:Int) != a1)=false:=bne_eq_false_iff_eq.mpr c13;clear c13;obtain rfl:=Option.some.inj H;go_wp2;go_ret;exact⟨by first|rfl|(simp[errW_none,errW_some] <;> rfl)|(simp[*,errW_none,errW_some] <;> rfl),bel_⟩);(· (rw[if_neg c13] at H);have c13b0:((l0.length:Int) == a1)=false:=beq_eq_false_iff_ne.mpr c13;have c13b1:((l0.length:Int) != a1)=true:=bne_iff_ne.mpr c13;obtain rfl:=Option.some.inj H;go_wp2;go_ret;exact⟨by first|rfl|(simp[errW_none,errW_some] <;> rfl)|(simp[*,errW_none,errW_some] <;> rfl),bel_⟩)
mutual
def sennitref07_union.l0:Nat→List (List ByteArray)→List ByteArray→Int→Option (List ByteArray)
  | 0,_,_,_=>none
  | k+1,x0,x3,x4=>if x4 < (x0.length:Int) then (sennitref07_union.l1 k x0 x3 x4 false (wrap64 (x4+1))) else (some x3)
def sennitref07_union.l1:Nat→List (List ByteArray)→List ByteArray→Int→Bool→Int→Option (List ByteArray)
  | 0,_,_,_,_,_=>none
  | k+1,x0,x3,x4,x5,x6=>if x6 < (x0.length:Int) then (if x5=true then (sennitref07_union.l1 k x0 x3 x4 true (wrap64 (x6+1))) else (if 0≤x6 then (sennitref07_union.l1 k x0 x3 x4 (decide (((rd_L1 x0 x6).length:Int) > 0)) (wrap64 (x6+1))) else (none))) else (sennitref07_union.l2 k x0 x3 x4 x5 0)
def sennitref07_union.l2:Nat→List (List ByteArray)→List ByteArray→Int→Bool→Int→Option (List ByteArray)
  | 0,_,_,_,_,_=>none
  | k+1,x0,x3,x4,x5,x7=>if 0≤x4 then (if x4 < (x0.length:Int) then (if x7 < ((rd_L1 x0 x4).length:Int) then (if 0≤x7 then (if x7=(wrap64 (((rd_L1 x0 x4).length:Int) - 1)) then (if x5=true then ((sennitref01_Open.f (rd_L1 x0 x4)).bind fun t129=>(if t129=true then (if (rdOf ByteArray.empty (rd_L1 x0 x4) x7).size+1≤9223372036854775807 then (if x3.length < 8796093022208 then (sennitref07_union.l2 k x0 (x3 ++ [(rdOf ByteArray.empty (rd_L1 x0 x4) x7) ++ (⟨#[10]⟩:ByteArray)]) x4 x5 (wrap64 (x7+1))) else (none)) else (none)) else (if x3.length < 8796093022208 then (sennitref07_union.l2 k x0 (x3 ++ [rdOf ByteArray.empty (rd_L1 x0 x4) x7]) x4 x5 (wrap64 (x7+1))) else (none)))) else (if x3.length < 8796093022208 then (sennitref07_union.l2 k x0 (x3 ++ [rdOf ByteArray.empty (rd_L1 x0 x4) x7]) x4 x5 (wrap64 (x7+1))) else (none))) else (if x3.length < 8796093022208 then (sennitref07_union.l2 k x0 (x3 ++ [rdOf ByteArray.empty (rd_L1 x0 x4) x7]) x4 x5 (wrap64 (x7+1))) else (none))) else (none)) else (sennitref07_union.l0 k x0 x3 (wrap64 (x4+1)))) else (none)) else (none)
end
def sennitref07_union.f (k:Nat) (l0:List (List ByteArray)):Option (List ByteArray):=sennitref07_union.l0 k l0 ([]:List ByteArray) 0
theorem sennitref07_union.calls (k:Nat) (A0:Option Addr) (c0:Nat) (l0:List (List ByteArray)) (r:List ByteArray) (w:World) (hr0:Kd.C (Kd.slice 9 Kd.string) w A0 l0.length l0) (hc0:l0.length≤c0) (h:sennitref07_union.f k l0=some r) :
    Calls Tryz.prog 91 #[.slice A0 l0.length c0] w fun e w' => ∃ v0_:Value,e = .returned (v0_)∧Kd.R Kd.string 9 w' w.heap.size (fun _=>True) v0_ r∧Below w.heap.size w w':=by
 have HR0:=Aside0.mk hr0;have HC0:=Aside0.mk hc0;clear hr0 hc0;have HB:=Aside0.mk (Below.refl w.heap.size w);have H:=h;(rw[sennitref07_union.f] at H);clear h;have H':=Aside0.mk H;clear H;go_enter Tryz.func91,Tryz.ntmps91;go_wp2
 go_loopg [3,4] k (fun kq v3 v4 w' => ∃ (x3_1:List ByteArray) (x4_1:Int),v4 = .int .i64 x4_1∧Aside0 (sennitref07_union.l0 kq l0 x3_1 x4_1=some r)∧Aside0 (kq≤k)∧Aside0 (Kd.R Kd.string 9 w' w.heap.size (fun _=>True) v3 x3_1)∧Aside0 (Below w.heap.size w w'))
 (case atStart=>exact⟨(([]:List ByteArray)),(0),rs_,H',⟨Nat.le_refl _⟩,⟨by first|exact Kd.R_nil _ _ _ _ _|exact Kd.N_nil _ _ _ _ _|exact Kd.V_nil _ _ _ _ _|exact Kd.Q_nil _ _ _ _ _|exact Kd.S_nil _ _ _ _ _⟩,⟨bel_⟩⟩)
 case round =>
  clear H';obtain⟨x3_1,x4_1,rfl,HA,HK1,HO_3,HB⟩:=hrel
  cases gk with
  | zero=>exact absurd HA.out (by simp[sennitref07_union.l0])
  | succ k1 =>
   have H:=HA.out;clear HA;(simp only[sennitref07_union.l0] at H)
   by_cases c2:x4_1 < (l0.length:Int)
   ·
    (rw[if_pos c2] at H);have c2b0:decide (x4_1 < (l0.length:Int))=true:=decide_eq_true c2;clear c2;have H':=Aside0.mk H;clear H;go_wp2
    go_loopg [5,6] k1 (fun kq v5 v6 w' => ∃ (x5_2:Bool) (x6_2:Int),v5 = .bool x5_2∧v6 = .int .i64 x6_2∧Aside0 (sennitref07_union.l1 kq l0 x3_1 x4_1 x5_2 x6_2=some r)∧Aside0 (kq≤k1)∧Aside0 (Kd.R Kd.string 9 w' w.heap.size (fun _=>True) u3 x3_1)∧Aside0 (Below w.heap.size w w'))
    (case atStart=>exact⟨(false),(wrap64 (x4_1+1)),rs_,rs_,H',⟨Nat.le_refl _⟩,⟨pR_ HO_3.out⟩,⟨bel_⟩⟩)
    case round =>
     clear H';(try clear c2);(try clear c2b0);(try clear p2);obtain⟨x5_2,x6_2,rfl,rfl,HA,HK2,HO_3,HB⟩:=hrel
     cases gk with
     | zero=>exact absurd HA.out (by simp[sennitref07_union.l1])
     | succ k2 =>
      have H:=HA.out;clear HA;(simp only[sennitref07_union.l1] at H)
      by_cases c3:x6_2 < (l0.length:Int)
      ·
       (rw[if_pos c3] at H);have c3b0:decide (x6_2 < (l0.length:Int))=true:=decide_eq_true c3;clear c3
       by_cases c4:x5_2=true
       ·
        subst c4;have H1:=H;(rw[if_pos rfl] at H1);clear H;have H:=H1;clear H1;have H':=Aside0.mk H;clear H;go_wp2
        go_roundg k2
        (case measure=>have:=HK1.out;have:=HK2.out;omega);(case rel=>exact⟨(true),(wrap64 (x6_2+1)),rs_,rs_,H',⟨by have:=HK1.out;have:=HK2.out;omega⟩,⟨pR_ HO_3.out⟩,⟨bel_⟩⟩)
       ·
        replace c4:=Bool.eq_false_iff.mpr c4;subst c4;have H1:=H;(rw[if_neg (show ¬ (false=true) by decide)] at H1);clear H;have H:=H1;clear H1
        by_cases c5:0≤x6_2
        ·
         (rw[if_pos c5] at H);have c5b0:decide (0≤x6_2)=true:=decide_eq_true c5;clear c5;have H':=Aside0.mk H;clear H;have p123:0≤(x6_2:Int):=dt_;have q123:x6_2 < (l0.length:Int):=dt_;obtain⟨ad123,A123_0,c123_0,e123,hx123_0,hl123_0,hi123_0⟩:=at_L1 HR0.out x6_2 p123 q123;cases e123;replace hx123_0:=(HB.out.cell (World.block_lt_of_cell? w _ hx123_0)).trans hx123_0;have HR123_0:=Aside0.mk hi123_0;have HC123_0:=Aside0.mk hl123_0;clear hi123_0 hl123_0;replace p123:=eq_true p123;replace q123:=eq_true q123;go_wp2
         go_roundg k2
         (case measure=>have:=HK1.out;have:=HK2.out;omega);(case rel=>exact⟨(decide (((rd_L1 l0 x6_2).length:Int) > 0)),(wrap64 (x6_2+1)),rs_,rs_,H',⟨by have:=HK1.out;have:=HK2.out;omega⟩,⟨pR_ HO_3.out⟩,⟨bel_⟩⟩)
        (· exact nx_ c5 H)
      ·
       (rw[if_neg c3] at H);have c3b0:decide (x6_2 < (l0.length:Int))=false:=decide_eq_false c3;clear c3;have H':=Aside0.mk H;clear H;go_wp2
       go_loopg [3,7] k2 (fun kq v3 v7 w' => ∃ (x3_3:List ByteArray) (x7_3:Int),v7 = .int .i64 x7_3∧Aside0 (sennitref07_union.l2 kq l0 x3_3 x4_1 x5_2 x7_3=some r)∧Aside0 (kq≤k2)∧Aside0 (Kd.R Kd.string 9 w' w.heap.size (fun _=>True) v3 x3_3)∧Aside0 (Below w.heap.size w w'))
       (case atStart=>exact⟨(x3_1),(0),rs_,H',⟨Nat.le_refl _⟩,⟨pR_ HO_3.out⟩,⟨bel_⟩⟩)
       case round =>
        clear H';(try clear c1);(try clear p1);(try clear q1);(try clear hx1);(try clear c2);(try clear c2b0);(try clear p2);(try clear c3);(try clear c3b0);(try clear c4);(try clear c5);(try clear c5b0);(try clear hx123_0);(try clear p123);(try clear p2);(try clear q123);obtain⟨x3_3,x7_3,rfl,HA,HK3,HO_3,HB⟩:=hrel
        cases gk with
        | zero=>exact absurd HA.out (by simp[sennitref07_union.l2])
        | succ k3 =>
         have H:=HA.out;clear HA;(simp only[sennitref07_union.l2] at H)
         by_cases c6:0≤x4_1
         ·
          (rw[if_pos c6] at H);have c6b0:decide (0≤x4_1)=true:=decide_eq_true c6;clear c6
          by_cases c7:x4_1 < (l0.length:Int)
          ·
           (rw[if_pos c7] at H);have c7b0:decide (x4_1 < (l0.length:Int))=true:=decide_eq_true c7;clear c7
           by_cases c8:x7_3 < ((rd_L1 l0 x4_1).length:Int)
           ·
            (rw[if_pos c8] at H);have c8b0:decide (x7_3 < ((rd_L1 l0 x4_1).length:Int))=true:=decide_eq_true c8;clear c8
            by_cases c9:0≤x7_3
            ·
             (rw[if_pos c9] at H);have c9b0:decide (0≤x7_3)=true:=decide_eq_true c9;clear c9
             by_cases c10:x7_3=(wrap64 (((rd_L1 l0 x4_1).length:Int) - 1))
             ·
              (rw[if_pos c10] at H);have c10b0:(x7_3 == (wrap64 (((rd_L1 l0 x4_1).length:Int) - 1)))=true:=beq_iff_eq.mpr c10;have c10b1:(x7_3 != (wrap64 (((rd_L1 l0 x4_1).length:Int) - 1)))=false:=bne_eq_false_iff_eq.mpr c10;clear c10
              by_cases c11:x5_2=true
              ·
               subst c11;have H1:=H;(rw[if_pos rfl] at H1);clear H;have H:=H1;clear H1;replace H:=Option.bind_eq_some_iff.mp H;obtain⟨t129,A120,H⟩:=H;(try dsimp only at H);have A12:=Aside0.mk A120;clear A120
               by_cases c13:t129=true
               ·
                subst c13;have H1:=H;(rw[if_pos rfl] at H1);clear H;have H:=H1;clear H1
                by_cases c14:(rdOf ByteArray.empty (rd_L1 l0 x4_1) x7_3).size+1≤9223372036854775807
                ·
                 (rw[if_pos c14] at H);have c14b0:=eq_true c14;have c14b1:decide ((rdOf ByteArray.empty (rd_L1 l0 x4_1) x7_3).size+1≤9223372036854775807)=true:=decide_eq_true c14;(try have c14b2:(9223372036854775807 < (rdOf ByteArray.empty (rd_L1 l0 x4_1) x7_3).size+1)=False:=eq_false (Nat.not_lt.2 c14))
                 by_cases c15:x3_3.length < 8796093022208
                 ·
                  (rw[if_pos c15] at H);have LMc15:=Aside0.mk c15;clear c15;obtain⟨y130,hy130⟩ : ∃ y_:List ByteArray,y_=(x3_3 ++ [(rdOf ByteArray.empty (rd_L1 l0 x4_1) x7_3) ++ (⟨#[10]⟩:ByteArray)]):=⟨_,rfl⟩;((try rw[Option.bind_some] at H);rw[← hy130] at H);have Ny130:=Aside0.mk hy130;clear hy130;have H':=Aside0.mk H;clear H;have p124:0≤(x4_1:Int):=dt_;have q124:x4_1 < (l0.length:Int):=dt_;obtain⟨ad124,A124_0,c124_0,e124,hx124_0,hl124_0,hi124_0⟩:=at_L1 HR0.out x4_1 p124 q124;cases e124;replace hx124_0:=(HB.out.cell (World.block_lt_of_cell? w _ hx124_0)).trans hx124_0;have HR124_0:=Aside0.mk hi124_0;have HC124_0:=Aside0.mk hl124_0;clear hi124_0 hl124_0;replace p124:=eq_true p124;replace q124:=eq_true q124;have p125:0≤(x4_1:Int):=dt_;have q125:x4_1 < (l0.length:Int):=dt_;obtain⟨ad125,A125_0,c125_0,e125,hx125_0,hl125_0,hi125_0⟩:=at_L1 HR0.out x4_1 p125 q125;obtain rfl:ad124=ad125:=(by injection e125);replace hx125_0:=(HB.out.cell (World.block_lt_of_cell? w _ hx125_0)).trans hx125_0;have HR125_0:=Aside0.mk hi125_0;have HC125_0:=Aside0.mk hl125_0;clear hi125_0 hl125_0;replace p125:=eq_true p125;replace q125:=eq_true q125;have ea_:=Option.some.inj (hx124_0.symm.trans hx125_0);(injection ea_ with ea_ en_ ec_);subst ea_;subst ec_;clear en_;have p126:0≤(x7_3:Int):=dt_;have q126:x7_3 < ((rd_L1 l0 x4_1).length:Int):=dt_;obtain⟨ad126,e126,hx126_0⟩:=Kd.at_string HR125_0.out x7_3 p126 q126;cases e126;replace hx126_0:=(HB.out.cell (World.block_lt_of_cell? w _ hx126_0)).trans hx126_0;replace p126:=eq_true p126;replace q126:=eq_true q126;have p127:0≤(x4_1:Int):=dt_;have q127:x4_1 < (l0.length:Int):=dt_;obtain⟨ad127,A127_0,c127_0,e127,hx127_0,hl127_0,hi127_0⟩:=at_L1 HR0.out x4_1 p127 q127;obtain rfl:ad124=ad127:=(by injection e127);replace hx127_0:=(HB.out.cell (World.block_lt_of_cell? w _ hx127_0)).trans hx127_0;have HR127_0:=Aside0.mk hi127_0;have HC127_0:=Aside0.mk hl127_0;clear hi127_0 hl127_0;replace p127:=eq_true p127;replace q127:=eq_true q127;have ea_:=Option.some.inj (hx124_0.symm.trans hx127_0);(injection ea_ with ea_ en_ ec_);subst ea_;subst ec_;clear en_;have p128:0≤(x4_1:Int):=dt_;have q128:x4_1 < (l0.length:Int):=dt_;obtain⟨ad128,A128_0,c128_0,e128,hx128_0,hl128_0,hi128_0⟩:=at_L1 HR0.out x4_1 p128 q128;obtain rfl:ad124=ad128:=(by injection e128);replace hx128_0:=(HB.out.cell (World.block_lt_of_cell? w _ hx128_0)).trans hx128_0;have HR128_0:=Aside0.mk hi128_0;have HC128_0:=Aside0.mk hl128_0;clear hi128_0 hl128_0;replace p128:=eq_true p128;replace q128:=eq_true q128;have ea_:=Option.some.inj (hx124_0.symm.trans hx128_0);(injection ea_ with ea_ en_ ec_);subst ea_;subst ec_;clear en_;(go_wp2_with (first|(go_at_call 106;(with_reducible refine(sennitref01_Open.calls _ _ (rd_L1 l0 x4_1) true _ ?side1 ?side2 A12.out).mono ?_);(case side1=>repeat(first|exact(Kd.C_below HR128_0.out HB.out)|(with_reducible refine Kd.C_alloc ?_ _)|(with_reducible refine Kd.C_drewN ?_ _)|(with_reducible refine Kd.C_drew ?_)));(case side2=>exact HC128_0.out);rintro e w' ⟨rfl,⟨nd,rfl⟩⟩)|((with_reducible refine gate_builtin (b := .append) (xs:=#[.tmp 68, .tmp 70]) rfl ?_);(try(refine gate_guard (by rfl) ?_;dsimp only));at_builtin;refine Kd.R_append Kd.string (w0:=w) w.heap.size rfl (.tmp 68) (.tmp 70) 22 9 (.string ⟨#[]⟩) 16 rfl Tryz.underlying22 info9 rfl (by decide) (by omega) u3 x3_3 ((rdOf ByteArray.empty (rd_L1 l0 x4_1) x7_3) ++ (⟨#[10]⟩:ByteArray)) [.string ((rdOf ByteArray.empty (rd_L1 l0 x4_1) x7_3) ++ (⟨#[10]⟩:ByteArray))] (fun _=>True) (fun _=>False) rfl rfl ?aP (fun _ hk=>hk.elim) ?aF ?aO ?aB ?aS ?aL ?_;(case aP=>exact rfl);(case aB=>exact bel_);(case aF=>exact(fun _ _=>trivial));(case aO=>exact(pR_ HO_3.out));(case aS=>exact(below_size bel_));(case aL=>have:=LMc15.out;omega);intro v131 w16 ho hb hg hat;rw[← Ny130.out] at ho;replace HB:=Aside0.mk (hb);have HO132:=Aside0.mk (ho);clear HO_3;clear ho hb hg hat)))
                  go_roundg k3
                  (case measure=>have:=HK1.out;have:=HK2.out;have:=HK3.out;omega);(case rel=>exact⟨(y130),(wrap64 (x7_3+1)),rs_,H',⟨by have:=HK1.out;have:=HK2.out;have:=HK3.out;omega⟩,⟨pR_ HO132.out⟩,⟨bel_⟩⟩)
                 (· exact nx_ c15 H)
                (· exact nx_ c14 H)
               ·
                replace c13:=Bool.eq_false_iff.mpr c13;subst c13;have H1:=H;(rw[if_neg (show ¬ (false=true) by decide)] at H1);clear H;have H:=H1;clear H1
                by_cases c17:x3_3.length < 8796093022208
                ·
                 (rw[if_pos c17] at H);have LMc17:=Aside0.mk c17;clear c17;obtain⟨y133,hy133⟩ : ∃ y_:List ByteArray,y_=(x3_3 ++ [rdOf ByteArray.empty (rd_L1 l0 x4_1) x7_3]):=⟨_,rfl⟩;((try rw[Option.bind_some] at H);rw[← hy133] at H);have Ny133:=Aside0.mk hy133;clear hy133;have H':=Aside0.mk H;clear H;have p124:0≤(x4_1:Int):=dt_;have q124:x4_1 < (l0.length:Int):=dt_;obtain⟨ad124,A124_0,c124_0,e124,hx124_0,hl124_0,hi124_0⟩:=at_L1 HR0.out x4_1 p124 q124;cases e124;replace hx124_0:=(HB.out.cell (World.block_lt_of_cell? w _ hx124_0)).trans hx124_0;have HR124_0:=Aside0.mk hi124_0;have HC124_0:=Aside0.mk hl124_0;clear hi124_0 hl124_0;replace p124:=eq_true p124;replace q124:=eq_true q124;have p125:0≤(x4_1:Int):=dt_;have q125:x4_1 < (l0.length:Int):=dt_;obtain⟨ad125,A125_0,c125_0,e125,hx125_0,hl125_0,hi125_0⟩:=at_L1 HR0.out x4_1 p125 q125;obtain rfl:ad124=ad125:=(by injection e125);replace hx125_0:=(HB.out.cell (World.block_lt_of_cell? w _ hx125_0)).trans hx125_0;have HR125_0:=Aside0.mk hi125_0;have HC125_0:=Aside0.mk hl125_0;clear hi125_0 hl125_0;replace p125:=eq_true p125;replace q125:=eq_true q125;have ea_:=Option.some.inj (hx124_0.symm.trans hx125_0);(injection ea_ with ea_ en_ ec_);subst ea_;subst ec_;clear en_;have p126:0≤(x7_3:Int):=dt_;have q126:x7_3 < ((rd_L1 l0 x4_1).length:Int):=dt_;obtain⟨ad126,e126,hx126_0⟩:=Kd.at_string HR125_0.out x7_3 p126 q126;cases e126;replace hx126_0:=(HB.out.cell (World.block_lt_of_cell? w _ hx126_0)).trans hx126_0;replace p126:=eq_true p126;replace q126:=eq_true q126;have p127:0≤(x4_1:Int):=dt_;have q127:x4_1 < (l0.length:Int):=dt_;obtain⟨ad127,A127_0,c127_0,e127,hx127_0,hl127_0,hi127_0⟩:=at_L1 HR0.out x4_1 p127 q127;obtain rfl:ad124=ad127:=(by injection e127);replace hx127_0:=(HB.out.cell (World.block_lt_of_cell? w _ hx127_0)).trans hx127_0;have HR127_0:=Aside0.mk hi127_0;have HC127_0:=Aside0.mk hl127_0;clear hi127_0 hl127_0;replace p127:=eq_true p127;replace q127:=eq_true q127;have ea_:=Option.some.inj (hx124_0.symm.trans hx127_0);(injection ea_ with ea_ en_ ec_);subst ea_;subst ec_;clear en_;have p128:0≤(x4_1:Int):=dt_;have q128:x4_1 < (l0.length:Int):=dt_;obtain⟨ad128,A128_0,c128_0,e128,hx128_0,hl128_0,hi128_0⟩:=at_L1 HR0.out x4_1 p128 q128;obtain rfl:ad124=ad128:=(by injection e128);replace hx128_0:=(HB.out.cell (World.block_lt_of_cell? w _ hx128_0)).trans hx128_0;have HR128_0:=Aside0.mk hi128_0;have HC128_0:=Aside0.mk hl128_0;clear hi128_0 hl128_0;replace p128:=eq_true p128;replace q128:=eq_true q128;have ea_:=Option.some.inj (hx124_0.symm.trans hx128_0);(injection ea_ with ea_ en_ ec_);subst ea_;subst ec_;clear en_;(go_wp2_with (first|(go_at_call 106;(with_reducible refine(sennitref01_Open.calls _ _ (rd_L1 l0 x4_1) false _ ?side1 ?side2 A12.out).mono ?_);(case side1=>repeat(first|exact(Kd.C_below HR128_0.out HB.out)|(with_reducible refine Kd.C_alloc ?_ _)|(with_reducible refine Kd.C_drewN ?_ _)|(with_reducible refine Kd.C_drew ?_)));(case side2=>exact HC128_0.out);rintro e w' ⟨rfl,⟨nd,rfl⟩⟩)|((with_reducible refine gate_builtin (b := .append) (xs:=#[.tmp 68, .tmp 70]) rfl ?_);(try(refine gate_guard (by rfl) ?_;dsimp only));at_builtin;refine Kd.R_append Kd.string (w0:=w) w.heap.size rfl (.tmp 68) (.tmp 70) 22 9 (.string ⟨#[]⟩) 16 rfl Tryz.underlying22 info9 rfl (by decide) (by omega) u3 x3_3 (rdOf ByteArray.empty (rd_L1 l0 x4_1) x7_3) [.string (rdOf ByteArray.empty (rd_L1 l0 x4_1) x7_3)] (fun _=>True) (fun _=>False) rfl rfl ?aP (fun _ hk=>hk.elim) ?aF ?aO ?aB ?aS ?aL ?_;(case aP=>exact rfl);(case aB=>exact bel_);(case aF=>exact(fun _ _=>trivial));(case aO=>exact(pR_ HO_3.out));(case aS=>exact(below_size bel_));(case aL=>have:=LMc17.out;omega);intro v134 w18 ho hb hg hat;rw[← Ny133.out] at ho;replace HB:=Aside0.mk (hb);have HO135:=Aside0.mk (ho);clear HO_3;clear ho hb hg hat)))
                 go_roundg k3
                 (case measure=>have:=HK1.out;have:=HK2.out;have:=HK3.out;omega);(case rel=>exact⟨(y133),(wrap64 (x7_3+1)),rs_,H',⟨by have:=HK1.out;have:=HK2.out;have:=HK3.out;omega⟩,⟨pR_ HO135.out⟩,⟨bel_⟩⟩)
                (· exact nx_ c17 H)
              ·
               replace c11:=Bool.eq_false_iff.mpr c11;subst c11;have H1:=H;(rw[if_neg (show ¬ (false=true) by decide)] at H1);clear H;have H:=H1;clear H1
               by_cases c19:x3_3.length < 8796093022208
               ·
                (rw[if_pos c19] at H);have LMc19:=Aside0.mk c19;clear c19;obtain⟨y136,hy136⟩ : ∃ y_:List ByteArray,y_=(x3_3 ++ [rdOf ByteArray.empty (rd_L1 l0 x4_1) x7_3]):=⟨_,rfl⟩;((try rw[Option.bind_some] at H);rw[← hy136] at H);have Ny136:=Aside0.mk hy136;clear hy136;have H':=Aside0.mk H;clear H;have p124:0≤(x4_1:Int):=dt_;have q124:x4_1 < (l0.length:Int):=dt_;obtain⟨ad124,A124_0,c124_0,e124,hx124_0,hl124_0,hi124_0⟩:=at_L1 HR0.out x4_1 p124 q124;cases e124;replace hx124_0:=(HB.out.cell (World.block_lt_of_cell? w _ hx124_0)).trans hx124_0;have HR124_0:=Aside0.mk hi124_0;have HC124_0:=Aside0.mk hl124_0;clear hi124_0 hl124_0;replace p124:=eq_true p124;replace q124:=eq_true q124;have p125:0≤(x4_1:Int):=dt_;have q125:x4_1 < (l0.length:Int):=dt_;obtain⟨ad125,A125_0,c125_0,e125,hx125_0,hl125_0,hi125_0⟩:=at_L1 HR0.out x4_1 p125 q125;obtain rfl:ad124=ad125:=(by injection e125);replace hx125_0:=(HB.out.cell (World.block_lt_of_cell? w _ hx125_0)).trans hx125_0;have HR125_0:=Aside0.mk hi125_0;have HC125_0:=Aside0.mk hl125_0;clear hi125_0 hl125_0;replace p125:=eq_true p125;replace q125:=eq_true q125;have ea_:=Option.some.inj (hx124_0.symm.trans hx125_0);(injection ea_ with ea_ en_ ec_);subst ea_;subst ec_;clear en_;have p126:0≤(x7_3:Int):=dt_;have q126:x7_3 < ((rd_L1 l0 x4_1).length:Int):=dt_;obtain⟨ad126,e126,hx126_0⟩:=Kd.at_string HR125_0.out x7_3 p126 q126;cases e126;replace hx126_0:=(HB.out.cell (World.block_lt_of_cell? w _ hx126_0)).trans hx126_0;replace p126:=eq_true p126;replace q126:=eq_true q126;have p127:0≤(x4_1:Int):=dt_;have q127:x4_1 < (l0.length:Int):=dt_;obtain⟨ad127,A127_0,c127_0,e127,hx127_0,hl127_0,hi127_0⟩:=at_L1 HR0.out x4_1 p127 q127;obtain rfl:ad124=ad127:=(by injection e127);replace hx127_0:=(HB.out.cell (World.block_lt_of_cell? w _ hx127_0)).trans hx127_0;have HR127_0:=Aside0.mk hi127_0;have HC127_0:=Aside0.mk hl127_0;clear hi127_0 hl127_0;replace p127:=eq_true p127;replace q127:=eq_true q127;have ea_:=Option.some.inj (hx124_0.symm.trans hx127_0);(injection ea_ with ea_ en_ ec_);subst ea_;subst ec_;clear en_;(go_wp2_with (first|((with_reducible refine gate_builtin (b := .append) (xs:=#[.tmp 68, .tmp 70]) rfl ?_);(try(refine gate_guard (by rfl) ?_;dsimp only));at_builtin;refine Kd.R_append Kd.string (w0:=w) w.heap.size rfl (.tmp 68) (.tmp 70) 22 9 (.string ⟨#[]⟩) 16 rfl Tryz.underlying22 info9 rfl (by decide) (by omega) u3 x3_3 (rdOf ByteArray.empty (rd_L1 l0 x4_1) x7_3) [.string (rdOf ByteArray.empty (rd_L1 l0 x4_1) x7_3)] (fun _=>True) (fun _=>False) rfl rfl ?aP (fun _ hk=>hk.elim) ?aF ?aO ?aB ?aS ?aL ?_;(case aP=>exact rfl);(case aB=>exact bel_);(case aF=>exact(fun _ _=>trivial));(case aO=>exact(pR_ HO_3.out));(case aS=>exact(below_size bel_));(case aL=>have:=LMc19.out;omega);intro v137 w20 ho hb hg hat;rw[← Ny136.out] at ho;replace HB:=Aside0.mk (hb);have HO138:=Aside0.mk (ho);clear HO_3;clear ho hb hg hat)))
                go_roundg k3
                (case measure=>have:=HK1.out;have:=HK2.out;have:=HK3.out;omega);(case rel=>exact⟨(y136),(wrap64 (x7_3+1)),rs_,H',⟨by have:=HK1.out;have:=HK2.out;have:=HK3.out;omega⟩,⟨pR_ HO138.out⟩,⟨bel_⟩⟩)
               (· exact nx_ c19 H)
             ·
              (rw[if_neg c10] at H);have c10b0:(x7_3 == (wrap64 (((rd_L1 l0 x4_1).length:Int) - 1)))=false:=beq_eq_false_iff_ne.mpr c10;have c10b1:(x7_3 != (wrap64 (((rd_L1 l0 x4_1).length:Int) - 1)))=true:=bne_iff_ne.mpr c10
              by_cases c21:x3_3.length < 8796093022208
              ·
               (rw[if_pos c21] at H);have LMc21:=Aside0.mk c21;clear c21;obtain⟨y139,hy139⟩ : ∃ y_:List ByteArray,y_=(x3_3 ++ [rdOf ByteArray.empty (rd_L1 l0 x4_1) x7_3]):=⟨_,rfl⟩;((try rw[Option.bind_some] at H);rw[← hy139] at H);have Ny139:=Aside0.mk hy139;clear hy139;have H':=Aside0.mk H;clear H;have p124:0≤(x4_1:Int):=dt_;have q124:x4_1 < (l0.length:Int):=dt_;obtain⟨ad124,A124_0,c124_0,e124,hx124_0,hl124_0,hi124_0⟩:=at_L1 HR0.out x4_1 p124 q124;cases e124;replace hx124_0:=(HB.out.cell (World.block_lt_of_cell? w _ hx124_0)).trans hx124_0;have HR124_0:=Aside0.mk hi124_0;have HC124_0:=Aside0.mk hl124_0;clear hi124_0 hl124_0;replace p124:=eq_true p124;replace q124:=eq_true q124;have p125:0≤(x4_1:Int):=dt_;have q125:x4_1 < (l0.length:Int):=dt_;obtain⟨ad125,A125_0,c125_0,e125,hx125_0,hl125_0,hi125_0⟩:=at_L1 HR0.out x4_1 p125 q125;obtain rfl:ad124=ad125:=(by injection e125);replace hx125_0:=(HB.out.cell (World.block_lt_of_cell? w _ hx125_0)).trans hx125_0;have HR125_0:=Aside0.mk hi125_0;have HC125_0:=Aside0.mk hl125_0;clear hi125_0 hl125_0;replace p125:=eq_true p125;replace q125:=eq_true q125;have ea_:=Option.some.inj (hx124_0.symm.trans hx125_0);(injection ea_ with ea_ en_ ec_);subst ea_;subst ec_;clear en_;have p126:0≤(x7_3:Int):=dt_;have q126:x7_3 < ((rd_L1 l0 x4_1).length:Int):=dt_;obtain⟨ad126,e126,hx126_0⟩:=Kd.at_string HR125_0.out x7_3 p126 q126;cases e126;replace hx126_0:=(HB.out.cell (World.block_lt_of_cell? w _ hx126_0)).trans hx126_0;replace p126:=eq_true p126;replace q126:=eq_true q126;have p127:0≤(x4_1:Int):=dt_;have q127:x4_1 < (l0.length:Int):=dt_;obtain⟨ad127,A127_0,c127_0,e127,hx127_0,hl127_0,hi127_0⟩:=at_L1 HR0.out x4_1 p127 q127;obtain rfl:ad124=ad127:=(by injection e127);replace hx127_0:=(HB.out.cell (World.block_lt_of_cell? w _ hx127_0)).trans hx127_0;have HR127_0:=Aside0.mk hi127_0;have HC127_0:=Aside0.mk hl127_0;clear hi127_0 hl127_0;replace p127:=eq_true p127;replace q127:=eq_true q127;have ea_:=Option.some.inj (hx124_0.symm.trans hx127_0);(injection ea_ with ea_ en_ ec_);subst ea_;subst ec_;clear en_;(go_wp2_with (first|((with_reducible refine gate_builtin (b := .append) (xs:=#[.tmp 68, .tmp 70]) rfl ?_);(try(refine gate_guard (by rfl) ?_;dsimp only));at_builtin;refine Kd.R_append Kd.string (w0:=w) w.heap.size rfl (.tmp 68) (.tmp 70) 22 9 (.string ⟨#[]⟩) 16 rfl Tryz.underlying22 info9 rfl (by decide) (by omega) u3 x3_3 (rdOf ByteArray.empty (rd_L1 l0 x4_1) x7_3) [.string (rdOf ByteArray.empty (rd_L1 l0 x4_1) x7_3)] (fun _=>True) (fun _=>False) rfl rfl ?aP (fun _ hk=>hk.elim) ?aF ?aO ?aB ?aS ?aL ?_;(case aP=>exact rfl);(case aB=>exact bel_);(case aF=>exact(fun _ _=>trivial));(case aO=>exact(pR_ HO_3.out));(case aS=>exact(below_size bel_));(case aL=>have:=LMc21.out;omega);intro v140 w22 ho hb hg hat;rw[← Ny139.out] at ho;replace HB:=Aside0.mk (hb);have HO141:=Aside0.mk (ho);clear HO_3;clear ho hb hg hat)))
               go_roundg k3
               (case measure=>have:=HK1.out;have:=HK2.out;have:=HK3.out;omega);(case rel=>exact⟨(y139),(wrap64 (x7_3+1)),rs_,H',⟨by have:=HK1.out;have:=HK2.out;have:=HK3.out;omega⟩,⟨pR_ HO141.out⟩,⟨bel_⟩⟩)
              (· exact nx_ c21 H)
            (· exact nx_ c9 H)
           ·
            (rw[if_neg c8] at H);have c8b0:decide (x7_3 < ((rd_L1 l0 x4_1).length:Int))=false:=decide_eq_false c8;clear c8;have H':=Aside0.mk H;clear H;have p124:0≤(x4_1:Int):=dt_;have q124:x4_1 < (l0.length:Int):=dt_;obtain⟨ad124,A124_0,c124_0,e124,hx124_0,hl124_0,hi124_0⟩:=at_L1 HR0.out x4_1 p124 q124;cases e124;replace hx124_0:=(HB.out.cell (World.block_lt_of_cell? w _ hx124_0)).trans hx124_0;have HR124_0:=Aside0.mk hi124_0;have HC124_0:=Aside0.mk hl124_0;clear hi124_0 hl124_0;replace p124:=eq_true p124;replace q124:=eq_true q124;go_wp2
            go_roundg k3
            (case measure=>have:=HK1.out;have:=HK2.out;have:=HK3.out;omega);(case rel=>exact⟨(x3_3),(wrap64 (x4_1+1)),rs_,H',⟨by have:=HK1.out;have:=HK2.out;have:=HK3.out;omega⟩,⟨pR_ HO_3.out⟩,⟨bel_⟩⟩)
          (· exact nx_ c7 H)
         (· exact nx_ c6 H)
   (· (rw[if_neg c2] at H);have c2b0:decide (x4_1 < (l0.length:Int))=false:=decide_eq_false c2;clear c2;obtain rfl:=Option.some.inj H;go_wp2;go_ret;exact⟨_,ew_,by(with_reducible repeat(first|apply Kd.R_alloc|apply Kd.R_drewN|apply Kd.R_drew));exact HO_3.out,bel_⟩)
def sennitref06_within.f (a0_0:Int) (a0_1:Int) (a1:Int):Option (Bool):=if a0_0 ≥ 0 then (if a0_0≤a0_1 then (some (decide (a0_1≤a1))) else (some false)) else (some false)
theorem sennitref06_within.calls (a0_0:Int) (a0_1:Int) (a1:Int) (r:Bool) (w:World) (h:sennitref06_within.f a0_0 a0_1 a1=some r) :
    Calls Tryz.prog 48 #[.agg #[.int .i64 a0_0, .int .i64 a0_1], .int .i64 a1] w fun e w'=>e = .returned (.bool r)∧Below w.heap.size w w':=by
 have hu45:=Tryz.underlying45;have HB:=Aside0.mk (Below.refl w.heap.size w);have H:=h;(rw[sennitref06_within.f] at H);clear h
 by_cases c3:a0_0 ≥ 0
 ·
  (rw[if_pos c3] at H);have c3b0:decide (0≤a0_0)=true:=decide_eq_true c3;clear c3
  by_cases c4:a0_0≤a0_1
  (· (rw[if_pos c4] at H);have c4b0:decide (a0_0≤a0_1)=true:=decide_eq_true c4;clear c4;obtain rfl:=Option.some.inj H;go_enter Tryz.func48,Tryz.ntmps48;(go_wp2_with (first|((with_reducible refine gate_dst (N:=2) rfl ?_);refine box_event ?hg (N:=2) ?hd (cs:=#[.int .i64 a0_0, .int .i64 a0_1]) (t:=45) ?hr ?_;(case hd=>rfl);(case hg=>rfl);(case hr=>first|(go_simp;done)|(go_simp;rfl));intro gb101 hg w5 hbox hb;have BK101:=Aside0.mk (hbox);have GW101:=Aside0.mk ((by rw[hg];exact(below_size bel_):w.heap.size≤gb101));have GE101:=Aside0.mk ((by rw[hg];exact(below_size bel_):w.heap.size≤gb101));replace HB:=Aside0.mk (below_step bel_ hb);clear hb hbox hg;have hcz6_0:w5.cell? ⟨gb101,0,none⟩=some (.int .i64 a0_0):=(blk_cell BK101.out 0).trans rfl;have hcz6_1:w5.cell? ⟨gb101,1,none⟩=some (.int .i64 a0_1):=(blk_cell BK101.out 1).trans rfl;have hfz6_0:=blk_frozen BK101.out 0;have hfz6_1:=blk_frozen BK101.out 1)));go_ret;exact⟨by first|rfl|(simp[errW_none,errW_some] <;> rfl)|(simp[*,errW_none,errW_some] <;> rfl),by repeat(first|(with_reducible first|exact HB.out|apply below_alloc|apply pw_below_drewN|apply below_drew1|refine below_set ?_ GE101.out)|exact HB.out)⟩);(· (rw[if_neg c4] at H);have c4b0:decide (a0_0≤a0_1)=false:=decide_eq_false c4;clear c4;obtain rfl:=Option.some.inj H;go_enter Tryz.func48,Tryz.ntmps48;(go_wp2_with (first|((with_reducible refine gate_dst (N:=2) rfl ?_);refine box_event ?hg (N:=2) ?hd (cs:=#[.int .i64 a0_0, .int .i64 a0_1]) (t:=45) ?hr ?_;(case hd=>rfl);(case hg=>rfl);(case hr=>first|(go_simp;done)|(go_simp;rfl));intro gb101 hg w7 hbox hb;have BK101:=Aside0.mk (hbox);have GW101:=Aside0.mk ((by rw[hg];exact(below_size bel_):w.heap.size≤gb101));have GE101:=Aside0.mk ((by rw[hg];exact(below_size bel_):w.heap.size≤gb101));replace HB:=Aside0.mk (below_step bel_ hb);clear hb hbox hg;have hcz8_0:w7.cell? ⟨gb101,0,none⟩=some (.int .i64 a0_0):=(blk_cell BK101.out 0).trans rfl;have hcz8_1:w7.cell? ⟨gb101,1,none⟩=some (.int .i64 a0_1):=(blk_cell BK101.out 1).trans rfl;have hfz8_0:=blk_frozen BK101.out 0;have hfz8_1:=blk_frozen BK101.out 1)));go_ret;exact⟨by first|rfl|(simp[errW_none,errW_some] <;> rfl)|(simp[*,errW_none,errW_some] <;> rfl),by repeat(first|(with_reducible first|exact HB.out|apply below_alloc|apply pw_below_drewN|apply below_drew1|refine below_set ?_ GE101.out)|exact HB.out)⟩)
 (· (rw[if_neg c3] at H);have c3b0:decide (0≤a0_0)=false:=decide_eq_false c3;clear c3;obtain rfl:=Option.some.inj H;go_enter Tryz.func48,Tryz.ntmps48;(go_wp2_with (first|((with_reducible refine gate_dst (N:=2) rfl ?_);refine box_event ?hg (N:=2) ?hd (cs:=#[.int .i64 a0_0, .int .i64 a0_1]) (t:=45) ?hr ?_;(case hd=>rfl);(case hg=>rfl);(case hr=>first|(go_simp;done)|(go_simp;rfl));intro gb101 hg w9 hbox hb;have BK101:=Aside0.mk (hbox);have GW101:=Aside0.mk ((by rw[hg];exact(below_size bel_):w.heap.size≤gb101));have GE101:=Aside0.mk ((by rw[hg];exact(below_size bel_):w.heap.size≤gb101));replace HB:=Aside0.mk (below_step bel_ hb);clear hb hbox hg;have hcz10_0:w9.cell? ⟨gb101,0,none⟩=some (.int .i64 a0_0):=(blk_cell BK101.out 0).trans rfl;have hcz10_1:w9.cell? ⟨gb101,1,none⟩=some (.int .i64 a0_1):=(blk_cell BK101.out 1).trans rfl;have hfz10_0:=blk_frozen BK101.out 0;have hfz10_1:=blk_frozen BK101.out 1)));go_ret;exact⟨by first|rfl|(simp[errW_none,errW_some] <;> rfl)|(simp[*,errW_none,errW_some] <;> rfl),by repeat(first|(with_reducible first|exact HB.out|apply below_alloc|apply pw_below_drewN|apply below_drew1|refine below_set ?_ GE101.out)|exact HB.out)⟩)
mutual
def sennitref06_Parts.l0:Nat→List ByteArray→List (List ByteArray)→Bool→Int→Bool→Int→Int→List (S45)→Option (List ByteArray × (List (List ByteArray)) × Int)
  | 0,_,_,_,_,_,_,_,_=>none
  | k+1,x1,x2,x9,x10,x103000,x103001,x103002,x103003=>if x10 < (x2.length:Int) then (if x9=true then (if 0≤x10 then (if x10 < (x103003.length:Int) then ((sennitref06_within.f ((rd_T45 x103003 x10).f0) ((rd_T45 x103003 x10).f1) ((rd_L1 x2 x10).length:Int)).bind fun t106=>(sennitref06_Parts.l0 k x1 x2 t106 (wrap64 (x10+1)) x103000 x103001 x103002 x103003)) else (none)) else (none)) else (sennitref06_Parts.l0 k x1 x2 false (wrap64 (x10+1)) x103000 x103001 x103002 x103003)) else (if x9=true then (sennitref06_Parts.l1 k x1 x2 ([]:List (List ByteArray)) 0 x103000 x103001 x103002 x103003) else (some (([]:List ByteArray),([]:List (List ByteArray)),3)))
def sennitref06_Parts.l1:Nat→List ByteArray→List (List ByteArray)→List (List ByteArray)→Int→Bool→Int→Int→List (S45)→Option (List ByteArray × (List (List ByteArray)) × Int)
  | 0,_,_,_,_,_,_,_,_=>none
  | k+1,x1,x2,x11,x12,x103000,x103001,x103002,x103003=>if x12 < (x2.length:Int) then (if 0≤x12 then (if x12 < (x103003.length:Int) then (if 0≤((rd_T45 x103003 x12).f0) then (if ((rd_T45 x103003 x12).f0)≤((rd_T45 x103003 x12).f1) then (if ((rd_T45 x103003 x12).f1)≤((rd_L1 x2 x12).length:Int) then (if x11.length < 5864062014805 then (sennitref06_Parts.l1 k x1 x2 (x11 ++ [(((rd_L1 x2 x12).take (((rd_T45 x103003 x12).f1):Int).toNat).drop (((rd_T45 x103003 x12).f0):Int).toNat)]) (wrap64 (x12+1)) x103000 x103001 x103002 x103003) else (none)) else (none)) else (none)) else (none)) else (none)) else (none)) else (if 0≤x103001 then (if x103001≤x103002 then (if x103002≤(x1.length:Int) then (some (((x1.take (x103002:Int).toNat).drop (x103001:Int).toNat),x11,0)) else (none)) else (none)) else (none))
end
def sennitref06_Parts.f (k:Nat) (a0_0:Bool) (a0_1:Int) (a0_2:Int) (l0_3:List (S45)) (l1:List ByteArray) (l2:List (List ByteArray)):Option (List ByteArray × (List (List ByteArray)) × Int):=if (l0_3.length:Int)=(l2.length:Int) then ((sennitref06_within.f a0_1 a0_2 (l1.length:Int)).bind fun t103=>(sennitref06_Parts.l0 k l1 l2 t103 0 a0_0 a0_1 a0_2 l0_3)) else (some (([]:List ByteArray),([]:List (List ByteArray)),1))
def sennitref06_Parts.T7:Bool × List (List Nat × List Nat):=(true,[([],[]),([0],[0]),([1],[1]),([2,1],[1,2]),([1],[1]),([3,4,1],[1,3,4]),([5,1],[1,5]),([1],[1]),([1],[1]),([7,8,1],[1,7,8]),([9,1],[1,9]),([10,1],[1,10]),([6,11,1,1],[1,6,11]),([1,12],[1,12]),([13,12,0,1,2,3,4,5,6,7,8,9,10,11,12,13],[0,13])])
def sennitref06_Parts.B7:List Nat:=[0,1,3,7,3,31,63,3,3,387,899,1923,4095,8191,16383]
theorem sennitref06_Parts.tab7:rtab .any (opsOf Tryz.f22 7)=sennitref06_Parts.T7:=by kernel_rfl
theorem sennitref06_Parts.bits7:waitsOk sennitref06_Parts.T7.2 sennitref06_Parts.B7=true:=by kernel_rfl
def sennitref06_Parts.T14:Bool × List (List Nat × List Nat):=(true,[([],[]),([],[]),([],[]),([1,2],[1,2]),([3],[3]),([],[]),([5],[5]),([],[]),([6,7],[6,7]),([8],[8]),([9],[9]),([],[]),([11],[11]),([],[]),([12,13],[12,13]),([14],[14]),([15],[15]),([4,10,16],[4,10,16]),([17],[17]),([0,18],[0,18]),([19,19,0,1,2,3,4,5,6,7,8,9,10,11,12,13,14,15,16,17,18,19],[0,19])])
def sennitref06_Parts.B14:List Nat:=[0,0,0,6,14,0,32,0,224,480,992,0,2048,0,14336,30720,63488,131070,262142,524287,1048575]
theorem sennitref06_Parts.tab14:rtab .any (opsOf Tryz.f22 14)=sennitref06_Parts.T14:=by kernel_rfl
theorem sennitref06_Parts.bits14:waitsOk sennitref06_Parts.T14.2 sennitref06_Parts.B14=true:=by kernel_rfl
theorem sennitref06_Parts.calls (k:Nat) (a0_0:Bool) (a0_1:Int) (a0_2:Int) (A0_3:Option Addr) (c0_3:Nat) (l0_3:List (S45)) (P1_:Nat→Prop) (A1:Option Addr) (c1:Nat) (l1:List ByteArray) (P2_:Nat→Prop) (A2:Option Addr) (c2:Nat) (l2:List (List ByteArray)) (r1:List ByteArray) (r2:List (List ByteArray)) (r3:Int) (w:World) (hr0_3:Kd.C k45 w A0_3 l0_3.length l0_3) (hc0_3:l0_3.length≤c0_3) (hs1:Kd.V Kd.string 9 w w.heap.size (fun k_=>P1_ k_) (.slice A1 l1.length c1) l1) (hs2:Kd.V (Kd.slice 9 Kd.string) 22 w w.heap.size (fun k_=>P2_ k_) (.slice A2 l2.length c2) l2) (h:sennitref06_Parts.f k a0_0 a0_1 a0_2 l0_3 l1 l2=some (r1,r2,r3)) :
    Calls Tryz.prog 22 #[.agg #[.bool a0_0, .int .i64 a0_1, .int .i64 a0_2, .slice A0_3 l0_3.length c0_3], .slice A1 l1.length c1, .slice A2 l2.length c2] w fun e w' => ∃ v0_ v1_:Value,e = .returned (.tuple #[v0_,v1_, .int .i64 r3])∧Kd.V Kd.string 9 w' w.heap.size (fun k_=>((P1_ k_∨P2_ k_)∨w.heap.size≤k_)∧some k_≠(v1_:Value).ownBlock) v0_ r1∧Kd.N (Kd.slice 9 Kd.string) 22 w' w.heap.size (fun k_=>((P1_ k_∨P2_ k_)∨w.heap.size≤k_)) v1_ r2∧Below w.heap.size w w':=by
 have hu48:=Tryz.underlying48;have hu45:=Tryz.underlying45;have HR0_3:=Aside0.mk hr0_3;have HC0_3:=Aside0.mk hc0_3;clear hr0_3 hc0_3;have HO1:=Aside0.mk (show Kd.V Kd.string 9 w w.heap.size (fun k_=>((P1_ k_∨P2_ k_)∨w.heap.size≤k_)) (.slice A1 l1.length c1) l1 from Kd.V_mono hs1 (fun k_ hk => .inl (.inl hk)));have HO2:=Aside0.mk (show Kd.V (Kd.slice 9 Kd.string) 22 w w.heap.size (fun k_=>((P1_ k_∨P2_ k_)∨w.heap.size≤k_)) (.slice A2 l2.length c2) l2 from Kd.V_mono hs2 (fun k_ hk => .inl (.inr hk)));have HB:=Aside0.mk (Below.refl w.heap.size w);have H:=h;(rw[sennitref06_Parts.f] at H);clear h
 by_cases c4:(l0_3.length:Int)=(l2.length:Int)
 ·
  (rw[if_pos c4] at H);have c4b0:((l0_3.length:Int) == (l2.length:Int))=true:=beq_iff_eq.mpr c4;have c4b1:((l0_3.length:Int) != (l2.length:Int))=false:=bne_eq_false_iff_eq.mpr c4;(have c4b2:(l0_3.length == l2.length)=true:=by first|simpa using c4|(simp at c4 ⊢;omega));clear c4;replace H:=Option.bind_eq_some_iff.mp H;obtain⟨t103,A50,H⟩:=H;(try dsimp only at H);have A5:=Aside0.mk A50;clear A50;have H':=Aside0.mk H;clear H;go_enter Tryz.func22,Tryz.ntmps22;(go_wp2_with (first|((with_reducible refine gate_dst (N:=3) rfl ?_);(try(refine gate_guard (by rfl) ?_;dsimp only));refine box_event ?hg (N:=3) ?hd (cs:=#[.bool a0_0, .int .i64 a0_1, .int .i64 a0_2, .slice A0_3 l0_3.length c0_3]) (t:=48) ?hr ?_;(case hd=>rfl);(case hg=>rfl);(case hr=>first|(go_simp;done)|(go_simp;rfl));intro gb102 hg w6 hbox hb;replace HO1:=Aside0.mk (Kd.V_below (Kd.V_elderB (pV_ HO1.out) gb102 (Nat.le_of_eq hg.symm)) hb);replace HO2:=Aside0.mk (Kd.V_below (Kd.V_elderB (pV_ HO2.out) gb102 (Nat.le_of_eq hg.symm)) hb);have BK102:=Aside0.mk (hbox);have GW102:=Aside0.mk ((by rw[hg];exact(below_size bel_):w.heap.size≤gb102));have GE102:=Aside0.mk ((by rw[hg];exact(below_size bel_):w.heap.size≤gb102));replace HB:=Aside0.mk (below_step bel_ hb);clear hb hbox hg;have hcz7_0:w6.cell? ⟨gb102,0,none⟩=some (.bool a0_0):=(blk_cell BK102.out 0).trans rfl;have hcz7_1:w6.cell? ⟨gb102,1,none⟩=some (.int .i64 a0_1):=(blk_cell BK102.out 1).trans rfl;have hcz7_2:w6.cell? ⟨gb102,2,none⟩=some (.int .i64 a0_2):=(blk_cell BK102.out 2).trans rfl;have hcz7_3:w6.cell? ⟨gb102,3,none⟩=some (.slice A0_3 l0_3.length c0_3):=(blk_cell BK102.out 3).trans rfl;have hfz7_0:=blk_frozen BK102.out 0;have hfz7_1:=blk_frozen BK102.out 1;have hfz7_2:=blk_frozen BK102.out 2;have hfz7_3:=blk_frozen BK102.out 3)|((with_reducible refine gate_callee (f:=48) rfl ?_);refine goesL_ (some 23) rfl rfl Tryz.func48 (by kernel_rfl) rfl #[.agg #[.int .i64 a0_1, .int .i64 a0_2], .int .i64 (l1.length:Int)] rfl am_ ?_;(with_reducible refine(sennitref06_within.calls a0_1 a0_2 (l1.length:Int) t103 _ A5.out).mono ?_);rintro e w8 ⟨rfl,hb⟩;refine⟨_,rfl,?_⟩;replace HO1:=Aside0.mk (Kd.V_below (pV_ HO1.out) hb);replace HO2:=Aside0.mk (Kd.V_below (pV_ HO2.out) hb);replace BK102:=Aside0.mk (blk_below (g:=gb102) (o := .cells #[.bool a0_0, .int .i64 a0_1, .int .i64 a0_2, .slice A0_3 l0_3.length c0_3] 48 (0,0)) (pK_ BK102.out) hb);replace HB:=Aside0.mk (below_step (bs1_ GE102.out) hb);(try clear hb);(try clear hb2);(try clear hk);(try clear hi))))
  go_loopg [9,10] k (fun kq v9 v10 w' => ∃ (x9_1:Bool) (x10_1:Int),v9 = .bool x9_1∧v10 = .int .i64 x10_1∧Aside0 (sennitref06_Parts.l0 kq l1 l2 x9_1 x10_1 a0_0 a0_1 a0_2 l0_3=some (r1,r2,r3))∧Aside0 (kq≤k)∧Aside0 (Kd.V Kd.string 9 w' w.heap.size (fun k_=>((P1_ k_∨P2_ k_)∨w.heap.size≤k_)∧k_≠gb102) (.slice A1 l1.length c1) l1)∧Aside0 (Kd.V (Kd.slice 9 Kd.string) 22 w' w.heap.size (fun k_=>((P1_ k_∨P2_ k_)∨w.heap.size≤k_)∧k_≠gb102) (.slice A2 l2.length c2) l2)∧Aside0 (w'.heap[gb102]? = some (.cells #[.bool a0_0, .int .i64 a0_1, .int .i64 a0_2,(.slice A0_3 l0_3.length c0_3)] 48 (0,0)))∧Aside0 (Below w.heap.size w w'))
  (case atStart=>exact⟨(t103),(0),rs_,rs_,H',⟨Nat.le_refl _⟩,⟨pV_ HO1.out⟩,⟨pV_ HO2.out⟩,⟨pK_ BK102.out⟩,⟨bs1_ GE102.out⟩⟩)
  case round =>
   clear H';(try clear c1);(try clear c2);(try clear p2);(try clear c4);(try clear c4b0);(try clear c4b1);(try clear c4b2);(try clear hcz7_0);(try clear hcz7_1);(try clear hcz7_2);(try clear hcz7_3);(try clear hfz7_0);(try clear hfz7_1);(try clear hfz7_2);(try clear hfz7_3);obtain⟨x9_1,x10_1,rfl,rfl,HA,HK1,HO_1,HO_2,BK102,HB⟩:=hrel
   cases gk with
   | zero=>exact absurd HA.out (by simp[sennitref06_Parts.l0])
   | succ k1 =>
    have H:=HA.out;clear HA;(simp only[sennitref06_Parts.l0] at H)
    by_cases c9:x10_1 < (l2.length:Int)
    ·
     (rw[if_pos c9] at H);have c9b0:decide (x10_1 < (l2.length:Int))=true:=decide_eq_true c9;clear c9
     by_cases c10:x9_1=true
     ·
      subst c10;have H1:=H;(rw[if_pos rfl] at H1);clear H;have H:=H1;clear H1
      by_cases c11:0≤x10_1
      ·
       (rw[if_pos c11] at H);have c11b0:decide (0≤x10_1)=true:=decide_eq_true c11;clear c11
       by_cases c12:x10_1 < (l0_3.length:Int)
       ·
        (rw[if_pos c12] at H);have c12b0:decide (x10_1 < (l0_3.length:Int))=true:=decide_eq_true c12;clear c12;replace H:=Option.bind_eq_some_iff.mp H;obtain⟨t106,A130,H⟩:=H;(try dsimp only at H);have A13:=Aside0.mk A130;clear A130;have H':=Aside0.mk H;clear H;(try go_wp2);replace HO_1:=Aside0.mk (Kd.V_drew HO_1.out);replace HO_2:=Aside0.mk (Kd.V_drew HO_2.out);replace BK102:=Aside0.mk (blk_drew BK102.out);replace HB:=Aside0.mk (below_drew1 HB.out);have p104:0≤(x10_1:Int):=dt_;have q104:x10_1 < (l0_3.length:Int):=dt_;obtain⟨ad104,e104,hx104_0,hx104_1⟩:=at_T45 HR0_3.out x10_1 p104 q104;have hw104_1:=hx104_1;have hw104_0:=hx104_0;cases e104;replace hx104_0:=(HB.out.cell (World.block_lt_of_cell? w _ hx104_0)).trans hx104_0;replace hx104_1:=(HB.out.cell (World.block_lt_of_cell? w _ hx104_1)).trans hx104_1;replace p104:=eq_true p104;replace q104:=eq_true q104;have p105:0≤(x10_1:Int):=dt_;have q105:x10_1 < (l2.length:Int):=dt_;obtain⟨ad105,A105_0,c105_0,e105,hx105_0,hl105_0,hi105_0⟩:=at_L1 (Kd.V_reads' HO_2.out).2.2 x10_1 p105 q105;cases e105;obtain⟨ce105,hce105,hMe105,hcc105⟩:=Kd.V_get HO_2.out [] x10_1 p105 (by first|exact q105|exact dt_|(have e_:=(Kd.V_reads' HO_2.out).1;omega));obtain⟨ua105_0,uc105_0,rfl,ul105_0,ge105_0⟩:=Kd.FK_slice_open hMe105;have hv105_0:=hcc105 0 _ rfl;(rw[Nat.add_zero,show ((Kd.slice 9 Kd.string)).sz=1 from rfl,Nat.mul_one] at hv105_0);replace hv105_0:=Option.some.inj (hv105_0.symm.trans hx105_0);(injection hv105_0 with hva_ hvn_ hvc_);(rw[hva_] at ge105_0);(rw[hvc_] at ul105_0);have HL105_0:=Aside0.mk (show Kd.V Kd.string 9 _ w.heap.size _ _ (rd_L1 l2 x10_1) from Kd.V_mk ul105_0 ge105_0);clear hva_ hvn_ hvc_ ge105_0 ul105_0;clear hcc105 hce105;have HR105_0:=Aside0.mk hi105_0;have HC105_0:=Aside0.mk hl105_0;clear hi105_0 hl105_0;replace p105:=eq_true p105;replace q105:=eq_true q105;(refine start_ (n:=15) (S:=fun w'=>w'.cell? ⟨gb102,0,none⟩=some (.bool a0_0)∧w'.cell? ⟨gb102,1,none⟩=some (.int .i64 a0_1)∧w'.cell? ⟨gb102,2,none⟩=some (.int .i64 a0_2)∧w'.cell? ⟨gb102,3,none⟩=some (.slice (some ad104) l0_3.length c0_3)∧w'.cell? (ad104.add ((x10_1).toNat * 2))=some (.int .i64 ((rd_T45 l0_3 x10_1).f0))∧w'.cell? ⟨(ad104.add ((x10_1).toNat * 2)).block,(ad104.add ((x10_1).toNat * 2)).off+1,none⟩=some (.int .i64 ((rd_T45 l0_3 x10_1).f1))∧w'.cell? (ad105.add (x10_1).toNat)=some (.slice A105_0 (rd_L1 l2 x10_1).length c105_0)) (ds:=[]) (bm_ 15 0) (by kernel_rfl) rfl rfl ⟨(blk_cell BK102.out 0).trans rfl,(blk_cell BK102.out 1).trans rfl,(blk_cell BK102.out 2).trans rfl,(blk_cell BK102.out 3).trans rfl,((HB.out.cell (World.block_lt_of_cell? w _ hw104_0)).trans hw104_0),((HB.out.cell (World.block_lt_of_cell? w _ hw104_1)).trans hw104_1),hx105_0⟩ (fun hHeld=>?_);refine with_tabW sennitref06_Parts.tab7 sennitref06_Parts.bits7 (fun HT_ HW_=>?_));(generalize wr.drew=w14 at HO_1 HO_2 BK102 HB HL105_0 HR105_0 hx104_0 hx104_1 hx105_0 hHeld ⊢);refine pq_ (i:=0) (N:=some 30) (hc:=any_of HT_.out (by kernel_rfl)) (bm_ 15 1) ?_;refine pq_ (i:=1) (N:=some 31) (hc:=any_of HT_.out (by kernel_rfl)) (bm_ 15 3) ?_;refine pq_ (i:=2) (N:=some 32) (hc:=any_of HT_.out (by kernel_rfl)) (bm_ 15 7) ?_;refine pq_ (i:=4) (N:=some 34) (hc:=any_of HT_.out (by kernel_rfl)) (bm_ 15 23) ?_;refine pq_ (i:=7) (N:=some 37) (hc:=any_of HT_.out (by kernel_rfl)) (bm_ 15 151) ?_;refine pure_ (i:=8) (N:=some 38) (v:=?_) (a':=?_) (bm_ 15 407) rfl rfl (any_of HT_.out (by kernel_rfl)) (fun _ _ _ h=>h) (Or.inl ⟨by rfl,?_⟩) ?_ ?_;rotate_left;(· intro w';go_simp;(with_reducible rfl));rotate_left
        (· simp only[Act.put,List.setIfInBounds_toArray,List.set_cons_zero,List.set_cons_succ,i64_w,i32_w];rfl);refine pq_ (i:=9) (N:=some 39) (hc:=any_of HT_.out (by kernel_rfl)) (bm_ 15 919) ?_;refine tq_ (i:=3) (N:=some 33) (hc:=take_ofW HT_.out HW_.out (by kernel_rfl)) (bm_ 15 927) hHeld ?_;refine pq_ (i:=5) (N:=some 35) (hc:=any_of HT_.out (by kernel_rfl)) (bm_ 15 959) ?_;refine tq_ (i:=6) (N:=some 36) (hc:=take_ofW HT_.out HW_.out (by kernel_rfl)) (bm_ 15 1023) hHeld ?_;refine tq_ (i:=10) (N:=some 40) (hc:=take_ofW HT_.out HW_.out (by kernel_rfl)) (bm_ 15 2047) hHeld ?_;refine pq_ (i:=11) (N:=some 41) (hc:=any_of HT_.out (by kernel_rfl)) (bm_ 15 4095) ?_;refine one_ (i:=12) (N:=some 42) (bm_ 15 8191) rfl rfl (one_of HT_.out (by kernel_rfl)) (by decide) (fun K hK=>?_);refine goes_ Tryz.func48 (by kernel_rfl) rfl #[.agg #[.int .i64 ((rd_T45 l0_3 x10_1).f0), .int .i64 ((rd_T45 l0_3 x10_1).f1)], .int .i64 ((rd_L1 l2 x10_1).length:Int)] (by rfl) rfl rfl am_ ?_;(with_reducible refine(sennitref06_within.calls ((rd_T45 l0_3 x10_1).f0) ((rd_T45 l0_3 x10_1).f1) ((rd_L1 l2 x10_1).length:Int) t106 _ A13.out).mono ?_);rintro e w15 ⟨rfl,hb⟩;have HS6_:=(hb.cell (World.block_lt_of_cell? _ _ (hHeld.2.2.2.2.2.2))).trans (hHeld.2.2.2.2.2.2);refine⟨_,rfl,?_⟩;replace HO_1:=Aside0.mk (Kd.V_below (pV_ HO_1.out) hb);replace HO_2:=Aside0.mk (Kd.V_below (pV_ HO_2.out) hb);replace HL105_0:=Aside0.mk (Kd.V_below (pV_ HL105_0.out) hb);replace BK102:=Aside0.mk (blk_below (g:=gb102) (o := .cells #[.bool a0_0, .int .i64 a0_1, .int .i64 a0_2, .slice (some ad104) l0_3.length c0_3] 48 (0,0)) (pK_ BK102.out) hb);replace HR105_0:=Aside0.mk (Kd.C_below (pC_ HR105_0.out) hb);replace HB:=Aside0.mk (below_step (bs1_ GE102.out) hb);(try clear hb);(try clear hb2);(try clear hk);(try clear hi);refine hK.out _ _ ⟨(blk_cell BK102.out 0).trans rfl,(blk_cell BK102.out 1).trans rfl,(blk_cell BK102.out 2).trans rfl,(blk_cell BK102.out 3).trans rfl,((HB.out.cell (World.block_lt_of_cell? w _ hw104_0)).trans hw104_0),((HB.out.cell (World.block_lt_of_cell? w _ hw104_1)).trans hw104_1),HS6_⟩ (fun hHeld=>?_);clear hK K;refine nq_ (N:=some 42) ?_;refine pq_ (i:=13) (N:=some 43) (hc:=any_of HT_.out (by kernel_rfl)) (bm_ 15 16383) ?_
        refine pq_ (i:=14) (N:=some 9) (hc:=any_of HT_.out (by kernel_rfl)) (bm_ 15 32767) ?_;refine done_ (done_of HT_.out (by kernel_rfl)) ?_;(try go_wp2)
        go_roundg k1
        (case measure=>have:=HK1.out;omega);(case rel=>exact⟨(t106),(wrap64 (x10_1+1)),rs_,rs_,H',⟨by have:=HK1.out;omega⟩,⟨pV_ HO_1.out⟩,⟨pV_ HO_2.out⟩,⟨pK_ BK102.out⟩,⟨bs1_ GE102.out⟩⟩)
       (· exact nx_ c12 H)
      (· exact nx_ c11 H)
     ·
      replace c10:=Bool.eq_false_iff.mpr c10;subst c10;have H1:=H;(rw[if_neg (show ¬ (false=true) by decide)] at H1);clear H;have H:=H1;clear H1;have H':=Aside0.mk H;clear H;(try go_wp2);replace HO_1:=Aside0.mk (Kd.V_drew HO_1.out);replace HO_2:=Aside0.mk (Kd.V_drew HO_2.out);replace BK102:=Aside0.mk (blk_drew BK102.out);replace HB:=Aside0.mk (below_drew1 HB.out);(refine start_ (n:=15) (S:=fun w'=>True) (ds:=[]) (bm_ 15 0) (by kernel_rfl) rfl rfl trivial (fun hHeld=>?_);refine with_tabW sennitref06_Parts.tab7 sennitref06_Parts.bits7 (fun HT_ HW_=>?_));(generalize wr.drew=w16 at HO_1 HO_2 BK102 HB hHeld ⊢);refine pq_ (i:=0) (N:=some 30) (hc:=any_of HT_.out (by kernel_rfl)) (bm_ 15 1) ?_;refine pq_ (i:=1) (N:=some 31) (hc:=any_of HT_.out (by kernel_rfl)) (bm_ 15 3) ?_;refine pu_ (i:=2) (N:=some 32) (hc:=any_of HT_.out (by kernel_rfl)) (bm_ 15 7) ?_;refine pu_ (i:=3) (N:=some 33) (hc:=any_of HT_.out (by kernel_rfl)) (bm_ 15 15) ?_;refine pu_ (i:=4) (N:=some 34) (hc:=any_of HT_.out (by kernel_rfl)) (bm_ 15 31) ?_;refine pu_ (i:=5) (N:=some 35) (hc:=any_of HT_.out (by kernel_rfl)) (bm_ 15 63) ?_;refine pu_ (i:=6) (N:=some 36) (hc:=any_of HT_.out (by kernel_rfl)) (bm_ 15 127) ?_;refine pu_ (i:=7) (N:=some 37) (hc:=any_of HT_.out (by kernel_rfl)) (bm_ 15 255) ?_;refine pu_ (i:=8) (N:=some 38) (hc:=any_of HT_.out (by kernel_rfl)) (bm_ 15 511) ?_;refine pu_ (i:=9) (N:=some 39) (hc:=any_of HT_.out (by kernel_rfl)) (bm_ 15 1023) ?_;refine pu_ (i:=10) (N:=some 40) (hc:=any_of HT_.out (by kernel_rfl)) (bm_ 15 2047) ?_;refine pu_ (i:=11) (N:=some 41) (hc:=any_of HT_.out (by kernel_rfl)) (bm_ 15 4095) ?_;refine pu_ (i:=12) (N:=some 42) (hc:=any_of HT_.out (by kernel_rfl)) (bm_ 15 8191) ?_;refine pure_ (i:=13) (N:=some 43) (v:=?_) (a':=?_) (bm_ 15 16383) rfl rfl (any_of HT_.out (by kernel_rfl)) (fun _ _ _ h=>h) (Or.inl ⟨by rfl,?_⟩) ?_ ?_;rotate_left
      (· intro w';go_simp;(with_reducible rfl));rotate_left;(· simp only[Act.put,List.setIfInBounds_toArray,List.set_cons_zero,List.set_cons_succ,i64_w,i32_w];rfl);refine pq_ (i:=14) (N:=some 9) (hc:=any_of HT_.out (by kernel_rfl)) (bm_ 15 32767) ?_;refine done_ (done_of HT_.out (by kernel_rfl)) ?_;(try go_wp2)
      go_roundg k1
      (case measure=>have:=HK1.out;omega);(case rel=>exact⟨(false),(wrap64 (x10_1+1)),rs_,rs_,H',⟨by have:=HK1.out;omega⟩,⟨pV_ HO_1.out⟩,⟨pV_ HO_2.out⟩,⟨pK_ BK102.out⟩,⟨bs1_ GE102.out⟩⟩)
    ·
     (rw[if_neg c9] at H);have c9b0:decide (x10_1 < (l2.length:Int))=false:=decide_eq_false c9;clear c9
     by_cases c17:x9_1=true
     ·
      subst c17;have H1:=H;(rw[if_pos rfl] at H1);clear H;have H:=H1;clear H1;have H':=Aside0.mk H;clear H;go_wp2
      go_loopg [11,12] k1 (fun kq v11 v12 w' => ∃ (x11_2:List (List ByteArray)) (x12_2:Int),v12 = .int .i64 x12_2∧Aside0 (sennitref06_Parts.l1 kq l1 l2 x11_2 x12_2 a0_0 a0_1 a0_2 l0_3=some (r1,r2,r3))∧Aside0 (kq≤k1)∧Aside0 (Kd.V Kd.string 9 w' w.heap.size (fun k_=>((P1_ k_∨P2_ k_)∨w.heap.size≤k_)∧some k_≠(v11:Value).ownBlock∧k_≠gb102) (.slice A1 l1.length c1) l1)∧Aside0 (Kd.V (Kd.slice 9 Kd.string) 22 w' w.heap.size (fun k_=>((P1_ k_∨P2_ k_)∨w.heap.size≤k_)∧some k_≠(v11:Value).ownBlock∧k_≠gb102) (.slice A2 l2.length c2) l2)∧Aside0 (Kd.N (Kd.slice 9 Kd.string) 22 w' w.heap.size (fun k_=>((P1_ k_∨P2_ k_)∨w.heap.size≤k_)∧k_≠gb102) v11 x11_2)∧Aside0 (w'.heap[gb102]? = some (.cells #[.bool a0_0, .int .i64 a0_1, .int .i64 a0_2,(.slice A0_3 l0_3.length c0_3)] 48 (0,0)))∧Aside0 (Below w.heap.size w w'))
      (case atStart=>exact⟨(([]:List (List ByteArray))),(0),rs_,H',⟨Nat.le_refl _⟩,⟨Kd.V_mono (pV_ HO_1.out) (fun _ hk=>⟨hk.1,⟨(by simp[Value.ownBlock]),hk.2⟩⟩)⟩,⟨Kd.V_mono (pV_ HO_2.out) (fun _ hk=>⟨hk.1,⟨(by simp[Value.ownBlock]),hk.2⟩⟩)⟩,⟨by first|exact Kd.S_nil _ _ _ _ _|exact Kd.N_nil _ _ _ _ _|exact Kd.V_nil _ _ _ _ _|exact Kd.Q_nil _ _ _ _ _|exact Kd.R_nil _ _ _ _ _⟩,⟨pK_ BK102.out⟩,⟨bs1_ GE102.out⟩⟩)
      case round =>
       clear H';(try clear c1);(try clear p1);(try clear q1);(try clear hx1);(try clear c2);(try clear p2);(try clear c4);(try clear c4b0);(try clear c4b1);(try clear c4b2);(try clear p6);(try clear c9);(try clear c9b0);(try clear c10);(try clear p10);(try clear q10);(try clear hx10);(try clear c11);(try clear c11b0);(try clear c12);(try clear c12b0);(try clear c17);(try clear hcz7_0);(try clear hcz7_1);(try clear hcz7_2);(try clear hcz7_3);(try clear hfz7_0);(try clear hfz7_1);(try clear hfz7_2);(try clear hfz7_3);(try clear hx104_0);(try clear hx104_1);(try clear hx105_0);(try clear p104);(try clear p105);(try clear p2);(try clear q104);(try clear q105);obtain⟨x11_2,x12_2,rfl,HA,HK2,HO_1,HO_2,HO_11,BK102,HB⟩:=hrel
       cases gk with
       | zero=>exact absurd HA.out (by simp[sennitref06_Parts.l1])
       | succ k2 =>
        have H:=HA.out;clear HA;(simp only[sennitref06_Parts.l1] at H)
        by_cases c18:x12_2 < (l2.length:Int)
        ·
         (rw[if_pos c18] at H);have c18b0:decide (x12_2 < (l2.length:Int))=true:=decide_eq_true c18;clear c18
         by_cases c19:0≤x12_2
         ·
          (rw[if_pos c19] at H);have c19b0:decide (0≤x12_2)=true:=decide_eq_true c19;clear c19
          by_cases c20:x12_2 < (l0_3.length:Int)
          ·
           (rw[if_pos c20] at H);have c20b0:decide (x12_2 < (l0_3.length:Int))=true:=decide_eq_true c20;clear c20
           by_cases c21:0≤((rd_T45 l0_3 x12_2).f0)
           ·
            (rw[if_pos c21] at H);have c21b0:=eq_true c21;have c21b1:decide (0≤((rd_T45 l0_3 x12_2).f0))=true:=decide_eq_true c21;clear c21
            by_cases c22:((rd_T45 l0_3 x12_2).f0)≤((rd_T45 l0_3 x12_2).f1)
            ·
             (rw[if_pos c22] at H);have c22b0:=eq_true c22;have c22b1:decide (((rd_T45 l0_3 x12_2).f0)≤((rd_T45 l0_3 x12_2).f1))=true:=decide_eq_true c22;clear c22
             by_cases c23:((rd_T45 l0_3 x12_2).f1)≤((rd_L1 l2 x12_2).length:Int)
             ·
              (rw[if_pos c23] at H);have c23b0:=eq_true c23;have c23b1:decide (((rd_T45 l0_3 x12_2).f1)≤((rd_L1 l2 x12_2).length:Int))=true:=decide_eq_true c23;clear c23;obtain⟨y110,hy110⟩ : ∃ y_:List ByteArray,y_=(((rd_L1 l2 x12_2).take (((rd_T45 l0_3 x12_2).f1):Int).toNat).drop (((rd_T45 l0_3 x12_2).f0):Int).toNat):=⟨_,rfl⟩;((try rw[Option.bind_some] at H);rw[← hy110] at H);have Ny110:=Aside0.mk hy110;clear hy110
              by_cases c24:x11_2.length < 5864062014805
              ·
               (rw[if_pos c24] at H);have LMc24:=Aside0.mk c24;clear c24;obtain⟨y115,hy115⟩ : ∃ y_:List (List ByteArray),y_=(x11_2 ++ [y110]):=⟨_,rfl⟩;((try rw[Option.bind_some] at H);rw[← hy115] at H);have Ny115:=Aside0.mk hy115;clear hy115;have H':=Aside0.mk H;clear H;(try go_wp2);replace HO_1:=Aside0.mk (Kd.V_drew HO_1.out);replace HO_2:=Aside0.mk (Kd.V_drew HO_2.out);replace HO_11:=Aside0.mk (Kd.N_drew HO_11.out);replace BK102:=Aside0.mk (blk_drew BK102.out);replace HB:=Aside0.mk (below_drew1 HB.out);have p107:0≤(x12_2:Int):=dt_;have q107:x12_2 < (l2.length:Int):=dt_;obtain⟨ad107,A107_0,c107_0,e107,hx107_0,hl107_0,hi107_0⟩:=at_L1 (Kd.V_reads' HO_2.out).2.2 x12_2 p107 q107;cases e107;obtain⟨ce107,hce107,hMe107,hcc107⟩:=Kd.V_get HO_2.out [] x12_2 p107 (by first|exact q107|exact dt_|(have e_:=(Kd.V_reads' HO_2.out).1;omega));obtain⟨ua107_0,uc107_0,rfl,ul107_0,ge107_0⟩:=Kd.FK_slice_open hMe107;have hv107_0:=hcc107 0 _ rfl;(rw[Nat.add_zero,show ((Kd.slice 9 Kd.string)).sz=1 from rfl,Nat.mul_one] at hv107_0);replace hv107_0:=Option.some.inj (hv107_0.symm.trans hx107_0);(injection hv107_0 with hva_ hvn_ hvc_);(rw[hva_] at ge107_0);(rw[hvc_] at ul107_0);have HL107_0:=Aside0.mk (show Kd.V Kd.string 9 _ w.heap.size _ _ (rd_L1 l2 x12_2) from Kd.V_mk ul107_0 ge107_0);clear hva_ hvn_ hvc_ ge107_0 ul107_0;clear hcc107 hce107;have HR107_0:=Aside0.mk hi107_0;have HC107_0:=Aside0.mk hl107_0;clear hi107_0 hl107_0;replace p107:=eq_true p107;replace q107:=eq_true q107;have p108:0≤(x12_2:Int):=dt_;have q108:x12_2 < (l0_3.length:Int):=dt_;obtain⟨ad108,e108,hx108_0,hx108_1⟩:=at_T45 HR0_3.out x12_2 p108 q108;have hw108_1:=hx108_1;have hw108_0:=hx108_0;cases e108;replace hx108_0:=(HB.out.cell (World.block_lt_of_cell? w _ hx108_0)).trans hx108_0;replace hx108_1:=(HB.out.cell (World.block_lt_of_cell? w _ hx108_1)).trans hx108_1;replace p108:=eq_true p108;replace q108:=eq_true q108;have p109:0≤(x12_2:Int):=dt_;have q109:x12_2 < (l0_3.length:Int):=dt_;obtain⟨ad109,e109,hx109_0,hx109_1⟩:=at_T45 HR0_3.out x12_2 p109 q109;have hw109_1:=hx109_1;have hw109_0:=hx109_0;obtain rfl:ad108=ad109:=(by injection e109);replace hx109_0:=(HB.out.cell (World.block_lt_of_cell? w _ hx109_0)).trans hx109_0;replace hx109_1:=(HB.out.cell (World.block_lt_of_cell? w _ hx109_1)).trans hx109_1;replace p109:=eq_true p109;replace q109:=eq_true q109;have q26:(((rd_T45 l0_3 x12_2).f1):Int)≤(((rd_L1 l2 x12_2).length:Int):Int):=dt_;obtain⟨i026,hi026,_,hsz26,_⟩:=info_parts info9;have hroom26:(rd_L1 l2 x12_2).length≤c107_0:=HC107_0.out;have hC26:Kd.F Kd.string _ _ A107_0 (rd_L1 l2 x12_2).length (rd_L1 l2 x12_2):=(Kd.V_at (base:=w.heap.size) HL107_0.out).2.2;have ql26:(((rd_T45 l0_3 x12_2).f0):Int)≤(((rd_T45 l0_3 x12_2).f1):Int):=dt_;have q026:(0:Int)≤(((rd_T45 l0_3 x12_2).f0):Int):=dt_;have hcut26:=cut_mid (P:=Tryz.prog) 22 9 .i64 .i64 Tryz.underlying22 hi026 1 hsz26 A107_0 (rd_L1 l2 x12_2).length c107_0 ((rd_T45 l0_3 x12_2).f0) ((rd_T45 l0_3 x12_2).f1) q026 ql26 q26 hroom26;have hr26:=Kd.F_mid (lo:=(((rd_T45 l0_3 x12_2).f0):Int).toNat) (hi:=(((rd_T45 l0_3 x12_2).f1):Int).toNat) (c:=c107_0) hC26 (by omega) (by omega) hroom26;obtain⟨A26,hA26⟩ : ∃ Az_,Az_=(if c107_0=(((rd_T45 l0_3 x12_2).f0):Int).toNat then A107_0 else (A107_0:Option Addr).map (·.add ((((rd_T45 l0_3 x12_2).f0):Int).toNat * 1))):=⟨_,rfl⟩;obtain⟨c26,hc26⟩ : ∃ c1,c1=c107_0 - (((rd_T45 l0_3 x12_2).f0):Int).toNat:=⟨_,rfl⟩;have hy26:y110.length=(((rd_T45 l0_3 x12_2).f1):Int).toNat - (((rd_T45 l0_3 x12_2).f0):Int).toNat:=(by rw[Ny110.out,List.length_drop,List.length_take] <;> omega);(rw[show ((rd_L1 l2 x12_2).take (((rd_T45 l0_3 x12_2).f1):Int).toNat).drop (((rd_T45 l0_3 x12_2).f0):Int).toNat=y110 from Ny110.out.symm] at hr26);replace hr26:Kd.F Kd.string _ _ A26 y110.length y110:=(by rw[hA26];exact hr26);(rw[← hy26,← hA26,← hc26] at hcut26);have HO114:=Aside0.mk (show Kd.V Kd.string 9 _ w.heap.size _ (.slice A26 y110.length c26) y110 from Kd.V_mk (by rw[hy26,hc26];exact Nat.sub_le_sub_right (Nat.le_trans (by omega) hroom26) _) hr26);have HC114:=Aside0.mk (show y110.length≤c26 from by rw[hy26,hc26];exact Nat.sub_le_sub_right (Nat.le_trans (by omega) hroom26) _);clear hr26 hC26 hroom26 hi026 hsz26 hc26;have KY26:=Aside0.mk hy26;have KA26:=Aside0.mk hA26;clear hy26 hA26;replace q26:=eq_true q26
               (refine start_ (n:=21) (S:=fun w'=>w'.cell? ⟨gb102,0,none⟩=some (.bool a0_0)∧w'.cell? ⟨gb102,1,none⟩=some (.int .i64 a0_1)∧w'.cell? ⟨gb102,2,none⟩=some (.int .i64 a0_2)∧w'.cell? ⟨gb102,3,none⟩=some (.slice (some ad108) l0_3.length c0_3)∧w'.cell? (ad107.add (x12_2).toNat)=some (.slice A107_0 (rd_L1 l2 x12_2).length c107_0)∧w'.cell? (ad108.add ((x12_2).toNat * 2))=some (.int .i64 ((rd_T45 l0_3 x12_2).f0))∧w'.cell? ⟨(ad108.add ((x12_2).toNat * 2)).block,(ad108.add ((x12_2).toNat * 2)).off+1,none⟩=some (.int .i64 ((rd_T45 l0_3 x12_2).f1))∧w'.cell? (ad108.add ((x12_2).toNat * 2))=some (.int .i64 ((rd_T45 l0_3 x12_2).f0))∧w'.cell? ⟨(ad108.add ((x12_2).toNat * 2)).block,(ad108.add ((x12_2).toNat * 2)).off+1,none⟩=some (.int .i64 ((rd_T45 l0_3 x12_2).f1))) (ds:=[18,19]) (bm_ 21 0) (by kernel_rfl) rfl rfl ⟨(blk_cell BK102.out 0).trans rfl,(blk_cell BK102.out 1).trans rfl,(blk_cell BK102.out 2).trans rfl,(blk_cell BK102.out 3).trans rfl,hx107_0,((HB.out.cell (World.block_lt_of_cell? w _ hw108_0)).trans hw108_0),((HB.out.cell (World.block_lt_of_cell? w _ hw108_1)).trans hw108_1),((HB.out.cell (World.block_lt_of_cell? w _ hw109_0)).trans hw109_0),((HB.out.cell (World.block_lt_of_cell? w _ hw109_1)).trans hw109_1)⟩ (fun hHeld=>?_);refine with_tabW sennitref06_Parts.tab14 sennitref06_Parts.bits14 (fun HT_ HW_=>?_));(generalize wr.drew=w25 at HO_1 HO_2 HO_11 BK102 HB HL107_0 HO114 HR107_0 hx107_0 hx108_0 hx108_1 hx109_0 hx109_1 hHeld ⊢);refine pq_ (i:=0) (N:=some 52) (hc:=any_of HT_.out (by kernel_rfl)) (bm_ 21 1) ?_;refine pq_ (i:=1) (N:=some 53) (hc:=any_of HT_.out (by kernel_rfl)) (bm_ 21 3) ?_;refine pq_ (i:=2) (N:=some 54) (hc:=any_of HT_.out (by kernel_rfl)) (bm_ 21 7) ?_;refine pq_ (i:=3) (N:=some 55) (hc:=any_of HT_.out (by kernel_rfl)) (bm_ 21 15) ?_;refine pq_ (i:=5) (N:=some 57) (hc:=any_of HT_.out (by kernel_rfl)) (bm_ 21 47) ?_;refine pq_ (i:=7) (N:=some 59) (hc:=any_of HT_.out (by kernel_rfl)) (bm_ 21 175) ?_;refine pq_ (i:=11) (N:=some 63) (hc:=any_of HT_.out (by kernel_rfl)) (bm_ 21 2223) ?_;refine pq_ (i:=13) (N:=some 65) (hc:=any_of HT_.out (by kernel_rfl)) (bm_ 21 10415) ?_;refine tq_ (i:=4) (N:=some 56) (hc:=take_ofW HT_.out HW_.out (by kernel_rfl)) (bm_ 21 10431) hHeld ?_
               refine tq_ (i:=6) (N:=some 58) (hc:=take_ofW HT_.out HW_.out (by kernel_rfl)) (bm_ 21 10495) hHeld ?_;refine pq_ (i:=8) (N:=some 60) (hc:=any_of HT_.out (by kernel_rfl)) (bm_ 21 10751) ?_;refine pq_ (i:=9) (N:=some 61) (hc:=any_of HT_.out (by kernel_rfl)) (bm_ 21 11263) ?_;refine tq_ (i:=10) (N:=some 62) (hc:=take_ofW HT_.out HW_.out (by kernel_rfl)) (bm_ 21 12287) hHeld ?_;refine tq_ (i:=12) (N:=some 64) (hc:=take_ofW HT_.out HW_.out (by kernel_rfl)) (bm_ 21 16383) hHeld ?_;refine pq_ (i:=14) (N:=some 66) (hc:=any_of HT_.out (by kernel_rfl)) (bm_ 21 32767) ?_;refine pq_ (i:=15) (N:=some 67) (hc:=any_of HT_.out (by kernel_rfl)) (bm_ 21 65535) ?_;refine tq_ (i:=16) (N:=some 68) (hc:=take_ofW HT_.out HW_.out (by kernel_rfl)) (bm_ 21 131071) hHeld ?_;refine pq_ (i:=17) (N:=some 69) (hc:=any_of HT_.out (by kernel_rfl)) (bm_ 21 262143) ?_;refine last_ (i:=18) (N:=some 70) (bm_ 21 524287) rfl rfl (one_of HT_.out (by kernel_rfl)) (by decide) (fun K hK=>?_);refine value_ (w1:=?_) (v:=?_) (by rfl) rfl ?_ ?_;rotate_left 2
               ·
                go_simp;constructor;(· rfl);(· rfl)
               refine hK.out _ _ ?_;clear hK K;refine nq_ (N:=some 70) ?_;refine last_ (i:=19) (N:=some 71) (bm_ 21 1048575) rfl rfl (one_of HT_.out (by kernel_rfl)) (by decide) (fun K hK=>?_);refine Kd.N_append_step (Kd.slice 9 Kd.string) (w0:=w) w.heap.size (by rfl) (.tmp 52) (.tmp 70) 23 22 (.slice none 0 0) 24 rfl Tryz.underlying23 info22 rfl (by decide) (by omega) u11 x11_2 y110 [.slice A26 y110.length c26] (fun k_=>((P1_ k_∨P2_ k_)∨w.heap.size≤k_)∧k_≠gb102) (fun k_=>((fun k_=>((P1_ k_∨P2_ k_)∨w.heap.size≤k_)∧k_≠gb102)) k_∧some k_≠(u11:Value).ownBlock) rfl rfl ?aP (fun _ hk=>hk) ?aF ?aO ?aB ?aS ?aL ?_;(case aP=>exact(Kd.FK_slice_mk (Kd.V_reads' (Kd.V_mono (ok':=(fun k_=>((fun k_=>((P1_ k_∨P2_ k_)∨w.heap.size≤k_)∧k_≠gb102)) k_∧some k_≠(u11:Value).ownBlock)) (HO114.out) (fun k_ hk=>⟨⟨hk.1,hk.2.2⟩,hk.2.1⟩))).2.1 (Kd.V_F (Kd.V_mono (ok':=(fun k_=>((fun k_=>((P1_ k_∨P2_ k_)∨w.heap.size≤k_)∧k_≠gb102)) k_∧some k_≠(u11:Value).ownBlock)) (HO114.out) (fun k_ hk=>⟨⟨hk.1,hk.2.2⟩,hk.2.1⟩)))));(case aB=>exact(bs1_ GE102.out));(case aF=>exact(fun k_ hk=>⟨(.inr (Nat.le_trans (below_size (bs1_ GE102.out)) hk)),Kd.freshB (g:=gb102) (o := .cells #[.bool a0_0, .int .i64 a0_1, .int .i64 a0_2, .slice (some ad108) l0_3.length c0_3] 48 (0,0)) (pK_ BK102.out) k_ hk⟩));(case aO=>exact(pN_ HO_11.out));(case aS=>exact(below_size (bs1_ GE102.out)));(case aL=>have:=LMc24.out;omega);intro v116 w27 ho hb hg hat;(rw[← Ny115.out] at ho);replace HO_1:=Aside0.mk (Kd.V_afterv (ok:=(fun k_=>((P1_ k_∨P2_ k_)∨w.heap.size≤k_)∧k_≠gb102)) (Kd.V_mono (pV_ HO_1.out) (fun _ hk=>⟨⟨hk.1,hk.2.2⟩,hk.2.1⟩)) hg hat);replace HO_2:=Aside0.mk (Kd.V_afterv (ok:=(fun k_=>((P1_ k_∨P2_ k_)∨w.heap.size≤k_)∧k_≠gb102)) (Kd.V_mono (pV_ HO_2.out) (fun _ hk=>⟨⟨hk.1,hk.2.2⟩,hk.2.1⟩)) hg hat);replace BK102:=Aside0.mk (blk_grown (g:=gb102) (o := .cells #[.bool a0_0, .int .i64 a0_1, .int .i64 a0_2, .slice (some ad108) l0_3.length c0_3] 48 (0,0)) (pK_ BK102.out) hg (Kd.N_ne HO_11.out BK102.out (by decide)));replace HL107_0:=Aside0.mk (Kd.V_afterv (ok:=(fun k_=>((P1_ k_∨P2_ k_)∨w.heap.size≤k_)∧k_≠gb102)) (Kd.V_mono (pV_ HL107_0.out) (fun _ hk=>⟨⟨hk.1,hk.2.2⟩,hk.2.1⟩)) hg hat);replace HO114:=Aside0.mk (Kd.V_afterv (ok:=(fun k_=>((P1_ k_∨P2_ k_)∨w.heap.size≤k_)∧k_≠gb102)) (Kd.V_mono (pV_ HO114.out) (fun _ hk=>⟨⟨hk.1,hk.2.2⟩,hk.2.1⟩)) hg hat);replace HB:=Aside0.mk (hb);have HO117:=Aside0.mk (ho);clear HO_11;clear ho hb hg hat;refine hK.out _ _ ?_;clear hK K;refine nq_ (N:=some 71) ?_;refine pq_ (i:=20) (N:=some 11) (hc:=any_of HT_.out (by kernel_rfl)) (bm_ 21 2097151) ?_;refine done_ (done_of HT_.out (by kernel_rfl)) ?_;(try go_wp2)
               go_roundg k2
               (case measure=>have:=HK1.out;have:=HK2.out;omega);(case rel=>exact⟨(y115),(wrap64 (x12_2+1)),rs_,H',⟨by have:=HK1.out;have:=HK2.out;omega⟩,⟨Kd.V_mono (pV_ HO_1.out) (fun _ hk=>⟨hk.1.1,⟨hk.2,hk.1.2⟩⟩)⟩,⟨Kd.V_mono (pV_ HO_2.out) (fun _ hk=>⟨hk.1.1,⟨hk.2,hk.1.2⟩⟩)⟩,⟨pN_ HO117.out⟩,⟨pK_ BK102.out⟩,⟨bs1_ GE102.out⟩⟩)
              (· exact nx_ c24 H)
             (· exact nx_ c23 H)
            (· exact nx_ c22 H)
           (· exact nx_ c21 H)
          (· exact nx_ c20 H)
         (· exact nx_ c19 H)
        ·
         (rw[if_neg c18] at H);have c18b0:decide (x12_2 < (l2.length:Int))=false:=decide_eq_false c18;clear c18
         by_cases c28:0≤a0_1
         ·
          (rw[if_pos c28] at H);have c28b0:=eq_true c28;have c28b1:decide (0≤a0_1)=true:=decide_eq_true c28;clear c28
          by_cases c29:a0_1≤a0_2
          ·
           (rw[if_pos c29] at H);have c29b0:=eq_true c29;have c29b1:decide (a0_1≤a0_2)=true:=decide_eq_true c29;clear c29
           by_cases c30:a0_2≤(l1.length:Int)
           (· (rw[if_pos c30] at H);have c30b0:=eq_true c30;have c30b1:decide (a0_2≤(l1.length:Int))=true:=decide_eq_true c30;clear c30;obtain⟨y118,hy118⟩ : ∃ y_:List ByteArray,y_=((l1.take (a0_2:Int).toNat).drop (a0_1:Int).toNat):=⟨_,rfl⟩;((try rw[Option.bind_some] at H);rw[← hy118] at H);have Ny118:=Aside0.mk hy118;clear hy118;(simp only[Option.some.injEq,Prod.mk.injEq] at H);obtain⟨rfl,rfl,rfl⟩:=H;have hcz31_0:wr.cell? ⟨gb102,0,none⟩=some (.bool a0_0):=(blk_cell BK102.out 0).trans rfl;have hcz31_1:wr.cell? ⟨gb102,1,none⟩=some (.int .i64 a0_1):=(blk_cell BK102.out 1).trans rfl;have hcz31_2:wr.cell? ⟨gb102,2,none⟩=some (.int .i64 a0_2):=(blk_cell BK102.out 2).trans rfl;have hcz31_3:wr.cell? ⟨gb102,3,none⟩=some (.slice A0_3 l0_3.length c0_3):=(blk_cell BK102.out 3).trans rfl;have hfz31_0:=blk_frozen BK102.out 0;have hfz31_1:=blk_frozen BK102.out 1;have hfz31_2:=blk_frozen BK102.out 2;have hfz31_3:=blk_frozen BK102.out 3;have q32:(a0_2:Int)≤((l1.length:Int):Int):=dt_;obtain⟨i032,hi032,_,hsz32,_⟩:=info_parts info9;have hroom32:l1.length≤c1:=(Kd.V_reads' HO_1.out).2.1;have hC32:Kd.F Kd.string _ _ A1 l1.length l1:=(Kd.V_at (base:=w.heap.size) HO_1.out).2.2;have ql32:(a0_1:Int)≤(a0_2:Int):=dt_;have q032:(0:Int)≤(a0_1:Int):=dt_;have hcut32:=cut_mid (P:=Tryz.prog) 22 9 .i64 .i64 Tryz.underlying22 hi032 1 hsz32 A1 l1.length c1 a0_1 a0_2 q032 ql32 q32 hroom32;have hr32:=Kd.F_mid (lo:=(a0_1:Int).toNat) (hi:=(a0_2:Int).toNat) (c:=c1) hC32 (by omega) (by omega) hroom32;obtain⟨A32,hA32⟩ : ∃ Az_,Az_=(if c1=(a0_1:Int).toNat then A1 else (A1:Option Addr).map (·.add ((a0_1:Int).toNat * 1))):=⟨_,rfl⟩;obtain⟨c32,hc32⟩ : ∃ cz_,cz_=c1 - (a0_1:Int).toNat:=⟨_,rfl⟩;have hy32:y118.length=(a0_2:Int).toNat - (a0_1:Int).toNat:=(by rw[Ny118.out,List.length_drop,List.length_take] <;> omega);(rw[show ((l1).take (a0_2:Int).toNat).drop (a0_1:Int).toNat=y118 from Ny118.out.symm] at hr32);replace hr32:Kd.F Kd.string _ _ A32 y118.length y118:=(by rw[hA32];exact hr32);(rw[← hy32,← hA32,← hc32] at hcut32);have HO122:=Aside0.mk (show Kd.V Kd.string 9 _ w.heap.size _ (.slice A32 y118.length c32) y118 from Kd.V_mk (by rw[hy32,hc32];exact Nat.sub_le_sub_right (Nat.le_trans (by omega) hroom32) _) hr32);have HC122:=Aside0.mk (show y118.length≤c32 from by rw[hy32,hc32];exact Nat.sub_le_sub_right (Nat.le_trans (by omega) hroom32) _);clear hr32 hC32 hroom32 hi032 hsz32 hc32;have KY32:=Aside0.mk hy32;have KA32:=Aside0.mk hA32;clear hy32 hA32;replace q32:=eq_true q32;go_wp2;go_ret3;exact⟨_,_,ew_,Kd.V_mono (pV_ HO122.out) (fun _ hk=>⟨hk.1,hk.2.1⟩),Kd.N_mono (pN_ HO_11.out) (fun _ hk=>hk.1),by repeat(first|(with_reducible first|exact HB.out|apply below_alloc|apply pw_below_drewN|apply below_drew1|refine below_set ?_ GE102.out)|exact HB.out)⟩);(· exact nx_ c30 H)
          (· exact nx_ c29 H)
         (· exact nx_ c28 H)
     (· replace c17:=Bool.eq_false_iff.mpr c17;subst c17;have H1:=H;(rw[if_neg (show ¬ (false=true) by decide)] at H1);clear H;have H:=H1;clear H1;(simp only[Option.some.injEq,Prod.mk.injEq] at H);obtain⟨rfl,rfl,rfl⟩:=H;go_wp2;go_ret3;exact⟨_,_,ew_,(Kd.V_nil _ _ _ _ _),by first|exact Kd.S_nil _ _ _ _ _|exact Kd.N_nil _ _ _ _ _|exact Kd.V_nil _ _ _ _ _|exact Kd.Q_nil _ _ _ _ _|exact Kd.R_nil _ _ _ _ _,by repeat(first|(with_reducible first|exact HB.out|apply below_alloc|apply pw_below_drewN|apply below_drew1|refine below_set ?_ GE102.out)|exact HB.out)⟩)
 (· (rw[if_neg c4] at H);have c4b0:((l0_3.length:Int) == (l2.length:Int))=false:=beq_eq_false_iff_ne.mpr c4;have c4b1:((l0_3.length:Int) != (l2.length:Int))=true:=bne_iff_ne.mpr c4;(have c4b2:(l0_3.length == l2.length)=false:=by first|simpa using c4|(simp at c4 ⊢;omega));(simp only[Option.some.injEq,Prod.mk.injEq] at H);obtain⟨rfl,rfl,rfl⟩:=H;go_enter Tryz.func22,Tryz.ntmps22;(go_wp2_with (first|((with_reducible refine gate_dst (N:=3) rfl ?_);(try(refine gate_guard (by rfl) ?_;dsimp only));refine box_event ?hg (N:=3) ?hd (cs:=#[.bool a0_0, .int .i64 a0_1, .int .i64 a0_2, .slice A0_3 l0_3.length c0_3]) (t:=48) ?hr ?_;(case hd=>rfl);(case hg=>rfl);(case hr=>first|(go_simp;done)|(go_simp;rfl));intro gb102 hg w33 hbox hb;replace HO1:=Aside0.mk (Kd.V_below (Kd.V_elderB (pV_ HO1.out) gb102 (Nat.le_of_eq hg.symm)) hb);replace HO2:=Aside0.mk (Kd.V_below (Kd.V_elderB (pV_ HO2.out) gb102 (Nat.le_of_eq hg.symm)) hb);have BK102:=Aside0.mk (hbox);have GW102:=Aside0.mk ((by rw[hg];exact(below_size bel_):w.heap.size≤gb102));have GE102:=Aside0.mk ((by rw[hg];exact(below_size bel_):w.heap.size≤gb102));replace HB:=Aside0.mk (below_step bel_ hb);clear hb hbox hg;have hcz34_0:w33.cell? ⟨gb102,0,none⟩=some (.bool a0_0):=(blk_cell BK102.out 0).trans rfl;have hcz34_1:w33.cell? ⟨gb102,1,none⟩=some (.int .i64 a0_1):=(blk_cell BK102.out 1).trans rfl;have hcz34_2:w33.cell? ⟨gb102,2,none⟩=some (.int .i64 a0_2):=(blk_cell BK102.out 2).trans rfl;have hcz34_3:w33.cell? ⟨gb102,3,none⟩=some (.slice A0_3 l0_3.length c0_3):=(blk_cell BK102.out 3).trans rfl;have hfz34_0:=blk_frozen BK102.out 0;have hfz34_1:=blk_frozen BK102.out 1;have hfz34_2:=blk_frozen BK102.out 2;have hfz34_3:=blk_frozen BK102.out 3)));go_ret3;exact⟨_,_,ew_,(Kd.V_nil _ _ _ _ _),by first|exact Kd.S_nil _ _ _ _ _|exact Kd.N_nil _ _ _ _ _|exact Kd.V_nil _ _ _ _ _|exact Kd.Q_nil _ _ _ _ _|exact Kd.R_nil _ _ _ _ _,by repeat(first|(with_reducible first|exact HB.out|apply below_alloc|apply pw_below_drewN|apply below_drew1|refine below_set ?_ GE102.out)|exact HB.out)⟩)
end Go.Proofs.YtbbhdbeaikclcaaGreat.X
