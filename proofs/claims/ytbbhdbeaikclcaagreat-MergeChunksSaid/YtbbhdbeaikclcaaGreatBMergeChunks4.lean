/-
  Parts of one proof, one behind the other: X0, XPre, XSq, XRn6, XRn5, XEn1, XAn1, XRn7, XRn8, XRn1, XRn2.
-/
import Derived.Test.YtbbhdbeaikclcaaGreatBMergeChunks3
import Derived.Test.YtbbhdbeaikclcaaGreatProg
import Derived.Below
import Derived.Deep.Draws
import Derived.Deep.AppendLies
import Derived.Maps.AppendAt
import Derived.OwnWalk
import Derived.Laws.BytesArg
import Derived.Laws.MakeOwn
import Derived.Laws.OwnMore
import Derived.Deep.OwnRows
import Derived.Tactics
import Derived.Lib.ConvBytes
import Derived.Laws.Slices
import Derived.WalkKit
import Derived.KernelRfl
import Derived.RowKit3
import Derived.Deep.LoopGhost
import Derived.Deep.QuietTactic
import Derived.BigQuiet
import Derived.WideLaws
import Derived.Deep.DeepCutAuto
import Derived.Deep.CutBlock
import Derived.Deep.RegionHeld3
import Derived.Laws.Rows
import Derived.Lib.AppendStr
import Derived.ArgAppend
import Derived.Laws.IdiomCopy
import Derived.OrdersHeld
import Derived.Laws.BitsLemmas
import Derived.RowKit
set_option linter.unusedVariables false
set_option linter.unusedSimpArgs false
namespace Go.Proofs.YtbbhdbeaikclcaaGreat.X
open Go.RowKit Go.Proofs.YtbbhdbeaikclcaaGreatW.PrintWords Go.Proofs.YtbbhdbeaikclcaaGreatW.PrintLast Go.Proofs.YtbbhdbeaikclcaaGreatW.PrintMore
attribute [local go_sem] max2_int min2_int max_two min_two max_three min_three max_four min_four
def errW:Option Int→Value
  | none => .nilIface
  | some c => .iface 0 (.int .i64 c)
theorem errW_none:errW none = .nilIface:=rfl
theorem errW_some (c:Int):errW (some c) = .iface 0 (.int .i64 c):=rfl

theorem info3:(Tryz.prog.info? 3).map (fun i=>(i.zero,i.size,i.bytes))=some (some (.int .i64 0),1,8):=by kernel_rfl
theorem info5:(Tryz.prog.info? 5).map (fun i=>(i.zero,i.size,i.bytes))=some (some (.int .u8 0),1,1):=by kernel_rfl
theorem info9:(Tryz.prog.info? 9).map (fun i=>(i.zero,i.size,i.bytes))=some (some (.string ⟨#[]⟩),1,16):=by kernel_rfl
theorem info22:(Tryz.prog.info? 22).map (fun i=>(i.zero,i.size,i.bytes))=some (some (.slice none 0 0),1,24):=by kernel_rfl
theorem info45:(Tryz.prog.info? 45).map (fun i=>(i.zero,i.size,i.bytes))=some (some (.agg #[(.int .i64 0),(.int .i64 0)]),2,16):=by kernel_rfl
theorem info48:(Tryz.prog.info? 48).map (fun i=>(i.zero,i.size,i.bytes))=some (some (.agg #[(.bool false),(.int .i64 0),(.int .i64 0),(.slice none 0 0)]),4,48):=by kernel_rfl
theorem info66:(Tryz.prog.info? 66).map (fun i=>(i.zero,i.size,i.bytes))=some (some (.agg #[(.bool false),(.slice none 0 0),(.slice none 0 0),(.slice none 0 0)]),4,80):=by kernel_rfl
theorem info72:(Tryz.prog.info? 72).map (fun i=>(i.zero,i.size,i.bytes))=some (some (.slice none 0 0),1,24):=by kernel_rfl
def rd_L1 (xs:List (List ByteArray)) (i:Int):(List ByteArray):=xs.getD i.toNat ([]:List ByteArray)
theorem at_L1 {w:World} {A:Option Addr} {n:Nat} {xs:List (List ByteArray)} (h:Kd.C (Kd.slice 9 Kd.string) w A n xs) (i:Int) (h0:0≤i) (h1:i < n) : ∃ ad A0 c0,A=some ad∧w.cell? (ad.add i.toNat)=some (.slice A0 (rd_L1 xs i).length c0)∧(rd_L1 xs i).length≤c0∧Kd.string.C w A0 (rd_L1 xs i).length (rd_L1 xs i):=by
  obtain ⟨ad,c,e,_,hK,hc0⟩:=Kd.C_get h ([]:List ByteArray) i h0 h1
  have hc : ∀ j u,c[j]? = some u→w.cell? (ad.add (i.toNat * 1+j))=some u:=hc0
  obtain ⟨A0,c0,rfl,l0,g0⟩:=hK
  exact ⟨ad,A0,c0,e,by have hq:=hc 0 _ rfl;rwa [Nat.mul_one,Nat.add_zero] at hq,l0,g0⟩

structure S45 where
  f0:Int
  f1:Int
def z45:S45:=⟨(0:Int),(0:Int)⟩
def k45:Kd S45:=Kd.iso (Kd.pair (Kd.int .i64) (Kd.int .i64)) (fun x:S45=>(x.f0,x.f1))
theorem k45_open {w:World} {x:S45} {cs:List Value} (h:k45.K w x cs):cs=[.int .i64 x.f0, .int .i64 x.f1]:=by
  obtain ⟨_,_,rfl,rfl,rfl⟩:=h
  exact rfl
theorem k45_mkM (w:World) (base:Nat) (ok:Nat→Prop) (x:S45)  : k45.M w base ok x [.int .i64 x.f0, .int .i64 x.f1]:=⟨[.int .i64 x.f0],[.int .i64 x.f1],rfl,rfl,rfl⟩
def rd_T45 (xs:List S45) (i:Int):S45:=xs.getD i.toNat z45
theorem at_T45 {w:World} {A:Option Addr} {n:Nat} {xs:List S45} (h:Kd.C k45 w A n xs) (i:Int) (h0:0≤i) (h1:i < n) : ∃ ad ,A=some ad∧w.cell? (ad.add (i.toNat * 2))=some (.int .i64 (rd_T45 xs i).f0)∧w.cell? ⟨(ad.add (i.toNat * 2)).block,(ad.add (i.toNat * 2)).off+1,none⟩=some (.int .i64 (rd_T45 xs i).f1):=by
  obtain ⟨ad,c,e,_,hK,hc0⟩:=Kd.C_get h z45 i h0 h1
  have hc : ∀ j u,c[j]? = some u→w.cell? (ad.add (i.toNat * 2+j))=some u:=hc0
  obtain rfl:=k45_open hK
  exact ⟨ad,e,hc 0 _ rfl,by rw [← add_field _ _ 1 (by omega)];exact hc 1 _ rfl⟩

structure S48 where
  f0:Bool
  f1:S45
  f2:(List S45)
def z48:S48:=⟨false,z45,([]:List S45)⟩
def k48:Kd S48:=Kd.iso (Kd.pair Kd.bool (Kd.pair k45 (Kd.slice 45 k45))) (fun x:S48=>(x.f0,x.f1,x.f2))
theorem k48_open {w:World} {x:S48} {cs:List Value} (h:k48.K w x cs) : ∃ A3 c3,cs=[.bool x.f0, .int .i64 x.f1.f0, .int .i64 x.f1.f1, .slice A3 x.f2.length c3]∧x.f2.length≤c3∧k45.C w A3 x.f2.length x.f2:=by
  obtain ⟨_,_,rfl,rfl,⟨_,_,rfl,s1,⟨A3,c3,rfl,l3,g3⟩⟩⟩:=h
  obtain rfl:=k45_open s1
  exact ⟨A3,c3,rfl,l3,g3⟩
theorem k48_mkM (w:World) (base:Nat) (ok:Nat→Prop) (x:S48) {v3:Value} (g3:k45.R 45 w base ok v3 x.f2):k48.M w base ok x [.bool x.f0, .int .i64 x.f1.f0, .int .i64 x.f1.f1,v3]:=⟨[.bool x.f0],[.int .i64 x.f1.f0, .int .i64 x.f1.f1,v3],rfl,rfl,⟨[.int .i64 x.f1.f0, .int .i64 x.f1.f1],[v3],rfl,(k45_mkM w base ok x.f1 ),⟨v3,rfl,g3⟩⟩⟩
def rd_T48 (xs:List S48) (i:Int):S48:=xs.getD i.toNat z48
theorem at_T48 {w:World} {A:Option Addr} {n:Nat} {xs:List S48} (h:Kd.C k48 w A n xs) (i:Int) (h0:0≤i) (h1:i < n) : ∃ ad A3 c3,A=some ad∧w.cell? (ad.add (i.toNat * 4))=some (.bool (rd_T48 xs i).f0)∧w.cell? ⟨(ad.add (i.toNat * 4)).block,(ad.add (i.toNat * 4)).off+1,none⟩=some (.int .i64 (rd_T48 xs i).f1.f0)∧w.cell? ⟨(ad.add (i.toNat * 4)).block,(ad.add (i.toNat * 4)).off+2,none⟩=some (.int .i64 (rd_T48 xs i).f1.f1)∧w.cell? ⟨(ad.add (i.toNat * 4)).block,(ad.add (i.toNat * 4)).off+3,none⟩=some (.slice A3 (rd_T48 xs i).f2.length c3)∧(rd_T48 xs i).f2.length≤c3∧k45.C w A3 (rd_T48 xs i).f2.length (rd_T48 xs i).f2:=by
  obtain ⟨ad,c,e,_,hK,hc0⟩:=Kd.C_get h z48 i h0 h1
  have hc : ∀ j u,c[j]? = some u→w.cell? (ad.add (i.toNat * 4+j))=some u:=hc0
  obtain ⟨A3,c3,rfl,l3,g3⟩:=k48_open hK
  exact ⟨ad,A3,c3,e,hc 0 _ rfl,by rw [← add_field _ _ 1 (by omega)];exact hc 1 _ rfl,by rw [← add_field _ _ 2 (by omega)];exact hc 2 _ rfl,by rw [← add_field _ _ 3 (by omega)];exact hc 3 _ rfl,l3,g3⟩

structure S66 where
  f0:Bool
  f1:(List ByteArray)
  f2:(List ByteArray)
  f3:(List (List ByteArray))
def z66:S66:=⟨false,([]:List ByteArray),([]:List ByteArray),([]:List (List ByteArray))⟩
def k66:Kd S66:=Kd.iso (Kd.pair Kd.bool (Kd.pair (Kd.slice 9 Kd.string) (Kd.pair (Kd.slice 9 Kd.string) (Kd.slice 22 (Kd.slice 9 Kd.string))))) (fun x:S66=>(x.f0,x.f1,x.f2,x.f3))
theorem k66_open {w:World} {x:S66} {cs:List Value} (h:k66.K w x cs) : ∃ A1 c1 A2 c2 A3 c3,cs=[.bool x.f0, .slice A1 x.f1.length c1, .slice A2 x.f2.length c2, .slice A3 x.f3.length c3]∧x.f1.length≤c1∧Kd.string.C w A1 x.f1.length x.f1∧x.f2.length≤c2∧Kd.string.C w A2 x.f2.length x.f2∧x.f3.length≤c3∧(Kd.slice 9 Kd.string).C w A3 x.f3.length x.f3:=by
  obtain ⟨_,_,rfl,rfl,⟨_,_,rfl,⟨A1,c1,rfl,l1,g1⟩,⟨_,_,rfl,⟨A2,c2,rfl,l2,g2⟩,⟨A3,c3,rfl,l3,g3⟩⟩⟩⟩:=h
  exact ⟨A1,c1,A2,c2,A3,c3,rfl,l1,g1,l2,g2,l3,g3⟩
theorem k66_mk (w:World) (x:S66) {A1:Option Addr} {c1:Nat} (l1:x.f1.length≤c1) (g1:Kd.string.C w A1 x.f1.length x.f1) {A2:Option Addr} {c2:Nat} (l2:x.f2.length≤c2) (g2:Kd.string.C w A2 x.f2.length x.f2) {A3:Option Addr} {c3:Nat} (l3:x.f3.length≤c3) (g3:(Kd.slice 9 Kd.string).C w A3 x.f3.length x.f3):k66.K w x [.bool x.f0, .slice A1 x.f1.length c1, .slice A2 x.f2.length c2, .slice A3 x.f3.length c3]:=⟨[.bool x.f0],[.slice A1 x.f1.length c1, .slice A2 x.f2.length c2, .slice A3 x.f3.length c3],rfl,rfl,⟨[.slice A1 x.f1.length c1],[.slice A2 x.f2.length c2, .slice A3 x.f3.length c3],rfl,⟨A1,c1,rfl,l1,g1⟩,⟨[.slice A2 x.f2.length c2],[.slice A3 x.f3.length c3],rfl,⟨A2,c2,rfl,l2,g2⟩,⟨A3,c3,rfl,l3,g3⟩⟩⟩⟩
theorem k66_openF {W:World} {ok:Nat→Prop} {x:S66} {cs:List Value} (h:Kd.FK k66 W ok x cs) : ∃ A1 c1 A2 c2 A3 c3,cs=[.bool x.f0, .slice A1 x.f1.length c1, .slice A2 x.f2.length c2, .slice A3 x.f3.length c3]∧x.f1.length≤c1∧Kd.F Kd.string W ok A1 x.f1.length x.f1∧x.f2.length≤c2∧Kd.F Kd.string W ok A2 x.f2.length x.f2∧x.f3.length≤c3∧Kd.F (Kd.slice 9 Kd.string) W ok A3 x.f3.length x.f3:=by
  obtain ⟨A1,c1,A2,c2,A3,c3,rfl,l1,_,l2,_,l3,_⟩:=k66_open (Kd.FK_now h)
  exact ⟨A1,c1,A2,c2,A3,c3,rfl,l1,(fun W' hW=>by obtain ⟨A1_,c1_,A2_,c2_,A3_,c3_,he,l1_,g1_,l2_,g2_,l3_,g3_⟩:=k66_open (h W' hW);injection (Option.some.inj (show some (Value.slice A1 x.f1.length c1)=some (Value.slice A1_ x.f1.length c1_) from congrArg (fun l=>l[1]?) he)) with ha_ _ _;rw [ha_];exact g1_),l2,(fun W' hW=>by obtain ⟨A1_,c1_,A2_,c2_,A3_,c3_,he,l1_,g1_,l2_,g2_,l3_,g3_⟩:=k66_open (h W' hW);injection (Option.some.inj (show some (Value.slice A2 x.f2.length c2)=some (Value.slice A2_ x.f2.length c2_) from congrArg (fun l=>l[2]?) he)) with ha_ _ _;rw [ha_];exact g2_),l3,(fun W' hW=>by obtain ⟨A1_,c1_,A2_,c2_,A3_,c3_,he,l1_,g1_,l2_,g2_,l3_,g3_⟩:=k66_open (h W' hW);injection (Option.some.inj (show some (Value.slice A3 x.f3.length c3)=some (Value.slice A3_ x.f3.length c3_) from congrArg (fun l=>l[3]?) he)) with ha_ _ _;rw [ha_];exact g3_)⟩
theorem k66_mkF (W:World) (ok:Nat→Prop) (x:S66) {A1:Option Addr} {c1:Nat} (l1:x.f1.length≤c1) (g1:Kd.F Kd.string W ok A1 x.f1.length x.f1) {A2:Option Addr} {c2:Nat} (l2:x.f2.length≤c2) (g2:Kd.F Kd.string W ok A2 x.f2.length x.f2) {A3:Option Addr} {c3:Nat} (l3:x.f3.length≤c3) (g3:Kd.F (Kd.slice 9 Kd.string) W ok A3 x.f3.length x.f3):Kd.FK k66 W ok x [.bool x.f0, .slice A1 x.f1.length c1, .slice A2 x.f2.length c2, .slice A3 x.f3.length c3]:=fun W2 hW=>k66_mk W2 x l1 (g1 W2 hW) l2 (g2 W2 hW) l3 (g3 W2 hW)
def rd_T66 (xs:List S66) (i:Int):S66:=xs.getD i.toNat z66
theorem at_T66 {w:World} {A:Option Addr} {n:Nat} {xs:List S66} (h:Kd.C k66 w A n xs) (i:Int) (h0:0≤i) (h1:i < n) : ∃ ad A1 c1 A2 c2 A3 c3,A=some ad∧w.cell? (ad.add (i.toNat * 4))=some (.bool (rd_T66 xs i).f0)∧w.cell? ⟨(ad.add (i.toNat * 4)).block,(ad.add (i.toNat * 4)).off+1,none⟩=some (.slice A1 (rd_T66 xs i).f1.length c1)∧w.cell? ⟨(ad.add (i.toNat * 4)).block,(ad.add (i.toNat * 4)).off+2,none⟩=some (.slice A2 (rd_T66 xs i).f2.length c2)∧w.cell? ⟨(ad.add (i.toNat * 4)).block,(ad.add (i.toNat * 4)).off+3,none⟩=some (.slice A3 (rd_T66 xs i).f3.length c3)∧(rd_T66 xs i).f1.length≤c1∧Kd.string.C w A1 (rd_T66 xs i).f1.length (rd_T66 xs i).f1∧(rd_T66 xs i).f2.length≤c2∧Kd.string.C w A2 (rd_T66 xs i).f2.length (rd_T66 xs i).f2∧(rd_T66 xs i).f3.length≤c3∧(Kd.slice 9 Kd.string).C w A3 (rd_T66 xs i).f3.length (rd_T66 xs i).f3:=by
  obtain ⟨ad,c,e,_,hK,hc0⟩:=Kd.C_get h z66 i h0 h1
  have hc : ∀ j u,c[j]? = some u→w.cell? (ad.add (i.toNat * 4+j))=some u:=hc0
  obtain ⟨A1,c1,A2,c2,A3,c3,rfl,l1,g1,l2,g2,l3,g3⟩:=k66_open hK
  exact ⟨ad,A1,c1,A2,c2,A3,c3,e,hc 0 _ rfl,by rw [← add_field _ _ 1 (by omega)];exact hc 1 _ rfl,by rw [← add_field _ _ 2 (by omega)];exact hc 2 _ rfl,by rw [← add_field _ _ 3 (by omega)];exact hc 3 _ rfl,l1,g1,l2,g2,l3,g3⟩

def rd_L16 (xs:List (List Int)) (i:Int):(List Int):=xs.getD i.toNat ([]:List Int)
theorem at_L16 {w:World} {A:Option Addr} {n:Nat} {xs:List (List Int)} (h:Kd.C (Kd.slice 3 (Kd.int .i64)) w A n xs) (i:Int) (h0:0≤i) (h1:i < n) : ∃ ad A0 c0,A=some ad∧w.cell? (ad.add i.toNat)=some (.slice A0 (rd_L16 xs i).length c0)∧(rd_L16 xs i).length≤c0∧(Kd.int .i64).C w A0 (rd_L16 xs i).length (rd_L16 xs i):=by
  obtain ⟨ad,c,e,_,hK,hc0⟩:=Kd.C_get h ([]:List Int) i h0 h1
  have hc : ∀ j u,c[j]? = some u→w.cell? (ad.add (i.toNat * 1+j))=some u:=hc0
  obtain ⟨A0,c0,rfl,l0,g0⟩:=hK
  exact ⟨ad,A0,c0,e,by have hq:=hc 0 _ rfl;rwa [Nat.mul_one,Nat.add_zero] at hq,l0,g0⟩

theorem eqA45 (d:Nat) (w:World) (x0 y0:Int) (x1 y1:Int) :
    (Op.equalIn (d+2) 45 (.agg #[.int .i64 x0, .int .i64 x1]) (.agg #[.int .i64 y0, .int .i64 y1])).run Tryz.prog w = .ok (x0 == y0 && (x1 == y1)) w:=by
  refine eqA_of Tryz.underlying45 (by kernel_rfl) ?_
  refine eqf_cons (by rfl) (by go_simp;rfl) (by go_simp;rfl) (by go_simp) ?_
  exact eqf_last (by rfl) (by go_simp;rfl) (by go_simp;rfl) (by go_simp)
end Go.Proofs.YtbbhdbeaikclcaaGreat.X
namespace Go.Proofs.YtbbhdbeaikclcaaGreat.X
open Go.RowKit Go.Proofs.YtbbhdbeaikclcaaGreatW.PrintWords
theorem cellD {w w1:World} {n:Nat} {a:Addr} {v:Option Value} (h:w.drewN n=w1) (hc:w.cell? a=v):w1.cell? a=v:=by
  rw [← h,← hc];simp
theorem frozenD {w w1:World} {n:Nat} {a:Addr} {v:Bool} (h:w.drewN n=w1) (hc:w.frozen? a=v):w1.frozen? a=v:=by
  rw [← h,← hc];simp
/-- A block whose cells are numbers, as a row of one's own. -/
theorem R_int_of_cells {k:IntKind} {W:World} {g base:Nat} {e:TypeId} {xs:List Int} (h:W.heap[g]? = some (.cells (xs.map (Value.int k)).toArray e (0,0))) (hb:base≤g) (hl:xs.length≤maxLen) :
    Kd.R (Kd.int k) e W base (fun _=>True) (.slice (some ⟨g,0,none⟩) xs.length xs.length) xs:=by
  refine ⟨fun _ _=>trivial,xs.map (Value.int k),⟨by simp [Kd.int,Kd.scalar], .inr ⟨g,xs.length,_,rfl,hb,h,Nat.le_refl _,hl,by simp [Kd.int,Kd.scalar],by simp [Kd.int,Kd.scalar,List.take_of_length_le]⟩⟩,by simp [Kd.int,Kd.scalar],fun j p hj=>?_⟩
  obtain ⟨hl,rfl⟩:=List.getElem?_eq_some_iff.1 hj
  show ((xs.map (Value.int k)).drop (j * 1)).take 1=[Value.int k xs[j]]
  rw [Nat.mul_one,List.drop_eq_getElem_cons (by simpa using hl)]
  simp
section
variable {P:Program} {ops:Array Oper} {rest:List Oper} {o:Oper} {a:Act} {Q:Exit→Act→World→Prop} {W:World}
/-- An operation that yields a value, the world behind it as a letter. -/
theorem event_at {v:Value} {w1:World} (hgd:o.guard=none) (hrun:(execOp a.eval o).run P W = .ok (.value v) w1) (h : ∀ w',Aside0 (w'=w1)→wpList P ops Q rest (a.put o.dst v) w'):wpList P ops Q (o :: rest) a W :=
  Kd.event_run hgd hrun (h _ ⟨rfl⟩)
/-- A store, the world behind it as a letter. -/
theorem store_at {w1:World} (hgd:o.guard=none) {t:TypeId} {p:Tmp} {v:Operand} (ho:o.op = .store t (.tmp p) v) (hN:o.dst=none) (hrun:(execOp a.eval o).run P W = .ok .skip w1) (h : ∀ w',Aside0 (w'=w1)→wpList P ops Q rest a w'):wpList P ops Q (o :: rest) a W :=
  store_event hgd ho hN hrun (fun w' hw=>h w' ⟨hw⟩)
end
theorem cell_blk {W:World} {g j:Nat} {cs:Array Value} {t:TypeId} {v:Value} (h:W.heap[g]? = some (.cells cs t (0,0))) (hj:cs[j]? = some v):W.cell? ⟨g,j,none⟩=some v:=by
  rw [cell_of_row W g j cs t (0,0) h,hj]
theorem heap_set_same {W:World} {g j:Nat} {cs:Array Value} {t:TypeId} {fr:Nat × Nat} (h:W.heap[g]? = some (.cells cs t fr)) (v:Value):(W.setCell ⟨g,j,none⟩ v).heap[g]? = some (.cells (cs.setIfInBounds j v) t fr):=by
  have hlt:g < W.heap.size:=(Array.getElem?_eq_some_iff.1 h).1
  rw [Array.getElem?_eq_getElem hlt] at h
  injection h with h
  simp [World.setCell,hlt,Array.getElem_modify,h]
theorem heap_set_other {W:World} {g g' j:Nat} (hne:g'≠g) (v:Value):(W.setCell ⟨g,j,none⟩ v).heap[g']? = W.heap[g']? := Below.heap_setCell W ⟨g,j,none⟩ v g' hne
theorem cell_alloc_of {w:World} {a:Addr} {v:Value} (h:w.cell? a=some v) (o:Obj):(w.alloc o).cell? a=some v :=
  (World.cell?_alloc_lt _ _ _ (World.block_lt_of_cell? w a h)).trans h
end Go.Proofs.YtbbhdbeaikclcaaGreat.X
namespace Go.Proofs.YtbbhdbeaikclcaaGreat.X
open Go.RowKit Go.Proofs.YtbbhdbeaikclcaaGreatW.PrintWords Go.Proofs.YtbbhdbeaikclcaaGreatW.PrintLast Go.Proofs.YtbbhdbeaikclcaaGreatW.PrintMore
/-- Proofs that stand often in these texts, shown by default. -/
theorem dt_ {p:Prop} [Decidable p] (h:decide p=true:=by first | (with_reducible assumption) | assumption):p:=of_decide_eq_true h
theorem bel_ {p:Prop} (h:p:=by repeat (first | (with_reducible first | exact HB.out | apply below_alloc | apply pw_below_drewN | apply below_drew1) | exact HB.out)):p:=h
theorem pR_ {p q:Prop} (h:p) (hq:p→q:=by (intro h;(with_reducible repeat (first | apply Kd.R_alloc | apply Kd.R_drewN | apply Kd.R_drew));exact h)):q:=hq h
theorem pK_ {p q:Prop} (h:p) (hq:p→q:=by (intro h;(with_reducible repeat (first | refine blk_drewN ?_ _ | refine blk_drew ?_ | refine blk_alloc ?_ _));exact h)):q:=hq h
theorem rs_ {p:Prop} (h:p:=by first | rfl | (simp;done) | (simp [*];done)):p:=h
theorem d0_ {p:Prop} (h:p:=by repeat (first | exact Drawn0.refl _ | apply Drawn0.step)):p:=h
section
variable {α:Type} {d:Kd α} {e:TypeId} {W W':World} {B:Nat} {ok:Nat→Prop} {v:Value} {xs:List α}
end
section
variable {P:Program} {md:Region.Mode} {ops:Array Oper} {Q:Exit→Act→World→Prop} {S:World→Prop} {ds:List Nat}
/-- An operation that yields in every world. -/
theorem pq_ {i:Nat} {N:Option Tmp} {oi:Oper} {v:Value} {fuel:Nat} {l:Array Bool} {a:Act} {w:World} (l':Array Bool) {a':Act} (h:wpAnyLast P md ops Q S ds fuel l' a' w) (hi:ops[i]? = some oi:=by rfl) (hN:oi.dst=N:=by rfl) (hc:anyB md ops l l' i=true:=by kernel_rfl)
    (hQ : ∀ c a w,Q (.panic c) (a.put oi.dst v) w→Q (.panic c) a w:=by exact fun _ _ _ h=>h) (hy:Yields P ops oi v a:=by exact Or.inl ⟨by rfl,by (intro w';go_simp;with_reducible rfl)⟩) (ha:a.put N v=a':=by (simp only [Act.put,List.setIfInBounds_toArray,List.set_cons_zero,List.set_cons_succ,i64_w,i32_w];rfl)):wpAnyLast P md ops Q S ds (fuel+1) l a w:=pure_ l' hi hN hc hQ hy ha h
/-- One whose guard is off. -/
theorem pu_ {i:Nat} {N:Option Tmp} {oi:Oper} {fuel:Nat} {l:Array Bool} {a:Act} {w:World} (l':Array Bool) {a':Act} (h:wpAnyLast P md ops Q S ds fuel l' a' w) (hi:ops[i]? = some oi:=by rfl) (hN:oi.dst=N:=by rfl) (hc:anyB md ops l l' i=true:=by kernel_rfl)
    (hQ : ∀ c a w,Q (.panic c) (a.put oi.dst undef) w→Q (.panic c) a w:=by exact fun _ _ _ h=>h) (hy:Yields P ops oi undef a:=by exact Or.inr ⟨by rfl,rfl⟩) (ha:a.put N undef=a':=by (simp only [Act.put,List.setIfInBounds_toArray,List.set_cons_zero,List.set_cons_succ,i64_w,i32_w];rfl)):wpAnyLast P md ops Q S ds (fuel+1) l a w:=pure_ l' hi hN hc hQ hy ha h
/-- One that reads. -/
theorem tq_ {i:Nat} {N:Option Tmp} {oi:Oper} {v:Value} {fuel:Nat} {l:Array Bool} {a:Act} {w:World} (l':Array Bool) {a':Act} (hS:S w) (h:wpAnyLast P md ops Q S ds fuel l' a' w) (hi:ops[i]? = some oi:=by rfl) (hN:oi.dst=N:=by rfl) (hc:takeB md ops ds l l' i=true:=by kernel_rfl)
    (hQ : ∀ c a w,Q (.panic c) (a.put oi.dst v) w→Q (.panic c) a w:=by exact fun _ _ _ h=>h) (hy:YieldsIf P ops S oi v a:=by exact Or.inl ⟨by rfl,by (intro w' s;(repeat (obtain ⟨_,s⟩:=s));go_simp;with_reducible rfl)⟩) (ha:a.put N v=a':=by (simp only [Act.put,List.setIfInBounds_toArray,List.set_cons_zero,List.set_cons_succ,i64_w,i32_w];rfl)):wpAnyLast P md ops Q S ds (fuel+1) l a w:=take_ l' hi hN hc hQ hy hS ha h
theorem nq_ {fuel:Nat} {l:Array Bool} {a a':Act} {w:World} {N:Option Tmp} {v:Value} (h:wpAnyLast P md ops Q S ds fuel l a' w) (ha:a.put N v=a':=by (show Act.put _ _ _=_;simp only [Act.put,List.setIfInBounds_toArray,List.set_cons_zero,List.set_cons_succ,i64_w,i32_w];rfl)):wpAnyLast P md ops Q S ds fuel l (a.put N v) w:=norm_ ha h
end
end Go.Proofs.YtbbhdbeaikclcaaGreat.X
namespace Go.Proofs.YtbbhdbeaikclcaaGreat.X
open Go.RowKit Go.Proofs.YtbbhdbeaikclcaaGreatW.PrintWords Go.Proofs.YtbbhdbeaikclcaaGreatW.PrintLast Go.Proofs.YtbbhdbeaikclcaaGreatW.PrintMore
attribute [local go_sem] max2_int min2_int max_two min_two max_three min_three max_four min_four
attribute [local go_sem high] eqA45
mutual
def sennitref05_Same.l0:Nat→List (S48)→List (S48)→Int→Option (Bool)
  | 0,_,_,_=>none
  | k+1,x0,x1,x5=>if x5 < (x0.length:Int) then (if 0≤x5 then (if x5 < (x1.length:Int) then (if (((rd_T48 x0 x5).f0) != ((rd_T48 x1 x5).f0))=true then (sennitref05_Same.j1 k x0 x1 x5 true) else (if (!(((rd_T48 x0 x5).f1.f0) == ((rd_T48 x1 x5).f1.f0)) || (!(((rd_T48 x0 x5).f1.f1) == ((rd_T48 x1 x5).f1.f1))))=true then (sennitref05_Same.j1 k x0 x1 x5 true) else (sennitref05_Same.j1 k x0 x1 x5 ((((rd_T48 x0 x5).f2).length:Int) != (((rd_T48 x1 x5).f2).length:Int))))) else (none)) else (none)) else (some true)
def sennitref05_Same.j1:Nat→List (S48)→List (S48)→Int→Bool→Option (Bool)
  | 0,_,_,_,_=>none
  | k+1,x0,x1,x5,x56=>if x56=true then (some false) else (sennitref05_Same.l1 k x0 x1 x5 0)
def sennitref05_Same.l1:Nat→List (S48)→List (S48)→Int→Int→Option (Bool)
  | 0,_,_,_,_=>none
  | k+1,x0,x1,x5,x6=>if 0≤x5 then (if x5 < (x0.length:Int) then (if x6 < (((rd_T48 x0 x5).f2).length:Int) then (if 0≤x6 then (if x5 < (x1.length:Int) then (if x6 < (((rd_T48 x1 x5).f2).length:Int) then (if (!(((rd_T45 ((rd_T48 x0 x5).f2) x6).f0) == ((rd_T45 ((rd_T48 x1 x5).f2) x6).f0)) || (!(((rd_T45 ((rd_T48 x0 x5).f2) x6).f1) == ((rd_T45 ((rd_T48 x1 x5).f2) x6).f1))))=true then (some false) else (sennitref05_Same.l1 k x0 x1 x5 (wrap64 (x6+1)))) else (none)) else (none)) else (none)) else (sennitref05_Same.l0 k x0 x1 (wrap64 (x5+1)))) else (none)) else (none)
end
def sennitref05_Same.f (k:Nat) (l0:List (S48)) (l1:List (S48)):Option (Bool):=if (l0.length:Int)=(l1.length:Int) then (sennitref05_Same.l0 k l0 l1 0) else (some false)
set_option maxHeartbeats 8000000 in
set_option maxRecDepth 100000 in
theorem sennitref05_Same.calls (k:Nat) (A0:Option Addr) (c0:Nat) (l0:List (S48)) (A1:Option Addr) (c1:Nat) (l1:List (S48)) (r:Bool) (w:World) (hr0:Kd.C k48 w A0 l0.length l0) (hc0:l0.length≤c0) (hr1:Kd.C k48 w A1 l1.length l1) (hc1:l1.length≤c1) (h:sennitref05_Same.f k l0 l1=some r) :
    Calls Tryz.prog 17 #[.slice A0 l0.length c0, .slice A1 l1.length c1] w fun e w'=>e = .returned (.bool r)∧Drawn0 w w':=by
 have hu45:=Tryz.underlying45;have HR0:=Aside0.mk hr0;have HC0:=Aside0.mk hc0;clear hr0 hc0;have HR1:=Aside0.mk hr1;have HC1:=Aside0.mk hc1;clear hr1 hc1;have H:(if (l0.length:Int)=(l1.length:Int) then (sennitref05_Same.l0 k l0 l1 0) else (some false))=some r:=h;clear h
 by_cases c3:(l0.length:Int)=(l1.length:Int)
 ·
  (rw [if_pos c3] at H);have c3b0:((l0.length:Int) == (l1.length:Int))=true:=beq_iff_eq.mpr c3;have c3b1:((l0.length:Int) != (l1.length:Int))=false:=bne_eq_false_iff_eq.mpr c3;(have c3b2:(l0.length == l1.length)=true:=by first | simpa using c3 | (simp at c3 ⊢;omega));clear c3;have H':=Aside0.mk H;clear H;go_enter Tryz.func17,Tryz.ntmps17;go_wp2;(repeat (go_quiet (fail);try go_wp2))
  go_loopg [5] k (fun kq v5 w' => ∃ (x5_1:Int),v5 = .int .i64 x5_1∧Aside0 (sennitref05_Same.l0 kq l0 l1 x5_1=some r)∧Aside0 (kq≤k)∧Drawn0 w w')
  (case atStart=>exact ⟨(0),rs_,H',⟨Nat.le_refl _⟩,d0_⟩)
  case round =>
   clear H';(try clear c1);(try clear p2);(try clear c3);(try clear c3b0);(try clear c3b1);(try clear c3b2);obtain ⟨x5_1,rfl,HA,HK1,⟨m1,rfl⟩⟩:=hrel
   cases gk with
   | zero=>exact absurd HA.out (by simp [sennitref05_Same.l0])
   | succ k1 =>
    have H:=HA.out;clear HA;(simp only [sennitref05_Same.l0] at H)
    by_cases c4:x5_1 < (l0.length:Int)
    ·
     (rw [if_pos c4] at H);have c4b0:decide (x5_1 < (l0.length:Int))=true:=decide_eq_true c4;clear c4;have HC5:=Aside0.mk H;clear H
     go_upto_region 6 with (fail)
     (repeat (go_quiet (fail);go_upto_region 6 with (fail)))
     go_cut [56] (fun v56 wc => ∃ (kq:Nat) (x56_4:Bool),v56 = .bool x56_4∧Aside0 (sennitref05_Same.j1 kq l0 l1 x5_1 x56_4=some r)∧Aside0 (kq≤k1)∧Drawn0 w wc)
     case first =>
      have H:=HC5.out;clear HC5
      by_cases c6:0≤x5_1
      ·
       (rw [if_pos c6] at H);have c6b0:decide (0≤x5_1)=true:=decide_eq_true c6;clear c6;(first | rw [c6b0] | (simp only [i64_w,i32_w];rw [c6b0]) | skip)
       by_cases c7:x5_1 < (l1.length:Int)
       ·
        (rw [if_pos c7] at H);have c7b0:decide (x5_1 < (l1.length:Int))=true:=decide_eq_true c7;clear c7
        by_cases c8:(((rd_T48 l0 x5_1).f0) != ((rd_T48 l1 x5_1).f0))=true
        ·
         (rw [if_pos c8] at H);have c8b0:(((rd_T48 l0 x5_1).f0) != ((rd_T48 l1 x5_1).f0))=true:=c8;(try (have c8b1:decide (((rd_T48 l0 x5_1).f0)=((rd_T48 l1 x5_1).f0))=false:=by simpa using c8));(try (have c8b2:(((rd_T48 l0 x5_1).f0) == ((rd_T48 l1 x5_1).f0))=false:=by simpa using c8));(try (have c8b3 : ¬ (((rd_T48 l0 x5_1).f0)=((rd_T48 l1 x5_1).f0)):=by simpa using c8));clear c8;have H':=Aside0.mk H;clear H;have p207:0≤(x5_1:Int):=dt_;have q207:x5_1 < (l0.length:Int):=dt_;obtain ⟨ad207,A207_3,c207_3,e207,hx207_0,hx207_1,hx207_2,hx207_3,hl207_3,hi207_3⟩:=at_T48 HR0.out x5_1 p207 q207;cases e207;have HR207_3:=Aside0.mk hi207_3;have HC207_3:=Aside0.mk hl207_3;clear hi207_3 hl207_3;replace p207:=eq_true p207;replace q207:=eq_true q207;have p208:0≤(x5_1:Int):=dt_;have q208:x5_1 < (l1.length:Int):=dt_;obtain ⟨ad208,A208_3,c208_3,e208,hx208_0,hx208_1,hx208_2,hx208_3,hl208_3,hi208_3⟩:=at_T48 HR1.out x5_1 p208 q208;cases e208;have HR208_3:=Aside0.mk hi208_3;have HC208_3:=Aside0.mk hl208_3;clear hi208_3 hl208_3;replace p208:=eq_true p208;replace q208:=eq_true q208;go_wp2;(repeat (go_quiet (fail);try go_wp2))
         go_meet
         (case rel=>exact ⟨_,(true),rs_,H',⟨by have:=HK1.out;first | omega | exact Nat.le_refl _⟩,d0_⟩)
        ·
         (rw [if_neg c8] at H);(have c8b0:(((rd_T48 l0 x5_1).f0) != ((rd_T48 l1 x5_1).f0))=false:=by simpa using c8);(try (have c8b1:decide (((rd_T48 l0 x5_1).f0)=((rd_T48 l1 x5_1).f0))=true:=by simpa using c8));(try (have c8b2:(((rd_T48 l0 x5_1).f0) == ((rd_T48 l1 x5_1).f0))=true:=by simpa using c8));clear c8
         by_cases c9:(!(((rd_T48 l0 x5_1).f1.f0) == ((rd_T48 l1 x5_1).f1.f0)) || (!(((rd_T48 l0 x5_1).f1.f1) == ((rd_T48 l1 x5_1).f1.f1))))=true
         ·
          (rw [if_pos c9] at H);have c9b0:(!(((rd_T48 l0 x5_1).f1.f0) == ((rd_T48 l1 x5_1).f1.f0)) || (!(((rd_T48 l0 x5_1).f1.f1) == ((rd_T48 l1 x5_1).f1.f1))))=true:=c9;clear c9;have H':=Aside0.mk H;clear H;have p207:0≤(x5_1:Int):=dt_;have q207:x5_1 < (l0.length:Int):=dt_;obtain ⟨ad207,A207_3,c207_3,e207,hx207_0,hx207_1,hx207_2,hx207_3,hl207_3,hi207_3⟩:=at_T48 HR0.out x5_1 p207 q207;cases e207;have HR207_3:=Aside0.mk hi207_3;have HC207_3:=Aside0.mk hl207_3;clear hi207_3 hl207_3;replace p207:=eq_true p207;replace q207:=eq_true q207;have p208:0≤(x5_1:Int):=dt_;have q208:x5_1 < (l1.length:Int):=dt_;obtain ⟨ad208,A208_3,c208_3,e208,hx208_0,hx208_1,hx208_2,hx208_3,hl208_3,hi208_3⟩:=at_T48 HR1.out x5_1 p208 q208;cases e208;have HR208_3:=Aside0.mk hi208_3;have HC208_3:=Aside0.mk hl208_3;clear hi208_3 hl208_3;replace p208:=eq_true p208;replace q208:=eq_true q208;have p209:0≤(x5_1:Int):=dt_;have q209:x5_1 < (l0.length:Int):=dt_;obtain ⟨ad209,A209_3,c209_3,e209,hx209_0,hx209_1,hx209_2,hx209_3,hl209_3,hi209_3⟩:=at_T48 HR0.out x5_1 p209 q209;obtain rfl:ad207=ad209:=(by injection e209);have HR209_3:=Aside0.mk hi209_3;have HC209_3:=Aside0.mk hl209_3;clear hi209_3 hl209_3;replace p209:=eq_true p209;replace q209:=eq_true q209;have ea_:=Option.some.inj (hx207_3.symm.trans hx209_3);(injection ea_ with ea_ en_ ec_);subst ea_;subst ec_;clear en_;have p210:0≤(x5_1:Int):=dt_;have q210:x5_1 < (l1.length:Int):=dt_;obtain ⟨ad210,A210_3,c210_3,e210,hx210_0,hx210_1,hx210_2,hx210_3,hl210_3,hi210_3⟩:=at_T48 HR1.out x5_1 p210 q210;obtain rfl:ad208=ad210:=(by injection e210);have HR210_3:=Aside0.mk hi210_3;have HC210_3:=Aside0.mk hl210_3;clear hi210_3 hl210_3;replace p210:=eq_true p210;replace q210:=eq_true q210;have ea_:=Option.some.inj (hx208_3.symm.trans hx210_3);(injection ea_ with ea_ en_ ec_);subst ea_;subst ec_;clear en_;go_wp2;(repeat (go_quiet (fail);try go_wp2))
          go_meet
          (case rel=>exact ⟨_,(true),rs_,H',⟨by have:=HK1.out;first | omega | exact Nat.le_refl _⟩,d0_⟩)
         ·
          (rw [if_neg c9] at H);(have c9b0:(!(((rd_T48 l0 x5_1).f1.f0) == ((rd_T48 l1 x5_1).f1.f0)) || (!(((rd_T48 l0 x5_1).f1.f1) == ((rd_T48 l1 x5_1).f1.f1))))=false:=by simpa using c9);clear c9;have H':=Aside0.mk H;clear H;have p207:0≤(x5_1:Int):=dt_;have q207:x5_1 < (l0.length:Int):=dt_;obtain ⟨ad207,A207_3,c207_3,e207,hx207_0,hx207_1,hx207_2,hx207_3,hl207_3,hi207_3⟩:=at_T48 HR0.out x5_1 p207 q207;cases e207;have HR207_3:=Aside0.mk hi207_3;have HC207_3:=Aside0.mk hl207_3;clear hi207_3 hl207_3;replace p207:=eq_true p207;replace q207:=eq_true q207;have p208:0≤(x5_1:Int):=dt_;have q208:x5_1 < (l1.length:Int):=dt_;obtain ⟨ad208,A208_3,c208_3,e208,hx208_0,hx208_1,hx208_2,hx208_3,hl208_3,hi208_3⟩:=at_T48 HR1.out x5_1 p208 q208;cases e208;have HR208_3:=Aside0.mk hi208_3;have HC208_3:=Aside0.mk hl208_3;clear hi208_3 hl208_3;replace p208:=eq_true p208;replace q208:=eq_true q208;have p209:0≤(x5_1:Int):=dt_;have q209:x5_1 < (l0.length:Int):=dt_;obtain ⟨ad209,A209_3,c209_3,e209,hx209_0,hx209_1,hx209_2,hx209_3,hl209_3,hi209_3⟩:=at_T48 HR0.out x5_1 p209 q209;obtain rfl:ad207=ad209:=(by injection e209);have HR209_3:=Aside0.mk hi209_3;have HC209_3:=Aside0.mk hl209_3;clear hi209_3 hl209_3;replace p209:=eq_true p209;replace q209:=eq_true q209;have ea_:=Option.some.inj (hx207_3.symm.trans hx209_3);(injection ea_ with ea_ en_ ec_);subst ea_;subst ec_;clear en_;have p210:0≤(x5_1:Int):=dt_;have q210:x5_1 < (l1.length:Int):=dt_;obtain ⟨ad210,A210_3,c210_3,e210,hx210_0,hx210_1,hx210_2,hx210_3,hl210_3,hi210_3⟩:=at_T48 HR1.out x5_1 p210 q210;obtain rfl:ad208=ad210:=(by injection e210);have HR210_3:=Aside0.mk hi210_3;have HC210_3:=Aside0.mk hl210_3;clear hi210_3 hl210_3;replace p210:=eq_true p210;replace q210:=eq_true q210;have ea_:=Option.some.inj (hx208_3.symm.trans hx210_3);(injection ea_ with ea_ en_ ec_);subst ea_;subst ec_;clear en_;have p211:0≤(x5_1:Int):=dt_;have q211:x5_1 < (l0.length:Int):=dt_;obtain ⟨ad211,A211_3,c211_3,e211,hx211_0,hx211_1,hx211_2,hx211_3,hl211_3,hi211_3⟩:=at_T48 HR0.out x5_1 p211 q211;obtain rfl:ad207=ad211:=(by injection e211);have HR211_3:=Aside0.mk hi211_3;have HC211_3:=Aside0.mk hl211_3;clear hi211_3 hl211_3;replace p211:=eq_true p211;replace q211:=eq_true q211;have ea_:=Option.some.inj (hx207_3.symm.trans hx211_3);(injection ea_ with ea_ en_ ec_);subst ea_;subst ec_;clear en_;have p212:0≤(x5_1:Int):=dt_;have q212:x5_1 < (l1.length:Int):=dt_;obtain ⟨ad212,A212_3,c212_3,e212,hx212_0,hx212_1,hx212_2,hx212_3,hl212_3,hi212_3⟩:=at_T48 HR1.out x5_1 p212 q212;obtain rfl:ad208=ad212:=(by injection e212);have HR212_3:=Aside0.mk hi212_3;have HC212_3:=Aside0.mk hl212_3;clear hi212_3 hl212_3;replace p212:=eq_true p212;replace q212:=eq_true q212;have ea_:=Option.some.inj (hx208_3.symm.trans hx212_3);(injection ea_ with ea_ en_ ec_);subst ea_;subst ec_;clear en_;go_wp2;(repeat (go_quiet (fail);try go_wp2))
          go_meet
          (case rel=>exact ⟨_,(((((rd_T48 l0 x5_1).f2).length:Int) != (((rd_T48 l1 x5_1).f2).length:Int))),rs_,H',⟨by have:=HK1.out;first | omega | exact Nat.le_refl _⟩,d0_⟩)
       (· (rw [if_neg c7] at H);exact absurd H (by simp))
      (· (rw [if_neg c6] at H);exact absurd H (by simp))
     case rest =>
      clear HC5;(try clear c1);(try clear c2);(try clear p2);(try clear q2);(try clear hx2);(try clear c3);(try clear c3b0);(try clear c3b1);(try clear c3b2);(try clear c4);(try clear c4b0);(try clear c6);(try clear c6b0);(try clear c7);(try clear c7b0);(try clear c8);(try clear c8b0);(try clear c8b1);(try clear c8b2);(try clear c9);(try clear c9b0);(try clear hx207_0);(try clear hx207_1);(try clear hx207_2);(try clear hx207_3);(try clear hx208_0);(try clear hx208_1);(try clear hx208_2);(try clear hx208_3);(try clear hx209_0);(try clear hx209_1);(try clear hx209_2);(try clear hx209_3);(try clear hx210_0);(try clear hx210_1);(try clear hx210_2);(try clear hx210_3);(try clear hx211_0);(try clear hx211_1);(try clear hx211_2);(try clear hx211_3);(try clear hx212_0);(try clear hx212_1);(try clear hx212_2);(try clear hx212_3);(try clear p2);(try clear p207);(try clear p208);(try clear p209);(try clear p210);(try clear p211);(try clear p212);(try clear q207);(try clear q208);(try clear q209);(try clear q210);(try clear q211);(try clear q212);obtain ⟨kq,x56_4,rfl,HA,HJ4,⟨mc4,rfl⟩⟩:=hcut
      cases kq with
      | zero=>exact absurd HA.out (by simp [sennitref05_Same.j1])
      | succ kj4 =>
       have H:=HA.out;clear HA;(simp only [sennitref05_Same.j1] at H)
       by_cases c10:x56_4=true
       (· subst c10;(have H1:(some false)=some r:=by rw [if_pos rfl] at H;exact H);clear H;have H:=H1;clear H1;obtain rfl:=Option.some.inj H;go_wp2;(repeat (go_quiet (fail);try go_wp2));go_ret;exact ⟨by first | rfl | (simp;done) | (simp [*];done),d0_⟩)
       ·
        replace c10:=Bool.eq_false_iff.mpr c10;subst c10;(have H1:(sennitref05_Same.l1 kj4 l0 l1 x5_1 0)=some r:=by rw [if_neg (show ¬ (false=true) by decide)] at H;exact H);clear H;have H:=H1;clear H1;have H':=Aside0.mk H;clear H;go_wp2;(repeat (go_quiet (fail);try go_wp2))
        go_loopg [6] kj4 (fun kq v6 w' => ∃ (x6_3:Int),v6 = .int .i64 x6_3∧Aside0 (sennitref05_Same.l1 kq l0 l1 x5_1 x6_3=some r)∧Aside0 (kq≤kj4)∧Drawn0 w w')
        (case atStart=>exact ⟨(0),rs_,H',⟨Nat.le_refl _⟩,d0_⟩)
        case round =>
         clear H';(try clear c1);(try clear c2);(try clear p2);(try clear q2);(try clear hx2);(try clear c3);(try clear c3b0);(try clear c3b1);(try clear c3b2);(try clear c4);(try clear c4b0);(try clear c6);(try clear c6b0);(try clear c7);(try clear c7b0);(try clear c8);(try clear c8b0);(try clear c8b1);(try clear c8b2);(try clear c9);(try clear c9b0);(try clear c10);(try clear hx207_0);(try clear hx207_1);(try clear hx207_2);(try clear hx207_3);(try clear hx208_0);(try clear hx208_1);(try clear hx208_2);(try clear hx208_3);(try clear hx209_0);(try clear hx209_1);(try clear hx209_2);(try clear hx209_3);(try clear hx210_0);(try clear hx210_1);(try clear hx210_2);(try clear hx210_3);(try clear hx211_0);(try clear hx211_1);(try clear hx211_2);(try clear hx211_3);(try clear hx212_0);(try clear hx212_1);(try clear hx212_2);(try clear hx212_3);(try clear p2);(try clear p207);(try clear p208);(try clear p209);(try clear p210);(try clear p211);(try clear p212);(try clear q2);(try clear q207);(try clear q208);(try clear q209);(try clear q210);(try clear q211);(try clear q212);obtain ⟨x6_3,rfl,HA,HK3,⟨m3,rfl⟩⟩:=hrel
         cases gk with
         | zero=>exact absurd HA.out (by simp [sennitref05_Same.l1])
         | succ k3 =>
          have H:=HA.out;clear HA;(simp only [sennitref05_Same.l1] at H)
          by_cases c11:0≤x5_1
          ·
           (rw [if_pos c11] at H);have c11b0:decide (0≤x5_1)=true:=decide_eq_true c11;clear c11
           by_cases c12:x5_1 < (l0.length:Int)
           ·
            (rw [if_pos c12] at H);have c12b0:decide (x5_1 < (l0.length:Int))=true:=decide_eq_true c12;clear c12
            by_cases c13:x6_3 < (((rd_T48 l0 x5_1).f2).length:Int)
            ·
             (rw [if_pos c13] at H);have c13b0:decide (x6_3 < (((rd_T48 l0 x5_1).f2).length:Int))=true:=decide_eq_true c13;clear c13
             by_cases c14:0≤x6_3
             ·
              (rw [if_pos c14] at H);have c14b0:decide (0≤x6_3)=true:=decide_eq_true c14;clear c14
              by_cases c15:x5_1 < (l1.length:Int)
              ·
               (rw [if_pos c15] at H);have c15b0:decide (x5_1 < (l1.length:Int))=true:=decide_eq_true c15;clear c15
               by_cases c16:x6_3 < (((rd_T48 l1 x5_1).f2).length:Int)
               ·
                (rw [if_pos c16] at H);have c16b0:decide (x6_3 < (((rd_T48 l1 x5_1).f2).length:Int))=true:=decide_eq_true c16;clear c16
                by_cases c17:(!(((rd_T45 ((rd_T48 l0 x5_1).f2) x6_3).f0) == ((rd_T45 ((rd_T48 l1 x5_1).f2) x6_3).f0)) || (!(((rd_T45 ((rd_T48 l0 x5_1).f2) x6_3).f1) == ((rd_T45 ((rd_T48 l1 x5_1).f2) x6_3).f1))))=true
                (· (rw [if_pos c17] at H);have c17b0:(!(((rd_T45 ((rd_T48 l0 x5_1).f2) x6_3).f0) == ((rd_T45 ((rd_T48 l1 x5_1).f2) x6_3).f0)) || (!(((rd_T45 ((rd_T48 l0 x5_1).f2) x6_3).f1) == ((rd_T45 ((rd_T48 l1 x5_1).f2) x6_3).f1))))=true:=c17;clear c17;obtain rfl:=Option.some.inj H;have p213:0≤(x5_1:Int):=dt_;have q213:x5_1 < (l0.length:Int):=dt_;obtain ⟨ad213,A213_3,c213_3,e213,hx213_0,hx213_1,hx213_2,hx213_3,hl213_3,hi213_3⟩:=at_T48 HR0.out x5_1 p213 q213;cases e213;have HR213_3:=Aside0.mk hi213_3;have HC213_3:=Aside0.mk hl213_3;clear hi213_3 hl213_3;replace p213:=eq_true p213;replace q213:=eq_true q213;have p214:0≤(x5_1:Int):=dt_;have q214:x5_1 < (l0.length:Int):=dt_;obtain ⟨ad214,A214_3,c214_3,e214,hx214_0,hx214_1,hx214_2,hx214_3,hl214_3,hi214_3⟩:=at_T48 HR0.out x5_1 p214 q214;obtain rfl:ad213=ad214:=(by injection e214);have HR214_3:=Aside0.mk hi214_3;have HC214_3:=Aside0.mk hl214_3;clear hi214_3 hl214_3;replace p214:=eq_true p214;replace q214:=eq_true q214;have ea_:=Option.some.inj (hx213_3.symm.trans hx214_3);(injection ea_ with ea_ en_ ec_);subst ea_;subst ec_;clear en_;have p215:0≤(x6_3:Int):=dt_;have q215:x6_3 < (((rd_T48 l0 x5_1).f2).length:Int):=dt_;obtain ⟨ad215,e215,hx215_0,hx215_1⟩:=at_T45 HR214_3.out x6_3 p215 q215;cases e215;replace p215:=eq_true p215;replace q215:=eq_true q215;have p216:0≤(x5_1:Int):=dt_;have q216:x5_1 < (l1.length:Int):=dt_;obtain ⟨ad216,A216_3,c216_3,e216,hx216_0,hx216_1,hx216_2,hx216_3,hl216_3,hi216_3⟩:=at_T48 HR1.out x5_1 p216 q216;cases e216;have HR216_3:=Aside0.mk hi216_3;have HC216_3:=Aside0.mk hl216_3;clear hi216_3 hl216_3;replace p216:=eq_true p216;replace q216:=eq_true q216;have p217:0≤(x6_3:Int):=dt_;have q217:x6_3 < (((rd_T48 l1 x5_1).f2).length:Int):=dt_;obtain ⟨ad217,e217,hx217_0,hx217_1⟩:=at_T45 HR216_3.out x6_3 p217 q217;cases e217;replace p217:=eq_true p217;replace q217:=eq_true q217;go_wp2;(repeat (go_quiet (fail);try go_wp2));go_ret;exact ⟨by first | rfl | (simp;done) | (simp [*];done),d0_⟩)
                ·
                 (rw [if_neg c17] at H);(have c17b0:(!(((rd_T45 ((rd_T48 l0 x5_1).f2) x6_3).f0) == ((rd_T45 ((rd_T48 l1 x5_1).f2) x6_3).f0)) || (!(((rd_T45 ((rd_T48 l0 x5_1).f2) x6_3).f1) == ((rd_T45 ((rd_T48 l1 x5_1).f2) x6_3).f1))))=false:=by simpa using c17);clear c17;have H':=Aside0.mk H;clear H;have p213:0≤(x5_1:Int):=dt_;have q213:x5_1 < (l0.length:Int):=dt_;obtain ⟨ad213,A213_3,c213_3,e213,hx213_0,hx213_1,hx213_2,hx213_3,hl213_3,hi213_3⟩:=at_T48 HR0.out x5_1 p213 q213;cases e213;have HR213_3:=Aside0.mk hi213_3;have HC213_3:=Aside0.mk hl213_3;clear hi213_3 hl213_3;replace p213:=eq_true p213;replace q213:=eq_true q213;have p214:0≤(x5_1:Int):=dt_;have q214:x5_1 < (l0.length:Int):=dt_;obtain ⟨ad214,A214_3,c214_3,e214,hx214_0,hx214_1,hx214_2,hx214_3,hl214_3,hi214_3⟩:=at_T48 HR0.out x5_1 p214 q214;obtain rfl:ad213=ad214:=(by injection e214);have HR214_3:=Aside0.mk hi214_3;have HC214_3:=Aside0.mk hl214_3;clear hi214_3 hl214_3;replace p214:=eq_true p214;replace q214:=eq_true q214;have ea_:=Option.some.inj (hx213_3.symm.trans hx214_3);(injection ea_ with ea_ en_ ec_);subst ea_;subst ec_;clear en_;have p215:0≤(x6_3:Int):=dt_;have q215:x6_3 < (((rd_T48 l0 x5_1).f2).length:Int):=dt_;obtain ⟨ad215,e215,hx215_0,hx215_1⟩:=at_T45 HR214_3.out x6_3 p215 q215;cases e215;replace p215:=eq_true p215;replace q215:=eq_true q215;have p216:0≤(x5_1:Int):=dt_;have q216:x5_1 < (l1.length:Int):=dt_;obtain ⟨ad216,A216_3,c216_3,e216,hx216_0,hx216_1,hx216_2,hx216_3,hl216_3,hi216_3⟩:=at_T48 HR1.out x5_1 p216 q216;cases e216;have HR216_3:=Aside0.mk hi216_3;have HC216_3:=Aside0.mk hl216_3;clear hi216_3 hl216_3;replace p216:=eq_true p216;replace q216:=eq_true q216;have p217:0≤(x6_3:Int):=dt_;have q217:x6_3 < (((rd_T48 l1 x5_1).f2).length:Int):=dt_;obtain ⟨ad217,e217,hx217_0,hx217_1⟩:=at_T45 HR216_3.out x6_3 p217 q217;cases e217;replace p217:=eq_true p217;replace q217:=eq_true q217;go_wp2;(repeat (go_quiet (fail);try go_wp2))
                 go_roundg k3
                 (case measure=>have:=HK1.out;have:=HJ4.out;have:=HK3.out;omega);(case rel=>exact ⟨(wrap64 (x6_3+1)),rs_,H',⟨by have:=HK1.out;have:=HJ4.out;have:=HK3.out;omega⟩,d0_⟩)
               (· (rw [if_neg c16] at H);exact absurd H (by simp))
              (· (rw [if_neg c15] at H);exact absurd H (by simp))
             (· (rw [if_neg c14] at H);exact absurd H (by simp))
            ·
             (rw [if_neg c13] at H);have c13b0:decide (x6_3 < (((rd_T48 l0 x5_1).f2).length:Int))=false:=decide_eq_false c13;clear c13;have H':=Aside0.mk H;clear H;have p213:0≤(x5_1:Int):=dt_;have q213:x5_1 < (l0.length:Int):=dt_;obtain ⟨ad213,A213_3,c213_3,e213,hx213_0,hx213_1,hx213_2,hx213_3,hl213_3,hi213_3⟩:=at_T48 HR0.out x5_1 p213 q213;cases e213;have HR213_3:=Aside0.mk hi213_3;have HC213_3:=Aside0.mk hl213_3;clear hi213_3 hl213_3;replace p213:=eq_true p213;replace q213:=eq_true q213;go_wp2;(repeat (go_quiet (fail);try go_wp2))
             go_roundg k3
             (case measure=>have:=HK1.out;have:=HJ4.out;have:=HK3.out;omega);(case rel=>exact ⟨(wrap64 (x5_1+1)),rs_,H',⟨by have:=HK1.out;have:=HJ4.out;have:=HK3.out;omega⟩,d0_⟩)
           (· (rw [if_neg c12] at H);exact absurd H (by simp))
          (· (rw [if_neg c11] at H);exact absurd H (by simp))
    (· (rw [if_neg c4] at H);have c4b0:decide (x5_1 < (l0.length:Int))=false:=decide_eq_false c4;clear c4;obtain rfl:=Option.some.inj H;go_wp2;(repeat (go_quiet (fail);try go_wp2));go_ret;exact ⟨by first | rfl | (simp;done) | (simp [*];done),d0_⟩)
 (· (rw [if_neg c3] at H);have c3b0:((l0.length:Int) == (l1.length:Int))=false:=beq_eq_false_iff_ne.mpr c3;have c3b1:((l0.length:Int) != (l1.length:Int))=true:=bne_iff_ne.mpr c3;(have c3b2:(l0.length == l1.length)=false:=by first | simpa using c3 | (simp at c3 ⊢;omega));obtain rfl:=Option.some.inj H;go_enter Tryz.func17,Tryz.ntmps17;go_wp2;(repeat (go_quiet (fail);try go_wp2));go_ret;exact ⟨by first | rfl | (simp;done) | (simp [*];done),d0_⟩)
end Go.Proofs.YtbbhdbeaikclcaaGreat.X
namespace Go.Proofs.YtbbhdbeaikclcaaGreat.X
open Go.RowKit Go.Proofs.YtbbhdbeaikclcaaGreatW.PrintWords Go.Proofs.YtbbhdbeaikclcaaGreatW.PrintLast Go.Proofs.YtbbhdbeaikclcaaGreatW.PrintMore
attribute [local go_sem] max2_int min2_int max_two min_two max_three min_three max_four min_four
mutual
def sennitref03_rest.l0:Nat→List Int→List Int→Int→List Int→Int→Option (List Int)
  | 0,_,_,_,_,_=>none
  | k+1,x0,x1,x5,x6,x7=>if x7 ≥ 0 then (sennitref03_rest.l1 k x0 x1 x5 x6 x7 (wrap64 ((x1.length:Int) - 1))) else (some x6)
def sennitref03_rest.l1:Nat→List Int→List Int→Int→List Int→Int→Int→Option (List Int)
  | 0,_,_,_,_,_,_=>none
  | k+1,x0,x1,x5,x6,x7,x8=>if x8 ≥ 0 then (if 0≤(wrap64 ((wrap64 ((wrap64 (x7+1)) * x5))+x8)) then (if (wrap64 ((wrap64 ((wrap64 (x7+1)) * x5))+x8)) < (x6.length:Int) then (if 0≤(wrap64 ((wrap64 ((wrap64 (x7 * x5))+x8))+1)) then (if (wrap64 ((wrap64 ((wrap64 (x7 * x5))+x8))+1)) < (x6.length:Int) then (if 0≤x7 then (if x7 < (x0.length:Int) then (if 0≤x8 then (if x8 < (x1.length:Int) then (if (rd x0 x7)=(rd x1 x8) then (if 0≤(wrap64 ((wrap64 ((wrap64 ((wrap64 (x7+1)) * x5))+x8))+1)) then (if (wrap64 ((wrap64 ((wrap64 ((wrap64 (x7+1)) * x5))+x8))+1)) < (x6.length:Int) then (if 0≤(wrap64 ((wrap64 (x7 * x5))+x8)) then (if (wrap64 ((wrap64 (x7 * x5))+x8)) < (x6.length:Int) then (sennitref03_rest.l1 k x0 x1 x5 (x6.set ((wrap64 ((wrap64 (x7 * x5))+x8)):Int).toNat (mx (mx (rd x6 (wrap64 ((wrap64 ((wrap64 (x7+1)) * x5))+x8))) (rd x6 (wrap64 ((wrap64 ((wrap64 (x7 * x5))+x8))+1)))) (wrap64 ((rd x6 (wrap64 ((wrap64 ((wrap64 ((wrap64 (x7+1)) * x5))+x8))+1)))+1)))) x7 (wrap64 (x8 - 1))) else (none)) else (none)) else (none)) else (none)) else (if 0≤(wrap64 ((wrap64 (x7 * x5))+x8)) then (if (wrap64 ((wrap64 (x7 * x5))+x8)) < (x6.length:Int) then (sennitref03_rest.l1 k x0 x1 x5 (x6.set ((wrap64 ((wrap64 (x7 * x5))+x8)):Int).toNat (mx (rd x6 (wrap64 ((wrap64 ((wrap64 (x7+1)) * x5))+x8))) (rd x6 (wrap64 ((wrap64 ((wrap64 (x7 * x5))+x8))+1))))) x7 (wrap64 (x8 - 1))) else (none)) else (none))) else (none)) else (none)) else (none)) else (none)) else (none)) else (none)) else (none)) else (none)) else (sennitref03_rest.l0 k x0 x1 x5 x6 (wrap64 (x7 - 1)))
end
def sennitref03_rest.f (k:Nat) (l0:List Int) (l1:List Int):Option (List Int):=if 0≤(wrap64 ((wrap64 ((l0.length:Int)+1)) * (wrap64 ((l1.length:Int)+1)))) then (if (wrap64 ((wrap64 ((l0.length:Int)+1)) * (wrap64 ((l1.length:Int)+1))):Int).toNat≤35184372088832 then (sennitref03_rest.l0 k l0 l1 (wrap64 ((l1.length:Int)+1)) (List.replicate (wrap64 ((wrap64 ((l0.length:Int)+1)) * (wrap64 ((l1.length:Int)+1))):Int).toNat 0) (wrap64 ((l0.length:Int) - 1))) else (none)) else (none)
set_option maxHeartbeats 8000000 in
set_option maxRecDepth 100000 in
theorem sennitref03_rest.calls (k:Nat) (A0:Option Addr) (c0:Nat) (l0:List Int) (A1:Option Addr) (c1:Nat) (l1:List Int) (r:List Int) (w:World) (hr0:Kd.C (Kd.int .i64) w A0 l0.length l0) (hc0:l0.length≤c0) (hr1:Kd.C (Kd.int .i64) w A1 l1.length l1) (hc1:l1.length≤c1) (h:sennitref03_rest.f k l0 l1=some r) :
    Calls Tryz.prog 99 #[.slice A0 l0.length c0, .slice A1 l1.length c1] w fun e w' => ∃ v0_:Value,e = .returned (v0_)∧Kd.R (Kd.int .i64) 3 w' w.heap.size (fun _=>True) v0_ r∧Below w.heap.size w w':=by
 have HR0:=Aside0.mk hr0;have HC0:=Aside0.mk hc0;clear hr0 hc0;have HR1:=Aside0.mk hr1;have HC1:=Aside0.mk hc1;clear hr1 hc1;have HB:=Aside0.mk (Below.refl w.heap.size w);have H:(if 0≤(wrap64 ((wrap64 ((l0.length:Int)+1)) * (wrap64 ((l1.length:Int)+1)))) then (if (wrap64 ((wrap64 ((l0.length:Int)+1)) * (wrap64 ((l1.length:Int)+1))):Int).toNat≤35184372088832 then (sennitref03_rest.l0 k l0 l1 (wrap64 ((l1.length:Int)+1)) (List.replicate (wrap64 ((wrap64 ((l0.length:Int)+1)) * (wrap64 ((l1.length:Int)+1))):Int).toNat 0) (wrap64 ((l0.length:Int) - 1))) else (none)) else (none))=some r:=h;clear h;obtain ⟨ji3,hji3⟩ : ∃ j_:Int,(wrap64 ((wrap64 ((l0.length:Int)+1)) * (wrap64 ((l1.length:Int)+1))))=j_:=⟨_,rfl⟩;(replace H:(if 0≤(ji3) then (if (ji3:Int).toNat≤35184372088832 then (sennitref03_rest.l0 k l0 l1 (wrap64 ((l1.length:Int)+1)) (List.replicate (ji3:Int).toNat 0) (wrap64 ((l0.length:Int) - 1))) else (none)) else (none))=some r:=by first | (rw [hji3] at H;exact H) | (simp only [hji3] at H ⊢;exact H));have hji3w:(IntKind.i64.wrap ((wrap64 ((l0.length:Int)+1)) * (wrap64 ((l1.length:Int)+1))))=ji3:=(i64_w _).trans hji3
 by_cases c4:0≤(ji3)
 ·
  (rw [if_pos c4] at H);have c4b0:=eq_true c4;have c4b1:decide (0≤(ji3))=true:=decide_eq_true c4;clear c4
  by_cases c5:(ji3:Int).toNat≤35184372088832
  ·
   (rw [if_pos c5] at H);have c5b0:=eq_true c5;have c5b1:decide ((ji3:Int).toNat≤35184372088832)=true:=decide_eq_true c5;clear c5;obtain ⟨y166,hy166⟩ : ∃ y_:List Int,y_=(List.replicate (ji3:Int).toNat 0):=⟨_,rfl⟩;(replace H:(sennitref03_rest.l0 k l0 l1 (wrap64 ((l1.length:Int)+1)) y166 (wrap64 ((l0.length:Int) - 1)))=some r:=by first | (rw [hy166];with_reducible exact H) | (have H2_:=(Option.bind_some _ _).symm.trans H;rw [hy166];with_reducible exact H2_) | (have H2_:=(Option.bind_some _ _).symm.trans H;with_reducible exact H2_) | with_reducible exact H | (rw [hy166];exact H) | exact H);have Ny166:=Aside0.mk hy166;clear hy166;have H':=Aside0.mk H;clear H;go_enter Tryz.func99,Tryz.ntmps99;(go_wp2_with (first | ((with_reducible refine gate_dst (N:=18) rfl ?_);refine Kd.R_make (Kd.int .i64) _ 3 rfl (N:=18) rfl 72 _ _ rfl ji3 rfl rfl Tryz.underlying72 (.int .i64 0) 8 info3 rfl (by decide) (by omega) 0 (ok:=fun _=>True) (okp:=fun _=>True) rfl (fun _ hk=>hk) trivial (dt_) (Nat.le_trans (Nat.mul_le_mul_right _ (dt_:ji3.toNat≤35184372088832)) (by omega)) (Below.refl _ _) (Nat.le_refl _) ?_;intro v167 w6 ho7 hb hg_ hnew_;clear hg_ hnew_;(first | rw [← Ny166.out] at ho7 | (simp only [Int.reduceToNat] at ho7;rw [← Ny166.out] at ho7));have n0_:=Aside0.mk (Kd.R_lower ho7 (below_size bel_));have n1_:=Aside0.mk (below_step bel_ hb);clear HB;have HO168:=n0_;have HB:=n1_;clear n0_ n1_;clear hb ho7)));have hW64_ : ∀ x:Int,IntKind.i64.wrap x=wrap64 x:=i64_w;(repeat (go_quiet (first | ((with_reducible refine gate_dst (N:=18) rfl ?_);refine Kd.R_make (Kd.int .i64) _ 3 rfl (N:=18) rfl 72 _ _ rfl ji3 rfl rfl Tryz.underlying72 (.int .i64 0) 8 info3 rfl (by decide) (by omega) 0 (ok:=fun _=>True) (okp:=fun _=>True) rfl (fun _ hk=>hk) trivial (dt_) (Nat.le_trans (Nat.mul_le_mul_right _ (dt_:ji3.toNat≤35184372088832)) (by omega)) (Below.refl _ _) (Nat.le_refl _) ?_;intro v167 w6 ho7 hb hg_ hnew_;clear hg_ hnew_;(first | rw [← Ny166.out] at ho7 | (simp only [Int.reduceToNat] at ho7;rw [← Ny166.out] at ho7));have n0_:=Aside0.mk (Kd.R_lower ho7 (below_size bel_));have n1_:=Aside0.mk (below_step bel_ hb);clear HB;have HO168:=n0_;have HB:=n1_;clear n0_ n1_;clear hb ho7));try go_wp2_with (first | ((with_reducible refine gate_dst (N:=18) rfl ?_);refine Kd.R_make (Kd.int .i64) _ 3 rfl (N:=18) rfl 72 _ _ rfl ji3 rfl rfl Tryz.underlying72 (.int .i64 0) 8 info3 rfl (by decide) (by omega) 0 (ok:=fun _=>True) (okp:=fun _=>True) rfl (fun _ hk=>hk) trivial (dt_) (Nat.le_trans (Nat.mul_le_mul_right _ (dt_:ji3.toNat≤35184372088832)) (by omega)) (Below.refl _ _) (Nat.le_refl _) ?_;intro v167 w6 ho7 hb hg_ hnew_;clear hg_ hnew_;(first | rw [← Ny166.out] at ho7 | (simp only [Int.reduceToNat] at ho7;rw [← Ny166.out] at ho7));have n0_:=Aside0.mk (Kd.R_lower ho7 (below_size bel_));have n1_:=Aside0.mk (below_step bel_ hb);clear HB;have HO168:=n0_;have HB:=n1_;clear n0_ n1_;clear hb ho7))))
   go_loopg [7] k (fun kq v7 w' => ∃ (x6_1:List Int) (x7_1:Int),v7 = .int .i64 x7_1∧Aside0 (sennitref03_rest.l0 kq l0 l1 (wrap64 ((l1.length:Int)+1)) x6_1 x7_1=some r)∧Aside0 (kq≤k)∧Aside0 (Kd.R (Kd.int .i64) 3 w' w.heap.size (fun _=>True) v167 x6_1)∧Aside0 (Below w.heap.size w w'))
   (case atStart=>exact ⟨(y166),(wrap64 ((l0.length:Int) - 1)),rs_,H',⟨Nat.le_refl _⟩,⟨pR_ HO168.out⟩,⟨bel_⟩⟩)
   case round =>
    clear H';(try clear c1);(try clear p2);(try clear c4);(try clear c4b0);(try clear c4b1);(try clear c5);(try clear c5b0);(try clear c5b1);(try clear p6);obtain ⟨x6_1,x7_1,rfl,HA,HK1,HO_6,HB⟩:=hrel
    cases gk with
    | zero=>exact absurd HA.out (by simp [sennitref03_rest.l0])
    | succ k1 =>
     have H:=HA.out;clear HA;(simp only [sennitref03_rest.l0] at H)
     by_cases c8:x7_1 ≥ 0
     ·
      (rw [if_pos c8] at H);have c8b0:decide (0≤x7_1)=true:=decide_eq_true c8;clear c8;have H':=Aside0.mk H;clear H;go_wp2;have hW64_ : ∀ x:Int,IntKind.i64.wrap x=wrap64 x:=i64_w;(repeat (go_quiet (fail);try go_wp2))
      go_loopg [8] k1 (fun kq v8 w' => ∃ (x6_2:List Int) (x8_2:Int),v8 = .int .i64 x8_2∧Aside0 (sennitref03_rest.l1 kq l0 l1 (wrap64 ((l1.length:Int)+1)) x6_2 x7_1 x8_2=some r)∧Aside0 (kq≤k1)∧Aside0 (Kd.R (Kd.int .i64) 3 w' w.heap.size (fun _=>True) v167 x6_2)∧Aside0 (Below w.heap.size w w'))
      (case atStart=>exact ⟨(x6_1),(wrap64 ((l1.length:Int) - 1)),rs_,H',⟨Nat.le_refl _⟩,⟨pR_ HO_6.out⟩,⟨bel_⟩⟩)
      case round =>
       clear H';(try clear c1);(try clear p2);(try clear c4);(try clear c4b0);(try clear c4b1);(try clear c5);(try clear c5b0);(try clear c5b1);(try clear p6);(try clear c8);(try clear c8b0);(try clear p2);(try clear p6);obtain ⟨x6_2,x8_2,rfl,HA,HK2,HO_6,HB⟩:=hrel
       cases gk with
       | zero=>exact absurd HA.out (by simp [sennitref03_rest.l1])
       | succ k2 =>
        have H:=HA.out;clear HA;(simp only [sennitref03_rest.l1] at H)
        by_cases c9:x8_2 ≥ 0
        ·
         (rw [if_pos c9] at H);have c9b0:decide (0≤x8_2)=true:=decide_eq_true c9;clear c9;obtain ⟨ji10,hji10⟩ : ∃ j_:Int,(wrap64 ((wrap64 ((wrap64 (x7_1+1)) * (wrap64 ((l1.length:Int)+1))))+x8_2))=j_:=⟨_,rfl⟩;(replace H:(if 0≤(ji10) then (if (ji10) < (x6_2.length:Int) then (if 0≤(wrap64 ((wrap64 ((wrap64 (x7_1 * (wrap64 ((l1.length:Int)+1))))+x8_2))+1)) then (if (wrap64 ((wrap64 ((wrap64 (x7_1 * (wrap64 ((l1.length:Int)+1))))+x8_2))+1)) < (x6_2.length:Int) then (if 0≤x7_1 then (if x7_1 < (l0.length:Int) then (if 0≤x8_2 then (if x8_2 < (l1.length:Int) then (if (rd l0 x7_1)=(rd l1 x8_2) then (if 0≤(wrap64 ((ji10)+1)) then (if (wrap64 ((ji10)+1)) < (x6_2.length:Int) then (if 0≤(wrap64 ((wrap64 (x7_1 * (wrap64 ((l1.length:Int)+1))))+x8_2)) then (if (wrap64 ((wrap64 (x7_1 * (wrap64 ((l1.length:Int)+1))))+x8_2)) < (x6_2.length:Int) then (sennitref03_rest.l1 k2 l0 l1 (wrap64 ((l1.length:Int)+1)) (x6_2.set ((wrap64 ((wrap64 (x7_1 * (wrap64 ((l1.length:Int)+1))))+x8_2)):Int).toNat (mx (mx (rd x6_2 (ji10)) (rd x6_2 (wrap64 ((wrap64 ((wrap64 (x7_1 * (wrap64 ((l1.length:Int)+1))))+x8_2))+1)))) (wrap64 ((rd x6_2 (wrap64 ((ji10)+1)))+1)))) x7_1 (wrap64 (x8_2 - 1))) else (none)) else (none)) else (none)) else (none)) else (if 0≤(wrap64 ((wrap64 (x7_1 * (wrap64 ((l1.length:Int)+1))))+x8_2)) then (if (wrap64 ((wrap64 (x7_1 * (wrap64 ((l1.length:Int)+1))))+x8_2)) < (x6_2.length:Int) then (sennitref03_rest.l1 k2 l0 l1 (wrap64 ((l1.length:Int)+1)) (x6_2.set ((wrap64 ((wrap64 (x7_1 * (wrap64 ((l1.length:Int)+1))))+x8_2)):Int).toNat (mx (rd x6_2 (ji10)) (rd x6_2 (wrap64 ((wrap64 ((wrap64 (x7_1 * (wrap64 ((l1.length:Int)+1))))+x8_2))+1))))) x7_1 (wrap64 (x8_2 - 1))) else (none)) else (none))) else (none)) else (none)) else (none)) else (none)) else (none)) else (none)) else (none)) else (none))=some r:=by first | (rw [hji10] at H;exact H) | (simp only [hji10] at H ⊢;exact H));have hji10w:(IntKind.i64.wrap ((wrap64 ((wrap64 (x7_1+1)) * (wrap64 ((l1.length:Int)+1))))+x8_2))=ji10:=(i64_w _).trans hji10
         by_cases c11:0≤(ji10)
         ·
          (rw [if_pos c11] at H);have c11b0:decide (0≤(ji10))=true:=decide_eq_true c11;clear c11
          by_cases c12:(ji10) < (x6_2.length:Int)
          ·
           (rw [if_pos c12] at H);have c12b0:decide ((ji10) < (x6_2.length:Int))=true:=decide_eq_true c12;clear c12;obtain ⟨ji13,hji13⟩ : ∃ j_:Int,(wrap64 ((wrap64 ((wrap64 (x7_1 * (wrap64 ((l1.length:Int)+1))))+x8_2))+1))=j_:=⟨_,rfl⟩;(replace H:(if 0≤(ji13) then (if (ji13) < (x6_2.length:Int) then (if 0≤x7_1 then (if x7_1 < (l0.length:Int) then (if 0≤x8_2 then (if x8_2 < (l1.length:Int) then (if (rd l0 x7_1)=(rd l1 x8_2) then (if 0≤(wrap64 ((ji10)+1)) then (if (wrap64 ((ji10)+1)) < (x6_2.length:Int) then (if 0≤(wrap64 ((wrap64 (x7_1 * (wrap64 ((l1.length:Int)+1))))+x8_2)) then (if (wrap64 ((wrap64 (x7_1 * (wrap64 ((l1.length:Int)+1))))+x8_2)) < (x6_2.length:Int) then (sennitref03_rest.l1 k2 l0 l1 (wrap64 ((l1.length:Int)+1)) (x6_2.set ((wrap64 ((wrap64 (x7_1 * (wrap64 ((l1.length:Int)+1))))+x8_2)):Int).toNat (mx (mx (rd x6_2 (ji10)) (rd x6_2 (ji13))) (wrap64 ((rd x6_2 (wrap64 ((ji10)+1)))+1)))) x7_1 (wrap64 (x8_2 - 1))) else (none)) else (none)) else (none)) else (none)) else (if 0≤(wrap64 ((wrap64 (x7_1 * (wrap64 ((l1.length:Int)+1))))+x8_2)) then (if (wrap64 ((wrap64 (x7_1 * (wrap64 ((l1.length:Int)+1))))+x8_2)) < (x6_2.length:Int) then (sennitref03_rest.l1 k2 l0 l1 (wrap64 ((l1.length:Int)+1)) (x6_2.set ((wrap64 ((wrap64 (x7_1 * (wrap64 ((l1.length:Int)+1))))+x8_2)):Int).toNat (mx (rd x6_2 (ji10)) (rd x6_2 (ji13)))) x7_1 (wrap64 (x8_2 - 1))) else (none)) else (none))) else (none)) else (none)) else (none)) else (none)) else (none)) else (none))=some r:=by first | (rw [hji13] at H;exact H) | (simp only [hji13] at H ⊢;exact H));have hji13w:(IntKind.i64.wrap ((wrap64 ((wrap64 (x7_1 * (wrap64 ((l1.length:Int)+1))))+x8_2))+1))=ji13:=(i64_w _).trans hji13
           by_cases c14:0≤(ji13)
           ·
            (rw [if_pos c14] at H);have c14b0:decide (0≤(ji13))=true:=decide_eq_true c14;clear c14
            by_cases c15:(ji13) < (x6_2.length:Int)
            ·
             (rw [if_pos c15] at H);have c15b0:decide ((ji13) < (x6_2.length:Int))=true:=decide_eq_true c15;clear c15;obtain ⟨ji16,hji16⟩ : ∃ j_:Int,(mx (rd x6_2 (ji10)) (rd x6_2 (ji13)))=j_:=⟨_,rfl⟩;(replace H:(if 0≤x7_1 then (if x7_1 < (l0.length:Int) then (if 0≤x8_2 then (if x8_2 < (l1.length:Int) then (if (rd l0 x7_1)=(rd l1 x8_2) then (if 0≤(wrap64 ((ji10)+1)) then (if (wrap64 ((ji10)+1)) < (x6_2.length:Int) then (if 0≤(wrap64 ((wrap64 (x7_1 * (wrap64 ((l1.length:Int)+1))))+x8_2)) then (if (wrap64 ((wrap64 (x7_1 * (wrap64 ((l1.length:Int)+1))))+x8_2)) < (x6_2.length:Int) then (sennitref03_rest.l1 k2 l0 l1 (wrap64 ((l1.length:Int)+1)) (x6_2.set ((wrap64 ((wrap64 (x7_1 * (wrap64 ((l1.length:Int)+1))))+x8_2)):Int).toNat (mx (ji16) (wrap64 ((rd x6_2 (wrap64 ((ji10)+1)))+1)))) x7_1 (wrap64 (x8_2 - 1))) else (none)) else (none)) else (none)) else (none)) else (if 0≤(wrap64 ((wrap64 (x7_1 * (wrap64 ((l1.length:Int)+1))))+x8_2)) then (if (wrap64 ((wrap64 (x7_1 * (wrap64 ((l1.length:Int)+1))))+x8_2)) < (x6_2.length:Int) then (sennitref03_rest.l1 k2 l0 l1 (wrap64 ((l1.length:Int)+1)) (x6_2.set ((wrap64 ((wrap64 (x7_1 * (wrap64 ((l1.length:Int)+1))))+x8_2)):Int).toNat (ji16)) x7_1 (wrap64 (x8_2 - 1))) else (none)) else (none))) else (none)) else (none)) else (none)) else (none))=some r:=by first | (rw [hji16] at H;exact H) | (simp only [hji16] at H ⊢;exact H));have hji16_:(if (rd x6_2 (ji10)) < (rd x6_2 (ji13)) then (rd x6_2 (ji13)) else (rd x6_2 (ji10)))=ji16:=hji16
             by_cases c17:0≤x7_1
             ·
              (rw [if_pos c17] at H);have c17b0:decide (0≤x7_1)=true:=decide_eq_true c17;clear c17
              by_cases c18:x7_1 < (l0.length:Int)
              ·
               (rw [if_pos c18] at H);have c18b0:decide (x7_1 < (l0.length:Int))=true:=decide_eq_true c18;clear c18
               by_cases c19:0≤x8_2
               ·
                (rw [if_pos c19] at H);have c19b0:decide (0≤x8_2)=true:=decide_eq_true c19;clear c19
                by_cases c20:x8_2 < (l1.length:Int)
                ·
                 (rw [if_pos c20] at H);have c20b0:decide (x8_2 < (l1.length:Int))=true:=decide_eq_true c20;clear c20
                 by_cases c21:(rd l0 x7_1)=(rd l1 x8_2)
                 ·
                  (rw [if_pos c21] at H);have c21b0:((rd l0 x7_1) == (rd l1 x8_2))=true:=beq_iff_eq.mpr c21;have c21b1:((rd l0 x7_1) != (rd l1 x8_2))=false:=bne_eq_false_iff_eq.mpr c21;clear c21;obtain ⟨ji22,hji22⟩ : ∃ j_:Int,(wrap64 ((ji10)+1))=j_:=⟨_,rfl⟩;(replace H:(if 0≤(ji22) then (if (ji22) < (x6_2.length:Int) then (if 0≤(wrap64 ((wrap64 (x7_1 * (wrap64 ((l1.length:Int)+1))))+x8_2)) then (if (wrap64 ((wrap64 (x7_1 * (wrap64 ((l1.length:Int)+1))))+x8_2)) < (x6_2.length:Int) then (sennitref03_rest.l1 k2 l0 l1 (wrap64 ((l1.length:Int)+1)) (x6_2.set ((wrap64 ((wrap64 (x7_1 * (wrap64 ((l1.length:Int)+1))))+x8_2)):Int).toNat (mx (ji16) (wrap64 ((rd x6_2 (ji22))+1)))) x7_1 (wrap64 (x8_2 - 1))) else (none)) else (none)) else (none)) else (none))=some r:=by first | (rw [hji22] at H;exact H) | (simp only [hji22] at H ⊢;exact H));have hji22w:(IntKind.i64.wrap ((ji10)+1))=ji22:=(i64_w _).trans hji22
                  by_cases c23:0≤(ji22)
                  ·
                   (rw [if_pos c23] at H);have c23b0:decide (0≤(ji22))=true:=decide_eq_true c23;clear c23
                   by_cases c24:(ji22) < (x6_2.length:Int)
                   ·
                    (rw [if_pos c24] at H);have c24b0:decide ((ji22) < (x6_2.length:Int))=true:=decide_eq_true c24;clear c24;obtain ⟨ji25,hji25⟩ : ∃ j_:Int,(mx (ji16) (wrap64 ((rd x6_2 (ji22))+1)))=j_:=⟨_,rfl⟩;(replace H:(if 0≤(wrap64 ((wrap64 (x7_1 * (wrap64 ((l1.length:Int)+1))))+x8_2)) then (if (wrap64 ((wrap64 (x7_1 * (wrap64 ((l1.length:Int)+1))))+x8_2)) < (x6_2.length:Int) then (sennitref03_rest.l1 k2 l0 l1 (wrap64 ((l1.length:Int)+1)) (x6_2.set ((wrap64 ((wrap64 (x7_1 * (wrap64 ((l1.length:Int)+1))))+x8_2)):Int).toNat (ji25)) x7_1 (wrap64 (x8_2 - 1))) else (none)) else (none))=some r:=by first | (rw [hji25] at H;exact H) | (simp only [hji25] at H ⊢;exact H));have hji25_:(if (ji16) < (wrap64 ((rd x6_2 (ji22))+1)) then (wrap64 ((rd x6_2 (ji22))+1)) else (ji16))=ji25:=hji25;obtain ⟨ji26,hji26⟩ : ∃ j_:Int,(wrap64 ((wrap64 (x7_1 * (wrap64 ((l1.length:Int)+1))))+x8_2))=j_:=⟨_,rfl⟩;(have hji13_ji26:=hji13;(try rw [hji26] at hji13_ji26));(replace H:(if 0≤(ji26) then (if (ji26) < (x6_2.length:Int) then (sennitref03_rest.l1 k2 l0 l1 (wrap64 ((l1.length:Int)+1)) (x6_2.set ((ji26):Int).toNat (ji25)) x7_1 (wrap64 (x8_2 - 1))) else (none)) else (none))=some r:=by first | (rw [hji26] at H;exact H) | (simp only [hji26] at H ⊢;exact H));have hji26w:(IntKind.i64.wrap ((wrap64 (x7_1 * (wrap64 ((l1.length:Int)+1))))+x8_2))=ji26:=(i64_w _).trans hji26
                    by_cases c27:0≤(ji26)
                    ·
                     (rw [if_pos c27] at H);have c27b0:decide (0≤(ji26))=true:=decide_eq_true c27;clear c27
                     by_cases c28:(ji26) < (x6_2.length:Int)
                     ·
                      (rw [if_pos c28] at H);have c28b0:decide ((ji26) < (x6_2.length:Int))=true:=decide_eq_true c28;clear c28;obtain ⟨y174,hy174⟩ : ∃ y_:List Int,y_=(x6_2.set ((ji26):Int).toNat (ji25)):=⟨_,rfl⟩;(replace H:(sennitref03_rest.l1 k2 l0 l1 (wrap64 ((l1.length:Int)+1)) y174 x7_1 (wrap64 (x8_2 - 1)))=some r:=by first | (rw [hy174];with_reducible exact H) | (have H2_:=(Option.bind_some _ _).symm.trans H;rw [hy174];with_reducible exact H2_) | (have H2_:=(Option.bind_some _ _).symm.trans H;with_reducible exact H2_) | with_reducible exact H | (rw [hy174];exact H) | exact H);have Ny174:=Aside0.mk hy174;clear hy174;have H':=Aside0.mk H;clear H;obtain ⟨Ao30,co30,eo30⟩:=Kd.R_slice HO_6.out;subst eo30;have p169:0≤((ji10):Int):=dt_;have q169:(ji10) < (x6_2.length:Int):=dt_;obtain ⟨ad169,e169,hx169_0⟩:=Kd.at_int (Kd.R_reads' HO_6.out).2.2 (ji10) p169 q169;cases e169;replace p169:=eq_true p169;replace q169:=eq_true q169;have p170:0≤((ji13):Int):=dt_;have q170:(ji13) < (x6_2.length:Int):=dt_;obtain ⟨ad170,e170,hx170_0⟩:=Kd.at_int (Kd.R_reads' HO_6.out).2.2 (ji13) p170 q170;obtain rfl:ad169=ad170:=(by injection e170);replace p170:=eq_true p170;replace q170:=eq_true q170;have p171:0≤(x7_1:Int):=dt_;have q171:x7_1 < (l0.length:Int):=dt_;obtain ⟨ad171,e171,hx171_0⟩:=Kd.at_int HR0.out x7_1 p171 q171;cases e171;replace hx171_0:=(HB.out.cell (World.block_lt_of_cell? w _ hx171_0)).trans hx171_0;replace p171:=eq_true p171;replace q171:=eq_true q171;have p172:0≤(x8_2:Int):=dt_;have q172:x8_2 < (l1.length:Int):=dt_;obtain ⟨ad172,e172,hx172_0⟩:=Kd.at_int HR1.out x8_2 p172 q172;cases e172;replace hx172_0:=(HB.out.cell (World.block_lt_of_cell? w _ hx172_0)).trans hx172_0;replace p172:=eq_true p172;replace q172:=eq_true q172;have p173:0≤((ji22):Int):=dt_;have q173:(ji22) < (x6_2.length:Int):=dt_;obtain ⟨ad173,e173,hx173_0⟩:=Kd.at_int (Kd.R_reads' HO_6.out).2.2 (ji22) p173 q173;obtain rfl:ad169=ad173:=(by injection e173);replace p173:=eq_true p173;replace q173:=eq_true q173;have p29:0≤((ji26):Int):=dt_;have q29:((ji26):Int) < ((x6_2.length:Int):Int):=dt_;obtain ⟨go29,co29,eo29,gb29,gl29,cl29,HG29⟩:=Kd.R_form HO_6.out (by omega);(first | cases eo29 | (injection eo29 with ea_ en_ ec_;(first | subst ea_ | (injection ea_ with ea_;subst ea_));subst ec_;clear en_));have GB29:=Aside0.mk gb29;have GG29:=Aside0.mk HG29;clear gb29 gl29 HG29;(first | simp only [add_plain] at hx169_0 | skip);(first | simp only [add_plain] at hx170_0 | skip);(first | simp only [add_plain] at hx173_0 | skip);obtain ⟨hx29_0,hf29_0⟩:=Kd.R_celln 0 HO_6.out ((ji26):Int) p29 q29;replace p29:=eq_true p29;replace q29:=eq_true q29;have HP31:=Kd.R_putg HO_6.out ((ji26):Int) ji25;(go_wp2_with (first | ((with_reducible refine gate_store (t:=3) (p:=81) rfl ?_);(try (rw [drewN_self wr];generalize hq_:World.drewN wr _=wr;have n0_:=Aside0.mk (Kd.R_at hq_ HO_6.out);have n1_:=Aside0.mk (below_at hq_ HB.out);(try (have hx169_0:=cellD hq_ hx169_0));(try (have hx170_0:=cellD hq_ hx170_0));(try (have hx171_0:=cellD hq_ hx171_0));(try (have hx172_0:=cellD hq_ hx172_0));(try (have hx173_0:=cellD hq_ hx173_0));(try (have hx29_0:=cellD hq_ hx29_0));(try (have hf29_0:=frozenD hq_ hf29_0));clear hq_ HO_6 HB;have HO_6:=n0_;have HB:=n1_;clear n0_ n1_;(try (have HP31:=Kd.R_putg HO_6.out ((ji26):Int) ji25))));refine store_event (t:=3) (p:=81) (v:=?vo_w32) (w1:=(wr.setCell ⟨go29,((ji26):Int).toNat,none⟩ (.int .i64 ji25))) ?hg ?ho ?hn ?hr ?_;(case ho=>rfl);(case hg=>rfl);(case hn=>rfl);(case hr=>first | (go_simp;done) | (go_simp;rfl));intro w32 hw;have hg:wr.grownBy w32 (some go29):=(by rw [hw];exact HP31.2);have hp_:Kd.R (Kd.int .i64) 3 w32 w.heap.size (fun _=>True) (.slice (some ⟨go29,0,none⟩) x6_2.length co30) y174:=(by rw [hw,Ny174.out];exact HP31.1);clear HP31;have n0_:=Aside0.mk (hp_);have n1_:=Aside0.mk ((by rw [hw];exact below_set (HB.out) GB29.out:Below w.heap.size w w32));clear HO_6;clear HB;have HO_6:=n0_;have HB:=n1_;clear n0_ n1_;clear hg hw hp_)));have hW64_ : ∀ x:Int,IntKind.i64.wrap x=wrap64 x:=i64_w
                      (repeat (go_quiet (first | ((with_reducible refine gate_store (t:=3) (p:=81) rfl ?_);(try (rw [drewN_self wr];generalize hq_:World.drewN wr _=wr;have n0_:=Aside0.mk (Kd.R_at hq_ HO_6.out);have n1_:=Aside0.mk (below_at hq_ HB.out);(try (have hx169_0:=cellD hq_ hx169_0));(try (have hx170_0:=cellD hq_ hx170_0));(try (have hx171_0:=cellD hq_ hx171_0));(try (have hx172_0:=cellD hq_ hx172_0));(try (have hx173_0:=cellD hq_ hx173_0));(try (have hx29_0:=cellD hq_ hx29_0));(try (have hf29_0:=frozenD hq_ hf29_0));clear hq_ HO_6 HB;have HO_6:=n0_;have HB:=n1_;clear n0_ n1_;(try (have HP31:=Kd.R_putg HO_6.out ((ji26):Int) ji25))));refine store_event (t:=3) (p:=81) (v:=?vo_w32) (w1:=(wr.setCell ⟨go29,((ji26):Int).toNat,none⟩ (.int .i64 ji25))) ?hg ?ho ?hn ?hr ?_;(case ho=>rfl);(case hg=>rfl);(case hn=>rfl);(case hr=>first | (go_simp;done) | (go_simp;rfl));intro w32 hw;have hg:wr.grownBy w32 (some go29):=(by rw [hw];exact HP31.2);have hp_:Kd.R (Kd.int .i64) 3 w32 w.heap.size (fun _=>True) (.slice (some ⟨go29,0,none⟩) x6_2.length co30) y174:=(by rw [hw,Ny174.out];exact HP31.1);clear HP31;have n0_:=Aside0.mk (hp_);have n1_:=Aside0.mk ((by rw [hw];exact below_set (HB.out) GB29.out:Below w.heap.size w w32));clear HO_6;clear HB;have HO_6:=n0_;have HB:=n1_;clear n0_ n1_;clear hg hw hp_));try go_wp2_with (first | ((with_reducible refine gate_store (t:=3) (p:=81) rfl ?_);(try (rw [drewN_self wr];generalize hq_:World.drewN wr _=wr;have n0_:=Aside0.mk (Kd.R_at hq_ HO_6.out);have n1_:=Aside0.mk (below_at hq_ HB.out);(try (have hx169_0:=cellD hq_ hx169_0));(try (have hx170_0:=cellD hq_ hx170_0));(try (have hx171_0:=cellD hq_ hx171_0));(try (have hx172_0:=cellD hq_ hx172_0));(try (have hx173_0:=cellD hq_ hx173_0));(try (have hx29_0:=cellD hq_ hx29_0));(try (have hf29_0:=frozenD hq_ hf29_0));clear hq_ HO_6 HB;have HO_6:=n0_;have HB:=n1_;clear n0_ n1_;(try (have HP31:=Kd.R_putg HO_6.out ((ji26):Int) ji25))));refine store_event (t:=3) (p:=81) (v:=?vo_w32) (w1:=(wr.setCell ⟨go29,((ji26):Int).toNat,none⟩ (.int .i64 ji25))) ?hg ?ho ?hn ?hr ?_;(case ho=>rfl);(case hg=>rfl);(case hn=>rfl);(case hr=>first | (go_simp;done) | (go_simp;rfl));intro w32 hw;have hg:wr.grownBy w32 (some go29):=(by rw [hw];exact HP31.2);have hp_:Kd.R (Kd.int .i64) 3 w32 w.heap.size (fun _=>True) (.slice (some ⟨go29,0,none⟩) x6_2.length co30) y174:=(by rw [hw,Ny174.out];exact HP31.1);clear HP31;have n0_:=Aside0.mk (hp_);have n1_:=Aside0.mk ((by rw [hw];exact below_set (HB.out) GB29.out:Below w.heap.size w w32));clear HO_6;clear HB;have HO_6:=n0_;have HB:=n1_;clear n0_ n1_;clear hg hw hp_))))
                      go_roundg k2
                      (case measure=>have:=HK1.out;have:=HK2.out;omega);(case rel=>exact ⟨(y174),(wrap64 (x8_2 - 1)),rs_,H',⟨by have:=HK1.out;have:=HK2.out;omega⟩,⟨pR_ HO_6.out⟩,⟨bel_⟩⟩)
                     (· (rw [if_neg c28] at H);exact absurd H (by simp))
                    (· (rw [if_neg c27] at H);exact absurd H (by simp))
                   (· (rw [if_neg c24] at H);exact absurd H (by simp))
                  (· (rw [if_neg c23] at H);exact absurd H (by simp))
                 ·
                  (rw [if_neg c21] at H);have c21b0:((rd l0 x7_1) == (rd l1 x8_2))=false:=beq_eq_false_iff_ne.mpr c21;have c21b1:((rd l0 x7_1) != (rd l1 x8_2))=true:=bne_iff_ne.mpr c21;obtain ⟨ji33,hji33⟩ : ∃ j_:Int,(wrap64 ((wrap64 (x7_1 * (wrap64 ((l1.length:Int)+1))))+x8_2))=j_:=⟨_,rfl⟩;(have hji13_ji33:=hji13;(try rw [hji33] at hji13_ji33));(replace H:(if 0≤(ji33) then (if (ji33) < (x6_2.length:Int) then (sennitref03_rest.l1 k2 l0 l1 (wrap64 ((l1.length:Int)+1)) (x6_2.set ((ji33):Int).toNat (ji16)) x7_1 (wrap64 (x8_2 - 1))) else (none)) else (none))=some r:=by first | (rw [hji33] at H;exact H) | (simp only [hji33] at H ⊢;exact H));have hji33w:(IntKind.i64.wrap ((wrap64 (x7_1 * (wrap64 ((l1.length:Int)+1))))+x8_2))=ji33:=(i64_w _).trans hji33
                  by_cases c34:0≤(ji33)
                  ·
                   (rw [if_pos c34] at H);have c34b0:decide (0≤(ji33))=true:=decide_eq_true c34;clear c34
                   by_cases c35:(ji33) < (x6_2.length:Int)
                   ·
                    (rw [if_pos c35] at H);have c35b0:decide ((ji33) < (x6_2.length:Int))=true:=decide_eq_true c35;clear c35;obtain ⟨y175,hy175⟩ : ∃ y_:List Int,y_=(x6_2.set ((ji33):Int).toNat (ji16)):=⟨_,rfl⟩;(replace H:(sennitref03_rest.l1 k2 l0 l1 (wrap64 ((l1.length:Int)+1)) y175 x7_1 (wrap64 (x8_2 - 1)))=some r:=by first | (rw [hy175];with_reducible exact H) | (have H2_:=(Option.bind_some _ _).symm.trans H;rw [hy175];with_reducible exact H2_) | (have H2_:=(Option.bind_some _ _).symm.trans H;with_reducible exact H2_) | with_reducible exact H | (rw [hy175];exact H) | exact H);have Ny175:=Aside0.mk hy175;clear hy175;have H':=Aside0.mk H;clear H;obtain ⟨Ao37,co37,eo37⟩:=Kd.R_slice HO_6.out;subst eo37;have p169:0≤((ji10):Int):=dt_;have q169:(ji10) < (x6_2.length:Int):=dt_;obtain ⟨ad169,e169,hx169_0⟩:=Kd.at_int (Kd.R_reads' HO_6.out).2.2 (ji10) p169 q169;cases e169;replace p169:=eq_true p169;replace q169:=eq_true q169;have p170:0≤((ji13):Int):=dt_;have q170:(ji13) < (x6_2.length:Int):=dt_;obtain ⟨ad170,e170,hx170_0⟩:=Kd.at_int (Kd.R_reads' HO_6.out).2.2 (ji13) p170 q170;obtain rfl:ad169=ad170:=(by injection e170);replace p170:=eq_true p170;replace q170:=eq_true q170;have p171:0≤(x7_1:Int):=dt_;have q171:x7_1 < (l0.length:Int):=dt_;obtain ⟨ad171,e171,hx171_0⟩:=Kd.at_int HR0.out x7_1 p171 q171;cases e171;replace hx171_0:=(HB.out.cell (World.block_lt_of_cell? w _ hx171_0)).trans hx171_0;replace p171:=eq_true p171;replace q171:=eq_true q171;have p172:0≤(x8_2:Int):=dt_;have q172:x8_2 < (l1.length:Int):=dt_;obtain ⟨ad172,e172,hx172_0⟩:=Kd.at_int HR1.out x8_2 p172 q172;cases e172;replace hx172_0:=(HB.out.cell (World.block_lt_of_cell? w _ hx172_0)).trans hx172_0;replace p172:=eq_true p172;replace q172:=eq_true q172;have p36:0≤((ji33):Int):=dt_;have q36:((ji33):Int) < ((x6_2.length:Int):Int):=dt_;obtain ⟨go36,co36,eo36,gb36,gl36,cl36,HG36⟩:=Kd.R_form HO_6.out (by omega);(first | cases eo36 | (injection eo36 with ea_ en_ ec_;(first | subst ea_ | (injection ea_ with ea_;subst ea_));subst ec_;clear en_));have GB36:=Aside0.mk gb36;have GG36:=Aside0.mk HG36;clear gb36 gl36 HG36;(first | simp only [add_plain] at hx169_0 | skip);(first | simp only [add_plain] at hx170_0 | skip);obtain ⟨hx36_0,hf36_0⟩:=Kd.R_celln 0 HO_6.out ((ji33):Int) p36 q36;replace p36:=eq_true p36;replace q36:=eq_true q36;have HP38:=Kd.R_putg HO_6.out ((ji33):Int) ji16;(go_wp2_with (first | ((with_reducible refine gate_store (t:=3) (p:=81) rfl ?_);(try (rw [drewN_self wr];generalize hq_:World.drewN wr _=wr;have n0_:=Aside0.mk (Kd.R_at hq_ HO_6.out);have n1_:=Aside0.mk (below_at hq_ HB.out);(try (have hx169_0:=cellD hq_ hx169_0));(try (have hx170_0:=cellD hq_ hx170_0));(try (have hx171_0:=cellD hq_ hx171_0));(try (have hx172_0:=cellD hq_ hx172_0));(try (have hx36_0:=cellD hq_ hx36_0));(try (have hf36_0:=frozenD hq_ hf36_0));clear hq_ HO_6 HB;have HO_6:=n0_;have HB:=n1_;clear n0_ n1_;(try (have HP38:=Kd.R_putg HO_6.out ((ji33):Int) ji16))));refine store_event (t:=3) (p:=81) (v:=?vo_w39) (w1:=(wr.setCell ⟨go36,((ji33):Int).toNat,none⟩ (.int .i64 ji16))) ?hg ?ho ?hn ?hr ?_;(case ho=>rfl);(case hg=>rfl);(case hn=>rfl);(case hr=>first | (go_simp;done) | (go_simp;rfl));intro w39 hw;have hg:wr.grownBy w39 (some go36):=(by rw [hw];exact HP38.2);have hp_:Kd.R (Kd.int .i64) 3 w39 w.heap.size (fun _=>True) (.slice (some ⟨go36,0,none⟩) x6_2.length co37) y175:=(by rw [hw,Ny175.out];exact HP38.1);clear HP38;have n0_:=Aside0.mk (hp_);have n1_:=Aside0.mk ((by rw [hw];exact below_set (HB.out) GB36.out:Below w.heap.size w w39));clear HO_6;clear HB;have HO_6:=n0_;have HB:=n1_;clear n0_ n1_;clear hg hw hp_)));have hW64_ : ∀ x:Int,IntKind.i64.wrap x=wrap64 x:=i64_w
                    (repeat (go_quiet (first | ((with_reducible refine gate_store (t:=3) (p:=81) rfl ?_);(try (rw [drewN_self wr];generalize hq_:World.drewN wr _=wr;have n0_:=Aside0.mk (Kd.R_at hq_ HO_6.out);have n1_:=Aside0.mk (below_at hq_ HB.out);(try (have hx169_0:=cellD hq_ hx169_0));(try (have hx170_0:=cellD hq_ hx170_0));(try (have hx171_0:=cellD hq_ hx171_0));(try (have hx172_0:=cellD hq_ hx172_0));(try (have hx36_0:=cellD hq_ hx36_0));(try (have hf36_0:=frozenD hq_ hf36_0));clear hq_ HO_6 HB;have HO_6:=n0_;have HB:=n1_;clear n0_ n1_;(try (have HP38:=Kd.R_putg HO_6.out ((ji33):Int) ji16))));refine store_event (t:=3) (p:=81) (v:=?vo_w39) (w1:=(wr.setCell ⟨go36,((ji33):Int).toNat,none⟩ (.int .i64 ji16))) ?hg ?ho ?hn ?hr ?_;(case ho=>rfl);(case hg=>rfl);(case hn=>rfl);(case hr=>first | (go_simp;done) | (go_simp;rfl));intro w39 hw;have hg:wr.grownBy w39 (some go36):=(by rw [hw];exact HP38.2);have hp_:Kd.R (Kd.int .i64) 3 w39 w.heap.size (fun _=>True) (.slice (some ⟨go36,0,none⟩) x6_2.length co37) y175:=(by rw [hw,Ny175.out];exact HP38.1);clear HP38;have n0_:=Aside0.mk (hp_);have n1_:=Aside0.mk ((by rw [hw];exact below_set (HB.out) GB36.out:Below w.heap.size w w39));clear HO_6;clear HB;have HO_6:=n0_;have HB:=n1_;clear n0_ n1_;clear hg hw hp_));try go_wp2_with (first | ((with_reducible refine gate_store (t:=3) (p:=81) rfl ?_);(try (rw [drewN_self wr];generalize hq_:World.drewN wr _=wr;have n0_:=Aside0.mk (Kd.R_at hq_ HO_6.out);have n1_:=Aside0.mk (below_at hq_ HB.out);(try (have hx169_0:=cellD hq_ hx169_0));(try (have hx170_0:=cellD hq_ hx170_0));(try (have hx171_0:=cellD hq_ hx171_0));(try (have hx172_0:=cellD hq_ hx172_0));(try (have hx36_0:=cellD hq_ hx36_0));(try (have hf36_0:=frozenD hq_ hf36_0));clear hq_ HO_6 HB;have HO_6:=n0_;have HB:=n1_;clear n0_ n1_;(try (have HP38:=Kd.R_putg HO_6.out ((ji33):Int) ji16))));refine store_event (t:=3) (p:=81) (v:=?vo_w39) (w1:=(wr.setCell ⟨go36,((ji33):Int).toNat,none⟩ (.int .i64 ji16))) ?hg ?ho ?hn ?hr ?_;(case ho=>rfl);(case hg=>rfl);(case hn=>rfl);(case hr=>first | (go_simp;done) | (go_simp;rfl));intro w39 hw;have hg:wr.grownBy w39 (some go36):=(by rw [hw];exact HP38.2);have hp_:Kd.R (Kd.int .i64) 3 w39 w.heap.size (fun _=>True) (.slice (some ⟨go36,0,none⟩) x6_2.length co37) y175:=(by rw [hw,Ny175.out];exact HP38.1);clear HP38;have n0_:=Aside0.mk (hp_);have n1_:=Aside0.mk ((by rw [hw];exact below_set (HB.out) GB36.out:Below w.heap.size w w39));clear HO_6;clear HB;have HO_6:=n0_;have HB:=n1_;clear n0_ n1_;clear hg hw hp_))))
                    go_roundg k2
                    (case measure=>have:=HK1.out;have:=HK2.out;omega);(case rel=>exact ⟨(y175),(wrap64 (x8_2 - 1)),rs_,H',⟨by have:=HK1.out;have:=HK2.out;omega⟩,⟨pR_ HO_6.out⟩,⟨bel_⟩⟩)
                   (· (rw [if_neg c35] at H);exact absurd H (by simp))
                  (· (rw [if_neg c34] at H);exact absurd H (by simp))
                (· (rw [if_neg c20] at H);exact absurd H (by simp))
               (· (rw [if_neg c19] at H);exact absurd H (by simp))
              (· (rw [if_neg c18] at H);exact absurd H (by simp))
             (· (rw [if_neg c17] at H);exact absurd H (by simp))
            (· (rw [if_neg c15] at H);exact absurd H (by simp))
           (· (rw [if_neg c14] at H);exact absurd H (by simp))
          (· (rw [if_neg c12] at H);exact absurd H (by simp))
         (· (rw [if_neg c11] at H);exact absurd H (by simp))
        ·
         (rw [if_neg c9] at H);have c9b0:decide (0≤x8_2)=false:=decide_eq_false c9;clear c9;have H':=Aside0.mk H;clear H;go_wp2;have hW64_ : ∀ x:Int,IntKind.i64.wrap x=wrap64 x:=i64_w;(repeat (go_quiet (fail);try go_wp2))
         go_roundg k2
         (case measure=>have:=HK1.out;have:=HK2.out;omega);(case rel=>exact ⟨(x6_2),(wrap64 (x7_1 - 1)),rs_,H',⟨by have:=HK1.out;have:=HK2.out;omega⟩,⟨pR_ HO_6.out⟩,⟨bel_⟩⟩)
     (· (rw [if_neg c8] at H);have c8b0:decide (0≤x7_1)=false:=decide_eq_false c8;clear c8;obtain rfl:=Option.some.inj H;go_wp2;have hW64_ : ∀ x:Int,IntKind.i64.wrap x=wrap64 x:=i64_w;(repeat (go_quiet (fail);try go_wp2));go_ret;exact ⟨_,by first | rfl | (simp [errW_none,errW_some] <;> rfl) | (simp only [← hji3];first | rfl | (simp [errW_none,errW_some] <;> rfl)) | (simp [*,errW_none,errW_some] <;> rfl),by (with_reducible repeat (first | apply Kd.R_alloc | apply Kd.R_drewN | apply Kd.R_drew));exact HO_6.out,bel_⟩)
  (· (rw [if_neg c5] at H);exact absurd H (by simp))
 (· (rw [if_neg c4] at H);exact absurd H (by simp))
mutual
def sennitref03_Match.l0:Nat→List Int→List Int→List Int→Int→List Int→Int→Int→Option (List Int)
  | 0,_,_,_,_,_,_,_=>none
  | k+1,x0,x1,x5,x6,x7,x8,x9=>if x9 < (x0.length:Int) then (sennitref03_Match.l1 k x0 x1 x5 x6 x7 x8 x9 (-1)) else (some x7)
def sennitref03_Match.l1:Nat→List Int→List Int→List Int→Int→List Int→Int→Int→Int→Option (List Int)
  | 0,_,_,_,_,_,_,_,_=>none
  | k+1,x0,x1,x5,x6,x7,x8,x9,x10=>if x8 < (x1.length:Int) then (if 0≤x9 then (if x9 < (x0.length:Int) then (if 0≤x8 then (if (rd x0 x9)=(rd x1 x8) then (if x7.length < 17592186044416 then (sennitref03_Match.l0 k x0 x1 x5 x6 (x7 ++ [x8]) (wrap64 (x8+1)) (wrap64 (x9+1))) else (none)) else (if 0≤(wrap64 ((wrap64 ((wrap64 (x9+1)) * x6))+x8)) then (if (wrap64 ((wrap64 ((wrap64 (x9+1)) * x6))+x8)) < (x5.length:Int) then (if 0≤(wrap64 ((wrap64 ((wrap64 (x9 * x6))+x8))+1)) then (if (wrap64 ((wrap64 ((wrap64 (x9 * x6))+x8))+1)) < (x5.length:Int) then (if (rd x5 (wrap64 ((wrap64 ((wrap64 (x9+1)) * x6))+x8))) < (rd x5 (wrap64 ((wrap64 ((wrap64 (x9 * x6))+x8))+1))) then (sennitref03_Match.l1 k x0 x1 x5 x6 x7 (wrap64 (x8+1)) x9 x10) else (if x7.length < 17592186044416 then (sennitref03_Match.l0 k x0 x1 x5 x6 (x7 ++ [x10]) x8 (wrap64 (x9+1))) else (none))) else (none)) else (none)) else (none)) else (none))) else (none)) else (none)) else (none)) else (if x7.length < 17592186044416 then (sennitref03_Match.l0 k x0 x1 x5 x6 (x7 ++ [x10]) x8 (wrap64 (x9+1))) else (none))
end
def sennitref03_Match.f (k:Nat) (l0:List Int) (l1:List Int):Option (List Int):=(sennitref03_rest.f k l0 l1).bind fun t176=>(sennitref03_Match.l0 k l0 l1 t176 (wrap64 ((l1.length:Int)+1)) ([]:List Int) 0 0)
set_option maxHeartbeats 8000000 in
set_option maxRecDepth 100000 in
theorem sennitref03_Match.calls (k:Nat) (A0:Option Addr) (c0:Nat) (l0:List Int) (A1:Option Addr) (c1:Nat) (l1:List Int) (r:List Int) (w:World) (hr0:Kd.C (Kd.int .i64) w A0 l0.length l0) (hc0:l0.length≤c0) (hr1:Kd.C (Kd.int .i64) w A1 l1.length l1) (hc1:l1.length≤c1) (h:sennitref03_Match.f k l0 l1=some r) :
    Calls Tryz.prog 79 #[.slice A0 l0.length c0, .slice A1 l1.length c1] w fun e w' => ∃ v0_:Value,e = .returned (v0_)∧Kd.R (Kd.int .i64) 3 w' w.heap.size (fun _=>True) v0_ r∧Below w.heap.size w w':=by
 have HR0:=Aside0.mk hr0;have HC0:=Aside0.mk hc0;clear hr0 hc0;have HR1:=Aside0.mk hr1;have HC1:=Aside0.mk hc1;clear hr1 hc1;have HB:=Aside0.mk (Below.refl w.heap.size w);have H:((sennitref03_rest.f k l0 l1).bind fun t176=>(sennitref03_Match.l0 k l0 l1 t176 (wrap64 ((l1.length:Int)+1)) ([]:List Int) 0 0))=some r:=h;clear h;replace H:=Option.bind_eq_some_iff.mp H;obtain ⟨t176,A30,H⟩:=H;replace H:(sennitref03_Match.l0 k l0 l1 t176 (wrap64 ((l1.length:Int)+1)) ([]:List Int) 0 0)=some r:=H;have A3:=Aside0.mk A30;clear A30;have H':=Aside0.mk H;clear H;go_enter Tryz.func79,Tryz.ntmps79;(go_wp2_with (first | (go_at_call 99;(with_reducible refine (sennitref03_rest.calls k _ _ l0 _ _ l1 t176 _ ?side1 ?side2 ?side3 ?side4 A3.out).mono ?_);(case side1=>repeat (first | exact HR0.out | (with_reducible refine Kd.C_alloc ?_ _) | (with_reducible refine Kd.C_drewN ?_ _) | (with_reducible refine Kd.C_drew ?_)));(case side2=>exact HC0.out);(case side3=>repeat (first | exact HR1.out | (with_reducible refine Kd.C_alloc ?_ _) | (with_reducible refine Kd.C_drewN ?_ _) | (with_reducible refine Kd.C_drew ?_)));(case side4=>exact HC1.out);rintro e w4 ⟨v177,rfl,ho0,hb⟩;have n0_:=Aside0.mk (Kd.R_lower ho0 (below_size bel_));have n1_:=Aside0.mk (below_step bel_ hb);clear HB;have HO178:=n0_;have HB:=n1_;clear n0_ n1_;(try clear hb);(try clear hb2);(try clear hk);(try clear hi);(try clear ho0))));(repeat (go_quiet (first | (go_at_call 99;(with_reducible refine (sennitref03_rest.calls k _ _ l0 _ _ l1 t176 _ ?side1 ?side2 ?side3 ?side4 A3.out).mono ?_);(case side1=>repeat (first | exact HR0.out | (with_reducible refine Kd.C_alloc ?_ _) | (with_reducible refine Kd.C_drewN ?_ _) | (with_reducible refine Kd.C_drew ?_)));(case side2=>exact HC0.out);(case side3=>repeat (first | exact HR1.out | (with_reducible refine Kd.C_alloc ?_ _) | (with_reducible refine Kd.C_drewN ?_ _) | (with_reducible refine Kd.C_drew ?_)));(case side4=>exact HC1.out);rintro e w4 ⟨v177,rfl,ho0,hb⟩;have n0_:=Aside0.mk (Kd.R_lower ho0 (below_size bel_));have n1_:=Aside0.mk (below_step bel_ hb);clear HB;have HO178:=n0_;have HB:=n1_;clear n0_ n1_;(try clear hb);(try clear hb2);(try clear hk);(try clear hi);(try clear ho0)));try go_wp2_with (first | (go_at_call 99;(with_reducible refine (sennitref03_rest.calls k _ _ l0 _ _ l1 t176 _ ?side1 ?side2 ?side3 ?side4 A3.out).mono ?_);(case side1=>repeat (first | exact HR0.out | (with_reducible refine Kd.C_alloc ?_ _) | (with_reducible refine Kd.C_drewN ?_ _) | (with_reducible refine Kd.C_drew ?_)));(case side2=>exact HC0.out);(case side3=>repeat (first | exact HR1.out | (with_reducible refine Kd.C_alloc ?_ _) | (with_reducible refine Kd.C_drewN ?_ _) | (with_reducible refine Kd.C_drew ?_)));(case side4=>exact HC1.out);rintro e w4 ⟨v177,rfl,ho0,hb⟩;have n0_:=Aside0.mk (Kd.R_lower ho0 (below_size bel_));have n1_:=Aside0.mk (below_step bel_ hb);clear HB;have HO178:=n0_;have HB:=n1_;clear n0_ n1_;(try clear hb);(try clear hb2);(try clear hk);(try clear hi);(try clear ho0)))))
 go_loopg [7,8,9] k (fun kq v7 v8 v9 w' => ∃ (x7_1:List Int) (x8_1:Int) (x9_1:Int),v8 = .int .i64 x8_1∧v9 = .int .i64 x9_1∧Aside0 (sennitref03_Match.l0 kq l0 l1 t176 (wrap64 ((l1.length:Int)+1)) x7_1 x8_1 x9_1=some r)∧Aside0 (kq≤k)∧Aside0 (Kd.R (Kd.int .i64) 3 w' w.heap.size (fun k_=>some k_≠(v7:Value).ownBlock) v177 t176)∧Aside0 (Kd.R (Kd.int .i64) 3 w' w.heap.size (fun k_=>some k_≠(v177:Value).ownBlock) v7 x7_1)∧Aside0 (Below w.heap.size w w'))
 (case atStart=>exact ⟨(([]:List Int)),(0),(0),rs_,rs_,H',⟨Nat.le_refl _⟩,⟨by (with_reducible repeat (first | apply Kd.R_alloc | apply Kd.R_drewN | apply Kd.R_drew));exact Kd.R_mono HO178.out (fun _ hk=>(by simp [Value.ownBlock]))⟩,⟨by first | exact Kd.R_nil _ _ _ _ _ | exact Kd.N_nil _ _ _ _ _ | exact Kd.V_nil _ _ _ _ _ | exact Kd.Q_nil _ _ _ _ _ | exact Kd.S_nil _ _ _ _ _⟩,⟨bel_⟩⟩)
 case round =>
  clear H';(try clear c1);(try clear p2);obtain ⟨x7_1,x8_1,x9_1,rfl,rfl,HA,HK1,HO_5,HO_7,HB⟩:=hrel
  cases gk with
  | zero=>exact absurd HA.out (by simp [sennitref03_Match.l0])
  | succ k1 =>
   have H:=HA.out;clear HA;(simp only [sennitref03_Match.l0] at H)
   by_cases c5:x9_1 < (l0.length:Int)
   ·
    (rw [if_pos c5] at H);have c5b0:decide (x9_1 < (l0.length:Int))=true:=decide_eq_true c5;clear c5;have H':=Aside0.mk H;clear H;go_wp2;(repeat (go_quiet (fail);try go_wp2))
    go_loopg [8] k1 (fun kq v8 w' => ∃ (x8_2:Int),v8 = .int .i64 x8_2∧Aside0 (sennitref03_Match.l1 kq l0 l1 t176 (wrap64 ((l1.length:Int)+1)) x7_1 x8_2 x9_1 (-1)=some r)∧Aside0 (kq≤k1)∧Aside0 (Kd.R (Kd.int .i64) 3 w' w.heap.size (fun k_=>some k_≠(u7:Value).ownBlock) v177 t176)∧Aside0 (Kd.R (Kd.int .i64) 3 w' w.heap.size (fun k_=>some k_≠(v177:Value).ownBlock) u7 x7_1)∧Aside0 (Below w.heap.size w w'))
    (case atStart=>exact ⟨(x8_1),rs_,H',⟨Nat.le_refl _⟩,⟨pR_ HO_5.out⟩,⟨pR_ HO_7.out⟩,⟨bel_⟩⟩)
    case round =>
     clear H';(try clear c1);(try clear p2);(try clear c5);(try clear c5b0);(try clear p2);obtain ⟨x8_2,rfl,HA,HK2,HO_5,HO_7,HB⟩:=hrel
     cases gk with
     | zero=>exact absurd HA.out (by simp [sennitref03_Match.l1])
     | succ k2 =>
      have H:=HA.out;clear HA;(simp only [sennitref03_Match.l1] at H)
      by_cases c6:x8_2 < (l1.length:Int)
      ·
       (rw [if_pos c6] at H);have c6b0:decide (x8_2 < (l1.length:Int))=true:=decide_eq_true c6;clear c6
       by_cases c7:0≤x9_1
       ·
        (rw [if_pos c7] at H);have c7b0:decide (0≤x9_1)=true:=decide_eq_true c7;clear c7
        by_cases c8:x9_1 < (l0.length:Int)
        ·
         (rw [if_pos c8] at H);have c8b0:decide (x9_1 < (l0.length:Int))=true:=decide_eq_true c8;clear c8
         by_cases c9:0≤x8_2
         ·
          (rw [if_pos c9] at H);have c9b0:decide (0≤x8_2)=true:=decide_eq_true c9;clear c9
          by_cases c10:(rd l0 x9_1)=(rd l1 x8_2)
          ·
           (rw [if_pos c10] at H);have c10b0:((rd l0 x9_1) == (rd l1 x8_2))=true:=beq_iff_eq.mpr c10;have c10b1:((rd l0 x9_1) != (rd l1 x8_2))=false:=bne_eq_false_iff_eq.mpr c10;clear c10
           by_cases c11:x7_1.length < 17592186044416
           ·
            (rw [if_pos c11] at H);have LMc11:=Aside0.mk c11;clear c11;obtain ⟨y183,hy183⟩ : ∃ y_:List Int,y_=(x7_1 ++ [x8_2]):=⟨_,rfl⟩;(replace H:(sennitref03_Match.l0 k2 l0 l1 t176 (wrap64 ((l1.length:Int)+1)) y183 (wrap64 (x8_2+1)) (wrap64 (x9_1+1)))=some r:=by first | (rw [hy183];with_reducible exact H) | (have H2_:=(Option.bind_some _ _).symm.trans H;rw [hy183];with_reducible exact H2_) | (have H2_:=(Option.bind_some _ _).symm.trans H;with_reducible exact H2_) | with_reducible exact H | (rw [hy183];exact H) | exact H);have Ny183:=Aside0.mk hy183;clear hy183;have H':=Aside0.mk H;clear H;have p179:0≤(x9_1:Int):=dt_;have q179:x9_1 < (l0.length:Int):=dt_;obtain ⟨ad179,e179,hx179_0⟩:=Kd.at_int HR0.out x9_1 p179 q179;cases e179;replace hx179_0:=(HB.out.cell (World.block_lt_of_cell? w _ hx179_0)).trans hx179_0;replace p179:=eq_true p179;replace q179:=eq_true q179;have p180:0≤(x8_2:Int):=dt_;have q180:x8_2 < (l1.length:Int):=dt_;obtain ⟨ad180,e180,hx180_0⟩:=Kd.at_int HR1.out x8_2 p180 q180;cases e180;replace hx180_0:=(HB.out.cell (World.block_lt_of_cell? w _ hx180_0)).trans hx180_0;replace p180:=eq_true p180;replace q180:=eq_true q180;have p181:0≤(x9_1:Int):=dt_;have q181:x9_1 < (l0.length:Int):=dt_;obtain ⟨ad181,e181,hx181_0⟩:=Kd.at_int HR0.out x9_1 p181 q181;obtain rfl:ad179=ad181:=(by injection e181);replace hx181_0:=(HB.out.cell (World.block_lt_of_cell? w _ hx181_0)).trans hx181_0;replace p181:=eq_true p181;replace q181:=eq_true q181;have p182:0≤(x8_2:Int):=dt_;have q182:x8_2 < (l1.length:Int):=dt_;obtain ⟨ad182,e182,hx182_0⟩:=Kd.at_int HR1.out x8_2 p182 q182;obtain rfl:ad180=ad182:=(by injection e182);replace hx182_0:=(HB.out.cell (World.block_lt_of_cell? w _ hx182_0)).trans hx182_0;replace p182:=eq_true p182;replace q182:=eq_true q182;(go_wp2_with (first | ((with_reducible refine gate_builtin (b := .append) (xs:=#[.tmp 79, .tmp 81]) rfl ?_);at_builtin;refine Kd.R_append (Kd.int .i64) (w0:=w) w.heap.size rfl (.tmp 79) (.tmp 81) 72 3 (.int .i64 0) 8 rfl Tryz.underlying72 info3 rfl (by decide) (by omega) u7 x7_1 x8_2 [.int .i64 x8_2] (fun k_=>some k_≠(v177:Value).ownBlock) (fun _=>False) rfl rfl ?aP (fun _ hk=>hk.elim) ?aF ?aO ?aB ?aS ?aL ?_;(case aP=>exact rfl);(case aB=>exact bel_);(case aF=>exact (fun k_ hk=>Kd.fresh' (Kd.R_lt (pR_ HO_5.out)) k_ hk));(case aO=>exact (pR_ HO_7.out));(case aS=>exact (below_size bel_));(case aL=>have:=LMc11.out;omega);intro v184 w12 ho hb hg hat;rw [← Ny183.out] at ho;have n0_:=Aside0.mk (Kd.R_after (ok:=(fun _=>True)) (by (with_reducible repeat (first | apply Kd.R_alloc | apply Kd.R_drewN | apply Kd.R_drew));exact Kd.R_mono HO_5.out (fun _ hk=>⟨trivial,hk⟩)) hg hat);have n1_:=Aside0.mk (hb);have n2_:=Aside0.mk (ho);clear HO_5;clear HB;clear HO_7;have HO_5:=n0_;have HB:=n1_;have HO185:=n2_;clear n0_ n1_ n2_;clear ho hb hg hat)))
            (repeat (go_quiet (first | ((with_reducible refine gate_builtin (b := .append) (xs:=#[.tmp 79, .tmp 81]) rfl ?_);at_builtin;refine Kd.R_append (Kd.int .i64) (w0:=w) w.heap.size rfl (.tmp 79) (.tmp 81) 72 3 (.int .i64 0) 8 rfl Tryz.underlying72 info3 rfl (by decide) (by omega) u7 x7_1 x8_2 [.int .i64 x8_2] (fun k_=>some k_≠(v177:Value).ownBlock) (fun _=>False) rfl rfl ?aP (fun _ hk=>hk.elim) ?aF ?aO ?aB ?aS ?aL ?_;(case aP=>exact rfl);(case aB=>exact bel_);(case aF=>exact (fun k_ hk=>Kd.fresh' (Kd.R_lt (pR_ HO_5.out)) k_ hk));(case aO=>exact (pR_ HO_7.out));(case aS=>exact (below_size bel_));(case aL=>have:=LMc11.out;omega);intro v184 w12 ho hb hg hat;rw [← Ny183.out] at ho;have n0_:=Aside0.mk (Kd.R_after (ok:=(fun _=>True)) (by (with_reducible repeat (first | apply Kd.R_alloc | apply Kd.R_drewN | apply Kd.R_drew));exact Kd.R_mono HO_5.out (fun _ hk=>⟨trivial,hk⟩)) hg hat);have n1_:=Aside0.mk (hb);have n2_:=Aside0.mk (ho);clear HO_5;clear HB;clear HO_7;have HO_5:=n0_;have HB:=n1_;have HO185:=n2_;clear n0_ n1_ n2_;clear ho hb hg hat));try go_wp2_with (first | ((with_reducible refine gate_builtin (b := .append) (xs:=#[.tmp 79, .tmp 81]) rfl ?_);at_builtin;refine Kd.R_append (Kd.int .i64) (w0:=w) w.heap.size rfl (.tmp 79) (.tmp 81) 72 3 (.int .i64 0) 8 rfl Tryz.underlying72 info3 rfl (by decide) (by omega) u7 x7_1 x8_2 [.int .i64 x8_2] (fun k_=>some k_≠(v177:Value).ownBlock) (fun _=>False) rfl rfl ?aP (fun _ hk=>hk.elim) ?aF ?aO ?aB ?aS ?aL ?_;(case aP=>exact rfl);(case aB=>exact bel_);(case aF=>exact (fun k_ hk=>Kd.fresh' (Kd.R_lt (pR_ HO_5.out)) k_ hk));(case aO=>exact (pR_ HO_7.out));(case aS=>exact (below_size bel_));(case aL=>have:=LMc11.out;omega);intro v184 w12 ho hb hg hat;rw [← Ny183.out] at ho;have n0_:=Aside0.mk (Kd.R_after (ok:=(fun _=>True)) (by (with_reducible repeat (first | apply Kd.R_alloc | apply Kd.R_drewN | apply Kd.R_drew));exact Kd.R_mono HO_5.out (fun _ hk=>⟨trivial,hk⟩)) hg hat);have n1_:=Aside0.mk (hb);have n2_:=Aside0.mk (ho);clear HO_5;clear HB;clear HO_7;have HO_5:=n0_;have HB:=n1_;have HO185:=n2_;clear n0_ n1_ n2_;clear ho hb hg hat))))
            go_roundg k2
            (case measure=>have:=HK1.out;have:=HK2.out;omega);(case rel=>exact ⟨(y183),(wrap64 (x8_2+1)),(wrap64 (x9_1+1)),rs_,rs_,H',⟨by have:=HK1.out;have:=HK2.out;omega⟩,⟨by (with_reducible repeat (first | apply Kd.R_alloc | apply Kd.R_drewN | apply Kd.R_drew));exact Kd.R_mono HO_5.out (fun _ hk=>hk.2)⟩,⟨pR_ HO185.out⟩,⟨bel_⟩⟩)
           (· (rw [if_neg c11] at H);exact absurd H (by simp))
          ·
           (rw [if_neg c10] at H);have c10b0:((rd l0 x9_1) == (rd l1 x8_2))=false:=beq_eq_false_iff_ne.mpr c10;have c10b1:((rd l0 x9_1) != (rd l1 x8_2))=true:=bne_iff_ne.mpr c10;obtain ⟨ji13,hji13⟩ : ∃ j_:Int,(wrap64 ((wrap64 ((wrap64 (x9_1+1)) * (wrap64 ((l1.length:Int)+1))))+x8_2))=j_:=⟨_,rfl⟩;(replace H:(if 0≤(ji13) then (if (ji13) < (t176.length:Int) then (if 0≤(wrap64 ((wrap64 ((wrap64 (x9_1 * (wrap64 ((l1.length:Int)+1))))+x8_2))+1)) then (if (wrap64 ((wrap64 ((wrap64 (x9_1 * (wrap64 ((l1.length:Int)+1))))+x8_2))+1)) < (t176.length:Int) then (if (rd t176 (ji13)) < (rd t176 (wrap64 ((wrap64 ((wrap64 (x9_1 * (wrap64 ((l1.length:Int)+1))))+x8_2))+1))) then (sennitref03_Match.l1 k2 l0 l1 t176 (wrap64 ((l1.length:Int)+1)) x7_1 (wrap64 (x8_2+1)) x9_1 (-1)) else (if x7_1.length < 17592186044416 then (sennitref03_Match.l0 k2 l0 l1 t176 (wrap64 ((l1.length:Int)+1)) (x7_1 ++ [(-1)]) x8_2 (wrap64 (x9_1+1))) else (none))) else (none)) else (none)) else (none)) else (none))=some r:=by first | (rw [hji13] at H;exact H) | (simp only [hji13] at H ⊢;exact H));have hji13w:(IntKind.i64.wrap ((wrap64 ((wrap64 (x9_1+1)) * (wrap64 ((l1.length:Int)+1))))+x8_2))=ji13:=(i64_w _).trans hji13
           by_cases c14:0≤(ji13)
           ·
            (rw [if_pos c14] at H);have c14b0:decide (0≤(ji13))=true:=decide_eq_true c14;clear c14
            by_cases c15:(ji13) < (t176.length:Int)
            ·
             (rw [if_pos c15] at H);have c15b0:decide ((ji13) < (t176.length:Int))=true:=decide_eq_true c15;clear c15;obtain ⟨ji16,hji16⟩ : ∃ j_:Int,(wrap64 ((wrap64 ((wrap64 (x9_1 * (wrap64 ((l1.length:Int)+1))))+x8_2))+1))=j_:=⟨_,rfl⟩;(replace H:(if 0≤(ji16) then (if (ji16) < (t176.length:Int) then (if (rd t176 (ji13)) < (rd t176 (ji16)) then (sennitref03_Match.l1 k2 l0 l1 t176 (wrap64 ((l1.length:Int)+1)) x7_1 (wrap64 (x8_2+1)) x9_1 (-1)) else (if x7_1.length < 17592186044416 then (sennitref03_Match.l0 k2 l0 l1 t176 (wrap64 ((l1.length:Int)+1)) (x7_1 ++ [(-1)]) x8_2 (wrap64 (x9_1+1))) else (none))) else (none)) else (none))=some r:=by first | (rw [hji16] at H;exact H) | (simp only [hji16] at H ⊢;exact H));have hji16w:(IntKind.i64.wrap ((wrap64 ((wrap64 (x9_1 * (wrap64 ((l1.length:Int)+1))))+x8_2))+1))=ji16:=(i64_w _).trans hji16
             by_cases c17:0≤(ji16)
             ·
              (rw [if_pos c17] at H);have c17b0:decide (0≤(ji16))=true:=decide_eq_true c17;clear c17
              by_cases c18:(ji16) < (t176.length:Int)
              ·
               (rw [if_pos c18] at H);have c18b0:decide ((ji16) < (t176.length:Int))=true:=decide_eq_true c18;clear c18
               by_cases c19:(rd t176 (ji13)) < (rd t176 (ji16))
               ·
                (rw [if_pos c19] at H);have c19b0:decide ((rd t176 (ji13)) < (rd t176 (ji16)))=true:=decide_eq_true c19;clear c19;have H':=Aside0.mk H;clear H;have p179:0≤(x9_1:Int):=dt_;have q179:x9_1 < (l0.length:Int):=dt_;obtain ⟨ad179,e179,hx179_0⟩:=Kd.at_int HR0.out x9_1 p179 q179;cases e179;replace hx179_0:=(HB.out.cell (World.block_lt_of_cell? w _ hx179_0)).trans hx179_0;replace p179:=eq_true p179;replace q179:=eq_true q179;have p180:0≤(x8_2:Int):=dt_;have q180:x8_2 < (l1.length:Int):=dt_;obtain ⟨ad180,e180,hx180_0⟩:=Kd.at_int HR1.out x8_2 p180 q180;cases e180;replace hx180_0:=(HB.out.cell (World.block_lt_of_cell? w _ hx180_0)).trans hx180_0;replace p180:=eq_true p180;replace q180:=eq_true q180;obtain ⟨Ao20,co20,eo20⟩:=Kd.R_slice HO_5.out;subst eo20;have p186:0≤((ji13):Int):=dt_;have q186:(ji13) < (t176.length:Int):=dt_;obtain ⟨ad186,e186,hx186_0⟩:=Kd.at_int (Kd.R_reads' HO_5.out).2.2 (ji13) p186 q186;cases e186;replace p186:=eq_true p186;replace q186:=eq_true q186;have p187:0≤((ji16):Int):=dt_;have q187:(ji16) < (t176.length:Int):=dt_;obtain ⟨ad187,e187,hx187_0⟩:=Kd.at_int (Kd.R_reads' HO_5.out).2.2 (ji16) p187 q187;obtain rfl:ad186=ad187:=(by injection e187);replace p187:=eq_true p187;replace q187:=eq_true q187;go_wp2;(repeat (go_quiet (fail);try go_wp2))
                go_roundg k2
                (case measure=>have:=HK1.out;have:=HK2.out;omega);(case rel=>exact ⟨(wrap64 (x8_2+1)),rs_,H',⟨by have:=HK1.out;have:=HK2.out;omega⟩,⟨pR_ HO_5.out⟩,⟨pR_ HO_7.out⟩,⟨bel_⟩⟩)
               ·
                (rw [if_neg c19] at H);have c19b0:decide ((rd t176 (ji13)) < (rd t176 (ji16)))=false:=decide_eq_false c19;clear c19
                by_cases c21:x7_1.length < 17592186044416
                ·
                 (rw [if_pos c21] at H);have LMc21:=Aside0.mk c21;clear c21;obtain ⟨y190,hy190⟩ : ∃ y_:List Int,y_=(x7_1 ++ [(-1)]):=⟨_,rfl⟩;(replace H:(sennitref03_Match.l0 k2 l0 l1 t176 (wrap64 ((l1.length:Int)+1)) y190 x8_2 (wrap64 (x9_1+1)))=some r:=by first | (rw [hy190];with_reducible exact H) | (have H2_:=(Option.bind_some _ _).symm.trans H;rw [hy190];with_reducible exact H2_) | (have H2_:=(Option.bind_some _ _).symm.trans H;with_reducible exact H2_) | with_reducible exact H | (rw [hy190];exact H) | exact H);have Ny190:=Aside0.mk hy190;clear hy190;have H':=Aside0.mk H;clear H;have p179:0≤(x9_1:Int):=dt_;have q179:x9_1 < (l0.length:Int):=dt_;obtain ⟨ad179,e179,hx179_0⟩:=Kd.at_int HR0.out x9_1 p179 q179;cases e179;replace hx179_0:=(HB.out.cell (World.block_lt_of_cell? w _ hx179_0)).trans hx179_0;replace p179:=eq_true p179;replace q179:=eq_true q179;have p180:0≤(x8_2:Int):=dt_;have q180:x8_2 < (l1.length:Int):=dt_;obtain ⟨ad180,e180,hx180_0⟩:=Kd.at_int HR1.out x8_2 p180 q180;cases e180;replace hx180_0:=(HB.out.cell (World.block_lt_of_cell? w _ hx180_0)).trans hx180_0;replace p180:=eq_true p180;replace q180:=eq_true q180;obtain ⟨Ao22,co22,eo22⟩:=Kd.R_slice HO_5.out;subst eo22;have p186:0≤((ji13):Int):=dt_;have q186:(ji13) < (t176.length:Int):=dt_;obtain ⟨ad186,e186,hx186_0⟩:=Kd.at_int (Kd.R_reads' HO_5.out).2.2 (ji13) p186 q186;cases e186;replace p186:=eq_true p186;replace q186:=eq_true q186;have p187:0≤((ji16):Int):=dt_;have q187:(ji16) < (t176.length:Int):=dt_;obtain ⟨ad187,e187,hx187_0⟩:=Kd.at_int (Kd.R_reads' HO_5.out).2.2 (ji16) p187 q187;obtain rfl:ad186=ad187:=(by injection e187);replace p187:=eq_true p187;replace q187:=eq_true q187;have p188:0≤(x9_1:Int):=dt_;have q188:x9_1 < (l0.length:Int):=dt_;obtain ⟨ad188,e188,hx188_0⟩:=Kd.at_int HR0.out x9_1 p188 q188;obtain rfl:ad179=ad188:=(by injection e188);replace hx188_0:=(HB.out.cell (World.block_lt_of_cell? w _ hx188_0)).trans hx188_0;replace p188:=eq_true p188;replace q188:=eq_true q188;have p189:0≤(x8_2:Int):=dt_;have q189:x8_2 < (l1.length:Int):=dt_;obtain ⟨ad189,e189,hx189_0⟩:=Kd.at_int HR1.out x8_2 p189 q189;obtain rfl:ad180=ad189:=(by injection e189);replace hx189_0:=(HB.out.cell (World.block_lt_of_cell? w _ hx189_0)).trans hx189_0;replace p189:=eq_true p189;replace q189:=eq_true q189;(go_wp2_with (first | ((with_reducible refine gate_builtin (b := .append) (xs:=#[.tmp 79, .tmp 81]) rfl ?_);at_builtin;refine Kd.R_append (Kd.int .i64) (w0:=w) w.heap.size rfl (.tmp 79) (.tmp 81) 72 3 (.int .i64 0) 8 rfl Tryz.underlying72 info3 rfl (by decide) (by omega) u7 x7_1 (-1) [.int .i64 (-1)] (fun k_=>some k_≠(.slice (some ad186) t176.length co22:Value).ownBlock) (fun _=>False) rfl rfl ?aP (fun _ hk=>hk.elim) ?aF ?aO ?aB ?aS ?aL ?_;(case aP=>exact rfl);(case aB=>exact bel_);(case aF=>exact (fun k_ hk=>Kd.fresh' (Kd.R_lt (pR_ HO_5.out)) k_ hk));(case aO=>exact (pR_ HO_7.out));(case aS=>exact (below_size bel_));(case aL=>have:=LMc21.out;omega);intro v191 w23 ho hb hg hat;rw [← Ny190.out] at ho;have n0_:=Aside0.mk (Kd.R_after (ok:=(fun _=>True)) (by (with_reducible repeat (first | apply Kd.R_alloc | apply Kd.R_drewN | apply Kd.R_drew));exact Kd.R_mono HO_5.out (fun _ hk=>⟨trivial,hk⟩)) hg hat);have n1_:=Aside0.mk (hb);have n2_:=Aside0.mk (ho);clear HO_5;clear HB;clear HO_7;have HO_5:=n0_;have HB:=n1_;have HO192:=n2_;clear n0_ n1_ n2_;clear ho hb hg hat)))
                 (repeat (go_quiet (first | ((with_reducible refine gate_builtin (b := .append) (xs:=#[.tmp 79, .tmp 81]) rfl ?_);at_builtin;refine Kd.R_append (Kd.int .i64) (w0:=w) w.heap.size rfl (.tmp 79) (.tmp 81) 72 3 (.int .i64 0) 8 rfl Tryz.underlying72 info3 rfl (by decide) (by omega) u7 x7_1 (-1) [.int .i64 (-1)] (fun k_=>some k_≠(.slice (some ad186) t176.length co22:Value).ownBlock) (fun _=>False) rfl rfl ?aP (fun _ hk=>hk.elim) ?aF ?aO ?aB ?aS ?aL ?_;(case aP=>exact rfl);(case aB=>exact bel_);(case aF=>exact (fun k_ hk=>Kd.fresh' (Kd.R_lt (pR_ HO_5.out)) k_ hk));(case aO=>exact (pR_ HO_7.out));(case aS=>exact (below_size bel_));(case aL=>have:=LMc21.out;omega);intro v191 w23 ho hb hg hat;rw [← Ny190.out] at ho;have n0_:=Aside0.mk (Kd.R_after (ok:=(fun _=>True)) (by (with_reducible repeat (first | apply Kd.R_alloc | apply Kd.R_drewN | apply Kd.R_drew));exact Kd.R_mono HO_5.out (fun _ hk=>⟨trivial,hk⟩)) hg hat);have n1_:=Aside0.mk (hb);have n2_:=Aside0.mk (ho);clear HO_5;clear HB;clear HO_7;have HO_5:=n0_;have HB:=n1_;have HO192:=n2_;clear n0_ n1_ n2_;clear ho hb hg hat));try go_wp2_with (first | ((with_reducible refine gate_builtin (b := .append) (xs:=#[.tmp 79, .tmp 81]) rfl ?_);at_builtin;refine Kd.R_append (Kd.int .i64) (w0:=w) w.heap.size rfl (.tmp 79) (.tmp 81) 72 3 (.int .i64 0) 8 rfl Tryz.underlying72 info3 rfl (by decide) (by omega) u7 x7_1 (-1) [.int .i64 (-1)] (fun k_=>some k_≠(.slice (some ad186) t176.length co22:Value).ownBlock) (fun _=>False) rfl rfl ?aP (fun _ hk=>hk.elim) ?aF ?aO ?aB ?aS ?aL ?_;(case aP=>exact rfl);(case aB=>exact bel_);(case aF=>exact (fun k_ hk=>Kd.fresh' (Kd.R_lt (pR_ HO_5.out)) k_ hk));(case aO=>exact (pR_ HO_7.out));(case aS=>exact (below_size bel_));(case aL=>have:=LMc21.out;omega);intro v191 w23 ho hb hg hat;rw [← Ny190.out] at ho;have n0_:=Aside0.mk (Kd.R_after (ok:=(fun _=>True)) (by (with_reducible repeat (first | apply Kd.R_alloc | apply Kd.R_drewN | apply Kd.R_drew));exact Kd.R_mono HO_5.out (fun _ hk=>⟨trivial,hk⟩)) hg hat);have n1_:=Aside0.mk (hb);have n2_:=Aside0.mk (ho);clear HO_5;clear HB;clear HO_7;have HO_5:=n0_;have HB:=n1_;have HO192:=n2_;clear n0_ n1_ n2_;clear ho hb hg hat))))
                 go_roundg k2
                 (case measure=>have:=HK1.out;have:=HK2.out;omega);(case rel=>exact ⟨(y190),(x8_2),(wrap64 (x9_1+1)),rs_,rs_,H',⟨by have:=HK1.out;have:=HK2.out;omega⟩,⟨by (with_reducible repeat (first | apply Kd.R_alloc | apply Kd.R_drewN | apply Kd.R_drew));exact Kd.R_mono HO_5.out (fun _ hk=>hk.2)⟩,⟨pR_ HO192.out⟩,⟨bel_⟩⟩)
                (· (rw [if_neg c21] at H);exact absurd H (by simp))
              (· (rw [if_neg c18] at H);exact absurd H (by simp))
             (· (rw [if_neg c17] at H);exact absurd H (by simp))
            (· (rw [if_neg c15] at H);exact absurd H (by simp))
           (· (rw [if_neg c14] at H);exact absurd H (by simp))
         (· (rw [if_neg c9] at H);exact absurd H (by simp))
        (· (rw [if_neg c8] at H);exact absurd H (by simp))
       (· (rw [if_neg c7] at H);exact absurd H (by simp))
      ·
       (rw [if_neg c6] at H);have c6b0:decide (x8_2 < (l1.length:Int))=false:=decide_eq_false c6;clear c6
       by_cases c24:x7_1.length < 17592186044416
       ·
        (rw [if_pos c24] at H);have LMc24:=Aside0.mk c24;clear c24;obtain ⟨y193,hy193⟩ : ∃ y_:List Int,y_=(x7_1 ++ [(-1)]):=⟨_,rfl⟩;(replace H:(sennitref03_Match.l0 k2 l0 l1 t176 (wrap64 ((l1.length:Int)+1)) y193 x8_2 (wrap64 (x9_1+1)))=some r:=by first | (rw [hy193];with_reducible exact H) | (have H2_:=(Option.bind_some _ _).symm.trans H;rw [hy193];with_reducible exact H2_) | (have H2_:=(Option.bind_some _ _).symm.trans H;with_reducible exact H2_) | with_reducible exact H | (rw [hy193];exact H) | exact H);have Ny193:=Aside0.mk hy193;clear hy193;have H':=Aside0.mk H;clear H;(go_wp2_with (first | ((with_reducible refine gate_builtin (b := .append) (xs:=#[.tmp 79, .tmp 81]) rfl ?_);at_builtin;refine Kd.R_append (Kd.int .i64) (w0:=w) w.heap.size rfl (.tmp 79) (.tmp 81) 72 3 (.int .i64 0) 8 rfl Tryz.underlying72 info3 rfl (by decide) (by omega) u7 x7_1 (-1) [.int .i64 (-1)] (fun k_=>some k_≠(v177:Value).ownBlock) (fun _=>False) rfl rfl ?aP (fun _ hk=>hk.elim) ?aF ?aO ?aB ?aS ?aL ?_;(case aP=>exact rfl);(case aB=>exact bel_);(case aF=>exact (fun k_ hk=>Kd.fresh' (Kd.R_lt (pR_ HO_5.out)) k_ hk));(case aO=>exact (pR_ HO_7.out));(case aS=>exact (below_size bel_));(case aL=>have:=LMc24.out;omega);intro v194 w25 ho hb hg hat;rw [← Ny193.out] at ho;have n0_:=Aside0.mk (Kd.R_after (ok:=(fun _=>True)) (by (with_reducible repeat (first | apply Kd.R_alloc | apply Kd.R_drewN | apply Kd.R_drew));exact Kd.R_mono HO_5.out (fun _ hk=>⟨trivial,hk⟩)) hg hat);have n1_:=Aside0.mk (hb);have n2_:=Aside0.mk (ho);clear HO_5;clear HB;clear HO_7;have HO_5:=n0_;have HB:=n1_;have HO195:=n2_;clear n0_ n1_ n2_;clear ho hb hg hat)));(repeat (go_quiet (first | ((with_reducible refine gate_builtin (b := .append) (xs:=#[.tmp 79, .tmp 81]) rfl ?_);at_builtin;refine Kd.R_append (Kd.int .i64) (w0:=w) w.heap.size rfl (.tmp 79) (.tmp 81) 72 3 (.int .i64 0) 8 rfl Tryz.underlying72 info3 rfl (by decide) (by omega) u7 x7_1 (-1) [.int .i64 (-1)] (fun k_=>some k_≠(v177:Value).ownBlock) (fun _=>False) rfl rfl ?aP (fun _ hk=>hk.elim) ?aF ?aO ?aB ?aS ?aL ?_;(case aP=>exact rfl);(case aB=>exact bel_);(case aF=>exact (fun k_ hk=>Kd.fresh' (Kd.R_lt (pR_ HO_5.out)) k_ hk));(case aO=>exact (pR_ HO_7.out));(case aS=>exact (below_size bel_));(case aL=>have:=LMc24.out;omega);intro v194 w25 ho hb hg hat;rw [← Ny193.out] at ho;have n0_:=Aside0.mk (Kd.R_after (ok:=(fun _=>True)) (by (with_reducible repeat (first | apply Kd.R_alloc | apply Kd.R_drewN | apply Kd.R_drew));exact Kd.R_mono HO_5.out (fun _ hk=>⟨trivial,hk⟩)) hg hat);have n1_:=Aside0.mk (hb);have n2_:=Aside0.mk (ho);clear HO_5;clear HB;clear HO_7;have HO_5:=n0_;have HB:=n1_;have HO195:=n2_;clear n0_ n1_ n2_;clear ho hb hg hat));try go_wp2_with (first | ((with_reducible refine gate_builtin (b := .append) (xs:=#[.tmp 79, .tmp 81]) rfl ?_);at_builtin;refine Kd.R_append (Kd.int .i64) (w0:=w) w.heap.size rfl (.tmp 79) (.tmp 81) 72 3 (.int .i64 0) 8 rfl Tryz.underlying72 info3 rfl (by decide) (by omega) u7 x7_1 (-1) [.int .i64 (-1)] (fun k_=>some k_≠(v177:Value).ownBlock) (fun _=>False) rfl rfl ?aP (fun _ hk=>hk.elim) ?aF ?aO ?aB ?aS ?aL ?_;(case aP=>exact rfl);(case aB=>exact bel_);(case aF=>exact (fun k_ hk=>Kd.fresh' (Kd.R_lt (pR_ HO_5.out)) k_ hk));(case aO=>exact (pR_ HO_7.out));(case aS=>exact (below_size bel_));(case aL=>have:=LMc24.out;omega);intro v194 w25 ho hb hg hat;rw [← Ny193.out] at ho;have n0_:=Aside0.mk (Kd.R_after (ok:=(fun _=>True)) (by (with_reducible repeat (first | apply Kd.R_alloc | apply Kd.R_drewN | apply Kd.R_drew));exact Kd.R_mono HO_5.out (fun _ hk=>⟨trivial,hk⟩)) hg hat);have n1_:=Aside0.mk (hb);have n2_:=Aside0.mk (ho);clear HO_5;clear HB;clear HO_7;have HO_5:=n0_;have HB:=n1_;have HO195:=n2_;clear n0_ n1_ n2_;clear ho hb hg hat))))
        go_roundg k2
        (case measure=>have:=HK1.out;have:=HK2.out;omega);(case rel=>exact ⟨(y193),(x8_2),(wrap64 (x9_1+1)),rs_,rs_,H',⟨by have:=HK1.out;have:=HK2.out;omega⟩,⟨by (with_reducible repeat (first | apply Kd.R_alloc | apply Kd.R_drewN | apply Kd.R_drew));exact Kd.R_mono HO_5.out (fun _ hk=>hk.2)⟩,⟨pR_ HO195.out⟩,⟨bel_⟩⟩)
       (· (rw [if_neg c24] at H);exact absurd H (by simp))
   (· (rw [if_neg c5] at H);have c5b0:decide (x9_1 < (l0.length:Int))=false:=decide_eq_false c5;clear c5;obtain rfl:=Option.some.inj H;go_wp2;(repeat (go_quiet (fail);try go_wp2));go_ret;exact ⟨_,by first | rfl | (simp [errW_none,errW_some] <;> rfl) | (simp [*,errW_none,errW_some] <;> rfl),by (with_reducible repeat (first | apply Kd.R_alloc | apply Kd.R_drewN | apply Kd.R_drew));exact Kd.R_mono HO_7.out (fun _ hk=>trivial),bel_⟩)
def sennitref05_Matches.l0:Nat→List Int→List (List Int)→List Int→List (List Int)→Int→Option (List Int × (List (List Int)))
  | 0,_,_,_,_,_=>none
  | k+1,x0,x1,x6,x7,x8=>if x8 < (x1.length:Int) then (if 0≤x8 then (if x6.length < 17592186044416 then ((sennitref03_Match.f k x0 (rd_L16 x1 x8)).bind fun t201=>(if x7.length < 5864062014805 then (sennitref05_Matches.l0 k x0 x1 (x6 ++ [((rd_L16 x1 x8).length:Int)]) (x7 ++ [t201]) (wrap64 (x8+1))) else (none))) else (none)) else (none)) else (some (x6,x7))
def sennitref05_Matches.f (k:Nat) (l0:List Int) (l1:List (List Int)):Option (List Int × (List (List Int))):=sennitref05_Matches.l0 k l0 l1 ([]:List Int) ([]:List (List Int)) 0
set_option maxHeartbeats 8000000 in
set_option maxRecDepth 100000 in
theorem sennitref05_Matches.calls (k:Nat) (A0:Option Addr) (c0:Nat) (l0:List Int) (A1:Option Addr) (c1:Nat) (l1:List (List Int)) (r1:List Int) (r2:List (List Int)) (w:World) (hr0:Kd.C (Kd.int .i64) w A0 l0.length l0) (hc0:l0.length≤c0) (hr1:Kd.C (Kd.slice 3 (Kd.int .i64)) w A1 l1.length l1) (hc1:l1.length≤c1) (h:sennitref05_Matches.f k l0 l1=some (r1,r2)) :
    Calls Tryz.prog 41 #[.slice A0 l0.length c0, .slice A1 l1.length c1] w fun e w' => ∃ v0_ v1_:Value,e = .returned (.tuple #[v0_,v1_])∧Kd.R (Kd.int .i64) 3 w' w.heap.size (fun _=>True) v0_ r1∧Kd.S (Kd.slice 3 (Kd.int .i64)) 72 w' w.heap.size (fun k_=>some k_≠(v0_:Value).ownBlock) v1_ r2∧Below w.heap.size w w':=by
 have HR0:=Aside0.mk hr0;have HC0:=Aside0.mk hc0;clear hr0 hc0;have HR1:=Aside0.mk hr1;have HC1:=Aside0.mk hc1;clear hr1 hc1;have HB:=Aside0.mk (Below.refl w.heap.size w);have H:(sennitref05_Matches.l0 k l0 l1 ([]:List Int) ([]:List (List Int)) 0)=some (r1,r2):=h;clear h;have H':=Aside0.mk H;clear H;go_enter Tryz.func41,Tryz.ntmps41;go_wp2
 go_loopg [6,7,8] k (fun kq v6 v7 v8 w' => ∃ (x6_1:List Int) (x7_1:List (List Int)) (x8_1:Int),v8 = .int .i64 x8_1∧Aside0 (sennitref05_Matches.l0 kq l0 l1 x6_1 x7_1 x8_1=some (r1,r2))∧Aside0 (kq≤k)∧Aside0 (Kd.R (Kd.int .i64) 3 w' w.heap.size (fun _=>True) v6 x6_1)∧Aside0 (Kd.S (Kd.slice 3 (Kd.int .i64)) 72 w' w.heap.size (fun k_=>some k_≠(v6:Value).ownBlock) v7 x7_1)∧Aside0 (Below w.heap.size w w'))
 (case atStart=>exact ⟨(([]:List Int)),(([]:List (List Int))),(0),rs_,H',⟨Nat.le_refl _⟩,⟨by first | exact Kd.R_nil _ _ _ _ _ | exact Kd.N_nil _ _ _ _ _ | exact Kd.V_nil _ _ _ _ _ | exact Kd.Q_nil _ _ _ _ _ | exact Kd.S_nil _ _ _ _ _⟩,⟨by first | exact Kd.S_nil _ _ _ _ _ | exact Kd.N_nil _ _ _ _ _ | exact Kd.V_nil _ _ _ _ _ | exact Kd.Q_nil _ _ _ _ _ | exact Kd.R_nil _ _ _ _ _⟩,⟨bel_⟩⟩)
 case round =>
  clear H';(try clear c1);(try clear p2);obtain ⟨x6_1,x7_1,x8_1,rfl,HA,HK1,HO_6,HO_7,HB⟩:=hrel
  cases gk with
  | zero=>exact absurd HA.out (by simp [sennitref05_Matches.l0])
  | succ k1 =>
   have H:=HA.out;clear HA;(simp only [sennitref05_Matches.l0] at H)
   by_cases c3:x8_1 < (l1.length:Int)
   ·
    (rw [if_pos c3] at H);have c3b0:decide (x8_1 < (l1.length:Int))=true:=decide_eq_true c3;clear c3
    by_cases c4:0≤x8_1
    ·
     (rw [if_pos c4] at H);have c4b0:decide (0≤x8_1)=true:=decide_eq_true c4;clear c4
     by_cases c5:x6_1.length < 17592186044416
     ·
      (rw [if_pos c5] at H);have LMc5:=Aside0.mk c5;clear c5;obtain ⟨y197,hy197⟩ : ∃ y_:List Int,y_=(x6_1 ++ [((rd_L16 l1 x8_1).length:Int)]):=⟨_,rfl⟩;(replace H:((sennitref03_Match.f k1 l0 (rd_L16 l1 x8_1)).bind fun t201=>(if x7_1.length < 5864062014805 then (sennitref05_Matches.l0 k1 l0 l1 y197 (x7_1 ++ [t201]) (wrap64 (x8_1+1))) else (none)))=some (r1,r2):=by first | (rw [hy197];with_reducible exact H) | (have H2_:=(Option.bind_some _ _).symm.trans H;rw [hy197];with_reducible exact H2_) | (have H2_:=(Option.bind_some _ _).symm.trans H;with_reducible exact H2_) | with_reducible exact H | (rw [hy197];exact H) | exact H);have Ny197:=Aside0.mk hy197;clear hy197;replace H:=Option.bind_eq_some_iff.mp H;obtain ⟨t201,A60,H⟩:=H;replace H:(if x7_1.length < 5864062014805 then (sennitref05_Matches.l0 k1 l0 l1 y197 (x7_1 ++ [t201]) (wrap64 (x8_1+1))) else (none))=some (r1,r2):=H;have A6:=Aside0.mk A60;clear A60
      by_cases c7:x7_1.length < 5864062014805
      ·
       (rw [if_pos c7] at H);have LMc7:=Aside0.mk c7;clear c7;obtain ⟨y204,hy204⟩ : ∃ y_:List (List Int),y_=(x7_1 ++ [t201]):=⟨_,rfl⟩;(replace H:(sennitref05_Matches.l0 k1 l0 l1 y197 y204 (wrap64 (x8_1+1)))=some (r1,r2):=by first | (rw [hy204];with_reducible exact H) | (have H2_:=(Option.bind_some _ _).symm.trans H;rw [hy204];with_reducible exact H2_) | (have H2_:=(Option.bind_some _ _).symm.trans H;with_reducible exact H2_) | with_reducible exact H | (rw [hy204];exact H) | exact H);have Ny204:=Aside0.mk hy204;clear hy204;have H':=Aside0.mk H;clear H;have p196:0≤(x8_1:Int):=dt_;have q196:x8_1 < (l1.length:Int):=dt_;obtain ⟨ad196,A196_0,c196_0,e196,hx196_0,hl196_0,hi196_0⟩:=at_L16 HR1.out x8_1 p196 q196;cases e196;replace hx196_0:=(HB.out.cell (World.block_lt_of_cell? w _ hx196_0)).trans hx196_0;have HR196_0:=Aside0.mk hi196_0;have HC196_0:=Aside0.mk hl196_0;clear hi196_0 hl196_0;replace p196:=eq_true p196;replace q196:=eq_true q196
       (go_wp2_with (first | ((with_reducible refine gate_builtin (b := .append) (xs:=#[.tmp 15, .tmp 21]) rfl ?_);at_builtin;refine Kd.R_append (Kd.int .i64) (w0:=w) w.heap.size rfl (.tmp 15) (.tmp 21) 72 3 (.int .i64 0) 8 rfl Tryz.underlying72 info3 rfl (by decide) (by omega) u6 x6_1 ((rd_L16 l1 x8_1).length:Int) [.int .i64 ((rd_L16 l1 x8_1).length:Int)] (fun _=>True) (fun _=>False) rfl rfl ?aP (fun _ hk=>hk.elim) ?aF ?aO ?aB ?aS ?aL ?_;(case aP=>exact rfl);(case aB=>exact bel_);(case aF=>exact (fun _ _=>trivial));(case aO=>exact (pR_ HO_6.out));(case aS=>exact (below_size bel_));(case aL=>have:=LMc5.out;omega);intro v198 w8 ho hb hg hat;rw [← Ny197.out] at ho;have n0_:=Aside0.mk (Kd.S_after (ok:=(fun _=>True)) (by (with_reducible repeat (first | apply Kd.S_alloc | apply Kd.S_drewN | apply Kd.S_drew));exact Kd.S_mono HO_7.out (fun _ hk=>⟨trivial,hk⟩)) hg hat);have n1_:=Aside0.mk (hb);have n2_:=Aside0.mk (ho);clear HO_7;clear HB;clear HO_6;have HO_7:=n0_;have HB:=n1_;have HO199:=n2_;clear n0_ n1_ n2_;clear ho hb hg hat;have p200:0≤(x8_1:Int):=dt_;have q200:x8_1 < (l1.length:Int):=dt_;obtain ⟨ad200,A200_0,c200_0,e200,hx200_0,hl200_0,hi200_0⟩:=at_L16 HR1.out x8_1 p200 q200;obtain rfl:ad196=ad200:=(by injection e200);replace hx200_0:=(HB.out.cell (World.block_lt_of_cell? w _ hx200_0)).trans hx200_0;have HR200_0:=Aside0.mk hi200_0;have HC200_0:=Aside0.mk hl200_0;clear hi200_0 hl200_0;replace p200:=eq_true p200;replace q200:=eq_true q200) | ((with_reducible refine gate_callee (f:=79) rfl ?_);refine goesL_ (some 29) rfl rfl Tryz.func79 (by kernel_rfl) rfl #[.slice A0 l0.length c0, .slice A200_0 (rd_L16 l1 x8_1).length c200_0] rfl (by (try simp only [List.map_toArray,List.map_cons,List.map_nil]);first | done | rfl | (simp only [List.length_drop,List.length_take];rfl)) ?_;(with_reducible refine (sennitref03_Match.calls k1 _ _ l0 _ _ (rd_L16 l1 x8_1) t201 _ ?side1 ?side2 ?side3 ?side4 A6.out).mono ?_);(case side1=>repeat (first | exact (Kd.C_below HR0.out HB.out) | (with_reducible refine Kd.C_alloc ?_ _) | (with_reducible refine Kd.C_drewN ?_ _) | (with_reducible refine Kd.C_drew ?_)));(case side2=>exact HC0.out);(case side3=>repeat (first | exact (Kd.C_below HR200_0.out HB.out) | (with_reducible refine Kd.C_alloc ?_ _) | (with_reducible refine Kd.C_drewN ?_ _) | (with_reducible refine Kd.C_drew ?_)));(case side4=>exact HC200_0.out);rintro e w9 ⟨v202,rfl,ho0,hb⟩;refine ⟨_,rfl,?_⟩;have n0_:=Aside0.mk (Kd.S_elder' (by (with_reducible repeat (first | apply Kd.S_alloc | apply Kd.S_drewN | apply Kd.S_drew));exact HO_7.out) (Kd.R_base ho0) hb);have n1_:=Aside0.mk (Kd.R_elder' (pR_ HO199.out) (Kd.R_base ho0) hb);have n2_:=Aside0.mk (Kd.R_lower (Kd.R_new' ho0 (Kd.R_lt (pR_ HO199.out))) (below_size bel_));have n3_:=Aside0.mk (below_step bel_ hb);clear HO_7;clear HO199;clear HB;have HO_7:=n0_;have HO199:=n1_;have HO203:=n2_;have HB:=n3_;clear n0_ n1_ n2_ n3_;(try clear hb);(try clear hb2);(try clear hk);(try clear hi);(try clear ho0);obtain ⟨Ao11,co11,eo11⟩:=Kd.R_slice HO203.out;subst eo11) | ((with_reducible refine gate_builtin (b := .append) (xs:=#[.tmp 23, .tmp 30]) rfl ?_);at_builtin;refine Kd.S_append (Kd.slice 3 (Kd.int .i64)) (w0:=w) w.heap.size rfl (.tmp 23) (.tmp 30) 70 72 (.slice none 0 0) 24 rfl Tryz.underlying70 info72 rfl (by decide) (by omega) u7 x7_1 t201 [.slice Ao11 t201.length co11] (fun k_=>some k_≠(v198:Value).ownBlock) (fun k_=>some k_=(.slice Ao11 t201.length co11:Value).ownBlock) rfl rfl ?aP (fun k_ hk_=>((Kd.R_mono (ok':=fun k_=>((fun k_=>some k_≠(v198:Value).ownBlock)) k_∧some k_≠(u7:Value).ownBlock) (Kd.R_apart' (HO203.out) (Kd.S_typed HO_7.out) (by decide)) (fun k_ hk=>⟨hk.1.2,hk.2⟩))).1 k_ hk_.symm) ?aF ?aO ?aB ?aS ?aL ?_;(case aP=>exact Kd.M_row (Kd.R_mono (Kd.R_tight rfl (Kd.R_mono (ok':=fun k_=>((fun k_=>some k_≠(v198:Value).ownBlock)) k_∧some k_≠(u7:Value).ownBlock) (Kd.R_apart' (HO203.out) (Kd.S_typed HO_7.out) (by decide)) (fun k_ hk=>⟨hk.1.2,hk.2⟩))) (fun _ h_=>h_)));(case aB=>exact bel_);(case aF=>exact (fun k_ hk=>Kd.fresh' (Kd.R_lt (pR_ HO199.out)) k_ hk));(case aO=>exact (by (with_reducible repeat (first | apply Kd.S_alloc | apply Kd.S_drewN | apply Kd.S_drew));exact Kd.S_mono HO_7.out (fun k_ hk=>⟨hk.1.2,fun e_=>hk.2 e_⟩)));(case aS=>exact (below_size bel_));(case aL=>have:=LMc7.out;omega);intro v205 w10 ho hb hg hat;rw [← Ny204.out] at ho;have n0_:=Aside0.mk (Kd.R_over' (pR_ HO199.out) (Kd.S_typed (by (with_reducible repeat (first | apply Kd.S_alloc | apply Kd.S_drewN | apply Kd.S_drew));exact HO_7.out)) (by decide) hg);have n1_:=Aside0.mk (hb);have n2_:=Aside0.mk (ho);clear HO199;clear HB;clear HO_7;clear HO203;have HO199:=n0_;have HB:=n1_;have HO206:=n2_;clear n0_ n1_ n2_;clear ho hb hg hat)))
       go_roundg k1
       (case measure=>have:=HK1.out;omega);(case rel=>exact ⟨(y197),(y204),(wrap64 (x8_1+1)),rs_,H',⟨by have:=HK1.out;omega⟩,⟨by (with_reducible repeat (first | apply Kd.R_alloc | apply Kd.R_drewN | apply Kd.R_drew));exact Kd.R_mono HO199.out (fun _ hk=>trivial)⟩,⟨by (with_reducible repeat (first | apply Kd.S_alloc | apply Kd.S_drewN | apply Kd.S_drew));exact HO206.out⟩,⟨bel_⟩⟩)
      (· (rw [if_neg c7] at H);exact absurd H (by simp))
     (· (rw [if_neg c5] at H);exact absurd H (by simp))
    (· (rw [if_neg c4] at H);exact absurd H (by simp))
   (· (rw [if_neg c3] at H);have c3b0:decide (x8_1 < (l1.length:Int))=false:=decide_eq_false c3;clear c3;(simp only [Option.some.injEq,Prod.mk.injEq] at H);obtain ⟨rfl,rfl⟩:=H;go_wp2;go_ret2;exact ⟨_,_,by first | rfl | (simp [errW_none,errW_some] <;> rfl) | (simp [*,errW_none,errW_some] <;> rfl),by (with_reducible repeat (first | apply Kd.R_alloc | apply Kd.R_drewN | apply Kd.R_drew));exact HO_6.out,by (with_reducible repeat (first | apply Kd.S_alloc | apply Kd.S_drewN | apply Kd.S_drew));exact HO_7.out,bel_⟩)
def slices_Equal_string_string.l0:Nat→List ByteArray→List ByteArray→Int→Int→Option (Bool)
  | 0,_,_,_,_=>none
  | k+1,x0,x1,x12,x13=>if x13 < x12 then (if 0≤x13 then (if x13 < (x0.length:Int) then (if x13 < (x1.length:Int) then (if (rdOf ByteArray.empty x0 x13).toList=(rdOf ByteArray.empty x1 x13).toList then (slices_Equal_string_string.l0 k x0 x1 x12 (wrap64 (x13+1))) else (some false)) else (none)) else (none)) else (none)) else (some true)
def slices_Equal_string_string.f (k:Nat) (l0:List ByteArray) (l1:List ByteArray):Option (Bool):=if (l0.length:Int)=(l1.length:Int) then (slices_Equal_string_string.l0 k l0 l1 (l0.length:Int) 0) else (some false)
set_option maxHeartbeats 8000000 in
set_option maxRecDepth 100000 in
theorem slices_Equal_string_string.calls (k:Nat) (A0:Option Addr) (c0:Nat) (l0:List ByteArray) (A1:Option Addr) (c1:Nat) (l1:List ByteArray) (r:Bool) (w:World) (hr0:Kd.C Kd.string w A0 l0.length l0) (hc0:l0.length≤c0) (hr1:Kd.C Kd.string w A1 l1.length l1) (hc1:l1.length≤c1) (h:slices_Equal_string_string.f k l0 l1=some r) :
    Calls Tryz.prog 114 #[.slice A0 l0.length c0, .slice A1 l1.length c1] w fun e w'=>e = .returned (.bool r)∧Drawn0 w w':=by
 have HR0:=Aside0.mk hr0;have HC0:=Aside0.mk hc0;clear hr0 hc0;have HR1:=Aside0.mk hr1;have HC1:=Aside0.mk hc1;clear hr1 hc1;have H:(if (l0.length:Int)=(l1.length:Int) then (slices_Equal_string_string.l0 k l0 l1 (l0.length:Int) 0) else (some false))=some r:=h;clear h
 by_cases c3:(l0.length:Int)=(l1.length:Int)
 ·
  (rw [if_pos c3] at H);have c3b0:((l0.length:Int) == (l1.length:Int))=true:=beq_iff_eq.mpr c3;have c3b1:((l0.length:Int) != (l1.length:Int))=false:=bne_eq_false_iff_eq.mpr c3;(have c3b2:(l0.length == l1.length)=true:=by first | simpa using c3 | (simp at c3 ⊢;omega));clear c3;have H':=Aside0.mk H;clear H;go_enter Tryz.func114,Tryz.ntmps114;go_wp2;(repeat (go_quiet (fail);try go_wp2))
  go_loopg [13] k (fun kq v13 w' => ∃ (x13_1:Int),v13 = .int .i64 x13_1∧Aside0 (slices_Equal_string_string.l0 kq l0 l1 (l0.length:Int) x13_1=some r)∧Aside0 (kq≤k)∧Drawn0 w w')
  (case atStart=>exact ⟨(0),rs_,H',⟨Nat.le_refl _⟩,d0_⟩)
  case round =>
   clear H';(try clear c1);(try clear p2);(try clear c3);(try clear c3b0);(try clear c3b1);(try clear c3b2);obtain ⟨x13_1,rfl,HA,HK1,⟨m1,rfl⟩⟩:=hrel
   cases gk with
   | zero=>exact absurd HA.out (by simp [slices_Equal_string_string.l0])
   | succ k1 =>
    have H:=HA.out;clear HA;(simp only [slices_Equal_string_string.l0] at H)
    by_cases c4:x13_1 < (l0.length:Int)
    ·
     (rw [if_pos c4] at H);have c4b0:decide (x13_1 < (l0.length:Int))=true:=decide_eq_true c4;clear c4
     by_cases c5:0≤x13_1
     ·
      (rw [if_pos c5] at H);have c5b0:decide (0≤x13_1)=true:=decide_eq_true c5;clear c5
      by_cases c6:x13_1 < (l0.length:Int)
      ·
       (rw [if_pos c6] at H);have c6b0:decide (x13_1 < (l0.length:Int))=true:=decide_eq_true c6;clear c6
       by_cases c7:x13_1 < (l1.length:Int)
       ·
        (rw [if_pos c7] at H);have c7b0:decide (x13_1 < (l1.length:Int))=true:=decide_eq_true c7;clear c7
        by_cases c8:(rdOf ByteArray.empty l0 x13_1).toList=(rdOf ByteArray.empty l1 x13_1).toList
        ·
         (rw [if_pos c8] at H);have c8b0:((rdOf ByteArray.empty l0 x13_1).toList == (rdOf ByteArray.empty l1 x13_1).toList)=true:=beq_iff_eq.mpr c8;have c8b1:((rdOf ByteArray.empty l0 x13_1).toList != (rdOf ByteArray.empty l1 x13_1).toList)=false:=bne_eq_false_iff_eq.mpr c8;clear c8;have H':=Aside0.mk H;clear H;have p101:0≤(x13_1:Int):=dt_;have q101:x13_1 < (l0.length:Int):=dt_;obtain ⟨ad101,e101,hx101_0⟩:=Kd.at_string HR0.out x13_1 p101 q101;cases e101;replace p101:=eq_true p101;replace q101:=eq_true q101;have p102:0≤(x13_1:Int):=dt_;have q102:x13_1 < (l1.length:Int):=dt_;obtain ⟨ad102,e102,hx102_0⟩:=Kd.at_string HR1.out x13_1 p102 q102;cases e102;replace p102:=eq_true p102;replace q102:=eq_true q102;go_wp2;(repeat (go_quiet (fail);try go_wp2))
         go_roundg k1
         (case measure=>have:=HK1.out;omega);(case rel=>exact ⟨(wrap64 (x13_1+1)),rs_,H',⟨by have:=HK1.out;omega⟩,d0_⟩)
        (· (rw [if_neg c8] at H);have c8b0:((rdOf ByteArray.empty l0 x13_1).toList == (rdOf ByteArray.empty l1 x13_1).toList)=false:=beq_eq_false_iff_ne.mpr c8;have c8b1:((rdOf ByteArray.empty l0 x13_1).toList != (rdOf ByteArray.empty l1 x13_1).toList)=true:=bne_iff_ne.mpr c8;obtain rfl:=Option.some.inj H;have p101:0≤(x13_1:Int):=dt_;have q101:x13_1 < (l0.length:Int):=dt_;obtain ⟨ad101,e101,hx101_0⟩:=Kd.at_string HR0.out x13_1 p101 q101;cases e101;replace p101:=eq_true p101;replace q101:=eq_true q101;have p102:0≤(x13_1:Int):=dt_;have q102:x13_1 < (l1.length:Int):=dt_;obtain ⟨ad102,e102,hx102_0⟩:=Kd.at_string HR1.out x13_1 p102 q102;cases e102;replace p102:=eq_true p102;replace q102:=eq_true q102;go_wp2;(repeat (go_quiet (fail);try go_wp2));go_ret;exact ⟨by first | rfl | (simp;done) | (simp [*];done),d0_⟩)
       (· (rw [if_neg c7] at H);exact absurd H (by simp))
      (· (rw [if_neg c6] at H);exact absurd H (by simp))
     (· (rw [if_neg c5] at H);exact absurd H (by simp))
    (· (rw [if_neg c4] at H);have c4b0:decide (x13_1 < (l0.length:Int))=false:=decide_eq_false c4;clear c4;obtain rfl:=Option.some.inj H;go_wp2;(repeat (go_quiet (fail);try go_wp2));go_ret;exact ⟨by first | rfl | (simp;done) | (simp [*];done),d0_⟩)
 (· (rw [if_neg c3] at H);have c3b0:((l0.length:Int) == (l1.length:Int))=false:=beq_eq_false_iff_ne.mpr c3;have c3b1:((l0.length:Int) != (l1.length:Int))=true:=bne_iff_ne.mpr c3;(have c3b2:(l0.length == l1.length)=false:=by first | simpa using c3 | (simp at c3 ⊢;omega));obtain rfl:=Option.some.inj H;go_enter Tryz.func114,Tryz.ntmps114;go_wp2;(repeat (go_quiet (fail);try go_wp2));go_ret;exact ⟨by first | rfl | (simp;done) | (simp [*];done),d0_⟩)
def align_may.l0:Nat→List Int→Int→Int→Int→List Int→Int→Int→Option (Bool)
  | 0,_,_,_,_,_,_,_=>none
  | k+1,x0,x1,x2,x7,x10,x11,x12=>if x12 < x11 then (if 0≤x12 then (if x12 < (x10.length:Int) then (if (rd x10 x12) < (-1) then (some false) else (if (rd x10 x12) ≥ x2 then (some false) else (if (rd x10 x12) ≥ 0 then (if (rd x10 x12)≤x7 then (some false) else (align_may.l0 k x0 x1 x2 (mx x7 (rd x10 x12)) x10 x11 (wrap64 (x12+1)))) else (align_may.l0 k x0 x1 x2 (mx x7 (rd x10 x12)) x10 x11 (wrap64 (x12+1)))))) else (none)) else (none)) else (if (x0.length:Int)=x1 then (some (decide (x2 ≥ 0))) else (some false))
def align_may.f (k:Nat) (l0:List Int) (a1:Int) (a2:Int):Option (Bool):=align_may.l0 k l0 a1 a2 (-1) l0 (l0.length:Int) 0
set_option maxHeartbeats 8000000 in
set_option maxRecDepth 100000 in
theorem align_may.calls (k:Nat) (A0:Option Addr) (c0:Nat) (l0:List Int) (a1:Int) (a2:Int) (r:Bool) (w:World) (hr0:Kd.C (Kd.int .i64) w A0 l0.length l0) (hc0:l0.length≤c0) (h:align_may.f k l0 a1 a2=some r) :
    Calls Tryz.prog 71 #[.slice A0 l0.length c0, .int .i64 a1, .int .i64 a2] w fun e w'=>e = .returned (.bool r)∧Below w.heap.size w w':=by
 have HR0:=Aside0.mk hr0;have HC0:=Aside0.mk hc0;clear hr0 hc0;have HB:=Aside0.mk (Below.refl w.heap.size w);have H:(align_may.l0 k l0 a1 a2 (-1) l0 (l0.length:Int) 0)=some r:=h;clear h;have H':=Aside0.mk H;clear H;go_enter Tryz.func71,Tryz.ntmps71;go_wp2
 go_loopg [7,12] k (fun kq v7 v12 w' => ∃ (x7_1:Int) (x12_1:Int),v7 = .int .i64 x7_1∧v12 = .int .i64 x12_1∧Aside0 (align_may.l0 kq l0 a1 a2 x7_1 l0 (l0.length:Int) x12_1=some r)∧Aside0 (kq≤k)∧Aside0 (Below w.heap.size w w'))
 (case atStart=>exact ⟨((-1)),(0),rs_,rs_,H',⟨Nat.le_refl _⟩,⟨bel_⟩⟩)
 case round =>
  clear H';(try clear p2);obtain ⟨x7_1,x12_1,rfl,rfl,HA,HK1,HB⟩:=hrel
  cases gk with
  | zero=>exact absurd HA.out (by simp [align_may.l0])
  | succ k1 =>
   have H:=HA.out;clear HA;(simp only [align_may.l0] at H)
   by_cases c4:x12_1 < (l0.length:Int)
   ·
    (rw [if_pos c4] at H);have c4b0:decide (x12_1 < (l0.length:Int))=true:=decide_eq_true c4;clear c4
    by_cases c5:0≤x12_1
    ·
     (rw [if_pos c5] at H);have c5b0:decide (0≤x12_1)=true:=decide_eq_true c5;clear c5
     by_cases c6:x12_1 < (l0.length:Int)
     ·
      (rw [if_pos c6] at H);have c6b0:decide (x12_1 < (l0.length:Int))=true:=decide_eq_true c6;clear c6
      by_cases c7:(rd l0 x12_1) < (-1)
      (· (rw [if_pos c7] at H);have c7b0:decide ((rd l0 x12_1) < (-1))=true:=decide_eq_true c7;clear c7;obtain rfl:=Option.some.inj H;have p101:0≤(x12_1:Int):=dt_;have q101:x12_1 < (l0.length:Int):=dt_;obtain ⟨ad101,e101,hx101_0⟩:=Kd.at_int HR0.out x12_1 p101 q101;cases e101;replace hx101_0:=(HB.out.cell (World.block_lt_of_cell? w _ hx101_0)).trans hx101_0;replace p101:=eq_true p101;replace q101:=eq_true q101;go_wp2;go_ret;exact ⟨by first | rfl | (simp [errW_none,errW_some] <;> rfl) | (simp [*,errW_none,errW_some] <;> rfl),bel_⟩)
      ·
       (rw [if_neg c7] at H);have c7b0:decide ((rd l0 x12_1) < (-1))=false:=decide_eq_false c7;clear c7
       by_cases c8:(rd l0 x12_1) ≥ a2
       (· (rw [if_pos c8] at H);have c8b0:decide (a2≤(rd l0 x12_1))=true:=decide_eq_true c8;clear c8;obtain rfl:=Option.some.inj H;have p101:0≤(x12_1:Int):=dt_;have q101:x12_1 < (l0.length:Int):=dt_;obtain ⟨ad101,e101,hx101_0⟩:=Kd.at_int HR0.out x12_1 p101 q101;cases e101;replace hx101_0:=(HB.out.cell (World.block_lt_of_cell? w _ hx101_0)).trans hx101_0;replace p101:=eq_true p101;replace q101:=eq_true q101;go_wp2;go_ret;exact ⟨by first | rfl | (simp [errW_none,errW_some] <;> rfl) | (simp [*,errW_none,errW_some] <;> rfl),bel_⟩)
       ·
        (rw [if_neg c8] at H);have c8b0:decide (a2≤(rd l0 x12_1))=false:=decide_eq_false c8;clear c8
        by_cases c9:(rd l0 x12_1) ≥ 0
        ·
         (rw [if_pos c9] at H);have c9b0:decide (0≤(rd l0 x12_1))=true:=decide_eq_true c9;clear c9
         by_cases c10:(rd l0 x12_1)≤x7_1
         (· (rw [if_pos c10] at H);have c10b0:decide ((rd l0 x12_1)≤x7_1)=true:=decide_eq_true c10;clear c10;obtain rfl:=Option.some.inj H;have p101:0≤(x12_1:Int):=dt_;have q101:x12_1 < (l0.length:Int):=dt_;obtain ⟨ad101,e101,hx101_0⟩:=Kd.at_int HR0.out x12_1 p101 q101;cases e101;replace hx101_0:=(HB.out.cell (World.block_lt_of_cell? w _ hx101_0)).trans hx101_0;replace p101:=eq_true p101;replace q101:=eq_true q101;go_wp2;go_ret;exact ⟨by first | rfl | (simp [errW_none,errW_some] <;> rfl) | (simp [*,errW_none,errW_some] <;> rfl),bel_⟩)
         ·
          (rw [if_neg c10] at H);have c10b0:decide ((rd l0 x12_1)≤x7_1)=false:=decide_eq_false c10;clear c10;obtain ⟨ji11,hji11⟩ : ∃ j_:Int,(mx x7_1 (rd l0 x12_1))=j_:=⟨_,rfl⟩;(replace H:(align_may.l0 k1 l0 a1 a2 ji11 l0 (l0.length:Int) (wrap64 (x12_1+1)))=some r:=by first | (rw [hji11] at H;exact H) | (simp only [hji11] at H ⊢;exact H));have hji11_:(if x7_1 < (rd l0 x12_1) then (rd l0 x12_1) else x7_1)=ji11:=hji11;have H':=Aside0.mk H;clear H;have p101:0≤(x12_1:Int):=dt_;have q101:x12_1 < (l0.length:Int):=dt_;obtain ⟨ad101,e101,hx101_0⟩:=Kd.at_int HR0.out x12_1 p101 q101;cases e101;replace hx101_0:=(HB.out.cell (World.block_lt_of_cell? w _ hx101_0)).trans hx101_0;replace p101:=eq_true p101;replace q101:=eq_true q101;go_wp2
          go_roundg k1
          (case measure=>have:=HK1.out;omega);(case rel=>exact ⟨(ji11),(wrap64 (x12_1+1)),(by first | rfl | (simp;done) | (simp only [← hji11] <;> (first | rfl | simp)) | (simp [*];done)),rs_,H',⟨by have:=HK1.out;omega⟩,⟨bel_⟩⟩)
        ·
         (rw [if_neg c9] at H);have c9b0:decide (0≤(rd l0 x12_1))=false:=decide_eq_false c9;clear c9;obtain ⟨ji12,hji12⟩ : ∃ j_:Int,(mx x7_1 (rd l0 x12_1))=j_:=⟨_,rfl⟩;(replace H:(align_may.l0 k1 l0 a1 a2 ji12 l0 (l0.length:Int) (wrap64 (x12_1+1)))=some r:=by first | (rw [hji12] at H;exact H) | (simp only [hji12] at H ⊢;exact H));have hji12_:(if x7_1 < (rd l0 x12_1) then (rd l0 x12_1) else x7_1)=ji12:=hji12;have H':=Aside0.mk H;clear H;have p101:0≤(x12_1:Int):=dt_;have q101:x12_1 < (l0.length:Int):=dt_;obtain ⟨ad101,e101,hx101_0⟩:=Kd.at_int HR0.out x12_1 p101 q101;cases e101;replace hx101_0:=(HB.out.cell (World.block_lt_of_cell? w _ hx101_0)).trans hx101_0;replace p101:=eq_true p101;replace q101:=eq_true q101;go_wp2
         go_roundg k1
         (case measure=>have:=HK1.out;omega);(case rel=>exact ⟨(ji12),(wrap64 (x12_1+1)),(by first | rfl | (simp;done) | (simp only [← hji12] <;> (first | rfl | simp)) | (simp [*];done)),rs_,H',⟨by have:=HK1.out;omega⟩,⟨bel_⟩⟩)
     (· (rw [if_neg c6] at H);exact absurd H (by simp))
    (· (rw [if_neg c5] at H);exact absurd H (by simp))
   ·
    (rw [if_neg c4] at H);have c4b0:decide (x12_1 < (l0.length:Int))=false:=decide_eq_false c4;clear c4
    by_cases c13:(l0.length:Int)=a1
    (· (rw [if_pos c13] at H);have c13b0:((l0.length:Int) == a1)=true:=beq_iff_eq.mpr c13;have c13b1:((l0.length:Int) != a1)=false:=bne_eq_false_iff_eq.mpr c13;clear c13;obtain rfl:=Option.some.inj H;go_wp2;go_ret;exact ⟨by first | rfl | (simp [errW_none,errW_some] <;> rfl) | (simp [*,errW_none,errW_some] <;> rfl),bel_⟩);(· (rw [if_neg c13] at H);have c13b0:((l0.length:Int) == a1)=false:=beq_eq_false_iff_ne.mpr c13;have c13b1:((l0.length:Int) != a1)=true:=bne_iff_ne.mpr c13;obtain rfl:=Option.some.inj H;go_wp2;go_ret;exact ⟨by first | rfl | (simp [errW_none,errW_some] <;> rfl) | (simp [*,errW_none,errW_some] <;> rfl),bel_⟩)
def sennitref02_Id.l0:Nat→List ByteArray→ByteArray→Int→Option (List ByteArray × Int)
  | 0,_,_,_=>none
  | k+1,x0,x1,x6=>if x6 < (x0.length:Int) then (if 0≤x6 then (if (rdOf ByteArray.empty x0 x6).toList=x1.toList then (some (x0,x6)) else (sennitref02_Id.l0 k x0 x1 (wrap64 (x6+1)))) else (none)) else ((some (([]:List ByteArray):List ByteArray)).bind fun y237=>(if y237.length+x0.length < 8796093022208 then ((some (y237 ++ x0:List ByteArray)).bind fun y240=>(if y240.length < 8796093022208 then (some ((y240 ++ [x1]),(x0.length:Int))) else (none))) else (none)))
def sennitref02_Id.f (k:Nat) (l0:List ByteArray) (a1:ByteArray):Option (List ByteArray × Int):=sennitref02_Id.l0 k l0 a1 0
set_option maxHeartbeats 8000000 in
set_option maxRecDepth 100000 in
theorem sennitref02_Id.calls (k:Nat) (P0_:Nat→Prop) (u9000_:Value) (l0:List ByteArray) (a1:ByteArray) (r1:List ByteArray) (r2:Int) (w0 w:World) (hB:Below w0.heap.size w0 w) (ho0:Kd.R Kd.string 9 w w0.heap.size P0_ u9000_ l0) (h:sennitref02_Id.f k l0 a1=some (r1,r2)) :
    Calls Tryz.prog 78 #[u9000_, .string a1] w fun e w' => ∃ v0_:Value,e = .returned (.tuple #[v0_, .int .i64 r2])∧Kd.R Kd.string 9 w' w0.heap.size (fun k_=>(P0_ k_∨w.heap.size≤k_)) v0_ r1∧Below w0.heap.size w0 w'∧Kept w w' (fun k_=>P0_ k_):=by
 have HO0:=Aside0.mk (show Kd.R Kd.string 9 w w0.heap.size (fun k_=>(P0_ k_∨w.heap.size≤k_)) u9000_ l0 from Kd.R_mono ho0 (fun k_ hk=>(.inl hk)));have HK:=Aside0.mk (Kept.refl w (fun k_=>P0_ k_));have HW0:=Aside0.mk hB.size;have HB:=Aside0.mk hB;clear hB;have H:(sennitref02_Id.l0 k l0 a1 0)=some (r1,r2):=h;clear h;have H':=Aside0.mk H;clear H;go_enter Tryz.func78,Tryz.ntmps78;go_wp2
 go_loopg [6] k (fun kq v6 w' => ∃ (x6_1:Int),v6 = .int .i64 x6_1∧Aside0 (sennitref02_Id.l0 kq l0 a1 x6_1=some (r1,r2))∧Aside0 (kq≤k)∧Aside0 (Kd.R Kd.string 9 w' w0.heap.size (fun k_=>(P0_ k_∨w.heap.size≤k_)) u9000_ l0)∧Aside0 (Kept w w' (fun k_=>P0_ k_))∧Aside0 (Below w0.heap.size w0 w'))
 (case atStart=>exact ⟨(0),rs_,H',⟨Nat.le_refl _⟩,⟨pR_ HO0.out⟩,⟨by repeat (first | (with_reducible first | exact HK.out | apply Kept.alloc | apply Kept.drewN | apply Kept.drew) | exact HK.out)⟩,⟨bel_⟩⟩)
 case round =>
  clear H';(try clear p2);obtain ⟨x6_1,rfl,HA,HK1,HO_0,HK,HB⟩:=hrel
  cases gk with
  | zero=>exact absurd HA.out (by simp [sennitref02_Id.l0])
  | succ k1 =>
   have H:=HA.out;clear HA;(simp only [sennitref02_Id.l0] at H)
   by_cases c3:x6_1 < (l0.length:Int)
   ·
    (rw [if_pos c3] at H);have c3b0:decide (x6_1 < (l0.length:Int))=true:=decide_eq_true c3;clear c3
    by_cases c4:0≤x6_1
    ·
     (rw [if_pos c4] at H);have c4b0:decide (0≤x6_1)=true:=decide_eq_true c4;clear c4
     by_cases c5:(rdOf ByteArray.empty l0 x6_1).toList=a1.toList
     (· (rw [if_pos c5] at H);have c5b0:((rdOf ByteArray.empty l0 x6_1).toList == a1.toList)=true:=beq_iff_eq.mpr c5;have c5b1:((rdOf ByteArray.empty l0 x6_1).toList != a1.toList)=false:=bne_eq_false_iff_eq.mpr c5;clear c5;(simp only [Option.some.injEq,Prod.mk.injEq] at H);obtain ⟨rfl,rfl⟩:=H;obtain ⟨Ao6,co6,eo6⟩:=Kd.R_slice HO_0.out;subst eo6;have p236:0≤(x6_1:Int):=dt_;have q236:x6_1 < (l0.length:Int):=dt_;obtain ⟨ad236,e236,hx236_0⟩:=Kd.at_string (Kd.R_reads' HO_0.out).2.2 x6_1 p236 q236;cases e236;replace p236:=eq_true p236;replace q236:=eq_true q236;go_wp2;go_ret2;exact ⟨_,by first | rfl | (simp [errW_none,errW_some] <;> rfl) | (simp [*,errW_none,errW_some] <;> rfl),by (with_reducible repeat (first | apply Kd.R_alloc | apply Kd.R_drewN | apply Kd.R_drew));exact HO_0.out,bel_,by repeat (first | (with_reducible first | exact HK.out | apply Kept.alloc | apply Kept.drewN | apply Kept.drew) | exact HK.out)⟩)
     ·
      (rw [if_neg c5] at H);have c5b0:((rdOf ByteArray.empty l0 x6_1).toList == a1.toList)=false:=beq_eq_false_iff_ne.mpr c5;have c5b1:((rdOf ByteArray.empty l0 x6_1).toList != a1.toList)=true:=bne_iff_ne.mpr c5;have H':=Aside0.mk H;clear H;obtain ⟨Ao7,co7,eo7⟩:=Kd.R_slice HO_0.out;subst eo7;have p236:0≤(x6_1:Int):=dt_;have q236:x6_1 < (l0.length:Int):=dt_;obtain ⟨ad236,e236,hx236_0⟩:=Kd.at_string (Kd.R_reads' HO_0.out).2.2 x6_1 p236 q236;cases e236;replace p236:=eq_true p236;replace q236:=eq_true q236;go_wp2
      go_roundg k1
      (case measure=>have:=HK1.out;omega);(case rel=>exact ⟨(wrap64 (x6_1+1)),rs_,H',⟨by have:=HK1.out;omega⟩,⟨pR_ HO_0.out⟩,⟨by repeat (first | (with_reducible first | exact HK.out | apply Kept.alloc | apply Kept.drewN | apply Kept.drew) | exact HK.out)⟩,⟨bel_⟩⟩)
    (· (rw [if_neg c4] at H);exact absurd H (by simp))
   ·
    (rw [if_neg c3] at H);have c3b0:decide (x6_1 < (l0.length:Int))=false:=decide_eq_false c3;clear c3;obtain ⟨y237,hy237⟩ : ∃ y_:List ByteArray,y_=(([]:List ByteArray)):=⟨_,rfl⟩;(replace H:(if y237.length+l0.length < 8796093022208 then ((some (y237 ++ l0:List ByteArray)).bind fun y240=>(if y240.length < 8796093022208 then (some ((y240 ++ [a1]),(l0.length:Int))) else (none))) else (none))=some (r1,r2):=by first | (rw [hy237];with_reducible exact H) | (have H2_:=(Option.bind_some _ _).symm.trans H;rw [hy237];with_reducible exact H2_) | (have H2_:=(Option.bind_some _ _).symm.trans H;with_reducible exact H2_) | with_reducible exact H | (rw [hy237];exact H) | exact H);have Ny237:=Aside0.mk hy237;clear hy237
    by_cases c8:y237.length+l0.length < 8796093022208
    ·
     (rw [if_pos c8] at H);have LMc8:=Aside0.mk c8;clear c8;obtain ⟨y240,hy240⟩ : ∃ y_:List ByteArray,y_=(y237 ++ l0):=⟨_,rfl⟩;(replace H:(if y240.length < 8796093022208 then (some ((y240 ++ [a1]),(l0.length:Int))) else (none))=some (r1,r2):=by first | (rw [hy240];with_reducible exact H) | (have H2_:=(Option.bind_some _ _).symm.trans H;rw [hy240];with_reducible exact H2_) | (have H2_:=(Option.bind_some _ _).symm.trans H;with_reducible exact H2_) | with_reducible exact H | (rw [hy240];exact H) | exact H);have Ny240:=Aside0.mk hy240;clear hy240
     by_cases c9:y240.length < 8796093022208
     (· (rw [if_pos c9] at H);have LMc9:=Aside0.mk c9;clear c9;obtain ⟨y243,hy243⟩ : ∃ y_:List ByteArray,y_=(y240 ++ [a1]):=⟨_,rfl⟩;(replace H:(some (y243,(l0.length:Int)))=some (r1,r2):=by first | (rw [hy243];with_reducible exact H) | (have H2_:=(Option.bind_some _ _).symm.trans H;rw [hy243];with_reducible exact H2_) | (have H2_:=(Option.bind_some _ _).symm.trans H;with_reducible exact H2_) | with_reducible exact H | (rw [hy243];exact H) | exact H);have Ny243:=Aside0.mk hy243;clear hy243;(simp only [Option.some.injEq,Prod.mk.injEq] at H);obtain ⟨rfl,rfl⟩:=H;obtain ⟨Ao10,co10,eo10⟩:=Kd.R_slice HO_0.out;subst eo10;(go_wp2_with (first | ((with_reducible refine gate_dst (N:=22) rfl ?_);refine Kd.R_lit Kd.string _ 9 ?hg (N:=22) ?hd (xs:=([]:List ByteArray)) (inner:=[]) (ok:=fun _=>True) (okp:=fun _=>True) ?hr ?hp (fun _ hk=>hk) trivial (Below.refl _ _) (Nat.le_refl _) (by simp) ?_;(case hd=>rfl);(case hg=>rfl);(case hr=>first | (go_simp;done) | (go_simp;rfl));(case hp=>exact (Reps.none _ _));intro v238 w11 ho12 hb hg_ hnew_;clear hg_ hnew_;(first | rw [← Ny237.out] at ho12 | (simp only [Int.reduceToNat] at ho12;rw [← Ny237.out] at ho12));have n0_:=Aside0.mk (Kd.R_elder' (pR_ HO_0.out) (Kd.R_base ho12) hb);have n1_:=Aside0.mk (Kd.R_lower (Kd.R_new' (Kd.R_newM (M:=fun k_=>(P0_ k_∨w.heap.size≤k_)) ho12 (by first | exact HK.out.1 | exact (show Kept w _ (fun k_=>P0_ k_) from by repeat (first | (with_reducible first | exact HK.out | apply Kept.alloc | apply Kept.drewN | apply Kept.drew) | exact HK.out)).1) (fun k_ h_ => .inr h_)) (Kd.R_lt (pR_ HO_0.out))) (below_size bel_));have n2_:=Aside0.mk (Kept.below (S:=(fun k_=>P0_ k_)) (by repeat (first | (with_reducible first | exact HK.out | apply Kept.alloc | apply Kept.drewN | apply Kept.drew) | exact HK.out)) hb);have n3_:=Aside0.mk (below_step bel_ hb);clear HO_0;clear HK;clear HB;have HO_0:=n0_;have HO239:=n1_;have HK:=n2_;have HB:=n3_;clear n0_ n1_ n2_ n3_;clear hb ho12) | ((with_reducible refine gate_builtin (b := .append) (xs:=#[.tmp 22, .tmp 23]) rfl ?_);at_builtin;refine Kd.R_append_rows Kd.string (w0:=w0) w0.heap.size rfl (.tmp 22) (.tmp 23) 22 9 (.string ⟨#[]⟩) 16 rfl Tryz.underlying22 info9 rfl (by decide) (by omega) v238 y237 l0 _ _ _ (fun k_=>(P0_ k_∨w.heap.size≤k_)∧some k_≠(.slice Ao10 l0.length co10:Value).ownBlock) (fun _=>False) rfl rfl ?aO ?aR (fun _ _ h=>h) (fun _ h=>h.elim) ?aF ?aB ?aS ?aL ?_;(case aR=>repeat (first | exact (Kd.R_reads' HO_0.out).2.2 | (with_reducible refine Kd.C_alloc ?_ _) | (with_reducible refine Kd.C_drewN ?_ _) | (with_reducible refine Kd.C_drew ?_)));(case aB=>exact bel_);(case aF=>exact (fun k_ hk=>⟨(.inr (Nat.le_trans (by first | exact HK.out.1 | exact (show Kept w _ (fun k_=>P0_ k_) from by repeat (first | (with_reducible first | exact HK.out | apply Kept.alloc | apply Kept.drewN | apply Kept.drew) | exact HK.out)).1) hk)),Kd.fresh' (Kd.R_lt (pR_ HO_0.out)) k_ hk⟩));(case aO=>exact (by (with_reducible repeat (first | apply Kd.R_alloc | apply Kd.R_drewN | apply Kd.R_drew));exact Kd.R_mono HO239.out (fun _ hk=>⟨hk.1.1,hk.2⟩)));(case aS=>exact (below_size bel_));(case aL=>have:=LMc8.out;omega);intro v241 w13 ho hb hg hat;rw [← Ny240.out] at ho;have n0_:=Aside0.mk (Kd.R_after (ok:=(fun k_=>(P0_ k_∨w.heap.size≤k_))) (pR_ HO_0.out) hg hat);have n1_:=Aside0.mk (hb);have n2_:=Aside0.mk (Kept.of_grown (S:=(fun k_=>P0_ k_)) hg (by repeat (first | (with_reducible first | exact HK.out | apply Kept.alloc | apply Kept.drewN | apply Kept.drew) | exact HK.out)) (fun k_ e_=>(HO239.out.1 k_ e_).1.1));have n3_:=Aside0.mk (ho);clear HO_0;clear HB;clear HK;clear HO239;have HO_0:=n0_;have HB:=n1_;have HK:=n2_;have HO242:=n3_;clear n0_ n1_ n2_ n3_;clear ho hb hg hat) | ((with_reducible refine gate_builtin (b := .append) (xs:=#[.tmp 25, .tmp 27]) rfl ?_);at_builtin;refine Kd.R_append Kd.string (w0:=w0) w0.heap.size rfl (.tmp 25) (.tmp 27) 22 9 (.string ⟨#[]⟩) 16 rfl Tryz.underlying22 info9 rfl (by decide) (by omega) v241 y240 a1 [.string a1] (fun k_=>(P0_ k_∨w.heap.size≤k_)∧some k_≠(.slice Ao10 l0.length co10:Value).ownBlock) (fun _=>False) rfl rfl ?aP (fun _ hk=>hk.elim) ?aF ?aO ?aB ?aS ?aL ?_;(case aP=>exact rfl);(case aB=>exact bel_);(case aF=>exact (fun k_ hk=>⟨(.inr (Nat.le_trans (by first | exact HK.out.1 | exact (show Kept w _ (fun k_=>P0_ k_) from by repeat (first | (with_reducible first | exact HK.out | apply Kept.alloc | apply Kept.drewN | apply Kept.drew) | exact HK.out)).1) hk)),Kd.fresh' (Kd.R_lt (pR_ HO_0.out)) k_ hk⟩));(case aO=>exact (pR_ HO242.out));(case aS=>exact (below_size bel_));(case aL=>have:=LMc9.out;omega);intro v244 w14 ho hb hg hat;rw [← Ny243.out] at ho;have n0_:=Aside0.mk (Kd.R_after (ok:=(fun k_=>(P0_ k_∨w.heap.size≤k_))) (pR_ HO_0.out) hg hat);have n1_:=Aside0.mk (hb);have n2_:=Aside0.mk (Kept.of_grown (S:=(fun k_=>P0_ k_)) hg (by repeat (first | (with_reducible first | exact HK.out | apply Kept.alloc | apply Kept.drewN | apply Kept.drew) | exact HK.out)) (fun k_ e_=>(HO242.out.1 k_ e_).1));have n3_:=Aside0.mk (ho);clear HO_0;clear HB;clear HK;clear HO242;have HO_0:=n0_;have HB:=n1_;have HK:=n2_;have HO245:=n3_;clear n0_ n1_ n2_ n3_;clear ho hb hg hat)));go_ret2;exact ⟨_,by first | rfl | (simp [errW_none,errW_some] <;> rfl) | (simp [*,errW_none,errW_some] <;> rfl),by (with_reducible repeat (first | apply Kd.R_alloc | apply Kd.R_drewN | apply Kd.R_drew));exact Kd.R_mono HO245.out (fun _ hk=>hk.1),bel_,by repeat (first | (with_reducible first | exact HK.out | apply Kept.alloc | apply Kept.drewN | apply Kept.drew) | exact HK.out)⟩)
     (· (rw [if_neg c9] at H);exact absurd H (by simp))
    (· (rw [if_neg c8] at H);exact absurd H (by simp))
mutual
def sennitref02_All.l0:Nat→List (List ByteArray)→List (List Int)→List ByteArray→Int→Option ((List (List Int)))
  | 0,_,_,_,_=>none
  | k+1,x0,x3,x4,x5=>if x5 < (x0.length:Int) then (sennitref02_All.l1 k x0 x3 x4 x5 ([]:List Int) 0) else (some x3)
def sennitref02_All.l1:Nat→List (List ByteArray)→List (List Int)→List ByteArray→Int→List Int→Int→Option ((List (List Int)))
  | 0,_,_,_,_,_,_=>none
  | k+1,x0,x3,x4,x5,x6,x7=>if 0≤x5 then (if x5 < (x0.length:Int) then (if x7 < ((rd_L1 x0 x5).length:Int) then (if 0≤x7 then ((sennitref02_Id.f k x4 (rdOf ByteArray.empty (rd_L1 x0 x5) x7)).bind fun bt249=>(if x6.length < 17592186044416 then (sennitref02_All.l1 k x0 x3 bt249.1 x5 (x6 ++ [bt249.2]) (wrap64 (x7+1))) else (none))) else (none)) else (if x3.length < 5864062014805 then (sennitref02_All.l0 k x0 (x3 ++ [x6]) x4 (wrap64 (x5+1))) else (none))) else (none)) else (none)
end
def sennitref02_All.f (k:Nat) (l0:List (List ByteArray)):Option ((List (List Int))):=sennitref02_All.l0 k l0 ([]:List (List Int)) ([]:List ByteArray) 0
set_option maxHeartbeats 8000000 in
set_option maxRecDepth 100000 in
theorem sennitref02_All.calls (k:Nat) (A0:Option Addr) (c0:Nat) (l0:List (List ByteArray)) (r:List (List Int)) (w:World) (hr0:Kd.C (Kd.slice 9 Kd.string) w A0 l0.length l0) (hc0:l0.length≤c0) (h:sennitref02_All.f k l0=some r) :
    Calls Tryz.prog 40 #[.slice A0 l0.length c0] w fun e w' => ∃ v0_:Value,e = .returned (v0_)∧Kd.S (Kd.slice 3 (Kd.int .i64)) 72 w' w.heap.size (fun _=>True) v0_ r∧Below w.heap.size w w':=by
 have HR0:=Aside0.mk hr0;have HC0:=Aside0.mk hc0;clear hr0 hc0;have HB:=Aside0.mk (Below.refl w.heap.size w);have H:(sennitref02_All.l0 k l0 ([]:List (List Int)) ([]:List ByteArray) 0)=some r:=h;clear h;have H':=Aside0.mk H;clear H;go_enter Tryz.func40,Tryz.ntmps40;go_wp2
 go_loopg [3,4,5] k (fun kq v3 v4 v5 w' => ∃ (x3_1:List (List Int)) (x4_1:List ByteArray) (x5_1:Int),v5 = .int .i64 x5_1∧Aside0 (sennitref02_All.l0 kq l0 x3_1 x4_1 x5_1=some r)∧Aside0 (kq≤k)∧Aside0 (Kd.S (Kd.slice 3 (Kd.int .i64)) 72 w' w.heap.size (fun _=>True) v3 x3_1)∧Aside0 (Kd.R Kd.string 9 w' w.heap.size (fun _=>True) v4 x4_1)∧Aside0 (Below w.heap.size w w'))
 (case atStart=>exact ⟨(([]:List (List Int))),(([]:List ByteArray)),(0),rs_,H',⟨Nat.le_refl _⟩,⟨by first | exact Kd.S_nil _ _ _ _ _ | exact Kd.N_nil _ _ _ _ _ | exact Kd.V_nil _ _ _ _ _ | exact Kd.Q_nil _ _ _ _ _ | exact Kd.R_nil _ _ _ _ _⟩,⟨by first | exact Kd.R_nil _ _ _ _ _ | exact Kd.N_nil _ _ _ _ _ | exact Kd.V_nil _ _ _ _ _ | exact Kd.Q_nil _ _ _ _ _ | exact Kd.S_nil _ _ _ _ _⟩,⟨bel_⟩⟩)
 case round =>
  clear H';obtain ⟨x3_1,x4_1,x5_1,rfl,HA,HK1,HO_3,HO_4,HB⟩:=hrel
  cases gk with
  | zero=>exact absurd HA.out (by simp [sennitref02_All.l0])
  | succ k1 =>
   have H:=HA.out;clear HA;(simp only [sennitref02_All.l0] at H)
   by_cases c2:x5_1 < (l0.length:Int)
   ·
    (rw [if_pos c2] at H);have c2b0:decide (x5_1 < (l0.length:Int))=true:=decide_eq_true c2;clear c2;have H':=Aside0.mk H;clear H;go_wp2
    go_loopg [4,6,7] k1 (fun kq v4 v6 v7 w' => ∃ (x4_2:List ByteArray) (x6_2:List Int) (x7_2:Int),v7 = .int .i64 x7_2∧Aside0 (sennitref02_All.l1 kq l0 x3_1 x4_2 x5_1 x6_2 x7_2=some r)∧Aside0 (kq≤k1)∧Aside0 (Kd.S (Kd.slice 3 (Kd.int .i64)) 72 w' w.heap.size (fun k_=>some k_≠(v6:Value).ownBlock) u3 x3_1)∧Aside0 (Kd.R Kd.string 9 w' w.heap.size (fun _=>True) v4 x4_2)∧Aside0 (Kd.R (Kd.int .i64) 3 w' w.heap.size (fun _=>True) v6 x6_2)∧Aside0 (Below w.heap.size w w'))
    (case atStart=>exact ⟨(x4_1),(([]:List Int)),(0),rs_,H',⟨Nat.le_refl _⟩,⟨by (with_reducible repeat (first | apply Kd.S_alloc | apply Kd.S_drewN | apply Kd.S_drew));exact Kd.S_mono HO_3.out (fun _ hk=>(by simp [Value.ownBlock]))⟩,⟨pR_ HO_4.out⟩,⟨by first | exact Kd.R_nil _ _ _ _ _ | exact Kd.N_nil _ _ _ _ _ | exact Kd.V_nil _ _ _ _ _ | exact Kd.Q_nil _ _ _ _ _ | exact Kd.S_nil _ _ _ _ _⟩,⟨bel_⟩⟩)
    case round =>
     clear H';(try clear c2);(try clear c2b0);(try clear p2);obtain ⟨x4_2,x6_2,x7_2,rfl,HA,HK2,HO_3,HO_4,HO_6,HB⟩:=hrel
     cases gk with
     | zero=>exact absurd HA.out (by simp [sennitref02_All.l1])
     | succ k2 =>
      have H:=HA.out;clear HA;(simp only [sennitref02_All.l1] at H)
      by_cases c3:0≤x5_1
      ·
       (rw [if_pos c3] at H);have c3b0:decide (0≤x5_1)=true:=decide_eq_true c3;clear c3
       by_cases c4:x5_1 < (l0.length:Int)
       ·
        (rw [if_pos c4] at H);have c4b0:decide (x5_1 < (l0.length:Int))=true:=decide_eq_true c4;clear c4
        by_cases c5:x7_2 < ((rd_L1 l0 x5_1).length:Int)
        ·
         (rw [if_pos c5] at H);have c5b0:decide (x7_2 < ((rd_L1 l0 x5_1).length:Int))=true:=decide_eq_true c5;clear c5
         by_cases c6:0≤x7_2
         ·
          (rw [if_pos c6] at H);have c6b0:decide (0≤x7_2)=true:=decide_eq_true c6;clear c6;replace H:=Option.bind_eq_some_iff.mp H;obtain ⟨⟨t249,t252⟩,A70,H⟩:=H;replace H:(if x6_2.length < 17592186044416 then (sennitref02_All.l1 k2 l0 x3_1 t249 x5_1 (x6_2 ++ [t252]) (wrap64 (x7_2+1))) else (none))=some r:=H;have A7:=Aside0.mk A70;clear A70
          by_cases c8:x6_2.length < 17592186044416
          ·
           (rw [if_pos c8] at H);have LMc8:=Aside0.mk c8;clear c8;obtain ⟨y253,hy253⟩ : ∃ y_:List Int,y_=(x6_2 ++ [t252]):=⟨_,rfl⟩;(replace H:(sennitref02_All.l1 k2 l0 x3_1 t249 x5_1 y253 (wrap64 (x7_2+1)))=some r:=by first | (rw [hy253];with_reducible exact H) | (have H2_:=(Option.bind_some _ _).symm.trans H;rw [hy253];with_reducible exact H2_) | (have H2_:=(Option.bind_some _ _).symm.trans H;with_reducible exact H2_) | with_reducible exact H | (rw [hy253];exact H) | exact H);have Ny253:=Aside0.mk hy253;clear hy253;have H':=Aside0.mk H;clear H;have p246:0≤(x5_1:Int):=dt_;have q246:x5_1 < (l0.length:Int):=dt_;obtain ⟨ad246,A246_0,c246_0,e246,hx246_0,hl246_0,hi246_0⟩:=at_L1 HR0.out x5_1 p246 q246;cases e246;replace hx246_0:=(HB.out.cell (World.block_lt_of_cell? w _ hx246_0)).trans hx246_0;have HR246_0:=Aside0.mk hi246_0;have HC246_0:=Aside0.mk hl246_0;clear hi246_0 hl246_0;replace p246:=eq_true p246;replace q246:=eq_true q246;have p247:0≤(x5_1:Int):=dt_;have q247:x5_1 < (l0.length:Int):=dt_;obtain ⟨ad247,A247_0,c247_0,e247,hx247_0,hl247_0,hi247_0⟩:=at_L1 HR0.out x5_1 p247 q247;obtain rfl:ad246=ad247:=(by injection e247);replace hx247_0:=(HB.out.cell (World.block_lt_of_cell? w _ hx247_0)).trans hx247_0;have HR247_0:=Aside0.mk hi247_0;have HC247_0:=Aside0.mk hl247_0;clear hi247_0 hl247_0;replace p247:=eq_true p247;replace q247:=eq_true q247;have ea_:=Option.some.inj (hx246_0.symm.trans hx247_0);(injection ea_ with ea_ en_ ec_);subst ea_;subst ec_;clear en_;have p248:0≤(x7_2:Int):=dt_;have q248:x7_2 < ((rd_L1 l0 x5_1).length:Int):=dt_;obtain ⟨ad248,e248,hx248_0⟩:=Kd.at_string HR247_0.out x7_2 p248 q248;cases e248;replace hx248_0:=(HB.out.cell (World.block_lt_of_cell? w _ hx248_0)).trans hx248_0;replace p248:=eq_true p248;replace q248:=eq_true q248;obtain ⟨Ao9,co9,eo9⟩:=Kd.R_slice HO_4.out;subst eo9;(go_wp2_with (first | ((with_reducible refine gate_callee (f:=78) rfl ?_);refine goesL_ (some 34) rfl rfl Tryz.func78 (by kernel_rfl) rfl #[.slice Ao9 x4_2.length co9, .string (rdOf ByteArray.empty (rd_L1 l0 x5_1) x7_2)] rfl (by (try simp only [List.map_toArray,List.map_cons,List.map_nil]);first | done | rfl | (simp only [List.length_drop,List.length_take];rfl)) ?_;(with_reducible refine (sennitref02_Id.calls k2 (fun k_=>some k_=(.slice Ao9 x4_2.length co9:Value).ownBlock) (.slice Ao9 x4_2.length co9) x4_2 (rdOf ByteArray.empty (rd_L1 l0 x5_1) x7_2) t249 t252 w _ ?side1 ?side2 A7.out).mono ?_);(case side1=>repeat (first | (with_reducible first | exact HB.out | apply below_alloc | apply pw_below_drewN | apply below_drew1) | exact HB.out));(case side2=>exact Kd.R_tight rfl HO_4.out);rintro e w10 ⟨v250,rfl,ho0,hb,hkp⟩;refine ⟨_,rfl,?_⟩;have n0_:=Aside0.mk (Kd.S_mono (ok':=fun k_=>some k_≠(u6:Value).ownBlock) (Kd.S_keptB ((Kd.S_apart' HO_3.out (Kd.R_typed HO_4.out) (by decide))) hkp (fun k_ hk_ hs_=>(hk_.2) hs_)) (fun k_ hk_=>hk_.1.1));have n1_:=Aside0.mk (Kd.R_mono (ok':=fun k_=>True) (Kd.R_keptB ((Kd.R_apart' HO_6.out (Kd.R_typed HO_4.out) (by decide))) hkp (fun k_ hk_ hs_=>(hk_.2) hs_)) (fun k_ hk_=>trivial));have n2_:=Aside0.mk (Kd.R_mono (ok':=fun k_=>True) ho0 (fun k_ hk_=>trivial));have n3_:=Aside0.mk (hb);clear HO_3;clear HO_6;clear HB;clear HO_4;have HO_3:=n0_;have HO_6:=n1_;have HO251:=n2_;have HB:=n3_;clear n0_ n1_ n2_ n3_;(try clear hb);(try clear hkp);(try clear ho0)) | ((with_reducible refine gate_builtin (b := .append) (xs:=#[.tmp 38, .tmp 40]) rfl ?_);at_builtin;refine Kd.R_append (Kd.int .i64) (w0:=w) w.heap.size rfl (.tmp 38) (.tmp 40) 72 3 (.int .i64 0) 8 rfl Tryz.underlying72 info3 rfl (by decide) (by omega) u6 x6_2 t252 [.int .i64 t252] (fun _=>True) (fun _=>False) rfl rfl ?aP (fun _ hk=>hk.elim) ?aF ?aO ?aB ?aS ?aL ?_;(case aP=>exact rfl);(case aB=>exact bel_);(case aF=>exact (fun _ _=>trivial));(case aO=>exact (pR_ HO_6.out));(case aS=>exact (below_size bel_));(case aL=>have:=LMc8.out;omega);intro v254 w11 ho hb hg hat;rw [← Ny253.out] at ho;have n0_:=Aside0.mk (Kd.S_after (ok:=(fun _=>True)) (by (with_reducible repeat (first | apply Kd.S_alloc | apply Kd.S_drewN | apply Kd.S_drew));exact Kd.S_mono HO_3.out (fun _ hk=>⟨trivial,hk⟩)) hg hat);have n1_:=Aside0.mk (Kd.R_over' (pR_ HO251.out) (Kd.R_typed (pR_ HO_6.out)) (by decide) hg);have n2_:=Aside0.mk (hb);have n3_:=Aside0.mk (ho);clear HO_3;clear HO251;clear HB;clear HO_6;have HO_3:=n0_;have HO251:=n1_;have HB:=n2_;have HO255:=n3_;clear n0_ n1_ n2_ n3_;clear ho hb hg hat)))
           go_roundg k2
           (case measure=>have:=HK1.out;have:=HK2.out;omega);(case rel=>exact ⟨(t249),(y253),(wrap64 (x7_2+1)),rs_,H',⟨by have:=HK1.out;have:=HK2.out;omega⟩,⟨by (with_reducible repeat (first | apply Kd.S_alloc | apply Kd.S_drewN | apply Kd.S_drew));exact Kd.S_mono HO_3.out (fun _ hk=>hk.2)⟩,⟨pR_ HO251.out⟩,⟨pR_ HO255.out⟩,⟨bel_⟩⟩)
          (· (rw [if_neg c8] at H);exact absurd H (by simp))
         (· (rw [if_neg c6] at H);exact absurd H (by simp))
        ·
         (rw [if_neg c5] at H);have c5b0:decide (x7_2 < ((rd_L1 l0 x5_1).length:Int))=false:=decide_eq_false c5;clear c5
         by_cases c12:x3_1.length < 5864062014805
         ·
          (rw [if_pos c12] at H);have LMc12:=Aside0.mk c12;clear c12;obtain ⟨y256,hy256⟩ : ∃ y_:List (List Int),y_=(x3_1 ++ [x6_2]):=⟨_,rfl⟩;(replace H:(sennitref02_All.l0 k2 l0 y256 x4_2 (wrap64 (x5_1+1)))=some r:=by first | (rw [hy256];with_reducible exact H) | (have H2_:=(Option.bind_some _ _).symm.trans H;rw [hy256];with_reducible exact H2_) | (have H2_:=(Option.bind_some _ _).symm.trans H;with_reducible exact H2_) | with_reducible exact H | (rw [hy256];exact H) | exact H);have Ny256:=Aside0.mk hy256;clear hy256;have H':=Aside0.mk H;clear H;have p246:0≤(x5_1:Int):=dt_;have q246:x5_1 < (l0.length:Int):=dt_;obtain ⟨ad246,A246_0,c246_0,e246,hx246_0,hl246_0,hi246_0⟩:=at_L1 HR0.out x5_1 p246 q246;cases e246;replace hx246_0:=(HB.out.cell (World.block_lt_of_cell? w _ hx246_0)).trans hx246_0;have HR246_0:=Aside0.mk hi246_0;have HC246_0:=Aside0.mk hl246_0;clear hi246_0 hl246_0;replace p246:=eq_true p246;replace q246:=eq_true q246;obtain ⟨Ao14,co14,eo14⟩:=Kd.R_slice HO_6.out;subst eo14;(go_wp2_with (first | ((with_reducible refine gate_builtin (b := .append) (xs:=#[.tmp 42, .tmp 44]) rfl ?_);at_builtin;refine Kd.S_append (Kd.slice 3 (Kd.int .i64)) (w0:=w) w.heap.size rfl (.tmp 42) (.tmp 44) 70 72 (.slice none 0 0) 24 rfl Tryz.underlying70 info72 rfl (by decide) (by omega) u3 x3_1 x6_2 [.slice Ao14 x6_2.length co14] (fun _=>True) (fun k_=>some k_=(.slice Ao14 x6_2.length co14:Value).ownBlock) rfl rfl ?aP (fun k_ hk_=>((Kd.R_mono (ok':=fun k_=>((fun _=>True)) k_∧some k_≠(u3:Value).ownBlock) (Kd.R_apart' (HO_6.out) (Kd.S_typed HO_3.out) (by decide)) (fun k_ hk=>⟨trivial,hk.2⟩))).1 k_ hk_.symm) ?aF ?aO ?aB ?aS ?aL ?_;(case aP=>exact Kd.M_row (Kd.R_mono (Kd.R_tight rfl (Kd.R_mono (ok':=fun k_=>((fun _=>True)) k_∧some k_≠(u3:Value).ownBlock) (Kd.R_apart' (HO_6.out) (Kd.S_typed HO_3.out) (by decide)) (fun k_ hk=>⟨trivial,hk.2⟩))) (fun _ h_=>h_)));(case aB=>exact bel_);(case aF=>exact (fun _ _=>trivial));(case aO=>exact (by (with_reducible repeat (first | apply Kd.S_alloc | apply Kd.S_drewN | apply Kd.S_drew));exact Kd.S_mono HO_3.out (fun k_ hk=>⟨trivial,fun e_=>hk e_⟩)));(case aS=>exact (below_size bel_));(case aL=>have:=LMc12.out;omega);intro v257 w13 ho hb hg hat;rw [← Ny256.out] at ho;have n0_:=Aside0.mk (Kd.R_over' (pR_ HO_4.out) (Kd.S_typed (by (with_reducible repeat (first | apply Kd.S_alloc | apply Kd.S_drewN | apply Kd.S_drew));exact HO_3.out)) (by decide) hg);have n1_:=Aside0.mk (hb);have n2_:=Aside0.mk (ho);clear HO_4;clear HB;clear HO_3;clear HO_6;have HO_4:=n0_;have HB:=n1_;have HO258:=n2_;clear n0_ n1_ n2_;clear ho hb hg hat)))
          go_roundg k2
          (case measure=>have:=HK1.out;have:=HK2.out;omega);(case rel=>exact ⟨(y256),(x4_2),(wrap64 (x5_1+1)),rs_,H',⟨by have:=HK1.out;have:=HK2.out;omega⟩,⟨by (with_reducible repeat (first | apply Kd.S_alloc | apply Kd.S_drewN | apply Kd.S_drew));exact HO258.out⟩,⟨pR_ HO_4.out⟩,⟨bel_⟩⟩)
         (· (rw [if_neg c12] at H);exact absurd H (by simp))
       (· (rw [if_neg c4] at H);exact absurd H (by simp))
      (· (rw [if_neg c3] at H);exact absurd H (by simp))
   (· (rw [if_neg c2] at H);have c2b0:decide (x5_1 < (l0.length:Int))=false:=decide_eq_false c2;clear c2;obtain rfl:=Option.some.inj H;go_wp2;go_ret;exact ⟨_,by first | rfl | (simp [errW_none,errW_some] <;> rfl) | (simp [*,errW_none,errW_some] <;> rfl),by (with_reducible repeat (first | apply Kd.S_alloc | apply Kd.S_drewN | apply Kd.S_drew));exact HO_3.out,bel_⟩)
mutual
def sennitref01_Few.l0:Nat→List ByteArray→Int→Int→Option (Bool)
  | 0,_,_,_=>none
  | k+1,x0,x1,x5=>if x5 < (x0.length:Int) then (sennitref01_Few.j1 k x0 x1 x5 (decide (x5≤x1))) else (sennitref01_Few.j1 k x0 x1 x5 false)
def sennitref01_Few.j1:Nat→List ByteArray→Int→Int→Bool→Option (Bool)
  | 0,_,_,_,_=>none
  | k+1,x0,x1,x5,x14=>if x14=true then (if 0≤x5 then (if x5 < (x0.length:Int) then (if ((rdOf ByteArray.empty x0 x5).size:Int) > 100 then (some false) else (sennitref01_Few.l0 k x0 x1 (wrap64 (x5+1)))) else (none)) else (none)) else (some (decide ((x0.length:Int)≤x1)))
end
def sennitref01_Few.f (k:Nat) (l0:List ByteArray) (a1:Int):Option (Bool):=sennitref01_Few.l0 k l0 a1 0
set_option maxHeartbeats 8000000 in
set_option maxRecDepth 100000 in
theorem sennitref01_Few.calls (k:Nat) (A0:Option Addr) (c0:Nat) (l0:List ByteArray) (a1:Int) (r:Bool) (w:World) (hr0:Kd.C Kd.string w A0 l0.length l0) (hc0:l0.length≤c0) (h:sennitref01_Few.f k l0 a1=some r) :
    Calls Tryz.prog 32 #[.slice A0 l0.length c0, .int .i64 a1] w fun e w'=>e = .returned (.bool r)∧Drawn0 w w':=by
 have HR0:=Aside0.mk hr0;have HC0:=Aside0.mk hc0;clear hr0 hc0;have H:(sennitref01_Few.l0 k l0 a1 0)=some r:=h;clear h;have H':=Aside0.mk H;clear H;go_enter Tryz.func32,Tryz.ntmps32;go_wp2
 go_loopg [5] k (fun kq v5 w' => ∃ (x5_1:Int),v5 = .int .i64 x5_1∧Aside0 (sennitref01_Few.l0 kq l0 a1 x5_1=some r)∧Aside0 (kq≤k)∧Drawn0 w w')
 (case atStart=>exact ⟨(0),rs_,H',⟨Nat.le_refl _⟩,d0_⟩)
 case round =>
  clear H';(try clear p2);obtain ⟨x5_1,rfl,HA,HK1,⟨m1,rfl⟩⟩:=hrel
  cases gk with
  | zero=>exact absurd HA.out (by simp [sennitref01_Few.l0])
  | succ k1 =>
   have H:=HA.out;clear HA;(simp only [sennitref01_Few.l0] at H);have HC3:=Aside0.mk H;clear H
   go_upto_region 2 with (fail)
   go_cut [14] (fun v14 wc => ∃ (kq:Nat) (x14_2:Bool),v14 = .bool x14_2∧Aside0 (sennitref01_Few.j1 kq l0 a1 x5_1 x14_2=some r)∧Aside0 (kq≤k1)∧Drawn0 w wc)
   case first =>
    have H:=HC3.out;clear HC3
    by_cases c4:x5_1 < (l0.length:Int)
    ·
     (rw [if_pos c4] at H);have c4b0:decide (x5_1 < (l0.length:Int))=true:=decide_eq_true c4;clear c4;(first | rw [c4b0] | (simp only [i64_w,i32_w];rw [c4b0]) | skip);have H':=Aside0.mk H;clear H;go_wp2
     go_meet
     (case rel=>exact ⟨_,(decide (x5_1≤a1)),rs_,H',⟨by have:=HK1.out;first | omega | exact Nat.le_refl _⟩,d0_⟩)
    ·
     (rw [if_neg c4] at H);have c4b0:decide (x5_1 < (l0.length:Int))=false:=decide_eq_false c4;clear c4;(first | rw [c4b0] | (simp only [i64_w,i32_w];rw [c4b0]) | skip);have H':=Aside0.mk H;clear H;go_wp2
     go_meet
     (case rel=>exact ⟨_,(false),rs_,H',⟨by have:=HK1.out;first | omega | exact Nat.le_refl _⟩,d0_⟩)
   case rest =>
    clear HC3;(try clear p2);(try clear c3);(try clear c4);(try clear c4b0);(try clear p2);obtain ⟨kq,x14_2,rfl,HA,HJ2,⟨mc2,rfl⟩⟩:=hcut
    cases kq with
    | zero=>exact absurd HA.out (by simp [sennitref01_Few.j1])
    | succ kj2 =>
     have H:=HA.out;clear HA;(simp only [sennitref01_Few.j1] at H)
     by_cases c5:x14_2=true
     ·
      subst c5;(have H1:(if 0≤x5_1 then (if x5_1 < (l0.length:Int) then (if ((rdOf ByteArray.empty l0 x5_1).size:Int) > 100 then (some false) else (sennitref01_Few.l0 kj2 l0 a1 (wrap64 (x5_1+1)))) else (none)) else (none))=some r:=by rw [if_pos rfl] at H;exact H);clear H;have H:=H1;clear H1
      by_cases c6:0≤x5_1
      ·
       (rw [if_pos c6] at H);have c6b0:decide (0≤x5_1)=true:=decide_eq_true c6;clear c6
       by_cases c7:x5_1 < (l0.length:Int)
       ·
        (rw [if_pos c7] at H);have c7b0:decide (x5_1 < (l0.length:Int))=true:=decide_eq_true c7;clear c7
        by_cases c8:((rdOf ByteArray.empty l0 x5_1).size:Int) > 100
        (· (rw [if_pos c8] at H);have c8b0:decide (100 < ((rdOf ByteArray.empty l0 x5_1).size:Int))=true:=decide_eq_true c8;have c8b1:decide (100 < (rdOf ByteArray.empty l0 x5_1).size)=true:=decide_eq_true (by omega);clear c8;obtain rfl:=Option.some.inj H;have p101:0≤(x5_1:Int):=dt_;have q101:x5_1 < (l0.length:Int):=dt_;obtain ⟨ad101,e101,hx101_0⟩:=Kd.at_string HR0.out x5_1 p101 q101;cases e101;replace p101:=eq_true p101;replace q101:=eq_true q101;go_wp2;go_ret;exact ⟨by first | rfl | (simp;done) | (simp [*];done),d0_⟩)
        ·
         (rw [if_neg c8] at H);have c8b0:decide (100 < ((rdOf ByteArray.empty l0 x5_1).size:Int))=false:=decide_eq_false c8;have c8b1:decide (100 < (rdOf ByteArray.empty l0 x5_1).size)=false:=decide_eq_false (by omega);clear c8;have H':=Aside0.mk H;clear H;have p101:0≤(x5_1:Int):=dt_;have q101:x5_1 < (l0.length:Int):=dt_;obtain ⟨ad101,e101,hx101_0⟩:=Kd.at_string HR0.out x5_1 p101 q101;cases e101;replace p101:=eq_true p101;replace q101:=eq_true q101;go_wp2
         go_roundg kj2
         (case measure=>have:=HK1.out;have:=HJ2.out;omega);(case rel=>exact ⟨(wrap64 (x5_1+1)),rs_,H',⟨by have:=HK1.out;have:=HJ2.out;omega⟩,d0_⟩)
       (· (rw [if_neg c7] at H);exact absurd H (by simp))
      (· (rw [if_neg c6] at H);exact absurd H (by simp))
     (· replace c5:=Bool.eq_false_iff.mpr c5;subst c5;(have H1:(some (decide ((l0.length:Int)≤a1)))=some r:=by rw [if_neg (show ¬ (false=true) by decide)] at H;exact H);clear H;have H:=H1;clear H1;obtain rfl:=Option.some.inj H;go_wp2;go_ret;exact ⟨by first | rfl | (simp;done) | (simp [*];done),d0_⟩)
mutual
def sennitref08_Few.l0:Nat→List ByteArray→List (List ByteArray)→Int→Option (Bool)
  | 0,_,_,_=>none
  | k+1,x0,x1,x5=>if x5 < (x1.length:Int) then (sennitref08_Few.j1 k x0 x1 x5 (decide (x5 < 7))) else (sennitref08_Few.j1 k x0 x1 x5 false)
def sennitref08_Few.j1:Nat→List ByteArray→List (List ByteArray)→Int→Bool→Option (Bool)
  | 0,_,_,_,_=>none
  | k+1,x0,x1,x5,x13=>if x13=true then (if 0≤x5 then (if x5 < (x1.length:Int) then ((sennitref01_Few.f k (rd_L1 x1 x5) 16).bind fun t103=>(if t103=true then (sennitref08_Few.l0 k x0 x1 (wrap64 (x5+1))) else (some false))) else (none)) else (none)) else ((sennitref01_Few.f k x0 16).bind fun t104=>(if t104=true then (some (decide ((x1.length:Int)≤6))) else (some false)))
end
def sennitref08_Few.f (k:Nat) (l0:List ByteArray) (l1:List (List ByteArray)):Option (Bool):=sennitref08_Few.l0 k l0 l1 0
set_option maxHeartbeats 8000000 in
set_option maxRecDepth 100000 in
theorem sennitref08_Few.calls (k:Nat) (A0:Option Addr) (c0:Nat) (l0:List ByteArray) (A1:Option Addr) (c1:Nat) (l1:List (List ByteArray)) (r:Bool) (w:World) (hr0:Kd.C Kd.string w A0 l0.length l0) (hc0:l0.length≤c0) (hr1:Kd.C (Kd.slice 9 Kd.string) w A1 l1.length l1) (hc1:l1.length≤c1) (h:sennitref08_Few.f k l0 l1=some r) :
    Calls Tryz.prog 14 #[.slice A0 l0.length c0, .slice A1 l1.length c1] w fun e w'=>e = .returned (.bool r)∧Drawn0 w w':=by
 have HR0:=Aside0.mk hr0;have HC0:=Aside0.mk hc0;clear hr0 hc0;have HR1:=Aside0.mk hr1;have HC1:=Aside0.mk hc1;clear hr1 hc1;have H:(sennitref08_Few.l0 k l0 l1 0)=some r:=h;clear h;have H':=Aside0.mk H;clear H;go_enter Tryz.func14,Tryz.ntmps14;go_wp2
 go_loopg [5] k (fun kq v5 w' => ∃ (x5_1:Int),v5 = .int .i64 x5_1∧Aside0 (sennitref08_Few.l0 kq l0 l1 x5_1=some r)∧Aside0 (kq≤k)∧Drawn0 w w')
 (case atStart=>exact ⟨(0),rs_,H',⟨Nat.le_refl _⟩,d0_⟩)
 case round =>
  clear H';(try clear c1);(try clear p2);obtain ⟨x5_1,rfl,HA,HK1,⟨m1,rfl⟩⟩:=hrel
  cases gk with
  | zero=>exact absurd HA.out (by simp [sennitref08_Few.l0])
  | succ k1 =>
   have H:=HA.out;clear HA;(simp only [sennitref08_Few.l0] at H);have HC3:=Aside0.mk H;clear H
   go_upto_region 2 with (fail)
   go_cut [13] (fun v13 wc => ∃ (kq:Nat) (x13_2:Bool),v13 = .bool x13_2∧Aside0 (sennitref08_Few.j1 kq l0 l1 x5_1 x13_2=some r)∧Aside0 (kq≤k1)∧Drawn0 w wc)
   case first =>
    have H:=HC3.out;clear HC3
    by_cases c4:x5_1 < (l1.length:Int)
    ·
     (rw [if_pos c4] at H);have c4b0:decide (x5_1 < (l1.length:Int))=true:=decide_eq_true c4;clear c4;(first | rw [c4b0] | (simp only [i64_w,i32_w];rw [c4b0]) | skip);have H':=Aside0.mk H;clear H;go_wp2
     go_meet
     (case rel=>exact ⟨_,(decide (x5_1 < 7)),rs_,H',⟨by have:=HK1.out;first | omega | exact Nat.le_refl _⟩,d0_⟩)
    ·
     (rw [if_neg c4] at H);have c4b0:decide (x5_1 < (l1.length:Int))=false:=decide_eq_false c4;clear c4;(first | rw [c4b0] | (simp only [i64_w,i32_w];rw [c4b0]) | skip);have H':=Aside0.mk H;clear H;go_wp2
     go_meet
     (case rel=>exact ⟨_,(false),rs_,H',⟨by have:=HK1.out;first | omega | exact Nat.le_refl _⟩,d0_⟩)
   case rest =>
    clear HC3;(try clear c1);(try clear p2);(try clear c4);(try clear c4b0);(try clear p2);obtain ⟨kq,x13_2,rfl,HA,HJ2,⟨mc2,rfl⟩⟩:=hcut
    cases kq with
    | zero=>exact absurd HA.out (by simp [sennitref08_Few.j1])
    | succ kj2 =>
     have H:=HA.out;clear HA;(simp only [sennitref08_Few.j1] at H)
     by_cases c5:x13_2=true
     ·
      subst c5;(have H1:(if 0≤x5_1 then (if x5_1 < (l1.length:Int) then ((sennitref01_Few.f kj2 (rd_L1 l1 x5_1) 16).bind fun t103=>(if t103=true then (sennitref08_Few.l0 kj2 l0 l1 (wrap64 (x5_1+1))) else (some false))) else (none)) else (none))=some r:=by rw [if_pos rfl] at H;exact H);clear H;have H:=H1;clear H1
      by_cases c6:0≤x5_1
      ·
       (rw [if_pos c6] at H);have c6b0:decide (0≤x5_1)=true:=decide_eq_true c6;clear c6
       by_cases c7:x5_1 < (l1.length:Int)
       ·
        (rw [if_pos c7] at H);have c7b0:decide (x5_1 < (l1.length:Int))=true:=decide_eq_true c7;clear c7;replace H:=Option.bind_eq_some_iff.mp H;obtain ⟨t103,A80,H⟩:=H;replace H:(if t103=true then (sennitref08_Few.l0 kj2 l0 l1 (wrap64 (x5_1+1))) else (some false))=some r:=H;have A8:=Aside0.mk A80;clear A80
        by_cases c9:t103=true
        ·
         subst c9;(have H1:(sennitref08_Few.l0 kj2 l0 l1 (wrap64 (x5_1+1)))=some r:=by rw [if_pos rfl] at H;exact H);clear H;have H:=H1;clear H1;have H':=Aside0.mk H;clear H;have p102:0≤(x5_1:Int):=dt_;have q102:x5_1 < (l1.length:Int):=dt_;obtain ⟨ad102,A102_0,c102_0,e102,hx102_0,hl102_0,hi102_0⟩:=at_L1 HR1.out x5_1 p102 q102;cases e102;have HR102_0:=Aside0.mk hi102_0;have HC102_0:=Aside0.mk hl102_0;clear hi102_0 hl102_0;replace p102:=eq_true p102;replace q102:=eq_true q102;(go_wp2_with (first | ((with_reducible refine gate_callee (f:=32) rfl ?_);refine goesL_ (some 20) rfl rfl Tryz.func32 (by kernel_rfl) rfl #[.slice A102_0 (rd_L1 l1 x5_1).length c102_0, .int .i64 16] rfl (by (try simp only [List.map_toArray,List.map_cons,List.map_nil]);first | done | rfl | (simp only [List.length_drop,List.length_take];rfl)) ?_;(with_reducible refine (sennitref01_Few.calls kj2 _ _ (rd_L1 l1 x5_1) 16 true _ ?side1 ?side2 A8.out).mono ?_);(case side1=>repeat (first | exact HR102_0.out | (with_reducible refine Kd.C_alloc ?_ _) | (with_reducible refine Kd.C_drewN ?_ _) | (with_reducible refine Kd.C_drew ?_)));(case side2=>exact HC102_0.out);rintro e w' ⟨rfl,⟨nd,rfl⟩⟩;refine ⟨_,rfl,?_⟩)))
         go_roundg kj2
         (case measure=>have:=HK1.out;have:=HJ2.out;omega);(case rel=>exact ⟨(wrap64 (x5_1+1)),rs_,H',⟨by have:=HK1.out;have:=HJ2.out;omega⟩,d0_⟩)
        (· replace c9:=Bool.eq_false_iff.mpr c9;subst c9;(have H1:(some false)=some r:=by rw [if_neg (show ¬ (false=true) by decide)] at H;exact H);clear H;have H:=H1;clear H1;obtain rfl:=Option.some.inj H;have p102:0≤(x5_1:Int):=dt_;have q102:x5_1 < (l1.length:Int):=dt_;obtain ⟨ad102,A102_0,c102_0,e102,hx102_0,hl102_0,hi102_0⟩:=at_L1 HR1.out x5_1 p102 q102;cases e102;have HR102_0:=Aside0.mk hi102_0;have HC102_0:=Aside0.mk hl102_0;clear hi102_0 hl102_0;replace p102:=eq_true p102;replace q102:=eq_true q102;(go_wp2_with (first | ((with_reducible refine gate_callee (f:=32) rfl ?_);refine goesL_ (some 20) rfl rfl Tryz.func32 (by kernel_rfl) rfl #[.slice A102_0 (rd_L1 l1 x5_1).length c102_0, .int .i64 16] rfl (by (try simp only [List.map_toArray,List.map_cons,List.map_nil]);first | done | rfl | (simp only [List.length_drop,List.length_take];rfl)) ?_;(with_reducible refine (sennitref01_Few.calls kj2 _ _ (rd_L1 l1 x5_1) 16 false _ ?side1 ?side2 A8.out).mono ?_);(case side1=>repeat (first | exact HR102_0.out | (with_reducible refine Kd.C_alloc ?_ _) | (with_reducible refine Kd.C_drewN ?_ _) | (with_reducible refine Kd.C_drew ?_)));(case side2=>exact HC102_0.out);rintro e w' ⟨rfl,⟨nd,rfl⟩⟩;refine ⟨_,rfl,?_⟩)));go_ret;exact ⟨by first | rfl | (simp;done) | (simp [*];done),d0_⟩)
       (· (rw [if_neg c7] at H);exact absurd H (by simp))
      (· (rw [if_neg c6] at H);exact absurd H (by simp))
     ·
      replace c5:=Bool.eq_false_iff.mpr c5;subst c5;(have H1:((sennitref01_Few.f kj2 l0 16).bind fun t104=>(if t104=true then (some (decide ((l1.length:Int)≤6))) else (some false)))=some r:=by rw [if_neg (show ¬ (false=true) by decide)] at H;exact H);clear H;have H:=H1;clear H1;replace H:=Option.bind_eq_some_iff.mp H;obtain ⟨t104,A100,H⟩:=H;replace H:(if t104=true then (some (decide ((l1.length:Int)≤6))) else (some false))=some r:=H;have A10:=Aside0.mk A100;clear A100
      by_cases c11:t104=true
      (· subst c11;(have H1:(some (decide ((l1.length:Int)≤6)))=some r:=by rw [if_pos rfl] at H;exact H);clear H;have H:=H1;clear H1;obtain rfl:=Option.some.inj H;(go_wp2_with (first | ((with_reducible refine gate_callee (f:=32) rfl ?_);refine goesL_ (some 23) rfl rfl Tryz.func32 (by kernel_rfl) rfl #[.slice A0 l0.length c0, .int .i64 16] rfl (by (try simp only [List.map_toArray,List.map_cons,List.map_nil]);first | done | rfl | (simp only [List.length_drop,List.length_take];rfl)) ?_;(with_reducible refine (sennitref01_Few.calls kj2 _ _ l0 16 true _ ?side1 ?side2 A10.out).mono ?_);(case side1=>repeat (first | exact HR0.out | (with_reducible refine Kd.C_alloc ?_ _) | (with_reducible refine Kd.C_drewN ?_ _) | (with_reducible refine Kd.C_drew ?_)));(case side2=>exact HC0.out);rintro e w' ⟨rfl,⟨nd,rfl⟩⟩;refine ⟨_,rfl,?_⟩)));go_ret;exact ⟨by first | rfl | (simp;done) | (simp [*];done),d0_⟩);(· replace c11:=Bool.eq_false_iff.mpr c11;subst c11;(have H1:(some false)=some r:=by rw [if_neg (show ¬ (false=true) by decide)] at H;exact H);clear H;have H:=H1;clear H1;obtain rfl:=Option.some.inj H;(go_wp2_with (first | ((with_reducible refine gate_callee (f:=32) rfl ?_);refine goesL_ (some 23) rfl rfl Tryz.func32 (by kernel_rfl) rfl #[.slice A0 l0.length c0, .int .i64 16] rfl (by (try simp only [List.map_toArray,List.map_cons,List.map_nil]);first | done | rfl | (simp only [List.length_drop,List.length_take];rfl)) ?_;(with_reducible refine (sennitref01_Few.calls kj2 _ _ l0 16 false _ ?side1 ?side2 A10.out).mono ?_);(case side1=>repeat (first | exact HR0.out | (with_reducible refine Kd.C_alloc ?_ _) | (with_reducible refine Kd.C_drewN ?_ _) | (with_reducible refine Kd.C_drew ?_)));(case side2=>exact HC0.out);rintro e w' ⟨rfl,⟨nd,rfl⟩⟩;refine ⟨_,rfl,?_⟩)));go_ret;exact ⟨by first | rfl | (simp;done) | (simp [*];done),d0_⟩)
def sennitref01_feeds.l0:Nat→ByteArray→Int→Int→Option (Int)
  | 0,_,_,_=>none
  | k+1,x0,x3,x4=>if x4 < (x0.size:Int) then (if 0≤x4 then (if (bt x0 x4)=10 then (sennitref01_feeds.l0 k x0 (wrap64 (x3+1)) (wrap64 (x4+1))) else (sennitref01_feeds.l0 k x0 x3 (wrap64 (x4+1)))) else (none)) else (some x3)
def sennitref01_feeds.f (k:Nat) (a0:ByteArray):Option (Int):=sennitref01_feeds.l0 k a0 0 0
set_option maxHeartbeats 8000000 in
set_option maxRecDepth 100000 in
theorem sennitref01_feeds.calls (k:Nat) (a0:ByteArray) (r:Int) (w:World) (h:sennitref01_feeds.f k a0=some r) :
    Calls Tryz.prog 54 #[.string a0] w fun e w'=>e = .returned (.int .i64 r)∧Drawn0 w w':=by
 have H:(sennitref01_feeds.l0 k a0 0 0)=some r:=h;clear h;have H':=Aside0.mk H;clear H;go_enter Tryz.func54,Tryz.ntmps54;go_wp2
 go_loopg [3,4] k (fun kq v3 v4 w' => ∃ (x3_1:Int) (x4_1:Int),v3 = .int .i64 x3_1∧v4 = .int .i64 x4_1∧Aside0 (sennitref01_feeds.l0 kq a0 x3_1 x4_1=some r)∧Aside0 (kq≤k)∧Drawn0 w w')
 (case atStart=>exact ⟨(0),(0),rs_,rs_,H',⟨Nat.le_refl _⟩,d0_⟩)
 case round =>
  clear H';obtain ⟨x3_1,x4_1,rfl,rfl,HA,HK1,⟨m1,rfl⟩⟩:=hrel
  cases gk with
  | zero=>exact absurd HA.out (by simp [sennitref01_feeds.l0])
  | succ k1 =>
   have H:=HA.out;clear HA;(simp only [sennitref01_feeds.l0] at H)
   by_cases c2:x4_1 < (a0.size:Int)
   ·
    (rw [if_pos c2] at H);have c2b0:decide (x4_1 < (a0.size:Int))=true:=decide_eq_true c2;clear c2
    by_cases c3:0≤x4_1
    ·
     (rw [if_pos c3] at H);have c3b0:decide (0≤x4_1)=true:=decide_eq_true c3;clear c3
     by_cases c5:(bt a0 x4_1)=10
     ·
      (rw [if_pos c5] at H);have c5b0:((bt a0 x4_1) == 10)=true:=beq_iff_eq.mpr c5;have c5b1:((bt a0 x4_1) != 10)=false:=bne_eq_false_iff_eq.mpr c5;clear c5;have H':=Aside0.mk H;clear H;have p4:0≤(x4_1:Int):=dt_;have q4:x4_1 < (a0.size:Int):=dt_;have hx4:=bt_at a0 x4_1;replace p4:=eq_true p4;replace q4:=eq_true q4;go_wp2
      go_roundg k1
      (case measure=>have:=HK1.out;omega);(case rel=>exact ⟨(wrap64 (x3_1+1)),(wrap64 (x4_1+1)),rs_,rs_,H',⟨by have:=HK1.out;omega⟩,d0_⟩)
     ·
      (rw [if_neg c5] at H);have c5b0:((bt a0 x4_1) == 10)=false:=beq_eq_false_iff_ne.mpr c5;have c5b1:((bt a0 x4_1) != 10)=true:=bne_iff_ne.mpr c5;have H':=Aside0.mk H;clear H;have p4:0≤(x4_1:Int):=dt_;have q4:x4_1 < (a0.size:Int):=dt_;have hx4:=bt_at a0 x4_1;replace p4:=eq_true p4;replace q4:=eq_true q4;go_wp2
      go_roundg k1
      (case measure=>have:=HK1.out;omega);(case rel=>exact ⟨(x3_1),(wrap64 (x4_1+1)),rs_,rs_,H',⟨by have:=HK1.out;omega⟩,d0_⟩)
    (· (rw [if_neg c3] at H);exact absurd H (by simp))
   (· (rw [if_neg c2] at H);have c2b0:decide (x4_1 < (a0.size:Int))=false:=decide_eq_false c2;clear c2;obtain rfl:=Option.some.inj H;go_wp2;go_ret;exact ⟨by first | rfl | (simp;done) | (simp [*];done),d0_⟩)
def sennitref01_Line.f (k:Nat) (a0:ByteArray):Option (Bool):=(sennitref01_feeds.f k a0).bind fun t105=>(if t105=1 then (if 0≤(wrap64 ((a0.size:Int) - 1)) then (if (wrap64 ((a0.size:Int) - 1)) < (a0.size:Int) then (some ((bt a0 (wrap64 ((a0.size:Int) - 1))) == 10)) else (none)) else (none)) else (some false))
set_option maxHeartbeats 8000000 in
set_option maxRecDepth 100000 in
theorem sennitref01_Line.calls (k:Nat) (a0:ByteArray) (r:Bool) (w:World) (h:sennitref01_Line.f k a0=some r) :
    Calls Tryz.prog 55 #[.string a0] w fun e w'=>e = .returned (.bool r)∧Drawn0 w w':=by
 have H:((sennitref01_feeds.f k a0).bind fun t105=>(if t105=1 then (if 0≤(wrap64 ((a0.size:Int) - 1)) then (if (wrap64 ((a0.size:Int) - 1)) < (a0.size:Int) then (some ((bt a0 (wrap64 ((a0.size:Int) - 1))) == 10)) else (none)) else (none)) else (some false)))=some r:=h;clear h;replace H:=Option.bind_eq_some_iff.mp H;obtain ⟨t105,A20,H⟩:=H;replace H:(if t105=1 then (if 0≤(wrap64 ((a0.size:Int) - 1)) then (if (wrap64 ((a0.size:Int) - 1)) < (a0.size:Int) then (some ((bt a0 (wrap64 ((a0.size:Int) - 1))) == 10)) else (none)) else (none)) else (some false))=some r:=H;have A2:=Aside0.mk A20;clear A20
 by_cases c3:t105=1
 ·
  (rw [if_pos c3] at H);have c3b0:(t105 == 1)=true:=beq_iff_eq.mpr c3;have c3b1:(t105 != 1)=false:=bne_eq_false_iff_eq.mpr c3;clear c3;obtain ⟨ji4,hji4⟩ : ∃ j_:Int,(wrap64 ((a0.size:Int) - 1))=j_:=⟨_,rfl⟩;(replace H:(if 0≤(ji4) then (if (ji4) < (a0.size:Int) then (some ((bt a0 (ji4)) == 10)) else (none)) else (none))=some r:=by first | (rw [hji4] at H;exact H) | (simp only [hji4] at H ⊢;exact H));(try rw [hji4] at A2);have hji4w:(IntKind.i64.wrap ((a0.size:Int) - 1))=ji4:=(i64_w _).trans hji4
  by_cases c5:0≤(ji4)
  ·
   (rw [if_pos c5] at H);have c5b0:decide (0≤(ji4))=true:=decide_eq_true c5;clear c5
   by_cases c6:(ji4) < (a0.size:Int)
   (· (rw [if_pos c6] at H);have c6b0:decide ((ji4) < (a0.size:Int))=true:=decide_eq_true c6;clear c6;obtain rfl:=Option.some.inj H;go_enter Tryz.func55,Tryz.ntmps55;(go_wp2_with (first | ((with_reducible refine gate_callee (f:=54) rfl ?_);refine goesL_ (some 4) rfl rfl Tryz.func54 (by kernel_rfl) rfl #[.string a0] rfl (by (try simp only [List.map_toArray,List.map_cons,List.map_nil]);first | done | rfl | (simp only [List.length_drop,List.length_take];rfl)) ?_;(with_reducible refine (sennitref01_feeds.calls k a0 t105 _ A2.out).mono ?_);rintro e w' ⟨rfl,⟨nd,rfl⟩⟩;refine ⟨_,rfl,?_⟩;have p7:0≤((ji4):Int):=dt_;have q7:(ji4) < (a0.size:Int):=dt_;have hx7:=bt_at a0 (ji4);replace p7:=eq_true p7;replace q7:=eq_true q7)));go_ret;exact ⟨by first | rfl | (simp;done) | (simp only [← hji4] <;> (first | rfl | simp)) | (simp [*];done),d0_⟩);(· (rw [if_neg c6] at H);exact absurd H (by simp))
  (· (rw [if_neg c5] at H);exact absurd H (by simp))
 (· (rw [if_neg c3] at H);have c3b0:(t105 == 1)=false:=beq_eq_false_iff_ne.mpr c3;have c3b1:(t105 != 1)=true:=bne_iff_ne.mpr c3;obtain rfl:=Option.some.inj H;go_enter Tryz.func55,Tryz.ntmps55;(go_wp2_with (first | ((with_reducible refine gate_callee (f:=54) rfl ?_);refine goesL_ (some 4) rfl rfl Tryz.func54 (by kernel_rfl) rfl #[.string a0] rfl (by (try simp only [List.map_toArray,List.map_cons,List.map_nil]);first | done | rfl | (simp only [List.length_drop,List.length_take];rfl)) ?_;(with_reducible refine (sennitref01_feeds.calls k a0 t105 _ A2.out).mono ?_);rintro e w' ⟨rfl,⟨nd,rfl⟩⟩;refine ⟨_,rfl,?_⟩)));go_ret;exact ⟨by first | rfl | (simp;done) | (simp [*];done),d0_⟩)
def sennitref01_May.l0:Nat→List ByteArray→Int→Option (Bool)
  | 0,_,_=>none
  | k+1,x0,x3=>if x3 < (x0.length:Int) then (if x3=(wrap64 ((x0.length:Int) - 1)) then (if 0≤x3 then (if ((rdOf ByteArray.empty x0 x3).size:Int) > 0 then ((sennitref01_feeds.f k (rdOf ByteArray.empty x0 x3)).bind fun t108=>(if t108=0 then (sennitref01_May.l0 k x0 (wrap64 (x3+1))) else ((sennitref01_Line.f k (rdOf ByteArray.empty x0 x3)).bind fun t110=>(if t110=true then (sennitref01_May.l0 k x0 (wrap64 (x3+1))) else (some false))))) else ((sennitref01_Line.f k (rdOf ByteArray.empty x0 x3)).bind fun t112=>(if t112=true then (sennitref01_May.l0 k x0 (wrap64 (x3+1))) else (some false)))) else (none)) else (if 0≤x3 then ((sennitref01_Line.f k (rdOf ByteArray.empty x0 x3)).bind fun t114=>(if t114=true then (sennitref01_May.l0 k x0 (wrap64 (x3+1))) else (some false))) else (none))) else (some true)
def sennitref01_May.f (k:Nat) (l0:List ByteArray):Option (Bool):=sennitref01_May.l0 k l0 0
set_option maxHeartbeats 8000000 in
set_option maxRecDepth 100000 in
theorem sennitref01_May.calls (k:Nat) (A0:Option Addr) (c0:Nat) (l0:List ByteArray) (r:Bool) (w:World) (hr0:Kd.C Kd.string w A0 l0.length l0) (hc0:l0.length≤c0) (h:sennitref01_May.f k l0=some r) :
    Calls Tryz.prog 28 #[.slice A0 l0.length c0] w fun e w'=>e = .returned (.bool r)∧Drawn0 w w':=by
 have HR0:=Aside0.mk hr0;have HC0:=Aside0.mk hc0;clear hr0 hc0;have H:(sennitref01_May.l0 k l0 0)=some r:=h;clear h;have H':=Aside0.mk H;clear H;go_enter Tryz.func28,Tryz.ntmps28;go_wp2
 go_loopg [3] k (fun kq v3 w' => ∃ (x3_1:Int),v3 = .int .i64 x3_1∧Aside0 (sennitref01_May.l0 kq l0 x3_1=some r)∧Aside0 (kq≤k)∧Drawn0 w w')
 (case atStart=>exact ⟨(0),rs_,H',⟨Nat.le_refl _⟩,d0_⟩)
 case round =>
  clear H';obtain ⟨x3_1,rfl,HA,HK1,⟨m1,rfl⟩⟩:=hrel
  cases gk with
  | zero=>exact absurd HA.out (by simp [sennitref01_May.l0])
  | succ k1 =>
   have H:=HA.out;clear HA;(simp only [sennitref01_May.l0] at H)
   by_cases c2:x3_1 < (l0.length:Int)
   ·
    (rw [if_pos c2] at H);have c2b0:decide (x3_1 < (l0.length:Int))=true:=decide_eq_true c2;clear c2
    by_cases c3:x3_1=(wrap64 ((l0.length:Int) - 1))
    ·
     (rw [if_pos c3] at H);have c3b0:(x3_1 == (wrap64 ((l0.length:Int) - 1)))=true:=beq_iff_eq.mpr c3;have c3b1:(x3_1 != (wrap64 ((l0.length:Int) - 1)))=false:=bne_eq_false_iff_eq.mpr c3;clear c3
     by_cases c4:0≤x3_1
     ·
      (rw [if_pos c4] at H);have c4b0:decide (0≤x3_1)=true:=decide_eq_true c4;clear c4
      by_cases c5:((rdOf ByteArray.empty l0 x3_1).size:Int) > 0
      ·
       (rw [if_pos c5] at H);have c5b0:decide (0 < ((rdOf ByteArray.empty l0 x3_1).size:Int))=true:=decide_eq_true c5;have c5b1:decide (0 < (rdOf ByteArray.empty l0 x3_1).size)=true:=decide_eq_true (by omega);clear c5;replace H:=Option.bind_eq_some_iff.mp H;obtain ⟨t108,A60,H⟩:=H;replace H:(if t108=0 then (sennitref01_May.l0 k1 l0 (wrap64 (x3_1+1))) else ((sennitref01_Line.f k1 (rdOf ByteArray.empty l0 x3_1)).bind fun t110=>(if t110=true then (sennitref01_May.l0 k1 l0 (wrap64 (x3_1+1))) else (some false))))=some r:=H;have A6:=Aside0.mk A60;clear A60
       by_cases c7:t108=0
       ·
        (rw [if_pos c7] at H);have c7b0:(t108 == 0)=true:=beq_iff_eq.mpr c7;have c7b1:(t108 != 0)=false:=bne_eq_false_iff_eq.mpr c7;clear c7;have H':=Aside0.mk H;clear H;have p106:0≤(x3_1:Int):=dt_;have q106:x3_1 < (l0.length:Int):=dt_;obtain ⟨ad106,e106,hx106_0⟩:=Kd.at_string HR0.out x3_1 p106 q106;cases e106;replace p106:=eq_true p106;replace q106:=eq_true q106;have p107:0≤(x3_1:Int):=dt_;have q107:x3_1 < (l0.length:Int):=dt_;obtain ⟨ad107,e107,hx107_0⟩:=Kd.at_string HR0.out x3_1 p107 q107;obtain rfl:ad106=ad107:=(by injection e107);replace p107:=eq_true p107;replace q107:=eq_true q107;(go_wp2_with (first | (go_at_call 54;(with_reducible refine (sennitref01_feeds.calls k1 (rdOf ByteArray.empty l0 x3_1) t108 _ A6.out).mono ?_);rintro e w' ⟨rfl,⟨nd,rfl⟩⟩)))
        go_roundg k1
        (case measure=>have:=HK1.out;omega);(case rel=>exact ⟨(wrap64 (x3_1+1)),rs_,H',⟨by have:=HK1.out;omega⟩,d0_⟩)
       ·
        (rw [if_neg c7] at H);have c7b0:(t108 == 0)=false:=beq_eq_false_iff_ne.mpr c7;have c7b1:(t108 != 0)=true:=bne_iff_ne.mpr c7;replace H:=Option.bind_eq_some_iff.mp H;obtain ⟨t110,A80,H⟩:=H;replace H:(if t110=true then (sennitref01_May.l0 k1 l0 (wrap64 (x3_1+1))) else (some false))=some r:=H;have A8:=Aside0.mk A80;clear A80
        by_cases c9:t110=true
        ·
         subst c9;(have H1:(sennitref01_May.l0 k1 l0 (wrap64 (x3_1+1)))=some r:=by rw [if_pos rfl] at H;exact H);clear H;have H:=H1;clear H1;have H':=Aside0.mk H;clear H;have p106:0≤(x3_1:Int):=dt_;have q106:x3_1 < (l0.length:Int):=dt_;obtain ⟨ad106,e106,hx106_0⟩:=Kd.at_string HR0.out x3_1 p106 q106;cases e106;replace p106:=eq_true p106;replace q106:=eq_true q106;have p107:0≤(x3_1:Int):=dt_;have q107:x3_1 < (l0.length:Int):=dt_;obtain ⟨ad107,e107,hx107_0⟩:=Kd.at_string HR0.out x3_1 p107 q107;obtain rfl:ad106=ad107:=(by injection e107);replace p107:=eq_true p107;replace q107:=eq_true q107;(go_wp2_with (first | (go_at_call 54;(with_reducible refine (sennitref01_feeds.calls k1 (rdOf ByteArray.empty l0 x3_1) t108 _ A6.out).mono ?_);rintro e w' ⟨rfl,⟨nd,rfl⟩⟩;have p109:0≤(x3_1:Int):=dt_;have q109:x3_1 < (l0.length:Int):=dt_;obtain ⟨ad109,e109,hx109_0⟩:=Kd.at_string HR0.out x3_1 p109 q109;obtain rfl:ad106=ad109:=(by injection e109);replace p109:=eq_true p109;replace q109:=eq_true q109) | (go_at_call 55;(with_reducible refine (sennitref01_Line.calls k1 (rdOf ByteArray.empty l0 x3_1) true _ A8.out).mono ?_);rintro e w' ⟨rfl,⟨nd,rfl⟩⟩)))
         go_roundg k1
         (case measure=>have:=HK1.out;omega);(case rel=>exact ⟨(wrap64 (x3_1+1)),rs_,H',⟨by have:=HK1.out;omega⟩,d0_⟩)
        (· replace c9:=Bool.eq_false_iff.mpr c9;subst c9;(have H1:(some false)=some r:=by rw [if_neg (show ¬ (false=true) by decide)] at H;exact H);clear H;have H:=H1;clear H1;obtain rfl:=Option.some.inj H;have p106:0≤(x3_1:Int):=dt_;have q106:x3_1 < (l0.length:Int):=dt_;obtain ⟨ad106,e106,hx106_0⟩:=Kd.at_string HR0.out x3_1 p106 q106;cases e106;replace p106:=eq_true p106;replace q106:=eq_true q106;have p107:0≤(x3_1:Int):=dt_;have q107:x3_1 < (l0.length:Int):=dt_;obtain ⟨ad107,e107,hx107_0⟩:=Kd.at_string HR0.out x3_1 p107 q107;obtain rfl:ad106=ad107:=(by injection e107);replace p107:=eq_true p107;replace q107:=eq_true q107;(go_wp2_with (first | (go_at_call 54;(with_reducible refine (sennitref01_feeds.calls k1 (rdOf ByteArray.empty l0 x3_1) t108 _ A6.out).mono ?_);rintro e w' ⟨rfl,⟨nd,rfl⟩⟩;have p109:0≤(x3_1:Int):=dt_;have q109:x3_1 < (l0.length:Int):=dt_;obtain ⟨ad109,e109,hx109_0⟩:=Kd.at_string HR0.out x3_1 p109 q109;obtain rfl:ad106=ad109:=(by injection e109);replace p109:=eq_true p109;replace q109:=eq_true q109) | (go_at_call 55;(with_reducible refine (sennitref01_Line.calls k1 (rdOf ByteArray.empty l0 x3_1) false _ A8.out).mono ?_);rintro e w' ⟨rfl,⟨nd,rfl⟩⟩)));go_ret;exact ⟨by first | rfl | (simp;done) | (simp [*];done),d0_⟩)
      ·
       (rw [if_neg c5] at H);have c5b0:decide (0 < ((rdOf ByteArray.empty l0 x3_1).size:Int))=false:=decide_eq_false c5;have c5b1:decide (0 < (rdOf ByteArray.empty l0 x3_1).size)=false:=decide_eq_false (by omega);clear c5;replace H:=Option.bind_eq_some_iff.mp H;obtain ⟨t112,A100,H⟩:=H;replace H:(if t112=true then (sennitref01_May.l0 k1 l0 (wrap64 (x3_1+1))) else (some false))=some r:=H;have A10:=Aside0.mk A100;clear A100
       by_cases c11:t112=true
       ·
        subst c11;(have H1:(sennitref01_May.l0 k1 l0 (wrap64 (x3_1+1)))=some r:=by rw [if_pos rfl] at H;exact H);clear H;have H:=H1;clear H1;have H':=Aside0.mk H;clear H;have p106:0≤(x3_1:Int):=dt_;have q106:x3_1 < (l0.length:Int):=dt_;obtain ⟨ad106,e106,hx106_0⟩:=Kd.at_string HR0.out x3_1 p106 q106;cases e106;replace p106:=eq_true p106;replace q106:=eq_true q106;have p111:0≤(x3_1:Int):=dt_;have q111:x3_1 < (l0.length:Int):=dt_;obtain ⟨ad111,e111,hx111_0⟩:=Kd.at_string HR0.out x3_1 p111 q111;obtain rfl:ad106=ad111:=(by injection e111);replace p111:=eq_true p111;replace q111:=eq_true q111;(go_wp2_with (first | (go_at_call 55;(with_reducible refine (sennitref01_Line.calls k1 (rdOf ByteArray.empty l0 x3_1) true _ A10.out).mono ?_);rintro e w' ⟨rfl,⟨nd,rfl⟩⟩)))
        go_roundg k1
        (case measure=>have:=HK1.out;omega);(case rel=>exact ⟨(wrap64 (x3_1+1)),rs_,H',⟨by have:=HK1.out;omega⟩,d0_⟩)
       (· replace c11:=Bool.eq_false_iff.mpr c11;subst c11;(have H1:(some false)=some r:=by rw [if_neg (show ¬ (false=true) by decide)] at H;exact H);clear H;have H:=H1;clear H1;obtain rfl:=Option.some.inj H;have p106:0≤(x3_1:Int):=dt_;have q106:x3_1 < (l0.length:Int):=dt_;obtain ⟨ad106,e106,hx106_0⟩:=Kd.at_string HR0.out x3_1 p106 q106;cases e106;replace p106:=eq_true p106;replace q106:=eq_true q106;have p111:0≤(x3_1:Int):=dt_;have q111:x3_1 < (l0.length:Int):=dt_;obtain ⟨ad111,e111,hx111_0⟩:=Kd.at_string HR0.out x3_1 p111 q111;obtain rfl:ad106=ad111:=(by injection e111);replace p111:=eq_true p111;replace q111:=eq_true q111;(go_wp2_with (first | (go_at_call 55;(with_reducible refine (sennitref01_Line.calls k1 (rdOf ByteArray.empty l0 x3_1) false _ A10.out).mono ?_);rintro e w' ⟨rfl,⟨nd,rfl⟩⟩)));go_ret;exact ⟨by first | rfl | (simp;done) | (simp [*];done),d0_⟩)
     (· (rw [if_neg c4] at H);exact absurd H (by simp))
    ·
     (rw [if_neg c3] at H);have c3b0:(x3_1 == (wrap64 ((l0.length:Int) - 1)))=false:=beq_eq_false_iff_ne.mpr c3;have c3b1:(x3_1 != (wrap64 ((l0.length:Int) - 1)))=true:=bne_iff_ne.mpr c3
     by_cases c12:0≤x3_1
     ·
      (rw [if_pos c12] at H);have c12b0:decide (0≤x3_1)=true:=decide_eq_true c12;clear c12;replace H:=Option.bind_eq_some_iff.mp H;obtain ⟨t114,A130,H⟩:=H;replace H:(if t114=true then (sennitref01_May.l0 k1 l0 (wrap64 (x3_1+1))) else (some false))=some r:=H;have A13:=Aside0.mk A130;clear A130
      by_cases c14:t114=true
      ·
       subst c14;(have H1:(sennitref01_May.l0 k1 l0 (wrap64 (x3_1+1)))=some r:=by rw [if_pos rfl] at H;exact H);clear H;have H:=H1;clear H1;have H':=Aside0.mk H;clear H;have p113:0≤(x3_1:Int):=dt_;have q113:x3_1 < (l0.length:Int):=dt_;obtain ⟨ad113,e113,hx113_0⟩:=Kd.at_string HR0.out x3_1 p113 q113;cases e113;replace p113:=eq_true p113;replace q113:=eq_true q113;(go_wp2_with (first | (go_at_call 55;(with_reducible refine (sennitref01_Line.calls k1 (rdOf ByteArray.empty l0 x3_1) true _ A13.out).mono ?_);rintro e w' ⟨rfl,⟨nd,rfl⟩⟩)))
       go_roundg k1
       (case measure=>have:=HK1.out;omega);(case rel=>exact ⟨(wrap64 (x3_1+1)),rs_,H',⟨by have:=HK1.out;omega⟩,d0_⟩)
      (· replace c14:=Bool.eq_false_iff.mpr c14;subst c14;(have H1:(some false)=some r:=by rw [if_neg (show ¬ (false=true) by decide)] at H;exact H);clear H;have H:=H1;clear H1;obtain rfl:=Option.some.inj H;have p113:0≤(x3_1:Int):=dt_;have q113:x3_1 < (l0.length:Int):=dt_;obtain ⟨ad113,e113,hx113_0⟩:=Kd.at_string HR0.out x3_1 p113 q113;cases e113;replace p113:=eq_true p113;replace q113:=eq_true q113;(go_wp2_with (first | (go_at_call 55;(with_reducible refine (sennitref01_Line.calls k1 (rdOf ByteArray.empty l0 x3_1) false _ A13.out).mono ?_);rintro e w' ⟨rfl,⟨nd,rfl⟩⟩)));go_ret;exact ⟨by first | rfl | (simp;done) | (simp [*];done),d0_⟩)
     (· (rw [if_neg c12] at H);exact absurd H (by simp))
   (· (rw [if_neg c2] at H);have c2b0:decide (x3_1 < (l0.length:Int))=false:=decide_eq_false c2;clear c2;obtain rfl:=Option.some.inj H;go_wp2;go_ret;exact ⟨by first | rfl | (simp;done) | (simp [*];done),d0_⟩)
mutual
def sennitref08_wrong.j0:Nat→List ByteArray→List (List ByteArray)→Bool→Option (Int)
  | 0,_,_,_=>none
  | k+1,x0,x1,x15=>if x15=true then (some 1) else ((sennitref01_May.f k x0).bind fun t115=>(sennitref08_wrong.l0 k x1 t115 (decide ((x0.length:Int) > 2000)) 0))
def sennitref08_wrong.l0:Nat→List (List ByteArray)→Bool→Bool→Int→Option (Int)
  | 0,_,_,_,_=>none
  | k+1,x1,x5,x6,x7=>if x7 < (x1.length:Int) then (if x5=true then (if 0≤x7 then ((sennitref01_May.f k (rd_L1 x1 x7)).bind fun t117=>(if x6=true then (sennitref08_wrong.l0 k x1 t117 true (wrap64 (x7+1))) else (sennitref08_wrong.l0 k x1 t117 (decide (((rd_L1 x1 x7).length:Int) > 2000)) (wrap64 (x7+1))))) else (none)) else (if x6=true then (sennitref08_wrong.l0 k x1 false true (wrap64 (x7+1))) else (if 0≤x7 then (sennitref08_wrong.l0 k x1 false (decide (((rd_L1 x1 x7).length:Int) > 2000)) (wrap64 (x7+1))) else (none)))) else (if x5=true then (if x6=true then (some 4) else (some 0)) else (some 2))
end
def sennitref08_wrong.f (k:Nat) (l0:List ByteArray) (l1:List (List ByteArray)):Option (Int):=if (l1.length:Int)=0 then (sennitref08_wrong.j0 k l0 l1 true) else (sennitref08_wrong.j0 k l0 l1 (decide ((l1.length:Int) > 16)))
set_option maxHeartbeats 8000000 in
set_option maxRecDepth 100000 in
theorem sennitref08_wrong.calls (k:Nat) (A0:Option Addr) (c0:Nat) (l0:List ByteArray) (A1:Option Addr) (c1:Nat) (l1:List (List ByteArray)) (r:Int) (w:World) (hr0:Kd.C Kd.string w A0 l0.length l0) (hc0:l0.length≤c0) (hr1:Kd.C (Kd.slice 9 Kd.string) w A1 l1.length l1) (hc1:l1.length≤c1) (h:sennitref08_wrong.f k l0 l1=some r) :
    Calls Tryz.prog 39 #[.slice A0 l0.length c0, .slice A1 l1.length c1] w fun e w'=>e = .returned (.int .i64 r)∧Drawn0 w w':=by
 have HR0:=Aside0.mk hr0;have HC0:=Aside0.mk hc0;clear hr0 hc0;have HR1:=Aside0.mk hr1;have HC1:=Aside0.mk hc1;clear hr1 hc1;have H:(if (l1.length:Int)=0 then (sennitref08_wrong.j0 k l0 l1 true) else (sennitref08_wrong.j0 k l0 l1 (decide ((l1.length:Int) > 16))))=some r:=h;clear h;have HC3:=Aside0.mk H;clear H;go_enter Tryz.func39,Tryz.ntmps39
 go_upto_region 1 with (fail)
 go_cut [15] (fun v15 wc => ∃ (kq:Nat) (x15_2:Bool),v15 = .bool x15_2∧Aside0 (sennitref08_wrong.j0 kq l0 l1 x15_2=some r)∧Aside0 (kq≤k)∧Drawn0 w wc)
 case first =>
  have H:=HC3.out;clear HC3
  by_cases c4:(l1.length:Int)=0
  ·
   (rw [if_pos c4] at H);have c4b0:((l1.length:Int) == 0)=true:=beq_iff_eq.mpr c4;have c4b1:((l1.length:Int) != 0)=false:=bne_eq_false_iff_eq.mpr c4;clear c4;(first | rw [c4b0] | (simp only [i64_w,i32_w];rw [c4b0]) | skip);have H':=Aside0.mk H;clear H;go_wp2
   go_meet
   (case rel=>exact ⟨_,(true),rs_,H',⟨by first | omega | exact Nat.le_refl _⟩,d0_⟩)
  ·
   (rw [if_neg c4] at H);have c4b0:((l1.length:Int) == 0)=false:=beq_eq_false_iff_ne.mpr c4;have c4b1:((l1.length:Int) != 0)=true:=bne_iff_ne.mpr c4;(have c4b2 : ¬ (l1=[]):=fun h_=>c4 (by rw [h_];rfl));(first | rw [c4b0] | (simp only [i64_w,i32_w];rw [c4b0]) | skip);have H':=Aside0.mk H;clear H;go_wp2
   go_meet
   (case rel=>exact ⟨_,(decide ((l1.length:Int) > 16)),rs_,H',⟨by first | omega | exact Nat.le_refl _⟩,d0_⟩)
 case rest =>
  clear HC3;(try clear c1);(try clear p2);(try clear c3);(try clear c4);(try clear c4b0);(try clear c4b1);(try clear c4b2);obtain ⟨kq,x15_2,rfl,HA,HJ2,⟨mc2,rfl⟩⟩:=hcut
  cases kq with
  | zero=>exact absurd HA.out (by simp [sennitref08_wrong.j0])
  | succ kj2 =>
   have H:=HA.out;clear HA;(simp only [sennitref08_wrong.j0] at H)
   by_cases c5:x15_2=true
   (· subst c5;(have H1:(some 1)=some r:=by rw [if_pos rfl] at H;exact H);clear H;have H:=H1;clear H1;obtain rfl:=Option.some.inj H;go_wp2;go_ret;exact ⟨by first | rfl | (simp;done) | (simp [*];done),d0_⟩)
   ·
    replace c5:=Bool.eq_false_iff.mpr c5;subst c5;(have H1:((sennitref01_May.f kj2 l0).bind fun t115=>(sennitref08_wrong.l0 kj2 l1 t115 (decide ((l0.length:Int) > 2000)) 0))=some r:=by rw [if_neg (show ¬ (false=true) by decide)] at H;exact H);clear H;have H:=H1;clear H1;replace H:=Option.bind_eq_some_iff.mp H;obtain ⟨t115,A60,H⟩:=H;replace H:(sennitref08_wrong.l0 kj2 l1 t115 (decide ((l0.length:Int) > 2000)) 0)=some r:=H;have A6:=Aside0.mk A60;clear A60;have H':=Aside0.mk H;clear H;(go_wp2_with (first | ((with_reducible refine gate_callee (f:=28) rfl ?_);refine goesL_ (some 17) rfl rfl Tryz.func28 (by kernel_rfl) rfl #[.slice A0 l0.length c0] rfl (by (try simp only [List.map_toArray,List.map_cons,List.map_nil]);first | done | rfl | (simp only [List.length_drop,List.length_take];rfl)) ?_;(with_reducible refine (sennitref01_May.calls kj2 _ _ l0 t115 _ ?side1 ?side2 A6.out).mono ?_);(case side1=>repeat (first | exact HR0.out | (with_reducible refine Kd.C_alloc ?_ _) | (with_reducible refine Kd.C_drewN ?_ _) | (with_reducible refine Kd.C_drew ?_)));(case side2=>exact HC0.out);rintro e w' ⟨rfl,⟨nd,rfl⟩⟩;refine ⟨_,rfl,?_⟩)))
    go_loopg [5,6,7] kj2 (fun kq v5 v6 v7 w' => ∃ (x5_2:Bool) (x6_2:Bool) (x7_2:Int),v5 = .bool x5_2∧v6 = .bool x6_2∧v7 = .int .i64 x7_2∧Aside0 (sennitref08_wrong.l0 kq l1 x5_2 x6_2 x7_2=some r)∧Aside0 (kq≤kj2)∧Drawn0 w w')
    (case atStart=>exact ⟨(t115),(decide ((l0.length:Int) > 2000)),(0),rs_,rs_,rs_,H',⟨Nat.le_refl _⟩,d0_⟩)
    case round =>
     clear H';(try clear c1);(try clear c2);(try clear p2);(try clear c3);(try clear c4);(try clear c4b0);(try clear c4b1);(try clear c4b2);(try clear c5);(try clear p2);obtain ⟨x5_2,x6_2,x7_2,rfl,rfl,rfl,HA,HK2,⟨m2,rfl⟩⟩:=hrel
     cases gk with
     | zero=>exact absurd HA.out (by simp [sennitref08_wrong.l0])
     | succ k2 =>
      have H:=HA.out;clear HA;(simp only [sennitref08_wrong.l0] at H)
      by_cases c7:x7_2 < (l1.length:Int)
      ·
       (rw [if_pos c7] at H);have c7b0:decide (x7_2 < (l1.length:Int))=true:=decide_eq_true c7;clear c7
       by_cases c8:x5_2=true
       ·
        subst c8;(have H1:(if 0≤x7_2 then ((sennitref01_May.f k2 (rd_L1 l1 x7_2)).bind fun t117=>(if x6_2=true then (sennitref08_wrong.l0 k2 l1 t117 true (wrap64 (x7_2+1))) else (sennitref08_wrong.l0 k2 l1 t117 (decide (((rd_L1 l1 x7_2).length:Int) > 2000)) (wrap64 (x7_2+1))))) else (none))=some r:=by rw [if_pos rfl] at H;exact H);clear H;have H:=H1;clear H1
        by_cases c9:0≤x7_2
        ·
         (rw [if_pos c9] at H);have c9b0:decide (0≤x7_2)=true:=decide_eq_true c9;clear c9;replace H:=Option.bind_eq_some_iff.mp H;obtain ⟨t117,A100,H⟩:=H;replace H:(if x6_2=true then (sennitref08_wrong.l0 k2 l1 t117 true (wrap64 (x7_2+1))) else (sennitref08_wrong.l0 k2 l1 t117 (decide (((rd_L1 l1 x7_2).length:Int) > 2000)) (wrap64 (x7_2+1))))=some r:=H;have A10:=Aside0.mk A100;clear A100
         by_cases c11:x6_2=true
         ·
          subst c11;(have H1:(sennitref08_wrong.l0 k2 l1 t117 true (wrap64 (x7_2+1)))=some r:=by rw [if_pos rfl] at H;exact H);clear H;have H:=H1;clear H1;have H':=Aside0.mk H;clear H;have p116:0≤(x7_2:Int):=dt_;have q116:x7_2 < (l1.length:Int):=dt_;obtain ⟨ad116,A116_0,c116_0,e116,hx116_0,hl116_0,hi116_0⟩:=at_L1 HR1.out x7_2 p116 q116;cases e116;have HR116_0:=Aside0.mk hi116_0;have HC116_0:=Aside0.mk hl116_0;clear hi116_0 hl116_0;replace p116:=eq_true p116;replace q116:=eq_true q116;(go_wp2_with (first | (go_at_call 28;(with_reducible refine (sennitref01_May.calls k2 _ _ (rd_L1 l1 x7_2) t117 _ ?side1 ?side2 A10.out).mono ?_);(case side1=>repeat (first | exact HR116_0.out | (with_reducible refine Kd.C_alloc ?_ _) | (with_reducible refine Kd.C_drewN ?_ _) | (with_reducible refine Kd.C_drew ?_)));(case side2=>exact HC116_0.out);rintro e w' ⟨rfl,⟨nd,rfl⟩⟩)))
          go_roundg k2
          (case measure=>have:=HJ2.out;have:=HK2.out;omega);(case rel=>exact ⟨(t117),(true),(wrap64 (x7_2+1)),rs_,rs_,rs_,H',⟨by have:=HJ2.out;have:=HK2.out;omega⟩,d0_⟩)
         ·
          replace c11:=Bool.eq_false_iff.mpr c11;subst c11;(have H1:(sennitref08_wrong.l0 k2 l1 t117 (decide (((rd_L1 l1 x7_2).length:Int) > 2000)) (wrap64 (x7_2+1)))=some r:=by rw [if_neg (show ¬ (false=true) by decide)] at H;exact H);clear H;have H:=H1;clear H1;have H':=Aside0.mk H;clear H;have p116:0≤(x7_2:Int):=dt_;have q116:x7_2 < (l1.length:Int):=dt_;obtain ⟨ad116,A116_0,c116_0,e116,hx116_0,hl116_0,hi116_0⟩:=at_L1 HR1.out x7_2 p116 q116;cases e116;have HR116_0:=Aside0.mk hi116_0;have HC116_0:=Aside0.mk hl116_0;clear hi116_0 hl116_0;replace p116:=eq_true p116;replace q116:=eq_true q116;(go_wp2_with (first | (go_at_call 28;(with_reducible refine (sennitref01_May.calls k2 _ _ (rd_L1 l1 x7_2) t117 _ ?side1 ?side2 A10.out).mono ?_);(case side1=>repeat (first | exact HR116_0.out | (with_reducible refine Kd.C_alloc ?_ _) | (with_reducible refine Kd.C_drewN ?_ _) | (with_reducible refine Kd.C_drew ?_)));(case side2=>exact HC116_0.out);rintro e w' ⟨rfl,⟨nd,rfl⟩⟩;have p118:0≤(x7_2:Int):=dt_;have q118:x7_2 < (l1.length:Int):=dt_;obtain ⟨ad118,A118_0,c118_0,e118,hx118_0,hl118_0,hi118_0⟩:=at_L1 HR1.out x7_2 p118 q118;obtain rfl:ad116=ad118:=(by injection e118);have HR118_0:=Aside0.mk hi118_0;have HC118_0:=Aside0.mk hl118_0;clear hi118_0 hl118_0;replace p118:=eq_true p118;replace q118:=eq_true q118;have ea_:=Option.some.inj (hx116_0.symm.trans hx118_0);injection ea_ with ea_ en_ ec_;subst ea_;subst ec_;clear en_)))
          go_roundg k2
          (case measure=>have:=HJ2.out;have:=HK2.out;omega);(case rel=>exact ⟨(t117),(decide (((rd_L1 l1 x7_2).length:Int) > 2000)),(wrap64 (x7_2+1)),rs_,rs_,rs_,H',⟨by have:=HJ2.out;have:=HK2.out;omega⟩,d0_⟩)
        (· (rw [if_neg c9] at H);exact absurd H (by simp))
       ·
        replace c8:=Bool.eq_false_iff.mpr c8;subst c8;(have H1:(if x6_2=true then (sennitref08_wrong.l0 k2 l1 false true (wrap64 (x7_2+1))) else (if 0≤x7_2 then (sennitref08_wrong.l0 k2 l1 false (decide (((rd_L1 l1 x7_2).length:Int) > 2000)) (wrap64 (x7_2+1))) else (none)))=some r:=by rw [if_neg (show ¬ (false=true) by decide)] at H;exact H);clear H;have H:=H1;clear H1
        by_cases c12:x6_2=true
        ·
         subst c12;(have H1:(sennitref08_wrong.l0 k2 l1 false true (wrap64 (x7_2+1)))=some r:=by rw [if_pos rfl] at H;exact H);clear H;have H:=H1;clear H1;have H':=Aside0.mk H;clear H;go_wp2
         go_roundg k2
         (case measure=>have:=HJ2.out;have:=HK2.out;omega);(case rel=>exact ⟨(false),(true),(wrap64 (x7_2+1)),rs_,rs_,rs_,H',⟨by have:=HJ2.out;have:=HK2.out;omega⟩,d0_⟩)
        ·
         replace c12:=Bool.eq_false_iff.mpr c12;subst c12;(have H1:(if 0≤x7_2 then (sennitref08_wrong.l0 k2 l1 false (decide (((rd_L1 l1 x7_2).length:Int) > 2000)) (wrap64 (x7_2+1))) else (none))=some r:=by rw [if_neg (show ¬ (false=true) by decide)] at H;exact H);clear H;have H:=H1;clear H1
         by_cases c13:0≤x7_2
         ·
          (rw [if_pos c13] at H);have c13b0:decide (0≤x7_2)=true:=decide_eq_true c13;clear c13;have H':=Aside0.mk H;clear H;have p119:0≤(x7_2:Int):=dt_;have q119:x7_2 < (l1.length:Int):=dt_;obtain ⟨ad119,A119_0,c119_0,e119,hx119_0,hl119_0,hi119_0⟩:=at_L1 HR1.out x7_2 p119 q119;cases e119;have HR119_0:=Aside0.mk hi119_0;have HC119_0:=Aside0.mk hl119_0;clear hi119_0 hl119_0;replace p119:=eq_true p119;replace q119:=eq_true q119;go_wp2
          go_roundg k2
          (case measure=>have:=HJ2.out;have:=HK2.out;omega);(case rel=>exact ⟨(false),(decide (((rd_L1 l1 x7_2).length:Int) > 2000)),(wrap64 (x7_2+1)),rs_,rs_,rs_,H',⟨by have:=HJ2.out;have:=HK2.out;omega⟩,d0_⟩)
         (· (rw [if_neg c13] at H);exact absurd H (by simp))
      ·
       (rw [if_neg c7] at H);have c7b0:decide (x7_2 < (l1.length:Int))=false:=decide_eq_false c7;clear c7
       by_cases c14:x5_2=true
       ·
        subst c14;(have H1:(if x6_2=true then (some 4) else (some 0))=some r:=by rw [if_pos rfl] at H;exact H);clear H;have H:=H1;clear H1
        by_cases c15:x6_2=true
        (· subst c15;(have H1:(some 4)=some r:=by rw [if_pos rfl] at H;exact H);clear H;have H:=H1;clear H1;obtain rfl:=Option.some.inj H;go_wp2;go_ret;exact ⟨by first | rfl | (simp;done) | (simp [*];done),d0_⟩);(· replace c15:=Bool.eq_false_iff.mpr c15;subst c15;(have H1:(some 0)=some r:=by rw [if_neg (show ¬ (false=true) by decide)] at H;exact H);clear H;have H:=H1;clear H1;obtain rfl:=Option.some.inj H;go_wp2;go_ret;exact ⟨by first | rfl | (simp;done) | (simp [*];done),d0_⟩)
       (· replace c14:=Bool.eq_false_iff.mpr c14;subst c14;(have H1:(some 2)=some r:=by rw [if_neg (show ¬ (false=true) by decide)] at H;exact H);clear H;have H:=H1;clear H1;obtain rfl:=Option.some.inj H;go_wp2;go_ret;exact ⟨by first | rfl | (simp;done) | (simp [*];done),d0_⟩)
def sennitref04_May.l0:Nat→List Int→Int→Int→Int→Option (Bool)
  | 0,_,_,_,_=>none
  | k+1,x0,x1,x5,x6=>if x6 < (x0.length:Int) then (if 0≤x6 then (if (rd x0 x6)=(-1) then (sennitref04_May.l0 k x0 x1 x5 (wrap64 (x6+1))) else (if (rd x0 x6) < x5 then (some false) else (if (rd x0 x6) ≥ x1 then (some false) else (sennitref04_May.l0 k x0 x1 (wrap64 ((rd x0 x6)+1)) (wrap64 (x6+1)))))) else (none)) else (some true)
def sennitref04_May.f (k:Nat) (l0:List Int) (a1:Int):Option (Bool):=if a1 < 0 then (some false) else (sennitref04_May.l0 k l0 a1 0 0)
set_option maxHeartbeats 8000000 in
set_option maxRecDepth 100000 in
theorem sennitref04_May.calls (k:Nat) (A0:Option Addr) (c0:Nat) (l0:List Int) (a1:Int) (r:Bool) (w:World) (hr0:Kd.C (Kd.int .i64) w A0 l0.length l0) (hc0:l0.length≤c0) (h:sennitref04_May.f k l0 a1=some r) :
    Calls Tryz.prog 100 #[.slice A0 l0.length c0, .int .i64 a1] w fun e w'=>e = .returned (.bool r)∧Drawn0 w w':=by
 have HR0:=Aside0.mk hr0;have HC0:=Aside0.mk hc0;clear hr0 hc0;have H:(if a1 < 0 then (some false) else (sennitref04_May.l0 k l0 a1 0 0))=some r:=h;clear h
 by_cases c3:a1 < 0
 (· (rw [if_pos c3] at H);have c3b0:decide (a1 < 0)=true:=decide_eq_true c3;clear c3;obtain rfl:=Option.some.inj H;go_enter Tryz.func100,Tryz.ntmps100;go_wp2;go_ret;exact ⟨by first | rfl | (simp;done) | (simp [*];done),d0_⟩)
 ·
  (rw [if_neg c3] at H);have c3b0:decide (a1 < 0)=false:=decide_eq_false c3;clear c3;have H':=Aside0.mk H;clear H;go_enter Tryz.func100,Tryz.ntmps100;go_wp2
  go_loopg [5,6] k (fun kq v5 v6 w' => ∃ (x5_1:Int) (x6_1:Int),v5 = .int .i64 x5_1∧v6 = .int .i64 x6_1∧Aside0 (sennitref04_May.l0 kq l0 a1 x5_1 x6_1=some r)∧Aside0 (kq≤k)∧Drawn0 w w')
  (case atStart=>exact ⟨(0),(0),rs_,rs_,H',⟨Nat.le_refl _⟩,d0_⟩)
  case round =>
   clear H';(try clear c1);(try clear p2);(try clear c3);(try clear c3b0);obtain ⟨x5_1,x6_1,rfl,rfl,HA,HK1,⟨m1,rfl⟩⟩:=hrel
   cases gk with
   | zero=>exact absurd HA.out (by simp [sennitref04_May.l0])
   | succ k1 =>
    have H:=HA.out;clear HA;(simp only [sennitref04_May.l0] at H)
    by_cases c4:x6_1 < (l0.length:Int)
    ·
     (rw [if_pos c4] at H);have c4b0:decide (x6_1 < (l0.length:Int))=true:=decide_eq_true c4;clear c4
     by_cases c5:0≤x6_1
     ·
      (rw [if_pos c5] at H);have c5b0:decide (0≤x6_1)=true:=decide_eq_true c5;clear c5
      by_cases c6:(rd l0 x6_1)=(-1)
      ·
       (rw [if_pos c6] at H);have c6b0:((rd l0 x6_1) == (-1))=true:=beq_iff_eq.mpr c6;have c6b1:((rd l0 x6_1) != (-1))=false:=bne_eq_false_iff_eq.mpr c6;clear c6;have H':=Aside0.mk H;clear H;have p122:0≤(x6_1:Int):=dt_;have q122:x6_1 < (l0.length:Int):=dt_;obtain ⟨ad122,e122,hx122_0⟩:=Kd.at_int HR0.out x6_1 p122 q122;cases e122;replace p122:=eq_true p122;replace q122:=eq_true q122;go_wp2
       go_roundg k1
       (case measure=>have:=HK1.out;omega);(case rel=>exact ⟨(x5_1),(wrap64 (x6_1+1)),rs_,rs_,H',⟨by have:=HK1.out;omega⟩,d0_⟩)
      ·
       (rw [if_neg c6] at H);have c6b0:((rd l0 x6_1) == (-1))=false:=beq_eq_false_iff_ne.mpr c6;have c6b1:((rd l0 x6_1) != (-1))=true:=bne_iff_ne.mpr c6
       by_cases c7:(rd l0 x6_1) < x5_1
       (· (rw [if_pos c7] at H);have c7b0:decide ((rd l0 x6_1) < x5_1)=true:=decide_eq_true c7;clear c7;obtain rfl:=Option.some.inj H;have p122:0≤(x6_1:Int):=dt_;have q122:x6_1 < (l0.length:Int):=dt_;obtain ⟨ad122,e122,hx122_0⟩:=Kd.at_int HR0.out x6_1 p122 q122;cases e122;replace p122:=eq_true p122;replace q122:=eq_true q122;have p123:0≤(x6_1:Int):=dt_;have q123:x6_1 < (l0.length:Int):=dt_;obtain ⟨ad123,e123,hx123_0⟩:=Kd.at_int HR0.out x6_1 p123 q123;obtain rfl:ad122=ad123:=(by injection e123);replace p123:=eq_true p123;replace q123:=eq_true q123;go_wp2;go_ret;exact ⟨by first | rfl | (simp;done) | (simp [*];done),d0_⟩)
       ·
        (rw [if_neg c7] at H);have c7b0:decide ((rd l0 x6_1) < x5_1)=false:=decide_eq_false c7;clear c7
        by_cases c8:(rd l0 x6_1) ≥ a1
        (· (rw [if_pos c8] at H);have c8b0:decide (a1≤(rd l0 x6_1))=true:=decide_eq_true c8;clear c8;obtain rfl:=Option.some.inj H;have p122:0≤(x6_1:Int):=dt_;have q122:x6_1 < (l0.length:Int):=dt_;obtain ⟨ad122,e122,hx122_0⟩:=Kd.at_int HR0.out x6_1 p122 q122;cases e122;replace p122:=eq_true p122;replace q122:=eq_true q122;have p123:0≤(x6_1:Int):=dt_;have q123:x6_1 < (l0.length:Int):=dt_;obtain ⟨ad123,e123,hx123_0⟩:=Kd.at_int HR0.out x6_1 p123 q123;obtain rfl:ad122=ad123:=(by injection e123);replace p123:=eq_true p123;replace q123:=eq_true q123;have p124:0≤(x6_1:Int):=dt_;have q124:x6_1 < (l0.length:Int):=dt_;obtain ⟨ad124,e124,hx124_0⟩:=Kd.at_int HR0.out x6_1 p124 q124;obtain rfl:ad122=ad124:=(by injection e124);replace p124:=eq_true p124;replace q124:=eq_true q124;go_wp2;go_ret;exact ⟨by first | rfl | (simp;done) | (simp [*];done),d0_⟩)
        ·
         (rw [if_neg c8] at H);have c8b0:decide (a1≤(rd l0 x6_1))=false:=decide_eq_false c8;clear c8;have H':=Aside0.mk H;clear H;have p122:0≤(x6_1:Int):=dt_;have q122:x6_1 < (l0.length:Int):=dt_;obtain ⟨ad122,e122,hx122_0⟩:=Kd.at_int HR0.out x6_1 p122 q122;cases e122;replace p122:=eq_true p122;replace q122:=eq_true q122;have p123:0≤(x6_1:Int):=dt_;have q123:x6_1 < (l0.length:Int):=dt_;obtain ⟨ad123,e123,hx123_0⟩:=Kd.at_int HR0.out x6_1 p123 q123;obtain rfl:ad122=ad123:=(by injection e123);replace p123:=eq_true p123;replace q123:=eq_true q123;have p124:0≤(x6_1:Int):=dt_;have q124:x6_1 < (l0.length:Int):=dt_;obtain ⟨ad124,e124,hx124_0⟩:=Kd.at_int HR0.out x6_1 p124 q124;obtain rfl:ad122=ad124:=(by injection e124);replace p124:=eq_true p124;replace q124:=eq_true q124;have p125:0≤(x6_1:Int):=dt_;have q125:x6_1 < (l0.length:Int):=dt_;obtain ⟨ad125,e125,hx125_0⟩:=Kd.at_int HR0.out x6_1 p125 q125;obtain rfl:ad122=ad125:=(by injection e125);replace p125:=eq_true p125;replace q125:=eq_true q125;go_wp2
         go_roundg k1
         (case measure=>have:=HK1.out;omega);(case rel=>exact ⟨(wrap64 ((rd l0 x6_1)+1)),(wrap64 (x6_1+1)),rs_,rs_,H',⟨by have:=HK1.out;omega⟩,d0_⟩)
     (· (rw [if_neg c5] at H);exact absurd H (by simp))
    (· (rw [if_neg c4] at H);have c4b0:decide (x6_1 < (l0.length:Int))=false:=decide_eq_false c4;clear c4;obtain rfl:=Option.some.inj H;go_wp2;go_ret;exact ⟨by first | rfl | (simp;done) | (simp [*];done),d0_⟩)
mutual
def sennitref05_may.j0:Nat→Int→List Int→List (List Int)→Bool→Option (Bool)
  | 0,_,_,_,_=>none
  | k+1,x0,x1,x2,x22=>if x22=true then (some false) else (sennitref05_may.l0 k x0 x1 x2 0)
def sennitref05_may.l0:Nat→Int→List Int→List (List Int)→Int→Option (Bool)
  | 0,_,_,_,_=>none
  | k+1,x0,x1,x2,x7=>if x7 < (x2.length:Int) then (if 0≤x7 then (if ((rd_L16 x2 x7).length:Int)=x0 then (if x7 < (x1.length:Int) then ((sennitref04_May.f k (rd_L16 x2 x7) (rd x1 x7)).bind fun t129=>(if t129=true then (sennitref05_may.l0 k x0 x1 x2 (wrap64 (x7+1))) else (some false))) else (none)) else (some false)) else (none)) else (some true)
end
def sennitref05_may.f (k:Nat) (a0:Int) (l1:List Int) (l2:List (List Int)):Option (Bool):=if (l2.length:Int)=0 then (sennitref05_may.j0 k a0 l1 l2 true) else (if (l2.length:Int) > 16 then (sennitref05_may.j0 k a0 l1 l2 true) else (sennitref05_may.j0 k a0 l1 l2 ((l1.length:Int) != (l2.length:Int))))
set_option maxHeartbeats 8000000 in
set_option maxRecDepth 100000 in
theorem sennitref05_may.calls (k:Nat) (a0:Int) (A1:Option Addr) (c1:Nat) (l1:List Int) (A2:Option Addr) (c2:Nat) (l2:List (List Int)) (r:Bool) (w:World) (hr1:Kd.C (Kd.int .i64) w A1 l1.length l1) (hc1:l1.length≤c1) (hr2:Kd.C (Kd.slice 3 (Kd.int .i64)) w A2 l2.length l2) (hc2:l2.length≤c2) (h:sennitref05_may.f k a0 l1 l2=some r) :
    Calls Tryz.prog 80 #[.int .i64 a0, .slice A1 l1.length c1, .slice A2 l2.length c2] w fun e w'=>e = .returned (.bool r)∧Drawn0 w w':=by
 have HR1:=Aside0.mk hr1;have HC1:=Aside0.mk hc1;clear hr1 hc1;have HR2:=Aside0.mk hr2;have HC2:=Aside0.mk hc2;clear hr2 hc2;have H:(if (l2.length:Int)=0 then (sennitref05_may.j0 k a0 l1 l2 true) else (if (l2.length:Int) > 16 then (sennitref05_may.j0 k a0 l1 l2 true) else (sennitref05_may.j0 k a0 l1 l2 ((l1.length:Int) != (l2.length:Int)))))=some r:=h;clear h;have HC4:=Aside0.mk H;clear H;go_enter Tryz.func80,Tryz.ntmps80
 go_upto_region 1 with (fail)
 (repeat (go_quiet (fail);go_upto_region 1 with (fail)))
 go_cut [22] (fun v22 wc => ∃ (kq:Nat) (x22_3:Bool),v22 = .bool x22_3∧Aside0 (sennitref05_may.j0 kq a0 l1 l2 x22_3=some r)∧Aside0 (kq≤k)∧Drawn0 w wc)
 case first =>
  have H:=HC4.out;clear HC4
  by_cases c5:(l2.length:Int)=0
  ·
   (rw [if_pos c5] at H);have c5b0:((l2.length:Int) == 0)=true:=beq_iff_eq.mpr c5;have c5b1:((l2.length:Int) != 0)=false:=bne_eq_false_iff_eq.mpr c5;clear c5;(first | rw [c5b0] | (simp only [i64_w,i32_w];rw [c5b0]) | skip);have H':=Aside0.mk H;clear H;go_wp2;(repeat (go_quiet (fail);try go_wp2))
   go_meet
   (case rel=>exact ⟨_,(true),rs_,H',⟨by first | omega | exact Nat.le_refl _⟩,d0_⟩)
  ·
   (rw [if_neg c5] at H);have c5b0:((l2.length:Int) == 0)=false:=beq_eq_false_iff_ne.mpr c5;have c5b1:((l2.length:Int) != 0)=true:=bne_iff_ne.mpr c5;(have c5b2 : ¬ (l2=[]):=fun h_=>c5 (by rw [h_];rfl));(first | rw [c5b0] | (simp only [i64_w,i32_w];rw [c5b0]) | skip)
   by_cases c6:(l2.length:Int) > 16
   ·
    (rw [if_pos c6] at H);have c6b0:decide (16 < (l2.length:Int))=true:=decide_eq_true c6;have c6b1:decide (16 < l2.length)=true:=decide_eq_true (by omega);clear c6;have H':=Aside0.mk H;clear H;go_wp2;(repeat (go_quiet (fail);try go_wp2))
    go_meet
    (case rel=>exact ⟨_,(true),rs_,H',⟨by first | omega | exact Nat.le_refl _⟩,d0_⟩)
   ·
    (rw [if_neg c6] at H);have c6b0:decide (16 < (l2.length:Int))=false:=decide_eq_false c6;have c6b1:decide (16 < l2.length)=false:=decide_eq_false (by omega);clear c6;have H':=Aside0.mk H;clear H;go_wp2;(repeat (go_quiet (fail);try go_wp2))
    go_meet
    (case rel=>exact ⟨_,(((l1.length:Int) != (l2.length:Int))),rs_,H',⟨by first | omega | exact Nat.le_refl _⟩,d0_⟩)
 case rest =>
  clear HC4;(try clear c1);(try clear c2);(try clear p2);(try clear c5);(try clear c5b0);(try clear c5b1);(try clear c5b2);(try clear c6);(try clear c6b0);(try clear c6b1);obtain ⟨kq,x22_3,rfl,HA,HJ3,⟨mc3,rfl⟩⟩:=hcut
  cases kq with
  | zero=>exact absurd HA.out (by simp [sennitref05_may.j0])
  | succ kj3 =>
   have H:=HA.out;clear HA;(simp only [sennitref05_may.j0] at H)
   by_cases c7:x22_3=true
   (· subst c7;(have H1:(some false)=some r:=by rw [if_pos rfl] at H;exact H);clear H;have H:=H1;clear H1;obtain rfl:=Option.some.inj H;go_wp2;(repeat (go_quiet (fail);try go_wp2));go_ret;exact ⟨by first | rfl | (simp;done) | (simp [*];done),d0_⟩)
   ·
    replace c7:=Bool.eq_false_iff.mpr c7;subst c7;(have H1:(sennitref05_may.l0 kj3 a0 l1 l2 0)=some r:=by rw [if_neg (show ¬ (false=true) by decide)] at H;exact H);clear H;have H:=H1;clear H1;have H':=Aside0.mk H;clear H;go_wp2;(repeat (go_quiet (fail);try go_wp2))
    go_loopg [7] kj3 (fun kq v7 w' => ∃ (x7_2:Int),v7 = .int .i64 x7_2∧Aside0 (sennitref05_may.l0 kq a0 l1 l2 x7_2=some r)∧Aside0 (kq≤kj3)∧Drawn0 w w')
    (case atStart=>exact ⟨(0),rs_,H',⟨Nat.le_refl _⟩,d0_⟩)
    case round =>
     clear H';(try clear c1);(try clear c2);(try clear p2);(try clear c3);(try clear c5);(try clear c5b0);(try clear c5b1);(try clear c5b2);(try clear c6);(try clear c6b0);(try clear c6b1);(try clear c7);(try clear p2);obtain ⟨x7_2,rfl,HA,HK2,⟨m2,rfl⟩⟩:=hrel
     cases gk with
     | zero=>exact absurd HA.out (by simp [sennitref05_may.l0])
     | succ k2 =>
      have H:=HA.out;clear HA;(simp only [sennitref05_may.l0] at H)
      by_cases c8:x7_2 < (l2.length:Int)
      ·
       (rw [if_pos c8] at H);have c8b0:decide (x7_2 < (l2.length:Int))=true:=decide_eq_true c8;clear c8
       by_cases c9:0≤x7_2
       ·
        (rw [if_pos c9] at H);have c9b0:decide (0≤x7_2)=true:=decide_eq_true c9;clear c9
        by_cases c10:((rd_L16 l2 x7_2).length:Int)=a0
        ·
         (rw [if_pos c10] at H);have c10b0:(((rd_L16 l2 x7_2).length:Int) == a0)=true:=beq_iff_eq.mpr c10;have c10b1:(((rd_L16 l2 x7_2).length:Int) != a0)=false:=bne_eq_false_iff_eq.mpr c10;clear c10
         by_cases c11:x7_2 < (l1.length:Int)
         ·
          (rw [if_pos c11] at H);have c11b0:decide (x7_2 < (l1.length:Int))=true:=decide_eq_true c11;clear c11;replace H:=Option.bind_eq_some_iff.mp H;obtain ⟨t129,A120,H⟩:=H;replace H:(if t129=true then (sennitref05_may.l0 k2 a0 l1 l2 (wrap64 (x7_2+1))) else (some false))=some r:=H;have A12:=Aside0.mk A120;clear A120
          by_cases c13:t129=true
          ·
           subst c13;(have H1:(sennitref05_may.l0 k2 a0 l1 l2 (wrap64 (x7_2+1)))=some r:=by rw [if_pos rfl] at H;exact H);clear H;have H:=H1;clear H1;have H':=Aside0.mk H;clear H;have p126:0≤(x7_2:Int):=dt_;have q126:x7_2 < (l2.length:Int):=dt_;obtain ⟨ad126,A126_0,c126_0,e126,hx126_0,hl126_0,hi126_0⟩:=at_L16 HR2.out x7_2 p126 q126;cases e126;have HR126_0:=Aside0.mk hi126_0;have HC126_0:=Aside0.mk hl126_0;clear hi126_0 hl126_0;replace p126:=eq_true p126;replace q126:=eq_true q126;have p127:0≤(x7_2:Int):=dt_;have q127:x7_2 < (l2.length:Int):=dt_;obtain ⟨ad127,A127_0,c127_0,e127,hx127_0,hl127_0,hi127_0⟩:=at_L16 HR2.out x7_2 p127 q127;obtain rfl:ad126=ad127:=(by injection e127);have HR127_0:=Aside0.mk hi127_0;have HC127_0:=Aside0.mk hl127_0;clear hi127_0 hl127_0;replace p127:=eq_true p127;replace q127:=eq_true q127;have ea_:=Option.some.inj (hx126_0.symm.trans hx127_0);(injection ea_ with ea_ en_ ec_);subst ea_;subst ec_;clear en_;have p128:0≤(x7_2:Int):=dt_;have q128:x7_2 < (l1.length:Int):=dt_;obtain ⟨ad128,e128,hx128_0⟩:=Kd.at_int HR1.out x7_2 p128 q128;cases e128;replace p128:=eq_true p128;replace q128:=eq_true q128;(go_wp2_with (first | (go_at_call 100;(with_reducible refine (sennitref04_May.calls k2 _ _ (rd_L16 l2 x7_2) (rd l1 x7_2) true _ ?side1 ?side2 A12.out).mono ?_);(case side1=>repeat (first | exact HR127_0.out | (with_reducible refine Kd.C_alloc ?_ _) | (with_reducible refine Kd.C_drewN ?_ _) | (with_reducible refine Kd.C_drew ?_)));(case side2=>exact HC127_0.out);rintro e w' ⟨rfl,⟨nd,rfl⟩⟩;(try first | exact ⟨rfl,_,World.drewN_drewN _ _ _⟩ | exact ⟨rfl,_,Eq.trans (World.drewN_drewN _ _ _) (congrArg (World.drewN _) (Nat.add_assoc _ _ _))⟩))));(repeat (go_quiet (first | (go_at_call 100;(with_reducible refine (sennitref04_May.calls k2 _ _ (rd_L16 l2 x7_2) (rd l1 x7_2) true _ ?side1 ?side2 A12.out).mono ?_);(case side1=>repeat (first | exact HR127_0.out | (with_reducible refine Kd.C_alloc ?_ _) | (with_reducible refine Kd.C_drewN ?_ _) | (with_reducible refine Kd.C_drew ?_)));(case side2=>exact HC127_0.out);rintro e w' ⟨rfl,⟨nd,rfl⟩⟩;(try first | exact ⟨rfl,_,World.drewN_drewN _ _ _⟩ | exact ⟨rfl,_,Eq.trans (World.drewN_drewN _ _ _) (congrArg (World.drewN _) (Nat.add_assoc _ _ _))⟩)));try go_wp2_with (first | (go_at_call 100;(with_reducible refine (sennitref04_May.calls k2 _ _ (rd_L16 l2 x7_2) (rd l1 x7_2) true _ ?side1 ?side2 A12.out).mono ?_);(case side1=>repeat (first | exact HR127_0.out | (with_reducible refine Kd.C_alloc ?_ _) | (with_reducible refine Kd.C_drewN ?_ _) | (with_reducible refine Kd.C_drew ?_)));(case side2=>exact HC127_0.out);rintro e w' ⟨rfl,⟨nd,rfl⟩⟩;(try first | exact ⟨rfl,_,World.drewN_drewN _ _ _⟩ | exact ⟨rfl,_,Eq.trans (World.drewN_drewN _ _ _) (congrArg (World.drewN _) (Nat.add_assoc _ _ _))⟩)))))
           go_roundg k2
           (case measure=>have:=HJ3.out;have:=HK2.out;omega);(case rel=>exact ⟨(wrap64 (x7_2+1)),rs_,H',⟨by have:=HJ3.out;have:=HK2.out;omega⟩,d0_⟩)
          (· replace c13:=Bool.eq_false_iff.mpr c13;subst c13;(have H1:(some false)=some r:=by rw [if_neg (show ¬ (false=true) by decide)] at H;exact H);clear H;have H:=H1;clear H1;obtain rfl:=Option.some.inj H;have p126:0≤(x7_2:Int):=dt_;have q126:x7_2 < (l2.length:Int):=dt_;obtain ⟨ad126,A126_0,c126_0,e126,hx126_0,hl126_0,hi126_0⟩:=at_L16 HR2.out x7_2 p126 q126;cases e126;have HR126_0:=Aside0.mk hi126_0;have HC126_0:=Aside0.mk hl126_0;clear hi126_0 hl126_0;replace p126:=eq_true p126;replace q126:=eq_true q126;have p127:0≤(x7_2:Int):=dt_;have q127:x7_2 < (l2.length:Int):=dt_;obtain ⟨ad127,A127_0,c127_0,e127,hx127_0,hl127_0,hi127_0⟩:=at_L16 HR2.out x7_2 p127 q127;obtain rfl:ad126=ad127:=(by injection e127);have HR127_0:=Aside0.mk hi127_0;have HC127_0:=Aside0.mk hl127_0;clear hi127_0 hl127_0;replace p127:=eq_true p127;replace q127:=eq_true q127;have ea_:=Option.some.inj (hx126_0.symm.trans hx127_0);(injection ea_ with ea_ en_ ec_);subst ea_;subst ec_;clear en_;have p128:0≤(x7_2:Int):=dt_;have q128:x7_2 < (l1.length:Int):=dt_;obtain ⟨ad128,e128,hx128_0⟩:=Kd.at_int HR1.out x7_2 p128 q128;cases e128;replace p128:=eq_true p128;replace q128:=eq_true q128;(go_wp2_with (first | (go_at_call 100;(with_reducible refine (sennitref04_May.calls k2 _ _ (rd_L16 l2 x7_2) (rd l1 x7_2) false _ ?side1 ?side2 A12.out).mono ?_);(case side1=>repeat (first | exact HR127_0.out | (with_reducible refine Kd.C_alloc ?_ _) | (with_reducible refine Kd.C_drewN ?_ _) | (with_reducible refine Kd.C_drew ?_)));(case side2=>exact HC127_0.out);rintro e w' ⟨rfl,⟨nd,rfl⟩⟩;(try first | exact ⟨rfl,_,World.drewN_drewN _ _ _⟩ | exact ⟨rfl,_,Eq.trans (World.drewN_drewN _ _ _) (congrArg (World.drewN _) (Nat.add_assoc _ _ _))⟩))));(repeat (go_quiet (first | (go_at_call 100;(with_reducible refine (sennitref04_May.calls k2 _ _ (rd_L16 l2 x7_2) (rd l1 x7_2) false _ ?side1 ?side2 A12.out).mono ?_);(case side1=>repeat (first | exact HR127_0.out | (with_reducible refine Kd.C_alloc ?_ _) | (with_reducible refine Kd.C_drewN ?_ _) | (with_reducible refine Kd.C_drew ?_)));(case side2=>exact HC127_0.out);rintro e w' ⟨rfl,⟨nd,rfl⟩⟩;(try first | exact ⟨rfl,_,World.drewN_drewN _ _ _⟩ | exact ⟨rfl,_,Eq.trans (World.drewN_drewN _ _ _) (congrArg (World.drewN _) (Nat.add_assoc _ _ _))⟩)));try go_wp2_with (first | (go_at_call 100;(with_reducible refine (sennitref04_May.calls k2 _ _ (rd_L16 l2 x7_2) (rd l1 x7_2) false _ ?side1 ?side2 A12.out).mono ?_);(case side1=>repeat (first | exact HR127_0.out | (with_reducible refine Kd.C_alloc ?_ _) | (with_reducible refine Kd.C_drewN ?_ _) | (with_reducible refine Kd.C_drew ?_)));(case side2=>exact HC127_0.out);rintro e w' ⟨rfl,⟨nd,rfl⟩⟩;(try first | exact ⟨rfl,_,World.drewN_drewN _ _ _⟩ | exact ⟨rfl,_,Eq.trans (World.drewN_drewN _ _ _) (congrArg (World.drewN _) (Nat.add_assoc _ _ _))⟩)))));go_ret;exact ⟨by first | rfl | (simp;done) | (simp [*];done),d0_⟩)
         (· (rw [if_neg c11] at H);exact absurd H (by simp))
        (· (rw [if_neg c10] at H);have c10b0:(((rd_L16 l2 x7_2).length:Int) == a0)=false:=beq_eq_false_iff_ne.mpr c10;have c10b1:(((rd_L16 l2 x7_2).length:Int) != a0)=true:=bne_iff_ne.mpr c10;obtain rfl:=Option.some.inj H;have p126:0≤(x7_2:Int):=dt_;have q126:x7_2 < (l2.length:Int):=dt_;obtain ⟨ad126,A126_0,c126_0,e126,hx126_0,hl126_0,hi126_0⟩:=at_L16 HR2.out x7_2 p126 q126;cases e126;have HR126_0:=Aside0.mk hi126_0;have HC126_0:=Aside0.mk hl126_0;clear hi126_0 hl126_0;replace p126:=eq_true p126;replace q126:=eq_true q126;go_wp2;(repeat (go_quiet (fail);try go_wp2));go_ret;exact ⟨by first | rfl | (simp;done) | (simp [*];done),d0_⟩)
       (· (rw [if_neg c9] at H);exact absurd H (by simp))
      (· (rw [if_neg c8] at H);have c8b0:decide (x7_2 < (l2.length:Int))=false:=decide_eq_false c8;clear c8;obtain rfl:=Option.some.inj H;go_wp2;(repeat (go_quiet (fail);try go_wp2));go_ret;exact ⟨by first | rfl | (simp;done) | (simp [*];done),d0_⟩)
end Go.Proofs.YtbbhdbeaikclcaaGreat.X
