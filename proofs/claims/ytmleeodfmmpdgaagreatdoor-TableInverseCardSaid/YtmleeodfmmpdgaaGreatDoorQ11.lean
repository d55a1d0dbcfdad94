/- part -/
import Derived.Test.YtmleeodfmmpdgaaGreatDoorQ10
import Derived.Lib.LaidU8T
set_option maxRecDepth 20000
namespace Go.Proofs.YtmleeodfmmpdgaaGreatDoor
open Go.RowKit
attribute [local go_sem] Ext.cell Ext.frozen
attribute [local go_sem ↓] Go.wp_at_zero Go.wp_at_succ
open _root_.Go.Proofs.Tryz
abbrev Tz:=Int×List UInt8×Int
def tz0:Tz:=(0,[],0)
structure TzAt (w:World) (ad:Option Addr) (n:Nat) (xs:List Tz) (b off:Nat):Prop where
 len:xs.length=n
 max:n≤10000000000000
 adr:n≠0→ad=some ⟨b,off,none⟩
 c0:∀i,i<n→w.cell? ⟨b,off+i *3,none⟩=some (.int .i64 (xs.getD i tz0).1)
 c1:∀i,i<n→w.cell? ⟨b,off+i *3+1,none⟩=some (.string (bs (xs.getD i tz0).2.1))
 c2:∀i,i<n→w.cell? ⟨b,off+i *3+2,none⟩=some (.int .i64 (xs.getD i tz0).2.2)
def zOf (x:Nx):Tz:=((x.1.1:Int),x.1.2.1,(x.1.2.2:Int))
theorem Zjx (xs:List Nx) {i:Nat} (h:i<xs.length):(xs.map zOf).getD i tz0=zOf (xs.getD i (Zbg 0 0)):=by
 simp[List.getD,List.getElem?_eq_getElem h]
theorem TkAt.z {w:World} {ad:Option Addr} {n:Nat} {xs:List Nx} {b off:Nat} (h:TkAt w ad n xs b off):TzAt w ad n (xs.map zOf) b off:=
 ⟨by rw[List.length_map];exact h.len,by have:=h.max;omega,h.adr,fun i hi=>by rw[Zjx _ (by rw[h.len];exact hi)];exact h.c0 i hi,fun i hi=>by rw[Zjx _ (by rw[h.len];exact hi)];exact h.c1 i hi,fun i hi=>by rw[Zjx _ (by rw[h.len];exact hi)];exact h.c2 i hi⟩
theorem TzAt.ixT {P:Program} {w:World} {ad:Option Addr} {n:Nat} {xs} {b off:Nat} (h:TzAt w ad n xs b off)(T E:TypeId)(hT:P.underlying T=some (.slice E))(hE:P.cellsOf E=3) {i:Nat} (hi:i<n)(c:Nat)(W:World):
  (Instr.indexAt T (.slice ad n c) (.int .i64 (i:Int))).run P W= .ok (.pointer (some ⟨b,off+i *3,none⟩)) W:=by
 rw[h.adr (by omega)];have Q2:P.elem T=E:=by simp[Program.elem,hT]
 rw[run_indexAt_slice W T _ n c .i64 i (by rw[Q2];exact hT),Q2,if_pos (by omega)];have hs:(sizeOf E).run P W= .ok 3 W:=by
  unfold Program.cellsOf at hE;cases Lo:P.info? E with
  |none=>simp[Lo]at hE
  |some q=>simp[Lo]at hE;simp[sizeOf,typeInfo,Lo,hE]
 rw[hs];simp[Result.andThen,Addr.add]
theorem TzAt.below {w w':World} {ad:Option Addr} {n:Nat} {xs} {b off:Nat} (h:TzAt w ad n xs b off)(hb:Below w.heap.size w w'):TzAt w' ad n xs b off:=
 ⟨h.len,h.max,h.adr,fun i hi=>(hb.cell (p:=⟨b,off+i *3,none⟩) (World.block_lt_of_cell? w _ (h.c0 i hi))).trans (h.c0 i hi),
  fun i hi=>(hb.cell (p:=⟨b,off+i *3+1,none⟩) (World.block_lt_of_cell? w _ (h.c1 i hi))).trans (h.c1 i hi),
  fun i hi=>(hb.cell (p:=⟨b,off+i *3+2,none⟩) (World.block_lt_of_cell? w _ (h.c2 i hi))).trans (h.c2 i hi)⟩
def Zil (x:Tz):Int×List UInt8:=(x.1,x.2.1)
def Zall (xs ys:List Tz):Bool:=decide (xs.map Zil=ys.map Zil)
theorem Zyi {a b:List Tz} (hl:a.length=b.length)(h:∀i,i<a.length→Zil (a.getD i tz0)=Zil (b.getD i tz0)):a.map Zil=b.map Zil:=by
 apply List.ext_getElem (by simpa using hl)
 intro i h1 h2;rw[List.length_map]at h1 h2;have:=h i h1
 simpa [List.getD,List.getElem?_eq_getElem h1,List.getElem?_eq_getElem h2]using this
def Zam (l:List UInt8):Bool:=decide (l≠[])&&decide (l.length≤40)&&decide (Zab l=l.length)
def Zbk (l:List UInt8):Bool:=decide (l.length≤400)&&Lib.validD l
theorem Zww (l:List UInt8)(hl:l.length≤200000)(w:World)(hT:TabU w):Calls prog 146 #[.string (bs l)] w fun e w'=>e= .returned (.bool (Zbk l))∧Below w.heap.size w w':=by
 have HV:=Hd (Zqu l hl w hT);have Am:(bs l).size=l.length:=Za5 l
 by_cases h4:l.length≤400
 ·have g4:((bs l).size:Int)≤400:=by omega
  have HR:Hid (Zbk l=Lib.validD l):=by unfold Hid Zbk;rw[decide_eq_true h4];rfl
  clear Am;generalize bs l=S at *;generalize Lib.validD l=V at *
  go_enter func146,ntmps146
  go_wp2_with fail
  refine HV.out.mono ?_;rintro e w2 ⟨rfl,hb⟩;have HB:=Hd hb;clear hb
  go_wp2_with fail
  go_ret;exact⟨by rw[HR.out];rfl,HB.out⟩
 ·have g4: ¬((bs l).size:Int)≤400:=by omega
  have HR:Hid (Zbk l=false):=by unfold Hid Zbk;rw[decide_eq_false h4];rfl
  clear Am;generalize bs l=S at *
  go_enter func146,ntmps146
  go_wp2_with fail
  go_ret;exact⟨by rw[HR.out];rfl,Below.refl _ _⟩
theorem Zxt (l:List UInt8)(hl:l.length≤200000)(w:World):Calls prog 104 #[.string (bs l)] w fun e w'=>e= .returned (.bool (Zam l))∧Below w.heap.size w w':=by
 have Dd:=Hd (fun w=>Zvy l hl w);have Am:(bs l).size=l.length:=Za5 l
 by_cases h0:l=[]
 ·have HR:Hid (Zam l=false):=by unfold Hid Zam;rw[decide_eq_false (fun h=>h h0)];rfl
  have hz:bs l=⟨#[]⟩:=by rw[h0];rfl
  have m0:((⟨#[]⟩:ByteArray).toList !=(⟨#[]⟩:ByteArray).toList)=false:=by simp
  rw[hz];clear Am Dd
  go_enter func104,ntmps104
  go_wp2_with fail
  go_ret;exact⟨by rw[HR.out];rfl,Below.refl _ _⟩
 ·have m1: ¬(bs l).toList=[]:=by rw[Zd1];exact h0
  have m0:(bs l).toList.isEmpty=false:=by rw[Zd1];cases l with
   |nil=>exact absurd rfl h0
   |cons a r=>rfl
  by_cases h4:l.length≤40
  ·have g4:((bs l).size:Int)≤40:=by omega
   by_cases h5:Zab l=l.length
   ·have HR:Hid (Zam l=true):=by unfold Hid Zam;rw[decide_eq_true h0,decide_eq_true h4,decide_eq_true h5];rfl
    have m5:(((Zab l:Nat):Int)==((bs l).size:Int))=true:=by rw[Am,h5];simp
    generalize Zab l=W at *;generalize bs l=S at *;clear Am h0 h4 h5
    go_enter func104,ntmps104
    go_wp2_with fail
    refine(Dd.out _).mono ?_;rintro e w2 ⟨rfl,hb⟩;have HB:=Hd hb;clear hb
    go_wp2_with fail
    go_ret;exact⟨by rw[HR.out];rfl,HB.out⟩
   ·have HR:Hid (Zam l=false):=by unfold Hid Zam;rw[decide_eq_false h5,Bool.and_false]
    have m5:(((Zab l:Nat):Int)==((bs l).size:Int))=false:=by rw[Am,beq_eq_false_iff_ne];omega
    generalize Zab l=W at *;generalize bs l=S at *;clear Am h0 h4 h5
    go_enter func104,ntmps104
    go_wp2_with fail
    refine(Dd.out _).mono ?_;rintro e w2 ⟨rfl,hb⟩;have HB:=Hd hb;clear hb
    go_wp2_with fail
    go_ret;exact⟨by rw[HR.out];rfl,HB.out⟩
  ·have g4: ¬((bs l).size:Int)≤40:=by omega
   have HR:Hid (Zam l=false):=by unfold Hid Zam;rw[decide_eq_false h4,Bool.and_false];rfl
   generalize bs l=S at *;clear Am h0 h4 Dd
   go_enter func104,ntmps104
   go_wp2_with fail
   go_ret;exact⟨by rw[HR.out];rfl,Below.refl _ _⟩
open Go.RowKit Go.Lib
theorem Zx1:(Rows.laid_unicode_utf8_first:DataW Unit)=firstData:=by kernel_rfl
theorem Zv3:(Rows.laid_unicode_utf8_acceptRanges:DataW Unit)=acceptData:=by kernel_rfl
theorem Zagd:U8Extra prog Tryz.lays196_ren:=⟨by kernel_rfl,by kernel_rfl,by kernel_rfl,by kernel_rfl,by kernel_rfl,by kernel_rfl,by kernel_rfl⟩
theorem Zun {W:World} (h:W.ShapedOpen prog):MaxLen W:=
 cell_of_shapedOpen_int (g:=1) (t:=3) (k:= .i64) (zero:= #[.int .i64 0]) h (by decide+kernel) (by kernel_rfl) rfl (by kernel_rfl) (by kernel_rfl) underlying3
open Go.ChangeShapes Go.WideShapes Go.RowKit
section
variable {H : Type} {enc : TypeId × Value → H} {w : World} {base : Nat} {spare : Nat → Bool} {held : Bool}
end
theorem Zabo {W:World} {laid:List (String×DataW Unit)} (Be:(laid.all fun x=>x.2.handleName?.isNone)=true)(hA:("unicode/utf8.acceptRanges",Rows.laid_unicode_utf8_acceptRanges)∈laid)(hF:("unicode/utf8.first",Rows.laid_unicode_utf8_first)∈laid)
  (h:laidMetH prog laid W):TabU W:=by
 rw[MakeChecks.laidMetH_plain _ _ _ Be]at h;have h2:=Lib.laidMet.reads h hA;have h1:=Lib.laidMet.reads h hF;rw[Zx1]at h1;rw[Zv3]at h2;exact utf8Tabs_of_readsT (U8Types.of196 Tryz.lays196) Zagd h1 h2
theorem Zqc {P:Program} {W:World} {x:String×DataW Unit} {rest:List (String×DataW Unit)} {ps} (h:DataW.LaidVars P W (x::rest) ps):∃q,DataW.LaidVars P W rest q:=by
 obtain⟨_,_,_,_,p,q,_,_,_,_,h1,_⟩:=h;exact⟨q,h1⟩
theorem Zyv {P:Program} {W:World} {name:String} {k:IntKind} {zs:List Int} {rest:List (String×DataW Unit)} {g:Nat} {t e:TypeId} {n:Nat} {ps}
  (hg:P.globalNamed name=some g) (rE:(P.globals[g]?).map (·.type)=some t) (ht:P.underlying t=some (.array n e)) (he:P.underlying e=some (.int k)) (Ov:P.cellsOf e=1) (Wb:P.cellsOf t=n)
  (h:DataW.LaidVars P W ((name,Lib.tabData k zs)::rest) ps):Lib.TabIs P W name k zs:=by
 obtain⟨g',t',cs,fuel,p,q,fL,rF,fM,hd,_,_⟩:=h;obtain rfl:=Option.some.inj (hg.symm.trans fL);obtain rfl:=Option.some.inj (rE.symm.trans rF);unfold Lib.TabIs;rw[fM,←Lib.cells_of_tab ht he Ov Wb hd]
theorem Zaea:(Rows.laid_internal_strconv_uint64pow10:DataW Unit)=Lib.tabData .u64 Lib.pow10Tab:=by kernel_rfl
theorem Zahx:(Rows.laid_math_bits_deBruijn64tab:DataW Unit)=Lib.tabData .u8 Zafe:=by kernel_rfl
theorem Zw0 {W:World} {rest:List (String×DataW Unit)} {x:String×DataW Unit} (Be:((x::("math/bits.deBruijn64tab",Rows.laid_math_bits_deBruijn64tab)::("internal/strconv.uint64pow10",Rows.laid_internal_strconv_uint64pow10)::rest).all fun x=>x.2.handleName?.isNone)=true)
  (h:laidMetH prog (x::("math/bits.deBruijn64tab",Rows.laid_math_bits_deBruijn64tab)::("internal/strconv.uint64pow10",Rows.laid_internal_strconv_uint64pow10)::rest) W):TabDeB W∧TabTen W:=by
 rw[MakeChecks.laidMetH_plain _ _ _ Be]at h;obtain⟨ps,h1,_⟩:=h;obtain⟨q1,h2⟩:=Zqc h1;obtain⟨q2,h3⟩:=Zqc h2;rw[Zahx]at h2;rw[Zaea]at h3;exact⟨Lib.tabBelow_of_tabIs (Zyv (g:=(prog.globalNamed "math/bits.deBruijn64tab").getD 0) (t:=((prog.globals[(prog.globalNamed "math/bits.deBruijn64tab").getD 0]?).map (·.type)).getD 0) (n:=64) (e:=5) (by kernel_rfl) (by kernel_rfl) (by kernel_rfl) underlying5 (by kernel_rfl) (by kernel_rfl) h2),
  Lib.tabBelow_of_tabIs (Zyv (g:=(prog.globalNamed "internal/strconv.uint64pow10").getD 0) (t:=((prog.globals[(prog.globalNamed "internal/strconv.uint64pow10").getD 0]?).map (·.type)).getD 0) (n:=20) (e:=229) (by kernel_rfl) (by kernel_rfl) (by kernel_rfl) underlying229 (by kernel_rfl) (by kernel_rfl) h3)⟩
instance:LawfulBEq ByteArray where
 eq_of_beq {a b} h:=by
  have h:(a.data==b.data)=true:=h;have:=eq_of_beq h;cases a;cases b;simp_all
 rfl {a} :=by
  show(a.data==a.data)=true;exact beq_self_eq_true _
structure Rel where
 op:Int
 md:Int
 neg:Bool
 sp:List (Int×Int)
def RowsOf {α:Type} (k:Nat)(C:World→(Nat→Value)→α→Prop)(w:World)(v:Value)(l:List α):Prop:=
 ∃ad c f b off,v= .slice ad l.length c∧Rw w ad l.length k f b off∧(ad=none→c=0)∧l.length≤c∧l.length≤140737488351232∧∀i x,l[i]? =some x→C w (f i) x
theorem RowsOf.map {α:Type} {k:Nat} {C:World→(Nat→Value)→α→Prop} {w w':World} {v:Value} {l:List α} (h:RowsOf k C w v l)(hb:Below w.heap.size w w')(hC:∀x a,C w x a→C w' x a):RowsOf k C w' v l:=by
 obtain⟨ad,c,f,b,off,h1,h2,h3,h4,h5,h6⟩:=h;exact⟨ad,c,f,b,off,h1,h2.below hb,h3,h4,h5,fun i x hx=>hC _ _ (h6 i x hx)⟩
def Znw (_:World)(x:Nat→Value)(s:Int×Int):Prop:=x 0= .int .i64 s.1∧x 1= .int .i64 s.2
def RelC (w:World)(x:Nat→Value)(r:Rel):Prop:=x 0= .int .i64 r.op∧x 1= .int .i64 r.md∧x 2= .bool r.neg∧RowsOf 2 Znw w (x 3) r.sp
def RelsC (w:World)(x:Nat→Value)(l:List Rel):Prop:=RowsOf 4 RelC w (x 0) l
def CondAt (w:World)(v:Value)(c:List (List Rel)):Prop:=RowsOf 1 RelsC w v c
def RuleC (w:World)(x:Nat→Value)(r:ByteArray×List (List Rel)):Prop:=x 0= .string r.1∧CondAt w (x 1) r.2
def RulesAt (w:World)(v:Value)(l:List (ByteArray×List (List Rel))):Prop:=RowsOf 2 RuleC w v l
theorem RelC.below {w w':World} {x:Nat→Value} {r:Rel} (h:RelC w x r)(hb:Below w.heap.size w w'):RelC w' x r:=⟨h.1,h.2.1,h.2.2.1,h.2.2.2.map hb fun _ _ h=>h⟩
theorem RelsC.below {w w':World} {x:Nat→Value} {l:List Rel} (h:RelsC w x l)(hb:Below w.heap.size w w'):RelsC w' x l:=RowsOf.map h hb fun _ _ h=>h.below hb
theorem CondAt.below {w w':World} {v:Value} {c:List (List Rel)} (h:CondAt w v c)(hb:Below w.heap.size w w'):CondAt w' v c:=RowsOf.map h hb fun _ _ h=>h.below hb
theorem RuleC.below {w w':World} {x:Nat→Value} {r:ByteArray×List (List Rel)} (h:RuleC w x r)(hb:Below w.heap.size w w'):RuleC w' x r:=⟨h.1,h.2.below hb⟩
theorem RulesAt.below {w w':World} {v:Value} {l:List (ByteArray×List (List Rel))} (h:RulesAt w v l)(hb:Below w.heap.size w w'):RulesAt w' v l:=RowsOf.map h hb fun _ _ h=>h.below hb
def Zdf (op md:Int):Bool:=
 if op=1∨op=2 then [2,3,4,5,6,10,20,25,50,100].contains md else if op=5∨op=6 then [10,100].contains md else false
def Zbe (op:Int):Int:=if op=3∨op=4 then 6 else 100
def Zaz (op:Int)(s:Int×Int):Bool:=decide (0≤s.1)&&decide (s.1≤s.2)&&decide (s.2≤Zbe op)
def Zac (r:Rel):Bool:=decide (1≤r.op)&&decide (r.op≤6)&&(decide (r.md=0)||Zdf r.op r.md)&&decide (1≤r.sp.length)&&decide (r.sp.length≤4)&&r.sp.all (Zaz r.op)
def Zc0 (l:List Rel):Bool:= !l.isEmpty&&l.all Zac
def Zbf (c:List (List Rel)):Nat:=(c.map List.length).sum
def Zbw (c:List (List Rel)):Bool:=c.all Zc0&& !c.isEmpty&&decide (Zbf c≤6)
def Zaio (s:ByteArray):Bool:=[bs [122,101,114,111],bs [111,110,101],bs [116,119,111],bs [102,101,119],bs [109,97,110,121]].contains s
def Zzy:ByteArray:=bs [111,116,104,101,114]
def Zakp (rs:List (ByteArray×List (List Rel)))(i:Nat):Bool:=
 let r:=rs.getD i (.empty,[])
 Zaio r.1&&Zbw r.2&& !((rs.take i).any fun x=>x.1==r.1)
def Zakj (rs:List (ByteArray×List (List Rel))):Bool:=(List.range rs.length).all (Zakp rs)
theorem Zaaj (c:List (List Rel))(l:List Rel):Zbf (c++[l])=Zbf c+l.length:=by simp[Zbf]
theorem Zy7 {c:List (List Rel)} {k:Nat} {l:List Rel} (h:c[k]? =some l):Zbf (c.take (k+1))=Zbf (c.take k)+l.length:=by
 obtain⟨hk,he⟩:=List.getElem?_eq_some_iff.1 h;rw[List.take_succ_eq_append_getElem hk,Zaaj,he]
structure Vl where
 nm:ByteArray
 ty:Int
 tx:ByteArray
 dt:Int
 li:List ByteArray
def Zadv (v:Vl):Bool:=
 if v.ty=1 then decide (v.dt=0)&&decide (v.li.length=0)
 else if v.ty=2 then dOk v.tx.data.toList&&decide (v.dt=0)&&decide (v.li.length=0)
 else if v.ty=3 then decide (v.tx.size=0)&&decide (v.li.length=0)
 else if v.ty=4 then decide (v.tx.size=0)&&decide (v.dt=0)
 else false
def Zalb (kind:Int)(v:Vl):Bool:=Zadv v&&decide (v.ty=if kind=9 then 1 else 2)
def Zamb (kind:Int)(rs:List (ByteArray×List (List Rel)))(v:Option Vl):Nat:=
 if¬(7≤kind∧kind≤9)then 1 else if Zakj rs=false then 18 else match v with
  |none=>12
  |some v=>if Zalb kind v then 0 else 11
end Go.Proofs.YtmleeodfmmpdgaaGreatDoor
