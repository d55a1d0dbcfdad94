/- How arguments that are a locale, a question, or a value are read. -/
import Derived.Test.YtmleeodfmmpdgaaGreatDoorQ11
set_option maxRecDepth 20000
namespace Go.Proofs.YtmleeodfmmpdgaaGreatDoor
open Go.ChangeShapes Go.WideShapes Go.RowKit
open _root_.List (any_eq_true)
open _root_.Nat (not_lt_zero zero_le)
open _root_.Go.Proofs.Tryz
instance inhRelSO:Inhabited Rel:=⟨⟨0,0,false,[]⟩⟩
section
variable {H : Type} {enc : TypeId × Value → H} {w : World} {base : Nat} {spare : Nat → Bool} {held : Bool}
theorem Zahu {v:Value} (h:Rz enc w base spare held 4 [v]):∃b,v= .bool b:=by
 obtain⟨n,x,h,_⟩:=h;obtain⟨b,e,_⟩:=DataW.trod_bool underlying4 h;injection e with e;exact⟨b,e⟩
theorem Zajp {t e:TypeId} {ad:Option Addr} {n c:Nat} (ht:prog.underlying t=some (.slice e))(h:Rz enc w base spare held t [.slice ad n c]):n≤c:=by
 obtain⟨fu,x,h,_⟩:=h;rcases Go.Deep.open_slice ht h with⟨Dc,_⟩|⟨a,len,cap,m,n',D,Pl,Dc,_,hl,_⟩
 ·injection Dc with Dc;injection Dc with h1 h2 h3;omega
 ·injection Dc with Dc;injection Dc with h1 h2 h3;omega
theorem Zd2 {α:Type} [Inhabited α] {t e:TypeId} {k:Nat} {v:Value} {C:World→(Nat→Value)→α→Prop} (ht:prog.underlying t=some (.slice e))(hk:prog.cellsOf e=k)(Pc:0<k)(hb:1≤prog.bytesOf e)(h:Rz enc w base spare held t [v])
  (each:∀g:Nat→Value,Rz enc w base spare held e ((List.range k).map g)→∃x:α,C w g x):∃l:List α,RowsOf k C w v l:=by
 obtain⟨ad,n,c,f,b,off,hv,hr,hc,hz,he⟩:=Zafg ht hk Pc h;subst hv;have cO:=Zajp ht h;obtain⟨q,hq⟩:=Go.Deep.choose_lt (fun i hi=>each (f i) (he i hi));have hl:((List.range n).map q).length=n:=by simp
 have hn:n≤140737488351232:=by
  rw[show reachBytes=140737488351232 from rfl]at hz;exact Nat.le_trans (by have:=Nat.mul_le_mul_left n hb;omega) hz
 refine⟨(List.range n).map q,ad,c,f,b,off,by rw[hl],by rw[hl];exact hr,hc,by rw[hl];exact cO,by rw[hl];exact hn,fun i x hx=>?_⟩;have hi:i<n:=by
  have:=(List.getElem?_eq_some_iff.1 hx).1
  rwa [hl]at this
 have fG:q i=x:=by
  simp only[List.getElem?_map,List.getElem?_range hi,Option.map_some,Option.some.injEq]at hx;exact hx
 rw[←fG];exact hq i hi
theorem rzt (T k:Nat) {l:List Value} (h:Rz enc w base spare held T (l.take (prog.cellsOf T)))(hk:prog.cellsOf T=k):Rz enc w base spare held T (l.take k):=by rw[←hk];exact h
theorem Zadu {v:Value} (h:Rz enc w base spare held 92 [v]):∃l,RowsOf 2 Znw w v l:=
 Zd2 underlying92 (k:=2) (by kernel_rfl) (by omega) (of_decide_eq_true (by kernel_rfl)) h fun g hg=>by
  obtain⟨z0,e0,_⟩:=Zlg (v:=g 0) (rzt 3 1 (Zaa underlying152 hg 0 _ rfl).2 (by kernel_rfl));obtain⟨z1,e1,_⟩:=Zlg (v:=g 1) (rzt 3 1 (Zaa underlying152 hg 1 _ rfl).2 (by kernel_rfl));exact⟨(z0,z1),e0,e1⟩
theorem Zaha {v:Value} (h:Rz enc w base spare held 91 [v]):∃l,RowsOf 4 RelC w v l:=
 Zd2 underlying91 (k:=4) (by kernel_rfl) (by omega) (of_decide_eq_true (by kernel_rfl)) h fun g hg=>by
  obtain⟨z0,e0,_⟩:=Zlg (v:=g 0) (rzt 3 1 (Zaa underlying94 hg 0 _ rfl).2 (by kernel_rfl));obtain⟨z1,e1,_⟩:=Zlg (v:=g 1) (rzt 3 1 (Zaa underlying94 hg 1 _ rfl).2 (by kernel_rfl));obtain⟨b2,e2⟩:=Zahu (v:=g 2) (rzt 4 1 (Zaa underlying94 hg 2 _ rfl).2 (by kernel_rfl));obtain⟨sp,e3⟩:=Zadu (v:=g 3) (rzt 92 1 (Zaa underlying94 hg 3 _ rfl).2 (by kernel_rfl));exact⟨⟨z0,z1,b2,sp⟩,e0,e1,e2,e3⟩
theorem Zs9 {v:Value} (h:Rz enc w base spare held 48 [v]):∃c,CondAt w v c:=
 Zd2 underlying48 (k:=1) (by kernel_rfl) (by omega) (of_decide_eq_true (by kernel_rfl)) h fun g hg=>Zaha (v:=g 0) hg
theorem Ztd {v:Value} (h:Rz enc w base spare held 38 [v]):∃l,RulesAt w v l:=
 Zd2 underlying38 (k:=2) (by kernel_rfl) (by omega) (of_decide_eq_true (by kernel_rfl)) h fun g hg=>by
  obtain⟨s,e0,_⟩:=Zln (v:=g 0) (rzt 9 1 (Zaa underlying51 hg 0 _ rfl).2 (by kernel_rfl));obtain⟨c,e1⟩:=Zs9 (v:=g 1) (rzt 48 1 (Zaa underlying51 hg 1 _ rfl).2 (by kernel_rfl));exact⟨(s,c),e0,e1⟩
end
open Go.RowKit
def SzS (v:Value)(s:ByteArray):Prop:=v= .string s∧s.size≤140737488351232
def SzI (v:Value)(z:Int):Prop:=v= .int .i64 z∧-9223372036854775808≤z∧z≤9223372036854775807
def OneS (_:World)(x:Nat→Value)(s:ByteArray):Prop:=SzS (x 0) s
structure Lp where
 style:ByteArray
 two:ByteArray
 start:ByteArray
 mid:ByteArray
 fin:ByteArray
deriving Inhabited
structure LpC (_:World) (x:Nat→Value) (y:Lp):Prop where
 c0:SzS (x 0) y.style
 c1:SzS (x 1) y.two
 c2:SzS (x 2) y.start
 c3:SzS (x 3) y.mid
 c4:SzS (x 4) y.fin
theorem LpC.at {w w':World} {x:Nat→Value} {y:Lp} (h:LpC w x y):LpC w' x y:=⟨h.c0,h.c1,h.c2,h.c3,h.c4⟩
structure Up where
 unit:ByteArray
 cls:ByteArray
 pat:ByteArray
deriving Inhabited
structure UpC (_:World) (x:Nat→Value) (y:Up):Prop where
 c0:SzS (x 0) y.unit
 c1:SzS (x 1) y.cls
 c2:SzS (x 2) y.pat
theorem UpC.at {w w':World} {x:Nat→Value} {y:Up} (h:UpC w x y):UpC w' x y:=⟨h.c0,h.c1,h.c2⟩
structure Dp where
 skel:ByteArray
 pat:ByteArray
deriving Inhabited
structure DpC (_:World) (x:Nat→Value) (y:Dp):Prop where
 c0:SzS (x 0) y.skel
 c1:SzS (x 1) y.pat
theorem DpC.at {w w':World} {x:Nat→Value} {y:Dp} (h:DpC w x y):DpC w' x y:=⟨h.c0,h.c1⟩
structure Al where
 fro:ByteArray
 dst:ByteArray
deriving Inhabited
structure AlC (_:World) (x:Nat→Value) (y:Al):Prop where
 c0:SzS (x 0) y.fro
 c1:SzS (x 1) y.dst
theorem AlC.at {w w':World} {x:Nat→Value} {y:Al} (h:AlC w x y):AlC w' x y:=⟨h.c0,h.c1⟩
structure Ne where
 fro:ByteArray
 dst:ByteArray
 cost:Int
deriving Inhabited
structure NeC (_:World) (x:Nat→Value) (y:Ne):Prop where
 c0:SzS (x 0) y.fro
 c1:SzS (x 1) y.dst
 c2:SzI (x 2) y.cost
theorem NeC.at {w w':World} {x:Nat→Value} {y:Ne} (h:NeC w x y):NeC w' x y:=⟨h.c0,h.c1,h.c2⟩
structure Lc where
 tag:ByteArray
 par:ByteArray
 dir:ByteArray
 card:List (ByteArray×List (List Rel))
 ord:List (ByteArray×List (List Rel))
 dec:ByteArray
 grp:ByteArray
 mi:ByteArray
 pct:ByteArray
 pri:Int
 sec:Int
 lists:List Lp
 units:List Up
 dates:List Dp
 months:List ByteArray
 days:List ByteArray
deriving Inhabited
structure LcC (w:World) (x:Nat→Value) (y:Lc):Prop where
 c0:SzS (x 0) y.tag
 c1:SzS (x 1) y.par
 c2:SzS (x 2) y.dir
 c3:RulesAt w (x 3) y.card
 c4:RulesAt w (x 4) y.ord
 c5:SzS (x 5) y.dec
 c6:SzS (x 6) y.grp
 c7:SzS (x 7) y.mi
 c8:SzS (x 8) y.pct
 c9:SzI (x 9) y.pri
 c10:SzI (x 10) y.sec
 c11:RowsOf 5 LpC w (x 11) y.lists
 c12:RowsOf 3 UpC w (x 12) y.units
 c13:RowsOf 2 DpC w (x 13) y.dates
 c14:RowsOf 1 OneS w (x 14) y.months
 c15:RowsOf 1 OneS w (x 15) y.days
theorem LcC.below {w w':World} {x:Nat→Value} {y:Lc} (h:LcC w x y)(hb:Below w.heap.size w w'):LcC w' x y:=
 ⟨h.c0,h.c1,h.c2,h.c3.below hb,h.c4.below hb,h.c5,h.c6,h.c7,h.c8,h.c9,h.c10,h.c11.map hb fun _ _ h=>⟨h.c0,h.c1,h.c2,h.c3,h.c4⟩,h.c12.map hb fun _ _ h=>⟨h.c0,h.c1,h.c2⟩,h.c13.map hb fun _ _ h=>⟨h.c0,h.c1⟩,h.c14.map hb fun _ _ h=>h,h.c15.map hb fun _ _ h=>h⟩
structure Tb where
 locs:List Lc
 als:List Al
 near:List Ne
deriving Inhabited
structure TbC (w:World) (x:Nat→Value) (y:Tb):Prop where
 c0:RowsOf 16 LcC w (x 0) y.locs
 c1:RowsOf 2 AlC w (x 1) y.als
 c2:RowsOf 3 NeC w (x 2) y.near
theorem TbC.below {w w':World} {x:Nat→Value} {y:Tb} (h:TbC w x y)(hb:Below w.heap.size w w'):TbC w' x y:=
 ⟨h.c0.map hb fun _ _ h=>h.below hb,h.c1.map hb fun _ _ h=>⟨h.c0,h.c1⟩,h.c2.map hb fun _ _ h=>⟨h.c0,h.c1,h.c2⟩⟩
theorem RowsOf.opn {α:Type} {k:Nat} {C:World→(Nat→Value)→α→Prop} {w:World} {v:Value} {l:List α} (h:RowsOf k C w v l):
  ∃ad c f b off,v= .slice ad l.length c∧Rw w ad l.length k f b off∧(ad=none→c=0)∧l.length≤c∧l.length≤140737488351232∧∀i (hi:i<l.length),C w (f i) l[i]:=by
 obtain⟨ad,c,f,b,off,h1,h2,h3,h4,h5,h6⟩:=h;exact⟨ad,c,f,b,off,h1,h2,h3,h4,h5,fun i hi=>h6 i _ (List.getElem?_eq_getElem hi)⟩
theorem RowsOf.nil {α:Type} (k:Nat)(C:World→(Nat→Value)→α→Prop)(w:World):RowsOf k C w (.slice none 0 0) ([]:List α):=
 ⟨none,0,fun _ _=>undef,0,0,rfl,⟨zero_le _,fun h=>absurd rfl h,fun i j hi=>absurd hi (not_lt_zero _)⟩,fun _=>rfl,Nat.le_refl _,zero_le _,fun i x hx=>by simp at hx⟩
open Go.ChangeShapes Go.WideShapes Go.RowKit
section
variable {H : Type} {enc : TypeId × Value → H} {w : World} {base : Nat} {spare : Nat → Bool} {held : Bool}
theorem Zau {v:Value} (h:Rz enc w base spare held 9 [v]):∃s,SzS v s:=by
 obtain⟨s,e,hs⟩:=Zln h;exact⟨s,e,hs⟩
theorem Zsw {v:Value} (h:Rz enc w base spare held 3 [v]):∃z,SzI v z:=by
 obtain⟨z,e,h1,h2⟩:=Zlg h;exact⟨z,e,h1,h2⟩
theorem Zvt {v:Value} (h:Rz enc w base spare held 44 [v]):∃l,RowsOf 1 OneS w v l:=
 Zd2 underlying44 (k:=1) (by kernel_rfl) (by omega) (of_decide_eq_true (by kernel_rfl)) h fun g hg=>Zau (v:=g 0) hg
theorem Zakz {g:Nat→Value} (hg:Rz enc w base spare held 130 ((List.range 5).map g)):∃y,LpC w g y:=by
 obtain⟨y0,e0⟩:=Zau (v:=g 0) (rzt 9 1 (Zaa underlying130 hg 0 _ rfl).2 (by kernel_rfl));obtain⟨y1,e1⟩:=Zau (v:=g 1) (rzt 9 1 (Zaa underlying130 hg 1 _ rfl).2 (by kernel_rfl));obtain⟨y2,e2⟩:=Zau (v:=g 2) (rzt 9 1 (Zaa underlying130 hg 2 _ rfl).2 (by kernel_rfl));obtain⟨y3,e3⟩:=Zau (v:=g 3) (rzt 9 1 (Zaa underlying130 hg 3 _ rfl).2 (by kernel_rfl));obtain⟨y4,e4⟩:=Zau (v:=g 4) (rzt 9 1 (Zaa underlying130 hg 4 _ rfl).2 (by kernel_rfl));exact⟨⟨y0,y1,y2,y3,y4⟩,⟨e0,e1,e2,e3,e4⟩⟩
theorem Zaix {v:Value} (h:Rz enc w base spare held 41 [v]):∃l,RowsOf 5 LpC w v l:=
 Zd2 underlying41 (k:=5) (by kernel_rfl) (by omega) (of_decide_eq_true (by kernel_rfl)) h fun g hg=>Zakz hg
theorem Zalf {g:Nat→Value} (hg:Rz enc w base spare held 132 ((List.range 3).map g)):∃y,UpC w g y:=by
 obtain⟨y0,e0⟩:=Zau (v:=g 0) (rzt 9 1 (Zaa underlying132 hg 0 _ rfl).2 (by kernel_rfl));obtain⟨y1,e1⟩:=Zau (v:=g 1) (rzt 9 1 (Zaa underlying132 hg 1 _ rfl).2 (by kernel_rfl));obtain⟨y2,e2⟩:=Zau (v:=g 2) (rzt 9 1 (Zaa underlying132 hg 2 _ rfl).2 (by kernel_rfl));exact⟨⟨y0,y1,y2⟩,⟨e0,e1,e2⟩⟩
theorem Zait {v:Value} (h:Rz enc w base spare held 42 [v]):∃l,RowsOf 3 UpC w v l:=
 Zd2 underlying42 (k:=3) (by kernel_rfl) (by omega) (of_decide_eq_true (by kernel_rfl)) h fun g hg=>Zalf hg
theorem Zalc {g:Nat→Value} (hg:Rz enc w base spare held 134 ((List.range 2).map g)):∃y,DpC w g y:=by
 obtain⟨y0,e0⟩:=Zau (v:=g 0) (rzt 9 1 (Zaa underlying134 hg 0 _ rfl).2 (by kernel_rfl));obtain⟨y1,e1⟩:=Zau (v:=g 1) (rzt 9 1 (Zaa underlying134 hg 1 _ rfl).2 (by kernel_rfl));exact⟨⟨y0,y1⟩,⟨e0,e1⟩⟩
theorem Zajk {v:Value} (h:Rz enc w base spare held 43 [v]):∃l,RowsOf 2 DpC w v l:=
 Zd2 underlying43 (k:=2) (by kernel_rfl) (by omega) (of_decide_eq_true (by kernel_rfl)) h fun g hg=>Zalc hg
theorem Zalm {g:Nat→Value} (hg:Rz enc w base spare held 61 ((List.range 2).map g)):∃y,AlC w g y:=by
 obtain⟨y0,e0⟩:=Zau (v:=g 0) (rzt 9 1 (Zaa underlying61 hg 0 _ rfl).2 (by kernel_rfl));obtain⟨y1,e1⟩:=Zau (v:=g 1) (rzt 9 1 (Zaa underlying61 hg 1 _ rfl).2 (by kernel_rfl));exact⟨⟨y0,y1⟩,⟨e0,e1⟩⟩
theorem Zaki {v:Value} (h:Rz enc w base spare held 24 [v]):∃l,RowsOf 2 AlC w v l:=
 Zd2 underlying24 (k:=2) (by kernel_rfl) (by omega) (of_decide_eq_true (by kernel_rfl)) h fun g hg=>Zalm hg
theorem Zalk {g:Nat→Value} (hg:Rz enc w base spare held 58 ((List.range 3).map g)):∃y,NeC w g y:=by
 obtain⟨y0,e0⟩:=Zau (v:=g 0) (rzt 9 1 (Zaa underlying58 hg 0 _ rfl).2 (by kernel_rfl));obtain⟨y1,e1⟩:=Zau (v:=g 1) (rzt 9 1 (Zaa underlying58 hg 1 _ rfl).2 (by kernel_rfl));obtain⟨y2,e2⟩:=Zsw (v:=g 2) (rzt 3 1 (Zaa underlying58 hg 2 _ rfl).2 (by kernel_rfl));exact⟨⟨y0,y1,y2⟩,⟨e0,e1,e2⟩⟩
theorem Zajw {v:Value} (h:Rz enc w base spare held 25 [v]):∃l,RowsOf 3 NeC w v l:=
 Zd2 underlying25 (k:=3) (by kernel_rfl) (by omega) (of_decide_eq_true (by kernel_rfl)) h fun g hg=>Zalk hg
theorem Zalj {g:Nat→Value} (hg:Rz enc w base spare held 40 ((List.range 6).map g)):∃y0 y1 y2 y3 y4 y5,SzS (g 0) y0∧SzS (g 1) y1∧SzS (g 2) y2∧SzS (g 3) y3∧SzI (g 4) y4∧SzI (g 5) y5:=by
 obtain⟨y0,e0⟩:=Zau (v:=g 0) (rzt 9 1 (Zaa underlying40 hg 0 _ rfl).2 (by kernel_rfl));obtain⟨y1,e1⟩:=Zau (v:=g 1) (rzt 9 1 (Zaa underlying40 hg 1 _ rfl).2 (by kernel_rfl));obtain⟨y2,e2⟩:=Zau (v:=g 2) (rzt 9 1 (Zaa underlying40 hg 2 _ rfl).2 (by kernel_rfl));obtain⟨y3,e3⟩:=Zau (v:=g 3) (rzt 9 1 (Zaa underlying40 hg 3 _ rfl).2 (by kernel_rfl));obtain⟨y4,e4⟩:=Zsw (v:=g 4) (rzt 3 1 (Zaa underlying40 hg 4 _ rfl).2 (by kernel_rfl));obtain⟨y5,e5⟩:=Zsw (v:=g 5) (rzt 3 1 (Zaa underlying40 hg 5 _ rfl).2 (by kernel_rfl));exact⟨y0,y1,y2,y3,y4,y5,e0,e1,e2,e3,e4,e5⟩
theorem Zald {g:Nat→Value} (hg:Rz enc w base spare held 46 ((List.range 16).map g)):∃y,LcC w g y:=by
 obtain⟨y0,e0⟩:=Zau (v:=g 0) (rzt 9 1 (Zaa underlying46 hg 0 _ rfl).2 (by kernel_rfl));obtain⟨y1,e1⟩:=Zau (v:=g 1) (rzt 9 1 (Zaa underlying46 hg 1 _ rfl).2 (by kernel_rfl));obtain⟨y2,e2⟩:=Zau (v:=g 2) (rzt 9 1 (Zaa underlying46 hg 2 _ rfl).2 (by kernel_rfl));obtain⟨y3,e3⟩:=Ztd (v:=g 3) (rzt 38 1 (Zaa underlying46 hg 3 _ rfl).2 (by kernel_rfl));obtain⟨y4,e4⟩:=Ztd (v:=g 4) (rzt 38 1 (Zaa underlying46 hg 4 _ rfl).2 (by kernel_rfl));obtain⟨y5,y6,y7,y8,y9,y10,e5,e6,e7,e8,e9,e10⟩:=Zalj (enc:=enc) (w:=w) (base:=base) (spare:=spare) (held:=held) (g:=fun i=>g (5+i)) (rzt 40 6 (Zaa underlying46 hg 5 _ rfl).2 (by kernel_rfl));obtain⟨y11,e11⟩:=Zaix (v:=g 11) (rzt 41 1 (Zaa underlying46 hg 6 _ rfl).2 (by kernel_rfl));obtain⟨y12,e12⟩:=Zait (v:=g 12) (rzt 42 1 (Zaa underlying46 hg 7 _ rfl).2 (by kernel_rfl));obtain⟨y13,e13⟩:=Zajk (v:=g 13) (rzt 43 1 (Zaa underlying46 hg 8 _ rfl).2 (by kernel_rfl));obtain⟨y14,e14⟩:=Zvt (v:=g 14) (rzt 44 1 (Zaa underlying46 hg 9 _ rfl).2 (by kernel_rfl));obtain⟨y15,e15⟩:=Zvt (v:=g 15) (rzt 44 1 (Zaa underlying46 hg 10 _ rfl).2 (by kernel_rfl));exact⟨⟨y0,y1,y2,y3,y4,y5,y6,y7,y8,y9,y10,y11,y12,y13,y14,y15⟩,⟨e0,e1,e2,e3,e4,e5,e6,e7,e8,e9,e10,e11,e12,e13,e14,e15⟩⟩
end
section
variable {H : Type} {enc : TypeId × Value → H} {w : World} {base : Nat} {spare : Nat → Bool} {held : Bool}
theorem RowsOf.split {α:Type} {k:Nat} {C:World→(Nat→Value)→α→Prop} {Q:α→Prop} {w:World} {v:Value} {l:List α} (h:RowsOf k (fun w x a=>C w x a∧Q a) w v l):RowsOf k C w v l∧∀a∈l,Q a:=by
 obtain⟨ad,c,f,b,off,h1,h2,h3,h4,h5,h6⟩:=h;refine⟨⟨ad,c,f,b,off,h1,h2,h3,h4,h5,fun i x hx=>(h6 i x hx).1⟩,fun a ha=>?_⟩;obtain⟨i,hi,rfl⟩:=List.getElem_of_mem ha;exact(h6 i _ (List.getElem?_eq_getElem hi)).2
def RuZ (r:ByteArray×List (List Rel)):Prop:=r.1.size≤140737488351232
theorem Zqh {v:Value} (h:Rz enc w base spare held 38 [v]):∃l,RulesAt w v l∧∀r∈l,RuZ r:=by
 have h0:∃l,RowsOf 2 (fun w x r=>RuleC w x r∧RuZ r) w v l:=
  Zd2 underlying38 (k:=2) (by kernel_rfl) (by omega) (of_decide_eq_true (by kernel_rfl)) h fun g hg=>by
   obtain⟨s,e0,hs⟩:=Zau (v:=g 0) (rzt 9 1 (Zaa underlying51 hg 0 _ rfl).2 (by kernel_rfl));obtain⟨c,e1⟩:=Zs9 (v:=g 1) (rzt 48 1 (Zaa underlying51 hg 1 _ rfl).2 (by kernel_rfl));exact⟨(s,c),⟨e0,e1⟩,hs⟩
 obtain⟨l,hl⟩:=h0;exact⟨l,hl.split⟩
theorem Zms {v:Value} {l m:List (ByteArray×List (List Rel))} (h:RulesAt w v l)(g:RulesAt w v m)(hm:∀r∈m,RuZ r):∀r∈l,RuZ r:=by
 obtain⟨a1,c1,f1,b1,o1,e1,r1,_,_,_,k1⟩:=RowsOf.opn h;obtain⟨a2,c2,f2,b2,o2,e2,r2,_,_,_,k2⟩:=RowsOf.opn g;rw[e1]at e2;injection e2 with ea el ec;subst ea;intro r hr;obtain⟨i,hi,rfl⟩:=List.getElem_of_mem hr;have Oz:i<m.length:=by omega
 have x1:=r1.cell i 0 hi (by omega);have x2:=r2.cell i 0 Oz (by omega);have rG:=r1.adr (by omega);have cP:=r2.adr (by omega);rw[rG]at cP;injection cP with cP;injection cP with hb ho;subst hb ho;rw[x1]at x2;injection x2 with x2;have y1:=(k1 i hi).1;have y2:=(k2 i Oz).1;rw[y1,y2]at x2;injection x2 with x2;unfold RuZ;rw[x2];exact hm _ (List.getElem_mem Oz)
def Zir (y:Lc):Prop:=(∀r∈y.card,RuZ r)∧∀r∈y.ord,RuZ r
theorem Zajc {g:Nat→Value} (hg:Rz enc w base spare held 46 ((List.range 16).map g)):∃y,LcC w g y∧Zir y:=by
 obtain⟨y,hy⟩:=Zald hg;obtain⟨y3,e3,s3⟩:=Zqh (v:=g 3) (rzt 38 1 (Zaa underlying46 hg 3 _ rfl).2 (by kernel_rfl));obtain⟨y4,e4,s4⟩:=Zqh (v:=g 4) (rzt 38 1 (Zaa underlying46 hg 4 _ rfl).2 (by kernel_rfl));exact⟨y,hy,Zms hy.c3 e3 s3,Zms hy.c4 e4 s4⟩
theorem Zagc {v:Value} (h:Rz enc w base spare held 23 [v]):∃l,RowsOf 16 LcC w v l∧∀y∈l,Zir y:=by
 have h0:∃l,RowsOf 16 (fun w x y=>LcC w x y∧Zir y) w v l:=Zd2 underlying23 (k:=16) (by kernel_rfl) (by omega) (of_decide_eq_true (by kernel_rfl)) h fun g hg=>Zajc hg;obtain⟨l,hl⟩:=h0;exact⟨l,hl.split⟩
theorem Zakh {g:Nat→Value} (hg:Rz enc w base spare held 27 ((List.range 3).map g)):∃y,TbC w g y∧∀z∈y.locs,Zir z:=by
 obtain⟨y0,e0,s0⟩:=Zagc (v:=g 0) (rzt 23 1 (Zaa underlying27 hg 0 _ rfl).2 (by kernel_rfl));obtain⟨y1,e1⟩:=Zaki (v:=g 1) (rzt 24 1 (Zaa underlying27 hg 1 _ rfl).2 (by kernel_rfl));obtain⟨y2,e2⟩:=Zajw (v:=g 2) (rzt 25 1 (Zaa underlying27 hg 2 _ rfl).2 (by kernel_rfl));exact⟨⟨y0,y1,y2⟩,⟨e0,e1,e2⟩,s0⟩
theorem Zz6 {cs:List Value} (h:Rz enc w base spare held 27 cs):∃(x:Nat→Value) (y:_),cs=(List.range 3).map x∧TbC w x y∧∀z∈y.locs,Zir z:=by
 have hl:cs.length=3:=(Zaa underlying27 h 0 _ rfl).1.trans (by kernel_rfl)
 match cs,hl with
 |[x0,x1,x2],_=>
  obtain⟨y,hy⟩:=Zakh (enc:=enc) (w:=w) (base:=base) (spare:=spare) (held:=held) (g:=fun i=>([x0,x1,x2]:List Value).getD i undef) h;exact⟨_,y,rfl,hy⟩
end
attribute [local go_sem] Ext.cell Ext.frozen
attribute [local go_sem ↓] Go.wp_at_zero Go.wp_at_succ
def Zc2 (p:Nat→Bool)(n:Nat):Int:=match (List.range n).find? p with
 |some i=>(i:Int)
 |none=> -1
def Zai (p:Nat→Bool)(n:Nat):Bool:=(List.range n).any p
theorem Zd9 {p:Nat→Bool} {n k:Nat} (hk:k<n)(hp:p k=true)(h:∀i,i<k→p i=false):Zc2 p n=k:=by
 have e:List.range n=List.range k++k::List.range' (k+1) (n - k - 1):=by
  rw[List.range_eq_range',List.range_eq_range',←List.range'_succ,show n - k - 1+1=n - k from by omega];have:=List.range'_append (s:=0) (m:=k) (n:=n - k) (step:=1);rw[show 0+1 *k=k from by omega,show k+(n - k)=n from by omega]at this;exact this.symm
 have h0:(List.range k).find? p=none:=List.find?_eq_none.2 fun i hi=>by rw[h i (List.mem_range.1 hi)];simp
 unfold Zc2;rw[e,List.find?_append,h0,List.find?_cons_of_pos hp];rfl
theorem Zcl {p:Nat→Bool} {n:Nat} (h:∀i,i<n→p i=false):Zc2 p n= -1:=by
 have h0:(List.range n).find? p=none:=List.find?_eq_none.2 fun i hi=>by rw[h i (List.mem_range.1 hi)];simp
 unfold Zc2;rw[h0]
theorem Zl3 (p:Nat→Bool)(n:Nat):(∃k,k<n∧p k=true∧(∀i,i<k→p i=false)∧Zc2 p n=k)∨(∀i,i<n→p i=false)∧Zc2 p n= -1:=by
 by_cases h:∃k,k<n∧p k=true
 ·obtain⟨k,hk,hp⟩:=h;have:∃k,(k<n∧p k=true)∧∀i,i<k→¬(i<n∧p i=true):=by
   induction k using Nat.strongRecOn with
   |ind k ih=>
    by_cases h2:∃j,j<k∧(j<n∧p j=true)
    ·obtain⟨j,hj,rH,rI⟩:=h2;exact ih j hj rH rI
    ·exact⟨k,⟨hk,hp⟩,fun i hi hc=>h2 ⟨i,hi,hc⟩⟩
  obtain⟨k,⟨hk,hp⟩,hm⟩:=this;have Tj:∀i,i<k→p i=false:=fun i hi=>by
   cases e:p i with
   |false=>rfl
   |true=>exact absurd ⟨by omega,e⟩ (hm i hi)
  exact .inl ⟨k,hk,hp,Tj,Zd9 hk hp Tj⟩
 ·have hm:∀i,i<n→p i=false:=fun i hi=>by
   cases e:p i with
   |false=>rfl
   |true=>exact absurd ⟨i,hi,e⟩ h
  exact .inr ⟨hm,Zcl hm⟩
theorem Zea (p:Nat→Bool)(n:Nat):decide (0≤Zc2 p n)=Zai p n:=by
 rcases Zl3 p n with⟨k,hk,hp,_,e⟩|⟨hm,e⟩
 ·rw[e,show Zai p n=true from List.any_eq_true.2 ⟨k,List.mem_range.2 hk,hp⟩];simp
 ·rw[e,show Zai p n=false from by
   unfold Zai;rw[←Bool.not_eq_true,any_eq_true];rintro⟨i,hi,hp⟩;rw[hm i (List.mem_range.1 hi)]at hp;cases hp]
  rfl
theorem Zhf {α:Type} (q:α→Bool)(l:List α)(d:α):Zai (fun i=>q (l.getD i d)) l.length=l.any q:=by
 rw[Bool.eq_iff_iff];unfold Zai;rw[any_eq_true,any_eq_true];constructor
 ·rintro⟨i,hi,h⟩;exact⟨_,Znl l i d (List.mem_range.1 hi),h⟩
 ·rintro⟨x,hx,h⟩;obtain⟨i,hi,rfl⟩:=List.getElem_of_mem hx;exact⟨i,List.mem_range.2 hi,by simpa [List.getD,List.getElem?_eq_getElem hi]using h⟩
theorem Zadl (p:Nat→Bool)(g:Nat)(lb:Array Value)(eg:∀args w,(callFunc g args).run prog w= .ok (.enter g args) w)(ad:Option Addr)(n c:Nat)(f:Nat→Nat→Value)(b off:Nat)(w:World)(hr:Rw w ad n 2 f b off)
  (hp:∀W i,i<n→Below w.heap.size w W→Calls prog g (#[.agg #[f i 0,f i 1]]++lb) W fun e w'=>e= .returned (.bool (p i))∧Below W.heap.size W w'):
  Calls prog 250 #[.slice ad n c,.func (.func g) #[] lb] w fun e w'=>e= .returned (.int .i64 (Zc2 p n))∧Below w.heap.size w w':=by
 have HR:=Hd hr;have HP:=Hd hp;have hm:=hr.max;clear hr hp
 go_enter func250,ntmps250
 go_wp2_with fail
 go_loopw [5,8] (fun _ v wr=>∃k:Nat,v= .int .i64 (k:Int)∧k≤n∧(∀i,i<k→p i=false)∧Below w.heap.size w wr) (fun _ v _=>n -(intOf v).toNat)
 case atStart=>exact⟨0,rfl,zero_le _,fun i hi=>absurd hi (not_lt_zero _),Below.refl _ _⟩
 case round=>
  obtain⟨k,rfl,Co,Df,Ak⟩:=hrel;have HM:=Hd Df;have Ac:=Hd Ak;clear Df Ak
  by_cases Aa:k<n
  ·have Au:=Hd (HR.out.below Ac.out);have Ci:=fun W=>Au.out.ix 38 51 underlying38 (by kernel_rfl) (by omega) Aa c W;have c0:wr.cell? ⟨b,off+k *2,none⟩=some (f k 0):=Au.out.cell k 0 Aa (by omega);have c1:wr.cell? ⟨b,off+k *2+1,none⟩=some (f k 1):=Au.out.cell k 1 Aa (by omega);have Af:=Hd (HP.out wr k Aa Ac.out);clear Au;cases hq:p k with
   |true=>
    have HQ:=Hd hq;rw[Hid,hq]at Af;clear hq
    go_wp2_with (go_at_fn g;refine Af.mono ?_;rintro e w' ⟨rfl,Cf⟩)
    go_ret;exact⟨Zbi (Zd9 Aa HQ.out HM.out).symm,Ac.out.trans (Cf.mono Ac.out.size)⟩
   |false=>
    have HQ:=Hd hq;rw[Hid,hq]at Af;clear hq
    go_wp2_with (go_at_fn g;refine Af.mono ?_;rintro e w' ⟨rfl,Cf⟩)
    go_roundw
    case rel=>
     refine⟨k+1,by go_num,by omega,fun i hi=>?_,Ac.out.trans (Cf.mono Ac.out.size)⟩
     by_cases e:i=k
     ·subst e;exact HQ.out
     ·exact HM.out i (by omega)
    case measure=>simp[intOf];omega
  ·obtain rfl:k=n:=by omega
   go_wp2_with fail
   go_ret;exact⟨Zbi (Zcl HM.out).symm,Ac.out⟩
theorem Zqq (p:Nat→Bool)(g:Nat)(lb:Array Value)(eg:∀args w,(callFunc g args).run prog w= .ok (.enter g args) w)(ad:Option Addr)(n c:Nat)(f:Nat→Nat→Value)(b off:Nat)(w:World)(hr:Rw w ad n 2 f b off)
  (hp:∀W i,i<n→Below w.heap.size w W→Calls prog g (#[.agg #[f i 0,f i 1]]++lb) W fun e w'=>e= .returned (.bool (p i))∧Below W.heap.size W w'):
  Calls prog 198 #[.slice ad n c,.func (.func g) #[] lb] w fun e w'=>e= .returned (.bool (Zai p n))∧Below w.heap.size w w':=by
 have HC:=Hd (Zadl p g lb eg ad n c f b off w hr hp);clear hr hp eg;rw[←Zea];generalize Zc2 p n=z at *
 go_enter func198,ntmps198
 go_wp2_with (go_at_call 250;refine HC.out.mono ?_;rintro e w' ⟨rfl,Cf⟩)
 go_ret;exact⟨rfl,Cf⟩
theorem Zafh (p:Nat→Bool)(g:Nat)(lb:Array Value)(eg:∀args w,(callFunc g args).run prog w= .ok (.enter g args) w)(ad:Option Addr)(n c:Nat)(f:Nat→Nat→Value)(b off:Nat)(w:World)(hr:Rw w ad n 4 f b off)
  (hp:∀W i,i<n→Below w.heap.size w W→Calls prog g (#[.agg #[f i 0,f i 1,f i 2,f i 3]]++lb) W fun e w'=>e= .returned (.bool (p i))∧Below W.heap.size W w'):
  Calls prog 251 #[.slice ad n c,.func (.func g) #[] lb] w fun e w'=>e= .returned (.int .i64 (Zc2 p n))∧Below w.heap.size w w':=by
 have HR:=Hd hr;have HP:=Hd hp;have hm:=hr.max;clear hr hp
 go_enter func251,ntmps251
 go_wp2_with fail
 go_loopw [5,8] (fun _ v wr=>∃k:Nat,v= .int .i64 (k:Int)∧k≤n∧(∀i,i<k→p i=false)∧Below w.heap.size w wr) (fun _ v _=>n -(intOf v).toNat)
 case atStart=>exact⟨0,rfl,zero_le _,fun i hi=>absurd hi (not_lt_zero _),Below.refl _ _⟩
 case round=>
  obtain⟨k,rfl,Co,Df,Ak⟩:=hrel;have HM:=Hd Df;have Ac:=Hd Ak;clear Df Ak
  by_cases Aa:k<n
  ·have Au:=Hd (HR.out.below Ac.out);have Ci:=fun W=>Au.out.ix 91 94 underlying91 (by kernel_rfl) (by omega) Aa c W;have c0:wr.cell? ⟨b,off+k *4,none⟩=some (f k 0):=Au.out.cell k 0 Aa (by omega);have c1:wr.cell? ⟨b,off+k *4+1,none⟩=some (f k 1):=Au.out.cell k 1 Aa (by omega);have c2:wr.cell? ⟨b,off+k *4+2,none⟩=some (f k 2):=Au.out.cell k 2 Aa (by omega);have c3:wr.cell? ⟨b,off+k *4+3,none⟩=some (f k 3):=Au.out.cell k 3 Aa (by omega);have Af:=Hd (HP.out wr k Aa Ac.out);clear Au;cases hq:p k with
   |true=>
    have HQ:=Hd hq;rw[Hid,hq]at Af;clear hq
    go_wp2_with (go_at_fn g;refine Af.mono ?_;rintro e w' ⟨rfl,Cf⟩)
    go_ret;exact⟨Zbi (Zd9 Aa HQ.out HM.out).symm,Ac.out.trans (Cf.mono Ac.out.size)⟩
   |false=>
    have HQ:=Hd hq;rw[Hid,hq]at Af;clear hq
    go_wp2_with (go_at_fn g;refine Af.mono ?_;rintro e w' ⟨rfl,Cf⟩)
    go_roundw
    case rel=>
     refine⟨k+1,by go_num,by omega,fun i hi=>?_,Ac.out.trans (Cf.mono Ac.out.size)⟩
     by_cases e:i=k
     ·subst e;exact HQ.out
     ·exact HM.out i (by omega)
    case measure=>simp[intOf];omega
  ·obtain rfl:k=n:=by omega
   go_wp2_with fail
   go_ret;exact⟨Zbi (Zcl HM.out).symm,Ac.out⟩
theorem Zabs (p:Nat→Bool)(g:Nat)(lb:Array Value)(eg:∀args w,(callFunc g args).run prog w= .ok (.enter g args) w)(ad:Option Addr)(n c:Nat)(f:Nat→Nat→Value)(b off:Nat)(w:World)(hr:Rw w ad n 4 f b off)
  (hp:∀W i,i<n→Below w.heap.size w W→Calls prog g (#[.agg #[f i 0,f i 1,f i 2,f i 3]]++lb) W fun e w'=>e= .returned (.bool (p i))∧Below W.heap.size W w'):
  Calls prog 200 #[.slice ad n c,.func (.func g) #[] lb] w fun e w'=>e= .returned (.bool (Zai p n))∧Below w.heap.size w w':=by
 have HC:=Hd (Zafh p g lb eg ad n c f b off w hr hp);clear hr hp eg;rw[←Zea];generalize Zc2 p n=z at *
 go_enter func200,ntmps200
 go_wp2_with (go_at_call 251;refine HC.out.mono ?_;rintro e w' ⟨rfl,Cf⟩)
 go_ret;exact⟨rfl,Cf⟩
def Zaeg (ss:List ByteArray)(x:ByteArray):Int:=Zc2 (fun i=>decide (ss.getD i .empty=x)) ss.length
def Zadr (zs:List Int)(x:Int):Int:=Zc2 (fun i=>decide (zs.getD i 0=x)) zs.length
theorem Zlp {α:Type} [DecidableEq α] [BEq α] [LawfulBEq α] (l:List α)(x d:α):Zai (fun i=>decide (l.getD i d=x)) l.length=l.contains x:=by
 rw[Zhf (fun y=>decide (y=x)),Bool.eq_iff_iff,any_eq_true,List.contains_iff_mem];constructor
 ·rintro⟨y,hy,e⟩;rw[←of_decide_eq_true e];exact hy
 ·exact fun h=>⟨x,h,decide_eq_true rfl⟩
theorem Zy1 (ad:Option Addr)(n c:Nat)(l:List Int)(x:Int)(w:World)(hr:Sl w ad n (Znh l)):
  Calls prog 317 #[.slice ad n c,.int .i64 x] w fun e w'=>e= .returned (.int .i64 (Zadr l x))∧w=w':=by
 obtain⟨b,off,hr⟩:=hr;have hn:l.length=n:=by have:=hr.len;rwa [Zut]at this
 have HN:=Hd hn;have HR:=Hd hr;have hm:=hr.max;clear hr hn
 go_enter func317,ntmps317
 go_wp2_with fail
 go_loop [5,8] (fun _ v=>∃k:Nat,v= .int .i64 (k:Int)∧k≤n∧(∀i,i<k→decide (l.getD i 0=x)=false)) (fun _ v=>n -(intOf v).toNat)
 case atStart=>exact⟨0,rfl,zero_le _,fun i hi=>absurd hi (not_lt_zero _)⟩
 case round=>
  obtain⟨k,rfl,Co,Df⟩:=hrel;have HM:=Hd Df;clear Df
  by_cases Aa:k<n
  ·have Ci:=fun W=>HR.out.ix 182 3 underlying182 (by kernel_rfl) Aa (c:=c) W;have hc:=HR.out.cell k Aa;rw[Zyw _ _ (by rw[HN.out];exact Aa)]at hc;have HK:Hid (∀b,(decide (l.getD k 0=x))=b→b=decide (l.getD k 0=x)):=fun _ h=>h.symm;clear HK
   by_cases he:l.getD k 0=x
   ·have HE:=Hd (decide_eq_true he);generalize l.getD k 0=y at hc he;have e1:(x==y)=true:=by rw[he];simp
    clear he
    go_wp2_with fail
    go_ret;exact⟨Zbi (Zd9 (by rw[HN.out];exact Aa) HE.out HM.out).symm,rfl⟩
   ·have HE:=Hd (decide_eq_false he);generalize l.getD k 0=y at hc he;have e1:(x==y)=false:=by rw[beq_eq_false_iff_ne];exact fun e=>he e.symm
    clear he
    go_wp2_with fail
    go_round
    case rel=>
     refine⟨k+1,by go_num,by omega,fun i hi=>?_⟩
     by_cases e:i=k
     ·subst e;exact HE.out
     ·exact HM.out i (by omega)
    case measure=>simp[intOf];omega
  ·obtain rfl:k=n:=by omega
   go_wp2_with fail
   go_ret;exact⟨Zbi (Zcl (by rw[HN.out];exact HM.out)).symm,rfl⟩
theorem Ztc (ad:Option Addr)(n c:Nat)(l:List Int)(x:Int)(w:World)(hr:Sl w ad n (Znh l)):
  Calls prog 294 #[.slice ad n c,.int .i64 x] w fun e w'=>e= .returned (.bool (l.contains x))∧w=w':=by
 have HC:=Hd (Zy1 ad n c l x w hr);clear hr;rw[←Zlp l x 0,←Zea]
 change Calls prog 294 #[.slice ad n c,.int .i64 x] w fun e w'=>e= .returned (.bool (decide (0≤Zadr l x)))∧w=w'
 generalize Zadr l x=z at *
 go_enter func294,ntmps294
 go_wp2_with (go_at_call 317;refine HC.out.mono ?_;rintro e _ ⟨rfl,rfl⟩)
 go_ret;exact⟨rfl,rfl⟩
theorem Zyj (ad:Option Addr)(n c:Nat)(l:List ByteArray)(x:ByteArray)(w:World)(hr:Sl w ad n (Zae l)):
  Calls prog 144 #[.slice ad n c,.string x] w fun e w'=>e= .returned (.int .i64 (Zaeg l x))∧w=w':=by
 obtain⟨b,off,hr⟩:=hr;have hn:l.length=n:=by have:=hr.len;rwa [Zco]at this
 have HN:=Hd hn;have HR:=Hd hr;have hm:=hr.max;clear hr hn
 go_enter func144,ntmps144
 go_wp2_with fail
 go_loop [5,8] (fun _ v=>∃k:Nat,v= .int .i64 (k:Int)∧k≤n∧(∀i,i<k→decide (l.getD i .empty=x)=false)) (fun _ v=>n -(intOf v).toNat)
 case atStart=>exact⟨0,rfl,zero_le _,fun i hi=>absurd hi (not_lt_zero _)⟩
 case round=>
  obtain⟨k,rfl,Co,Df⟩:=hrel;have HM:=Hd Df;clear Df
  by_cases Aa:k<n
  ·have Ci:=fun W=>HR.out.ix 44 9 underlying44 (by kernel_rfl) Aa (c:=c) W;have hc:=HR.out.cell k Aa;rw[Zlu _ _ (by rw[HN.out];exact Aa)]at hc;have HK:Hid (∀b,(decide (l.getD k .empty=x))=b→b=decide (l.getD k .empty=x)):=fun _ h=>h.symm;clear HK
   by_cases he:l.getD k .empty=x
   ·have HE:=Hd (decide_eq_true he);generalize l.getD k .empty=y at hc he;have e1:(x.toList==y.toList)=true:=by rw[he];simp
    clear he
    go_wp2_with fail
    go_ret;exact⟨Zbi (Zd9 (by rw[HN.out];exact Aa) HE.out HM.out).symm,rfl⟩
   ·have HE:=Hd (decide_eq_false he);generalize l.getD k .empty=y at hc he;have e1:(x.toList==y.toList)=false:=by rw[beq_eq_false_iff_ne];exact fun e=>he (ByteArray.ext (by simpa [ByteArray.toList_eq]using e.symm))
    clear he
    go_wp2_with fail
    go_round
    case rel=>
     refine⟨k+1,by go_num,by omega,fun i hi=>?_⟩
     by_cases e:i=k
     ·subst e;exact HE.out
     ·exact HM.out i (by omega)
    case measure=>simp[intOf];omega
  ·obtain rfl:k=n:=by omega
   go_wp2_with fail
   go_ret;exact⟨Zbi (Zcl (by rw[HN.out];exact HM.out)).symm,rfl⟩
theorem Zfs (ad:Option Addr)(n c:Nat)(l:List ByteArray)(x:ByteArray)(w:World)(hr:Sl w ad n (Zae l)):
  Calls prog 95 #[.slice ad n c,.string x] w fun e w'=>e= .returned (.bool (l.contains x))∧w=w':=by
 have HC:=Hd (Zyj ad n c l x w hr);clear hr;rw[←Zlp l x .empty,←Zea]
 change Calls prog 95 #[.slice ad n c,.string x] w fun e w'=>e= .returned (.bool (decide (0≤Zaeg l x)))∧w=w'
 generalize Zaeg l x=z at *
 go_enter func95,ntmps95
 go_wp2_with (go_at_call 144;refine HC.out.mono ?_;rintro e _ ⟨rfl,rfl⟩)
 go_ret;exact⟨rfl,rfl⟩
end Go.Proofs.YtmleeodfmmpdgaaGreatDoor
