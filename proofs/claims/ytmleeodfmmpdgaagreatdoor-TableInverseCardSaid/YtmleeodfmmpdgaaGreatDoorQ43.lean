/- Plain: a table's text is that of its parts; a valid table is read from its text. -/
import Derived.Test.YtmleeodfmmpdgaaGreatDoorQ42
namespace Go.Proofs.YtmleeodfmmpdgaaGreatDoor
open Go.RowKit
open _root_.List (all_cons all_nil append_assoc append_nil length_append length_cons length_singleton map_append map_cons mem_cons_of_mem mem_cons_self nodup_nil)
open _root_.Nat (add_comm zero_le)
theorem Zpl {α β:Type} (K:α→It)(get:Lc→List α)(put:Lc→List α→Lc)(key:α→β)(m:Nat)
  (h1:∀y l,get (put y l)=l) (h2:∀y l l',put (put y l) l'=put y l') (h3:∀y,put y (get y)=y)
  (Vt:∀x y,(K x).app y=put y (get y++[x])) (bM:∀x y,key x∉(get y).map key→(get y).length<m→(K x).new y):
  ∀(l:List α) (y:Lc),(∀x∈l,(K x).val)→((get y++l).map key).Nodup→(get y++l).length≤m→Fits (l.map K) y∧Zc5 (l.map K) y=put y (get y++l)
 |[],y,_,_,_=>⟨trivial,by rw[append_nil,h3];rfl⟩
 |x::l,y,hv,hn,hl=>by
  have e:get y++x::l=(get y++[x])++l:=by rw[append_assoc];rfl
  have hg:get ((K x).app y)=get y++[x]:=by rw[Vt,h1]
  have hx:key x∉(get y).map key:=by
   rw[map_append,List.nodup_append]at hn;intro hm;exact hn.2.2 _ hm _ (by rw[map_cons];exact mem_cons_self) rfl
  have Aa:(get y).length<m:=by rw[length_append,length_cons]at hl;omega
  obtain⟨i1,i2⟩:=Zpl K get put key m h1 h2 h3 Vt bM l ((K x).app y) (fun z hz=>hv z (mem_cons_of_mem _ hz)) (by rw[hg,←e];exact hn) (by rw[hg,←e];exact hl);refine⟨⟨hv x mem_cons_self,bM x y hx Aa,i1⟩,?_⟩;show Zc5 (l.map K) ((K x).app y)=_;rw[i2,hg,Vt,h2,e]
def Zpp (d:ByteArray):List It:=if d= .empty then []else [.dir d]
def Zph (y:Lc):List It:=if Zdq y then []else [.sym y.dec y.grp y.mi y.pct y.pri y.sec]
def Zpb (l:List ByteArray):List It:=if l=[]then []else [.mon l]
def Zpm (l:List ByteArray):List It:=if l=[]then []else [.day l]
def Zdm (y:Lc):List It:=Zpp y.dir++y.card.map .card++y.ord.map .ord++Zph y++y.lists.map .lst++y.units.map .uni++y.dates.map .dat++Zpb y.months++Zpm y.days
structure LocV1 (y:Lc):Prop where
 tag:Zb6 [y.tag]=true
 par:y.par= .empty∨Zb6 [y.par]=true
 dir:y.dir= .empty∨dirL.contains y.dir=true
 months:y.months=[]∨(y.months.length=12∧Zb2 y.months=true)
 days:y.days=[]∨(y.days.length=7∧Zb2 y.days=true)
 card:(y.card.map (·.1)).Nodup∧∀r∈y.card,Zb7 r=true
 ord:(y.ord.map (·.1)).Nodup∧∀r∈y.ord,Zb7 r=true
 sym:Zdq y=true∨(y.dec≠ .empty∧Zb2 [y.dec,y.grp,y.mi,y.pct]=true∧(0≤y.pri∧y.pri≤9)∧(0≤y.sec∧y.sec≤9))
 lists:y.lists.length≤10∧(y.lists.map Lp.style).Nodup∧∀x∈y.lists,Zes x=true
 units:y.units.length≤100∧(y.units.map fun u=>(u.unit,u.cls)).Nodup∧∀x∈y.units,Zed x=true
 dates:y.dates.length≤30∧(y.dates.map Dp.skel).Nodup∧∀x∈y.dates,Zev x=true
theorem Zih {α β:Type} [DecidableEq β] {key:α→β} {l:List α} (h:Zcv key l=true):(l.map key).Nodup:=of_decide_eq_true h
theorem Zje {y:Lc} (h:Zdo y=true):LocV1 y:=by
 unfold Zdo Znu Zme Ze1 Zg2 Zhx at h;simp only[Bool.and_eq_true,Bool.or_eq_true,decide_eq_true_eq]at h;obtain⟨⟨a1,a2,a3⟩,⟨b1,b2,b3,b4⟩,⟨c1,c2⟩,⟨d1,d2⟩,e,f1,f2,f3,f4,f5,f6,f7,f8,f9⟩:=h;refine⟨a1,a2,?_,?_,?_,⟨Zih c1,fun r hr=>List.all_eq_true.1 c2 r hr⟩,⟨Zih d1,fun r hr=>List.all_eq_true.1 d2 r hr⟩,?_,⟨f1,Zih f4,fun r hr=>List.all_eq_true.1 f7 r hr⟩,⟨f2,Zih f5,fun r hr=>List.all_eq_true.1 f8 r hr⟩,⟨f3,Zih f6,fun r hr=>List.all_eq_true.1 f9 r hr⟩⟩
 ·have h1:=List.contains_iff_mem.1 a3;rcases List.mem_cons.1 h1 with h2|h2
  ·exact .inl h2
  ·exact .inr (List.contains_iff_mem.2 h2)
 ·rcases b1 with b1|b1
  ·exact .inl (List.eq_nil_of_length_eq_zero b1)
  ·exact .inr ⟨b1,b3⟩
 ·rcases b2 with b2|b2
  ·exact .inl (List.eq_nil_of_length_eq_zero b2)
  ·exact .inr ⟨b2,b4⟩
 ·rcases e with e|⟨e1,e2,e3,e4,e5,e6⟩
  ·exact .inl e
  ·exact .inr ⟨e1,e2,⟨e3,e4⟩,⟨e5,e6⟩⟩
theorem Ztf {α:Type} [BEq α] [LawfulBEq α]:∀(l m:List α),l.Nodup→(∀x∈l,x∈m)→l.length≤m.length
 |[],_,_,_=>zero_le _
 |x::l,m,h,hs=>by
  rw[List.nodup_cons]at h;have hm:=hs x mem_cons_self;have ih:=Ztf l (m.erase x) h.2 (fun y hy=>(List.mem_erase_of_ne (fun e=>h.1 (by rw[←e];exact hy))).2 (hs y (mem_cons_of_mem _ hy)));have hp:=List.length_pos_of_mem hm;rw[List.length_erase_of_mem hm]at ih;rw[length_cons];omega
theorem Zj1 {l:List (ByteArray×List (List Rel))} (h:(l.map (·.1)).Nodup)(hv:∀r∈l,Zb7 r=true):l.length≤5:=by
 have:=Ztf _ classL h fun x hx=>by
  obtain⟨r,hr,rfl⟩:=List.mem_map.1 hx;exact List.contains_iff_mem.1 (Zc8 (hv r hr)).1
 rw[List.length_map]at this;exact this
section
variable (y z : Lc)
theorem Zahy (hy:y.dir= .empty) {d:ByteArray} (hd:d= .empty∨dirL.contains d=true):Fits (Zpp d) y∧Zc5 (Zpp d) y= { y with dir:=d } :=by
 unfold Zpp;split
 ·rename_i e;refine⟨trivial,?_⟩;rw[e,←hy];rfl
 ·rename_i e;exact⟨⟨hd.resolve_left e,hy,trivial⟩,rfl⟩
theorem Zacz (hy:y.card=[])(h:(z.card.map (·.1)).Nodup∧∀r∈z.card,Zb7 r=true):Fits (z.card.map .card) y∧Zc5 (z.card.map .card) y= { y with card:=z.card } :=by
 have:=Zpl It.card Lc.card (fun y l=> { y with card:=l }) (fun r:ByteArray×List (List Rel)=>r.1) 5 (fun _ _=>rfl) (fun _ _ _=>rfl) (fun _=>rfl) (fun _ _=>rfl) (fun _ _ h1 h2=>⟨h1,h2⟩) z.card y h.2 (by rw[hy];exact h.1) (by rw[hy];exact Zj1 h.1 h.2)
 rwa [hy]at this
theorem Zahc (hy:y.ord=[])(h:(z.ord.map (·.1)).Nodup∧∀r∈z.ord,Zb7 r=true):Fits (z.ord.map .ord) y∧Zc5 (z.ord.map .ord) y= { y with ord:=z.ord } :=by
 have:=Zpl It.ord Lc.ord (fun y l=> { y with ord:=l }) (fun r:ByteArray×List (List Rel)=>r.1) 5 (fun _ _=>rfl) (fun _ _ _=>rfl) (fun _=>rfl) (fun _ _=>rfl) (fun _ _ h1 h2=>⟨h1,h2⟩) z.ord y h.2 (by rw[hy];exact h.1) (by rw[hy];exact Zj1 h.1 h.2)
 rwa [hy]at this
theorem Zaak (hy:y.lists=[])(h:z.lists.length≤10∧(z.lists.map Lp.style).Nodup∧∀x∈z.lists,Zes x=true):Fits (z.lists.map .lst) y∧Zc5 (z.lists.map .lst) y= { y with lists:=z.lists } :=by
 have:=Zpl It.lst Lc.lists (fun y l=> { y with lists:=l }) Lp.style 10 (fun _ _=>rfl) (fun _ _ _=>rfl) (fun _=>rfl) (fun _ _=>rfl) (fun _ _ h1 h2=>⟨h1,h2⟩) z.lists y h.2.2 (by rw[hy];exact h.2.1) (by rw[hy];exact h.1)
 rwa [hy]at this
theorem Zaau (hy:y.units=[])(h:z.units.length≤100∧(z.units.map fun u=>(u.unit,u.cls)).Nodup∧∀x∈z.units,Zed x=true):Fits (z.units.map .uni) y∧Zc5 (z.units.map .uni) y= { y with units:=z.units } :=by
 have:=Zpl It.uni Lc.units (fun y l=> { y with units:=l }) (fun u:Up=>(u.unit,u.cls)) 100 (fun _ _=>rfl) (fun _ _ _=>rfl) (fun _=>rfl) (fun _ _=>rfl) (fun _ _ h1 h2=>⟨h1,h2⟩) z.units y h.2.2 (by rw[hy];exact h.2.1) (by rw[hy];exact h.1)
 rwa [hy]at this
theorem Zyk (hy:y.dates=[])(h:z.dates.length≤30∧(z.dates.map Dp.skel).Nodup∧∀x∈z.dates,Zev x=true):Fits (z.dates.map .dat) y∧Zc5 (z.dates.map .dat) y= { y with dates:=z.dates } :=by
 have:=Zpl It.dat Lc.dates (fun y l=> { y with dates:=l }) Dp.skel 30 (fun _ _=>rfl) (fun _ _ _=>rfl) (fun _=>rfl) (fun _ _=>rfl) (fun _ _ h1 h2=>⟨h1,h2⟩) z.dates y h.2.2 (by rw[hy];exact h.2.1) (by rw[hy];exact h.1)
 rwa [hy]at this
theorem Zahq (hy:y.months=[]) {l:List ByteArray} (h:l=[]∨(l.length=12∧Zb2 l=true)):Fits (Zpb l) y∧Zc5 (Zpb l) y= { y with months:=l } :=by
 unfold Zpb;split
 ·rename_i e;exact⟨trivial,by rw[e,←hy];rfl⟩
 ·rename_i e;exact⟨⟨h.resolve_left e,hy,trivial⟩,rfl⟩
theorem Zafn (hy:y.days=[]) {l:List ByteArray} (h:l=[]∨(l.length=7∧Zb2 l=true)):Fits (Zpm l) y∧Zc5 (Zpm l) y= { y with days:=l } :=by
 unfold Zpm;split
 ·rename_i e;exact⟨trivial,by rw[e,←hy];rfl⟩
 ·rename_i e;exact⟨⟨h.resolve_left e,hy,trivial⟩,rfl⟩
theorem Zagn (hy:y.dec= .empty∧y.grp= .empty∧y.mi= .empty∧y.pct= .empty∧y.pri=0∧y.sec=0)(h:Zdq z=true∨(z.dec≠ .empty∧Zb2 [z.dec,z.grp,z.mi,z.pct]=true∧(0≤z.pri∧z.pri≤9)∧(0≤z.sec∧z.sec≤9))):
  Fits (Zph z) y∧Zc5 (Zph z) y= { y with dec:=z.dec,grp:=z.grp,mi:=z.mi,pct:=z.pct,pri:=z.pri,sec:=z.sec } :=by
 unfold Zph;split
 ·rename_i e;obtain⟨a1,a2,a3,a4,a5,a6⟩:z.dec= .empty∧z.grp= .empty∧z.mi= .empty∧z.pct= .empty∧z.pri=0∧z.sec=0:=of_decide_eq_true e;obtain⟨b1,b2,b3,b4,b5,b6⟩:=hy;refine⟨trivial,?_⟩;rw[a1,a2,a3,a4,a5,a6];cases y;simp only at b1 b2 b3 b4 b5 b6;subst b1 b2 b3 b4 b5 b6;rfl
 ·rename_i e;exact⟨⟨h.resolve_left e,hy.1,trivial⟩,rfl⟩
end
theorem Zex {a b:List It} {y y' y'':Lc} (ha:Fits a y∧Zc5 a y=y')(hb:Fits b y'∧Zc5 b y'=y''):Fits (a++b) y∧Zc5 (a++b) y=y'':=by
 obtain⟨a1,rfl⟩:=ha;exact⟨a1.app hb.1,by rw[Zxh,hb.2]⟩
theorem Zaar {y:Lc} (h:LocV1 y):Fits (Zdm y) (lc0 y.tag y.par)∧Zc5 (Zdm y) (lc0 y.tag y.par)=y:=by
 unfold Zdm;have h1:=Zahy (lc0 y.tag y.par) rfl h.dir;have h2:=Zex h1 (Zacz _ y rfl h.card);have h3:=Zex h2 (Zahc _ y rfl h.ord);have h4:=Zex h3 (Zagn _ y ⟨rfl,rfl,rfl,rfl,rfl,rfl⟩ h.sym);have h5:=Zex h4 (Zaak _ y rfl h.lists);have h6:=Zex h5 (Zaau _ y rfl h.units);have h7:=Zex h6 (Zyk _ y rfl h.dates);have h8:=Zex h7 (Zahq _ rfl h.months);exact Zex h8 (Zafn _ rfl h.days)
theorem Fits.val:∀ {l:List It} {y:Lc},Fits l y→∀it∈l,it.val
 |x::l,y,h,it,hi=>by
  rcases List.mem_cons.1 hi with rfl|hi
  ·exact h.1
  ·exact Fits.val h.2.2 it hi
def Zji (t:Tb):List Pt:=t.locs.map (fun y=> .loc y.tag y.par (Zdm y))++t.als.map .al++t.near.map .ne
theorem Zth (s:ByteArray):Zeo (tx s)=qT s:=Zahl _
theorem Zabq (s:ByteArray):Zeo (wd s)=s.data.toList:=Zeq _
theorem Zlf (l:List ByteArray):(l.map tx).map Zeo=l.map qT:=by rw[List.map_map];exact List.map_congr_left fun s _=>Zth s
theorem Zle {α β γ:Type} (f:α→β)(g:β→List γ)(l:List α):(l.map f).flatMap g=l.flatMap fun x=>g (f x):=by rw[List.flatMap_map]
theorem Zxv (y:Lc):(Zdm y).flatMap It.txt=Zmg y:=by
 unfold Zdm Zmg;simp only[List.flatMap_append,Zle];have e1:(Zpp y.dir).flatMap It.txt=Zj7 y:=by
  unfold Zpp Zj7;split
  ·rfl
  ·show Zaw [9] ([(1,keyL.getD 0 []),wd y.dir].map Zeo)++[]=_;rw[append_nil];simp only[map_cons,List.map_nil,Zeq,Zabq];rfl
 have e2:y.card.flatMap (fun x=>(It.card x).txt)=Zbt [99,97,114,100,105,110,97,108] y.card:=by
  unfold Zbt;congr 1
 have e3:y.ord.flatMap (fun x=>(It.ord x).txt)=Zbt [111,114,100,105,110,97,108] y.ord:=by
  unfold Zbt;congr 1
 have e4:(Zph y).flatMap It.txt=if Zdq y then []else Zhk y:=by
  unfold Zph;split
  ·rfl
  ·show Zaw [9] (((1,keyL.getD 3 [])::([y.dec,y.grp,y.mi,y.pct].map tx++[(1,Lib.itoa y.pri),(1,Lib.itoa y.sec)])).map Zeo)++[]=Zhk y;rw[append_nil];simp only[map_cons,List.map_nil,map_append,Zeq,Zth];rfl
 have e5:y.lists.flatMap (fun x=>(It.lst x).txt)=y.lists.flatMap lpT:=by
  congr 1
 have e6:y.units.flatMap (fun x=>(It.uni x).txt)=y.units.flatMap upT:=by
  congr 1
 have e7:y.dates.flatMap (fun x=>(It.dat x).txt)=y.dates.flatMap dpT:=by
  congr 1
 have e8:(Zpb y.months).flatMap It.txt=if y.months=[]then []else Zbb [[109,111,110,116,104,115]] y.months:=by
  unfold Zpb;split
  ·rfl
  ·show Zaw [9] (((1,keyL.getD 7 [])::y.months.map tx).map Zeo)++[]=_;rw[append_nil,map_cons,Zlf,Zeq];rfl
 have e9:(Zpm y.days).flatMap It.txt=if y.days=[]then []else Zbb [[100,97,121,115]] y.days:=by
  unfold Zpm;split
  ·rfl
  ·show Zaw [9] (((1,keyL.getD 8 [])::y.days.map tx).map Zeo)++[]=_;rw[append_nil,map_cons,Zlf,Zeq];rfl
 rw[e1,e2,e3,e4,e5,e6,e7,e8,e9]
theorem Zace (y:Lc):Zi4 y.tag y.par ((Zdm y).flatMap It.txt)=Zcm y:=by
 rw[Zxv];unfold Zi4 Zcm Zgk;have e:(if y.par= .empty then([]:List UInt8)else 32::(Zf9++32::y.par.data.toList))=if y.par= .empty then []else [32,112,97,114,101,110,116,32]++y.par.data.toList:=by split <;> rfl
 rw[e];have e2:([108,111,99,97,108,101,32]:List UInt8)=Zfc++[32]:=rfl;rw[e2];simp only[append_assoc,List.cons_append,List.nil_append]
theorem Zadj (t:Tb):(Zji t).flatMap Pt.txt=Zck t:=by
 unfold Zji Zck;simp only[List.flatMap_append,Zle];have e:(t.locs.flatMap fun y=>(Pt.loc y.tag y.par (Zdm y)).txt)=t.locs.flatMap Zcm:=by
  congr 1;funext y;exact Zace y
 rw[e];rfl
structure TabV1 (t:Tb):Prop where
 n0:t.locs.length≤60
 n1:t.als.length≤200
 n2:t.near.length≤200
 locs:∀y∈t.locs,Zdo y=true
 als:∀x∈t.als,Zfy x=true
 near:∀x∈t.near,Zee x=true
theorem Zjd {t:Tb} (h:Zec t=true):TabV1 t:=by
 unfold Zec at h;simp only[Bool.and_eq_true,decide_eq_true_eq]at h;obtain⟨h1,h2,h3,h4,h5,h6⟩:=h;exact⟨h1,h2,h3,fun y hy=>List.all_eq_true.1 h4 y hy,fun y hy=>List.all_eq_true.1 h5 y hy,fun y hy=>List.all_eq_true.1 h6 y hy⟩
theorem Zsp:∀(l:List Lc) (t:Tb),(∀y∈l,Zdo y=true)→t.locs.length+l.length≤60→PFits (l.map fun y=> .loc y.tag y.par (Zdm y)) t∧Zfe (l.map fun y=> .loc y.tag y.par (Zdm y)) t= { t with locs:=t.locs++l }
 |[],t,_,_=>⟨trivial,by rw[append_nil];rfl⟩
 |y::l,t,h,hl=>by
  have hy:=Zje (h y mem_cons_self);obtain⟨f1,f2⟩:=Zaar hy;rw[length_cons]at hl;have ea:(Pt.loc y.tag y.par (Zdm y)).app t= { t with locs:=t.locs++[y] } :=by show({ t with locs:=t.locs++[Zc5 (Zdm y) (lc0 y.tag y.par)] } :Tb)=_;rw[f2]
  obtain⟨i1,i2⟩:=Zsp l ({ t with locs:=t.locs++[y] } :Tb) (fun z hz=>h z (mem_cons_of_mem _ hz)) (by simp;omega);refine⟨⟨⟨⟨hy.tag,hy.par⟩,f1,by omega⟩,by rw[ea];exact i1⟩,?_⟩;show Zfe (l.map fun y=> .loc y.tag y.par (Zdm y)) ((Pt.loc y.tag y.par (Zdm y)).app t)=_;rw[ea,i2];simp[append_assoc]
theorem Zwc:∀(l:List Al) (t:Tb),(∀y∈l,Zfy y=true)→t.als.length+l.length≤200→PFits (l.map .al) t∧Zfe (l.map .al) t= { t with als:=t.als++l }
 |[],t,_,_=>⟨trivial,by rw[append_nil];rfl⟩
 |y::l,t,h,hl=>by
  rw[length_cons]at hl;obtain⟨i1,i2⟩:=Zwc l ({ t with als:=t.als++[y] } :Tb) (fun z hz=>h z (mem_cons_of_mem _ hz)) (by simp;omega);refine⟨⟨⟨h y mem_cons_self,by omega⟩,i1⟩,?_⟩;show Zfe (l.map .al) ({ t with als:=t.als++[y] } :Tb)=_;rw[i2];simp[append_assoc]
theorem Zu7:∀(l:List Ne) (t:Tb),(∀y∈l,Zee y=true)→t.near.length+l.length≤200→PFits (l.map .ne) t∧Zfe (l.map .ne) t= { t with near:=t.near++l }
 |[],t,_,_=>⟨trivial,by rw[append_nil];rfl⟩
 |y::l,t,h,hl=>by
  rw[length_cons]at hl;obtain⟨i1,i2⟩:=Zu7 l ({ t with near:=t.near++[y] } :Tb) (fun z hz=>h z (mem_cons_of_mem _ hz)) (by simp;omega);refine⟨⟨⟨h y mem_cons_self,by omega⟩,i1⟩,?_⟩;show Zfe (l.map .ne) ({ t with near:=t.near++[y] } :Tb)=_;rw[i2];simp[append_assoc]
theorem PFits.vals:∀ {l:List Pt} {t:Tb},PFits l t→∀p∈l,p.val
 |q::l,t,h,p,hp=>by
  rcases List.mem_cons.1 hp with rfl|hp
  ·have:=h.1;cases p with
   |loc tag par l=>exact⟨this.1,this.2.1.val⟩
   |al x=>exact this.1
   |ne x=>exact this.1
  ·exact PFits.vals h.2 p hp
theorem Zza {t:Tb} (h:TabV1 t):PFits (Zji t) tb0∧Zfe (Zji t) tb0=t:=by
 unfold Zji;obtain⟨a1,a2⟩:=Zsp t.locs tb0 h.locs (by show 0+_≤_;have:=h.n0;omega);obtain⟨b1,b2⟩:=Zwc t.als ({ tb0 with locs:=tb0.locs++t.locs } :Tb) h.als (by show 0+_≤_;have:=h.n1;omega);obtain⟨c1,c2⟩:=Zu7 t.near ({ locs:=tb0.locs++t.locs,als:=tb0.als++t.als,near:=tb0.near } :Tb) h.near (by show 0+_≤_;have:=h.n2;omega);refine⟨PFits.app (PFits.app a1 (by rw[a2];exact b1)) (by rw[Zld,a2,b2];exact c1),?_⟩;rw[Zld,Zld,a2,b2,c2];rfl
theorem Zmx {t:Tb} (h:Zec t=true)(hz:(Zck t).length≤200000):Zal (Zck t)=(t,0,0):=by
 obtain⟨f1,f2⟩:=Zza (Zjd h);have hx:=Zty f1.vals;rw[Zadj]at hx;rw[Zx4 hz hx f1,f2]
theorem CP.take_e {s:List UInt8} {l:List ByteArray} {p:CP} (h:(p.take s l).2.err=0):p.err=0:=Classical.byContradiction fun he=>CP.take_bad he h
theorem CP.num_e {s:List UInt8} {chk:Int→Int} {p:CP} (h:(p.number s chk).2.err=0):p.err=0:=Classical.byContradiction fun he=>CP.num_grow he h
theorem CP.skip_e (s:List UInt8)(p:CP):(p.skip s).err=p.err:=rfl
theorem CP.number_val {s:List UInt8} {chk:Int→Int} {p:CP} (h:(p.number s chk).2.err=0):0≤(p.number s chk).1∧chk (p.number s chk).1=0:=by
 unfold CP.number at h⊢;dsimp only at h⊢;generalize (if Zg5 (Zag s p.pos)=true then p.skip s else(p.skip s).fail 3)=q at *
 by_cases hq:q.err=0
 ·rw[if_pos hq]at h⊢
  by_cases hc:chk (Zem (Zag s p.pos))=0
  ·rw[if_pos hc];exact⟨Int.natCast_nonneg _,hc⟩
  ·rw[if_neg hc]at h;exact absurd h (CP.fail_e hc q)
 ·rw[if_neg hq]at h;exact absurd h hq
theorem Zt1 {op n:Int} {k:Nat} (h:Zds op k n=0):n≤Zbe op∧k<4:=by
 unfold Zds at h;split at h
 ·exact absurd h (by decide)
 ·split at h
  ·exact absurd h (by decide)
  ·omega
theorem Zado {op x n:Int} (h:Zgo op x n=0):n≤Zbe op∧x≤n:=by
 unfold Zgo at h;split at h
 ·exact absurd h (by decide)
 ·omega
theorem CP.span_val {s:List UInt8} {op:Int} {k:Nat} {p:CP} (h:(CP.span s op k p).2.err=0):Zaz op (CP.span s op k p).1=true∧k<4∧p.err=0:=by
 unfold CP.span at h⊢;dsimp only at h⊢
 by_cases hm:(CP.next s [46,46] (CP.number s (Zds op k) p).2).1=true
 ·rw[if_pos hm]at h⊢;have h2:=CP.next_e (CP.num_e h);obtain⟨a1,a2⟩:=CP.number_val h2;obtain⟨b1,b2⟩:=CP.number_val h;obtain⟨c1,c2⟩:=Zt1 a2;obtain⟨d1,d2⟩:=Zado b2;refine⟨?_,c2,CP.num_e h2⟩;unfold Zaz;simp only[Bool.and_eq_true,decide_eq_true_eq];exact⟨⟨a1,d2⟩,d1⟩
 ·rw[if_neg hm]at h⊢;have h2:=CP.next_e h;obtain⟨a1,a2⟩:=CP.number_val h2;obtain⟨c1,c2⟩:=Zt1 a2;refine⟨?_,c2,CP.num_e h2⟩;unfold Zaz;simp only[Bool.and_eq_true,decide_eq_true_eq];exact⟨⟨a1,Int.le_refl _⟩,c1⟩
theorem CP.spans_e {s:List UInt8} {op:Int} {l:List (Int×Int)} {p:CP} {n:Nat} (h:(CP.spans s op n l p).2.err=0):p.err=0:=Classical.byContradiction fun he=>by
 rw[CP.spans_stop n he]at h;exact he h
theorem CP.spans_val {s:List UInt8} {op:Int} :∀(n:Nat) (l:List (Int×Int)) (p:CP),(∀x∈l,Zaz op x=true)→l.length≤4→(CP.spans s op n l p).2.err=0→
  (∀x∈(CP.spans s op n l p).1,Zaz op x=true)∧(CP.spans s op n l p).1.length≤4∧(0<n→0<(CP.spans s op n l p).1.length)
 |0,l,p,ho,hl,_=>⟨ho,hl,fun h=>absurd h (by decide)⟩
 |n+1,l,p,ho,hl,h=>by
  have he:=CP.spans_e h;rw[CP.spans,if_pos he]at h⊢;have Be:∀ {x:Int×Int},Zaz op x=true→∀y∈l++[x],Zaz op y=true:=fun hx y hy=>by
   rcases List.mem_append.1 hy with g|g
   ·exact ho y g
   ·rw[List.mem_singleton.1 g];exact hx
  by_cases hm:(CP.next s [44] (CP.span s op l.length p).2).1=true
  ·rw[if_pos hm]at h⊢;obtain⟨a1,a2,_⟩:=CP.span_val (CP.next_e (CP.spans_e h));have Jk:(l++[(CP.span s op l.length p).1]).length≤4:=by rw[length_append,length_singleton];omega
   obtain⟨i1,i2,i3⟩:=CP.spans_val n _ _ (Be a1) Jk h;refine⟨i1,i2,fun _=>?_⟩;cases n with
   |zero=>show 0<(l++[(CP.span s op l.length p).1]).length;rw[length_append,length_singleton];omega
   |succ n=>exact i3 (by omega)
  ·rw[if_neg hm]at h⊢;obtain⟨a1,a2,_⟩:=CP.span_val (CP.next_e h);refine⟨Be a1,?_,fun _=>?_⟩
   ·rw[length_append,length_singleton];omega
   ·rw[length_append,length_singleton];omega
theorem Zaam (t:List UInt8)(ht:t.length=1):Lib.index Zbh t≤6:=by
 have k:∀v:Fin 256,Lib.index Zbh [UInt8.ofNat v.1]≤6:=by decide+kernel
 match t,ht with
 |[c],_=>
  have:=k ⟨c.toNat,c.toNat_lt⟩
  simpa using this
theorem CP.head_val {s:List UInt8} {p:CP} (h:(p.relHead s).err=0):1≤Lib.index Zbh (Zag s p.pos)∧Lib.index Zbh (Zag s p.pos)≤6:=by
 rw[CP.head_eq]at h;have hl:(if decide ((Zag s p.pos).length=1)&& !decide (Lib.index Zbh (Zag s p.pos)<1)then p.skip s else(p.skip s).fail 3).err=0:=by
  generalize (if decide ((Zag s p.pos).length=1)&& !decide (Lib.index Zbh (Zag s p.pos)<1)then p.skip s else(p.skip s).fail 3)=q at *;unfold CP.lim at h;split at h
  ·exact absurd h (CP.fail_e (by decide) _)
  ·exact h
 by_cases hc:(decide ((Zag s p.pos).length=1)&& !decide (Lib.index Zbh (Zag s p.pos)<1))=true
 ·rw[Bool.and_eq_true,decide_eq_true_eq,Bool.not_eq_true',decide_eq_false_iff_not]at hc;exact⟨by omega,Zaam _ hc.1⟩
 ·rw[if_neg hc]at hl;exact absurd hl (CP.fail_e (by decide) _)
theorem CP.mod_val {s:List UInt8} {op:Int} {q:CP} (h:(CP.modulus s op q).2.err=0):((CP.modulus s op q).1=0∨Zdf op (CP.modulus s op q).1=true)∧q.err=0:=by
 unfold CP.modulus at h⊢
 by_cases hm:(CP.next s [37] q).1=true
 ·rw[if_pos hm]at h⊢;have h1:=(CP.number_val h).2;refine⟨.inr ?_,CP.next_e (CP.num_e h)⟩;unfold Zfh at h1;split at h1
  ·assumption
  ·exact absurd h1 (by decide)
 ·rw[if_neg hm]at h⊢;exact⟨.inl rfl,CP.next_e h⟩
attribute [local irreducible] CP.relation CP.next CP.take CP.number CP.modulus CP.spans CP.relHead Zag Zb9
theorem CP.relation_val {s:List UInt8} {p:CP} (h:(CP.relation s p).2.err=0):Zac (CP.relation s p).1=true∧p.rel+1≤6:=by
 refine⟨?_,CP.relation_lim h⟩;rw[CP.relation_eq s p _ _ rfl rfl]at h⊢;have h1:(CP.take s [bs [61],bs [33,61]] (CP.modulus s (Lib.index Zbh (Zag s p.pos)) (CP.take s [bs (Zag s p.pos)] (p.relHead s)).2).2).2.err=0:=CP.spans_e h;have h2:=CP.take_e h1;obtain⟨m1,m2⟩:=CP.mod_val h2;obtain⟨o1,o2⟩:=CP.head_val (CP.take_e m2);obtain⟨s1,s2,s3⟩:=CP.spans_val 6 [] _ (fun x hx=>by cases hx) (by decide) h;unfold Zac;simp only[Bool.and_eq_true,Bool.or_eq_true,decide_eq_true_eq];exact⟨⟨⟨⟨⟨o1,o2⟩,m1⟩,s3 (by decide)⟩,s2⟩,List.all_eq_true.2 s1⟩
theorem CP.conj_e {s:List UInt8} {n:Nat} {l:List Rel} {p:CP} (h:(CP.conj s n l p).2.err=0):p.err=0:=by
 cases n with
 |zero=>exact h
 |succ n=>
  by_cases he:p.err=0
  ·exact he
  ·rw[CP.conj,if_neg he]at h;exact h
theorem CP.conj_val {s:List UInt8} :∀(n:Nat) (l:List Rel) (p:CP),(∀r∈l,Zac r=true)→(CP.conj s n l p).2.err=0→
  (∀r∈(CP.conj s n l p).1,Zac r=true)∧(CP.conj s n l p).2.rel+l.length=p.rel+(CP.conj s n l p).1.length∧(0<n→l.length<(CP.conj s n l p).1.length∧(CP.conj s n l p).2.rel≤6)
 |0,l,p,ho,_=>⟨ho,add_comm _ _|>.trans (add_comm _ _),fun h=>absurd h (by decide)⟩
 |n+1,l,p,ho,h=>by
  have he:=CP.conj_e h;rw[CP.conj,if_pos he]at h⊢;have hr:=CP.relation_rel s p;have Be:∀ {x:Rel},Zac x=true→∀y∈l++[x],Zac y=true:=fun hx y hy=>by
   rcases List.mem_append.1 hy with g|g
   ·exact ho y g
   ·rw[List.mem_singleton.1 g];exact hx
  by_cases hm:(CP.next s Zcx (CP.relation s p).2).1=true
  ·rw[if_pos hm]at h⊢;have h1:=CP.next_e (CP.conj_e h);obtain⟨a1,a2⟩:=CP.relation_val h1;obtain⟨i1,i2,i3⟩:=CP.conj_val n _ _ (Be a1) h;rw[CP.next_rel,hr,length_append,length_singleton]at i2;refine⟨i1,by omega,fun _=>?_⟩;cases n with
   |zero=>
    refine⟨by show l.length<(l++[(CP.relation s p).1]).length;rw[length_append,length_singleton];omega,?_⟩;show(CP.next s Zcx (CP.relation s p).2).2.rel≤6;rw[CP.next_rel,hr];exact a2
   |succ n=>
    obtain⟨j1,j2⟩:=i3 (by omega);rw[length_append,length_singleton]at j1;exact⟨by omega,j2⟩
  ·rw[if_neg hm]at h⊢;obtain⟨a1,a2⟩:=CP.relation_val (CP.next_e h);refine⟨Be a1,?_,fun _=>⟨?_,?_⟩⟩
   ·show(CP.next s Zcx (CP.relation s p).2).2.rel+l.length=p.rel+(l++[(CP.relation s p).1]).length;rw[CP.next_rel,hr,length_append,length_singleton];omega
   ·show l.length<(l++[(CP.relation s p).1]).length;rw[length_append,length_singleton];omega
   ·show(CP.next s Zcx (CP.relation s p).2).2.rel≤6;rw[CP.next_rel,hr];exact a2
attribute [local irreducible] CP.conj
theorem CP.disj_e {s:List UInt8} {n:Nat} {l:List (List Rel)} {p:CP} (h:(CP.disj s n l p).2.err=0):p.err=0:=by
 cases n with
 |zero=>exact h
 |succ n=>
  by_cases he:p.err=0
  ·exact he
  ·rw[CP.disj,if_neg he]at h;exact h
theorem Zti (c:List (List Rel))(x:List Rel):Zbf (c++[x])=Zbf c+x.length:=by unfold Zbf;rw[map_append,List.sum_append];simp
theorem CP.disj_val {s:List UInt8} :∀(n:Nat) (l:List (List Rel)) (p:CP),(∀r∈l,Zc0 r=true)→(CP.disj s n l p).2.err=0→
  (∀r∈(CP.disj s n l p).1,Zc0 r=true)∧(CP.disj s n l p).2.rel+Zbf l=p.rel+Zbf (CP.disj s n l p).1∧(0<n→(CP.disj s n l p).1≠[]∧(CP.disj s n l p).2.rel≤6)
 |0,l,p,ho,_=>⟨ho,add_comm _ _|>.trans (add_comm _ _),fun h=>absurd h (by decide)⟩
 |n+1,l,p,ho,h=>by
  have he:=CP.disj_e h;rw[CP.disj,if_pos he]at h⊢;have Be:∀ {x:List Rel},Zc0 x=true→∀y∈l++[x],Zc0 y=true:=fun hx y hy=>by
   rcases List.mem_append.1 hy with g|g
   ·exact ho y g
   ·rw[List.mem_singleton.1 g];exact hx
  have hc:(CP.conj s 8 [] p).2.err=0→Zc0 (CP.conj s 8 [] p).1=true∧(CP.conj s 8 [] p).2.rel=p.rel+(CP.conj s 8 [] p).1.length∧(CP.conj s 8 [] p).2.rel≤6:=fun g=>by
   obtain⟨a1,a2,a3⟩:=CP.conj_val 8 [] p (fun r hr=>by cases hr) g;obtain⟨b1,b2⟩:=a3 (by decide);refine⟨?_,by rw[List.length_nil]at a2;omega,b2⟩;unfold Zc0;rw[Bool.and_eq_true];refine⟨?_,List.all_eq_true.2 a1⟩;generalize (CP.conj s 8 [] p).1=q at *;cases q with
   |nil=>exact absurd b1 (by decide)
   |cons _ _=>rfl
  by_cases hm:(CP.next s orB (CP.conj s 8 [] p).2).1=true
  ·rw[if_pos hm]at h⊢;obtain⟨a1,a2,a3⟩:=hc (CP.next_e (CP.disj_e h));obtain⟨i1,i2,i3⟩:=CP.disj_val n _ _ (Be a1) h;rw[CP.next_rel,a2,Zti]at i2;refine⟨i1,by omega,fun _=>?_⟩;cases n with
   |zero=>
    refine⟨by show l++[(CP.conj s 8 [] p).1]≠[];simp,?_⟩;show(CP.next s orB (CP.conj s 8 [] p).2).2.rel≤6;rw[CP.next_rel];exact a3
   |succ n=>exact i3 (by omega)
  ·rw[if_neg hm]at h⊢;obtain⟨a1,a2,a3⟩:=hc (CP.next_e h);refine⟨Be a1,?_,fun _=>⟨by show l++[(CP.conj s 8 [] p).1]≠[];simp,?_⟩⟩
   ·show(CP.next s orB (CP.conj s 8 [] p).2).2.rel+Zbf l=p.rel+Zbf (l++[(CP.conj s 8 [] p).1]);rw[CP.next_rel,a2,Zti];omega
   ·show(CP.next s orB (CP.conj s 8 [] p).2).2.rel≤6;rw[CP.next_rel];exact a3
attribute [local irreducible] CP.disj CP.skip
theorem Zabx {s:List UInt8} (h:(Zb3 s).2.2=0):Zbw (Zb3 s).1=true:=by
 unfold Zb3 at h⊢;dsimp only at h⊢
 by_cases hq:(if((CP.disj s 8 [] ⟨0,0,0⟩).2.skip s).pos<s.length then((CP.disj s 8 [] ⟨0,0,0⟩).2.skip s).fail 3 else(CP.disj s 8 [] ⟨0,0,0⟩).2.skip s).err=0
 ·rw[if_pos hq];have he:(CP.disj s 8 [] ⟨0,0,0⟩).2.err=0:=by
   by_cases hp:((CP.disj s 8 [] ⟨0,0,0⟩).2.skip s).pos<s.length
   ·rw[if_pos hp]at hq;exact absurd hq (CP.fail_e (by decide) _)
   ·rw[if_neg hp,CP.skip_e]at hq;exact hq
  obtain⟨a1,a2,a3⟩:=CP.disj_val 8 [] ⟨0,0,0⟩ (fun r hr=>by cases hr) he;obtain⟨b1,b2⟩:=a3 (by decide);have hN:Zbf ([]:List (List Rel))=0:=rfl;rw[hN]at a2;generalize (CP.disj s 8 [] ⟨0,0,0⟩).1=c at *;have hz:({ pos:=0,rel:=0,err:=0 } :CP).rel=0:=rfl;rw[hz]at a2;unfold Zbw;simp only[Bool.and_eq_true,decide_eq_true_eq];refine⟨⟨List.all_eq_true.2 a1,?_⟩,by omega⟩;cases c with
  |nil=>exact absurd rfl b1
  |cons _ _=>rfl
 ·rw[if_neg hq]at h;exact absurd h hq
def TkZ (r:RS):Prop:=∀t∈r.l,okZ t=true
theorem TkZ.drop {r:RS} (h:TkZ r):TkZ r.drop:=fun t ht=>h t (List.mem_of_mem_tail ht)
theorem Zna {E k:Int} (hk:k≠0) {r:RS} (hz:TkZ r)(h:(r.take E k).2.e=0):okK (k,(r.take E k).1)=true∧TkZ (r.take E k).2∧r.e=0:=by
 obtain⟨he,t,l,hl,ht,e⟩:=Zas hk h;rw[e];refine⟨?_,hz.drop,he⟩;have:=hz t (by rw[hl];exact mem_cons_self);subst ht;exact this
theorem Zc7 {E:Int} {r:RS} (hz:TkZ r)(h:(r.word E).2.e=0):Zam (r.word E).1=true∧TkZ (r.word E).2∧r.e=0:=by
 have:=Zna (k:=1) (by decide) hz h
 rwa [Zh9]at this
theorem Zk7 {E:Int} {r:RS} (hz:TkZ r)(h:(r.text E).2.e=0):Zbk (r.text E).1=true∧TkZ (r.text E).2∧r.e=0:=by
 have:=Zna (k:=2) (by decide) hz h
 rwa [Zrm]at this
theorem TkZ.failAt {p e:Int} {r:RS} (h:TkZ r):TkZ (r.failAt p e):=by unfold TkZ;rw[RS.failAt_l];exact h
theorem TkZ.fail {E e:Int} {r:RS} (h:TkZ r):TkZ (r.fail E e):=h.failAt
theorem Zdb {E:Int} {s:List UInt8} {r:RS} (hz:TkZ r)(h:(r.mark E s).e=0):TkZ (r.mark E s)∧r.e=0:=by
 have he:=(Zaj E E s r h).1;refine⟨?_,he⟩;unfold RS.mark at h⊢;refine(Zna (by decide) ?_ h).2.1;split
 ·exact hz
 ·exact hz.fail
theorem Zqm {E:Int} :∀(n:Nat) (out:List ByteArray) {r:RS},TkZ r→(RS.texts E n out r).2.e=0→Zb2 out=true→Zb2 (RS.texts E n out r).1=true∧(RS.texts E n out r).1.length=out.length+n∧TkZ (RS.texts E n out r).2∧r.e=0
 |0,out,r,hz,h,ho=>⟨ho,rfl,hz,h⟩
 |n+1,out,r,hz,h,ho=>by
  have h1:(r.text E).2.e=0:=(Zdj E E n _ _ h).1;obtain⟨a1,a2,a3⟩:=Zk7 hz h1;have uF:Zb2 (out++[bs (r.text E).1])=true:=by
   unfold Zb2 at ho⊢;rw[List.all_append,ho];simp only[all_cons,all_nil,Bool.and_true,Bool.true_and];exact a1
  obtain⟨i1,i2,i3,_⟩:=Zqm n _ a2 h uF;refine⟨i1,?_,i3,a3⟩;rw[RS.texts,i2,length_append,length_singleton];omega
theorem Zhz {E:Int} {n:Nat} {r:RS} (hz:TkZ r)(h:(RS.texts0 E n r).2.e=0):Zb2 (RS.texts0 E n r).1=true∧(RS.texts0 E n r).1.length=n∧TkZ (RS.texts0 E n r).2∧r.e=0:=by
 have:=Zqm n [] hz h rfl
 rwa [List.length_nil,Nat.zero_add]at this
theorem Zpq {E:Int} {l:List ByteArray} {r:RS} (hz:TkZ r)(h:(r.one E l).2.e=0):l.contains (bs (r.one E l).1)=true∧TkZ (r.one E l).2∧r.e=0:=by
 have he:=(Zi0 E E l r h).1;unfold RS.one at h⊢;cases hc:(decide ((r.peek E).1=1)&& !l.contains (bs (r.peek E).2.1))with
 |true=>
  rw[hc,if_pos rfl]at h;exact absurd (Zas (by decide) h).1 (RS.fail_e E (by decide) r)
 |false=>
  rw[hc,if_neg (by decide)]at h;rw[if_neg (by decide)];obtain⟨_,t,q,hl,ht,e⟩:=Zas (by decide) h;obtain⟨_,b2,b3⟩:=Zc7 hz h;refine⟨?_,b2,he⟩;have e2:(r.word E).1=t.2.1:=by show(r.take E 1).1=_;rw[e]
  rw[e2];rw[Zb8 hl,ht]at hc
  simpa using hc
theorem number_val {E m:Int} {r:RS} (hz:TkZ r)(h:(r.number E m).2.e=0):(0≤(r.number E m).1∧(r.number E m).1≤m)∧TkZ (r.number E m).2∧r.e=0:=by
 have he:=(Zdw E E m r h).1;unfold RS.number at h⊢
 by_cases h1:(r.peek E).1=1∧(Zcn (r.peek E).2.1).2=true
 ·rw[if_pos h1]at h⊢
  by_cases h2:m<((Zcn (r.peek E).2.1).1:Int)
  ·rw[if_pos h2]at h;exact absurd (Zas (by decide) h).1 (RS.fail_e E (by decide) r)
  ·rw[if_neg h2]at h⊢;exact⟨⟨Int.natCast_nonneg _,by show((Zcn (r.peek E).2.1).1:Int)≤m;omega⟩,(Zc7 hz h).2.1,he⟩
 ·rw[if_neg h1]at h;exact absurd (Zas (by decide) h).1 (RS.fail_e E (by decide) r)
theorem Zz0 {E:Int} {r:RS} (hz:TkZ r)(h:(r.cond E).2.e=0):Zbw (r.cond E).1=true∧TkZ (r.cond E).2∧r.e=0:=by
 have he:=(Zkk E E r h).1;unfold RS.cond at h⊢
 by_cases h1:(r.peek E).1=2
 ·rw[if_pos h1]at h⊢
  by_cases h2:(Zb3 (r.peek E).2.1).2.2=0
  ·rw[if_pos h2]at h⊢;exact⟨Zabx h2,(Zk7 hz h).2.1,he⟩
  ·rw[if_neg h2]at h;exact absurd (Zas (by decide) h).1 (RS.fail_e E h2 r)
 ·rw[if_neg h1]at h;obtain⟨_,t,q,hl,ht,_⟩:=Zas (by decide) h;rw[Zb8 hl]at h1;exact absurd ht h1
theorem Zjw {E:Int} {r:RS} (hz:TkZ r)(h:(r.rule E).2.e=0):Zb7 (r.rule E).1=true∧TkZ (r.rule E).2∧r.e=0:=by
 have h3:((r.one E classL).2.cond E).2.e=0:=(Zaj E E [59] _ h).1;have h2:(r.one E classL).2.e=0:=(Zkk E E _ h3).1;obtain⟨a1,a2,a3⟩:=Zpq hz h2;obtain⟨b1,b2,_⟩:=Zz0 a2 h3;refine⟨?_,(Zdb b2 h).1,a3⟩;unfold Zb7;rw[Bool.and_eq_true];exact⟨a1,b1⟩
theorem Zahp {l:List ByteArray} {n:Nat} (h:Zb2 l=true)(hn:l.length=n)(i:Nat)(hi:i<n):Zfu (gS l i)=true:=by
 subst hn;unfold gS;rw[List.getD,List.getElem?_eq_getElem hi];exact Zey h (List.getElem_mem hi)
theorem Zh3 {s:List UInt8} (h:Zam s=true):Zb6 [bs s]=true:=by
 unfold Zb6;simp only[all_cons,all_nil,Bool.and_true];exact h
theorem Ztg {s:List UInt8} (h:Zbk s=true):Zb2 [bs s]=true:=by
 unfold Zb2;simp only[all_cons,all_nil,Bool.and_true];exact h
theorem Zqr {l:List ByteArray} (h:Zb2 l=true)(hn:l.length=4):Zb2 [gS l 0,gS l 1,gS l 2,gS l 3]=true:=by
 have k:=Zahp h hn;unfold Zb2;simp only[all_cons,all_nil,Bool.and_true];rw[k 0 (by decide),k 1 (by decide),k 2 (by decide),k 3 (by decide)];rfl
theorem Zajt {E:Int} {r:RS} (hz:TkZ r)(h:(r.lp E).2.e=0):Zes (r.lp E).1=true∧TkZ (r.lp E).2∧r.e=0:=by
 have h2:(RS.texts0 E 4 (r.word E).2).2.e=0:=(Zaj E E [59] _ h).1;have h1:(r.word E).2.e=0:=(Zdj E E 4 [] _ h2).1;obtain⟨a1,a2,a3⟩:=Zc7 hz h1;obtain⟨b1,b2,b3,_⟩:=Zhz a2 h2;refine⟨?_,(Zdb b3 h).1,a3⟩;unfold Zes;rw[Bool.and_eq_true];exact⟨Zh3 a1,Zqr b1 b2⟩
theorem Zakt {E:Int} {r:RS} (hz:TkZ r)(h:(r.up E).2.e=0):Zed (r.up E).1=true∧TkZ (r.up E).2∧r.e=0:=by
 have h3:(((r.word E).2.one E unitL).2.text E).2.e=0:=(Zaj E E [59] _ h).1;have h2:((r.word E).2.one E unitL).2.e=0:=(Zfm E E _ h3).1;have h1:(r.word E).2.e=0:=(Zi0 E E unitL _ h2).1;obtain⟨a1,a2,a3⟩:=Zc7 hz h1;obtain⟨b1,b2,_⟩:=Zpq a2 h2;obtain⟨c1,c2,_⟩:=Zk7 b2 h3;refine⟨?_,(Zdb c2 h).1,a3⟩;unfold Zed;rw[Bool.and_eq_true,Bool.and_eq_true];exact⟨Zh3 a1,b1,Ztg c1⟩
theorem Zajq {E:Int} {r:RS} (hz:TkZ r)(h:(r.dp E).2.e=0):Zev (r.dp E).1=true∧TkZ (r.dp E).2∧r.e=0:=by
 have h3:((r.word E).2.text E).2.e=0:=(Zaj E E [59] _ h).1;have h1:(r.word E).2.e=0:=(Zfm E E _ h3).1;obtain⟨a1,a2,a3⟩:=Zc7 hz h1;obtain⟨c1,c2,_⟩:=Zk7 a2 h3;refine⟨?_,(Zdb c2 h).1,a3⟩;unfold Zev;rw[Bool.and_eq_true];exact⟨Zh3 a1,Ztg c1⟩
theorem Zu0 {s u:List UInt8} (h:Zam s=true)(g:Zam u=true):Zb6 [bs s,bs u]=true:=by
 unfold Zb6;simp only[all_cons,all_nil,Bool.and_true,Bool.and_eq_true];exact⟨h,g⟩
theorem Zakc {E:Int} {r:RS} (hz:TkZ r)(h:(RS.al E r).2.e=0):Zfy (RS.al E r).1=true∧TkZ (RS.al E r).2∧r.e=0:=by
 have h3:((r.word E).2.word E).2.e=0:=(Zaj E E [59] _ h).1;have h1:(r.word E).2.e=0:=(Zdd E E _ h3).1;obtain⟨a1,a2,a3⟩:=Zc7 hz h1;obtain⟨c1,c2,_⟩:=Zc7 a2 h3;exact⟨Zu0 a1 c1,(Zdb c2 h).1,a3⟩
theorem Zaab {E:Int} {r:RS} (hz:TkZ r)(h:(RS.ne E r).2.e=0):Zee (RS.ne E r).1=true∧TkZ (RS.ne E r).2∧r.e=0:=by
 have h4:(((r.word E).2.word E).2.number E 1000).2.e=0:=(Zaj E E [59] _ h).1;have h3:((r.word E).2.word E).2.e=0:=(Zdw E E 1000 _ h4).1;have h1:(r.word E).2.e=0:=(Zdd E E _ h3).1;obtain⟨a1,a2,a3⟩:=Zc7 hz h1;obtain⟨c1,c2,_⟩:=Zc7 a2 h3;obtain⟨d1,d2,_⟩:=number_val c2 h4;refine⟨?_,(Zdb d2 h).1,a3⟩;unfold Zee;rw[Bool.and_eq_true,Bool.and_eq_true,decide_eq_true_eq,decide_eq_true_eq];exact⟨Zu0 a1 c1,d1.1,d1.2⟩
theorem Zvw {E:Int} {r:RS} (hz:TkZ r)(h:(r.sym E).2.e=0):gS (r.sym E).1.1 0≠ .empty∧Zb2 [gS (r.sym E).1.1 0,gS (r.sym E).1.1 1,gS (r.sym E).1.1 2,gS (r.sym E).1.1 3]=true∧(0≤(r.sym E).1.2.1∧(r.sym E).1.2.1≤9)∧(0≤(r.sym E).1.2.2∧(r.sym E).1.2.2≤9)∧TkZ (r.sym E).2∧r.e=0:=by
 have h4:(((RS.texts0 E 4 (r.sym0 E)).2.number E 9).2.number E 9).2.e=0:=(Zaj E E [59] _ h).1;have h3:((RS.texts0 E 4 (r.sym0 E)).2.number E 9).2.e=0:=(Zdw E E 9 _ h4).1;have h2:(RS.texts0 E 4 (r.sym0 E)).2.e=0:=(Zdw E E 9 _ h3).1;have h1:(r.sym0 E).e=0:=(Zdj E E 4 [] _ h2).1;have hs:r.sym0 E=r∧r.is E 2 []=false:=by
  unfold RS.sym0 at h1⊢;cases hi:r.is E 2 []with
  |true=>rw[hi,if_pos rfl]at h1;exact absurd h1 (RS.fail_e E (by decide) r)
  |false=>exact⟨rfl,rfl⟩
 rw[hs.1]at h1 h2 h3 h4;obtain⟨b1,b2,b3,b4⟩:=Zhz hz h2;obtain⟨c1,c2,_⟩:=number_val b3 h3;obtain⟨d1,d2,_⟩:=number_val c2 h4;have e:r.sym E=(((RS.texts0 E 4 r).1,((RS.texts0 E 4 r).2.number E 9).1,(((RS.texts0 E 4 r).2.number E 9).2.number E 9).1),(((RS.texts0 E 4 r).2.number E 9).2.number E 9).2.mark E [59]):=by
  unfold RS.sym;dsimp only;rw[hs.1]
 rw[e]at h⊢;refine⟨?_,Zqr b1 b2,c1,d1,(Zdb d2 h).1,b4⟩
 -- the first text is not empty
 have ht:(r.text E).2.e=0:=(Zdj E E 3 _ _ h2).1;obtain⟨_,t,q,hl,hk,e2⟩:=Zas (k:=2) (by decide) ht;have Az:t.2.1≠[]:=fun e3=>by
  have:=hs.2;unfold RS.is at this;rw[Zb8 hl,hk,e3,b4]at this;exact absurd this (by decide)
 have Gk:∀(n:Nat) (out:List ByteArray) (r:RS),out≠[]→gS (RS.texts E n out r).1 0=gS out 0:=fun n=>by
  induction n with
  |zero=>intro out r _;rfl
  |succ n ih=>
   intro out r ho;rw[RS.texts,ih _ _ (by simp)];unfold gS;cases out with
   |nil=>exact absurd rfl ho
   |cons a l=>rfl
 have e3:gS (RS.texts0 E 4 r).1 0=bs (r.text E).1:=by
  show gS (RS.texts E 3 ([]++[bs (r.text E).1]) (r.text E).2).1 0=_;rw[Gk _ _ _ (by simp)];rfl
 show gS (RS.texts0 E 4 r).1 0≠ .empty;rw[e3];have e4:(r.text E).1=t.2.1:=by show(r.take E 2).1=_;rw[e2]
 rw[e4];intro e5;have:=congrArg (fun s:ByteArray=>s.data.toList) e5;exact Az this
theorem Zl9 {α β:Type} [DecidableEq β] {key:α→β} {l:List α} {d:α} {x:β} (h:Zai (fun i=>decide (key (l.getD i d)=x)) l.length=false):x∉l.map key:=fun hm=>by
 obtain⟨y,hy,e⟩:=List.mem_map.1 hm;obtain⟨i,hi,rfl⟩:=List.getElem_of_mem hy;unfold Zai at h;rw[Bool.eq_false_iff]at h;refine h (List.any_eq_true.2 ⟨i,List.mem_range.2 hi,?_⟩);rw[decide_eq_true_eq,List.getD,List.getElem?_eq_getElem hi];exact e
theorem Zgh {α β:Type} {key:α→β} {l:List α} {x:α} (h:(l.map key).Nodup)(hx:key x∉l.map key):((l++[x]).map key).Nodup:=by
 rw[map_append,List.nodup_append];refine⟨h,by simp,fun a ha b hb=>?_⟩;rw[List.map_singleton,List.mem_singleton]at hb;subst hb;intro e;subst e;exact hx ha
theorem Zpf {lim:Int} {n:Nat} (h:Zcc lim n=false):(n:Int)<lim:=by
 unfold Zcc at h;rw[decide_eq_false_iff_not]at h;omega
theorem Zfj {α:Type} {p:α→Prop} {l:List α} {x:α} (h:∀y∈l,p y)(hx:p x):∀y∈l++[x],p y:=fun y hy=>by
 rcases List.mem_append.1 hy with g|g
 ·exact h y g
 ·rw[List.mem_singleton.1 g];exact hx
theorem Zf7 {p:Int} {b:Bool} {r:RS} (h:(r.once p b).e=0):b=false∧r.e=0:=by
 cases b with
 |true=>exact(Zzn (by decide) h).elim
 |false=>exact⟨rfl,h⟩
theorem LocV1.lc0 {tag par:ByteArray} (h:Zb6 [tag]=true)(g:par= .empty∨Zb6 [par]=true):LocV1 (lc0 tag par):=
 ⟨h,g,.inl rfl,.inl rfl,.inl rfl,⟨nodup_nil,fun r hr=>by cases hr⟩,⟨nodup_nil,fun r hr=>by cases hr⟩,.inl (by show Zdq (Go.Proofs.YtmleeodfmmpdgaaGreatDoor.lc0 tag par)=true;rfl),⟨zero_le _,nodup_nil,fun r hr=>by cases hr⟩,⟨zero_le _,nodup_nil,fun r hr=>by cases hr⟩,⟨zero_le _,nodup_nil,fun r hr=>by cases hr⟩⟩
theorem Zahe (E p:Int)(y:Lc)(r:RS)(hv:LocV1 y)(hz:TkZ r):∀i,(itN i E p y r).2.e=0→LocV1 (itN i E p y r).1∧TkZ (itN i E p y r).2
 |0,h=>by
  obtain⟨h1,h2⟩:=Zf7 h;have h3:(r.one E dirL).2.e=0:=(Zaj E E [59] _ h2).1;obtain⟨a1,a2,_⟩:=Zpq hz h3;refine⟨⟨hv.tag,hv.par,.inr a1,hv.months,hv.days,hv.card,hv.ord,hv.sym,hv.lists,hv.units,hv.dates⟩,?_⟩;show TkZ (RS.once _ _ _);rw[h1];exact(Zdb a2 h2).1
 |1,h=>by
  obtain⟨h1,h2,h3⟩:=RS.add_full h;obtain⟨a1,a2,_⟩:=Zjw hz h3;refine⟨⟨hv.tag,hv.par,hv.dir,hv.months,hv.days,⟨Zgh hv.card.1 (Zl9 (key:=fun r:ByteArray×List (List Rel)=>r.1) h1),Zfj hv.card.2 a1⟩,hv.ord,hv.sym,hv.lists,hv.units,hv.dates⟩,?_⟩;show TkZ (RS.add _ _ _ _);rw[h1,h2];exact a2
 |2,h=>by
  obtain⟨h1,h2,h3⟩:=RS.add_full h;obtain⟨a1,a2,_⟩:=Zjw hz h3;refine⟨⟨hv.tag,hv.par,hv.dir,hv.months,hv.days,hv.card,⟨Zgh hv.ord.1 (Zl9 (key:=fun r:ByteArray×List (List Rel)=>r.1) h1),Zfj hv.ord.2 a1⟩,hv.sym,hv.lists,hv.units,hv.dates⟩,?_⟩;show TkZ (RS.add _ _ _ _);rw[h1,h2];exact a2
 |3,h=>by
  obtain⟨h1,h2⟩:=Zf7 h;obtain⟨a1,a2,a3,a4,a5,_⟩:=Zvw hz h2;refine⟨⟨hv.tag,hv.par,hv.dir,hv.months,hv.days,hv.card,hv.ord,.inr ⟨a1,a2,a3,a4⟩,hv.lists,hv.units,hv.dates⟩,?_⟩;show TkZ (RS.once _ _ _);rw[h1];exact a5
 |4,h=>by
  obtain⟨h1,h2,h3⟩:=RS.add_full h;obtain⟨a1,a2,_⟩:=Zajt hz h3;have:=Zpf h2;refine⟨⟨hv.tag,hv.par,hv.dir,hv.months,hv.days,hv.card,hv.ord,hv.sym,⟨?_,Zgh hv.lists.2.1 (Zl9 (key:=Lp.style) h1),Zfj hv.lists.2.2 a1⟩,hv.units,hv.dates⟩,?_⟩
  ·show(y.lists++[(r.lp E).1]).length≤10;rw[length_append,length_singleton];omega
  ·show TkZ (RS.add _ _ _ _);rw[h1,h2];exact a2
 |5,h=>by
  obtain⟨h1,h2,h3⟩:=RS.add_full h;obtain⟨a1,a2,_⟩:=Zakt hz h3;have:=Zpf h2;have hd:((r.up E).1.unit,(r.up E).1.cls)∉y.units.map (fun u=>(u.unit,u.cls)):=by
   refine Zl9 (key:=fun u:Up=>(u.unit,u.cls)) (d:=default) ?_;rw[←h1];unfold Zmp;congr 1;funext i;exact decide_eq_decide.2 (by rw[Prod.mk.injEq])
  refine⟨⟨hv.tag,hv.par,hv.dir,hv.months,hv.days,hv.card,hv.ord,hv.sym,hv.lists,⟨?_,Zgh hv.units.2.1 hd,Zfj hv.units.2.2 a1⟩,hv.dates⟩,?_⟩
  ·show(y.units++[(r.up E).1]).length≤100;rw[length_append,length_singleton];omega
  ·show TkZ (RS.add _ _ _ _);rw[h1,h2];exact a2
 |6,h=>by
  obtain⟨h1,h2,h3⟩:=RS.add_full h;obtain⟨a1,a2,_⟩:=Zajq hz h3;have:=Zpf h2;refine⟨⟨hv.tag,hv.par,hv.dir,hv.months,hv.days,hv.card,hv.ord,hv.sym,hv.lists,hv.units,⟨?_,Zgh hv.dates.2.1 (Zl9 (key:=Dp.skel) h1),Zfj hv.dates.2.2 a1⟩⟩,?_⟩
  ·show(y.dates++[(r.dp E).1]).length≤30;rw[length_append,length_singleton];omega
  ·show TkZ (RS.add _ _ _ _);rw[h1,h2];exact a2
 |7,h=>by
  obtain⟨h1,h2⟩:=Zf7 h;have h3:(RS.texts0 E 12 r).2.e=0:=(Zaj E E [59] _ h2).1;obtain⟨a1,a2,a3,_⟩:=Zhz hz h3;refine⟨⟨hv.tag,hv.par,hv.dir,.inr ⟨a2,a1⟩,hv.days,hv.card,hv.ord,hv.sym,hv.lists,hv.units,hv.dates⟩,?_⟩;show TkZ (RS.once _ _ _);rw[h1];exact(Zdb a3 h2).1
 |n+8,h=>by
  obtain⟨h1,h2⟩:=Zf7 h;have h3:(RS.texts0 E 7 r).2.e=0:=(Zaj E E [59] _ h2).1;obtain⟨a1,a2,a3,_⟩:=Zhz hz h3;refine⟨⟨hv.tag,hv.par,hv.dir,hv.months,.inr ⟨a2,a1⟩,hv.card,hv.ord,hv.sym,hv.lists,hv.units,hv.dates⟩,?_⟩;show TkZ (RS.once _ _ _);rw[h1];exact(Zdb a3 h2).1
theorem Zaez (E p:Int)(y:Lc)(r:RS):∀i,(itN i E p y r).2.e=0→r.e=0
 |0,h=>(Zi0 E E dirL _ (Zaj E E [59] _ (Zf7 h).2).1).1
 |1,h=>(Zs1 E E _ (RS.add_full h).2.2).1
 |2,h=>(Zs1 E E _ (RS.add_full h).2.2).1
 |3,h=>by
  have h2:=(Zf7 h).2;have h4:(((RS.texts0 E 4 (r.sym0 E)).2.number E 9).2.number E 9).2.e=0:=(Zaj E E [59] _ h2).1;have h3:((RS.texts0 E 4 (r.sym0 E)).2.number E 9).2.e=0:=(Zdw E E 9 _ h4).1;have h2:(RS.texts0 E 4 (r.sym0 E)).2.e=0:=(Zdw E E 9 _ h3).1;have h1:(r.sym0 E).e=0:=(Zdj E E 4 [] _ h2).1;unfold RS.sym0 at h1;split at h1
  ·exact absurd h1 (RS.fail_e E (by decide) r)
  ·exact h1
 |4,h=>by
  have h3:=(RS.add_full h).2.2;have h2:(RS.texts0 E 4 (r.word E).2).2.e=0:=(Zaj E E [59] _ h3).1;exact(Zdd E E _ (Zdj E E 4 [] _ h2).1).1
 |5,h=>by
  have h3:=(RS.add_full h).2.2;have h4:(((r.word E).2.one E unitL).2.text E).2.e=0:=(Zaj E E [59] _ h3).1;exact(Zdd E E _ (Zi0 E E unitL _ (Zfm E E _ h4).1).1).1
 |6,h=>by
  have h3:=(RS.add_full h).2.2;have h4:((r.word E).2.text E).2.e=0:=(Zaj E E [59] _ h3).1;exact(Zdd E E _ (Zfm E E _ h4).1).1
 |7,h=>(Zdj E E 12 [] _ (Zaj E E [59] _ (Zf7 h).2).1).1
 |n+8,h=>(Zdj E E 7 [] _ (Zaj E E [59] _ (Zf7 h).2).1).1
theorem Zq6 {E:Int} {y:Lc} {r:RS} (hv:LocV1 y)(hz:TkZ r)(h:(tItem E y r).2.e=0):LocV1 (tItem E y r).1∧TkZ (tItem E y r).2:=by
 unfold tItem at h⊢;split at h
 ·exact absurd h (RS.fail_e E (by decide) r)
 ·rename_i hi;rw[if_neg hi];have hw:=Zaez _ _ _ _ _ h;exact Zahe E _ y _ hv (Zc7 hz hw).2.1 _ h
theorem Zk8 {E:Int} {n:Nat} {y:Lc} {r:RS} (h:(tItems E n y r).2.e=0):r.e=0:=by
 cases n with
 |zero=>exact h
 |succ n=>
  rw[tItems]at h;split at h
  ·rename_i hc;exact hc.1
  ·exact h
theorem Zoa {E:Int} :∀(n:Nat) {y:Lc} {r:RS},LocV1 y→TkZ r→(tItems E n y r).2.e=0→LocV1 (tItems E n y r).1∧TkZ (tItems E n y r).2
 |0,_,_,hv,hz,_=>⟨hv,hz⟩
 |n+1,y,r,hv,hz,h=>by
  rw[tItems]at h⊢
  by_cases hc:r.e=0∧r.is E 3 [125]=false
  ·rw[if_pos hc]at h⊢;obtain⟨a1,a2⟩:=Zq6 hv hz (Zk8 h);exact Zoa n a1 a2 h
  ·rw[if_neg hc]at h⊢;exact⟨hv,hz⟩
theorem head_val {E:Int} {r:RS} (hz:TkZ r)(h:(r.head E).2.e=0):(Zb6 [(r.head E).1.1]=true∧((r.head E).1.2= .empty∨Zb6 [(r.head E).1.2]=true))∧TkZ (r.head E).2:=by
 unfold RS.head at h⊢;dsimp only at h⊢
 by_cases hi:(r.word E).2.is E 1 [112,97,114,101,110,116]=true
 ·rw[if_pos hi]at h⊢;have h2:=(Zdd E E _ h).1;have h1:=(Zdd E E _ h2).1;obtain⟨a1,a2,_⟩:=Zc7 hz h1;obtain⟨_,b2,_⟩:=Zc7 a2 h2;obtain⟨c1,c2,_⟩:=Zc7 b2 h;exact⟨⟨Zh3 a1,.inr (Zh3 c1)⟩,c2⟩
 ·rw[if_neg hi]at h⊢;obtain⟨a1,a2,_⟩:=Zc7 hz h;exact⟨⟨Zh3 a1,.inl rfl⟩,a2⟩
theorem LocV1.ok {y:Lc} (h:LocV1 y):Zdo y=true:=by
 have uq:∀ {α β:Type} [DecidableEq β] {key:α→β} {l:List α},(l.map key).Nodup→Zcv key l=true:=fun h=>decide_eq_true h;unfold Zdo Znu Zme Ze1 Zg2 Zhx;simp only[Bool.and_eq_true,Bool.or_eq_true,decide_eq_true_eq];refine⟨⟨h.tag,h.par,?_⟩,⟨?_,?_,?_,?_⟩,⟨uq h.card.1,List.all_eq_true.2 h.card.2⟩,⟨uq h.ord.1,List.all_eq_true.2 h.ord.2⟩,?_,h.lists.1,h.units.1,h.dates.1,uq h.lists.2.1,uq h.units.2.1,uq h.dates.2.1,List.all_eq_true.2 h.lists.2.2,List.all_eq_true.2 h.units.2.2,List.all_eq_true.2 h.dates.2.2⟩
 ·rcases h.dir with e|e
  ·exact List.contains_iff_mem.2 (by rw[e];exact mem_cons_self)
  ·exact List.contains_iff_mem.2 (mem_cons_of_mem _ (List.contains_iff_mem.1 e))
 ·rcases h.months with e|e
  ·exact .inl (by rw[e];rfl)
  ·exact .inr e.1
 ·rcases h.days with e|e
  ·exact .inl (by rw[e];rfl)
  ·exact .inr e.1
 ·rcases h.months with e|e
  ·rw[e];rfl
  ·exact e.2
 ·rcases h.days with e|e
  ·rw[e];rfl
  ·exact e.2
 ·rcases h.sym with e|⟨e1,e2,e3,e4⟩
  ·exact .inl e
  ·exact .inr ⟨e1,e2,e3.1,e3.2,e4.1,e4.2⟩
theorem Zum {E:Int} {r:RS} (hz:TkZ r)(h:(tLocale E r).2.e=0):Zdo (tLocale E r).1=true∧TkZ (tLocale E r).2:=by
 unfold tLocale at h⊢;dsimp only at h⊢;have h2:=(Zaj E E [125] _ h).1;have h3:=Zk8 h2;have h4:=(Zaj E E [123] _ h3).1;obtain⟨⟨a1,a2⟩,a3⟩:=head_val hz h4;obtain⟨b1,b2⟩:=Zoa _ (LocV1.lc0 a1 a2) (Zdb a3 h3).1 h2;exact⟨b1.ok,(Zdb b2 h).1⟩
theorem Zqv {E:Int} {t:Tb} {r:RS} (hv:TabV1 t)(hz:TkZ r)(h:(Zax E t r).2.e=0):TabV1 (Zax E t r).1∧TkZ (Zax E t r).2:=by
 have hw:∀ {s:List UInt8},r.is E 1 s=true→TkZ (r.word E).2:=fun hi=>by
  obtain⟨he,hk,_⟩:=RS.is_kind hi;have:(r.word E).2.e=0:=by show(r.take E 1).2.e=0;rw[RS.take_ok hk he];exact he
  exact(Zc7 hz this).2.1
 unfold Zax at h⊢;dsimp only at h⊢
 by_cases h1:r.is E 1 [108,111,99,97,108,101]=true
 ·rw[if_pos h1]at h⊢;have g:=Zfw h;obtain⟨a1,a2⟩:=Zum (hw h1) g.2;have hf:=of_decide_eq_false g.1;refine⟨⟨?_,hv.n1,hv.n2,Zfj hv.locs a1,hv.als,hv.near⟩,?_⟩
  ·show(t.locs++[_]).length≤60;rw[length_append,length_singleton];omega
  ·show TkZ (tLim _ _ _);rw[g.1];exact a2
 ·rw[if_neg h1]at h⊢
  by_cases h2:r.is E 1 [97,108,105,97,115]=true
  ·rw[if_pos h2]at h⊢;have g:=Zfw h;obtain⟨a1,a2,_⟩:=Zakc (hw h2) g.2;have hf:=of_decide_eq_false g.1;refine⟨⟨hv.n0,?_,hv.n2,hv.locs,Zfj hv.als a1,hv.near⟩,?_⟩
   ·show(t.als++[_]).length≤200;rw[length_append,length_singleton];omega
   ·show TkZ (tLim _ _ _);rw[g.1];exact a2
  ·rw[if_neg h2]at h⊢
   by_cases h3:r.is E 1 [110,101,97,114]=true
   ·rw[if_pos h3]at h⊢;have g:=Zfw h;obtain⟨a1,a2,_⟩:=Zaab (hw h3) g.2;have hf:=of_decide_eq_false g.1;refine⟨⟨hv.n0,hv.n1,?_,hv.locs,hv.als,Zfj hv.near a1⟩,?_⟩
    ·show(t.near++[_]).length≤200;rw[length_append,length_singleton];omega
    ·show TkZ (tLim _ _ _);rw[g.1];exact a2
   ·rw[if_neg h3]at h;exact absurd h (RS.fail_e E (by decide) r)
theorem Zs5 {E:Int} {n:Nat} {t:Tb} {r:RS} (h:(Zbn E n t r).2.e=0):r.e=0:=by
 cases n with
 |zero=>exact h
 |succ n=>
  rw[Zbn]at h;split at h
  ·rename_i hc;exact hc.1
  ·exact h
theorem Znt {E:Int} :∀(n:Nat) {t:Tb} {r:RS},TabV1 t→TkZ r→(Zbn E n t r).2.e=0→TabV1 (Zbn E n t r).1
 |0,_,_,hv,_,_=>hv
 |n+1,t,r,hv,hz,h=>by
  rw[Zbn]at h⊢
  by_cases hc:r.e=0∧r.l≠[]
  ·rw[if_pos hc]at h⊢;obtain⟨a1,a2⟩:=Zqv hv hz (Zs5 h);exact Znt n a1 a2 h
  ·rw[if_neg hc]at h⊢;exact hv
theorem TabV1.tb0:TabV1 tb0:=⟨zero_le _,zero_le _,zero_le _,(fun y hy=>by cases hy),(fun y hy=>by cases hy),(fun y hy=>by cases hy)⟩
theorem TabV1.ok {t:Tb} (h:TabV1 t):Zec t=true:=by
 unfold Zec;simp only[Bool.and_eq_true,decide_eq_true_eq];exact⟨h.n0,h.n1,h.n2,List.all_eq_true.2 h.locs,List.all_eq_true.2 h.als,List.all_eq_true.2 h.near⟩
theorem Zqy (l:List UInt8):∀t∈(Zap l).1,okZ t=true:=by
 unfold Zap;split
 ·rename_i h;rw[Zff]at h;obtain⟨hr,_⟩:=Zi1 l;intro t ht;obtain⟨x,hx,rfl⟩:=List.mem_map.1 ht;unfold Zda at hx;obtain⟨k,hk,rfl⟩:=List.mem_map.1 hx;rw[List.mem_range]at hk;exact(Zvo (hr.1 k hk) (h k hk)).1
 ·intro t ht;cases ht
theorem Zm3 (l:List UInt8):Zec (Zal l).1=true:=by
 unfold Zal;split
 ·exact TabV1.tb0.ok
 ·split
  ·unfold Zmo;dsimp only;split
   ·rename_i he;exact(Znt (r:=⟨(Zap l).1,0,0⟩) _ TabV1.tb0 (Zqy l) he).ok
   ·exact TabV1.tb0.ok
  ·exact TabV1.tb0.ok
end Go.Proofs.YtmleeodfmmpdgaaGreatDoor
