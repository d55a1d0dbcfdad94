/- Plain: the table's reader at tokens that are known by their kinds and texts. -/
import Derived.Test.YtmleeodfmmpdgaaGreatDoorQ30
set_option maxRecDepth 100000
set_option maxHeartbeats 8000000
namespace Go.Proofs.YtmleeodfmmpdgaaGreatDoor
open Go.RowKit
open _root_.List (length_append length_cons length_map length_nil mem_map_of_mem)
open _root_.Nat (le_refl le_trans)
open _root_.ByteArray (data_append size_append)
open _root_.Go.Proofs.Tryz
abbrev Kk:=Int×List UInt8
def Rdy (r:RS)(ks:List Kk):Prop:=r.e=0∧r.l.map Zil=ks
theorem Rdy.cons {r:RS} {k:Kk} {ks:List Kk} (h:Rdy r (k::ks)):∃t l,r.l=t::l∧t.1=k.1∧t.2.1=k.2∧l.map Zil=ks:=by
 obtain⟨_,h2⟩:=h;cases hl:r.l with
 |nil=>rw[hl]at h2;cases h2
 |cons t l=>
  rw[hl,List.map_cons]at h2;injection h2 with h3 h4;subst h3;exact⟨t,l,rfl,rfl,rfl,h4⟩
theorem Rdy.peek {r:RS} {k:Kk} {ks:List Kk} (h:Rdy r (k::ks))(E:Int):(r.peek E).1=k.1∧(r.peek E).2.1=k.2:=by
 obtain⟨t,l,h1,h2,h3,_⟩:=h.cons;unfold RS.peek;rw[h1];exact⟨h2,h3⟩
theorem Rdy.take {r:RS} {k:Int} {s:List UInt8} {ks:List Kk} (h:Rdy r ((k,s)::ks)) (E:Int):(r.take E k).1=s∧Rdy (r.take E k).2 ks:=by
 obtain⟨h1,h2⟩:=h.peek E;rw[RS.take_ok h1 h.1];obtain⟨t,l,g1,_,_,g4⟩:=h.cons;exact⟨h2,h.1,by show r.l.tail.map Zil=ks;rw[g1];exact g4⟩
theorem Rdy.word {r:RS} {s:List UInt8} {ks:List Kk} (h:Rdy r ((1,s)::ks)) (E:Int):(r.word E).1=s∧Rdy (r.word E).2 ks:=h.take E
theorem Rdy.text {r:RS} {s:List UInt8} {ks:List Kk} (h:Rdy r ((2,s)::ks)) (E:Int):(r.text E).1=s∧Rdy (r.text E).2 ks:=h.take E
theorem Rdy.is {r:RS} {k:Kk} {ks:List Kk} (h:Rdy r (k::ks))(E n:Int)(s:List UInt8):r.is E n s=(decide (k.1=n)&&decide (k.2=s)):=by
 obtain⟨h1,h2⟩:=h.peek E;unfold RS.is;rw[h1,h2,h.1];rfl
theorem Rdy.mark {r:RS} {s:List UInt8} {ks:List Kk} (h:Rdy r ((3,s)::ks)) (E:Int):Rdy (r.mark E s) ks:=by
 unfold RS.mark;rw[if_pos (by rw[h.is];simp)];exact(h.take E).2
theorem Zafb (s:ByteArray):bs s.data.toList=s:=rfl
theorem Rdy.texts:∀(ss out:List ByteArray) {r:RS} {ks:List Kk} (E:Int),Rdy r (ss.map (fun s=>(2,s.data.toList))++ks)→(RS.texts E ss.length out r).1=out++ss∧Rdy (RS.texts E ss.length out r).2 ks
 |[],out,r,ks,E,h=>⟨(List.append_nil _).symm,h⟩
 |s::ss,out,r,ks,E,h=>by
  obtain⟨h1,h2⟩:=Rdy.text (s:=s.data.toList) h E;have:=Rdy.texts ss (out++[bs (r.text E).1]) E h2;rw[h1]at this;rw[length_cons,RS.texts,h1];refine⟨?_,this.2⟩;rw[this.1,List.append_assoc];rfl
theorem Rdy.texts0 {ss:List ByteArray} {r:RS} {ks:List Kk} (h:Rdy r (ss.map (fun s=>(2,s.data.toList))++ks))(E:Int) {n:Nat} (hn:ss.length=n):(RS.texts0 E n r).1=ss∧Rdy (RS.texts0 E n r).2 ks:=by
 subst hn;exact Rdy.texts ss [] E h
theorem Rdy.one {r:RS} {s:ByteArray} {ks:List Kk} (h:Rdy r ((1,s.data.toList)::ks)) (E:Int) {l:List ByteArray} (hs:l.contains s=true):bs (r.one E l).1=s∧Rdy (r.one E l).2 ks:=by
 obtain⟨h1,h2⟩:=h.peek E;unfold RS.one;rw[h1,h2,Zafb,hs,if_neg (by simp)];obtain⟨g1,g2⟩:=h.word E;exact⟨by rw[g1];rfl,g2⟩
theorem Zj0 {z:Int} (h0:0≤z)(h1:z≤1000):Zcn (Lib.itoa z)=(z.toNat,true)∧Zam (Lib.itoa z)=true:=by
 obtain⟨n,rfl⟩:=Int.eq_ofNat_of_zero_le h0;have k:∀v:Fin 1001,Zcn (Lib.itoa (v.1:Int))=(v.1,true)∧Zam (Lib.itoa (v.1:Int))=true:=by decide+kernel
 exact k ⟨n,by omega⟩
theorem Rdy.number {r:RS} {z:Int} {ks:List Kk} (h:Rdy r ((1,Lib.itoa z)::ks)) (E:Int) {m:Int} (h0:0≤z) (h1:z≤m) (hm:m≤1000):(r.number E m).1=z∧Rdy (r.number E m).2 ks:=by
 obtain⟨p1,p2⟩:=h.peek E;have hn:=(Zj0 h0 (by omega:z≤1000)).1;unfold RS.number;rw[p1,p2,hn,if_pos ⟨rfl,rfl⟩,if_neg (by show¬m<((z.toNat:Nat):Int);omega)];exact⟨by show((z.toNat:Nat):Int)=z;omega,(h.word E).2⟩
theorem Rdy.cond {r:RS} {c:List (List Rel)} {ks:List Kk} (h:Rdy r ((2,Zad c)::ks)) (E:Int) (hc:Zb3 (Zad c)=(c,0,0)):(r.cond E).1=c∧Rdy (r.cond E).2 ks:=by
 obtain⟨p1,p2⟩:=h.peek E;unfold RS.cond;rw[p1,p2,hc,if_pos rfl,if_pos rfl];exact⟨rfl,(h.text E).2⟩
theorem Rdy.rule {r:RS} {x:ByteArray×List (List Rel)} {ks:List Kk} (h:Rdy r ((1,x.1.data.toList)::(2,Zad x.2)::(3,[59])::ks)) (E:Int) (h1:classL.contains x.1=true) (hc:Zb3 (Zad x.2)=(x.2,0,0)):(r.rule E).1=x∧Rdy (r.rule E).2 ks:=by
 obtain⟨a1,a2⟩:=h.one E h1;obtain⟨b1,b2⟩:=a2.cond E hc;exact⟨by unfold RS.rule;rw[a1,b1],b2.mark E⟩
theorem Rdy.lp {r:RS} {x:Lp} {ks:List Kk} (h:Rdy r ((1,x.style.data.toList)::([x.two,x.start,x.mid,x.fin].map (fun s=>((2:Int),s.data.toList))++(3,[59])::ks))) (E:Int):(r.lp E).1=x∧Rdy (r.lp E).2 ks:=by
 obtain⟨a1,a2⟩:=h.word E;obtain⟨b1,b2⟩:=a2.texts0 E (n:=4) rfl;refine⟨?_,b2.mark E⟩;unfold RS.lp;dsimp only;rw[a1,b1];rfl
theorem Rdy.up {r:RS} {x:Up} {ks:List Kk} (h:Rdy r ((1,x.unit.data.toList)::(1,x.cls.data.toList)::(2,x.pat.data.toList)::(3,[59])::ks)) (E:Int) (hc:unitL.contains x.cls=true):(r.up E).1=x∧Rdy (r.up E).2 ks:=by
 obtain⟨a1,a2⟩:=h.word E;obtain⟨b1,b2⟩:=a2.one E hc;obtain⟨c1,c2⟩:=b2.text E;refine⟨?_,c2.mark E⟩;unfold RS.up;dsimp only;rw[a1,b1,c1];rfl
theorem Rdy.dp {r:RS} {x:Dp} {ks:List Kk} (h:Rdy r ((1,x.skel.data.toList)::(2,x.pat.data.toList)::(3,[59])::ks)) (E:Int):(r.dp E).1=x∧Rdy (r.dp E).2 ks:=by
 obtain⟨a1,a2⟩:=h.word E;obtain⟨c1,c2⟩:=a2.text E;refine⟨?_,c2.mark E⟩;unfold RS.dp;dsimp only;rw[a1,c1];rfl
theorem Rdy.al {r:RS} {x:Al} {ks:List Kk} (h:Rdy r ((1,x.fro.data.toList)::(1,x.dst.data.toList)::(3,[59])::ks)) (E:Int):(RS.al E r).1=x∧Rdy (RS.al E r).2 ks:=by
 obtain⟨a1,a2⟩:=h.word E;obtain⟨c1,c2⟩:=a2.word E;refine⟨?_,c2.mark E⟩;unfold RS.al;dsimp only;rw[a1,c1];rfl
theorem Rdy.ne {r:RS} {x:Ne} {ks:List Kk} (h:Rdy r ((1,x.fro.data.toList)::(1,x.dst.data.toList)::(1,Lib.itoa x.cost)::(3,[59])::ks)) (E:Int) (h0:0≤x.cost) (h1:x.cost≤1000):(RS.ne E r).1=x∧Rdy (RS.ne E r).2 ks:=by
 obtain⟨a1,a2⟩:=h.word E;obtain⟨c1,c2⟩:=a2.word E;obtain⟨d1,d2⟩:=c2.number E h0 h1 (by decide);refine⟨?_,d2.mark E⟩;unfold RS.ne;dsimp only;rw[a1,c1,d1];rfl
theorem Rdy.sym {r:RS} {a b c d:ByteArray} {p q:Int} {ks:List Kk} (h:Rdy r ([a,b,c,d].map (fun s=>((2:Int),s.data.toList))++(1,Lib.itoa p)::(1,Lib.itoa q)::(3,[59])::ks)) (E:Int) (ha:a≠ .empty) (hp:0≤p∧p≤9) (hq:0≤q∧q≤9):
  (r.sym E).1=([a,b,c,d],p,q)∧Rdy (r.sym E).2 ks:=by
 have e0:r.sym0 E=r:=by
  unfold RS.sym0;rw[Rdy.is (k:=(2,a.data.toList)) h,if_neg];simp only[decide_true,Bool.true_and,decide_eq_true_eq];intro e;exact ha (by rw[←Zafb a,e];rfl)
 obtain⟨b1,b2⟩:=h.texts0 E (n:=4) rfl;obtain⟨c1,c2⟩:=b2.number E hp.1 hp.2 (by decide);obtain⟨d1,d2⟩:=c2.number E hq.1 hq.2 (by decide);unfold RS.sym;dsimp only;rw[e0,b1,c1,d1];exact⟨rfl,d2.mark E⟩
theorem Zm5 (p:Int)(r:RS):r.add p false false=r:=rfl
theorem Zjr (p:Int)(r:RS):r.once p false=r:=rfl
inductive It where
 |dir (d:ByteArray)
 |card (x:ByteArray×List (List Rel))
 |ord (x:ByteArray×List (List Rel))
 |sym (a b c d:ByteArray) (p q:Int)
 |lst (x:Lp)
 |uni (x:Up)
 |dat (x:Dp)
 |mon (l:List ByteArray)
 |day (l:List ByteArray)
def tx (s:ByteArray):Kk:=(2,s.data.toList)
def wd (s:ByteArray):Kk:=(1,s.data.toList)
def It.keys:It→List Kk
 | .dir d=>[(1,keyL.getD 0 []),wd d]
 | .card x=>[(1,keyL.getD 1 []),wd x.1,(2,Zad x.2)]
 | .ord x=>[(1,keyL.getD 2 []),wd x.1,(2,Zad x.2)]
 | .sym a b c d p q=>(1,keyL.getD 3 [])::([a,b,c,d].map tx++[(1,Lib.itoa p),(1,Lib.itoa q)])
 | .lst x=>(1,keyL.getD 4 [])::wd x.style::[x.two,x.start,x.mid,x.fin].map tx
 | .uni x=>[(1,keyL.getD 5 []),wd x.unit,wd x.cls,tx x.pat]
 | .dat x=>[(1,keyL.getD 6 []),wd x.skel,tx x.pat]
 | .mon l=>(1,keyL.getD 7 [])::l.map tx
 | .day l=>(1,keyL.getD 8 [])::l.map tx
def It.app:It→Lc→Lc
 | .dir d,y=> { y with dir:=d }
 | .card x,y=> { y with card:=y.card++[x] }
 | .ord x,y=> { y with ord:=y.ord++[x] }
 | .sym a b c d p q,y=> { y with dec:=a,grp:=b,mi:=c,pct:=d,pri:=p,sec:=q }
 | .lst x,y=> { y with lists:=y.lists++[x] }
 | .uni x,y=> { y with units:=y.units++[x] }
 | .dat x,y=> { y with dates:=y.dates++[x] }
 | .mon l,y=> { y with months:=l }
 | .day l,y=> { y with days:=l }
def It.val:It→Prop
 | .dir d=>dirL.contains d=true
 | .card x=>Zb7 x=true
 | .ord x=>Zb7 x=true
 | .sym a b c d p q=>a≠ .empty∧Zb2 [a,b,c,d]=true∧(0≤p∧p≤9)∧(0≤q∧q≤9)
 | .lst x=>Zes x=true
 | .uni x=>Zed x=true
 | .dat x=>Zev x=true
 | .mon l=>l.length=12∧Zb2 l=true
 | .day l=>l.length=7∧Zb2 l=true
def It.new:It→Lc→Prop
 | .dir _,y=>y.dir= .empty
 | .card x,y=>x.1∉y.card.map (·.1)∧y.card.length<5
 | .ord x,y=>x.1∉y.ord.map (·.1)∧y.ord.length<5
 | .sym _ _ _ _ _ _,y=>y.dec= .empty
 | .lst x,y=>x.style∉y.lists.map Lp.style∧y.lists.length<10
 | .uni x,y=>(x.unit,x.cls)∉y.units.map (fun u=>(u.unit,u.cls))∧y.units.length<100
 | .dat x,y=>x.skel∉y.dates.map Dp.skel∧y.dates.length<30
 | .mon _,y=>y.months=[]
 | .day _,y=>y.days=[]
theorem Znx {s:ByteArray} (h:s= .empty):Zh1 s=false:=by subst h;rfl
theorem Zi8 {lim:Int} {n:Nat} (h:(n:Int)<lim):Zcc lim n=false:=by unfold Zcc;rw[decide_eq_false];omega
theorem Zmn {p:Nat→Bool} {n:Nat} (h:∀i,i<n→p i=false):Zai p n=false:=by
 unfold Zai;rw[Bool.eq_false_iff];intro hc;obtain⟨i,hi,hp⟩:=List.any_eq_true.1 hc;rw[h i (List.mem_range.1 hi)]at hp;cases hp
theorem Zix {α:Type} {l:List α} {i:Nat} (h:i<l.length)(d:α):l.getD i d∈l:=by
 rw[List.getD,List.getElem?_eq_getElem h];exact List.getElem_mem h
theorem Zts {l:List (ByteArray×List (List Rel))} {x:ByteArray} (h:x∉l.map (·.1)):Zhr l x=false:=
 Zmn fun i hi=>decide_eq_false fun e=>h (by rw[←e];exact mem_map_of_mem (Zix hi _))
theorem Zaeq {l:List Lp} {x:ByteArray} (h:x∉l.map Lp.style):Zoi l x=false:=
 Zmn fun i hi=>decide_eq_false fun e=>h (by rw[←e];exact mem_map_of_mem (Zix hi _))
theorem Zaeo {l:List Up} {x z:ByteArray} (h:(x,z)∉l.map (fun u=>(u.unit,u.cls))):Zmp l x z=false:=
 Zmn fun i hi=>decide_eq_false fun e=>h (by rw[←e.1,←e.2];exact mem_map_of_mem (f:=fun u:Up=>(u.unit,u.cls)) (Zix hi _))
theorem Zacm {l:List Dp} {x:ByteArray} (h:x∉l.map Dp.skel):Zof l x=false:=
 Zmn fun i hi=>decide_eq_false fun e=>h (by rw[←e];exact mem_map_of_mem (Zix hi _))
def Zso:Prop:=∀c:List (List Rel),Zbw c=true→Zb3 (Zad c)=(c,0,0)
theorem Zahj {t:Tz} {i:Nat} (h1:t.1=1)(h2:t.2.1=keyL.getD i [])(hi:i<9):Zc2 (Zgy t) 9=(i:Int):=by
 have hk:Zgy t=fun j=>decide (bs (keyL.getD j [])=bs (keyL.getD i [])):=by
  funext j;unfold Zgy;rw[h1,h2];rfl
 rw[hk];have:∀v:Fin 9,Zc2 (fun j=>decide (bs (keyL.getD j [])=bs (keyL.getD v.1 []))) 9=(v.1:Int):=by decide+kernel
 exact this ⟨i,hi⟩
theorem Zf4 {E:Int} {y:Lc} {r:RS} {i:Nat} (hi:i<9) {ks:List Kk} (h:Rdy r ((1,keyL.getD i [])::ks)):tItem E y r=itN i E (r.peek E).2.2 y (r.word E).2∧Rdy (r.word E).2 ks:=by
 obtain⟨h1,h2⟩:=h.peek E;have hx:=Zahj h1 h2 hi;unfold tItem;rw[hx,if_neg (by omega),Int.toNat_natCast];exact⟨rfl,(h.word E).2⟩
theorem Zc8 {x:ByteArray×List (List Rel)} (h:Zb7 x=true):classL.contains x.1=true∧Zbw x.2=true:=by
 unfold Zb7 at h
 rwa [Bool.and_eq_true]at h
theorem Zael (HC:Zso)(E:Int)(it:It)(y:Lc) {r:RS} {ks:List Kk} (h:Rdy r (it.keys++(3,[59])::ks)) (hv:it.val) (hn:it.new y):(tItem E y r).1=it.app y∧Rdy (tItem E y r).2 ks:=by
 cases it with
 |dir d=>
  obtain⟨e,g⟩:=Zf4 (E:=E) (y:=y) (i:=0) (by decide) h;rw[e];obtain⟨a1,a2⟩:=Rdy.one (s:=d) g E hv;have b:=a2.mark E;show((⟨_,_,bs _,_,_,_,_,_,_,_,_,_,_,_,_,_⟩:Lc))=_∧Rdy (RS.once _ _ _) _;rw[Znx hn,Zjr,a1];exact⟨rfl,b⟩
 |card x=>
  obtain⟨e,g⟩:=Zf4 (E:=E) (y:=y) (i:=1) (by decide) h;rw[e];obtain⟨v1,v2⟩:=Zc8 hv;obtain⟨a1,a2⟩:=Rdy.rule (x:=x) g E v1 (HC _ v2);refine⟨by show({ y with card:=y.card++[_] } :Lc)=_;rw[a1];rfl,?_⟩;show Rdy (RS.add _ _ _ _) _;rw[a1,Zts hn.1,Zi8 (show((y.card.length:Nat):Int)<5 by have:=hn.2;omega)];exact a2
 |ord x=>
  obtain⟨e,g⟩:=Zf4 (E:=E) (y:=y) (i:=2) (by decide) h;rw[e];obtain⟨v1,v2⟩:=Zc8 hv;obtain⟨a1,a2⟩:=Rdy.rule (x:=x) g E v1 (HC _ v2);refine⟨by show({ y with ord:=y.ord++[_] } :Lc)=_;rw[a1];rfl,?_⟩;show Rdy (RS.add _ _ _ _) _;rw[a1,Zts hn.1,Zi8 (show((y.ord.length:Nat):Int)<5 by have:=hn.2;omega)];exact a2
 |sym a b c d p q=>
  obtain⟨e,g⟩:=Zf4 (E:=E) (y:=y) (i:=3) (by decide) h;rw[e];obtain⟨v1,_,v3,v4⟩:=hv;obtain⟨a1,a2⟩:=Rdy.sym (a:=a) (b:=b) (c:=c) (d:=d) (p:=p) (q:=q) (ks:=ks) (by simpa [tx,List.append_assoc]using g) E v1 v3 v4;refine⟨?_,?_⟩
  ·show({ y with dec:=gS (RS.sym E _).1.1 0,grp:=gS (RS.sym E _).1.1 1,mi:=gS (RS.sym E _).1.1 2,pct:=gS (RS.sym E _).1.1 3,pri:=(RS.sym E _).1.2.1,sec:=(RS.sym E _).1.2.2 } :Lc)=_;rw[a1];rfl
  ·show Rdy (RS.once _ _ _) _;rw[Znx hn];exact a2
 |lst x=>
  obtain⟨e,g⟩:=Zf4 (E:=E) (y:=y) (i:=4) (by decide) h;rw[e];obtain⟨a1,a2⟩:=Rdy.lp (x:=x) (ks:=ks) g E;refine⟨by show({ y with lists:=y.lists++[_] } :Lc)=_;rw[a1];rfl,?_⟩;show Rdy (RS.add _ _ _ _) _;rw[a1,Zaeq hn.1,Zi8 (show((y.lists.length:Nat):Int)<10 by have:=hn.2;omega)];exact a2
 |uni x=>
  obtain⟨e,g⟩:=Zf4 (E:=E) (y:=y) (i:=5) (by decide) h;rw[e];replace hv:Zed x=true:=hv;have hu:unitL.contains x.cls=true:=by
   unfold Zed at hv;rw[Bool.and_eq_true,Bool.and_eq_true]at hv;exact hv.2.1
  obtain⟨a1,a2⟩:=Rdy.up (x:=x) (ks:=ks) g E hu;refine⟨by show({ y with units:=y.units++[_] } :Lc)=_;rw[a1];rfl,?_⟩;show Rdy (RS.add _ _ _ _) _;rw[a1,Zaeo hn.1,Zi8 (show((y.units.length:Nat):Int)<100 by have:=hn.2;omega)];exact a2
 |dat x=>
  obtain⟨e,g⟩:=Zf4 (E:=E) (y:=y) (i:=6) (by decide) h;rw[e];obtain⟨a1,a2⟩:=Rdy.dp (x:=x) (ks:=ks) g E;refine⟨by show({ y with dates:=y.dates++[_] } :Lc)=_;rw[a1];rfl,?_⟩;show Rdy (RS.add _ _ _ _) _;rw[a1,Zacm hn.1,Zi8 (show((y.dates.length:Nat):Int)<30 by have:=hn.2;omega)];exact a2
 |mon l=>
  obtain⟨e,g⟩:=Zf4 (E:=E) (y:=y) (i:=7) (by decide) h;rw[e];obtain⟨a1,a2⟩:=Rdy.texts0 (ss:=l) (ks:=(3,[59])::ks) g E hv.1;replace hn:y.months=[]:=hn;refine⟨by show({ y with months:=_ } :Lc)=_;rw[a1];rfl,?_⟩;show Rdy (RS.once _ (!decide (y.months.length=0)) _) _;rw[hn];exact a2.mark E
 |day l=>
  obtain⟨e,g⟩:=Zf4 (E:=E) (y:=y) (i:=8) (by decide) h;rw[e];obtain⟨a1,a2⟩:=Rdy.texts0 (ss:=l) (ks:=(3,[59])::ks) g E hv.1;replace hn:y.days=[]:=hn;refine⟨by show({ y with days:=_ } :Lc)=_;rw[a1];rfl,?_⟩;show Rdy (RS.once _ (!decide (y.days.length=0)) _) _;rw[hn];exact a2.mark E
attribute [local go_sem] Ext.cell Ext.frozen
attribute [local go_sem ↓] Go.wp_at_zero Go.wp_at_succ
theorem Zvh:∃j,prog.info? 82=some j∧j.size≠0:=by
 obtain⟨j,hj,Ta⟩:=Option.map_eq_some_iff.1 (show(prog.info? 82).map (·.size)=some 2 by kernel_rfl);exact⟨j,hj,by rw[Ta];decide⟩
theorem Zahk:(prog.info? 5).map (fun i=>(i.zero,i.size,i.bytes))=some (some (.int .u8 0),1,1):=by kernel_rfl
theorem Zabd:prog.cellsOf 5=1:=by kernel_rfl
theorem Zajm:liesAt prog prog.depth 84 (2 / prog.cellsOf 84) 0 82 1=true:=by kernel_rfl
def Oth (b:Nat)(w w':World):Prop:=w.heap.size≤w'.heap.size∧∀g,g<w.heap.size→g≠b→(∀cs fr,w.heap[g]? ≠some (.cells cs 5 fr))→(∀cs fr,w.heap[g]? ≠some (.cells cs 9 fr))→w'.heap[g]? =w.heap[g]?
theorem Oth.refl (b:Nat)(w:World):Oth b w w:=⟨le_refl _,fun _ _ _ _ _=>rfl⟩
theorem Oth.trans {b:Nat} {w w' w'':World} (h:Oth b w w')(k:Oth b w' w''):Oth b w w'':=
 ⟨le_trans h.1 k.1,fun g hg hb h1 h2=>by
  have e:=h.2 g hg hb h1 h2;rw[k.2 g (Nat.lt_of_lt_of_le hg h.1) hb (by rw[e];exact h1) (by rw[e];exact h2),e]⟩
theorem Oth.below {b:Nat} {w w':World} (h:Below w.heap.size w w'):Oth b w w':=⟨h.size,fun g hg _ _ _=>h.block g hg⟩
theorem Oth.set (b j:Nat)(w:World)(v:Value):Oth b w (w.setCell ⟨b,j,none⟩ v):=⟨by simp[World.setCell],fun g _ hb _ _=>Below.heap_setCell _ _ _ _ (fun e=>hb e)⟩
theorem Oth.grown {b:Nat} {w w':World} {base:Nat} {E:TypeId} {v:Value} {n:Nat} {xs:List Value} (hr:w.ownsRow base E 1 v n xs)(hE:E=5∨E=9)(hg:w.grownBy w' v.ownBlock):Oth b w w':=
 ⟨hg.size,fun g Aa _ h1 h2=>hg.block g Aa fun e=>by
  rcases hr.2 with⟨rfl,_⟩|⟨g',cap,cur,rfl,_,hb,_⟩
  ·cases e
  ·have e:g=g':=by injection e
   subst e;rcases hE with rfl|rfl
   ·exact h1 _ _ hb
   ·exact h2 _ _ hb⟩
theorem Cel.oth {w w':World} {A b:Nat} {T:TypeId} {cs:List Value} (h:Cel w A T cs)(k:Oth b w w')(hA:A≠b)(h1:T≠5)(h2:T≠9):Cel w' A T cs:=
 (k.2 A h.lt hA (fun cs' fr e=>by rw[h]at e;injection e with e;injection e with _ e;exact h1 e) (fun cs' fr e=>by rw[h]at e;injection e with e;injection e with _ e;exact h2 e)).trans h
theorem Zuj (b:Nat)(w:World)(h0:w.cell? ⟨b,0,none⟩=some (.pointer (some ⟨b,0,none⟩))):
  Calls prog 134 #[.pointer (some ⟨b,0,none⟩)] w fun e w'=>e= .returned (.tuple #[])∧w'=w:=by
 obtain⟨j,hj,_⟩:=Zvh
 go_enter func134,ntmps134
 go_wp2_with fail
 rw[Lib.run_neq_ptr_same w _ underlying79 hj]
 go_wp2_with fail
 go_end0;exact⟨rfl,rfl⟩
theorem Ztv (b:Nat)(w:World)(h0:w.cell? ⟨b,0,none⟩=some (.pointer none))(Xf:w.shape? b=some (84,2))(mF:w.frozen? ⟨b,0,none⟩=false):
  Calls prog 134 #[.pointer (some ⟨b,0,none⟩)] w fun e w'=>e= .returned (.tuple #[])∧w'=w.setCell ⟨b,0,none⟩ (.pointer (some ⟨b,0,none⟩)):=by
 obtain⟨j,hj,Ta⟩:=Zvh
 go_enter func134,ntmps134
 go_wp2_with fail
 rw[Lib.run_to_unsafe w ⟨b,0,none⟩ underlying79 underlying224 hj Ta Xf (Nat.zero_lt_succ 1)];simp only[Result.andThen];rw[Oper.upon_value]
 go_wp2_with fail
 rw[run_callFunc_extern func187 (by kernel_rfl) (by kernel_rfl) (by kernel_rfl) (e:=Extern.AbiNoEscape.same) (by kernel_rfl)];rw[Lib.run_noEscape];simp only[Result.andThen];rw[Oper.upon_value]
 go_wp2_with fail
 rw[Lib.run_from_unsafe w ⟨b,0,none⟩ underlying224 underlying79 hj Xf Zajm];simp only[Result.andThen];rw[Oper.upon_value]
 go_wp2_with fail
 go_end0;exact⟨rfl,rfl⟩
theorem Zx0 (B b:Nat)(bs:List Value)(w:World)(h:Lib.IsBuilder 84 5 B b bs w):
  Calls prog 134 #[.pointer (some ⟨b,0,none⟩)] w fun e w'=>e= .returned (.tuple #[])∧(Lib.BuilderAt 84 5 B b (.pointer (some ⟨b,0,none⟩)) bs w'∧Below B w w'∧Oth b w w'):=by
 rcases h with h|h
 ·refine(Ztv b w h.cell0 h.shape h.frozen0).mono ?_;rintro e w' ⟨rfl,rfl⟩;exact⟨rfl,h.used _,(Below.refl B w).setCell (p:=⟨b,0,none⟩) h.1 _,Oth.set b 0 w _⟩
 ·refine(Zuj b w h.cell0).mono ?_;rintro e w' ⟨rfl,rfl⟩;exact⟨rfl,h,Below.refl B _,Oth.refl b _⟩
theorem Zuc (B b:Nat)(bs:List Value)(s:ByteArray)(w:World)(h:Lib.IsBuilder 84 5 B b bs w)(Ah:bs.length+s.size≤140737488355328)(Ir:B≤w.heap.size):
  Calls prog 79 #[.pointer (some ⟨b,0,none⟩),.string s] w fun e w'=>e= .returned (.tuple #[.int .i64 s.size,.nilIface])∧(Lib.BuilderAt 84 5 B b (.pointer (some ⟨b,0,none⟩)) (bs++Lib.strCells s) w'∧Below B w w'∧Oth b w w'):=by
 obtain⟨i0,hi,Cc,Ba,A7⟩:=info_parts Zahk;have HC:=Hd (Zx0 B b bs w h);clear h
 go_enter func79,ntmps79
 go_wp2_with fail
 refine HC.out.mono ?_;rintro e w1 ⟨rfl,h1,Aw,sG⟩;obtain⟨hB,v,Dm,Ab,Az⟩:=h1;have c0:w1.cell? ⟨b,0,none⟩=some (.pointer (some ⟨b,0,none⟩)):=by rw[Lib.cell_of_heap Dm];rfl
 have c1:w1.cell? ⟨b,1,none⟩=some v:=by rw[Lib.cell_of_heap Dm];rfl
 go_wp2_with (at_builtin;refine Lib.wpList_append_own_string _ rfl _ _ 80 9 rfl B 5 i0 underlying80 underlying9 hi Cc Ba A7 _ _ _ rfl Ab s rfl ?c3 ?c4 ?c5 ?_)
 case c3=>unfold maxLen;omega
 case c4=>omega
 case c5=>have:=Aw.size;omega
 intro v' w2 B7 Bq _;have Aa:b<w1.heap.size:=by
  rcases Nat.lt_or_ge b w1.heap.size with h'|h'
  ·exact h'
  ·simp[Array.getElem?_eq_none h']at Dm
 have Ag:w2.heap[b]? =some (.cells #[.pointer (some ⟨b,0,none⟩),v] 84 (0,0)):=by
  rw[Bq.block b Aa (fun e=>Az e.symm)];exact Dm
 have d0:w2.cell? ⟨b,0,none⟩=some (.pointer (some ⟨b,0,none⟩)):=by rw[Lib.cell_of_heap Ag];rfl
 have d1:w2.cell? ⟨b,1,none⟩=some v:=by rw[Lib.cell_of_heap Ag];rfl
 have f1:w2.frozen? ⟨b,1,none⟩=false:=Lib.frozen_of_heap Ag 1;obtain⟨ao,n',cap,rfl⟩:∃ao n' cap,v'= .slice ao n' cap:=by
  rcases B7.2 with⟨hv,_⟩|⟨g,cap,cur,hv,_⟩
  ·exact⟨_,_,_,hv⟩
  ·exact⟨_,_,_,hv⟩
 go_wp2_with fail
 go_ret2
 refine⟨rfl,?_,?_,?_⟩
 ·exact Lib.BuilderAt.put (T:=84) (e:=5) hB Ag (bs':=bs++Lib.strCells s) (by simpa [Lib.strCells_length]using B7) (by decide)
 ·exact(Aw.grown Bq (by have:=Aw.size;omega) (fun k hk=>(Ab.lt k hk).1)).setCell (p:=⟨b,1,none⟩) hB _
 ·exact(sG.trans (Oth.grown Ab (.inl rfl) Bq)).trans (Oth.set b 1 _ _)
def PB (B b:Nat)(l:List UInt8)(w:World):Prop:=
 Lib.IsBuilder 84 5 B b (Lib.byteCells l) w∧(l=[]→w.cell? ⟨b,1,none⟩=some (.slice none 0 0))
theorem PB.kept {B b:Nat} {l:List UInt8} {w w':World} (h:PB B b l w)(hb:Below w.heap.size w w'):PB B b l w':=by
 obtain⟨h1,h2⟩:=h;have key:∀p,Lib.BuilderAt 84 5 B b p (Lib.byteCells l) w→Lib.BuilderAt 84 5 B b p (Lib.byteCells l) w':=by
  rintro p h;have Aa:=h.lt;obtain⟨hB,v,Dm,Ab,Az⟩:=h;exact⟨hB,v,(hb.block b Aa).trans Dm,Own.below Ab hb,Az⟩
 have Aa:b<w.heap.size:=by
  rcases h1 with h|h
  ·exact h.lt
  ·exact h.lt
 refine⟨h1.imp (key _) (key _),fun e=>?_⟩;rw[show w'.cell? ⟨b,1,none⟩=w.cell? ⟨b,1,none⟩from hb.cell (p:=⟨b,1,none⟩) Aa];exact h2 e
theorem PB.lt {B b:Nat} {l:List UInt8} {w:World} (h:PB B b l w):b<w.heap.size:=by
 rcases h.1 with h|h
 ·exact h.lt
 ·exact h.lt
theorem PB.new (w:World):PB w.heap.size w.heap.size [] (w.alloc (.cells #[.pointer none,.slice none 0 0] 84)):=by
 have hn:(w.alloc (.cells #[.pointer none,.slice none 0 0] 84)).heap[w.heap.size]? =some (.cells #[.pointer none,.slice none 0 0] 84 (0,0)):=by show(w.heap.push _)[w.heap.size]? =_;simp
 refine⟨.inl ⟨le_refl _,.slice none 0 0,hn,World.ownsRow_nil _ _ _ _,by simp[Value.ownBlock]⟩,fun _=>?_⟩;rw[Lib.cell_of_heap hn];rfl
theorem Zpo (s:ByteArray):Lib.strCells s=Lib.byteCells s.data.toList:=by
 unfold Lib.strCells Lib.byteCells;rfl
theorem Zon (B b:Nat)(l:List UInt8)(s:ByteArray)(w:World)(h:PB B b l w)(hs:s.size≠0)(Ah:l.length+s.size≤140737488355328)(Ir:B≤w.heap.size):
  Calls prog 79 #[.pointer (some ⟨b,0,none⟩),.string s] w fun e w'=>e= .returned (.tuple #[.int .i64 s.size,.nilIface])∧PB B b (l++s.data.toList) w'∧Below B w w'∧Oth b w w':=by
 refine(Zuc B b (Lib.byteCells l) s w h.1 (by rw[Lib.byteCells_length];exact Ah) Ir).mono ?_;rintro e w' ⟨rfl,h1,h2,h3⟩;rw[Zpo,show Lib.byteCells l++Lib.byteCells s.data.toList=Lib.byteCells (l++s.data.toList) by simp[Lib.byteCells]]at h1;refine⟨rfl,⟨.inr h1,fun e=>?_⟩,h2,h3⟩;rw[List.append_eq_nil_iff]at e;exact absurd (by rw[←show s.data.toList.length=s.size from Zbm s,e.2];rfl) hs
theorem Zaco (B b:Nat)(l:List UInt8)(w:World)(h:PB B b l w):
  Calls prog 35 #[.pointer (some ⟨b,0,none⟩)] w fun e w'=>e= .returned (.int .i64 l.length)∧w=w':=by
 obtain⟨p,hB,v,Dm,Ab,Az⟩:∃p,Lib.BuilderAt 84 5 B b p (Lib.byteCells l) w:=by
  rcases h.1 with h|h
  ·exact⟨_,h⟩
  ·exact⟨_,h⟩
 rw[Lib.byteCells_length]at Ab;obtain⟨ao,cap,rfl⟩:∃ao cap,v= .slice ao l.length cap:=by
  rcases Ab.2 with⟨hv,h0⟩|⟨g,cap,cur,hv,_⟩
  ·exact⟨none,0,by rw[hv,h0]⟩
  ·exact⟨_,_,hv⟩
 have c1:w.cell? ⟨b,1,none⟩=some (.slice ao l.length cap):=by rw[Lib.cell_of_heap Dm];rfl
 go_enter func35,ntmps35
 go_wp2_with fail
 go_ret;exact⟨rfl,rfl⟩
theorem Zuu (B b:Nat)(l:List UInt8)(w:World)(h:PB B b l w):
  Calls prog 36 #[.pointer (some ⟨b,0,none⟩)] w fun e w'=>e= .returned (.string (bs l))∧Below B w w':=by
 obtain⟨p,hB,v,Dm,Ab,Az⟩:∃p,Lib.BuilderAt 84 5 B b p (Lib.byteCells l) w:=by
  rcases h.1 with h|h
  ·exact⟨_,h⟩
  ·exact⟨_,h⟩
 rw[Lib.byteCells_length]at Ab
 by_cases h0:l=[]
 ·have hv:=h.2 h0;subst h0;rw[Lib.cell_of_heap Dm]at hv;obtain rfl:v= .slice none 0 0:=by simpa using hv
  have sH:∀W q,(Builtin.unsafeString_ #[146,3] 9 #[.pointer q,.int .i64 0]).run prog W= .ok (.string .empty) W:=fun W q=>Lib.run_unsafeString_none W _ _ _ q;have c1:w.drew.cell? ⟨b,1,none⟩=some (.slice none 0 0):=by
   have:w.drew.heap[b]? =some (.cells #[p,.slice none 0 0] 84 (0,0)):=Dm;rw[Lib.cell_of_heap this];rfl
  have sI:(Builtin.unsafeSliceData_ #[80] 146 #[.slice none 0 0]).run prog w.drew= .ok (.pointer none) w.drew:=rfl;clear h Dm Ab Az
  go_enter func36,ntmps36
  go_wp2_with fail
  go_region
  all_goals (go_wp2_with fail;go_ret;exact⟨rfl,Below.drew (Below.refl B w)⟩)
 ·have Yb:l.length≠0:=by simpa using h0
  obtain⟨g,cap,cur,rfl,iR,hg,cO,sJ,Dc,Y2⟩:∃g cap cur,v= .slice (some ⟨g,0,none⟩) l.length cap∧B≤g∧w.heap[g]? =some (.cells cur 5 (0,0))∧l.length≤cap∧cap≤maxLen∧cur.size=cap *1∧cur.toList.take (l.length *1)=Lib.byteCells l:=by
   rcases Ab.2 with⟨_,hz⟩|⟨g,cap,cur,hv,r⟩
   ·exact absurd hz Yb
   ·exact⟨g,cap,cur,hv,r⟩
  have c1:w.drew.cell? ⟨b,1,none⟩=some (.slice (some ⟨g,0,none⟩) l.length cap):=by
   have:w.drew.heap[b]? =some (.cells #[p,.slice (some ⟨g,0,none⟩) l.length cap] 84 (0,0)):=Dm;rw[Lib.cell_of_heap this];rfl
  have sI:(Builtin.unsafeSliceData_ #[80] 146 #[.slice (some ⟨g,0,none⟩) l.length cap]).run prog w.drew= .ok (.pointer (some ⟨g,0,none⟩)) w.drew:=
   Lib.run_unsafeSliceData_row _ _ _ _ _ _ (by omega)
  have sH:(Builtin.unsafeString_ #[146,3] 9 #[.pointer (some ⟨g,0,none⟩),.int .i64 l.length]).run prog w.drew= .ok (.string (bs l)) (w.drew.freeze ⟨g,0,none⟩ l.length):=by
   refine Lib.run_unsafeString_row w.drew 146 3 9 5 underlying146 Zabd g cur.size (by have fL:w.drew.heap[g]? =some (.cells cur 5 (0,0)):=hg;simp[World.shape?,fL]) l h0 (by omega) (by unfold maxLen at sJ;omega) ?_;intro j x hx;have:=Ab.cells (g:=g) rfl j (.int .u8 x.toNat) (by simp[Lib.byteCells,hx]);exact this
  clear h Dm Ab Az Y2
  go_enter func36,ntmps36
  go_wp2_with fail
  go_region
  all_goals (go_wp2_with fail;go_ret;exact⟨rfl,Lib.below_freeze (Below.drew (Below.refl B w)) (p:=⟨g,0,none⟩) iR _⟩)
theorem Zw5 (m:Nat):∀l:List (List UInt8),(∀x∈l,x.length≤m)→Lib.lens l≤l.length *m
 |[],_=>by simp[Lib.lens]
 |x::l,h=>by
  have h1:=Zw5 m l fun y hy=>h y (List.mem_cons_of_mem _ hy);have h2:=h x (List.mem_cons_self ..);have h3:Lib.lens (x::l)=x.length+Lib.lens l:=by simp[Lib.lens]
  rw[h3,length_cons,Nat.succ_mul];omega
theorem Zmf (l:List (List UInt8))(sep:List UInt8)(m:Nat)(h:∀x∈l,x.length≤m):(Lib.join l sep).length≤l.length *(m+sep.length):=by
 cases l with
 |nil=>simp[Lib.join_nil]
 |cons x r=>
  rw[Lib.join_length];have h1:=Zw5 m (x::r) h;have h2:sep.length *r.length≤(x::r).length *sep.length:=by rw[Nat.mul_comm];exact Nat.mul_le_mul_right _ (by simp)
  rw[Nat.mul_add];omega
theorem Zcu {α:Type} (f:α→List UInt8)(m:Nat):∀l:List α,(∀x∈l,(f x).length≤m)→(l.flatMap f).length≤l.length *m
 |[],_=>by simp
 |x::l,h=>by
  have h1:=Zcu f m l fun y hy=>h y (List.mem_cons_of_mem _ hy);have h2:=h x (List.mem_cons_self ..);rw[List.flatMap_cons,length_append,length_cons,Nat.succ_mul];omega
theorem Zdn {α:Type} (f:α→List UInt8)(l:List α)(k:Nat):((l.take k).flatMap f).length≤(l.flatMap f).length:=by
 have:l.flatMap f=(l.take k).flatMap f++(l.drop k).flatMap f:=by rw[←List.flatMap_append,List.take_append_drop]
 rw[this,length_append];omega
theorem Zd8 {n:Int} (h0:0≤n)(h1:n≤1000):(Lib.itoa n).length≤21:=Lib.itoa_length_le n (by omega) (by omega)
theorem Zadx {op md:Int} (h:Zdf op md=true):0≤md∧md≤100:=by
 unfold Zdf at h;split at h
 ·simp at h;omega
 ·split at h
  ·simp at h;omega
  ·cases h
theorem Zyy (op:Int):Zbe op≤100:=by unfold Zbe;split <;> omega
structure RelF (r:Rel):Prop where
 op:1≤r.op∧r.op≤6
 md:0≤r.md∧r.md≤100
 len:1≤r.sp.length∧r.sp.length≤4
 sp:∀s∈r.sp,0≤s.1∧s.1≤s.2∧s.2≤100
theorem Zagi {r:Rel} (h:Zac r=true):RelF r:=by
 unfold Zac at h;simp only[Bool.and_eq_true,Bool.or_eq_true,decide_eq_true_eq]at h;obtain⟨⟨⟨⟨⟨h1,h2⟩,h3⟩,h4⟩,h5⟩,h6⟩:=h;refine⟨⟨h1,h2⟩,?_,⟨h4,h5⟩,fun s hs=>?_⟩
 ·rcases h3 with h3|h3
  ·omega
  ·exact Zadx h3
 ·have:=List.all_eq_true.1 h6 s hs;unfold Zaz at this;simp only[Bool.and_eq_true,decide_eq_true_eq]at this;have:=Zyy r.op;omega
theorem Zaem {c:List (List Rel)} {l:List Rel} (h:l∈c):l.length≤Zbf c:=by
 induction c with
 |nil=>cases h
 |cons a c ih=>
  have e:Zbf (a::c)=a.length+Zbf c:=by simp[Zbf]
  rcases List.mem_cons.1 h with rfl|h
  ·omega
  ·have:=ih h;omega
theorem Zsq:∀ {c:List (List Rel)},(∀l∈c,l≠[])→c.length≤Zbf c
 |[],_=>Nat.zero_le _
 |a::c,h=>by
  have e:Zbf (a::c)=a.length+Zbf c:=by simp[Zbf]
  have h1:=Zsq (c:=c) fun l hl=>h l (List.mem_cons_of_mem _ hl);have h2:=List.length_pos_iff.2 (h a (List.mem_cons_self ..));rw[length_cons];omega
structure CondF (c:List (List Rel)):Prop where
 pos:c≠[]
 len:c.length≤6
 each:∀l∈c,l≠[]∧l.length≤6∧∀r∈l,RelF r
theorem Zko {c:List (List Rel)} (h:Zbw c=true):CondF c:=by
 unfold Zbw at h;simp only[Bool.and_eq_true,decide_eq_true_eq]at h;obtain⟨⟨h1,h2⟩,h3⟩:=h;have key:∀l∈c,l≠[]∧∀r∈l,RelF r:=fun l hl=>by
  have h4:=List.all_eq_true.1 h1 l hl;unfold Zc0 at h4;rw[Bool.and_eq_true]at h4;refine⟨fun e=>by rw[e]at h4;simp at h4,fun r hr=>Zagi (List.all_eq_true.1 h4.2 r hr)⟩
 refine⟨fun e=>by rw[e]at h2;simp at h2,?_,fun l hl=>⟨(key l hl).1,?_,(key l hl).2⟩⟩
 ·have:=Zsq fun l hl=>(key l hl).1;omega
 ·have:=Zaem hl;omega
theorem Zaca {s:Int×Int} (h:0≤s.1∧s.1≤s.2∧s.2≤100):(Zak s).length≤44:=by
 have h1:=Zd8 (n:=s.1) (by omega) (by omega);have h2:=Zd8 (n:=s.2) (by omega) (by omega);unfold Zak;split
 ·omega
 ·simp only[length_append,length_cons,length_nil];omega
theorem Zqf {r:Rel} (h:RelF r):(Lib.join (r.sp.map Zak) [44]).length≤180:=by
 have h1:=Zmf (r.sp.map Zak) [44] 44 (fun x hx=>by
  obtain⟨s,hs,rfl⟩:=List.mem_map.1 hx;exact Zaca (h.sp s hs))
 rw[length_map]at h1;have:=h.len.2;have h2:=Nat.mul_le_mul_right (44+1) this;simp only[length_cons,length_nil]at h1;omega
theorem Zafs {r:Rel} (h:RelF r):(Zc9 r).length≤300:=by
 have h1:=Zqf h;have h2:=Zd8 (n:=r.md) (by have:=h.md;omega) (by have:=h.md;omega);unfold Zc9 Zkv;simp only[length_append,length_cons,length_nil];split <;> split <;> simp only[length_append,length_cons,length_nil]<;> omega
theorem Zvd {l:List Rel} (h1:l.length≤6)(h:∀r∈l,RelF r):(Zce l).length≤2000:=by
 have h2:=Zmf (l.map Zc9) [32,97,110,100,32] 300 (fun x hx=>by
  obtain⟨s,hs,rfl⟩:=List.mem_map.1 hx;exact Zafs (h s hs))
 rw[length_map]at h2;have h3:=Nat.mul_le_mul_right (300+5) h1;unfold Zce;simp only[length_cons,length_nil]at h2;omega
theorem Znd {c:List (List Rel)} (h:CondF c):(Zad c).length≤13000:=by
 have h2:=Zmf (c.map Zce) [32,111,114,32] 2000 (fun x hx=>by
  obtain⟨s,hs,rfl⟩:=List.mem_map.1 hx;exact Zvd (h.each s hs).2.1 (h.each s hs).2.2)
 rw[length_map]at h2;have h3:=Nat.mul_le_mul_right (2000+4) h.len;unfold Zad;simp only[length_cons,length_nil]at h2;omega
theorem Zfl {s:ByteArray} (h:Zgq s=true):1≤s.size∧s.size≤40:=by
 unfold Zgq Zam at h;simp only[Bool.and_eq_true,decide_eq_true_eq,Zbm]at h;refine⟨?_,h.1.2⟩;have:=List.length_pos_iff.2 h.1.1
 rwa [Zbm]at this
theorem Zaac {s:ByteArray} (h:Zfu s=true):s.size≤400:=by
 unfold Zfu Zbk at h;simp only[Bool.and_eq_true,decide_eq_true_eq,Zbm]at h;exact h.1
theorem Zrl {s:ByteArray} {m:Nat} (h:s.size≤m):(qT s).length≤4 *m+2:=by
 have:=Zn4 s.data.toList;rw[Zbm]at this;unfold qT;simp only[length_append,length_cons,length_nil];omega
theorem Zh6 (ind:List UInt8)(l:List (List UInt8))(m:Nat)(hi:ind.length≤1)(h:∀x∈l,x.length≤m):(Zaw ind l).length≤l.length *(m+1)+3:=by
 have:=Zmf l [32] m h;unfold Zaw;simp only[length_append,length_cons,length_nil,Nat.zero_add]at this⊢;omega
theorem Zalo (s:ByteArray):bs (qT s)=⟨#[34]⟩++bs (Zah s.data.toList)++⟨#[34]⟩:=by
 unfold qT;rw[show(⟨#[34]⟩:ByteArray)=bs [34]from rfl,Zd0,Zd0];rfl
theorem Zj9 (v:Value)(l:List ByteArray)(w:World)(h:RowsOf 1 OneS w v l)(hn:l.length≤1000)(hz:∀s∈l,s.size≤200000)(hD:TabDeB w):
  Calls prog 81 #[v] w fun e w'=>∃ad c,e= .returned (.slice ad l.length c)∧w'.ownsRow w.heap.size 9 1 (.slice ad l.length c) l.length (Zae (l.map (fun s=>bs (qT s))))∧Below w.heap.size w w':=by
 obtain⟨ad,c,f,b,off,rfl,hr,_,_,_,hf⟩:=h.opn;obtain⟨n,Io⟩:∃n,l.length=n:=⟨_,rfl⟩;rw[Io]at hr hn⊢;have Hb:=Hd Io;have HR:=Hd hr;have HF:=Hd hf;have Dy:=Hd hz;obtain⟨i0,R8,Cc,Ba,A7⟩:=info_parts Zrp;have HI:=Hd R8;have Ox:=Hd Cc;have Jy:=Hd Ba;have Oy:=Hd A7;have sK:=Hd (fun(s:ByteArray) (hl:s.size≤1000000) w' (h:Below w.heap.size w w')=>Zafi s w' hl (fun c _=>(Zaiq c hD).below h));clear h hr hf hz Io R8 Cc Ba A7 hD
 go_enter func81,ntmps81
 go_wp2_with fail
 go_loopw [3,8] (fun u i wr=>∃(k:Nat) (ad':Option Addr) (c':Nat),i= .int .i64 (k:Int)∧k≤n∧u= .slice ad' k c'∧wr.ownsRow w.heap.size 9 1 (.slice ad' k c') k (Zae ((l.take k).map (fun s=>bs (qT s))))∧Below w.heap.size w wr) (fun _ i _=>n -(intOf i).toNat)
 case atStart=>exact⟨0,none,0,rfl,Nat.zero_le _,rfl,World.ownsRow_nil _ _ _ _,Below.refl _ _⟩
 case round=>
  obtain⟨k,ad',c',rfl,Co,rfl,Ab,Ak⟩:=hrel;have Ad:=Hd Ab;have Ac:=Hd Ak;have Bl:=Ak.size;clear Ab Ak
  by_cases Aa:k<n
  ·have A4:=HR.out.below Ac.out;have Ci:=fun W=>A4.ix 44 9 underlying44 (by kernel_rfl) (by omega) Aa c W;rw[Nat.mul_one]at Ci;have c0:wr.cell? ⟨b,off+k,none⟩=some (f k 0):=by have:=A4.cell k 0 Aa (by omega);rwa [Nat.mul_one,Nat.add_zero]at this
   have F8:k<l.length:=by rw[Hb.out];exact Aa
   have Fz:=(HF.out k F8).1;rw[Fz]at c0;have Am:=Dy.out _ (List.getElem_mem F8);have Ds:Hid ((l.take (k+1)).map (fun s=>bs (qT s))=(l.take k).map (fun s=>bs (qT s))++[bs (qT l[k])]):=by
    unfold Hid;rw[List.take_succ_eq_append_getElem F8,List.map_append];rfl
   have O9:=Hd (sK.out l[k] (le_trans Am (by omega)) wr Ac.out);have HQ:=Hd (Zalo l[k]);have wD:(bs (Zah l[k].data.toList)).size≤800000:=by rw[Za5];have:=Zn4 l[k].data.toList;rw[Zbm]at this;omega
   clear A4 Fz;generalize bs (qT l[k])=q at *;generalize bs (Zah l[k].data.toList)=T1 at *;generalize l[k]=s at *;have z1:(⟨#[34]⟩:ByteArray).size=1:=rfl;have a1:=fun w=>run_string_add_sum (P:=prog) (w:=w) ⟨#[34]⟩ T1 (by omega);have a2:=fun w=>run_string_add_sum (P:=prog) (w:=w) (⟨#[34]⟩++T1) ⟨#[34]⟩ (by rw[size_append];omega);rw[Hid,HQ.out]at Ds;replace Ds:=Hd Ds;clear z1 HQ
   go_wp2_with fail
   refine O9.out.mono ?_;rintro e w2 ⟨rfl,Ag⟩;have U6:=Hd (Zci Ad.out Ag);have N4:=Hd (Ac.out.trans (Ag.mono Bl));have Q9:=N4.out.size;clear Ag Ad O9
   go_wp2_with (at_builtin;refine Zgj 44 9 16 underlying44 i0 _ HI.out Ox.out Jy.out Oy.out rfl rfl _ _ rfl w.heap.size ad' k c' _ rfl U6.out _ _ rfl rfl (by unfold maxLen;omega) (by omega) Q9 ?_;intro ad6 c6 w3 Ae Ax A5 Rb;have N5:=Hd Ae;have C3:=Hd Ax;clear Ae Ax A5 Rb)
   go_roundw
   case rel=>exact⟨k+1,ad6,c6,by go_num,by omega,rfl,by rw[Ds.out,Zkx];exact N5.out,N4.out.trans C3.out⟩
   case measure=>simp[intOf];omega
  ·obtain rfl:k=n:=by omega
   have HE:Hid (wr.ownsRow w.heap.size 9 1 (.slice ad' k c') k (Zae (l.map (fun s=>bs (qT s))))):=by
    have:=Ad.out
    rwa [List.take_of_length_le (by rw[Hb.out];exact le_refl _)]at this
   go_wp2_with fail
   go_ret;exact⟨ad',c',rfl,HE.out,Ac.out⟩
theorem Zml (ad:Option Addr)(n c:Nat)(xs:List ByteArray)(w:World)(hs:Sl w ad n (Zae xs))(h0:xs≠[])(hn:n≤1000000)(hc:n≤c)(sep:ByteArray)(hm:(Lib.join (xs.map (·.data.toList)) sep.data.toList).length≤1000000000):
  Calls prog 83 #[.slice ad n c,.string sep] w fun e w'=>e= .returned (.string (bs (Lib.join (xs.map (·.data.toList)) sep.data.toList)))∧Below w.heap.size w w':=by
 obtain⟨b,off,Rf⟩:=hs;have Ah:xs.length=n:=by have:=Rf.len;rwa [Zco]at this
 subst Ah;have qX:=List.length_pos_iff.2 h0;have ha:=Rf.adr (by omega);subst ha;refine Tryz.strings_Join b off c xs sep w (fun j x hj=>?_) (Rf.block (by omega)) (by omega) hc (le_trans hm (by omega));have Wy:=(List.getElem?_eq_some_iff.1 hj).1;rw[Rf.cell j Wy,Zlu _ _ Wy,List.getD,hj];rfl
theorem Zh4 (B b:Nat)(t:List UInt8)(id:ByteArray)(ad:Option Addr)(n c:Nat)(xs:List ByteArray)(w:World)(h:PB B b t w)(hs:Sl w ad n (Zae xs))(h0:xs≠[])(hn:n≤1000000)(hc:n≤c)(hi:id.size≤1)(hB:B≤w.heap.size)
  (hl:(Zaw id.data.toList (xs.map (·.data.toList))).length≤100000000) (ht:t.length≤1000000000000):
  Calls prog 33 #[.pointer (some ⟨b,0,none⟩),.string id,.slice ad n c] w fun e w'=>e= .returned (.tuple #[])∧PB B b (t++Zaw id.data.toList (xs.map (·.data.toList))) w'∧Below B w w'∧Oth b w w':=by
 have HT:Hid ((id++bs (Lib.join (xs.map (·.data.toList)) [32])++⟨#[59,10]⟩).data.toList=Zaw id.data.toList (xs.map (·.data.toList))):=by
  unfold Hid Zaw;rw[data_append,data_append,Array.toList_append,Array.toList_append];rfl
 have U7:(bs (Lib.join (xs.map (·.data.toList)) [32])).size≤100000000:=by rw[Za5];unfold Zaw at hl;simp only[length_append]at hl;omega
 have HJ:=Hd (fun W (g:Below w.heap.size w W)=>Zml ad n c xs W (hs.below g) h0 hn hc ⟨#[32]⟩ (by rw[Za5]at U7;exact le_trans U7 (by omega)));have HP:=Hd h;rw[Hid,show(⟨#[32]⟩:ByteArray).data.toList=[32]from rfl]at HJ;replace HJ:=Hd HJ;rw[←HT.out];clear h hs h0 hl HT;generalize bs (Lib.join (xs.map (·.data.toList)) [32])=J at *;have zn:(⟨#[59,10]⟩:ByteArray).size=2:=rfl;have a1:=fun w=>run_string_add_sum (P:=prog) (w:=w) id J (by omega);have a2:=fun w=>run_string_add_sum (P:=prog) (w:=w) (id++J) ⟨#[59,10]⟩ (by rw[size_append];omega);have Am:(id++J++⟨#[59,10]⟩:ByteArray).size≠0∧(id++J++⟨#[59,10]⟩:ByteArray).size≤200000000:=by rw[size_append,size_append];omega
 generalize id++J++⟨#[59,10]⟩=X at *;have HW:=Hd (fun W (g:PB B b t W) hB=>Zon B b t X W g Am.1 (by omega) hB);clear zn Am U7
 go_enter func33,ntmps33
 go_wp2_with fail
 refine wp_region_held_drew (S:=(fun _=>True)) (by kernel_rfl) ?_ (fun hHeld=>?_)
 ·trivial
 refine Tk 0 ?_;refine Tk 1 ?_;refine Tk 2 ?_;refine Tk 3 ?_;refine Tk 4 ?_;refine Rx 5 fun K hK=>?_
 go_simp
 refine(HJ.out _ (Below.refl _ _).drew).mono ?_;rintro e w2 ⟨rfl,hb⟩;have Ai:Hid (Below w.heap.size w w2):=(Below.refl _ _).drew.trans hb;clear hb
 go_simp
 clear hHeld;refine hK.out _ _ ?_ (fun hHeld=>?_)
 ·trivial
 clear hK K;refine Tk 6 ?_;refine Tk 7 ?_;refine Rx 8 fun K hK=>?_
 go_simp
 refine(HW.out _ (HP.out.kept Ai.out) (le_trans hB Ai.out.size)).mono ?_;rintro e w3 ⟨rfl,hp,hb,ho⟩;have G9:=Hd hp;have Ce:Hid (Oth b w w3):=(Oth.below Ai.out).trans ho;have C3:Hid (Below B w w3):=(Ai.out.mono hB).trans hb;clear hp hb ho
 go_simp
 clear hHeld;refine hK.out _ _ ?_ (fun hHeld=>?_)
 ·trivial
 clear hK K;refine Dn ?_;clear hHeld
 go_wp2_with fail
 go_end0;exact⟨rfl,G9.out,C3.out,Ce.out⟩
end Go.Proofs.YtmleeodfmmpdgaaGreatDoor
