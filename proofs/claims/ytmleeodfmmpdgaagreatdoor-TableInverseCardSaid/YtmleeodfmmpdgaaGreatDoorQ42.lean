/- part -/
import Derived.Test.YtmleeodfmmpdgaaGreatDoorQ41
set_option maxHeartbeats 2000000
namespace Go.Proofs.YtmleeodfmmpdgaaGreatDoor
open Go.RowKit
open _root_.List (append_assoc cons_append length_append length_cons length_map length_nil map_cons map_singleton mem_cons mem_cons_of_mem mem_cons_self mem_map nil_append not_mem_nil takeWhile_cons)
open _root_.Nat (zero_le)
structure Fo (s:List UInt8) (p:CP) (T:List UInt8):Prop where
 e:p.err=0
 le:p.pos≤s.length
 d:s.drop p.pos=T
structure Nx1 (T w U:List UInt8):Prop where
 tok:Zfz (w++U)=w
 bl:(w++U).takeWhile Zdt=[]
 sp:T=w++U∨T=32::(w++U)
theorem Fo.skip {s:List UInt8} {p:CP} {T w U:List UInt8} (h:Fo s p T)(n:Nx1 T w U):Fo s (p.skip s) (w++U)∧Zag s p.pos=w∧(p.skip s).rel=p.rel:=by
 have Q5:s.drop (Zb9 s p.pos)=w++U:=by
  unfold Zb9;rw[←List.drop_drop,h.d];rcases n.sp with e|e
  ·rw[e,n.bl];rfl
  ·rw[e,takeWhile_cons,if_pos (by decide),n.bl];rfl
 refine⟨⟨h.e,Zn6 h.le,Q5⟩,?_,rfl⟩;unfold Zag;rw[Q5,n.tok]
theorem Fo.adv {s:List UInt8} {p:CP} {w U:List UInt8} (h:Fo s p (w++U)):Fo s (p.adv w.length) U:=by
 refine⟨h.e,?_,?_⟩
 ·have:=congrArg List.length h.d;rw[List.length_drop,length_append]at this;have:=h.le;show p.pos+w.length≤s.length;omega
 ·show s.drop (p.pos+w.length)=U;rw[←List.drop_drop,h.d,List.drop_left]
theorem Fo.end {s:List UInt8} {p:CP} (h:Fo s p []):p.pos=s.length:=by
 have:=congrArg List.length h.d;rw[List.length_drop,length_nil]at this;have:=h.le;omega
theorem Fo.take {s:List UInt8} {p:CP} {T w U:List UInt8} (h:Fo s p T)(n:Nx1 T w U) {l:List ByteArray} (hl:l.contains (bs w)=true):
  (p.take s l).1=w∧Fo s (p.take s l).2 U∧(p.take s l).2.rel=p.rel:=by
 obtain⟨h1,h2,h3⟩:=h.skip n;rw[CP.take_ok (by rw[h2];exact hl) h.e,h2];exact⟨rfl,h1.adv,h3⟩
theorem Fo.yes {s:List UInt8} {p:CP} {T w U:List UInt8} (h:Fo s p T)(n:Nx1 T w U):(p.next s w).1=true∧Fo s (p.next s w).2 U∧(p.next s w).2.rel=p.rel:=by
 obtain⟨h1,h2,h3⟩:=h.skip n;rw[CP.next_yes h.e h2];exact⟨rfl,h1.adv,h3⟩
theorem Fo.no {s:List UInt8} {p:CP} {T w U x:List UInt8} (h:Fo s p T)(n:Nx1 T w U)(hx:w≠x):(p.next s x).1=false∧Fo s (p.next s x).2 (w++U)∧(p.next s x).2.rel=p.rel:=by
 obtain⟨h1,h2,h3⟩:=h.skip n;rw[CP.next_no h.e (by rw[h2];exact hx)];exact⟨rfl,h1,h3⟩
theorem Nx1.nil:Nx1 [] [] []:=⟨rfl,rfl,.inl rfl⟩
theorem Nx1.at {T w U:List UInt8} (n:Nx1 T w U):Nx1 (w++U) w U:=⟨n.tok,n.bl,.inl rfl⟩
structure Dg (w:List UInt8):Prop where
 ne:w≠[]
 all:∀c∈w,Zbo c=true
theorem Ztn (c:UInt8)(h:33≤c.toNat):Zdt c=false:=by
 unfold Zdt;rw[Bool.or_eq_false_iff,Bool.or_eq_false_iff,beq_eq_false_iff_ne,beq_eq_false_iff_ne,beq_eq_false_iff_ne];refine⟨⟨?_,?_⟩,?_⟩<;>(intro e;subst e;exact absurd h (by decide))
theorem Zy2 (c:UInt8)(h:Zbo c=true):Zby c=false∧Zdt c=false:=by
 unfold Zbo at h;rw[Bool.and_eq_true,decide_eq_true_eq,decide_eq_true_eq]at h;refine⟨?_,Ztn c (by omega)⟩;unfold Zby;rw[decide_eq_false (by omega)];rfl
theorem Zyd (c:UInt8)(h:Zby c=true):Zdt c=false:=by
 unfold Zby at h;rw[Bool.and_eq_true,decide_eq_true_eq,decide_eq_true_eq]at h;exact Ztn c (by omega)
def Zig (p:UInt8→Bool)(U:List UInt8):Prop:=∀c r,U=c::r→p c=false
theorem Zh5 {p:UInt8→Bool} :∀ {w U:List UInt8},(∀c∈w,p c=true)→Zig p U→(w++U).takeWhile p=w
 |[],[],_,_=>rfl
 |[],c::U,_,h=>by rw[nil_append,takeWhile_cons,h c U rfl];rfl
 |c::w,U,hw,h=>by
  rw[cons_append,takeWhile_cons,if_pos (hw c mem_cons_self),Zh5 (fun d hd=>hw d (mem_cons_of_mem _ hd)) h]
theorem Zaic {w U:List UInt8} (h:Dg w)(hU:Zig Zbo U):Zfz (w++U)=w∧(w++U).takeWhile Zdt=[]:=by
 obtain⟨hn,ha⟩:=h
 match w,hn,ha with
 |c::w,_,ha=>
  have hc:=ha c mem_cons_self;obtain⟨f1,f2⟩:=Zy2 c hc;refine⟨?_,by rw[cons_append,takeWhile_cons,f2];rfl⟩;rw[cons_append,Zfz,if_neg (by rw[f1];decide),if_pos hc];exact Zh5 (w:=c::w) ha hU
theorem Znc {w U:List UInt8} (hn:w≠[])(ha:∀c∈w,Zby c=true)(hU:Zig Zby U):Zfz (w++U)=w∧(w++U).takeWhile Zdt=[]:=by
 match w,hn,ha with
 |c::w,_,ha=>
  have hc:=ha c mem_cons_self;refine⟨?_,by rw[cons_append,takeWhile_cons,Zyd c hc];rfl⟩;rw[cons_append,Zfz,if_pos hc];exact Zh5 (w:=c::w) ha hU
theorem Zoj {z:Int} (h0:0≤z)(h1:z≤100):Dg (Lib.itoa z)∧Zg5 (Lib.itoa z)=true∧(Zem (Lib.itoa z):Int)=z:=by
 obtain⟨n,rfl⟩:=Int.eq_ofNat_of_zero_le h0;have k:∀v:Fin 101,(Lib.itoa (v.1:Int)≠[]∧(Lib.itoa (v.1:Int)).all Zbo=true)∧Zg5 (Lib.itoa (v.1:Int))=true∧Zem (Lib.itoa (v.1:Int))=v.1:=by decide+kernel
 obtain⟨⟨a,b⟩,c,d⟩:=k ⟨n,by omega⟩;exact⟨⟨a,fun x hx=>List.all_eq_true.1 b x hx⟩,c,by rw[d]⟩
theorem Nx1.num {T U:List UInt8} {z:Int} (h0:0≤z)(h1:z≤100)(hU:Zig Zbo U)(hT:T=Lib.itoa z++U∨T=32::(Lib.itoa z++U)):Nx1 T (Lib.itoa z) U:=by
 obtain⟨a,b⟩:=Zaic (Zoj h0 h1).1 hU;exact⟨a,b,hT⟩
theorem Fo.number {s:List UInt8} {p:CP} {T U:List UInt8} {z:Int} (h:Fo s p T)(h0:0≤z)(h1:z≤100)(n:Nx1 T (Lib.itoa z) U) {chk:Int→Int} (hc:chk z=0):
  (p.number s chk).1=z∧Fo s (p.number s chk).2 U∧(p.number s chk).2.rel=p.rel:=by
 obtain⟨g1,g2,g3⟩:=h.skip n;obtain⟨_,f2,f3⟩:=Zoj h0 h1;unfold CP.number;simp only[g2,f2,f3,hc,if_true,g1.e];exact⟨trivial,g1.adv,g3⟩
inductive Aft:List UInt8→Prop where
 |nil:Aft []
 |comma (r:List UInt8):Aft (44::r)
 |word (w r:List UInt8):w≠[]→(∀c∈w,Zby c=true)→Zig Zby r→Aft (32::(w++r))
theorem Aft.stop {T:List UInt8} (h:Aft T):Zig Zbo T:=by
 cases h with
 |nil=>intro c r e;cases e
 |comma r=>intro c r e;injection e with e1 _;subst e1;decide
 |word w r _ _ _=>intro c r e;injection e with e1 _;subst e1;decide
theorem Aft.tok {T:List UInt8} (h:Aft T):∃w U,Nx1 T w U∧w≠[46,46]∧(w=[44]→T=44::U):=by
 cases h with
 |nil=>exact⟨[],[],.nil,by decide,fun e=>by cases e⟩
 |comma r=>exact⟨[44],r,⟨rfl,rfl,.inl rfl⟩,by decide,fun _=>rfl⟩
 |word w r h1 h2 h3=>
  obtain⟨a,b⟩:=Znc h1 h2 h3;refine⟨w,r,⟨a,b,.inr rfl⟩,fun e=>?_,fun e=>?_⟩
  ·have:=h2 46 (by rw[e];exact mem_cons_self);exact absurd this (by decide)
  ·have:=h2 44 (by rw[e];exact mem_cons_self);exact absurd this (by decide)
theorem Zni (op:Int):Zbe op≤100:=by unfold Zbe;split <;> decide
def Zlv (T U:List UInt8):Prop:=U=T∨T=32::U
theorem Fo.span {s:List UInt8} {p:CP} {T U:List UInt8} {op:Int} {x:Int×Int} {k:Nat} (h:Fo s p T)(hx:Zaz op x=true)(hk:k<4)(hU:Aft U)(hT:T=Zak x++U∨T=32::(Zak x++U)):
  (CP.span s op k p).1=x∧(∃V,Zlv U V∧Fo s (CP.span s op k p).2 V)∧(CP.span s op k p).2.rel=p.rel:=by
 obtain⟨a,b⟩:=x;unfold Zaz at hx;rw[Bool.and_eq_true,Bool.and_eq_true,decide_eq_true_eq,decide_eq_true_eq,decide_eq_true_eq]at hx;obtain⟨⟨h0,h1⟩,h2⟩:=hx;replace h0:0≤a:=h0;replace h1:a≤b:=h1;replace h2:b≤Zbe op:=h2;have hg:=Zni op;have Gy:Zds op k a=0:=by unfold Zds;rw[if_neg (by omega),if_neg (by omega)]
 unfold CP.span
 by_cases e:a=b
 ·subst e;have hs:Zak (a,a)=Lib.itoa a:=by unfold Zak;rw[if_pos rfl]
  rw[hs]at hT;obtain⟨g1,g2,g3⟩:=h.number h0 (by omega) (.num h0 (by omega) hU.stop hT) Gy;obtain⟨w,V,n,hw,_⟩:=hU.tok;obtain⟨k1,k2,k3⟩:=g2.no n hw;dsimp only;rw[k1,if_neg (by decide),g1];refine⟨rfl,⟨w++V,?_,k2⟩,k3.trans g3⟩;rcases n.sp with e|e
  ·exact .inl e.symm
  ·exact .inr e
 ·have hs:Zak (a,b)=Lib.itoa a++([46,46]++Lib.itoa b):=by unfold Zak;rw[if_neg e,append_assoc]
  rw[hs,append_assoc,append_assoc]at hT;obtain⟨g1,g2,g3⟩:=h.number h0 (by omega) (.num h0 (by omega) (fun c r e=>by injection e with e1 _;subst e1;decide) hT) Gy;obtain⟨k1,k2,k3⟩:=g2.yes (w:=[46,46]) (U:=Lib.itoa b++U) ⟨rfl,rfl,.inl rfl⟩;have Fz:Zgo op a b=0:=by unfold Zgo;rw[if_neg (by omega)]
  dsimp only;rw[k1,if_pos rfl,g1];obtain⟨m1,m2,m3⟩:=k2.number (z:=b) (by omega) (by omega) (.num (by omega) (by omega) hU.stop (.inl rfl)) Fz;rw[m1];exact⟨rfl,⟨U,.inl rfl,m2⟩,m3.trans (k3.trans g3)⟩
theorem Zhj (x y:List UInt8)(l:List (List UInt8))(z:List UInt8):Lib.join (x::y::l) z=x++(z++Lib.join (y::l) z):=by simp[Lib.join,List.intercalate]
theorem Zg9 (x z:List UInt8):Lib.join [x] z=x:=by simp[Lib.join,List.intercalate]
theorem Fo.spans {s:List UInt8} {op:Int} :∀(l:List (Int×Int)) (fuel:Nat) (out:List (Int×Int)) {p:CP} {T U:List UInt8},l≠[]→l.length≤fuel→out.length+l.length≤4→(∀x∈l,Zaz op x=true)→Aft U→U.head? ≠some 44→Fo s p T→
  (T=Lib.join (l.map Zak) [44]++U∨T=32::(Lib.join (l.map Zak) [44]++U))→
  (CP.spans s op fuel out p).1=out++l∧(∃V,Zlv U V∧Fo s (CP.spans s op fuel out p).2 V)∧(CP.spans s op fuel out p).2.rel=p.rel
 |[x],fuel+1,out,p,T,U,_,_,hL,hx,hU,hc,h,hT=>by
  rw[map_singleton,Zg9]at hT;obtain⟨g1,⟨V,g2,g3⟩,g4⟩:=h.span (hx x mem_cons_self) (k:=out.length) (by simp at hL;omega) hU hT;obtain⟨w,W,n,_,hw⟩:=hU.tok;have n2:Nx1 V w W:=by
   rcases g2 with e|e
   ·subst e;exact n
   ·refine⟨n.tok,n.bl,.inl ?_⟩;have hb:=n.bl;rcases n.sp with e2|e2
    ·rw[←e2,e]at hb;rw[takeWhile_cons,if_pos (by decide)]at hb;cases hb
    ·rw[e]at e2;injection e2
  have Az:w≠[44]:=fun e=>by
   have:=hw e;rw[this]at hc;exact hc rfl
  obtain⟨k1,k2,k3⟩:=g3.no n2 Az;rw[CP.spans,if_pos h.e,k1,if_neg (by decide),g1];refine⟨rfl,⟨w++W,?_,k2⟩,k3.trans g4⟩;rcases n.sp with e|e
  ·exact .inl e.symm
  ·exact .inr e
 |x::y::l,fuel+1,out,p,T,U,_,hf,hL,hx,hU,hc,h,hT=>by
  rw[map_cons,map_cons,Zhj,append_assoc,append_assoc]at hT;obtain⟨g1,⟨V,g2,g3⟩,g4⟩:=h.span (hx x mem_cons_self) (k:=out.length) (by simp at hL;omega) (.comma _) hT;have hV:V=44::(Lib.join (Zak y::l.map Zak) [44]++U):=by
   rcases g2 with e|e
   ·exact e
   ·injection e with e1 _;exact absurd e1 (by decide)
  obtain⟨k1,k2,k3⟩:=g3.yes (w:=[44]) (U:=Lib.join (Zak y::l.map Zak) [44]++U) ⟨rfl,rfl,.inl hV⟩;have ih:=Fo.spans (y::l) fuel (out++[x]) (by simp) (by simp at hf⊢;omega) (by simp at hL⊢;omega) (fun z hz=>hx z (mem_cons_of_mem _ hz)) hU hc k2 (.inl rfl);rw[CP.spans,if_pos h.e,k1,if_pos rfl,g1];obtain⟨i1,i2,i3⟩:=ih;exact⟨by rw[i1,append_assoc];rfl,i2,i3.trans (k3.trans g4)⟩
inductive AftR:List UInt8→Prop where
 |nil:AftR []
 |word (w r:List UInt8):w≠[]→(∀c∈w,Zby c=true)→Zig Zby r→AftR (32::(w++r))
theorem AftR.aft {T:List UInt8} (h:AftR T):Aft T∧T.head? ≠some 44:=by
 cases h with
 |nil=>exact⟨.nil,by decide⟩
 |word w r h1 h2 h3=>exact⟨.word w r h1 h2 h3,by show some (32:UInt8)≠some 44;decide⟩
theorem Zip {r:Rel} (h:Zac r=true):1≤r.op∧r.op≤6∧(r.md=0∨Zdf r.op r.md=true)∧1≤r.sp.length∧r.sp.length≤4∧∀x∈r.sp,Zaz r.op x=true:=by
 unfold Zac at h;simp only[Bool.and_eq_true,Bool.or_eq_true,decide_eq_true_eq]at h;exact⟨h.1.1.1.1.1,h.1.1.1.1.2,h.1.1.1.2,h.1.1.2,h.1.2,fun x hx=>List.all_eq_true.1 h.2 x hx⟩
theorem Zwb {op md:Int} (h:Zdf op md=true):md=2∨md=3∨md=4∨md=5∨md=6∨md=10∨md=20∨md=25∨md=50∨md=100:=by
 unfold Zdf at h;split at h
 ·simpa using h
 ·split at h
  ·rcases(by simpa using h:md=10∨md=100)with rfl|rfl <;> simp
  ·cases h
theorem Zlz {op:Int} (h0:1≤op)(h1:op≤6):∃c,Zkv op=[c]∧Zby c=true∧Lib.index Zbh [c]=op:=by
 obtain rfl|rfl|rfl|rfl|rfl|rfl:op=1∨op=2∨op=3∨op=4∨op=5∨op=6:=by omega
 all_goals exact⟨_,rfl,by decide,by decide+kernel⟩
def CP.modulus (s:List UInt8)(op:Int)(q:CP):Int×CP:=if(CP.next s [37] q).1 then CP.number s (Zfh op) (CP.next s [37] q).2 else(0,(CP.next s [37] q).2)
theorem CP.relation_eq (s:List UInt8)(p:CP)(tk:List UInt8)(op:Int)(h:Zag s p.pos=tk)(ho:Lib.index Zbh tk=op):
  CP.relation s p=(⟨op,(CP.modulus s op (CP.take s [bs tk] (p.relHead s)).2).1,decide ((CP.take s [bs [61],bs [33,61]] (CP.modulus s op (CP.take s [bs tk] (p.relHead s)).2).2).1=[33,61]),(CP.spans s op 6 [] (CP.take s [bs [61],bs [33,61]] (CP.modulus s op (CP.take s [bs tk] (p.relHead s)).2).2).2).1⟩,
   (CP.spans s op 6 [] (CP.take s [bs [61],bs [33,61]] (CP.modulus s op (CP.take s [bs tk] (p.relHead s)).2).2).2).2):=by
 subst h ho;rfl
theorem Fo.relation {s:List UInt8} {r:Rel} {p:CP} {T U:List UInt8} (h:Fo s p T)(hr:Zac r=true)(hp:p.rel+1≤6)(hU:AftR U)(hT:T=Zc9 r++U∨T=32::(Zc9 r++U)):
  (CP.relation s p).1=r∧∃V,Zlv U V∧Fo s (CP.relation s p).2 V:=by
 obtain⟨op,md,ng,sp⟩:=r;obtain⟨r1,r2,r3,r4,r5,r6⟩:=Zip hr;dsimp only at r1 r2 r3 r4 r5 r6;obtain⟨c,hc,Bc,Ci⟩:=Zlz r1 r2;obtain⟨uA,uC⟩:=hU.aft
 -- the text behind the letter
 obtain⟨B,hB⟩:∃B,B=(if ng then [32,33,61,32]else [32,61,32])++(Lib.join (sp.map Zak) [44]++U):=⟨_,rfl⟩;obtain⟨A,hA⟩:∃A,A=(if md≠0 then [32,37,32]++Lib.itoa md else [])++B:=⟨_,rfl⟩;have Fj:∃B1,B=32::B1:=by rw[hB];cases ng <;> exact⟨_,rfl⟩
 have Fv:∃A1,A=32::A1:=by
  rw[hA]
  by_cases hm:md=0
  ·rw[if_neg (by simpa using hm)];exact Fj
  ·rw[if_pos hm];exact⟨_,rfl⟩
 have uD:Zc9 ⟨op,md,ng,sp⟩++U=[c]++A:=by
  unfold Zc9;dsimp only;rw[hc,hA,hB];simp only[append_assoc]
 rw[uD]at hT;have stopA:Zig Zby A:=by
  obtain⟨A1,e⟩:=Fv;intro d r e2;rw[e]at e2;injection e2 with e3 _;subst e3;decide
 obtain⟨t1,t2⟩:=Znc (w:=[c]) (U:=A) (by simp) (fun d hd=>by rw[List.mem_singleton.1 hd];exact Bc) stopA;have n0:Nx1 T [c] A:=⟨t1,t2,hT⟩;obtain⟨s1,s2,s3⟩:=h.skip n0
 -- the head
 have hh:p.relHead s= { (p.skip s)with rel:=p.rel+1 } :=by
  rw[CP.head_eq,s2,Ci,if_pos (by rw[decide_eq_false (show¬op<1 by omega)];rfl)];unfold CP.lim;rw[if_neg (by show¬6<(p.skip s).rel+1;rw[s3];omega)];rfl
 have fh:Fo s (p.relHead s) ([c]++A):=by rw[hh];exact⟨s1.e,s1.le,s1.d⟩
 obtain⟨_,q2,_⟩:=fh.take n0.at (l:=[bs [c]]) (List.contains_iff_mem.2 mem_cons_self)
 -- the modulus
 have hM:∃V,(V=B∨B=32::V)∧(CP.modulus s op (CP.take s [bs [c]] (p.relHead s)).2).1=md∧Fo s (CP.modulus s op (CP.take s [bs [c]] (p.relHead s)).2).2 V:=by
  unfold CP.modulus
  by_cases hm:md=0
  ·have uE:A=B:=by rw[hA,if_neg (by simpa using hm)];rfl
   subst hm;have nB:∃w V,Nx1 B w V∧w≠[37]:=by
    rw[hB];cases ng
    ·exact⟨[61],32::(Lib.join (sp.map Zak) [44]++U),⟨rfl,rfl,.inr rfl⟩,by decide⟩
    ·exact⟨[33,61],32::(Lib.join (sp.map Zak) [44]++U),⟨rfl,rfl,.inr rfl⟩,by decide⟩
   obtain⟨w,V,n,hw⟩:=nB;rw[uE]at q2;obtain⟨k1,k2,_⟩:=q2.no n hw;refine⟨w++V,?_,?_⟩
   ·rcases n.sp with e|e
    ·exact .inl e.symm
    ·exact .inr e
   ·rw[k1,if_neg (by decide)];exact⟨rfl,k2⟩
  ·have X7:Zdf op md=true:=r3.resolve_left hm;have Z5:A=32::([37]++(32::(Lib.itoa md++B))):=by rw[hA,if_pos hm];rfl
   rw[Z5]at q2;obtain⟨k1,k2,_⟩:=q2.yes (w:=[37]) (U:=32::(Lib.itoa md++B)) ⟨rfl,rfl,.inr rfl⟩;have Wu:=Zwb X7;have h0:0≤md:=by omega
   have h1:md≤100:=by omega
   obtain⟨B1,eB⟩:=Fj;have Ff:Zig Zbo B:=by rw[eB];exact fun d r e=>by injection e with e1 _;subst e1;decide
   have nn:Nx1 (32::(Lib.itoa md++B)) (Lib.itoa md) B:= .num h0 h1 Ff (.inr rfl);have cS:Zfh op md=0:=by unfold Zfh;rw[X7];rfl
   obtain⟨m1,m2,_⟩:=k2.number h0 h1 nn cS;refine⟨B,.inl rfl,?_⟩;rw[k1,if_pos rfl];exact⟨m1,m2⟩
 obtain⟨V,hV,hM⟩:=hM;rw[CP.relation_eq s p [c] op s2 Ci];generalize CP.modulus s op (CP.take s [bs [c]] (p.relHead s)).2=a at *;obtain⟨a1,a2⟩:=hM;have nV:Nx1 V (if ng then [33,61]else [61]) (32::(Lib.join (sp.map Zak) [44]++U)):=by
  have e2:B=32::((if ng then [33,61]else [61])++32::(Lib.join (sp.map Zak) [44]++U)):=by rw[hB];cases ng <;> rfl
  refine⟨by cases ng <;> rfl,by cases ng <;> rfl,?_⟩;rcases hV with e|e
  ·exact .inr (e.trans e2)
  ·rw[e2]at e;injection e with _ e3;exact .inl e3.symm
 obtain⟨b1,b2,_⟩:=a2.take nV (l:=[bs [61],bs [33,61]]) (by cases ng <;> decide);obtain⟨c1,c2,_⟩:=Fo.spans (s:=s) (op:=op) sp 6 [] (by intro e;rw[e]at r4;exact absurd r4 (by decide)) (by omega) (by simp;omega) r6 uA uC b2 (.inr rfl);rw[a1,b1,c1];refine⟨?_,c2⟩;cases ng <;> rfl
structure Wd (x:List UInt8):Prop where
 ne:x≠[]
 low:∀c∈x,Zby c=true
theorem Zpa {x r V:List UInt8} (hx:Wd x)(hr:Zig Zby r)(hV:Zlv (32::(x++r)) V):Nx1 V x r:=by
 obtain⟨a,b⟩:=Znc hx.ne hx.low hr;rcases hV with e|e
 ·exact⟨a,b,.inr e⟩
 ·injection e with _ e2;exact⟨a,b,.inl e2.symm⟩
theorem wd_and:Wd Zcx:=⟨by decide,by decide⟩
theorem wd_or:Wd orB:=⟨by decide,by decide⟩
theorem Zlc (p:UInt8→Bool)(h:p 32=false)(r:List UInt8):Zig p (32::r):=fun c q e=>by injection e with e1 _;subst e1;exact h
inductive AftC:List UInt8→Prop where
 |nil:AftC []
 |or (r:List UInt8):AftC (32::(orB++32::r))
theorem AftC.aftR {T:List UInt8} (h:AftC T):AftR T:=by
 cases h with
 |nil=>exact .nil
 |or r=>exact .word orB _ wd_or.ne wd_or.low (Zlc _ (by decide) r)
theorem AftC.no {s:List UInt8} {p:CP} {U V:List UInt8} (h:AftC U)(hV:Zlv U V)(hp:Fo s p V):(p.next s Zcx).1=false∧(∃V',Zlv U V'∧Fo s (p.next s Zcx).2 V')∧(p.next s Zcx).2.rel=p.rel:=by
 cases h with
 |nil=>
  have lD:V=[]:=by
   rcases hV with e|e
   ·exact e
   ·cases e
  subst lD;obtain⟨k1,k2,k3⟩:=hp.no .nil (show([]:List UInt8)≠Zcx by decide);exact⟨k1,⟨[],.inl rfl,k2⟩,k3⟩
 |or r=>
  have n:=Zpa wd_or (Zlc _ (by decide) r) hV;obtain⟨k1,k2,k3⟩:=hp.no n (show orB≠Zcx by decide);exact⟨k1,⟨orB++32::r,.inr rfl,k2⟩,k3⟩
theorem Fo.conj1 {s:List UInt8} {x:Rel} {fuel:Nat} {out:List Rel} {p:CP} {T U:List UInt8} (hL:p.rel+1≤6)(hx:Zac x=true)(hU:AftC U)(h:Fo s p T)(hT:T=Zc9 x++U∨T=32::(Zc9 x++U)):
  (CP.conj s (fuel+1) out p).1=out++[x]∧(∃V,Zlv U V∧Fo s (CP.conj s (fuel+1) out p).2 V)∧(CP.conj s (fuel+1) out p).2.rel=p.rel+1:=by
 obtain⟨g1,V,g2,g3⟩:=h.relation hx hL hU.aftR hT;have hr:=CP.relation_rel s p;generalize hq:CP.relation s p=q at *;obtain⟨k1,k2,k3⟩:=hU.no g2 g3;have e:CP.conj s (fuel+1) out p=(out++[x],(CP.next s Zcx q.2).2):=by
  rw[CP.conj,if_pos h.e,hq,k1,if_neg (by decide),g1]
 rw[e];exact⟨rfl,k2,k3.trans hr⟩
theorem Fo.conj2 {s:List UInt8} {x:Rel} {fuel:Nat} {out:List Rel} {p:CP} {T U:List UInt8} (hL:p.rel+1≤6)(hx:Zac x=true)(h:Fo s p T)(hT:T=Zc9 x++(32::(Zcx++(32::U)))∨T=32::(Zc9 x++(32::(Zcx++(32::U))))):
  ∃q:CP,CP.conj s (fuel+1) out p=CP.conj s fuel (out++[x]) q∧Fo s q (32::U)∧q.rel=p.rel+1:=by
 obtain⟨g1,V,g2,g3⟩:=h.relation (U:=32::(Zcx++(32::U))) hx hL (.word Zcx _ wd_and.ne wd_and.low (Zlc _ (by decide) _)) hT;have hr:=CP.relation_rel s p;generalize hq:CP.relation s p=q at *;obtain⟨k1,k2,k3⟩:=g3.yes (Zpa wd_and (Zlc _ (by decide) _) g2);refine⟨(CP.next s Zcx q.2).2,?_,k2,k3.trans hr⟩;rw[CP.conj,if_pos h.e,hq,k1,if_pos rfl,g1]
theorem Zadn (x y:Rel)(l:List Rel)(U:List UInt8):Zce (x::y::l)++U=Zc9 x++(32::(Zcx++(32::(Zce (y::l)++U)))):=by
 unfold Zce;rw[map_cons,map_cons,Zhj,append_assoc,append_assoc];rfl
theorem Fo.conj {s:List UInt8} (l:List Rel):∀(fuel:Nat) (out:List Rel) {p:CP} {T U:List UInt8},l≠[]→l.length≤fuel→p.rel+l.length≤6→(∀r∈l,Zac r=true)→AftC U→Fo s p T→(T=Zce l++U∨T=32::(Zce l++U))→
  (CP.conj s fuel out p).1=out++l∧(∃V,Zlv U V∧Fo s (CP.conj s fuel out p).2 V)∧(CP.conj s fuel out p).2.rel=p.rel+l.length:=by
 induction l with
 |nil=>intro _ _ _ _ _ h;exact absurd rfl h
 |cons x l ih=>
  intro fuel out p T U _ hf hL hx hU h hT;rw[length_cons]at hf hL;obtain⟨fuel,rfl⟩:∃k,fuel=k+1:=⟨fuel - 1,by omega⟩;cases l with
  |nil=>
   have e1:Zce [x]=Zc9 x:=by unfold Zce;rw[map_singleton,Zg9]
   rw[e1]at hT;exact Fo.conj1 (by rw[length_nil]at hL;omega) (hx x mem_cons_self) hU h hT
  |cons y l=>
   rw[Zadn]at hT;obtain⟨q,q1,q2,q3⟩:=Fo.conj2 (fuel:=fuel) (out:=out) (by omega) (hx x mem_cons_self) h hT;obtain⟨i1,i2,i3⟩:=ih fuel (out++[x]) (p:=q) (by simp) (by omega) (by omega) (fun z hz=>hx z (mem_cons_of_mem _ hz)) hU q2 (.inr rfl);rw[q1];refine⟨by rw[i1,append_assoc];rfl,i2,?_⟩;rw[i3,q3,length_cons (a:=x)];omega
theorem Ze5 {l:List Rel} (h:Zc0 l=true):l≠[]∧∀r∈l,Zac r=true:=by
 unfold Zc0 at h;rw[Bool.and_eq_true]at h;refine⟨fun e=>?_,fun r hr=>List.all_eq_true.1 h.2 r hr⟩;rw[e]at h;cases h.1
theorem Fo.disj1 {s:List UInt8} {x:List Rel} {fuel:Nat} {out:List (List Rel)} {p:CP} {T:List UInt8} (hL:p.rel+x.length≤6)(hx:Zc0 x=true)(h:Fo s p T)(hT:T=Zce x∨T=32::Zce x):
  (CP.disj s (fuel+1) out p).1=out++[x]∧Fo s (CP.disj s (fuel+1) out p).2 []:=by
 obtain⟨x1,x2⟩:=Ze5 hx;obtain⟨g1,⟨V,g2,g3⟩,_⟩:=Fo.conj (U:=[]) x 8 [] x1 (by omega) hL x2 .nil h (by rw[List.append_nil];exact hT);have lD:V=[]:=by
  rcases g2 with e|e
  ·exact e
  ·cases e
 subst lD;generalize hq:CP.conj s 8 [] p=q at *;obtain⟨k1,k2,_⟩:=g3.no .nil (show([]:List UInt8)≠orB by decide);have e:CP.disj s (fuel+1) out p=(out++[x],(CP.next s orB q.2).2):=by
  rw[CP.disj,if_pos h.e,hq,k1,if_neg (by decide),g1];rfl
 rw[e];exact⟨rfl,k2⟩
theorem Fo.disj2 {s:List UInt8} {x:List Rel} {fuel:Nat} {out:List (List Rel)} {p:CP} {T U:List UInt8} (hL:p.rel+x.length≤6)(hx:Zc0 x=true)(h:Fo s p T)(hT:T=Zce x++(32::(orB++32::U))∨T=32::(Zce x++(32::(orB++32::U)))):
  ∃q:CP,CP.disj s (fuel+1) out p=CP.disj s fuel (out++[x]) q∧Fo s q (32::U)∧q.rel=p.rel+x.length:=by
 obtain⟨x1,x2⟩:=Ze5 hx;obtain⟨g1,⟨V,g2,g3⟩,g4⟩:=Fo.conj x 8 [] x1 (by omega) hL x2 (.or U) h hT;generalize hq:CP.conj s 8 [] p=q at *;obtain⟨k1,k2,k3⟩:=g3.yes (Zpa wd_or (Zlc _ (by decide) _) g2);refine⟨(CP.next s orB q.2).2,?_,k2,k3.trans g4⟩;rw[CP.disj,if_pos h.e,hq,k1,if_pos rfl,g1];rfl
theorem Zq0 (x y:List Rel)(c:List (List Rel)):Zad (x::y::c)=Zce x++(32::(orB++32::Zad (y::c))):=by
 unfold Zad;rw[map_cons,map_cons,Zhj];rfl
theorem Ziq (x:List Rel)(c:List (List Rel)):Zbf (x::c)=x.length+Zbf c:=by unfold Zbf;rw[map_cons,List.sum_cons]
theorem Fo.disj {s:List UInt8} (c:List (List Rel)):∀(fuel:Nat) (out:List (List Rel)) {p:CP} {T:List UInt8},c≠[]→c.length≤fuel→p.rel+Zbf c≤6→(∀l∈c,Zc0 l=true)→Fo s p T→(T=Zad c∨T=32::Zad c)→
  (CP.disj s fuel out p).1=out++c∧Fo s (CP.disj s fuel out p).2 []:=by
 induction c with
 |nil=>intro _ _ _ _ h;exact absurd rfl h
 |cons x c ih=>
  intro fuel out p T _ hf hL hx h hT;rw[length_cons]at hf;rw[Ziq]at hL;obtain⟨fuel,rfl⟩:∃k,fuel=k+1:=⟨fuel - 1,by omega⟩;cases c with
  |nil=>
   have e1:Zad [x]=Zce x:=by unfold Zad;rw[map_singleton,Zg9]
   rw[e1]at hT;exact Fo.disj1 (by omega) (hx x mem_cons_self) h hT
  |cons y c=>
   rw[Zq0]at hT;obtain⟨q,q1,q2,q3⟩:=Fo.disj2 (fuel:=fuel) (out:=out) (by omega) (hx x mem_cons_self) h hT;obtain⟨i1,i2⟩:=ih fuel (out++[x]) (p:=q) (by simp) (by omega) (by omega) (fun z hz=>hx z (mem_cons_of_mem _ hz)) q2 (.inr rfl);rw[q1];exact⟨by rw[i1,append_assoc];rfl,i2⟩
theorem Zl2:∀c:List (List Rel),(∀l∈c,Zc0 l=true)→c.length≤Zbf c
 |[],_=>zero_le _
 |x::c,h=>by
  have ih:=Zl2 c (fun l hl=>h l (mem_cons_of_mem _ hl));have h1:=(Ze5 (h x mem_cons_self)).1;have h2:0<x.length:=List.length_pos_iff.2 h1;rw[Ziq,length_cons];omega
theorem Zz8:Zso:=fun c hc=>by
 unfold Zbw at hc;rw[Bool.and_eq_true,Bool.and_eq_true,decide_eq_true_eq]at hc;obtain⟨⟨h1,h2⟩,h3⟩:=hc;have Be:∀l∈c,Zc0 l=true:=fun l hl=>List.all_eq_true.1 h1 l hl;have Az:c≠[]:=fun e=>by rw[e]at h2;cases h2
 have Ah:=Zl2 c Be;have h0:Fo (Zad c) ⟨0,0,0⟩ (Zad c):=⟨rfl,zero_le _,rfl⟩;obtain⟨g1,g2⟩:=Fo.disj (s:=Zad c) c 8 [] Az (by omega) (by show 0+Zbf c≤6;omega) Be h0 (.inl rfl);obtain⟨k1,_,_⟩:=g2.skip .nil;have e0:Zb3 (Zad c)=(if(if(CP.skip (Zad c) (CP.disj (Zad c) 8 [] ⟨0,0,0⟩).2).pos<(Zad c).length then(CP.skip (Zad c) (CP.disj (Zad c) 8 [] ⟨0,0,0⟩).2).fail 3 else CP.skip (Zad c) (CP.disj (Zad c) 8 [] ⟨0,0,0⟩).2).err=0 then((CP.disj (Zad c) 8 [] ⟨0,0,0⟩).1,0,0)else([],((if(CP.skip (Zad c) (CP.disj (Zad c) 8 [] ⟨0,0,0⟩).2).pos<(Zad c).length then(CP.skip (Zad c) (CP.disj (Zad c) 8 [] ⟨0,0,0⟩).2).fail 3 else CP.skip (Zad c) (CP.disj (Zad c) 8 [] ⟨0,0,0⟩).2).pos:Int),(if(CP.skip (Zad c) (CP.disj (Zad c) 8 [] ⟨0,0,0⟩).2).pos<(Zad c).length then(CP.skip (Zad c) (CP.disj (Zad c) 8 [] ⟨0,0,0⟩).2).fail 3 else CP.skip (Zad c) (CP.disj (Zad c) 8 [] ⟨0,0,0⟩).2).err)):=rfl;rw[e0];generalize CP.skip (Zad c) (CP.disj (Zad c) 8 [] ⟨0,0,0⟩).2=q at *;have hq:(if q.pos<(Zad c).length then q.fail 3 else q)=q:=if_neg (by rw[k1.end];exact Nat.lt_irrefl _);rw[hq,if_pos k1.e,g1];rfl
def Ztm:Kk:=(3,[59])
def It.all (it:It):List Kk:=it.keys++[Ztm]
def Zfd (l:List It):List Kk:=l.flatMap It.all
def Zc5 (l:List It)(y:Lc):Lc:=l.foldl (fun y it=>it.app y) y
def Fits:List It→Lc→Prop
 |[],_=>True
 |it::l,y=>it.val∧it.new y∧Fits l (it.app y)
theorem Zxh (a b:List It)(y:Lc):Zc5 (a++b) y=Zc5 b (Zc5 a y):=by unfold Zc5;rw[List.foldl_append]
theorem Fits.app:∀ {a b:List It} {y:Lc},Fits a y→Fits b (Zc5 a y)→Fits (a++b) y
 |[],_,_,_,h=>h
 |_::a,_,_,h,g=>⟨h.1,h.2.1,Fits.app (a:=a) h.2.2 g⟩
theorem Rdy.len {r:RS} {ks:List Kk} (h:Rdy r ks):r.l.length=ks.length:=by rw[←h.2,length_map]
theorem Zqs (it:It):∃s l,it.keys=(1,s)::l:=by cases it <;> exact⟨_,_,rfl⟩
theorem Zsc:∀l:List It,l.length≤(Zfd l).length
 |[]=>zero_le _
 |it::l=>by
  have:=Zsc l;show l.length+1≤(it.all++Zfd l).length;rw[length_append];have:0<it.all.length:=by unfold It.all;rw[length_append];simp
  omega
def Zei:Kk:=(3,[125])
theorem Zqe (E:Int):∀(l:List It) (n:Nat) (y:Lc) {r:RS} {ks:List Kk},l.length≤n→Rdy r (Zfd l++Zei::ks)→Fits l y→(tItems E n y r).1=Zc5 l y∧Rdy (tItems E n y r).2 (Zei::ks)
 |[],0,y,r,ks,_,h,_=>⟨rfl,h⟩
 |[],n+1,y,r,ks,_,h,_=>by
  have hi:r.is E 3 [125]=true:=by rw[Rdy.is (k:=Zei) h];decide
  rw[tItems,if_neg (by rw[hi];simp)];exact⟨rfl,h⟩
 |it::l,n+1,y,r,ks,hn,h,hf=>by
  have h0:Rdy r (it.keys++Ztm::(Zfd l++Zei::ks)):=by
   have e:Zfd (it::l)++Zei::ks=it.keys++Ztm::(Zfd l++Zei::ks):=by
    show(it.all++Zfd l)++Zei::ks=_;unfold It.all;simp[append_assoc]
   rwa [e]at h
  obtain⟨s,q,hk⟩:=Zqs it;have hi:r.is E 3 [125]=false:=by
   rw[hk]at h0;rw[Rdy.is (k:=(1,s)) h0];rfl
  obtain⟨g1,g2⟩:=Zael Zz8 E it y h0 hf.1 hf.2.1;rw[tItems,if_pos ⟨h.1,hi⟩];have Ko:l.length≤n:=by rw[length_cons]at hn;omega
  obtain⟨i1,i2⟩:=Zqe E l n (tItem E y r).1 Ko g2 (by rw[g1];exact hf.2.2);exact⟨by rw[i1,g1];rfl,i2⟩
def Zf9:List UInt8:=[112,97,114,101,110,116]
def Zht (tag par:ByteArray):List Kk:=wd tag::(if par= .empty then []else [(1,Zf9),wd par])
theorem Rdy.head {r:RS} {tag par:ByteArray} {ks:List Kk} (h:Rdy r (Zht tag par++(3,[123])::ks)) (E:Int):(r.head E).1=(tag,par)∧Rdy (r.head E).2 ((3,[123])::ks):=by
 unfold Zht at h;obtain⟨a1,a2⟩:=Rdy.word (s:=tag.data.toList) h E;unfold RS.head;dsimp only
 by_cases hp:par= .empty
 ·rw[if_pos hp]at a2;rw[Rdy.is (k:=(3,[123])) a2,if_neg (by decide),a1,hp];exact⟨rfl,a2⟩
 ·rw[if_neg hp]at a2;have a3:Rdy (r.word E).2 ((1,Zf9)::(1,par.data.toList)::(3,[123])::ks):=a2;obtain⟨b1,b2⟩:=a3.word E;obtain⟨c1,c2⟩:=b2.word E;rw[a3.is,if_pos (by decide),a1,c1];exact⟨rfl,c2⟩
theorem Rdy.locale {r:RS} {tag par:ByteArray} {l:List It} {ks:List Kk} (h:Rdy r (Zht tag par++(3,[123])::(Zfd l++Zei::ks))) (E:Int) (hf:Fits l (lc0 tag par)):
  (tLocale E r).1=Zc5 l (lc0 tag par)∧Rdy (tLocale E r).2 ks:=by
 obtain⟨a1,a2⟩:=h.head E;have b:=a2.mark E;have hl:=b.len;rw[length_append]at hl;have hi:=Zsc l;obtain⟨c1,c2⟩:=Zqe E l (((r.head E).2.mark E [123]).l.length+1) (lc0 tag par) (by omega) b hf;unfold tLocale;dsimp only;rw[a1];exact⟨c1,c2.mark E⟩
inductive Pt where
 |loc (tag par:ByteArray) (l:List It)
 |al (x:Al)
 |ne (x:Ne)
def Zfc:List UInt8:=[108,111,99,97,108,101]
def Zo6:List UInt8:=[97,108,105,97,115]
def Zrq:List UInt8:=[110,101,97,114]
def Pt.keys:Pt→List Kk
 | .loc tag par l=>(1,Zfc)::(Zht tag par++(3,[123])::(Zfd l++[Zei]))
 | .al x=>[(1,Zo6),wd x.fro,wd x.dst,Ztm]
 | .ne x=>[(1,Zrq),wd x.fro,wd x.dst,(1,Lib.itoa x.cost),Ztm]
def Pt.app:Pt→Tb→Tb
 | .loc tag par l,t=> { t with locs:=t.locs++[Zc5 l (lc0 tag par)] }
 | .al x,t=> { t with als:=t.als++[x] }
 | .ne x,t=> { t with near:=t.near++[x] }
def Pt.fit:Pt→Tb→Prop
 | .loc tag par l,t=>(Zb6 [tag]=true∧(par= .empty∨Zb6 [par]=true))∧Fits l (lc0 tag par)∧t.locs.length<60
 | .al x,t=>Zfy x=true∧t.als.length<200
 | .ne x,t=>Zee x=true∧t.near.length<200
theorem Zp9 (p:Int)(r:RS):tLim p false r=r:=rfl
theorem Zhu {x:Ne} (h:Zee x=true):Zb6 [x.fro,x.dst]=true∧0≤x.cost∧x.cost≤1000:=by
 unfold Zee at h;rw[Bool.and_eq_true,Bool.and_eq_true,decide_eq_true_eq,decide_eq_true_eq]at h;exact h
theorem Zacp (E:Int)(pt:Pt)(t:Tb) {r:RS} {ks:List Kk} (h:Rdy r (pt.keys++ks))(hf:pt.fit t):(Zax E t r).1=pt.app t∧Rdy (Zax E t r).2 ks:=by
 unfold Zax;cases pt with
 |loc tag par l=>
  have h0:Rdy r ((1,Zfc)::(Zht tag par++(3,[123])::(Zfd l++Zei::ks))):=by
   have e:(Pt.loc tag par l).keys++ks=(1,Zfc)::(Zht tag par++(3,[123])::(Zfd l++Zei::ks)):=by
    show(1,Zfc)::(Zht tag par++(3,[123])::(Zfd l++[Zei]))++ks=_;simp[append_assoc]
   rwa [e]at h
  dsimp only;rw[h0.is,if_pos (by decide)];obtain⟨a1,a2⟩:=Rdy.locale (h0.word E).2 E hf.2.1;have:=hf.2.2;rw[a1,decide_eq_false (show¬60<t.locs.length+1 by omega)];exact⟨rfl,a2⟩
 |al x=>
  have h0:Rdy r ((1,Zo6)::(1,x.fro.data.toList)::(1,x.dst.data.toList)::(3,[59])::ks):=h;dsimp only;rw[h0.is,if_neg (by decide),h0.is,if_pos (by decide)];obtain⟨a1,a2⟩:=Rdy.al (x:=x) (h0.word E).2 E;have:=hf.2;rw[a1,decide_eq_false (show¬200<t.als.length+1 by omega)];exact⟨rfl,a2⟩
 |ne x=>
  have h0:Rdy r ((1,Zrq)::(1,x.fro.data.toList)::(1,x.dst.data.toList)::(1,Lib.itoa x.cost)::(3,[59])::ks):=h;dsimp only;rw[h0.is,if_neg (by decide),h0.is,if_neg (by decide),h0.is,if_pos (by decide)];obtain⟨_,v1,v2⟩:=Zhu hf.1;obtain⟨a1,a2⟩:=Rdy.ne (x:=x) (h0.word E).2 E v1 v2;have:=hf.2;rw[a1,decide_eq_false (show¬200<t.near.length+1 by omega)];exact⟨rfl,a2⟩
def Znn (l:List Pt):List Kk:=l.flatMap Pt.keys
def Zfe (l:List Pt)(t:Tb):Tb:=l.foldl (fun t p=>p.app t) t
def PFits:List Pt→Tb→Prop
 |[],_=>True
 |p::l,t=>p.fit t∧PFits l (p.app t)
theorem Zld (a b:List Pt)(t:Tb):Zfe (a++b) t=Zfe b (Zfe a t):=by unfold Zfe;rw[List.foldl_append]
theorem PFits.app:∀ {a b:List Pt} {t:Tb},PFits a t→PFits b (Zfe a t)→PFits (a++b) t
 |[],_,_,_,h=>h
 |_::a,_,_,h,g=>⟨h.1,PFits.app (a:=a) h.2 g⟩
theorem Zvk:∀l:List Pt,l.length≤(Znn l).length
 |[]=>zero_le _
 |p::l=>by
  have:=Zvk l;show l.length+1≤(p.keys++Znn l).length;rw[length_append];have:0<p.keys.length:=by cases p <;> simp[Pt.keys]
  omega
theorem Zq7 (E:Int):∀(l:List Pt) (n:Nat) (t:Tb) {r:RS},l.length≤n→Rdy r (Znn l)→PFits l t→(Zbn E n t r).1=Zfe l t∧Rdy (Zbn E n t r).2 []
 |[],0,t,r,_,h,_=>⟨rfl,h⟩
 |[],n+1,t,r,_,h,_=>by
  have:r.l=[]:=by have:=h.len;exact List.eq_nil_of_length_eq_zero this
  rw[Zbn,if_neg (by rw[this];simp)];exact⟨rfl,h⟩
 |p::l,n+1,t,r,hn,h,hf=>by
  have h0:Rdy r (p.keys++Znn l):=h;have Az:r.l≠[]:=fun e=>by
   have h1:=h0.len;rw[e,length_append]at h1;have:0<p.keys.length:=by cases p <;> simp[Pt.keys]
   simp at h1;omega
  obtain⟨g1,g2⟩:=Zacp E p t h0 hf.1;rw[Zbn,if_pos ⟨h.1,Az⟩];have Ko:l.length≤n:=by rw[length_cons]at hn;omega
  obtain⟨i1,i2⟩:=Zq7 E l n (Zax E t r).1 Ko g2 (by rw[g1];exact hf.2);exact⟨by rw[i1,g1];rfl,i2⟩
theorem Zx4 {z:List UInt8} {l:List Pt} (hz:z.length≤200000)(h:Txt z (Znn l))(hf:PFits l tb0):Zal z=(Zfe l tb0,0,0):=by
 obtain⟨h1,h2⟩:=Zaex h;unfold Zal;rw[if_neg (by omega),if_pos h1];unfold Zmo;have hr:Rdy ⟨(Zap z).1,0,0⟩ (Znn l):=⟨rfl,h2⟩;have hl:l.length≤(Zap z).1.length+1:=by
  have:=hr.len;have:=Zvk l;show l.length≤(⟨(Zap z).1,0,0⟩:RS).l.length+1;omega
 obtain⟨g1,g2⟩:=Zq7 (z.length:Int) l _ tb0 hl hr hf;dsimp only;rw[if_pos g2.1,g1]
def It.txt (it:It):List UInt8:=Zaw [9] (it.keys.map Zeo)
theorem Zjf {s:ByteArray} (h:Zbk s.data.toList=true):okK (tx s)=true:=by unfold tx;rw[Zrm];exact h
theorem Zew {s:ByteArray} (h:Zam s.data.toList=true):okK (wd s)=true:=by unfold wd;rw[Zh9];exact h
theorem Zabb {d:ByteArray} (h:dirL.contains d=true):Zam d.data.toList=true:=by
 have h1:=List.contains_iff_mem.1 h;simp only[dirL,mem_cons,not_mem_nil,or_false]at h1;rcases h1 with rfl|rfl <;> decide+kernel
theorem Zkg {d:ByteArray} (h:classU.contains d=true):Zam d.data.toList=true:=by
 have h1:=List.contains_iff_mem.1 h;simp only[classU,classL,List.mem_append,mem_cons,not_mem_nil,or_false]at h1;rcases h1 with(rfl|rfl|rfl|rfl|rfl)|rfl <;> decide+kernel
theorem Zqp {d:ByteArray} (h:classL.contains d=true):classU.contains d=true:=List.contains_iff_mem.2 (List.mem_append_left _ (List.contains_iff_mem.1 h))
theorem Zzb (i:Nat)(h:i<9):Zam (keyL.getD i [])=true:=by
 have:∀v:Fin 9,Zam (keyL.getD v.1 [])=true:=by decide+kernel
 exact this ⟨i,h⟩
theorem Zfx (i:Nat)(h:i<9):okK (1,keyL.getD i [])=true:=by rw[Zh9];exact Zzb i h
theorem xsm {l:List ByteArray} (h:Zb2 l=true)(s:ByteArray)(hs:s∈l):Zbk s.data.toList=true:=Zey h hs
theorem wsm {l:List ByteArray} (h:Zb6 l=true)(s:ByteArray)(hs:s∈l):Zam s.data.toList=true:=Ze4 h hs
def AscL (l:List UInt8):Prop:=∀c∈l,c.toNat<128
theorem AscL.app {a b:List UInt8} (ha:AscL a)(hb:AscL b):AscL (a++b):=fun c hc=>(List.mem_append.1 hc).elim (ha c) (hb c)
theorem AscL.join {l:List (List UInt8)} {sep:List UInt8} (hs:AscL sep)(h:∀x∈l,AscL x):AscL (Lib.join l sep):=by
 induction l with
 |nil=>intro c hc;rw[Lib.join_nil]at hc;cases hc
 |cons x r ih=>
  cases r with
  |nil=>rw[Zg9];exact h x mem_cons_self
  |cons y r=>
   rw[Zhj];exact(h x mem_cons_self).app (hs.app (ih fun z hz=>h z (mem_cons_of_mem _ hz)))
theorem AscL.lit {l:List UInt8} (h:(l.all fun c=>decide (c.toNat<128))=true):AscL l:=fun c hc=>of_decide_eq_true (List.all_eq_true.1 h c hc)
theorem Zxy {l:List UInt8} (h:AscL l):Lib.validD l=true:=by
 have:=Lib.validD_ascii l.length l (fun b hb=>h b (List.mem_of_mem_take hb));rw[this,List.drop_length];rfl
theorem Znk {z:Int} (h0:0≤z)(h1:z≤100):AscL (Lib.itoa z)∧(Lib.itoa z).length≤3:=by
 obtain⟨n,rfl⟩:=Int.eq_ofNat_of_zero_le h0;have k:∀v:Fin 101,((Lib.itoa (v.1:Int)).all fun c=>decide (c.toNat<128))=true∧(Lib.itoa (v.1:Int)).length≤3:=by decide+kernel
 obtain⟨a,b⟩:=k ⟨n,by omega⟩;exact⟨.lit a,b⟩
theorem Zsx {op:Int} {x:Int×Int} (hx:Zaz op x=true):AscL (Zak x)∧(Zak x).length≤8:=by
 unfold Zaz at hx;rw[Bool.and_eq_true,Bool.and_eq_true,decide_eq_true_eq,decide_eq_true_eq,decide_eq_true_eq]at hx;have hg:=Zni op;obtain⟨a1,a2⟩:=Znk (z:=x.1) (by omega) (by omega);obtain⟨b1,b2⟩:=Znk (z:=x.2) (by omega) (by omega);unfold Zak;split
 ·exact⟨a1,by omega⟩
 ·refine⟨(a1.app (.lit (by decide))).app b1,?_⟩;simp only[length_append,length_cons,length_nil];omega
theorem Zm9 (sep:List UInt8)(f:Nat):∀l:List (List UInt8),(∀x∈l,x.length≤f)→(Lib.join l sep).length≤l.length *(f+sep.length)
 |[],_=>zero_le _
 |[x],h=>by
  have:=h x mem_cons_self;rw[Zg9,List.length_singleton];omega
 |x::y::l,h=>by
  have ih:=Zm9 sep f (y::l) (fun z hz=>h z (mem_cons_of_mem _ hz));have:=h x mem_cons_self;rw[Zhj,length_append,length_append,length_cons (a:=x),Nat.succ_mul];omega
theorem Zvs {r:Rel} (h:Zac r=true):AscL (Zc9 r)∧(Zc9 r).length≤47:=by
 obtain⟨h1,h2,h3,h4,h5,h6⟩:=Zip h;obtain⟨c,hc,Bc,_⟩:=Zlz h1 h2;have gQ:c.toNat<128:=by
  unfold Zby at Bc;rw[Bool.and_eq_true,decide_eq_true_eq,decide_eq_true_eq]at Bc;omega
 have Mi:AscL (Lib.join (r.sp.map Zak) [44])∧(Lib.join (r.sp.map Zak) [44]).length≤36:=by
  refine⟨.join (.lit (by decide)) fun x hx=>?_,?_⟩
  ·obtain⟨s,hs,rfl⟩:=List.mem_map.1 hx;exact(Zsx (h6 s hs)).1
  ·have:=Zm9 [44] 8 (r.sp.map Zak) (fun x hx=>by
    obtain⟨s,hs,rfl⟩:=List.mem_map.1 hx;exact(Zsx (h6 s hs)).2)
   rw[length_map,List.length_singleton]at this;omega
 have Wu:AscL (if r.md≠0 then [32,37,32]++Lib.itoa r.md else [])∧(if r.md≠0 then [32,37,32]++Lib.itoa r.md else []).length≤6:=by
  split
  ·rename_i hm;have hp:=Zwb (h3.resolve_left hm);obtain⟨a,b⟩:=Znk (z:=r.md) (by omega) (by omega);refine⟨AscL.app (.lit (by decide)) a,?_⟩;simp only[length_append,length_cons,length_nil];omega
  ·exact⟨(fun c hc=>by cases hc),by decide⟩
 have pG:AscL (if r.neg then [32,33,61,32]else [32,61,32])∧(if r.neg then([32,33,61,32]:List UInt8)else [32,61,32]).length≤4:=by
  split
  ·exact⟨.lit (by decide),by decide⟩
  ·exact⟨.lit (by decide),by decide⟩
 unfold Zc9;rw[hc];refine⟨((AscL.app (fun d hd=>by rw[List.mem_singleton.1 hd];exact gQ) Wu.1).app pG.1).app Mi.1,?_⟩;have a1:=Wu.2;have a2:=pG.2;have a3:=Mi.2;simp only[length_append,List.length_singleton];omega
theorem Zpk {l:List Rel} (h:∀r∈l,Zac r=true):AscL (Zce l)∧(Zce l).length≤l.length *52:=by
 refine⟨.join (.lit (by decide)) fun x hx=>?_,?_⟩
 ·obtain⟨s,hs,rfl⟩:=List.mem_map.1 hx;exact(Zvs (h s hs)).1
 ·have:=Zm9 [32,97,110,100,32] 47 (l.map Zc9) (fun x hx=>by
   obtain⟨s,hs,rfl⟩:=List.mem_map.1 hx;exact(Zvs (h s hs)).2)
  rw[length_map]at this;exact this
theorem Zpx:∀c:List (List Rel),(∀l∈c,Zc0 l=true)→(Zad c).length≤Zbf c *52+4 *c.length
 |[],_=>zero_le _
 |[x],h=>by
  have h1:=(Zpk (Ze5 (h x mem_cons_self)).2).2;have e1:Zad [x]=Zce x:=by unfold Zad;rw[map_singleton,Zg9]
  rw[e1,Ziq,Nat.add_mul];omega
 |x::y::c,h=>by
  have h1:=(Zpk (Ze5 (h x mem_cons_self)).2).2;have ih:=Zpx (y::c) (fun l hl=>h l (mem_cons_of_mem _ hl));rw[Zq0,Ziq x,Nat.add_mul,length_append,length_cons,length_append,length_cons (a:=x),length_cons];have:orB.length=2:=rfl;omega
theorem Zl0 {c:List (List Rel)} (h:Zbw c=true):Zbk (Zad c)=true∧(Zad c).length≤336:=by
 unfold Zbw at h;rw[Bool.and_eq_true,Bool.and_eq_true,decide_eq_true_eq]at h;obtain⟨⟨h1,h2⟩,h3⟩:=h;have Be:∀l∈c,Zc0 l=true:=fun l hl=>List.all_eq_true.1 h1 l hl;have Ah:=Zl2 c Be;have hl:=Zpx c Be;have ha:AscL (Zad c):= .join (.lit (by decide)) fun x hx=>by
  obtain⟨s,hs,rfl⟩:=List.mem_map.1 hx;exact(Zpk (Ze5 (Be s hs)).2).1
 refine⟨?_,by omega⟩;unfold Zbk;rw[Zxy ha,decide_eq_true (by omega)];rfl
theorem It.ok {it:It} (h:it.val):∀k∈it.keys,okK k=true:=by
 intro k hk;cases it with
 |dir d=>
  simp only[It.keys,mem_cons,not_mem_nil,or_false]at hk;rcases hk with rfl|rfl
  ·exact Zfx 0 (by decide)
  ·exact Zew (Zabb h)
 |card x=>
  obtain⟨h1,h2⟩:=Zc8 h;simp only[It.keys,mem_cons,not_mem_nil,or_false]at hk;rcases hk with rfl|rfl|rfl
  ·exact Zfx 1 (by decide)
  ·exact Zew (Zkg (Zqp h1))
  ·rw[Zrm];exact(Zl0 h2).1
 |ord x=>
  obtain⟨h1,h2⟩:=Zc8 h;simp only[It.keys,mem_cons,not_mem_nil,or_false]at hk;rcases hk with rfl|rfl|rfl
  ·exact Zfx 2 (by decide)
  ·exact Zew (Zkg (Zqp h1))
  ·rw[Zrm];exact(Zl0 h2).1
 |sym a b c d p q=>
  obtain⟨_,h2,h3,h4⟩:=h;simp only[It.keys,mem_cons,List.mem_append,mem_map,not_mem_nil,or_false]at hk;rcases hk with rfl|⟨s,hs,rfl⟩|rfl|rfl
  ·exact Zfx 3 (by decide)
  ·exact Zjf (xsm h2 s (by simp only[mem_cons,not_mem_nil,or_false];exact hs))
  ·rw[Zh9];exact(Zj0 h3.1 (by omega)).2
  ·rw[Zh9];exact(Zj0 h4.1 (by omega)).2
 |lst x=>
  replace h:Zes x=true:=h;unfold Zes at h;rw[Bool.and_eq_true]at h;simp only[It.keys,mem_cons,mem_map,not_mem_nil,or_false]at hk;rcases hk with rfl|rfl|⟨s,hs,rfl⟩
  ·exact Zfx 4 (by decide)
  ·exact Zew (wsm h.1 _ (List.mem_singleton.2 rfl))
  ·exact Zjf (xsm h.2 s (by simp only[mem_cons,not_mem_nil,or_false];exact hs))
 |uni x=>
  replace h:Zed x=true:=h;unfold Zed at h;rw[Bool.and_eq_true,Bool.and_eq_true]at h;simp only[It.keys,mem_cons,not_mem_nil,or_false]at hk;rcases hk with rfl|rfl|rfl|rfl
  ·exact Zfx 5 (by decide)
  ·exact Zew (wsm h.1 _ (List.mem_singleton.2 rfl))
  ·exact Zew (Zkg h.2.1)
  ·exact Zjf (xsm h.2.2 _ (List.mem_singleton.2 rfl))
 |dat x=>
  replace h:Zev x=true:=h;unfold Zev at h;rw[Bool.and_eq_true]at h;simp only[It.keys,mem_cons,not_mem_nil,or_false]at hk;rcases hk with rfl|rfl|rfl
  ·exact Zfx 6 (by decide)
  ·exact Zew (wsm h.1 _ (List.mem_singleton.2 rfl))
  ·exact Zjf (xsm h.2 _ (List.mem_singleton.2 rfl))
 |mon l=>
  simp only[It.keys,mem_cons,mem_map]at hk;rcases hk with rfl|⟨s,hs,rfl⟩
  ·exact Zfx 7 (by decide)
  ·exact Zjf (xsm h.2 s hs)
 |day l=>
  simp only[It.keys,mem_cons,mem_map]at hk;rcases hk with rfl|⟨s,hs,rfl⟩
  ·exact Zfx 8 (by decide)
  ·exact Zjf (xsm h.2 s hs)
theorem It.line {it:It} (h:it.val) {T:List UInt8} {ks:List Kk} (hT:Txt T ks):Txt (it.txt++T) (it.all++ks):=by
 obtain⟨s,q,e⟩:=Zqs it;have:=Txt.line (.inr rfl) (by rw[e];simp) (It.ok h) hT;unfold It.all;rw[append_assoc];exact this
theorem Ztt:∀ {l:List It},(∀it∈l,it.val)→∀ {T:List UInt8} {ks:List Kk},Txt T ks→Txt (l.flatMap It.txt++T) (Zfd l++ks)
 |[],_,_,_,hT=>hT
 |it::l,h,T,ks,hT=>by
  have:=It.line (h it mem_cons_self) (Ztt (fun x hx=>h x (mem_cons_of_mem _ hx)) hT);show Txt ((it.txt++l.flatMap It.txt)++T) ((it.all++Zfd l)++ks);rw[append_assoc,append_assoc];exact this
def Zi4 (tag par:ByteArray)(b:List UInt8):List UInt8:=Zfc++32::(tag.data.toList++((if par= .empty then []else 32::(Zf9++32::par.data.toList))++(32::123::10::(b++[125,10]))))
theorem Zadi {tag par:ByteArray} {l:List It} (h1:Zam tag.data.toList=true)(h2:par= .empty∨Zam par.data.toList=true)(h:∀it∈l,it.val) {T:List UInt8} {ks:List Kk} (hT:Txt T ks):
  Txt (Zi4 tag par (l.flatMap It.txt)++T) ((Pt.loc tag par l).keys++ks):=by
 have a1:Txt (125::10::T) (Zei::ks):=Txt.mark (by decide) (.cons (by decide)) (Txt.blank (by decide) hT);have a2:=Ztt h a1;have a3:Txt (32::123::10::(l.flatMap It.txt++125::10::T)) ((3,[123])::(Zfd l++Zei::ks)):=Txt.blank (by decide) (Txt.mark (by decide) (.cons (by decide)) (Txt.blank (by decide) a2));have a4:Txt ((if par= .empty then []else 32::(Zf9++32::par.data.toList))++(32::123::10::(l.flatMap It.txt++125::10::T))) ((if par= .empty then []else [(1,Zf9),wd par])++(3,[123])::(Zfd l++Zei::ks)):=by
  by_cases hp:par= .empty
  ·rw[if_pos hp,if_pos hp];exact a3
  ·rw[if_neg hp,if_neg hp];have hw:=h2.resolve_left hp;have b1:=Txt.tok (k:=wd par) (Zew hw) (.cons (by decide)) a3;have b2:=Txt.tok (k:=(1,Zf9)) (by rw[Zh9];decide+kernel) (.cons (by decide)) (Txt.blank (c:=32) (by decide) b1);have b3:=Txt.blank (c:=32) (by decide) b2;rw[Zeq]at b3;unfold wd at b3;rw[Zeq]at b3
   simpa [append_assoc,wd]using b3
 have nb:NB ((if par= .empty then []else 32::(Zf9++32::par.data.toList))++(32::123::10::(l.flatMap It.txt++125::10::T))):=by
  split
  ·exact .cons (by decide)
  ·exact .cons (by decide)
 have a5:=Txt.tok (k:=wd tag) (Zew h1) nb a4;have a6:=Txt.tok (k:=(1,Zfc)) (by rw[Zh9];decide+kernel) (.cons (by decide)) (Txt.blank (c:=32) (by decide) a5);rw[Zeq]at a6;unfold wd at a6;rw[Zeq]at a6;have e1:Zi4 tag par (l.flatMap It.txt)++T=Zfc++32::(tag.data.toList++((if par= .empty then []else 32::(Zf9++32::par.data.toList))++(32::123::10::(l.flatMap It.txt++125::10::T)))):=by
  unfold Zi4;simp only[append_assoc,cons_append,nil_append]
 have e2:(Pt.loc tag par l).keys++ks=(1,Zfc)::(1,tag.data.toList)::((if par= .empty then []else [(1,Zf9),(1,par.data.toList)])++(3,[123])::(Zfd l++Zei::ks)):=by
  show(1,Zfc)::(Zht tag par++(3,[123])::(Zfd l++[Zei]))++ks=_;unfold Zht wd;simp only[append_assoc,cons_append,nil_append]
 rw[e1,e2];exact a6
def Pt.txt:Pt→List UInt8
 | .loc tag par l=>Zi4 tag par (l.flatMap It.txt)
 | .al x=>alT x
 | .ne x=>neT x
def Pt.val:Pt→Prop
 | .loc tag par l=>(Zb6 [tag]=true∧(par= .empty∨Zb6 [par]=true))∧∀it∈l,it.val
 | .al x=>Zfy x=true
 | .ne x=>Zee x=true
theorem Pt.line {p:Pt} (h:p.val) {T:List UInt8} {ks:List Kk} (hT:Txt T ks):Txt (p.txt++T) (p.keys++ks):=by
 cases p with
 |loc tag par l=>
  obtain⟨⟨h1,h2⟩,h3⟩:=h;exact Zadi (wsm h1 _ (List.mem_singleton.2 rfl)) (h2.imp id fun h=>wsm h _ (List.mem_singleton.2 rfl)) h3 hT
 |al x=>
  replace h:Zb6 [x.fro,x.dst]=true:=h;have hk:∀k∈[((1:Int),Zo6),wd x.fro,wd x.dst],okK k=true:=by
   intro k hk;simp only[mem_cons,not_mem_nil,or_false]at hk;rcases hk with rfl|rfl|rfl
   ·rw[Zh9];decide+kernel
   ·exact Zew (wsm h _ (by simp))
   ·exact Zew (wsm h _ (by simp))
  have:=Txt.line (ind:=[]) (.inl rfl) (by simp) hk hT;have e:alT x=Zaw [] ([((1:Int),Zo6),wd x.fro,wd x.dst].map Zeo):=by
   unfold alT wd;simp only[map_cons,List.map_nil,Zeq];rfl
  show Txt (alT x++T) _;rw[e];exact this
 |ne x=>
  obtain⟨h1,h2,h3⟩:=Zhu h;have hk:∀k∈[((1:Int),Zrq),wd x.fro,wd x.dst,(1,Lib.itoa x.cost)],okK k=true:=by
   intro k hk;simp only[mem_cons,not_mem_nil,or_false]at hk;rcases hk with rfl|rfl|rfl|rfl
   ·rw[Zh9];decide+kernel
   ·exact Zew (wsm h1 _ (by simp))
   ·exact Zew (wsm h1 _ (by simp))
   ·rw[Zh9];exact(Zj0 h2 h3).2
  have:=Txt.line (ind:=[]) (.inl rfl) (by simp) hk hT;have e:neT x=Zaw [] ([((1:Int),Zrq),wd x.fro,wd x.dst,(1,Lib.itoa x.cost)].map Zeo):=by
   unfold neT wd;simp only[map_cons,List.map_nil,Zeq];rfl
  show Txt (neT x++T) _;rw[e];exact this
theorem Zty:∀ {l:List Pt},(∀p∈l,p.val)→Txt (l.flatMap Pt.txt) (Znn l)
 |[],_=>Txt.nil
 |p::_,h=>Pt.line (h p mem_cons_self) (Zty fun x hx=>h x (mem_cons_of_mem _ hx))
end Go.Proofs.YtmleeodfmmpdgaaGreatDoor
