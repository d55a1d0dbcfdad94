/- part -/
import Derived.Test.YtmleeodfmmpdgaaGreatDoorQ44
import Derived.Test.YtmleeodfmmpdgaaGreatDoorQ47
set_option maxRecDepth 20000
set_option maxHeartbeats 8000000
namespace Go.Proofs.YtmleeodfmmpdgaaGreatDoor
open Go.RowKit
attribute [local go_sem] Ext.cell Ext.frozen
attribute [local go_sem ↓] Go.wp_at_zero Go.wp_at_succ
open _root_.Nat (le_refl)
open _root_.Go.Proofs.Tryz
theorem Zh2 {w:World} {f:Nat→Value} {t:Tb} (h:TbC w f t):∃a0 k0 a1 k1 a2 k2,f 0= .slice a0 t.locs.length k0∧f 1= .slice a1 t.als.length k1∧f 2= .slice a2 t.near.length k2:=by
 obtain⟨a0,k0,h0⟩:=h.c0.shape;obtain⟨a1,k1,h1⟩:=h.c1.shape;obtain⟨a2,k2,h2⟩:=h.c2.shape;exact⟨a0,k0,a1,k1,a2,k2,h0,h1,h2⟩
theorem Zga {l:List ByteArray} {n:Nat} (h:Zbc l≤n)(hn:n≤40000):∀s∈l,s.size≤200000:=fun s hs=>by
 have h1:s.size+30≤Zbc l:=Zfq (fun s:ByteArray=>s.size+30) l s hs;omega
theorem Zajg {t:Tb} (h:FewT t)(hc:∀z∈t.locs,Zir z):SmT t:=by
 have hz:=h.size;unfold Zno at hz;refine⟨⟨by have:=h.locs;omega,fun y hy=>?_⟩,⟨by have:=h.als;omega,fun x hx=>?_⟩,⟨by have:=h.near;omega,fun x hx=>?_⟩⟩
 ·have h1:=Zfq Zg6 t.locs y hy;have ho:=h.ok y hy;have k:=ho.cnt;have Hc:Zg6 y≤40000:=by omega
  unfold Zg6 at Hc;have k1:=k.card;have k2:=k.ord;have k3:=k.lists;have k4:=k.units;have k5:=k.dates;have k6:=k.months;have k7:=k.days;refine⟨Zga (le_refl _) (by omega),⟨by omega,Zga (le_refl _) (by omega)⟩,⟨by omega,Zga (le_refl _) (by omega)⟩,⟨by omega,fun x hx=>?_⟩,⟨by omega,fun x hx=>?_⟩,⟨by omega,fun x hx=>?_⟩,⟨by omega,fun r hr=>⟨(hc y hy).1 r hr,ho.card r hr⟩⟩,⟨by omega,fun r hr=>⟨(hc y hy).2 r hr,ho.ord r hr⟩⟩⟩
  ·exact Zga (Zfq Zgp y.lists x hx) (by omega)
  ·exact Zga (Zfq Zgv y.units x hx) (by omega)
  ·exact Zga (Zfq Zhm y.dates x hx) (by omega)
 ·exact Zga (Zfq Zhl t.als x hx) (by omega)
 ·exact Zga (Zfq Zik t.near x hx) (by omega)
theorem Zud (x:Nat→Value)(t:Tb)(l:List UInt8)(w:World)(h:TbC w x t)(hc:∀z∈t.locs,Zir z)(hl:l.length≤140737488351232)(hM:MaxLen w)(hU:TabU w)(hT:TabTen w)(hD:TabDeB w):Calls prog 5 #[.agg #[x 0,x 1,x 2],.string (bs l)] w fun e w'=>e= .returned (.bool true)∧Below w.heap.size w w':=by
 have lY:=Hd (fun W (g:Below w.heap.size w W)=>Zuw W (hM.below g) (hU.below g));obtain⟨a0,k0,a1,k1,a2,k2,e0,e1,e2⟩:=Zh2 h;have Tp:Hid (∀W,Below w.heap.size w W→Calls prog 14 #[.agg #[.slice a0 t.locs.length k0,.slice a1 t.als.length k1,.slice a2 t.near.length k2]] W (FewP W t)):=fun W g=>by
  have:=Zaiv t (x 0) (x 1) (x 2) W (h.below g).c0 (h.below g).c1 (h.below g).c2
  rwa [e0,e1,e2]at this
 have Pe:Hid (∀W,SmT t→Below w.heap.size w W→Calls prog 15 #[.agg #[.slice a0 t.locs.length k0,.slice a1 t.als.length k1,.slice a2 t.near.length k2]] W fun e w'=>e= .returned (.tuple #[.string (bs (Zbv t).1),.int .i64 ((Zbv t).2:Nat)])∧Below W.heap.size W w'):=fun W hs g=>by
  have:=Zkb x t W (h.below g) hs (hU.below g) (hT.below g) (hD.below g)
  rwa [e0,e1,e2]at this
 have eK:Hid ((Zbv t).2=0→∀W,Below w.heap.size w W→Calls prog 11 #[.string (bs (Zbv t).1)] W (Zgl W (t,0,0))):=fun hp W g=>by
  obtain⟨_,h2,h3⟩:=Zu4 hp;have:=Zkt (Zbv t).1 h2 W (hM.below g) (hU.below g)
  rwa [h3]at this
 have Vs:Hid ((Zbv t).2=0→TbWf t):=fun hp=>Zt6 (Zu4 hp).1;have To:Hid (l.length≤4000→∀W,Below w.heap.size w W→Calls prog 11 #[.string (bs l)] W (Zgl W ((Zal l).1,(Zal l).2.1,(Zal l).2.2))):=fun hs W g=>Zkt l (by omega) W (hM.below g) (hU.below g);have F6:Hid (l.length≤4000→Zbv (Zal l).1=(Zck (Zal l).1,0)):=fun hs=>(Zqb hs).1;have Sa:Hid (l.length≤4000→∀W,Below w.heap.size w W→Calls prog 11 #[.string (bs (Zck (Zal l).1))] W (Zgl W ((Zal l).1,0,0))):=fun hs W g=>by
  obtain⟨_,h2,h3⟩:=Zqb hs;have:=Zkt (Zck (Zal l).1) h2 W (hM.below g) (hU.below g)
  rwa [h3]at this
 have Ef:Hid ((Zal l).2.2≠0→(Zal l).1=tb0):=Zxs;have dX:Hid (SmT (Zal l).1):=Zaci (Zm3 l);have Ip:Hid (TbWf (Zal l).1):=Zt6 (Zm3 l);have Qp:=Hd (fun g=>Zajg (t:=t) g hc);have HX:=Hd h;have HU:=Hd hU;have HT:=Hd hT;have HD:=Hd hD;have Fx0:=Hd e0;have Fx1:=Hd e1;have Fx2:=Hd e2;have Am:(bs l).size=l.length:=Za5 l;rw[e0,e1,e2];clear h hc hM hU hT hD e0 e1 e2;generalize (Zal l).2.2=ee at *;generalize (Zal l).2.1=ep at *;generalize (Zal l).1=A at *;generalize bs l=S at *
 go_enter func5,ntmps5
 go_upto_region 1 with(fail)
 have HB:Hid (Below w.heap.size w (w.alloc (.cells #[.slice a0 t.locs.length k0,.slice a1 t.als.length k1,.slice a2 t.near.length k2] 27))):=(Below.refl _ _).alloc (le_refl _) _;have BT:=Hd (Cel.new w [.slice a0 t.locs.length k0,.slice a1 t.als.length k1,.slice a2 t.near.length k2] 27);have DT:=Hd (HX.out.below HB.out);generalize w.alloc (.cells #[.slice a0 t.locs.length k0,.slice a1 t.als.length k1,.slice a2 t.near.length k2] 27)=w0 at *
 go_wp2_with fail
 refine(lY.out _ HB.out).mono ?_;rintro e w1 ⟨rfl,hb⟩;have Bu:=Hd (HB.out.trans (hb.mono HB.out.size));have BTn:=Hd (BT.out.below hb);clear BT;have BT:=BTn;clear BTn;have DTn:=Hd (DT.out.below hb);clear DT;have DT:=DTn;clear DTn;clear HB hb;have HB:=Bu;clear Bu;have q10:=BT.out.cell 0;have q11:=BT.out.cell 1;have q12:=BT.out.cell 2;have q1l:=BT.out.lt;simp only[Le0,Le1]at q10 q11 q12
 go_wp2_with fail
 refine(Tp.out _ HB.out).mono ?_;rintro e w2 ⟨qf,rfl,hb,hq⟩;have Bu:=Hd (HB.out.trans (hb.mono HB.out.size));clear q10 q11 q12 q1l;have BTn:=Hd (BT.out.below hb);clear BT;have BT:=BTn;clear BTn;have DTn:=Hd (DT.out.below hb);clear DT;have DT:=DTn;clear DTn;clear HB hb;have HB:=Bu;clear Bu;cases qf with
 |false=>
  go_wp2_with fail
  refine(lY.out _ HB.out).mono ?_;rintro e wz ⟨rfl,hb⟩;have Bu:=Hd (HB.out.trans (hb.mono HB.out.size));clear HB hb;have HB:=Bu;clear Bu
  go_wp2_with fail
  go_ret;exact⟨rfl,HB.out⟩
 |true=>
  have Nj:=Qp.out (hq rfl);have lZ:=Hd Nj;clear Nj hq Qp
  by_cases Ki:4000<l.length
  ·have d1:(4000:Int)<(S.size:Int):=by omega
   have d2:=decide_eq_true d1
   go_wp2_with fail
   refine(lY.out _ HB.out).mono ?_;rintro e wz ⟨rfl,hb⟩;have Bu:=Hd (HB.out.trans (hb.mono HB.out.size));clear HB hb;have HB:=Bu;clear Bu
   go_wp2_with fail
   go_ret;exact⟨rfl,HB.out⟩
  ·have d1: ¬(4000:Int)<(S.size:Int):=by omega
   have d2:=decide_eq_false d1;have Ot:l.length≤4000:=by omega
   replace To:=Hd (To.out Ot);replace F6:=Hd (F6.out Ot);replace Sa:=Hd (Sa.out Ot);have q10:=BT.out.cell 0;have q11:=BT.out.cell 1;have q12:=BT.out.cell 2;have q1l:=BT.out.lt;simp only[Le0,Le1]at q10 q11 q12
   go_wp2_with fail
   refine(Pe.out _ lZ.out HB.out).mono ?_;rintro e w3 ⟨rfl,hb⟩;have Bu:=Hd (HB.out.trans (hb.mono HB.out.size));clear q10 q11 q12 q1l;have BTn:=Hd (BT.out.below hb);clear BT;have BT:=BTn;clear BTn;have DTn:=Hd (DT.out.below hb);clear DT;have DT:=DTn;clear DTn;clear HB hb;have HB:=Bu;clear Bu;clear Pe;generalize Zbv t=pv at *;obtain⟨pl,pe⟩:=pv;dsimp only at eK Vs⊢
   by_cases hp:pe=0
   ·subst hp;replace eK:=Hd (eK.out rfl);replace Vs:=Hd (Vs.out rfl);have Cc:decide (((0:Nat):Int)=0)=true:=rfl
    go_wp2_with fail
    refine(eK.out _ HB.out).mono ?_;rintro e w4 ⟨b,rfl,Iv,hb⟩;have Bu:=Hd (HB.out.trans (hb.mono HB.out.size));have BTn:=Hd (BT.out.below hb);clear BT;have BT:=BTn;clear BTn;have DTn:=Hd (DT.out.below hb);clear DT;have DT:=DTn;clear DTn;clear HB hb;have HB:=Bu;clear Bu;have DK:=Hd (Iv.sub (Zgw _ _ _));obtain⟨r0,s0,r1,s1,r2,s2,Fp,Aw,Ag⟩:=Zh2 DK.out;clear Iv;rw[Fp,Aw,Ag];have Fb0:=Hd Fp;have Fb1:=Hd Aw;have Fb2:=Hd Ag;clear Fp Aw Ag
    go_upto_region 6 with(fail)
    have Bu:=Hd (HB.out.alloc HB.out.size (.cells #[.slice r0 t.locs.length s0,.slice r1 t.als.length s1,.slice r2 t.near.length s2] 27));have BK:=Hd (Cel.new w4 [.slice r0 t.locs.length s0,.slice r1 t.als.length s1,.slice r2 t.near.length s2] 27);have BTn:=Hd (BT.out.below (Bel.alloc (Bel.refl w4) (.cells #[.slice r0 t.locs.length s0,.slice r1 t.als.length s1,.slice r2 t.near.length s2] 27)));clear BT;have BT:=BTn;clear BTn;have DTn:=Hd (DT.out.below (Bel.alloc (Bel.refl w4) (.cells #[.slice r0 t.locs.length s0,.slice r1 t.als.length s1,.slice r2 t.near.length s2] 27)));clear DT;have DT:=DTn;clear DTn;have DKn:=Hd (DK.out.below (Bel.alloc (Bel.refl w4) (.cells #[.slice r0 t.locs.length s0,.slice r1 t.als.length s1,.slice r2 t.near.length s2] 27)));clear DK;have DK:=DKn;clear DKn;clear HB;have HB:=Bu;clear Bu;obtain⟨BKb,vE⟩:∃B,w4.heap.size=B:=⟨_,rfl⟩;rw[vE]at BK;generalize w4.alloc (.cells #[.slice r0 t.locs.length s0,.slice r1 t.als.length s1,.slice r2 t.near.length s2] 27)=w4a at *;have q10:=BT.out.cell 0;have q11:=BT.out.cell 1;have q12:=BT.out.cell 2;have q1l:=BT.out.lt;simp only[Le0,Le1]at q10 q11 q12;have q20:=BK.out.cell 0;have q21:=BK.out.cell 1;have q22:=BK.out.cell 2;have q2l:=BK.out.lt;simp only[Le0,Le1]at q20 q21 q22;have D5:Hid (Calls prog 13 #[.agg #[.slice r0 t.locs.length s0,.slice r1 t.als.length s1,.slice r2 t.near.length s2],.agg #[.slice a0 t.locs.length k0,.slice a1 t.als.length k1,.slice a2 t.near.length k2]] w4a fun e w'=>e= .returned (.bool (eqB t t))∧Below w4a.heap.size w4a w'):=by
     have g:=Zfr t t b x w4a DK.out DT.out Vs.out Vs.out;rw[Fb0.out,Fb1.out,Fb2.out,Fx0.out,Fx1.out,Fx2.out]at g;exact g
    rw[Hid,Zca rfl]at D5;replace D5:=Hd D5
    go_wp2_with fail
    refine(D5.out).mono ?_;rintro e w5 ⟨rfl,hb⟩;have Bu:=Hd (HB.out.trans (hb.mono HB.out.size));clear q10 q11 q12 q1l q20 q21 q22 q2l;have BTn:=Hd (BT.out.below hb);clear BT;have BT:=BTn;clear BTn;have DTn:=Hd (DT.out.below hb);clear DT;have DT:=DTn;clear DTn;clear HB hb D5 BK DK;have HB:=Bu;clear Bu
    go_wp2_with fail
    refine(To.out _ HB.out).mono ?_;rintro e wp ⟨f,rfl,Iv,hb⟩;have Bu:=Hd (HB.out.trans (hb.mono HB.out.size));have BTn:=Hd (BT.out.below hb);clear BT;have BT:=BTn;clear BTn;have DTn:=Hd (DT.out.below hb);clear DT;have DT:=DTn;clear DTn;clear HB hb;have HB:=Bu;clear Bu;have DA:=Hd (Iv.sub (Zgw _ _ _));obtain⟨p0,c0,p1,c1,p2,c2,Ej,Gb,Fw⟩:=Zh2 DA.out;clear Iv;rw[Ej,Gb,Fw];have Ff0:=Hd Ej;have Ff1:=Hd Gb;have Ff2:=Hd Fw;clear Ej Gb Fw
    go_upto_region 9 with(fail)
    have Bu:=Hd (HB.out.alloc HB.out.size (.cells #[.slice p0 A.locs.length c0,.slice p1 A.als.length c1,.slice p2 A.near.length c2] 27));have BA:=Hd (Cel.new wp [.slice p0 A.locs.length c0,.slice p1 A.als.length c1,.slice p2 A.near.length c2] 27);have BTn:=Hd (BT.out.below (Bel.alloc (Bel.refl wp) (.cells #[.slice p0 A.locs.length c0,.slice p1 A.als.length c1,.slice p2 A.near.length c2] 27)));clear BT;have BT:=BTn;clear BTn;have DTn:=Hd (DT.out.below (Bel.alloc (Bel.refl wp) (.cells #[.slice p0 A.locs.length c0,.slice p1 A.als.length c1,.slice p2 A.near.length c2] 27)));clear DT;have DT:=DTn;clear DTn;have DAn:=Hd (DA.out.below (Bel.alloc (Bel.refl wp) (.cells #[.slice p0 A.locs.length c0,.slice p1 A.als.length c1,.slice p2 A.near.length c2] 27)));clear DA;have DA:=DAn;clear DAn;clear HB;have HB:=Bu;clear Bu;obtain⟨BAb,mC⟩:∃B,wp.heap.size=B:=⟨_,rfl⟩;rw[mC]at BA;generalize wp.alloc (.cells #[.slice p0 A.locs.length c0,.slice p1 A.als.length c1,.slice p2 A.near.length c2] 27)=wpa at *;have q20:=BA.out.cell 0;have q21:=BA.out.cell 1;have q22:=BA.out.cell 2;have q2l:=BA.out.lt;simp only[Le0,Le1]at q20 q21 q22
    by_cases he:ee=0
    ·have d_he:=decide_eq_true he;have If:Hid (Calls prog 15 #[.agg #[.slice p0 A.locs.length c0,.slice p1 A.als.length c1,.slice p2 A.near.length c2]] wpa fun e w'=>e= .returned (.tuple #[.string (bs (Zbv A).1),.int .i64 ((Zbv A).2:Nat)])∧Below wpa.heap.size wpa w'):=by
      have g:=Zkb f A wpa DA.out dX.out (HU.out.below HB.out) (HT.out.below HB.out) (HD.out.below HB.out);rw[Ff0.out,Ff1.out,Ff2.out]at g;exact g
     rw[Hid,F6.out]at If;replace If:=Hd If
     go_wp2_with fail
     refine(If.out).mono ?_;rintro e wq ⟨rfl,hb⟩;have Bu:=Hd (HB.out.trans (hb.mono HB.out.size));have BAn:=Hd (BA.out.below hb);clear BA;have BA:=BAn;clear BAn;have DAn:=Hd (DA.out.below hb);clear DA;have DA:=DAn;clear DAn;clear HB hb;have HB:=Bu;clear Bu;clear q20 q21 q22 q2l
     go_wp2_with fail
     refine(Sa.out _ HB.out).mono ?_;rintro e wr ⟨g,rfl,Iv,hb⟩;have Bu:=Hd (HB.out.trans (hb.mono HB.out.size));have BAn:=Hd (BA.out.below hb);clear BA;have BA:=BAn;clear BAn;have DAn:=Hd (DA.out.below hb);clear DA;have DA:=DAn;clear DAn;clear HB hb;have HB:=Bu;clear Bu;have DB:=Hd (Iv.sub (Zgw _ _ _));obtain⟨q0,d0,q1,d1,q2,d2,Q0,Fs,Q1⟩:=Zh2 DB.out;clear Iv;rw[Q0,Fs,Q1];have Fg0:=Hd Q0;have Fg1:=Hd Fs;have Fg2:=Hd Q1;clear Q0 Fs Q1
     go_upto_region 13 with(fail)
     have Bu:=Hd (HB.out.alloc HB.out.size (.cells #[.slice q0 A.locs.length d0,.slice q1 A.als.length d1,.slice q2 A.near.length d2] 27));have BB:=Hd (Cel.new wr [.slice q0 A.locs.length d0,.slice q1 A.als.length d1,.slice q2 A.near.length d2] 27);have BAn:=Hd (BA.out.below (Bel.alloc (Bel.refl wr) (.cells #[.slice q0 A.locs.length d0,.slice q1 A.als.length d1,.slice q2 A.near.length d2] 27)));clear BA;have BA:=BAn;clear BAn;have DAn:=Hd (DA.out.below (Bel.alloc (Bel.refl wr) (.cells #[.slice q0 A.locs.length d0,.slice q1 A.als.length d1,.slice q2 A.near.length d2] 27)));clear DA;have DA:=DAn;clear DAn;have DBn:=Hd (DB.out.below (Bel.alloc (Bel.refl wr) (.cells #[.slice q0 A.locs.length d0,.slice q1 A.als.length d1,.slice q2 A.near.length d2] 27)));clear DB;have DB:=DBn;clear DBn;clear HB;have HB:=Bu;clear Bu;obtain⟨BBb,Ra⟩:∃B,wr.heap.size=B:=⟨_,rfl⟩;rw[Ra]at BB;generalize wr.alloc (.cells #[.slice q0 A.locs.length d0,.slice q1 A.als.length d1,.slice q2 A.near.length d2] 27)=wra at *;have q20:=BA.out.cell 0;have q21:=BA.out.cell 1;have q22:=BA.out.cell 2;have q2l:=BA.out.lt;simp only[Le0,Le1]at q20 q21 q22;have q30:=BB.out.cell 0;have q31:=BB.out.cell 1;have q32:=BB.out.cell 2;have q3l:=BB.out.lt;simp only[Le0,Le1]at q30 q31 q32;have D5:Hid (Calls prog 13 #[.agg #[.slice p0 A.locs.length c0,.slice p1 A.als.length c1,.slice p2 A.near.length c2],.agg #[.slice q0 A.locs.length d0,.slice q1 A.als.length d1,.slice q2 A.near.length d2]] wra fun e w'=>e= .returned (.bool (eqB A A))∧Below wra.heap.size wra w'):=by
      have g:=Zfr A A f g wra DA.out DB.out Ip.out Ip.out;rw[Ff0.out,Ff1.out,Ff2.out,Fg0.out,Fg1.out,Fg2.out]at g;exact g
     rw[Hid,Zca rfl]at D5;replace D5:=Hd D5
     go_wp2_with fail
     refine(D5.out).mono ?_;rintro e ws ⟨rfl,hb⟩;have Bu:=Hd (HB.out.trans (hb.mono HB.out.size));clear HB hb;have HB:=Bu;clear Bu
     go_wp2_with fail
     go_ret;exact⟨rfl,HB.out⟩
    ·have d_he:=decide_eq_false he;obtain rfl:=Ef.out he;have D5:Hid (Calls prog 13 #[.agg #[.slice p0 tb0.locs.length c0,.slice p1 tb0.als.length c1,.slice p2 tb0.near.length c2],.agg #[.slice none 0 0,.slice none 0 0,.slice none 0 0]] wpa fun e w'=>e= .returned (.bool (eqB tb0 tb0))∧Below wpa.heap.size wpa w'):=by
      have g:=Zfr tb0 tb0 f (fun _=> .slice none 0 0) wpa DA.out ⟨RowsOf.nil _ _ _,RowsOf.nil _ _ _,RowsOf.nil _ _ _⟩ Zoe Zoe;rw[Ff0.out,Ff1.out,Ff2.out]at g;exact g
     rw[Hid,Zca rfl]at D5;replace D5:=Hd D5
     go_wp2_with fail
     refine(D5.out).mono ?_;rintro e wq ⟨rfl,hb⟩;have Bu:=Hd (HB.out.trans (hb.mono HB.out.size));clear HB hb;have HB:=Bu;clear Bu
     go_wp2_with fail
     go_ret;exact⟨rfl,HB.out⟩
   ·have Cc: ¬((pe:Nat):Int)=0:=by omega
    have Ba:=decide_eq_false Cc
    go_wp2_with fail
    refine(To.out _ HB.out).mono ?_;rintro e wp ⟨f,rfl,Iv,hb⟩;have Bu:=Hd (HB.out.trans (hb.mono HB.out.size));have BTn:=Hd (BT.out.below hb);clear BT;have BT:=BTn;clear BTn;have DTn:=Hd (DT.out.below hb);clear DT;have DT:=DTn;clear DTn;clear HB hb;have HB:=Bu;clear Bu;have DA:=Hd (Iv.sub (Zgw _ _ _));obtain⟨p0,c0,p1,c1,p2,c2,Ej,Gb,Fw⟩:=Zh2 DA.out;clear Iv;rw[Ej,Gb,Fw];have Ff0:=Hd Ej;have Ff1:=Hd Gb;have Ff2:=Hd Fw;clear Ej Gb Fw
    go_upto_region 9 with(fail)
    have Bu:=Hd (HB.out.alloc HB.out.size (.cells #[.slice p0 A.locs.length c0,.slice p1 A.als.length c1,.slice p2 A.near.length c2] 27));have BA:=Hd (Cel.new wp [.slice p0 A.locs.length c0,.slice p1 A.als.length c1,.slice p2 A.near.length c2] 27);have BTn:=Hd (BT.out.below (Bel.alloc (Bel.refl wp) (.cells #[.slice p0 A.locs.length c0,.slice p1 A.als.length c1,.slice p2 A.near.length c2] 27)));clear BT;have BT:=BTn;clear BTn;have DTn:=Hd (DT.out.below (Bel.alloc (Bel.refl wp) (.cells #[.slice p0 A.locs.length c0,.slice p1 A.als.length c1,.slice p2 A.near.length c2] 27)));clear DT;have DT:=DTn;clear DTn;have DAn:=Hd (DA.out.below (Bel.alloc (Bel.refl wp) (.cells #[.slice p0 A.locs.length c0,.slice p1 A.als.length c1,.slice p2 A.near.length c2] 27)));clear DA;have DA:=DAn;clear DAn;clear HB;have HB:=Bu;clear Bu;obtain⟨BAb,mC⟩:∃B,wp.heap.size=B:=⟨_,rfl⟩;rw[mC]at BA;generalize wp.alloc (.cells #[.slice p0 A.locs.length c0,.slice p1 A.als.length c1,.slice p2 A.near.length c2] 27)=wpa at *;have q20:=BA.out.cell 0;have q21:=BA.out.cell 1;have q22:=BA.out.cell 2;have q2l:=BA.out.lt;simp only[Le0,Le1]at q20 q21 q22
    by_cases he:ee=0
    ·have d_he:=decide_eq_true he;have If:Hid (Calls prog 15 #[.agg #[.slice p0 A.locs.length c0,.slice p1 A.als.length c1,.slice p2 A.near.length c2]] wpa fun e w'=>e= .returned (.tuple #[.string (bs (Zbv A).1),.int .i64 ((Zbv A).2:Nat)])∧Below wpa.heap.size wpa w'):=by
      have g:=Zkb f A wpa DA.out dX.out (HU.out.below HB.out) (HT.out.below HB.out) (HD.out.below HB.out);rw[Ff0.out,Ff1.out,Ff2.out]at g;exact g
     rw[Hid,F6.out]at If;replace If:=Hd If
     go_wp2_with fail
     refine(If.out).mono ?_;rintro e wq ⟨rfl,hb⟩;have Bu:=Hd (HB.out.trans (hb.mono HB.out.size));have BAn:=Hd (BA.out.below hb);clear BA;have BA:=BAn;clear BAn;have DAn:=Hd (DA.out.below hb);clear DA;have DA:=DAn;clear DAn;clear HB hb;have HB:=Bu;clear Bu;clear q20 q21 q22 q2l
     go_wp2_with fail
     refine(Sa.out _ HB.out).mono ?_;rintro e wr ⟨g,rfl,Iv,hb⟩;have Bu:=Hd (HB.out.trans (hb.mono HB.out.size));have BAn:=Hd (BA.out.below hb);clear BA;have BA:=BAn;clear BAn;have DAn:=Hd (DA.out.below hb);clear DA;have DA:=DAn;clear DAn;clear HB hb;have HB:=Bu;clear Bu;have DB:=Hd (Iv.sub (Zgw _ _ _));obtain⟨q0,d0,q1,d1,q2,d2,Q0,Fs,Q1⟩:=Zh2 DB.out;clear Iv;rw[Q0,Fs,Q1];have Fg0:=Hd Q0;have Fg1:=Hd Fs;have Fg2:=Hd Q1;clear Q0 Fs Q1
     go_upto_region 13 with(fail)
     have Bu:=Hd (HB.out.alloc HB.out.size (.cells #[.slice q0 A.locs.length d0,.slice q1 A.als.length d1,.slice q2 A.near.length d2] 27));have BB:=Hd (Cel.new wr [.slice q0 A.locs.length d0,.slice q1 A.als.length d1,.slice q2 A.near.length d2] 27);have BAn:=Hd (BA.out.below (Bel.alloc (Bel.refl wr) (.cells #[.slice q0 A.locs.length d0,.slice q1 A.als.length d1,.slice q2 A.near.length d2] 27)));clear BA;have BA:=BAn;clear BAn;have DAn:=Hd (DA.out.below (Bel.alloc (Bel.refl wr) (.cells #[.slice q0 A.locs.length d0,.slice q1 A.als.length d1,.slice q2 A.near.length d2] 27)));clear DA;have DA:=DAn;clear DAn;have DBn:=Hd (DB.out.below (Bel.alloc (Bel.refl wr) (.cells #[.slice q0 A.locs.length d0,.slice q1 A.als.length d1,.slice q2 A.near.length d2] 27)));clear DB;have DB:=DBn;clear DBn;clear HB;have HB:=Bu;clear Bu;obtain⟨BBb,Ra⟩:∃B,wr.heap.size=B:=⟨_,rfl⟩;rw[Ra]at BB;generalize wr.alloc (.cells #[.slice q0 A.locs.length d0,.slice q1 A.als.length d1,.slice q2 A.near.length d2] 27)=wra at *;have q20:=BA.out.cell 0;have q21:=BA.out.cell 1;have q22:=BA.out.cell 2;have q2l:=BA.out.lt;simp only[Le0,Le1]at q20 q21 q22;have q30:=BB.out.cell 0;have q31:=BB.out.cell 1;have q32:=BB.out.cell 2;have q3l:=BB.out.lt;simp only[Le0,Le1]at q30 q31 q32;have D5:Hid (Calls prog 13 #[.agg #[.slice p0 A.locs.length c0,.slice p1 A.als.length c1,.slice p2 A.near.length c2],.agg #[.slice q0 A.locs.length d0,.slice q1 A.als.length d1,.slice q2 A.near.length d2]] wra fun e w'=>e= .returned (.bool (eqB A A))∧Below wra.heap.size wra w'):=by
      have g:=Zfr A A f g wra DA.out DB.out Ip.out Ip.out;rw[Ff0.out,Ff1.out,Ff2.out,Fg0.out,Fg1.out,Fg2.out]at g;exact g
     rw[Hid,Zca rfl]at D5;replace D5:=Hd D5
     go_wp2_with fail
     refine(D5.out).mono ?_;rintro e ws ⟨rfl,hb⟩;have Bu:=Hd (HB.out.trans (hb.mono HB.out.size));clear HB hb;have HB:=Bu;clear Bu
     go_wp2_with fail
     go_ret;exact⟨rfl,HB.out⟩
    ·have d_he:=decide_eq_false he;obtain rfl:=Ef.out he;have D5:Hid (Calls prog 13 #[.agg #[.slice p0 tb0.locs.length c0,.slice p1 tb0.als.length c1,.slice p2 tb0.near.length c2],.agg #[.slice none 0 0,.slice none 0 0,.slice none 0 0]] wpa fun e w'=>e= .returned (.bool (eqB tb0 tb0))∧Below wpa.heap.size wpa w'):=by
      have g:=Zfr tb0 tb0 f (fun _=> .slice none 0 0) wpa DA.out ⟨RowsOf.nil _ _ _,RowsOf.nil _ _ _,RowsOf.nil _ _ _⟩ Zoe Zoe;rw[Ff0.out,Ff1.out,Ff2.out]at g;exact g
     rw[Hid,Zca rfl]at D5;replace D5:=Hd D5
     go_wp2_with fail
     refine(D5.out).mono ?_;rintro e wq ⟨rfl,hb⟩;have Bu:=Hd (HB.out.trans (hb.mono HB.out.size));clear HB hb;have HB:=Bu;clear Bu
     go_wp2_with fail
     go_ret;exact⟨rfl,HB.out⟩
theorem Zr6 (x:Nat→Value)(t:Tb)(s:ByteArray)(w:World)(h:TbC w x t)(hc:∀z∈t.locs,Zir z)(hs:s.size≤140737488351232)(hM:MaxLen w)(hU:TabU w)(hT:TabTen w)(hD:TabDeB w):Calls prog 5 #[.agg #[x 0,x 1,x 2],.string s] w fun e w'=>e= .returned (.bool true)∧Below w.heap.size w w':=
 Zud x t s.data.toList w h hc (by rw[Zbm];exact hs) hM hU hT hD
end Go.Proofs.YtmleeodfmmpdgaaGreatDoor
