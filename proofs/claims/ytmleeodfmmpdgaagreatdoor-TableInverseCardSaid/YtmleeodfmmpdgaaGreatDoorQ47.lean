/- Walks: whether a table is small. -/
import Derived.Test.YtmleeodfmmpdgaaGreatDoorQ45
import Derived.Test.YtmleeodfmmpdgaaGreatDoorQ41
import Derived.Test.YtmleeodfmmpdgaaGreatDoorQ46
set_option maxRecDepth 100000
set_option maxHeartbeats 16000000
namespace Go.Proofs.YtmleeodfmmpdgaaGreatDoor
open Go.RowKit
attribute [local go_sem] Ext.cell Ext.frozen
attribute [local go_sem ↓] Go.wp_at_zero Go.wp_at_succ
open _root_.Nat (le_refl zero_add)
open _root_.Go.Proofs.Tryz
structure OkL (y:Lc):Prop where
 cnt:CntL y
 card:∀r∈y.card,r.2.length≤30
 ord:∀r∈y.ord,r.2.length≤30
theorem Zajr {y:Lc} (h:CntL y)(hq:∀j,j<(y.card++y.ord).length→((y.card++y.ord).getD j (.empty,[])).2.length≤30):OkL y:=by
 have key:∀r∈y.card++y.ord,r.2.length≤30:=fun r hr=>by
  obtain⟨j,hj,rfl⟩:=List.getElem_of_mem hr;have:=hq j hj
  rwa [List.getD_eq_getElem?_getD,List.getElem?_eq_getElem hj]at this
 exact⟨h,fun r hr=>key r (List.mem_append_left _ hr),fun r hr=>key r (List.mem_append_right _ hr)⟩
structure FewT (t:Tb):Prop where
 locs:t.locs.length≤62
 als:t.als.length≤205
 near:t.near.length≤205
 ok:∀y∈t.locs,OkL y
 size:Zno t≤40000
def FewP (w:World)(t:Tb)(e:Ending)(w':World):Prop:=∃q:Bool,e= .returned (.bool q)∧Below w.heap.size w w'∧(q=true→FewT t)
theorem FewP.mk {w w':World} {t:Tb} {e:Ending} (q:Bool)(h1:e= .returned (.bool q))(h2:Below w.heap.size w w')(h3:q=true→FewT t):FewP w t e w':=⟨q,h1,h2,h3⟩
theorem Zwz (f3 f4:Nat→Nat→Value)(n3 n4 q:Nat)(hq:q<n3+n4):(Zbr f3 n3++Zbr f4 n4)[q *2]? =some (if q<n3 then f3 q 0 else f4 (q - n3) 0)∧
  (Zbr f3 n3++Zbr f4 n4)[q *2+1]? =some (if q<n3 then f3 q 1 else f4 (q - n3) 1):=by
 have h3:=Zfn f3 n3
 by_cases h:q<n3
 ·obtain⟨e0,e1⟩:=Zh7 f3 n3 q h;rw[List.getElem?_append_left (by omega),List.getElem?_append_left (by omega),if_pos h,if_pos h];exact⟨e0,e1⟩
 ·obtain⟨e0,e1⟩:=Zh7 f4 n4 (q - n3) (by omega);rw[List.getElem?_append_right (by omega),List.getElem?_append_right (by omega),h3,if_neg h,if_neg h,show q *2 - n3 *2=(q - n3)*2 by omega,show q *2+1 - n3 *2=(q - n3)*2+1 by omega];exact⟨e0,e1⟩
def JJ (A0:Act)(T:List (Nat×Nat×Value))(w0:World)(n3 n4 k:Nat)(xs ys:List Value)(r0 r1:Value)(L:Array Bool)(a:Act)(w:World):Prop:=
 (L.getD 11 false=true→(∀j,j<11→L.getD j false=true)∧Fr A0 a dsR∧Below w0.heap.size w0 w∧∃B,a.tmps.getD 6 undef= .pointer (some ⟨B,0,none⟩)∧w0.heap.size≤B∧w.cell? ⟨B,0,none⟩=some r0∧w.cell? ⟨B,1,none⟩=some r1)∧
 (L.getD 11 false=false→JR A0 T w0 n3 n4 k xs ys r0 r1 L a w)
section
variable {A0 : Act} {T : List (Nat × Nat × Value)} {w0 : World} {n3 n4 k : Nat} {xs ys : List Value} {r0 r1 : Value} {L : Array Bool} {a : Act} {w : World}
theorem Zjk (L:Array Bool)(i:Nat)(hi:i<L.size):L.getD i true=L.getD i false:=by simp[Array.getD,hi]
theorem JJ.lt (h:JJ A0 T w0 n3 n4 k xs ys r0 r1 L a w)(hL:L.size=12) {i:Nat} (hi:i<11)(h1:L.getD i true=false):L.getD 11 false=false:=by
 cases h2:L.getD 11 false with
 |false=>rfl
 |true=>
  have:=(h.1 h2).1 i hi;rw[Zjk L i (by omega),this]at h1;cases h1
theorem JJ.of {i:Nat} (hi:i≠11)(C9:L.getD 11 false=false) {a':Act} {w':World} (h:JR A0 T w0 n3 n4 k xs ys r0 r1 (L.setIfInBounds i true) a' w'):JJ A0 T w0 n3 n4 k xs ys r0 r1 (L.setIfInBounds i true) a' w':=
 ⟨fun e=>(by rw[Za0 hi,C9]at e;cases e),fun _=>h⟩
theorem Zaei (n i:Nat):(Array.replicate n false).getD i false=false:=by
 simp only[Array.getD];split <;> simp
theorem JJ.start (A0:Act)(w0:World):JJ A0 T w0 n3 n4 k xs ys r0 r1 (Array.replicate 12 false) A0 w0.drew:=by
 have g:∀i,(Array.replicate 12 false).getD i false=false:=Zaei 12;refine⟨fun e=>(by rw[g]at e;cases e),fun _=>⟨⟨rfl,rfl,fun _ _=>rfl⟩,fun x _ e=>(by rw[g]at e;cases e),(Below.refl _ _).drew,?_,?_,?_,?_,?_,?_,?_,?_,?_⟩⟩
 all_goals first|(intro e;rw[g]at e;cases e;done)|(intro j d _ e;rw[g]at e;cases e)
theorem Zajb (ev:Operand→Value)(o:Oper)(ho:o.op= .buildSlice 38 0 #[])(w:World):(execOp ev o).run prog w= .ok (.value (.slice (some ⟨w.heap.size,0,none⟩) 0 0)) (w.alloc (.cells #[] 51)):=by
 unfold execOp;simp[ho,go_sem]
theorem Zakl {ad:Option Addr} {n c q:Nat} {xs:List Value} {base:Nat} (Ab:w.ownsRow base 51 2 (.slice ad n c) n xs)(hq:q<n)(h0:xs[q *2]? =some r0)(h1:xs[q *2+1]? =some r1):
  ∃g,base≤g∧(∀W,(Instr.indexAt 38 (.slice ad n c) (.int .i64 (q:Int))).run prog W= .ok (.pointer (some ⟨g,q *2,none⟩)) W)∧w.cell? ⟨g,q *2,none⟩=some r0∧w.cell? ⟨g,q *2+1,none⟩=some r1:=by
 obtain⟨hl,⟨e1,e2⟩|⟨g,cap,cur,e1,e2,e3,e4,e5,e6,e7⟩⟩:=Ab
 ·omega
 ·injection e1 with i1 i2 i3;subst i1;have hc:∀j,j<n *2→w.cell? ⟨g,j,none⟩=xs[j]? :=fun j hj=>by
   have uU:j<cur.size:=by omega
   rw[←e7,List.getElem?_take,if_pos hj];simp[World.cell?,e3,uU]
  have hr:Rw w (some ⟨g,0,none⟩) n 2 (fun i j=>xs.getD (i *2+j) undef) g 0:=⟨by unfold maxLen at e5;omega,fun _=>rfl,fun i j hi hj=>by
   rw[zero_add,hc _ (by omega)];simp[List.getD,List.getElem?_eq_getElem (show i *2+j<xs.length by omega)]⟩
  refine⟨g,e2,fun W=>?_,by rw[hc _ (by omega)];exact h0,by rw[hc _ (by omega)];exact h1⟩;have:=hr.ix 38 51 underlying38 Zyo (by omega) hq c W
  rwa [zero_add]at this
end
theorem Zaiv (t:Tb)(v0 v1 v2:Value)(w:World)(h0:RowsOf 16 LcC w v0 t.locs)(h1:RowsOf 2 AlC w v1 t.als)(h2:RowsOf 3 NeC w v2 t.near):Calls prog 14 #[.agg #[v0,v1,v2]] w (FewP w t):=by
 have pM:=Hd h0;have eJ:=Hd h1;have Ew:=Hd h2;obtain⟨ad,c,f,b,off,rfl,hr,_,_,_,bU⟩:=h0.opn;obtain⟨ad1,c1,g1,b1,off1,rfl,Cp,_,_,_,_⟩:=h1.opn;obtain⟨ad2,c2,f2,b2,off2,rfl,Eo,_,_,_,_⟩:=h2.opn;have Df:=hr.max;have pF:=Cp.max;have Tj:=Eo.max;have iM:=Hd bU;obtain⟨n,hn⟩:∃n,t.locs.length=n:=⟨_,rfl⟩;obtain⟨n1,J6⟩:∃n,t.als.length=n:=⟨_,rfl⟩;obtain⟨n2,Ko⟩:∃n,t.near.length=n:=⟨_,rfl⟩;have E7:=Hd hn;have Ec:=Hd J6;have Hm:=Hd Ko;rw[hn]at hr Df pM⊢;rw[J6]at pF eJ⊢;rw[Ko]at Tj Ew⊢;have HR:=Hd hr;have Dm:n≠0→b<w.heap.size:=fun h=>hr.block h (by omega);have kC:=Hd Zyf;clear hr Cp Eo bU h0 h1 h2 hn J6 Ko
 go_enter func14,ntmps14
 go_wp2_with fail
 refine Zcw ?_;intro W hW;have uL:W.heap.size=w.heap.size+1:=by rw[hW];simp
 have L6:Hid (Below w.heap.size w W):=by rw[hW];exact(Below.refl _ _).alloc (le_refl _) _
 have t0:W.cell? ⟨w.heap.size,0,none⟩=some (.slice ad n c):=by rw[hW];simp[go_sem]
 have t1:W.cell? ⟨w.heap.size,1,none⟩=some (.slice ad1 n1 c1):=by rw[hW];simp[go_sem]
 have t2:W.cell? ⟨w.heap.size,2,none⟩=some (.slice ad2 n2 c2):=by rw[hW];simp[go_sem]
 have T0:=Hd t0;have T1:=Hd t1;have T2:=Hd t2;clear t0 t1 t2 hW
 go_loopw [3] (fun v wr=>∃k:Nat,v= .int .i64 (k:Int)∧k≤n∧(∀y∈t.locs.take k,OkL y)∧Below W.heap.size W wr) (fun v _=>n -(intOf v).toNat)
 case atStart=>exact⟨0,rfl,Nat.zero_le _,fun y hy=>(by cases hy),Below.refl _ _⟩
 case round=>
  obtain⟨wo,rfl⟩:∃wo:World,wo=wr:=⟨_,rfl⟩;obtain⟨k,rfl,Co,B6,Ak⟩:=hrel;have C6:=Hd B6;have Ac:=Hd Ak;have Bl:=Ak.size;clear Ak B6;have l0:wo.cell? ⟨w.heap.size,0,none⟩=some (.slice ad n c):=(Ac.out.cell (p:=⟨w.heap.size,0,none⟩) (by show w.heap.size<_;omega)).trans T0.out
  by_cases Aa:k<n
  ·as_aux_lemma=>
    have Ok:=Hd (L6.out.trans (Ac.out.mono (by omega)));have D7:=Hd (HR.out.below Ok.out);have Ci:=fun W=>D7.out.ix 23 46 underlying23 cLc (by omega) Aa c W;have Ii:b<wo.heap.size:=by have:=Dm (by omega);omega
    have Gr:k<t.locs.length:=by rw[E7.out];exact Aa
    have hl:=(iM.out k Gr).below Ok.out;have uV:Hid (OkL t.locs[k]→∀y∈t.locs.take (k+1),OkL y):=fun h y hy=>by
     rw[List.take_add_one,List.getElem?_eq_getElem Gr,Option.toList_some,List.mem_append,List.mem_singleton]at hy;rcases hy with hy|rfl
     ·exact C6.out y hy
     ·exact h
    generalize t.locs[k]=y at *;have e0:=hl.c0.1;have e1:=hl.c1.1;have e2:=hl.c2.1;have e5:=hl.c5.1;have e6:=hl.c6.1;have e7:=hl.c7.1;have e8:=hl.c8.1;have e9:=hl.c9.1;have e10:=hl.c10.1;obtain⟨a3,c3,f3,b3,o3,e3,r3,rc3,_,_,rr3⟩:=hl.c3.opn;obtain⟨n3,lO⟩:∃n,y.card.length=n:=⟨_,rfl⟩;have J7:=Hd lO;rw[lO]at e3 r3;obtain⟨a4,c4,f4,b4,o4,e4,r4,rc4,_,_,rr4⟩:=hl.c4.opn;obtain⟨n4,lP⟩:∃n,y.ord.length=n:=⟨_,rfl⟩;have O3:=Hd lP;rw[lP]at e4 r4;obtain⟨a11,c11,f11,b11,o11,e11,r11,rc11,_,_,rr11⟩:=hl.c11.opn;obtain⟨n11,Vy⟩:∃n,y.lists.length=n:=⟨_,rfl⟩;have lQ:=Hd Vy;rw[Vy]at e11 r11;obtain⟨a12,c12,f12,b12,o12,e12,r12,rc12,_,_,rr12⟩:=hl.c12.opn;obtain⟨n12,Vz⟩:∃n,y.units.length=n:=⟨_,rfl⟩;have lR:=Hd Vz;rw[Vz]at e12 r12;obtain⟨a13,c13,f13,b13,o13,e13,r13,rc13,_,_,rr13⟩:=hl.c13.opn;obtain⟨n13,V0⟩:∃n,y.dates.length=n:=⟨_,rfl⟩;have lS:=Hd V0;rw[V0]at e13 r13;obtain⟨a14,c14,f14,b14,o14,e14,r14,rc14,_,_,rr14⟩:=hl.c14.opn;obtain⟨n14,Kr⟩:∃n,y.months.length=n:=⟨_,rfl⟩;have Vw:=Hd Kr;rw[Kr]at e14 r14;obtain⟨a15,c15,f15,b15,o15,e15,r15,rc15,_,_,rr15⟩:=hl.c15.opn;obtain⟨n15,Ks⟩:∃n,y.days.length=n:=⟨_,rfl⟩;have Vx:=Hd Ks;rw[Ks]at e15 r15;generalize y.tag=s0 at *;generalize y.par=s1 at *;generalize y.dir=s2 at *;generalize y.dec=s5 at *;generalize y.grp=s6 at *;generalize y.mi=s7 at *;generalize y.pct=s8 at *;generalize y.pri=z9 at *;generalize y.sec=z10 at *;have k0:wo.cell? ⟨b,off+k *16,none⟩=some (f k 0):=D7.out.cell k 0 Aa (by omega);rw[e0]at k0;have k1:wo.cell? ⟨b,off+k *16+1,none⟩=some (f k 1):=D7.out.cell k 1 Aa (by omega);rw[e1]at k1;have k2:wo.cell? ⟨b,off+k *16+2,none⟩=some (f k 2):=D7.out.cell k 2 Aa (by omega);rw[e2]at k2;have k3:wo.cell? ⟨b,off+k *16+3,none⟩=some (f k 3):=D7.out.cell k 3 Aa (by omega);rw[e3]at k3;have k4:wo.cell? ⟨b,off+k *16+4,none⟩=some (f k 4):=D7.out.cell k 4 Aa (by omega);rw[e4]at k4;have k5:wo.cell? ⟨b,off+k *16+5,none⟩=some (f k 5):=D7.out.cell k 5 Aa (by omega);rw[e5]at k5;have k6:wo.cell? ⟨b,off+k *16+6,none⟩=some (f k 6):=D7.out.cell k 6 Aa (by omega);rw[e6]at k6;have k7:wo.cell? ⟨b,off+k *16+7,none⟩=some (f k 7):=D7.out.cell k 7 Aa (by omega);rw[e7]at k7;have k8:wo.cell? ⟨b,off+k *16+8,none⟩=some (f k 8):=D7.out.cell k 8 Aa (by omega);rw[e8]at k8;have k9:wo.cell? ⟨b,off+k *16+9,none⟩=some (f k 9):=D7.out.cell k 9 Aa (by omega);rw[e9]at k9;have k10:wo.cell? ⟨b,off+k *16+10,none⟩=some (f k 10):=D7.out.cell k 10 Aa (by omega);rw[e10]at k10;have k11:wo.cell? ⟨b,off+k *16+11,none⟩=some (f k 11):=D7.out.cell k 11 Aa (by omega);rw[e11]at k11;have k12:wo.cell? ⟨b,off+k *16+12,none⟩=some (f k 12):=D7.out.cell k 12 Aa (by omega);rw[e12]at k12;have k13:wo.cell? ⟨b,off+k *16+13,none⟩=some (f k 13):=D7.out.cell k 13 Aa (by omega);rw[e13]at k13;have k14:wo.cell? ⟨b,off+k *16+14,none⟩=some (f k 14):=D7.out.cell k 14 Aa (by omega);rw[e14]at k14;have k15:wo.cell? ⟨b,off+k *16+15,none⟩=some (f k 15):=D7.out.cell k 15 Aa (by omega);rw[e15]at k15;have q3:=r3.max;have q4:=r4.max;have q11:=r11.max;have q12:=r12.max;have q13:=r13.max;have q14:=r14.max;have q15:=r15.max;have H3:=Hd r3;have H4:=Hd r4;have Ft:=Hd rc3;have Yc:=Hd rc4;have Aq:=Hd rr3;have Bk:=Hd rr4;clear hl e0 e1 e2 e3 e4 e5 e6 e7 e8 e9 e10 e11 e12 e13 e14 e15 r3 r4 r11 r12 r13 r14 r15 rc3 rc4 rr3 rr4 rr11 rr12 rr13 rr14 rr15 rc11 rc12 rc13 rc14 rc15 lO lP Vy Vz V0 Kr Ks
    go_upto_region 5 with(fail)
    refine Zcw ?_;intro W1 Fb;have Ba:W1.heap.size=wo.heap.size+1:=by rw[Fb];simp
    have Cs:Hid (Below wo.heap.size wo W1):=by rw[Fb];exact(Below.refl _ _).alloc (le_refl _) _
    have y3:W1.cell? ⟨wo.heap.size,3,none⟩=some (.slice a3 n3 c3):=by rw[Fb];simp[go_sem]
    have y4:W1.cell? ⟨wo.heap.size,4,none⟩=some (.slice a4 n4 c4):=by rw[Fb];simp[go_sem]
    have y11:W1.cell? ⟨wo.heap.size,11,none⟩=some (.slice a11 n11 c11):=by rw[Fb];simp[go_sem]
    have y12:W1.cell? ⟨wo.heap.size,12,none⟩=some (.slice a12 n12 c12):=by rw[Fb];simp[go_sem]
    have y13:W1.cell? ⟨wo.heap.size,13,none⟩=some (.slice a13 n13 c13):=by rw[Fb];simp[go_sem]
    have y14:W1.cell? ⟨wo.heap.size,14,none⟩=some (.slice a14 n14 c14):=by rw[Fb];simp[go_sem]
    have y15:W1.cell? ⟨wo.heap.size,15,none⟩=some (.slice a15 n15 c15):=by rw[Fb];simp[go_sem]
    have Aw:wo.heap.size<W1.heap.size:=by omega
    have F7:=Hd (Ok.out.trans (Cs.out.mono Ok.out.size));have Bg:=Hd (H3.out.below Cs.out);have Cl:=Hd (H4.out.below Cs.out);clear Fb H3 H4 k0 k1 k2 k3 k4 k5 k6 k7 k8 k9 k10 k11 k12 k13 k14 k15
    by_cases p3:n3≤12
    ·have g3: ¬12<(n3:Int):=by omega
     by_cases p4:n4≤12
     ·have g4: ¬12<(n4:Int):=by omega
      by_cases p11:n11≤12
      ·have g11: ¬12<(n11:Int):=by omega
       by_cases p12:n12≤110
       ·have g12: ¬110<(n12:Int):=by omega
        by_cases p13:n13≤40
        ·have g13: ¬40<(n13:Int):=by omega
         by_cases p14:n14≤20
         ·have g14: ¬20<(n14:Int):=by omega
          by_cases p15:n15≤20
          ·have g15: ¬20<(n15:Int):=by omega
           have lT:Hid (CntL y):=⟨by rw[J7.out];exact p3,by rw[O3.out];exact p4,by rw[lQ.out];exact p11,by rw[lR.out];exact p12,by rw[lS.out];exact p13,by rw[Vw.out];exact p14,by rw[Vx.out];exact p15⟩
           go_wp2_with fail
           go_loopw [5] (fun v wr=>∃q:Nat,v= .int .i64 (q:Int)∧q≤n3+n4∧(∀j,j<q→((y.card++y.ord).getD j (.empty,[])).2.length≤30)∧Below W1.heap.size W1 wr) (fun v _=>n3+n4 -(intOf v).toNat)
           case atStart=>exact⟨0,rfl,Nat.zero_le _,fun j hj=>absurd hj (Nat.not_lt_zero _),Below.refl _ _⟩
           case round=>
            obtain⟨q,rfl,Mq,bV,Fe⟩:=hrel;have Wn:=Hd bV;have C8:=Hd Fe;have O8:=Fe.size;clear Fe bV;have u3:wr.cell? ⟨wo.heap.size,3,none⟩=some (.slice a3 n3 c3):=(C8.out.cell (p:=⟨wo.heap.size,3,none⟩) Aw).trans y3;have u4:wr.cell? ⟨wo.heap.size,4,none⟩=some (.slice a4 n4 c4):=(C8.out.cell (p:=⟨wo.heap.size,4,none⟩) Aw).trans y4;have Kq:(q:Int)<(n3:Int)+(n4:Int)↔q<n3+n4:=by omega
            by_cases Bi:q<n3+n4
            ·as_aux_lemma=>
              have pD:(q:Int)<(n3:Int)+(n4:Int):=Kq.2 Bi;clear Kq
              go_upto_region 10 with(fail)
              refine Zrg (fun A0 Ek=>?_);have fa4:A0.tmps.getD 4 undef= .pointer (some ⟨wo.heap.size,0,none⟩):=by rw[Ek];rfl
              have fa5:A0.tmps.getD 5 undef= .int .i64 (q:Int):=by rw[Ek];rfl
              have aS:A0.tmps.size=105:=by rw[Ek];rfl
              have uW:=Hd Ek;clear Ek;have Kx:wo.heap.size<wr.heap.size:=by omega
              have uX:=Hd (Bg.out.below C8.out);have uY:=Hd (Cl.out.below C8.out);have Ce:Hid (∀i,i<n3→(f3 i 0).oneCell'=true∧(f3 i 1).oneCell'=true):=fun i hi=>by
               obtain⟨hs,⟨_,_,_,_,_,hc,_⟩⟩:=Aq.out i (by rw[J7.out];exact hi);rw[hs,hc];exact⟨rfl,rfl⟩
              have O0:Hid (∀i,i<n4→(f4 i 0).oneCell'=true∧(f4 i 1).oneCell'=true):=fun i hi=>by
               obtain⟨hs,⟨_,_,_,_,_,hc,_⟩⟩:=Bk.out i (by rw[O3.out];exact hi);rw[hs,hc];exact⟨rfl,rfl⟩
              have Nr:Hid ((∃s,(if q<n3 then f3 q 0 else f4 (q - n3) 0)= .string s)∧CondAt wo (if q<n3 then f3 q 1 else f4 (q - n3) 1) ((y.card++y.ord).getD q (.empty,[])).2):=by
               unfold Hid
               by_cases h:q<n3
               ·rw[if_pos h,if_pos h];have hq:q<y.card.length:=by rw[J7.out];exact h
                have:=Aq.out q hq;rw[List.getD_eq_getElem?_getD,List.getElem?_append_left hq,List.getElem?_eq_getElem hq];exact⟨⟨_,this.1⟩,this.2⟩
               ·rw[if_neg h,if_neg h];have hq:q - n3<y.ord.length:=by rw[O3.out];omega
                have:=Bk.out (q - n3) hq;rw[List.getD_eq_getElem?_getD,List.getElem?_append_right (by rw[J7.out];omega),J7.out,List.getElem?_eq_getElem hq];exact⟨⟨_,this.1⟩,this.2⟩
              have Ao:Hid (((y.card++y.ord).getD q (.empty,[])).2.length≤30→∀j,j<q+1→((y.card++y.ord).getD j (.empty,[])).2.length≤30):=fun h j hj=>by
               rcases Nat.lt_or_ge j q with h'|h'
               ·exact Wn.out j h'
               ·rw[show j=q by omega];exact h
              clear Wn;generalize ((y.card++y.ord).getD q (.empty,[])).2=cq at *;obtain⟨r0,Xc⟩:∃r0,(if q<n3 then f3 q 0 else f4 (q - n3) 0)=r0:=⟨_,rfl⟩;obtain⟨r1,Cp⟩:∃r1,(if q<n3 then f3 q 1 else f4 (q - n3) 1)=r1:=⟨_,rfl⟩;have lU:=Zwz f3 f4 n3 n4 q Bi;rw[Xc,Cp]at Nr lU;have Km:=Hd lU;clear Xc Cp lU;obtain⟨⟨sr,rfl⟩,pN⟩:=Nr.out;have bW:=pN;obtain⟨ra,rc,rf,rb,ro,rfl,_⟩:=pN;clear Nr;have uZ:=Hd bW;clear bW;generalize vA:cq.length=rn at *;refine Zr4 (JJ A0 [(1,71,.pointer (some ⟨wo.heap.size,3,none⟩)),(2,72,.slice a3 n3 c3),(4,74,.pointer (some ⟨wo.heap.size,4,none⟩)),(5,75,.slice a4 n4 c4),(7,77,.int .i64 (q:Int)),(9,79,.agg #[.string sr,.slice ra rn rc])] wr n3 n4 q (Zbr f3 n3) (Zbr f4 n4) (.string sr) (.slice ra rn rc)) (by kernel_rfl) (by kernel_rfl) (JJ.start _ _) ?_ ?_
              ·refine⟨?_,?_,?_,?_,?_,?_,?_,?_,?_,?_,?_,?_,trivial⟩
               all_goals (intro L a w7 hL hi hp hJ;replace hL:L.size=12:=hL;refine Zads rfl ?_)
               ·have C9:=hJ.lt hL (by omega) hi;have hR:=hJ.2 C9;refine Zgb (Zajb _ _ rfl _) ?_;exact JJ.of (by omega) C9 (hR.op0 (by omega) hL (by rw[←Zjk L 0 (by omega)];exact hi) (by simp))
               ·have C9:=hJ.lt hL (by omega) hi;have hR:=hJ.2 C9;refine Zlh 46 _ 3 rfl (hR.fr.ev (by decide) fa4) (v:= .pointer (some ⟨wo.heap.size,3,none⟩)) (by go_simp) ?_;exact JJ.of (by omega) C9 (hR.det (by omega) hL 1 71 _ (by omega) (by omega) (by omega) (by omega) (by omega) (by omega) (by decide) (by omega) (by omega) (by omega) (by omega) (by omega) (by simp))
               ·have C9:=hJ.lt hL (by omega) hi;have hR:=hJ.2 C9;have h1:=hR.tab.ev (i:=1) (d:=71) (v:= .pointer (some ⟨wo.heap.size,3,none⟩)) (by simp) (hp ⟨1,.data⟩ (by simp) rfl);have hc:=(hR.bel.cell (p:=⟨wo.heap.size,3,none⟩) Kx).trans u3;refine Zjb 38 _ rfl h1 (v:= .slice a3 n3 c3) (by go_simp) ?_;exact JJ.of (by omega) C9 (hR.det (by omega) hL 2 72 _ (by omega) (by omega) (by omega) (by omega) (by omega) (by omega) (by decide) (by omega) (by omega) (by omega) (by omega) (by omega) (by simp))
               ·have C9:=hJ.lt hL (by omega) hi;have hR:=hJ.2 C9;have h0:=hp ⟨0,.data⟩ (by simp) rfl;have h2:a.eval (.tmp 72)= .slice a3 n3 c3:=hR.tab.ev (i:=2) (d:=72) (by simp) (hp ⟨2,.data⟩ (by simp) rfl);have pO:L.getD 3 false=false:=by rw[←Zjk L 3 (by omega)];exact hi
                obtain⟨ad5,c5,e5,Gl⟩:=hR.s0 h0 pO;refine Zm4 (.tmp 70) (.tmp 72) rfl wr.heap.size ad5 0 c5 [] e5 Gl a3 n3 c3 f3 b3 o3 h2 (uX.out.below hR.bel) Ft.out Ce.out (by omega) hR.bel.size ?_;intro ad6 c6 w6 El Ql Iu;rw[zero_add,List.nil_append]at El;rw[zero_add]at Iu;show JJ _ _ _ _ _ _ _ _ _ _ (L.setIfInBounds 3 true) (a.put (some 73) (.slice ad6 (0+n3) c6)) w6;rw[zero_add];exact JJ.of (by omega) C9 (hR.op3 (by omega) hL h0 pO (by simp) e5 Gl El Ql Iu)
               ·have C9:=hJ.lt hL (by omega) hi;have hR:=hJ.2 C9;refine Zlh 46 _ 4 rfl (hR.fr.ev (by decide) fa4) (v:= .pointer (some ⟨wo.heap.size,4,none⟩)) (by go_simp) ?_;exact JJ.of (by omega) C9 (hR.det (by omega) hL 4 74 _ (by omega) (by omega) (by omega) (by omega) (by omega) (by omega) (by decide) (by omega) (by omega) (by omega) (by omega) (by omega) (by simp))
               ·have C9:=hJ.lt hL (by omega) hi;have hR:=hJ.2 C9;have h1:=hR.tab.ev (i:=4) (d:=74) (v:= .pointer (some ⟨wo.heap.size,4,none⟩)) (by simp) (hp ⟨4,.data⟩ (by simp) rfl);have hc:=(hR.bel.cell (p:=⟨wo.heap.size,4,none⟩) Kx).trans u4;refine Zjb 38 _ rfl h1 (v:= .slice a4 n4 c4) (by go_simp) ?_;exact JJ.of (by omega) C9 (hR.det (by omega) hL 5 75 _ (by omega) (by omega) (by omega) (by omega) (by omega) (by omega) (by decide) (by omega) (by omega) (by omega) (by omega) (by omega) (by simp))
               ·have C9:=hJ.lt hL (by omega) hi;have hR:=hJ.2 C9;have h3:=hp ⟨3,.data⟩ (by simp) rfl;have h5:a.eval (.tmp 75)= .slice a4 n4 c4:=hR.tab.ev (i:=5) (d:=75) (by simp) (hp ⟨5,.data⟩ (by simp) rfl);have pP:L.getD 6 false=false:=by rw[←Zjk L 6 (by omega)];exact hi
                obtain⟨ad5,c5,e5,Gl⟩:=hR.s3 h3 pP;refine Zm4 (.tmp 73) (.tmp 75) rfl wr.heap.size ad5 n3 c5 (Zbr f3 n3) e5 Gl a4 n4 c4 f4 b4 o4 h5 (uY.out.below hR.bel) Yc.out O0.out (by omega) hR.bel.size ?_;intro ad6 c6 w6 El Ql _;exact JJ.of (by omega) C9 (hR.op6 (by omega) hL h3 pP (by simp) e5 Gl El Ql)
               ·have C9:=hJ.lt hL (by omega) hi;have hR:=hJ.2 C9;refine Zaga _ rfl (hR.fr.ev (by decide) fa5) ?_;exact JJ.of (by omega) C9 (hR.det (by omega) hL 7 77 _ (by omega) (by omega) (by omega) (by omega) (by omega) (by omega) (by decide) (by omega) (by omega) (by omega) (by omega) (by omega) (by simp))
               ·have C9:=hJ.lt hL (by omega) hi;have hR:=hJ.2 C9;have h6:=hp ⟨6,.data⟩ (by simp) rfl;have h7:a.eval (.tmp 77)= .int .i64 (q:Int):=hR.tab.ev (i:=7) (d:=77) (by simp) (hp ⟨7,.data⟩ (by simp) rfl);obtain⟨ad5,c5,e5,Gl⟩:=hR.s6 h6;obtain⟨g,Fs,Q1,A5,Wh⟩:=Zakl Gl Bi Km.out.1 Km.out.2;refine Ztu 38 _ _ rfl (show a.eval (.tmp 76)=_ from e5) h7 (v:= .pointer (some ⟨g,q *2,none⟩)) (Q1 _) ?_;exact JJ.of (by omega) C9 (hR.op8 (by omega) hL h6 (by simp) g Fs A5 Wh)
               ·have C9:=hJ.lt hL (by omega) hi;have hR:=hJ.2 C9;obtain⟨g,e1,e2,e3,e4⟩:=hR.s8 (hp ⟨8,.data⟩ (by simp) rfl);refine Zjb 51 _ rfl (show a.eval (.tmp 78)=_ from e1) (v:= .agg #[.string sr,.slice ra rn rc]) (by go_simp) ?_;exact JJ.of (by omega) C9 (hR.det (by omega) hL 9 79 _ (by omega) (by omega) (by omega) (by omega) (by omega) (by omega) (by decide) (by omega) (by omega) (by omega) (by omega) (by omega) (by simp))
               ·have C9:=hJ.lt hL (by omega) hi;have hR:=hJ.2 C9;refine Zu5 51 rfl (w':=w7.alloc (.cells #[.string .empty,.slice none 0 0] 51)) (v:= .pointer (some ⟨w7.heap.size,0,none⟩)) (by go_simp;rfl) ?_;exact JJ.of (by omega) C9 (hR.op10 (by omega) hL (by simp))
               ·have Be:∀j,j<11→L.getD j false=true:=fun j hj=>by
                 have:j=0∨j=1∨j=2∨j=3∨j=4∨j=5∨j=6∨j=7∨j=8∨j=9∨j=10:=by omega
                 rcases this with e|e|e|e|e|e|e|e|e|e|e <;> subst e <;> exact hp ⟨_,.phase⟩ (by simp) rfl
                have C9:L.getD 11 false=false:=by rw[←Zjk L 11 (by omega)];exact hi
                have hR:=hJ.2 C9;have h9:a.eval (.tmp 79)= .agg #[.string sr,.slice ra rn rc]:=hR.tab.ev (i:=9) (d:=79) (by simp) (Be 9 (by omega));obtain⟨B,e1,e2,e3,_,_⟩:=hR.box (Be 10 (by omega));have x0:w7.cell? ⟨B,0,none⟩=some (.string .empty):=by simp[World.cell?,e3]
                have x1:w7.cell? ⟨B,1,none⟩=some (.slice none 0 0):=by simp[World.cell?,e3]
                have xf:w7.frozen? ⟨B,0,none⟩=false:=by simp[World.frozen?,e3]
                have xg:w7.frozen? ⟨B,1,none⟩=false:=by simp[World.frozen?,e3]
                refine Zrs 51 _ _ rfl (show a.eval (.tmp 6)=_ from e1) h9 (w':=(w7.setCell ⟨B,0,none⟩ (.string sr)).setCell ⟨B,1,none⟩ (.slice ra rn rc)) (by go_simp) ?_;refine⟨fun _=>⟨fun j hj=>by rw[Za0 (by omega)];exact Be j hj,hR.fr,(hR.bel.setCell (p:=⟨B,0,none⟩) e2 _).setCell (p:=⟨B,1,none⟩) e2 _,B,e1,e2,?_,?_⟩,fun e=>(by rw[Zeg (by omega)]at e;cases e)⟩
                ·simp[go_sem,x0]
                ·simp[go_sem,x1]
              ·intro L a w7 S7 hJ;obtain⟨_,bV,V1,B,hB,E5,Jv,Gy⟩:=hJ.1 (S7 11 (by simp));have ha:=bV.eq_puts [(70,a.tmps.getD 70 undef),(71,a.tmps.getD 71 undef),(72,a.tmps.getD 72 undef),(73,a.tmps.getD 73 undef),(74,a.tmps.getD 74 undef),(75,a.tmps.getD 75 undef),(76,a.tmps.getD 76 undef),(77,a.tmps.getD 77 undef),(78,a.tmps.getD 78 undef),(79,a.tmps.getD 79 undef),(6,.pointer (some ⟨B,0,none⟩))] rfl (by decide) (by rw[aS];decide) (by
                intro x hx;simp only[List.mem_cons,List.not_mem_nil,or_false]at hx;rcases hx with rfl|rfl|rfl|rfl|rfl|rfl|rfl|rfl|rfl|rfl|rfl <;> first|rfl|exact hB)
               generalize a.tmps.getD 70 undef=m70 at ha;generalize a.tmps.getD 71 undef=m71 at ha;generalize a.tmps.getD 72 undef=m72 at ha;generalize a.tmps.getD 73 undef=m73 at ha;generalize a.tmps.getD 74 undef=m74 at ha;generalize a.tmps.getD 75 undef=m75 at ha;generalize a.tmps.getD 76 undef=m76 at ha;generalize a.tmps.getD 77 undef=m77 at ha;generalize a.tmps.getD 78 undef=m78 at ha;generalize a.tmps.getD 79 undef=m79 at ha;have lV:=Hd (C8.out.trans (V1.mono O8));have wS:=Hd V1;have pQ:=Hd (uZ.out.below (Cs.out.trans (lV.out.mono (by omega))));have hA:=uW.out;clear hJ bV V1 hB S7;subst ha;subst hA;have lW:=Hd (kC.out _ _ w7 pQ.out);clear pQ;rw[show∀A:Act,Zpi [(70,m70),(71,m71),(72,m72),(73,m73),(74,m74),(75,m75),(76,m76),(77,m77),(78,m78),(79,m79),(6,.pointer (some ⟨B,0,none⟩))] A=((((((((((A.put (some 70) m70).put (some 71) m71).put (some 72) m72).put (some 73) m73).put (some 74) m74).put (some 75) m75).put (some 76) m76).put (some 77) m77).put (some 78) m78).put (some 79) m79).put (some 6) (.pointer (some ⟨B,0,none⟩))from fun _=>rfl];simp only[Act.put,List.setIfInBounds_toArray,List.set_cons_zero,List.set_cons_succ]
               go_wp2_with fail
               refine lW.out.mono ?_;rintro e _ ⟨bb,rfl,rfl,bX⟩;cases bb with
               |false=>
                go_wp2_with fail
                go_ret;exact FewP.mk false rfl (F7.out.trans (lV.out.mono F7.out.size)) fun h=>(by cases h)
               |true=>
                have vB:=Hd (Ao.out ((by rw[←vA];exact bX rfl)));clear bX Ao
                go_wp2_with fail
                go_roundw
                case rel=>exact⟨q+1,by go_num,by omega,vB.out,lV.out⟩
                case measure=>simp[intOf];omega
            ·as_aux_lemma=>
              have pD: ¬(q:Int)<(n3:Int)+(n4:Int):=fun h=>Bi (Kq.1 h);clear Kq;have lX:Hid (OkL y):=Zajr lT.out (fun j hj=>Wn.out j (by rw[List.length_append,J7.out,O3.out]at hj;omega))
              go_wp2_with fail
              go_roundw
              case rel=>exact⟨k+1,by go_num,by omega,uV.out lX.out,Ac.out.trans ((Cs.out.trans (C8.out.mono (by omega))).mono Bl)⟩
              case measure=>simp[intOf];omega
          ·as_aux_lemma=>
            have g15:20<(n15:Int):=by omega
            go_wp2_with fail
            go_ret;exact FewP.mk false rfl F7.out fun h=>(by cases h)
         ·as_aux_lemma=>
           have g14:20<(n14:Int):=by omega
           go_wp2_with fail
           go_ret;exact FewP.mk false rfl F7.out fun h=>(by cases h)
        ·as_aux_lemma=>
          have g13:40<(n13:Int):=by omega
          go_wp2_with fail
          go_ret;exact FewP.mk false rfl F7.out fun h=>(by cases h)
       ·as_aux_lemma=>
         have g12:110<(n12:Int):=by omega
         go_wp2_with fail
         go_ret;exact FewP.mk false rfl F7.out fun h=>(by cases h)
      ·as_aux_lemma=>
        have g11:12<(n11:Int):=by omega
        go_wp2_with fail
        go_ret;exact FewP.mk false rfl F7.out fun h=>(by cases h)
     ·as_aux_lemma=>
       have g4:12<(n4:Int):=by omega
       go_wp2_with fail
       go_ret;exact FewP.mk false rfl F7.out fun h=>(by cases h)
    ·as_aux_lemma=>
      have g3:12<(n3:Int):=by omega
      go_wp2_with fail
      go_ret;exact FewP.mk false rfl F7.out fun h=>(by cases h)
  ·obtain rfl:k=n:=by omega
   as_aux_lemma=>
    have t1:wo.cell? ⟨w.heap.size,1,none⟩=some (.slice ad1 n1 c1):=(Ac.out.cell (p:=⟨w.heap.size,1,none⟩) (by show w.heap.size<_;omega)).trans T1.out;have t2:wo.cell? ⟨w.heap.size,2,none⟩=some (.slice ad2 n2 c2):=(Ac.out.cell (p:=⟨w.heap.size,2,none⟩) (by show w.heap.size<_;omega)).trans T2.out;have F7:=Hd (L6.out.trans (Ac.out.mono (by omega)));have V2:=C6.out;rw[List.take_of_length_le (by rw[E7.out];exact le_refl _)]at V2;have bY:=Hd V2;clear V2 C6
    by_cases p0:k≤62
    ·have g0:(k:Int)≤62:=by omega
     by_cases p1:n1≤205
     ·have g1:(n1:Int)≤205:=by omega
      by_cases p2:n2≤205
      ·have g2:(n2:Int)≤205:=by omega
       have vC:Hid (Calls prog 31 #[.agg #[.slice ad k c,.slice ad1 n1 c1,.slice ad2 n2 c2]] wo fun e w'=>e= .returned (.int .i64 (Zno t:Int))∧Below wo.heap.size wo w'):=Zafo t _ _ _ wo (pM.out.map F7.out fun _ _ h=>h.below F7.out) (eJ.out.map F7.out fun _ _ h=>h.at) (Ew.out.map F7.out fun _ _ h=>h.at) (fun y hy=>(bY.out y hy).cnt) (by rw[E7.out];exact p0) (by rw[Ec.out];exact p1) (by rw[Hm.out];exact p2);have vD:Hid (Zno t≤40000→FewT t):=fun h=>⟨by rw[E7.out];exact p0,by rw[Ec.out];exact p1,by rw[Hm.out];exact p2,bY.out,h⟩
       go_wp2_with fail
       refine vC.out.mono ?_;rintro e w3 ⟨rfl,Ax⟩;have C3:=Hd (F7.out.trans (Ax.mono F7.out.size));clear Ax;generalize Zno t=sz at *
       by_cases p3:sz≤40000
       ·have g3:(sz:Int)≤40000:=by omega
        go_wp2_with fail
        go_ret;exact FewP.mk true (by first|rfl|simp[g3]) C3.out fun _=>vD.out p3
       ·have g3: ¬(sz:Int)≤40000:=by omega
        go_wp2_with fail
        go_ret;exact FewP.mk false (by first|rfl|simp[g3]) C3.out fun h=>(by cases h)
      ·have g2: ¬(n2:Int)≤205:=by omega
       go_wp2_with fail
       go_ret;exact FewP.mk false (by first|rfl|simp[g2]) F7.out fun h=>(by cases h)
     ·have g1: ¬(n1:Int)≤205:=by omega
      go_wp2_with fail
      go_ret;exact FewP.mk false (by first|rfl|simp[g1]) F7.out fun h=>(by cases h)
    ·have g0: ¬(k:Int)≤62:=by omega
     go_wp2_with fail
     go_ret;exact FewP.mk false (by first|rfl|simp[g0]) F7.out fun h=>(by cases h)
end Go.Proofs.YtmleeodfmmpdgaaGreatDoor
