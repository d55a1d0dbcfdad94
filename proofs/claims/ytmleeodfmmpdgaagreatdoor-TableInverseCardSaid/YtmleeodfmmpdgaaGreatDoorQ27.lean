/- part -/
import Derived.Test.YtmleeodfmmpdgaaGreatDoorQ26
set_option maxRecDepth 20000
set_option maxHeartbeats 4000000
namespace Go.Proofs.YtmleeodfmmpdgaaGreatDoor
open Go.RowKit
attribute [local go_sem] Ext.cell Ext.frozen
attribute [local go_sem ↓] Go.wp_at_zero Go.wp_at_succ
open _root_.List (getElem_cons_succ getElem_cons_zero getElem_toArray setIfInBounds_toArray set_cons_succ set_cons_zero)
open _root_.Nat (le_refl le_trans lt_of_lt_of_le)
open _root_.Go.Proofs.Tryz
theorem Zt3 (w:World):Calls prog 151 #[] w fun e w'=>∃ad c,e= .returned (.slice ad 5 c)∧w'.ownsRow w.heap.size 9 1 (.slice ad 5 c) 5 (Zae classL)∧Below w.heap.size w w':=by
 have HO:=Hd (Zuy w 9 1 5 (Zae classL).toArray w.heap.size (le_refl _) (by decide) rfl)
 go_enter func151,ntmps151
 go_wp2_with fail
 go_ret;exact⟨_,_,rfl,HO.out,(Below.refl _ _).alloc (le_refl _) _⟩
theorem Zkd {w:World} {base c:Nat} {ad:Option Addr} {xs:List Value} {a0 a1 a2 a3:Value} (h:w.ownsRow base 9 1 (.slice ad 4 c) 4 xs)(hx:xs=[a0,a1,a2,a3]):
  ∃g,ad=some ⟨g,0,none⟩∧base≤g∧g<w.heap.size∧(w.cell? ⟨g,0,none⟩=some a0∧w.cell? ⟨g,1,none⟩=some a1∧w.cell? ⟨g,2,none⟩=some a2∧w.cell? ⟨g,3,none⟩=some a3):=by
 subst hx;obtain⟨_,⟨h1,h2⟩|⟨g,cap,cur,h1,h2,h3,h4,h5,h6,h7⟩⟩:=h
 ·cases h2
 ·injection h1 with e1 e2 e3;subst e1;have k:∀i,i<4→w.cell? ⟨g,i,none⟩=[a0,a1,a2,a3][i]? :=fun i hi=>by
   rw[←h7,List.getElem?_take,if_pos (by omega),Array.getElem?_toList];simp[World.cell?,h3]
  exact⟨g,rfl,h2,(Array.getElem?_eq_some_iff.1 h3).1,k 0 (by decide),k 1 (by decide),k 2 (by decide),k 3 (by decide)⟩
theorem Zlj (w:World):Calls prog 163 #[] w fun e w'=>∃ad n c,e= .returned (.slice ad n c)∧Sl w' ad n (Zae unitL)∧Below w.heap.size w w':=by
 go_enter func163,ntmps163
 go_wp2_with fail
 refine(Zt3 w).mono ?_;rintro _ w1 ⟨ad,c,rfl,Ab,hb⟩;have HB:=Hd hb;have hz:=hb.size;have HO:=Hd Ab;clear Ab hb
 go_wp2_with (at_builtin;go_must (refine Zw7 rfl _ _ rfl w.heap.size _ _ _ _ rfl HO.out _ _ rfl rfl (by unfold maxLen;omega) (by omega) hz ?_);intro ad6 c6 w4 Ix Dk Wh Wi;have O0:=Hd Ix;have D8:=Hd Dk;clear Ix Dk Wh Wi)
 go_ret;exact⟨_,_,_,rfl,Own.sl O0.out,HB.out.trans D8.out⟩
theorem Zyh (b:Nat)(E:Int)(base L:Nat)(p:Int)(y:Lc)(r:RS)(w:World)(hr:Rd w b E r)(hb:b<base)(hl:LocAt base w L y)(hn:y.units.length≤1000):Calls prog 225 #[.pointer (some ⟨b,0,none⟩),.int .i64 p,.pointer (some ⟨L,0,none⟩)] w (Zd5 b E base L w (Zoz E p y r)):=by
 obtain⟨v3,v4,v11,v12,v13,v14,v15,hl⟩:=hl;have Br:=Hd hr;have D2:=Hd hl;have Bp:=Hd (Kp.refl (Zcj b base) w);have E1:b<L:=lt_of_lt_of_le hb hl.low;have Ru:=hl.cel.lt;have Bc:=hl.low;have Dx:=Hd (fun W (g:Rd W b E r)=>Zdr b E r W g);have Mo:=Hd (fun q ad n c W (g:Rd W b E q) gs=>Zpg b E ad n c unitL q W g gs);have Us:=Hd (fun q W (g:Rd W b E q)=>Zkr b E q W g);have Di:=Hd (fun q W (g:Rd W b E q)=>Zcs b E [59] q W g);have Ha:=Hd (fun q x0 x1 x2 z W (g:Rd W b E q) (hw:base≤W.heap.size) ad c gr z0 z1 hx=>Zabl b E p 100 q W g base hb hw y.units ad c gr hn x0 x1 x2 z0 z1 z hx);have HV:Hid (Zoz E p y r=({ y with units:=y.units++[⟨bs (r.word E).1,bs ((r.word E).2.one E unitL).1,bs (((r.word E).2.one E unitL).2.text E).1⟩] },((((r.word E).2.one E unitL).2.text E).2.mark E [59]).add p (Zmp y.units (bs (r.word E).1) (bs ((r.word E).2.one E unitL).1)) (Zcc 100 y.units.length))):=rfl;have h1:=hr.ok.take (E:=E) (k:=1);have h2:=h1.2.one (E:=E) (l:=unitL);have h3:=h2.2.take (E:=E) (k:=2);have Cc:(bs (r.word E).1).size≤200000:=by rw[Za5];exact h1.1
 have Ba:(bs ((r.word E).2.one E unitL).1).size≤200000:=by rw[Za5];exact h2.1
 have A7:(bs (((r.word E).2.one E unitL).2.text E).1).size≤200000:=by rw[Za5];exact h3.1
 clear h1 h2 h3;unfold Zmp Zcc at HV;unfold RdP at Dx Mo Us Di;unfold Zd5;clear hr hl;generalize Zoz E p y r=res at *;generalize r.word E=r1 at *;obtain⟨K,q1⟩:=r1;simp only at Dx HV Cc Ba A7;have L1:=Hd (Mo.out q1);generalize q1.one E unitL=r2 at *;obtain⟨C,q2⟩:=r2;simp only at L1 HV Ba A7;have Nt:=Hd (Us.out q2);generalize q2.text E=r3 at *;obtain⟨T,q3⟩:=r3;simp only at Nt HV A7;have Ct:=Hd (Di.out q3);generalize q3.mark E [59]=q4 at *;generalize bs K=K at *;generalize bs C=C at *;generalize bs T=T at *;have Ha:=Hd (Ha.out q4 K C T ⟨K,C,T⟩);generalize q4.add p _ _=q5 at *;have Py:Hid (∀W,UpC W (fun j=>(#[.string K,.string C,.string T]:Array Value).getD j undef) ⟨K,C,T⟩):=fun W=>⟨⟨rfl,le_trans Cc (by decide)⟩,⟨rfl,le_trans Ba (by decide)⟩,⟨rfl,le_trans A7 (by decide)⟩⟩;have Ox:Hid (K.size≤maxLen):=by unfold Hid maxLen;omega
 have Jy:Hid (C.size≤maxLen):=by unfold Hid maxLen;omega
 clear Mo Us Di Cc Ba A7;have Bp:=Hd (Kp.refl (Zaf b) w)
 go_enter func225,ntmps225
 go_wp2_with fail
 refine(Dx.out _ Br.out).mono ?_;rintro _ w1 ⟨rfl,Cp,Cd⟩;have As:=Hd Cp;have Bf:=Hd (Bp.out.trans Cd);clear Cp Cd Bp Dx;have Ar:=Hd (As.out.below (Bel.alloc (Bel.refl w1) (.cells #[.string K,.string ⟨#[]⟩,.string ⟨#[]⟩] 132)));have A6:=Hd (Bf.out.alloc (.cells #[.string K,.string ⟨#[]⟩,.string ⟨#[]⟩] 132));have C7:=Hd (Cel.new w1 [.string K,.string ⟨#[]⟩,.string ⟨#[]⟩] 132);obtain⟨X,hX⟩:∃X,w1.heap.size=X:=⟨_,rfl⟩;have E3:w.heap.size≤X:=by rw[←hX];exact Bf.out.size
 have Gq:b<X:=lt_of_lt_of_le Br.out.lt E3;have Ch:X≠b:=by omega
 have dC:X≠L:=by omega
 rw[hX]at C7;clear As Bf
 go_upto_region 1 with(fail)
 generalize w1.alloc (.cells #[.string K,.string ⟨#[]⟩,.string ⟨#[]⟩] 132)=w2 at *
 go_wp2_with fail
 refine(Zlj w2).mono ?_;rintro _ w3 ⟨ad,n,c,rfl,F0,Ax⟩;have Aq:=Hd (Ar.out.below Ax);have Bg:=Hd (C7.out.below Ax);have An:=Hd (A6.out.trans (Za4 Ax));have iA:=Hd (L1.out ad n c _ Aq.out F0);clear F0 Ax Ar C7 A6 L1
 go_wp2_with fail
 refine iA.out.mono ?_;rintro _ w4 ⟨rfl,B4,A8⟩;have Bk:=Hd B4;have Bh:=Hd (An.out.trans A8);have Cl:=Hd (Bg.out.kp A8 (Za1 Ch));clear B4 A8 Aq An Bg;have x1:=Cl.out.cell 1;simp only[Le0,Le1]at x1;have xf1:=Cl.out.frz 1;have Bx:=Cl.out.lt
 go_upto_region 2 with(fail)
 have Dh:=Hd (Cl.out.set 1 (.string C));have Cg:=Hd (Bk.out.other (a:=⟨X,1,none⟩) Gq (.string C));have Bv:=Hd (Bh.out.setN (p:=⟨X,1,none⟩) E3 (.string C));simp only[set_cons_zero,set_cons_succ]at Dh;clear Bk Bh Cl x1 xf1 Bx;generalize w4.setCell ⟨X,1,none⟩ (.string C)=w5 at *;have Ut:=Hd (Nt.out _ Cg.out)
 go_wp2_with fail
 refine Ut.out.mono ?_;rintro _ w6 ⟨rfl,Rs,G3⟩;have Cr:=Hd Rs;have By:=Hd (Bv.out.trans G3);have Do:=Hd (Dh.out.kp G3 (Za1 Ch));clear Rs G3 Cg Bv Dh;have x2:=Do.out.cell 2;simp only[Le0,Le1]at x2;have xf2:=Do.out.frz 2;have Bx:=Do.out.lt
 go_upto_region 3 with(fail)
 have Ei:=Hd (Do.out.set 2 (.string T));have Jm:=Hd (Cr.out.other (a:=⟨X,2,none⟩) Gq (.string T));have G4:=Hd (By.out.setN (p:=⟨X,2,none⟩) E3 (.string T));simp only[set_cons_zero,set_cons_succ]at Ei;clear Cr By Do x2 xf2 Bx;generalize w6.setCell ⟨X,2,none⟩ (.string T)=w7 at *;have Cx:=Hd (Ct.out _ Jm.out)
 go_wp2_with fail
 refine Cx.out.mono ?_;rintro _ w8 ⟨rfl,Mp,O5⟩;have Il:=Hd Mp;have Cw:=Hd (G4.out.trans O5);have Hq:=Hd (Ei.out.kp O5 (Za1 Ch));clear Mp O5 Jm G4 Ei
 go_upto_region 4 with(fail)
 have O6:=Hd (D2.out.rd Br.out Cw.out);obtain⟨ad0,c0,F5⟩:=O6.out.g12.shape;subst F5;have P0:∀k,Value.ownBlock (.slice ad0 y.units.length c0)=some k→k<w.heap.size:=fun k hk=>(D2.out.g12.lt hk).2;refine Zbx 11 (fun w'=>w'.cell? ⟨L,12,none⟩=some (.slice ad0 y.units.length c0)∧Cel w' X 132 [.string K,.string C,.string T]) (by kernel_rfl) ⟨O6.out.cel.cell 12,Hq.out⟩ (fun Lw=>?_);have Gs:=Hd (Il.out.below (Bel.drew (Bel.refl w8)));have Ed:=Hd (O6.out.below (Bel.drew (Bel.refl w8)));have Yo:=Hd (Hq.out.below (Bel.drew (Bel.refl w8)));have K6:=Hd (Cw.out.trans (Za4 (Bel.drew (Bel.refl w8))));clear Il O6 Hq Cw D2 Br;refine Tg 0 ?_ (hy:=by intro wx A3;obtain⟨t1,t2⟩:=A3;have q0:=t2.cell 0;have q1:=t2.cell 1;have q2:=t2.cell 2;have Bx:=t2.lt;simp only[Le0,Le1]at q0 q1 q2;go_simp;try with_reducible rfl);refine Tg 1 ?_ (hy:=by intro wx A3;obtain⟨t1,t2⟩:=A3;have q0:=t2.cell 0;have q1:=t2.cell 1;have q2:=t2.cell 2;have Bx:=t2.lt;simp only[Le0,Le1]at q0 q1 q2;go_simp;try with_reducible rfl);refine Tg 2 ?_ (hy:=by intro wx A3;obtain⟨t1,t2⟩:=A3;have q0:=t2.cell 0;have q1:=t2.cell 1;have q2:=t2.cell 2;have Bx:=t2.lt;simp only[Le0,Le1]at q0 q1 q2;go_simp;try with_reducible rfl);refine Tg 3 ?_ (hy:=by intro wx A3;obtain⟨t1,t2⟩:=A3;have q0:=t2.cell 0;have q1:=t2.cell 1;have q2:=t2.cell 2;have Bx:=t2.lt;simp only[Le0,Le1]at q0 q1 q2;go_simp;try with_reducible rfl);refine Tg 4 ?_ (hy:=by intro wx A3;obtain⟨t1,t2⟩:=A3;have q0:=t2.cell 0;have q1:=t2.cell 1;have q2:=t2.cell 2;have Bx:=t2.lt;simp only[Le0,Le1]at q0 q1 q2;go_simp;try with_reducible rfl);refine Tg 5 ?_ (hy:=by intro wx A3;obtain⟨t1,t2⟩:=A3;have q0:=t2.cell 0;have q1:=t2.cell 1;have q2:=t2.cell 2;have Bx:=t2.lt;simp only[Le0,Le1]at q0 q1 q2;go_simp;try with_reducible rfl);refine Tg 6 ?_ (hy:=by intro wx A3;obtain⟨t1,t2⟩:=A3;have q0:=t2.cell 0;have q1:=t2.cell 1;have q2:=t2.cell 2;have Bx:=t2.lt;simp only[Le0,Le1]at q0 q1 q2;go_simp;try with_reducible rfl);refine Tg 7 ?_ (hy:=by intro wx A3;obtain⟨t1,t2⟩:=A3;have q0:=t2.cell 0;have q1:=t2.cell 1;have q2:=t2.cell 2;have Bx:=t2.lt;simp only[Le0,Le1]at q0 q1 q2;go_simp;try with_reducible rfl);generalize w8.drew=p0 at *;refine Ry 8 fun K hK=>?_
 go_simp
 have Ho:base≤p0.heap.size:=le_trans Ed.out.low (Nat.le_of_lt Ed.out.cel.lt);refine(Ha.out p0 Gs.out Ho ad0 c0 Ed.out.g12 Ox.out Jy.out Py.out).mono ?_;rintro _ p1 ⟨v',rfl,Fs,Cp,Cd⟩;obtain⟨ad',n',c',rfl⟩:∃ad n c,v'= .slice ad n c:=by obtain⟨ad,c,h⟩:=Fs.shape;exact⟨ad,_,c,h⟩
 have Gy:=Ed.out.celG Gs.out Ed.out.g12 Cd (by decide);have C0:=Hd Gy;have F2:=Hd (Ed.out.units Gs.out Cd Fs);have O4:Za7 b (.slice ad0 y.units.length c0) X=false:=by
  unfold Za7;rw[decide_eq_false Ch,decide_eq_false (fun e=>by have:=P0 X e;omega)];rfl
 have I4:=Hd (Yo.out.kp Cd O4);have As:=Hd Cp;have La:=Hd (K6.out.item.trans (Cd.itemG Ed.out.g12 (le_refl _)));clear Gy Fs Cp Ha
 go_simp
 refine hK.out _ _ (fun _=>⟨C0.out.cell 12,I4.out⟩) (fun _=>?_);clear hK K
 try simp only[Act.put,getElem_toArray,getElem_cons_succ,getElem_cons_zero,setIfInBounds_toArray,set_cons_zero,set_cons_succ]
 refine Ry 9 fun K hK=>?_
 go_simp
 refine hK.out _ _ (fun _=>⟨C0.out.cell 12,I4.out⟩) (fun _=>?_);clear hK K
 try simp only[Act.put,getElem_toArray,getElem_cons_succ,getElem_cons_zero,setIfInBounds_toArray,set_cons_zero,set_cons_succ]
 refine Ry 10 fun K hK=>?_
 go_simp
 refine hK.out _ _ (fun _=>⟨C0.out.cell 12,I4.out⟩) (fun _=>?_);clear hK K
 try simp only[Act.put,getElem_toArray,getElem_cons_succ,getElem_cons_zero,setIfInBounds_toArray,set_cons_zero,set_cons_succ]
 have c12:=C0.out.cell 12;have f12:=C0.out.frz 12;have E9:=C0.out.lt;refine Ry 11 fun K hK=>?_
 go_simp
 refine hK.out _ _ (fun h=>by cases h) (fun _=>?_);clear hK K;refine Zcp (by kernel_rfl) ?_ _;go_end0;exact⟨rfl,by rw[HV.out];exact⟨_,_,_,_,_,_,_,F2.out⟩,by rw[HV.out];exact As.out.other (a:=⟨L,12,none⟩) E1 _,La.out.itemS (p:=⟨L,12,none⟩) Bc _⟩
theorem Zzq (b:Nat)(E:Int)(base L:Nat)(p:Int)(y:Lc)(r:RS)(w:World)(hr:Rd w b E r)(hb:b<base)(hl:LocAt base w L y)(hn:y.lists.length≤1000):Calls prog 224 #[.pointer (some ⟨b,0,none⟩),.int .i64 p,.pointer (some ⟨L,0,none⟩)] w (Zd5 b E base L w (Zo8 E p y r)):=by
 obtain⟨v3,v4,v11,v12,v13,v14,v15,hl⟩:=hl;have Br:=Hd hr;have D2:=Hd hl;have Bp:=Hd (Kp.refl (Zcj b base) w);have E1:b<L:=lt_of_lt_of_le hb hl.low;have Ru:=hl.cel.lt;have Bc:=hl.low;have Dx:=Hd (fun W (g:Rd W b E r)=>Zdr b E r W g);have J9:=Hd (fun q W (g:Rd W b E q)=>Ziz b E 4 (by decide) q W g);have Di:=Hd (fun q W (g:Rd W b E q)=>Zcs b E [59] q W g);have Ha:=Hd (fun q x0 x1 x2 x3 x4 z W (g:Rd W b E q) (hw:base≤W.heap.size) ad c gr hx=>Zadz b E p 10 q W g base hb hw y.lists ad c gr hn x0 x1 x2 x3 x4 z hx);have HV:Hid (Zo8 E p y r=({ y with lists:=y.lists++[⟨bs (r.word E).1,gS (RS.texts0 E 4 (r.word E).2).1 0,gS (RS.texts0 E 4 (r.word E).2).1 1,gS (RS.texts0 E 4 (r.word E).2).1 2,gS (RS.texts0 E 4 (r.word E).2).1 3⟩] },((RS.texts0 E 4 (r.word E).2).2.mark E [59]).add p (Zoi y.lists (bs (r.word E).1)) (Zcc 10 y.lists.length))):=rfl;have h1:=hr.ok.take (E:=E) (k:=1);have h2:=h1.2.texts0 (E:=E) 4;have Cc:(bs (r.word E).1).size≤200000:=by rw[Za5];exact h1.1
 have Fl:∀s∈(RS.texts0 E 4 (r.word E).2).1,s.size≤200000:=h2.1;have Ah:=RS.texts_len0 E 4 (r.word E).2;clear h1 h2;unfold Zoi Zcc at HV;unfold RdP at Dx Di;unfold Zd5;clear hr hl;generalize Zo8 E p y r=res at *;generalize r.word E=r1 at *;obtain⟨K,q1⟩:=r1;simp only at Dx HV Cc Fl Ah;have Eq:=Hd (J9.out q1);generalize RS.texts0 E 4 q1=r2 at *;obtain⟨l,q2⟩:=r2;simp only at Eq HV Fl Ah;have Ct:=Hd (Di.out q2);generalize q2.mark E [59]=q3 at *;generalize bs K=K at *;have HS:Hid (Zae l=[.string (gS l 0),.string (gS l 1),.string (gS l 2),.string (gS l 3)]):=by
  match l,Ah with
  |[a,b,c,d],_=>rfl
 have Ba:=Ziu Fl 0;have A7:=Ziu Fl 1;have Rb:=Ziu Fl 2;have Wi:=Ziu Fl 3;generalize gS l 0=s0 at *;generalize gS l 1=s1 at *;generalize gS l 2=s2 at *;generalize gS l 3=s3 at *;have Ha:=Hd (Ha.out q3 K s0 s1 s2 s3 ⟨K,s0,s1,s2,s3⟩);generalize q3.add p _ _=q4 at *;have Py:Hid (∀W,LpC W (fun j=>(#[.string K,.string s0,.string s1,.string s2,.string s3]:Array Value).getD j undef) ⟨K,s0,s1,s2,s3⟩):=fun W=>⟨⟨rfl,le_trans Cc (by decide)⟩,⟨rfl,le_trans Ba (by decide)⟩,⟨rfl,le_trans A7 (by decide)⟩,⟨rfl,le_trans Rb (by decide)⟩,⟨rfl,le_trans Wi (by decide)⟩⟩;clear J9 Di Cc Ba A7 Rb Wi Fl Ah;have Bp:=Hd (Kp.refl (Zaf b) w)
 go_enter func224,ntmps224
 go_wp2_with fail
 refine(Dx.out _ Br.out).mono ?_;rintro _ w1 ⟨rfl,Cp,Cd⟩;have As:=Hd Cp;have Bf:=Hd (Bp.out.trans Cd);clear Cp Cd Bp Dx;have Ar:=Hd (As.out.below (Bel.alloc (Bel.refl w1) (.cells #[.string K,.string ⟨#[]⟩,.string ⟨#[]⟩,.string ⟨#[]⟩,.string ⟨#[]⟩] 130)));have A6:=Hd (Bf.out.alloc (.cells #[.string K,.string ⟨#[]⟩,.string ⟨#[]⟩,.string ⟨#[]⟩,.string ⟨#[]⟩] 130));have C7:=Hd (Cel.new w1 [.string K,.string ⟨#[]⟩,.string ⟨#[]⟩,.string ⟨#[]⟩,.string ⟨#[]⟩] 130);obtain⟨X,hX⟩:∃X,w1.heap.size=X:=⟨_,rfl⟩;have E3:w.heap.size≤X:=by rw[←hX];exact Bf.out.size
 have Gq:b<X:=lt_of_lt_of_le Br.out.lt E3;have Ch:X≠b:=by omega
 have dC:X≠L:=by omega
 rw[hX]at C7;clear As Bf
 go_upto_region 1 with(fail)
 generalize w1.alloc (.cells #[.string K,.string ⟨#[]⟩,.string ⟨#[]⟩,.string ⟨#[]⟩,.string ⟨#[]⟩] 130)=w2 at *;have I5:=Hd (Eq.out _ Ar.out)
 go_wp2_with fail
 refine I5.out.mono ?_;rintro _ w3 ⟨ad,c,rfl,Ab,E0,Cv⟩;obtain⟨g,Nu,Uu,dD,Ov⟩:=Zkd Ab HS.out;subst Nu;have O4:g≠X:=by have:=C7.out.lt;omega
 have Aq:=Hd E0;have Bg:=Hd (C7.out.kp Cv (Za1 Ch));have An:=Hd (A6.out.trans Cv);clear E0 Cv Ar C7 A6 Eq I5;obtain⟨e0,e1,e2,e3⟩:=Ov;have x1:=Bg.out.cell 1;have x2:=Bg.out.cell 2;have x3:=Bg.out.cell 3;have x4:=Bg.out.cell 4;simp only[Le0,Le1]at x1 x2 x3 x4;have xf1:=Bg.out.frz 1;have xf2:=Bg.out.frz 2;have xf3:=Bg.out.frz 3;have xf4:=Bg.out.frz 4;have Bx:=Bg.out.lt;clear Ab
 go_upto_region 2 with(fail)
 go_cut [] (fun wx=>Cel wx X 130 [.string K,.string s0,.string s1,.string s2,.string s3]∧Rd wx b E q2∧Kp (Zaf b) w wx)
 case first=>
  go_region
  go_wp2_with fail
  go_meet
  exact⟨((((Bg.out.set 1 _).set 2 _).set 3 _).set 4 _).below (Bel.drew (Bel.refl _)),((((Aq.out.other (a:=⟨X,1,none⟩) Gq _).other (a:=⟨X,2,none⟩) Gq _).other (a:=⟨X,3,none⟩) Gq _).other (a:=⟨X,4,none⟩) Gq _).below (Bel.drew (Bel.refl _)),((((An.out.setN (p:=⟨X,1,none⟩) E3 _).setN (p:=⟨X,2,none⟩) E3 _).setN (p:=⟨X,3,none⟩) E3 _).setN (p:=⟨X,4,none⟩) E3 _).drew⟩
 case rest=>
  obtain⟨Mj,B4,A8⟩:=hcut;obtain⟨w4,R0⟩:∃W,W=wc:=⟨_,rfl⟩;rw[←R0]at Mj B4 A8⊢;clear R0 x1 x2 x3 x4 xf1 xf2 xf3 xf4 Bx e0 e1 e2 e3;have Cl:=Hd Mj;have Bk:=Hd B4;have Bh:=Hd A8;clear Mj B4 A8 Bg Aq An;have Cx:=Hd (Ct.out _ Bk.out)
  go_wp2_with fail
  refine Cx.out.mono ?_;rintro _ w5 ⟨rfl,Bw,A9⟩;have Cg:=Hd Bw;have Bv:=Hd (Bh.out.trans A9);have Dh:=Hd (Cl.out.kp A9 (Za1 Ch));clear Bw A9 Bk Bh Cl
  go_upto_region 4 with(fail)
  have Pz:=Hd (D2.out.rd Br.out Bv.out);obtain⟨ad0,c0,F5⟩:=Pz.out.g11.shape;subst F5;have P0:∀k,Value.ownBlock (.slice ad0 y.lists.length c0)=some k→k<w.heap.size:=fun k hk=>(D2.out.g11.lt hk).2;refine Zbx 11 (fun w'=>w'.cell? ⟨L,11,none⟩=some (.slice ad0 y.lists.length c0)∧Cel w' X 130 [.string K,.string s0,.string s1,.string s2,.string s3]) (by kernel_rfl) ⟨Pz.out.cel.cell 11,Dh.out⟩ (fun Lw=>?_);have Gs:=Hd (Cg.out.below (Bel.drew (Bel.refl w5)));have Ed:=Hd (Pz.out.below (Bel.drew (Bel.refl w5)));have Yo:=Hd (Dh.out.below (Bel.drew (Bel.refl w5)));have K6:=Hd (Bv.out.trans (Za4 (Bel.drew (Bel.refl w5))));clear Cg Pz Dh Bv D2 Br;refine Tg 0 ?_ (hy:=by intro wx A3;obtain⟨t1,t2⟩:=A3;have q0:=t2.cell 0;have q1:=t2.cell 1;have q2:=t2.cell 2;have q3:=t2.cell 3;have q4:=t2.cell 4;have Bx:=t2.lt;simp only[Le0,Le1]at q0 q1 q2 q3 q4;go_simp;try with_reducible rfl);refine Tg 1 ?_ (hy:=by intro wx A3;obtain⟨t1,t2⟩:=A3;have q0:=t2.cell 0;have q1:=t2.cell 1;have q2:=t2.cell 2;have q3:=t2.cell 3;have q4:=t2.cell 4;have Bx:=t2.lt;simp only[Le0,Le1]at q0 q1 q2 q3 q4;go_simp;try with_reducible rfl);refine Tg 2 ?_ (hy:=by intro wx A3;obtain⟨t1,t2⟩:=A3;have q0:=t2.cell 0;have q1:=t2.cell 1;have q2:=t2.cell 2;have q3:=t2.cell 3;have q4:=t2.cell 4;have Bx:=t2.lt;simp only[Le0,Le1]at q0 q1 q2 q3 q4;go_simp;try with_reducible rfl);refine Tg 3 ?_ (hy:=by intro wx A3;obtain⟨t1,t2⟩:=A3;have q0:=t2.cell 0;have q1:=t2.cell 1;have q2:=t2.cell 2;have q3:=t2.cell 3;have q4:=t2.cell 4;have Bx:=t2.lt;simp only[Le0,Le1]at q0 q1 q2 q3 q4;go_simp;try with_reducible rfl);refine Tg 4 ?_ (hy:=by intro wx A3;obtain⟨t1,t2⟩:=A3;have q0:=t2.cell 0;have q1:=t2.cell 1;have q2:=t2.cell 2;have q3:=t2.cell 3;have q4:=t2.cell 4;have Bx:=t2.lt;simp only[Le0,Le1]at q0 q1 q2 q3 q4;go_simp;try with_reducible rfl);refine Tg 5 ?_ (hy:=by intro wx A3;obtain⟨t1,t2⟩:=A3;have q0:=t2.cell 0;have q1:=t2.cell 1;have q2:=t2.cell 2;have q3:=t2.cell 3;have q4:=t2.cell 4;have Bx:=t2.lt;simp only[Le0,Le1]at q0 q1 q2 q3 q4;go_simp;try with_reducible rfl);refine Tg 6 ?_ (hy:=by intro wx A3;obtain⟨t1,t2⟩:=A3;have q0:=t2.cell 0;have q1:=t2.cell 1;have q2:=t2.cell 2;have q3:=t2.cell 3;have q4:=t2.cell 4;have Bx:=t2.lt;simp only[Le0,Le1]at q0 q1 q2 q3 q4;go_simp;try with_reducible rfl);refine Tg 7 ?_ (hy:=by intro wx A3;obtain⟨t1,t2⟩:=A3;have q0:=t2.cell 0;have q1:=t2.cell 1;have q2:=t2.cell 2;have q3:=t2.cell 3;have q4:=t2.cell 4;have Bx:=t2.lt;simp only[Le0,Le1]at q0 q1 q2 q3 q4;go_simp;try with_reducible rfl);generalize w5.drew=p0 at *;refine Ry 8 fun K hK=>?_
  go_simp
  have Ho:base≤p0.heap.size:=le_trans Ed.out.low (Nat.le_of_lt Ed.out.cel.lt);refine(Ha.out p0 Gs.out Ho ad0 c0 Ed.out.g11 Py.out).mono ?_;rintro _ p1 ⟨v',rfl,Fs,Cp,Cd⟩;obtain⟨ad',n',c',rfl⟩:∃ad n c,v'= .slice ad n c:=by obtain⟨ad,c,h⟩:=Fs.shape;exact⟨ad,_,c,h⟩
  have Gy:=Ed.out.celG Gs.out Ed.out.g11 Cd (by decide);have C0:=Hd Gy;have F2:=Hd (Ed.out.lists Gs.out Cd Fs);have O4:Za7 b (.slice ad0 y.lists.length c0) X=false:=by
   unfold Za7;rw[decide_eq_false Ch,decide_eq_false (fun e=>by have:=P0 X e;omega)];rfl
  have I4:=Hd (Yo.out.kp Cd O4);have As:=Hd Cp;have La:=Hd (K6.out.item.trans (Cd.itemG Ed.out.g11 (le_refl _)));clear Gy Fs Cp Ha
  go_simp
  refine hK.out _ _ (fun _=>⟨C0.out.cell 11,I4.out⟩) (fun _=>?_);clear hK K
  try simp only[Act.put,getElem_toArray,getElem_cons_succ,getElem_cons_zero,setIfInBounds_toArray,set_cons_zero,set_cons_succ]
  refine Ry 9 fun K hK=>?_
  go_simp
  refine hK.out _ _ (fun _=>⟨C0.out.cell 11,I4.out⟩) (fun _=>?_);clear hK K
  try simp only[Act.put,getElem_toArray,getElem_cons_succ,getElem_cons_zero,setIfInBounds_toArray,set_cons_zero,set_cons_succ]
  refine Ry 10 fun K hK=>?_
  go_simp
  refine hK.out _ _ (fun _=>⟨C0.out.cell 11,I4.out⟩) (fun _=>?_);clear hK K
  try simp only[Act.put,getElem_toArray,getElem_cons_succ,getElem_cons_zero,setIfInBounds_toArray,set_cons_zero,set_cons_succ]
  have c11:=C0.out.cell 11;have f11:=C0.out.frz 11;have E9:=C0.out.lt;refine Ry 11 fun K hK=>?_
  go_simp
  refine hK.out _ _ (fun h=>by cases h) (fun _=>?_);clear hK K;refine Zcp (by kernel_rfl) ?_ _;go_end0;exact⟨rfl,by rw[HV.out];exact⟨_,_,_,_,_,_,_,F2.out⟩,by rw[HV.out];exact As.out.other (a:=⟨L,11,none⟩) E1 _,La.out.itemS (p:=⟨L,11,none⟩) Bc _⟩
theorem Zacx (b:Nat)(E:Int)(base L:Nat)(p:Int)(y:Lc)(r:RS)(w:World)(hr:Rd w b E r)(hb:b<base)(hl:LocAt base w L y):Calls prog 223 #[.pointer (some ⟨b,0,none⟩),.int .i64 p,.pointer (some ⟨L,0,none⟩)] w (Zd5 b E base L w (Zrr E p y r)):=by
 obtain⟨v3,v4,v11,v12,v13,v14,v15,hl⟩:=hl;have Br:=Hd hr;have D2:=Hd hl;have Bp:=Hd (Kp.refl (Zcj b base) w);have E1:b<L:=lt_of_lt_of_le hb hl.low;have Ru:=hl.cel.lt;have Bc:=hl.low;have G5:=Hd (Zhh b E 2 [] r w hr);have HF:=Hd (fun W (g:Rd W b E r)=>Zfo b E r 3 W g);have J9:=Hd (fun q W (g:Rd W b E q)=>Ziz b E 4 (by decide) q W g);have dE:=Hd (fun q W (g:Rd W b E q)=>Znp b E 9 q W g);have Di:=Hd (fun q W (g:Rd W b E q)=>Zcs b E [59] q W g);have iB:=Hd (fun q W (g:Rd W b E q)=>Zki b E p (Zh1 y.dec) q W g);have HV:Hid (Zrr E p y r=({ y with dec:=gS (r.sym E).1.1 0,grp:=gS (r.sym E).1.1 1,mi:=gS (r.sym E).1.1 2,pct:=gS (r.sym E).1.1 3,pri:=(r.sym E).1.2.1,sec:=(r.sym E).1.2.2 },(r.sym E).2.once p (Zh1 y.dec))):=rfl;have R1:Hid (r.sym E=(((RS.texts0 E 4 (r.sym0 E)).1,((RS.texts0 E 4 (r.sym0 E)).2.number E 9).1,(((RS.texts0 E 4 (r.sym0 E)).2.number E 9).2.number E 9).1),(((RS.texts0 E 4 (r.sym0 E)).2.number E 9).2.number E 9).2.mark E [59])):=rfl;have C4:Hid (r.sym0 E=if r.is E 2 []then r.fail E 3 else r):=rfl;have Bj:=Hd (Zr1 y.dec);rw[R1.out]at HV;clear R1;have Ah:=RS.texts_len0 E 4 (r.sym0 E);unfold RdP at HF dE Di iB;unfold Zd5;clear hr hl;generalize Zrr E p y r=res at *;generalize r.is E 2 []=isq at *;generalize r.fail E 3=rf at *;generalize r.sym0 E=q0 at *;have Eq:=Hd (J9.out q0);generalize RS.texts0 E 4 q0=r2 at *;obtain⟨l,q1⟩:=r2;simp only at Eq HV Ah;have Uv:=Hd (dE.out q1);generalize q1.number E 9=r3 at *;obtain⟨na,q2⟩:=r3;simp only at Uv HV;have Gh:=Hd (dE.out q2);generalize q2.number E 9=r4 at *;obtain⟨nc,q3⟩:=r4;simp only at Gh HV;have Ct:=Hd (Di.out q3);generalize q3.mark E [59]=q4 at *;have Yp:=Hd (iB.out q4);generalize q4.once p (Zh1 y.dec)=q5 at *;have HS:Hid (Zae l=[.string (gS l 0),.string (gS l 1),.string (gS l 2),.string (gS l 3)]):=by
  match l,Ah with
  |[a,b,c,d],_=>rfl
 generalize gS l 0=s0 at *;generalize gS l 1=s1 at *;generalize gS l 2=s2 at *;generalize gS l 3=s3 at *;clear J9 Di dE iB Ah;have Bp:=Hd (Kp.refl (Zaf b) w)
 go_enter func223,ntmps223
 go_wp2_with fail
 refine G5.out.mono ?_;rintro _ w1 ⟨rfl,Aw⟩;have As:=Hd (Br.out.below Aw);have Bf:=Hd (Bp.out.trans (Za4 Aw));clear Aw G5 Bp;cases isq with
 |false=>
  rw[if_neg (by decide)]at C4;obtain rfl:=C4.out
  go_wp2_with fail
  have I5:=Hd (Eq.out _ As.out)
  go_wp2_with fail
  refine I5.out.mono ?_;rintro _ w3 ⟨ad,c,rfl,Ab,E0,Cv⟩;obtain⟨g,Nu,Uu,dD,Ov⟩:=Zkd Ab HS.out;subst Nu;have Aq:=Hd E0;have An:=Hd (Bf.out.trans Cv);clear E0 Cv As Bf Eq I5 Ab;obtain⟨e0,e1,e2,e3⟩:=Ov
  go_upto_region 3 with(fail)
  go_cut [7] (fun s7 wx=>∃X,s7= .pointer (some ⟨X,0,none⟩)∧Cel wx X 40 [.string s0,.string s1,.string s2,.string s3,.int .i64 0,.int .i64 0]∧Rd wx b E q1∧Kp (Zaf b) w wx∧w.heap.size≤X)
  case first=>
   go_region
   all_goals
    go_wp2_with fail
    go_meet
    exact⟨_,rfl,(Cel.new _ [.string s0,.string s1,.string s2,.string s3,.int .i64 0,.int .i64 0] 40).below (by(repeat (first|exact Bel.refl _|refine Bel.drew ?_|refine Bel.alloc ?_ _))),Aq.out.below (by(repeat (first|exact Bel.refl _|refine Bel.drew ?_|refine Bel.alloc ?_ _))),An.out.trans (Za4 (by(repeat (first|exact Bel.refl _|refine Bel.drew ?_|refine Bel.alloc ?_ _)))),by have:=An.out.size;(try simp);omega⟩
  case rest=>
   obtain⟨X,rfl,Mj,B4,A8,E3⟩:=hcut;obtain⟨w4,R0⟩:∃W,W=wc:=⟨_,rfl⟩;rw[←R0]at Mj B4 A8⊢;clear R0 e0 e1 e2 e3 dD Uu;have Cl:=Hd Mj;have Bk:=Hd B4;have Bh:=Hd A8;have Gq:b<X:=lt_of_lt_of_le Br.out.lt E3;have Ch:X≠b:=by omega
   have dC:X≠L:=by omega
   clear Mj B4 A8 Aq An;have Uw:=Hd (Uv.out _ Bk.out)
   go_wp2_with fail
   refine Uw.out.mono ?_;rintro _ w5 ⟨rfl,Bw,A9⟩;have Cg:=Hd Bw;have Bv:=Hd (Bh.out.trans A9);have Dh:=Hd (Cl.out.kp A9 (Za1 Ch));clear Bw A9 Bk Bh Cl;have x4:=Dh.out.cell 4;simp only[Le0,Le1]at x4;have xf4:=Dh.out.frz 4;have Bx:=Dh.out.lt
   go_upto_region 5 with(fail)
   have Do:=Hd (Dh.out.set 4 (.int .i64 na));have Cr:=Hd (Cg.out.other (a:=⟨X,4,none⟩) Gq (.int .i64 na));have By:=Hd (Bv.out.setN (p:=⟨X,4,none⟩) E3 (.int .i64 na));simp only[set_cons_zero,set_cons_succ]at Do;clear Cg Bv Dh x4 xf4 Bx;generalize w5.setCell ⟨X,4,none⟩ (.int .i64 na)=w6 at *;have Gi:=Hd (Gh.out _ Cr.out)
   go_wp2_with fail
   refine Gi.out.mono ?_;rintro _ w7 ⟨rfl,Nv,Hp⟩;have Jm:=Hd Nv;have G4:=Hd (By.out.trans Hp);have Ei:=Hd (Do.out.kp Hp (Za1 Ch));clear Nv Hp Cr By Do;have x5:=Ei.out.cell 5;simp only[Le0,Le1]at x5;have xf5:=Ei.out.frz 5;have Bx:=Ei.out.lt
   go_upto_region 6 with(fail)
   have Hq:=Hd (Ei.out.set 5 (.int .i64 nc));have Il:=Hd (Jm.out.other (a:=⟨X,5,none⟩) Gq (.int .i64 nc));have Cw:=Hd (G4.out.setN (p:=⟨X,5,none⟩) E3 (.int .i64 nc));simp only[set_cons_zero,set_cons_succ]at Hq;clear Jm G4 Ei x5 xf5 Bx;generalize w7.setCell ⟨X,5,none⟩ (.int .i64 nc)=w8 at *;have Cx:=Hd (Ct.out _ Il.out)
   go_wp2_with fail
   refine Cx.out.mono ?_;rintro _ w9 ⟨rfl,Jn,Ee⟩;have O7:=Hd Jn;have Ev:=Hd (Cw.out.trans Ee);have Lz:=Hd (Hq.out.kp Ee (Za1 Ch));clear Jn Ee Il Cw Hq;have Fi:=Hd (D2.out.rd Br.out Ev.out);have c5:=Fi.out.cel.cell 5;simp only[Le0,Le1]at c5;have E9:=Fi.out.cel.lt;have Ux:=Hd (Yp.out _ O7.out)
   go_wp2_with fail
   rw[Bj.out];refine Ux.out.mono ?_;rintro _ w10 ⟨rfl,Nw,Gj⟩;have L3:=Hd Nw;have I6:=Hd (Ev.out.trans Gj);have Bz:=Hd (Lz.out.kp Gj (Za1 Ch));clear Nw Gj O7 Ev Lz;have Db:=Hd (D2.out.rd Br.out I6.out);clear Fi c5 E9;have x0:=Bz.out.cell 0;have x1:=Bz.out.cell 1;have x2:=Bz.out.cell 2;have x3:=Bz.out.cell 3;have x4:=Bz.out.cell 4;have x5:=Bz.out.cell 5;simp only[Le0,Le1]at x0 x1 x2 x3 x4 x5;have xf0:=Bz.out.frz 0;have xf1:=Bz.out.frz 1;have xf2:=Bz.out.frz 2;have xf3:=Bz.out.frz 3;have xf4:=Bz.out.frz 4;have xf5:=Bz.out.frz 5;have Bx:=Bz.out.lt;have c5:=Db.out.cel.cell 5;have c6:=Db.out.cel.cell 6;have c7:=Db.out.cel.cell 7;have c8:=Db.out.cel.cell 8;have c9:=Db.out.cel.cell 9;have c10:=Db.out.cel.cell 10;simp only[Le0,Le1]at c5 c6 c7 c8 c9 c10;have f5:=Db.out.cel.frz 5;have f6:=Db.out.cel.frz 6;have f7:=Db.out.cel.frz 7;have f8:=Db.out.cel.frz 8;have f9:=Db.out.cel.frz 9;have f10:=Db.out.cel.frz 10;have E9:=Db.out.cel.lt
   go_wp2_with fail
   go_end0;exact⟨rfl,by rw[HV.out];exact⟨_,_,_,_,_,_,_,(((((Db.out.dec s0).grp s1).mi s2).pct s3).pri na).sec nc⟩,by rw[HV.out];exact(((((L3.out.other (a:=⟨L,5,none⟩) E1 _).other (a:=⟨L,6,none⟩) E1 _).other (a:=⟨L,7,none⟩) E1 _).other (a:=⟨L,8,none⟩) E1 _).other (a:=⟨L,9,none⟩) E1 _).other (a:=⟨L,10,none⟩) E1 _,(((((I6.out.item.itemS (p:=⟨L,5,none⟩) Bc _).itemS (p:=⟨L,6,none⟩) Bc _).itemS (p:=⟨L,7,none⟩) Bc _).itemS (p:=⟨L,8,none⟩) Bc _).itemS (p:=⟨L,9,none⟩) Bc _).itemS (p:=⟨L,10,none⟩) Bc _⟩
 |true=>
  rw[if_pos rfl]at C4;obtain rfl:=C4.out;have Du:=Hd (HF.out _ As.out)
  go_wp2_with fail
  refine Du.out.mono ?_;rintro _ w2 ⟨rfl,Eo,D9⟩;have Ar:=Hd Eo;have A6:=Hd (Bf.out.trans D9);clear Eo D9 As Bf Du
  go_wp2_with fail
  have I5:=Hd (Eq.out _ Ar.out)
  go_wp2_with fail
  refine I5.out.mono ?_;rintro _ w3 ⟨ad,c,rfl,Ab,E0,Cv⟩;obtain⟨g,Nu,Uu,dD,Ov⟩:=Zkd Ab HS.out;subst Nu;have Aq:=Hd E0;have An:=Hd (A6.out.trans Cv);clear E0 Cv Ar A6 Eq I5 Ab;obtain⟨e0,e1,e2,e3⟩:=Ov
  go_upto_region 3 with(fail)
  go_cut [7] (fun s7 wx=>∃X,s7= .pointer (some ⟨X,0,none⟩)∧Cel wx X 40 [.string s0,.string s1,.string s2,.string s3,.int .i64 0,.int .i64 0]∧Rd wx b E q1∧Kp (Zaf b) w wx∧w.heap.size≤X)
  case first=>
   go_region
   all_goals
    go_wp2_with fail
    go_meet
    exact⟨_,rfl,(Cel.new _ [.string s0,.string s1,.string s2,.string s3,.int .i64 0,.int .i64 0] 40).below (by(repeat (first|exact Bel.refl _|refine Bel.drew ?_|refine Bel.alloc ?_ _))),Aq.out.below (by(repeat (first|exact Bel.refl _|refine Bel.drew ?_|refine Bel.alloc ?_ _))),An.out.trans (Za4 (by(repeat (first|exact Bel.refl _|refine Bel.drew ?_|refine Bel.alloc ?_ _)))),by have:=An.out.size;(try simp);omega⟩
  case rest=>
   obtain⟨X,rfl,Mj,B4,A8,E3⟩:=hcut;obtain⟨w4,R0⟩:∃W,W=wc:=⟨_,rfl⟩;rw[←R0]at Mj B4 A8⊢;clear R0 e0 e1 e2 e3 dD Uu;have Cl:=Hd Mj;have Bk:=Hd B4;have Bh:=Hd A8;have Gq:b<X:=lt_of_lt_of_le Br.out.lt E3;have Ch:X≠b:=by omega
   have dC:X≠L:=by omega
   clear Mj B4 A8 Aq An;have Uw:=Hd (Uv.out _ Bk.out)
   go_wp2_with fail
   refine Uw.out.mono ?_;rintro _ w5 ⟨rfl,Bw,A9⟩;have Cg:=Hd Bw;have Bv:=Hd (Bh.out.trans A9);have Dh:=Hd (Cl.out.kp A9 (Za1 Ch));clear Bw A9 Bk Bh Cl;have x4:=Dh.out.cell 4;simp only[Le0,Le1]at x4;have xf4:=Dh.out.frz 4;have Bx:=Dh.out.lt
   go_upto_region 5 with(fail)
   have Do:=Hd (Dh.out.set 4 (.int .i64 na));have Cr:=Hd (Cg.out.other (a:=⟨X,4,none⟩) Gq (.int .i64 na));have By:=Hd (Bv.out.setN (p:=⟨X,4,none⟩) E3 (.int .i64 na));simp only[set_cons_zero,set_cons_succ]at Do;clear Cg Bv Dh x4 xf4 Bx;generalize w5.setCell ⟨X,4,none⟩ (.int .i64 na)=w6 at *;have Gi:=Hd (Gh.out _ Cr.out)
   go_wp2_with fail
   refine Gi.out.mono ?_;rintro _ w7 ⟨rfl,Nv,Hp⟩;have Jm:=Hd Nv;have G4:=Hd (By.out.trans Hp);have Ei:=Hd (Do.out.kp Hp (Za1 Ch));clear Nv Hp Cr By Do;have x5:=Ei.out.cell 5;simp only[Le0,Le1]at x5;have xf5:=Ei.out.frz 5;have Bx:=Ei.out.lt
   go_upto_region 6 with(fail)
   have Hq:=Hd (Ei.out.set 5 (.int .i64 nc));have Il:=Hd (Jm.out.other (a:=⟨X,5,none⟩) Gq (.int .i64 nc));have Cw:=Hd (G4.out.setN (p:=⟨X,5,none⟩) E3 (.int .i64 nc));simp only[set_cons_zero,set_cons_succ]at Hq;clear Jm G4 Ei x5 xf5 Bx;generalize w7.setCell ⟨X,5,none⟩ (.int .i64 nc)=w8 at *;have Cx:=Hd (Ct.out _ Il.out)
   go_wp2_with fail
   refine Cx.out.mono ?_;rintro _ w9 ⟨rfl,Jn,Ee⟩;have O7:=Hd Jn;have Ev:=Hd (Cw.out.trans Ee);have Lz:=Hd (Hq.out.kp Ee (Za1 Ch));clear Jn Ee Il Cw Hq;have Fi:=Hd (D2.out.rd Br.out Ev.out);have c5:=Fi.out.cel.cell 5;simp only[Le0,Le1]at c5;have E9:=Fi.out.cel.lt;have Ux:=Hd (Yp.out _ O7.out)
   go_wp2_with fail
   rw[Bj.out];refine Ux.out.mono ?_;rintro _ w10 ⟨rfl,Nw,Gj⟩;have L3:=Hd Nw;have I6:=Hd (Ev.out.trans Gj);have Bz:=Hd (Lz.out.kp Gj (Za1 Ch));clear Nw Gj O7 Ev Lz;have Db:=Hd (D2.out.rd Br.out I6.out);clear Fi c5 E9;have x0:=Bz.out.cell 0;have x1:=Bz.out.cell 1;have x2:=Bz.out.cell 2;have x3:=Bz.out.cell 3;have x4:=Bz.out.cell 4;have x5:=Bz.out.cell 5;simp only[Le0,Le1]at x0 x1 x2 x3 x4 x5;have xf0:=Bz.out.frz 0;have xf1:=Bz.out.frz 1;have xf2:=Bz.out.frz 2;have xf3:=Bz.out.frz 3;have xf4:=Bz.out.frz 4;have xf5:=Bz.out.frz 5;have Bx:=Bz.out.lt;have c5:=Db.out.cel.cell 5;have c6:=Db.out.cel.cell 6;have c7:=Db.out.cel.cell 7;have c8:=Db.out.cel.cell 8;have c9:=Db.out.cel.cell 9;have c10:=Db.out.cel.cell 10;simp only[Le0,Le1]at c5 c6 c7 c8 c9 c10;have f5:=Db.out.cel.frz 5;have f6:=Db.out.cel.frz 6;have f7:=Db.out.cel.frz 7;have f8:=Db.out.cel.frz 8;have f9:=Db.out.cel.frz 9;have f10:=Db.out.cel.frz 10;have E9:=Db.out.cel.lt
   go_wp2_with fail
   go_end0;exact⟨rfl,by rw[HV.out];exact⟨_,_,_,_,_,_,_,(((((Db.out.dec s0).grp s1).mi s2).pct s3).pri na).sec nc⟩,by rw[HV.out];exact(((((L3.out.other (a:=⟨L,5,none⟩) E1 _).other (a:=⟨L,6,none⟩) E1 _).other (a:=⟨L,7,none⟩) E1 _).other (a:=⟨L,8,none⟩) E1 _).other (a:=⟨L,9,none⟩) E1 _).other (a:=⟨L,10,none⟩) E1 _,(((((I6.out.item.itemS (p:=⟨L,5,none⟩) Bc _).itemS (p:=⟨L,6,none⟩) Bc _).itemS (p:=⟨L,7,none⟩) Bc _).itemS (p:=⟨L,8,none⟩) Bc _).itemS (p:=⟨L,9,none⟩) Bc _).itemS (p:=⟨L,10,none⟩) Bc _⟩
theorem Zz4 (k:Nat)(b:Nat)(E:Int)(base L:Nat)(p:Int)(y:Lc)(r:RS)(w:World)(hr:Rd w b E r)(hb:b<base)(hl:LocAt base w L y)(hM:MaxAt base w)(hf:LcFew 0 y):Calls prog (fnN k) #[.pointer (some ⟨b,0,none⟩),.int .i64 p,.pointer (some ⟨L,0,none⟩)] w (Zd5 b E base L w (itN k E p y r)):=by
 have h1:=hf.card;have h2:=hf.ord;have h3:=hf.lists;have h4:=hf.units;have h5:=hf.dates;have h6:=hf.months;have h7:=hf.days
 match k with
 |0=>exact Zabv b E base L p y r w hr hb hl
 |1=>exact Zyr b E base L p y r w hr hb hl hM (by omega)
 |2=>exact Zacb b E base L p y r w hr hb hl hM (by omega)
 |3=>exact Zacx b E base L p y r w hr hb hl
 |4=>exact Zzq b E base L p y r w hr hb hl (by omega)
 |5=>exact Zyh b E base L p y r w hr hb hl (by omega)
 |6=>exact Zya b E base L p y r w hr hb hl (by omega)
 |7=>exact Zaeb b E base L p y r w hr hb hl (by omega)
 |_+8=>exact Zacg b E base L p y r w hr hb hl (by omega)
theorem Zaaz (b:Nat)(E:Int)(base L:Nat)(y:Lc)(r:RS)(w:World)(hr:Rd w b E r)(hb:b<base)(hl:LocAt base w L y)(hM:MaxAt base w)(hf:LcFew 0 y):Calls prog 119 #[.pointer (some ⟨b,0,none⟩),.pointer (some ⟨L,0,none⟩)] w (Zd5 b E base L w (tItem E y r)):=by
 have Gp:∀(fn:Fn) (first cap:Array Value) (w:World),(Instr.makeFunc fn first cap).run prog w= .ok (.func fn first cap) w:=fun _ _ _ _=>rfl;have Q7:=Hd (fun k p q W (g:Rd W b E q) (gl:LocAt base W L y) (gm:MaxAt base W)=>Zz4 k b E base L p y q W g hb gl gm hf);have HP:=Hd (Ze7 b E r w hr);have HF:=Hd (fun W (g:Rd W b E r)=>Zfo b E r 3 W g);have Dx:=Hd (fun W (g:Rd W b E r)=>Zdr b E r W g);have HV:Hid (tItem E y r=if Zc2 (Zgy (r.peek E)) 9<0 then(y,r.fail E 3)else itN (Zc2 (Zgy (r.peek E)) 9).toNat E (r.peek E).2.2 y (r.word E).2):=rfl;have HR:=Hd hr;have HL:=Hd hl;have HM:=Hd hM;unfold RdP at HF Dx;unfold Zgr at HP;unfold Zd5 at Q7⊢;clear hr hl hM hf;generalize tItem E y r=res at *;generalize r.peek E=t at *;obtain⟨k',s',f⟩:=t;simp only at HP HV;generalize r.fail E 3=rf at *;generalize r.word E=rw at *;obtain⟨ws,q1⟩:=rw;simp only at Dx HV;have nS:Hid (∀kb i (fn:Value) W,Cel W kb 109 [.int .i64 k',.string (bs s'),.int .i64 f]→Calls prog 177 #[.agg #[.string (bs (keyL.getD i [])),fn],.pointer (some ⟨kb,0,none⟩)] W fun e w'=>e= .returned (.bool (Zgy (k',s',f) i))∧Below W.heap.size W w'):=fun kb i fn W hc=>Zuq kb k' s' f _ fn W hc;generalize Zgy (k',s',f)=kp at *;generalize bs s'=S at *;generalize bs ws=WS at *;have E1:b<L:=lt_of_lt_of_le hb HL.out.lt.1
 go_enter func119,ntmps119
 go_wp2_with fail
 refine HP.out.mono ?_;rintro _ w1 ⟨rfl,Aw⟩;have Cs:=Hd Aw;clear Aw HP
 go_upto_region 1 with(fail)
 have Ai:Hid (Below w.heap.size w (w1.alloc (.cells #[.int .i64 k',.string S,.int .i64 f] 109))):=Cs.out.alloc Cs.out.size _;have C7:Hid (Cel (w1.alloc (.cells #[.int .i64 k',.string S,.int .i64 f] 109)) w1.heap.size 109 [.int .i64 k',.string S,.int .i64 f]):=Cel.new w1 _ _;have Im:w.heap.size≤w1.heap.size:=Cs.out.size;generalize w1.alloc (.cells #[.int .i64 k',.string S,.int .i64 f] 109)=w2 at *;obtain⟨B,hB⟩:∃B,w1.heap.size=B:=⟨_,rfl⟩;rw[hB]at C7 Im⊢;clear hB Cs;have sB:B≠b:=by have:=HR.out.lt;omega
 go_wp2_with fail
 refine(Zn1 w2).mono ?_;rintro _ w3 ⟨ad,c,bb,rfl,L2,Ax⟩;have Bg:=Hd (C7.out.below Ax);have C3:=Hd (Ai.out.trans (Ax.mono Ai.out.size));have HI:=Hd (Zaiy kp 177 #[.pointer (some ⟨B,0,none⟩)] (enters_of func177 (by kernel_rfl) rfl) ad 9 c Zabt bb 0 w3 L2 (fun W i hi hW=>nS.out B i _ W (Bg.out.below hW)));clear L2 Ax C7 Ai nS
 go_wp2_with fail
 refine HI.out.mono ?_;rintro _ w4 ⟨rfl,Dk⟩;have Cl:=Hd (Bg.out.below Dk);have D8:=Hd (C3.out.trans (Dk.mono C3.out.size));have Bk:=Hd (HR.out.below D8.out);clear Dk Bg C3 HI;rcases Zl3 kp 9 with⟨k,hk,hp,_,e⟩|⟨_,e⟩
 ·have Co: ¬((k:Int)<0):=by omega
  rw[e]at HV⊢;rw[if_neg Co,Int.toNat_natCast]at HV;have Dq:=Hd (Dx.out w4 Bk.out);clear HF Dx e hp
  go_wp2_with fail
  refine Dq.out.mono ?_;rintro _ w5 ⟨rfl,Bw,A9⟩;have Cg:=Hd Bw;have Bv:=Hd ((Za4 D8.out).trans A9:Kp (Zaf b) w w5);have Dh:=Hd (Cl.out.kp A9 (Za1 sB));clear Bw A9 Bk D8 Cl Dq
  go_upto_region 5 with(fail)
  refine Zbx 9 (fun w'=>w'.cell? ⟨B,2,none⟩=some (.int .i64 f)) (by kernel_rfl) (Dh.out.cell 2) (fun Lw=>?_);have Cr:=Hd (Cg.out.below (Bel.drew (Bel.refl w5)));have Do:=Hd (Dh.out.below (Bel.drew (Bel.refl w5)));have By:=Hd (Bv.out.trans (Za4 (Bel.drew (Bel.refl w5))));clear Cg Dh Bv;refine Zlw [9,4,3,2] (i:=1) (v:=?_) rfl (by kernel_rfl) (by kernel_rfl) (by kernel_rfl) (fun _ _ _ h=>h) (by kernel_rfl) (Or.inl ⟨by kernel_rfl,?_⟩) Lw ?_
  rotate_left
  ·(intro wx A3;go_simp;try with_reducible rfl)
  refine Tg 5 ?_;refine Zlw [9,7] (i:=6) (v:=?_) rfl (by kernel_rfl) (by kernel_rfl) (by kernel_rfl) (fun _ _ _ h=>h) (by kernel_rfl) (Or.inl ⟨by kernel_rfl,?_⟩) Lw ?_
  rotate_left
  ·(intro wx A3;go_simp;try with_reducible rfl)
  refine Tg 7 ?_;refine Tg 8 ?_;generalize w5.drew=p0 at *;refine Ry 0 fun K hK=>?_
  go_simp
  refine(Zn1 p0).mono ?_;rintro _ p1 ⟨ad1,c1,bb1,rfl,L2,Aw⟩;have Jm:=Hd (Cr.out.below Aw);have Ei:=Hd (Do.out.below Aw);have G4:=Hd (By.out.trans (Za4 Aw));have nT:=Hd L2;clear L2 Aw Cr Do By
  go_simp
  refine hK.out _ _ (fun _=>Ei.out.cell 2) (fun _=>?_);clear hK K
  try simp only[Act.put,getElem_toArray,getElem_cons_succ,getElem_cons_zero,setIfInBounds_toArray,set_cons_zero,set_cons_succ]
  have Ci:=nT.out.ix (P:=prog) 211 214 underlying211 (by kernel_rfl) (by decide) hk c1;have Wv:=nT.out.cell k 1 hk (by decide);rw[show Zabt k 1= .func (.func (fnN k)) #[] #[]from rfl,Nat.zero_add]at Wv;refine Ry 2 fun K hK=>?_
  go_simp
  refine hK.out _ _ (fun _=>Ei.out.cell 2) (fun _=>?_);clear hK K
  try simp only[Act.put,getElem_toArray,getElem_cons_succ,getElem_cons_zero,setIfInBounds_toArray,set_cons_zero,set_cons_succ]
  refine Ry 3 fun K hK=>?_
  go_simp
  refine hK.out _ _ (fun _=>Ei.out.cell 2) (fun _=>?_);clear hK K
  try simp only[Act.put,getElem_toArray,getElem_cons_succ,getElem_cons_zero,setIfInBounds_toArray,set_cons_zero,set_cons_succ]
  refine Ry 4 fun K hK=>?_
  go_simp
  refine hK.out _ _ (fun _=>Ei.out.cell 2) (fun _=>?_);clear hK K
  try simp only[Act.put,getElem_toArray,getElem_cons_succ,getElem_cons_zero,setIfInBounds_toArray,set_cons_zero,set_cons_succ]
  refine Ry 9 fun K hK=>?_;have eg:=Zur k;have sC:=Hd (Q7.out k f q1 p1 Jm.out (HL.out.rd HR.out G4.out) (HM.out.kp HR.out G4.out.item))
  go_simp
  refine sC.out.mono ?_;rintro _ p2 ⟨rfl,Jk,Eo,D9⟩
  go_simp
  refine hK.out _ _ (fun h=>by cases h) (fun _=>?_);clear hK K;refine Zcp (by kernel_rfl) ?_ _;go_end0;exact⟨rfl,by rw[HV.out];exact Jk,by rw[HV.out];exact Eo,G4.out.item.trans D9⟩
 ·rw[e]at HV⊢;rw[if_pos (by decide)]at HV;have Du:=Hd (HF.out w4 Bk.out);clear HF Dx e
  go_wp2_with fail
  refine Du.out.mono ?_;rintro _ w5 ⟨rfl,Bw,A9⟩
  go_wp2_with fail
  ((try simp only[Exit.inBlock,Exit.then]);refine bodyPost_ret (results_none rfl _ _ _) rfl ?_)
  have G3:Kp (Zaf b) w w5:=(Za4 D8.out).trans A9;exact⟨rfl,by rw[HV.out];exact HL.out.rd HR.out G3,by rw[HV.out];exact Bw,G3.item⟩
end Go.Proofs.YtmleeodfmmpdgaaGreatDoor
