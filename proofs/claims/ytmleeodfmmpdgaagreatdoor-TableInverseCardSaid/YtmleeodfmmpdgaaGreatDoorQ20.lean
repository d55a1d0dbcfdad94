/- part -/
import Derived.Test.YtmleeodfmmpdgaaGreatDoorQ18
import Derived.Test.YtmleeodfmmpdgaaGreatDoorQ19
import Derived.Test.YtmleeodfmmpdgaaGreatDoorQ16
set_option maxRecDepth 20000
set_option maxHeartbeats 4000000
namespace Go.Proofs.YtmleeodfmmpdgaaGreatDoor
open Go.RowKit
attribute [local go_sem] Ext.cell Ext.frozen
attribute [local go_sem ↓] Go.wp_at_zero Go.wp_at_succ
open _root_.List (length_cons)
open _root_.Go.Proofs.Tryz
def digL:List UInt8:=[48,49,50,51,52,53,54,55,56,57]
def Zd7 (l:List UInt8):Nat:=(l.takeWhile (digL.contains ·)).length
theorem Zqn (l:List UInt8):Zd7 l≤l.length:=(List.takeWhile_prefix _).length_le
theorem Zwl (l:List UInt8)(hl:l.length≤200000)(w:World):Calls prog 168 #[.string (bs l),.string (bs digL)] w fun e w'=>e= .returned (.int .i64 (Zd7 l:Int))∧Below w.heap.size w w':=by
 have Xm:Hid (∀w,Calls prog 209 #[.string (bs l),.string (bs digL)] w fun e w'=>∃T:ByteArray,e= .returned (.string T)∧(T.size:Int)=(l.length:Int) -(Zd7 l:Int)∧Below w.heap.size w w'):=fun w=>by
  refine(Any.strings_TrimLeft_laid Tryz.lays161 (by kernel_rfl) (bs l) (bs digL) w (by decide) (fun j b h=>?_)).mono ?_
  ·have hm:b∈digL:=List.mem_of_getElem? h;have k:∀b∈digL,b.toNat<128:=by decide
   exact k b hm
  ·rintro e w' ⟨rfl,hb⟩;refine⟨_,rfl,?_,hb⟩;rw[Zcz,Zcz];show((Lib.trimLeftS l digL).toArray.size:Int)=_;rw[List.size_toArray];unfold Lib.trimLeftS;rw[Ztb];have:=Zqn l;unfold Zd7 at this⊢;omega
 have Am:(bs l).size=l.length:=Za5 l;have Em:(bs l).size≤200000:=by omega
 have Pm:=Zqn l;have HS:=Hd Am;generalize hW:Zd7 l=W at *;generalize bs l=S at *;generalize bs digL=I at *;clear Am hW
 go_enter func168,ntmps168
 go_wp2_with fail
 refine(Xm.out _).mono ?_;rintro e w2 ⟨T,rfl,hT,hb⟩;have HB:=Hd hb;have HT:Hid ((S.size:Int) -(T.size:Int)=(W:Int)):=by unfold Hid;rw[hT,HS.out];omega
 have qF:T.size≤200000:=by omega
 clear hT hb
 go_wp2_with fail
 go_ret;exact⟨by rw[←HT.out];rfl,HB.out⟩
theorem Zw4 (c:UInt8):c∈digL↔Lib.digitVal c≠none:=by
 have h:∀n:Fin 256,(UInt8.ofNat n.val∈digL↔Lib.digitVal (UInt8.ofNat n.val)≠none):=by decide+kernel
 have:=h ⟨c.toNat,c.toNat_lt⟩
 simpa using this
theorem Zpj:∀(l:List UInt8) (acc:Nat),Zd7 l=l.length↔Lib.decFrom acc l≠none
 |[],acc=>⟨fun _ h=>(by cases h),fun _=>rfl⟩
 |c::l,acc=>by
  have hm:=Zw4 c;unfold Zd7 Lib.decFrom;rw[List.takeWhile_cons]
  by_cases h:c∈digL
  ·rw[if_pos (by simpa using h)];obtain⟨d,hd⟩:=Option.ne_none_iff_exists'.1 (hm.1 h);rw[hd];have ih:=Zpj l (acc *10+d);unfold Zd7 at ih;rw[←ih,length_cons,length_cons];omega
  ·rw[if_neg (by simpa using h)];have hd:Lib.digitVal c=none:=Classical.byContradiction fun e=>h (hm.2 e);rw[hd];exact⟨fun e=>by simp at e,fun e=>absurd rfl e⟩
def Zhy (l:List UInt8):Bool:=decide (1≤l.length)&&decide (l.length≤6)&&decide (Lib.decFrom 0 l≠none)&& !(decide (1<l.length)&&decide (l.getD 0 0=48))
def Zcn (l:List UInt8):Nat×Bool:=if Zhy l then((Lib.decFrom 0 l).getD 0,true)else(0,false)
def Zla (l:List UInt8):Ending:= .returned (.tuple #[.int .i64 ((Zcn l).1:Int),.bool (Zcn l).2])
theorem Zmi {l:List UInt8} (h:Zhy l=false):Zcn l=(0,false):=by unfold Zcn;rw[h];rfl
theorem Zsz {l:List UInt8} {n:Nat} (h1:1≤l.length)(h6:l.length≤6)(hd:Lib.decFrom 0 l=some n)(hz: ¬(1<l.length∧l.getD 0 0=48)):Zcn l=(n,true):=by
 unfold Zcn Zhy;rw[hd,decide_eq_true h1,decide_eq_true h6];rw[show(decide (1<l.length)&&decide (l.getD 0 0=48))=false by rw[←Bool.decide_and];exact decide_eq_false hz];rfl
theorem Zhw:∀(l:List UInt8) (acc n:Nat),Lib.decFrom acc l=some n→n<(acc+1)*10^l.length
 |[],acc,n,h=>by
  injection h with h;subst h;simp
 |c::l,acc,n,h=>by
  unfold Lib.decFrom at h;split at h
  ·rename_i d hd;have vX:d≤9:=by
    unfold Lib.digitVal at hd;split at hd
    ·injection hd with hd;omega
    ·cases hd
   have ih:=Zhw l _ n h;rw[length_cons,Nat.pow_succ];have h2:(acc *10+d+1)*10^l.length≤((acc+1)*10)*10^l.length:=Nat.mul_le_mul_right _ (by omega);have h3:((acc+1)*10)*10^l.length=(acc+1)*(10^l.length *10):=by rw[Nat.mul_assoc,Nat.mul_comm 10]
   omega
  ·cases h
theorem Zlb:∀(l:List UInt8) (acc k:Nat) (b:UInt8),l[k]? =some b→Lib.digitVal b=none→Lib.decFrom acc l=none
 |[],acc,k,b,h,_=>by simp at h
 |c::l,acc,0,b,h,hb=>by
  simp at h;subst h;unfold Lib.decFrom;rw[hb]
 |c::l,acc,k+1,b,h,hb=>by
  unfold Lib.decFrom;split
  ·exact Zlb l _ k b (by simpa using h) hb
  ·rfl
theorem Ztq {l:List UInt8} {n:Nat} (h1:1≤l.length)(hd:Lib.decFrom 0 l=some n):Lib.atoi l=some (n:Int):=by
 match l,h1 with
 |c::r,_=>
  have hc:Lib.digitVal c≠none:=fun e=>by rw[Zlb (c::r) 0 0 c rfl e]at hd;cases hd
  have Fz:=(Zw4 c).2 hc;have k:∀c∈digL,(c==45)=false∧(c==43)=false:=by decide
  obtain⟨k1,k2⟩:=k c Fz;show(if(c==45)=true then(Lib.decNat r).map fun(m:Nat)=> -(m:Int)else if(c==43)=true then(Lib.decNat r).map fun(m:Nat)=>(m:Int)else(Lib.decNat (c::r)).map fun(m:Nat)=>(m:Int))=some (n:Int);rw[k1,k2];unfold Lib.decNat;rw[hd];rfl
theorem Zxa (l:List UInt8)(hl:l.length≤200000)(w:World):Calls prog 120 #[.string (bs l)] w fun e w'=>e=Zla l∧Below w.heap.size w w':=by
 have Dd:=Hd (fun w=>Zwl l hl w);have Am:(bs l).size=l.length:=Za5 l;have HB:Hid (Below w.heap.size w w):=Below.refl _ _
 by_cases h0:1≤l.length
 rotate_left
 ·have HR:Hid (Zcn l=(0,false)):=Zmi (by unfold Zhy;rw[decide_eq_false h0];rfl);have g0:((bs l).size:Int)<1:=by omega
  generalize bs l=S at *;clear Am h0 Dd
  go_enter func120,ntmps120
  go_wp2_with fail
  exact bodyPost_ret (v:= .tuple #[.int .i64 0,.bool false]) (by simp[results,Tryz.f120,go_sem]) rfl ⟨by unfold Zla;rw[HR.out];rfl,HB.out⟩
 have g0: ¬((bs l).size:Int)<1:=by omega
 by_cases h6:l.length≤6
 rotate_left
 ·have HR:Hid (Zcn l=(0,false)):=Zmi (by unfold Zhy;rw[decide_eq_false h6,Bool.and_false];rfl);have g6:6<((bs l).size:Int):=by omega
  generalize bs l=S at *;clear Am h0 h6 Dd
  go_enter func120,ntmps120
  go_wp2_with fail
  exact bodyPost_ret (v:= .tuple #[.int .i64 0,.bool false]) (by simp[results,Tryz.f120,go_sem]) rfl ⟨by unfold Zla;rw[HR.out];rfl,HB.out⟩
 have g6: ¬6<((bs l).size:Int):=by omega
 by_cases hd:Lib.decFrom 0 l=none
 ·have HR:Hid (Zcn l=(0,false)):=Zmi (by unfold Zhy;rw[decide_eq_false (p:=Lib.decFrom 0 l≠none) (fun h=>h hd),Bool.and_false];rfl);have hn:Zd7 l≠l.length:=fun e=>(Zpj l 0).1 e hd;have m5:(((Zd7 l:Nat):Int)==((bs l).size:Int))=false:=by rw[Am,beq_eq_false_iff_ne];omega
  have m6:(((Zd7 l:Nat):Int) !=((bs l).size:Int))=true:=by unfold bne;rw[m5];rfl
  generalize Zd7 l=D at *;generalize bs l=S at *;clear Am h0 h6 hd hn HB
  go_enter func120,ntmps120
  go_wp2_with fail
  refine(Dd.out _).mono ?_;rintro e w2 ⟨rfl,hb⟩;have HB:=Hd hb;clear hb
  go_wp2_with fail
  exact bodyPost_ret (v:= .tuple #[.int .i64 0,.bool false]) (by simp[results,Tryz.f120,go_sem]) rfl ⟨by unfold Zla;rw[HR.out];rfl,HB.out⟩
 obtain⟨n,hn⟩:=Option.ne_none_iff_exists'.1 hd;have F1:Zd7 l=l.length:=(Zpj l 0).2 hd;have m5:(((Zd7 l:Nat):Int)==((bs l).size:Int))=true:=by rw[Am,F1];simp
 have m6:(((Zd7 l:Nat):Int) !=((bs l).size:Int))=false:=by unfold bne;rw[m5];rfl
 have qO:0<(bs l).size:=by omega
 have Te:∀g:0<(bs l).size,(bs l)[0]'g=l.getD 0 0:=fun g=>Zol l g;have Aa:=Zhw l 0 n hn;have F9:n<1000000:=by
  have:(10:Nat)^l.length≤10^6:=Nat.pow_le_pow_right (by omega) h6;omega
 have Mh:Hid (∀w,Calls prog 178 #[.string (bs l)] w fun e w'=>e= .returned (.tuple #[.int .i64 (n:Int),.nilIface])∧Below w.heap.size w w'):=fun w=>by
  refine(Tryz.strconv_Atoi (bs l) n (by omega) (by rw[Zcz];exact Ztq h0 hn) w).mono ?_;rintro e w' ⟨e0,t,hw⟩;exact⟨e0,by rw[hw];exact Zmz _ _ _⟩
 by_cases h1:1<l.length
 ·have g1:1<((bs l).size:Int):=by omega
  by_cases Ml:l.getD 0 0=48
  ·have HR:Hid (Zcn l=(0,false)):=Zmi (by unfold Zhy;rw[decide_eq_true h1,decide_eq_true Ml];simp);rw[Ml]at Te;generalize Zd7 l=D at *;generalize bs l=S at *;clear Am h0 h6 hd hn F1 Aa Mh h1 Ml HB
   go_enter func120,ntmps120
   go_wp2_with fail
   refine(Dd.out _).mono ?_;rintro e w2 ⟨rfl,hb⟩;have HB:=Hd hb;clear hb
   go_wp2_with fail
   exact bodyPost_ret (v:= .tuple #[.int .i64 0,.bool false]) (by simp[results,Tryz.f120,go_sem]) rfl ⟨by unfold Zla;rw[HR.out];rfl,HB.out⟩
  ·have HR:Hid (Zcn l=(n,true)):=Zsz h0 h6 hn (fun h=>Ml h.2);have g48:(((l.getD 0 0).toNat:Int)==48)=false:=neU Ml;generalize Zd7 l=D at *;generalize l.getD 0 0=ch at *;generalize bs l=S at *;clear Am h0 h6 hd hn F1 Aa h1 Ml HB
   go_enter func120,ntmps120
   go_wp2_with fail
   refine(Dd.out _).mono ?_;rintro e w2 ⟨rfl,hb⟩;have HB:=Hd hb;clear hb
   go_wp2_with fail
   refine(Mh.out _).mono ?_;rintro e w3 ⟨rfl,Ax⟩;have C3:Hid (Below w.heap.size w w3):=HB.out.trans (Ax.mono HB.out.size);clear Ax
   go_wp2_with fail
   go_quiet (fail)
   all_goals
    go_wp2_with fail
    exact bodyPost_ret (v:= .tuple #[.int .i64 (n:Int),.bool true]) (by simp[results,Tryz.f120,go_sem]) rfl ⟨by unfold Zla;rw[HR.out],C3.out.trans ((Zat _ _).mono C3.out.size)⟩
 ·have g1: ¬1<((bs l).size:Int):=by omega
  have HR:Hid (Zcn l=(n,true)):=Zsz h0 h6 hn (fun h=>h1 h.1);generalize Zd7 l=D at *;generalize l.getD 0 0=ch at *;generalize bs l=S at *;clear Am h0 h6 hd hn F1 Aa h1 HB
  go_enter func120,ntmps120
  go_wp2_with fail
  refine(Dd.out _).mono ?_;rintro e w2 ⟨rfl,hb⟩;have HB:=Hd hb;clear hb
  go_wp2_with fail
  refine(Mh.out _).mono ?_;rintro e w3 ⟨rfl,Ax⟩;have C3:Hid (Below w.heap.size w w3):=HB.out.trans (Ax.mono HB.out.size);clear Ax
  go_wp2_with fail
  go_quiet (fail)
  all_goals
   go_wp2_with fail
   exact bodyPost_ret (v:= .tuple #[.int .i64 (n:Int),.bool true]) (by simp[results,Tryz.f120,go_sem]) rfl ⟨by unfold Zla;rw[HR.out],C3.out.trans ((Zat _ _).mono C3.out.size)⟩
theorem Zahr {c:UInt8} (h:Zbo c=true):Zby c=false:=by
 unfold Zbo Zby at *;rw[Bool.and_eq_true,decide_eq_true_eq,decide_eq_true_eq]at h;rw[←Bool.not_eq_true,Bool.and_eq_true,decide_eq_true_eq,decide_eq_true_eq];omega
theorem Zacj {l:List UInt8} {c:UInt8} {r:List UInt8} (h:Zfz l=c::r)(hd:Zbo c=true):∀x∈c::r,Zbo x=true:=by
 cases l with
 |nil=>cases h
 |cons a l=>
  have hl:=Zahr hd;rw[Zfz]at h
  by_cases h1:Zby a=true
  ·rw[if_pos h1,List.takeWhile_cons,if_pos h1]at h;injection h with h2 h3;rw[h2,hl]at h1;cases h1
  ·rw[if_neg h1]at h
   by_cases h2:Zbo a=true
   ·rw[if_pos h2]at h;intro x hx;rw[←h]at hx;exact List.all_eq_true.1 (List.all_takeWhile (p:=Zbo) (l:=a::l)) x hx
   ·rw[if_neg h2]at h;have key:∀m:List UInt8,(∀x∈m,Zbo x=false)→m=c::r→False:=fun m hm e=>by
     have:=hm c (by rw[e];exact List.mem_cons_self);rw[hd]at this;cases this
    have rN:Zbo a=false:=by simpa using h2
    split at h
    ·exact(key _ (by decide) h).elim
    ·split at h
     ·exact(key _ (by decide) h).elim
     ·split at h
      ·exact(key _ (by simp[rN]) h).elim
      ·cases h
theorem Zp7:∀(l:List UInt8) (acc:Nat),(∀x∈l,Zbo x=true)→Lib.decFrom acc l=some (l.foldl (fun n c=>10 *n+(c.toNat - 48)) acc)
 |[],acc,_=>rfl
 |c::l,acc,h=>by
  have hc:=h c List.mem_cons_self;unfold Zbo at hc;rw[Bool.and_eq_true,decide_eq_true_eq,decide_eq_true_eq]at hc;have hd:Lib.digitVal c=some (c.toNat - 48):=by unfold Lib.digitVal;rw[if_pos hc]
  rw[Lib.decFrom,hd];show Lib.decFrom (acc *10+(c.toNat - 48)) l=_;rw[Zp7 l _ (fun x hx=>h x (List.mem_cons_of_mem _ hx)),List.foldl_cons,Nat.mul_comm]
theorem Zy3 {s:List UInt8} {i:Nat} (h:Zg5 (Zag s i)=true):Lib.atoi (Zag s i)=some (Zem (Zag s i):Int)∧(Zag s i).length≤3∧1≤(Zag s i).length∧Zem (Zag s i)≤999:=by
 unfold Zag at *;cases ht:Zfz (s.drop (Zb9 s i))with
 |nil=>rw[ht]at h;cases h
 |cons c r=>
  rw[ht]at h;unfold Zg5 at h;rw[Bool.and_eq_true,Bool.and_eq_true,decide_eq_true_eq]at h;have ha:=Zacj ht h.1.1;have Aa:=Zhw (c::r) 0 _ (Zp7 (c::r) 0 ha);have hp:(10:Nat)^(c::r).length≤10^3:=Nat.pow_le_pow_right (by omega) (by rw[length_cons];omega);refine⟨Ztq (by simp) (Zp7 (c::r) 0 ha),by simp;omega,by simp,?_⟩;unfold Zem;omega
theorem CP.num_no {s:List UInt8} {chk:Int→Int} {p:CP} (h:Zg5 (Zag s p.pos)=false):p.number s chk=(0,(p.skip s).fail 3):=by
 have e: ¬((p.skip s).fail 3).err=0:=CP.fail_e (by decide) _;unfold CP.number;simp only[h,Bool.false_eq_true,if_false,e]
theorem CP.num_err {s:List UInt8} {chk:Int→Int} {p:CP} (he:p.err≠0):p.number s chk=(0,p.skip s):=by
 have e: ¬(p.skip s).err=0:=he;have hf:(p.skip s).fail 3=p.skip s:=by unfold CP.fail;rw[if_neg e]
 unfold CP.number;simp only[hf,ite_self,e,if_false]
theorem CP.num_ok {s:List UInt8} {chk:Int→Int} {p:CP} (h:Zg5 (Zag s p.pos)=true)(he:p.err=0)(hc:chk (Zem (Zag s p.pos))=0):p.number s chk=((Zem (Zag s p.pos):Int),(p.skip s).adv (Zag s p.pos).length):=by
 have e:(p.skip s).err=0:=he;unfold CP.number;simp only[h,if_true,e,hc]
theorem CP.num_bad {s:List UInt8} {chk:Int→Int} {p:CP} (h:Zg5 (Zag s p.pos)=true)(he:p.err=0)(hc:chk (Zem (Zag s p.pos))≠0):p.number s chk=(0,(p.skip s).fail (chk (Zem (Zag s p.pos)))):=by
 have e:(p.skip s).err=0:=he;unfold CP.number;simp only[h,if_true,e,hc,if_false]
theorem Znm (b:Nat)(S:ByteArray)(p:CP)(w:World)(h:Pq w b S p)(g:Nat)(lb:Array Value)(eg:∀args w,(callFunc g args).run prog w= .ok (.enter g args) w)(chk:Int→Int)
  (hc:∀(n:Nat) W,n≤999→Kp (Zaf b) w W→Calls prog g (#[.int .i64 (n:Int)]++lb) W fun e w'=>e= .returned (.int .i64 (chk n))∧Below W.heap.size W w'):
  Calls prog 340 #[.pointer (some ⟨b,0,none⟩),.func (.func g) #[] lb] w (PqP b S (.int .i64 (p.number S.data.toList chk).1) (p.number S.data.toList chk).2 w):=by
 have HP:=Hd (Zj3 b S p w h);have Xw:=Hd (fun W (g:Pq W b S (p.skip S.data.toList))=>Zgg b S 3 (p.skip S.data.toList) W g);have Tp:=Hd (fun e W (g:Pq W b S (p.skip S.data.toList))=>Zgg b S e (p.skip S.data.toList) W g);have O2:=Hd hc;have Gu:=Hd Zk4;have Em:=Zp8 (s:=S.data.toList) (i:=p.pos) (by rw[Zbm];exact h.2.1);rw[Zbm]at Em;have Cj:=Hd (@CP.num_no S.data.toList chk p);have Ef:=Hd (@CP.num_err S.data.toList chk p);have C6:=Hd (@CP.num_ok S.data.toList chk p);have Mm:=Hd (@CP.num_bad S.data.toList chk p);have Mh:=Hd (@Zy3 S.data.toList p.pos);have Fd:Hid ((p.skip S.data.toList).pos=Zb9 S.data.toList p.pos):=rfl;have J1:Hid ((p.skip S.data.toList).err=p.err):=rfl;have Am:=h.2.2.2;unfold PqP at HP Xw Tp⊢;clear h hc;generalize p.number S.data.toList chk=res at *;generalize Zag S.data.toList p.pos=tk at *;generalize p.skip S.data.toList=q at *;generalize Zb9 S.data.toList p.pos=k0 at *
 go_enter func340,ntmps340
 go_wp2_with fail
 refine HP.out.mono ?_;rintro _ w1 ⟨rfl,Av,At⟩;have Ea:=Hd Av;have HK:=Hd At;obtain⟨c0,c1,_,c3,f1,_,_⟩:=Av.cells;have hb:=Av.lt;clear Av At HP;rw[Fd.out]at c1;cases tk with
 |nil=>
  have Hl:(bs ([]:List UInt8)).toList=[]:=Zd1 _;clear Ef C6 Mm Mh
  go_wp2_with fail
  refine(Xw.out _ Ea.out).mono ?_;rintro _ w3 ⟨rfl,hr,hk⟩;have Aq:=Hd hr;have An:=Hd (HK.out.trans hk);obtain⟨_,_,_,c3,_,_,_⟩:=hr.cells;have M4:((q.fail 3).err==0)=false:=by simpa using CP.fail_e (e:=3) (by decide) q
  have Ao:=Hd (Cj.out rfl);clear hr hk
  go_wp2_with fail
  go_ret;exact⟨by rw[Ao.out];rfl,by rw[Ao.out];exact Aq.out,An.out⟩
 |cons ch r=>
  have Hl:(bs (ch::r)).toList=ch::r:=Zd1 _;have Az:((bs (ch::r)).toList==([]:List UInt8))=false:=by rw[Hl];rfl
  have cE:(bs (ch::r)).toList.isEmpty=false:=by rw[Hl];rfl
  have En:(bs (ch::r)).size=r.length+1:=Za5 _;have Te:∀g,(bs (ch::r))[0]'g=ch:=fun g=>rfl;have Gn:Hid (Zg5 (ch::r)=(Zbo ch&&decide (r.length≤2)&&(r.isEmpty|| !(ch==48)))):=rfl;have Xo:Hid (((ch.toNat:Int)=48)↔ch=48):=⟨fun h=>UInt8.toNat_inj.1 (by show ch.toNat=48;omega),fun h=>by rw[h];rfl⟩;have Gd:Hid (Zg5 (ch::r)=true→∀W,Calls prog 178 #[.string (bs (ch::r))] W fun e w'=>e= .returned (.tuple #[.int .i64 (Zem (ch::r):Int),.nilIface])∧Below W.heap.size W w'):=fun h W=>by
   obtain⟨h1,h2,h3,_⟩:=Mh.out h;refine(Tryz.strconv_Atoi (bs (ch::r)) (Zem (ch::r):Int) (by rw[Za5];omega) (by rw[Zcz];exact h1) W).mono ?_;rintro e w' ⟨e0,t,hw⟩;exact⟨e0,by rw[hw];exact Zmz _ _ _⟩
  have M7:Hid (Zg5 (ch::r)=true→Zem (ch::r)≤999):=fun h=>(Mh.out h).2.2.2;have fV:Hid ((ch::r).length=r.length+1):=rfl;rw[fV.out]at Em;clear Hl Mh;generalize Zg5 (ch::r)=nc at *;generalize Zem (ch::r)=dv at *;generalize bs (ch::r)=TK at *;have cU:0<TK.size:=by omega
  have Lu:=Hd En
  go_wp2_with fail
  refine(Gu.out ch _).mono ?_;rintro _ _ ⟨rfl,rfl⟩;generalize Zbo ch=q1 at *;cases q1 with
  |false=>
   have Tf:Hid (nc=false):=by rw[Hid,Gn.out];rfl
   clear Ef C6 Mm Gd M7 Gn
   go_wp2_with fail
   refine(Xw.out _ Ea.out).mono ?_;rintro _ w3 ⟨rfl,hr,hk⟩;have Aq:=Hd hr;have An:=Hd (HK.out.trans hk);obtain⟨_,_,_,c3,_,_,_⟩:=hr.cells;have M4:((q.fail 3).err==0)=false:=by simpa using CP.fail_e (e:=3) (by decide) q
   have Ao:=Hd (Cj.out Tf.out);clear hr hk
   go_wp2_with fail
   go_ret;exact⟨by rw[Ao.out];rfl,by rw[Ao.out];exact Aq.out,An.out⟩
  |true=>
   by_cases Jk:r.length≤2
   ·have cX: ¬(3:Int)<(TK.size:Int):=by omega
    have fW:decide ((3:Int)<(TK.size:Int))=false:=decide_eq_false cX
    by_cases Mz:r.length=0
    ·have Fs: ¬(1:Int)<(TK.size:Int):=by omega
     have fX:decide ((1:Int)<(TK.size:Int))=false:=decide_eq_false Fs;have Ku:Hid (nc=true):=by
      rw[Hid,Gn.out,decide_eq_true Jk,List.eq_nil_of_length_eq_zero Mz];rfl
     clear Gn En Cj
     by_cases he:q.err=0
     ·have hz:(q.err==0)=true:=by simpa using he
      have fY:(q.err !=0)=false:=by rw[bne,hz];rfl
      have Jj:p.err=0:=by rw[←J1.out];exact he
      have T7:=Hd (Gd.out Ku.out);have fZ:=M7.out Ku.out;rw[he]at c3
      go_wp2_with fail
      refine(T7.out _).mono ?_;rintro _ w2 ⟨rfl,Ii⟩;have Lt:=Hd (Ea.out.below Ii);have A6:=Hd (HK.out.trans (Za4 Ii));clear Ii;have C0:=Hd (O2.out dv _ fZ A6.out)
      by_cases Ij:chk dv=0
      ·have Ao:=Hd (C6.out Ku.out Jj Ij);rw[Hid,Ij]at C0;have M6:Hid (∀W,Pq W b S q→Pq (W.setCell ⟨b,1,none⟩ (.int .i64 ((k0:Int)+(TK.size:Int)))) b S (q.adv TK.size)):=fun W g=>by
        have Xu:k0+TK.size≤S.size:=by rw[Lu.out];exact Em
        have:=g.pos (k0+TK.size) Xu;rw[show((k0+TK.size:Nat):Int)=(k0:Int)+(TK.size:Int) by omega]at this;have e:q.adv TK.size= { q with pos:=k0+TK.size } :=by unfold CP.adv;rw[Fd.out]
        rw[e];exact this
       have T8:TK.size≤200000:=by have:=Lu.out;omega
       clear C6 Mm Ef Gd M7 Ij
       go_wp2_with (go_at_fn g;refine C0.mono ?_;rintro _ w4 ⟨rfl,Dk⟩;have Hn:=Hd (Lt.out.below Dk);have Bh:=Hd (A6.out.trans (Za4 Dk));obtain⟨_,d1,_,d3,g1,_,_⟩:=Hn.out.cells;rw[Fd.out]at d1;clear Dk)
       go_ret;exact⟨by rw[Ao.out];rfl,by rw[Ao.out];show Pq _ b S (q.adv (r.length+1));rw[←Lu.out];exact M6.out _ Hn.out,Bh.out.set (p:=⟨b,1,none⟩) (Za8 b) _⟩
      ·have Ao:=Hd (Mm.out Ku.out Jj Ij);have Ua:(chk dv==0)=false:=by simpa using Ij
       have gC:(chk dv !=0)=true:=by rw[bne,Ua];rfl
       have Ub:=Hd (Tp.out (chk dv));clear C6 Mm Ef Gd M7
       go_wp2_with (go_at_fn g;refine C0.mono ?_;rintro _ w4 ⟨rfl,Dk⟩;have Hn:=Hd (Lt.out.below Dk);have Bh:=Hd (A6.out.trans (Za4 Dk));clear Dk)
       refine(Ub.out _ Hn.out).mono ?_;rintro _ w5 ⟨rfl,hr,hk⟩;have Cg:=Hd hr;have Bv:=Hd (Bh.out.trans hk);clear hr hk
       go_wp2_with fail
       go_ret;exact⟨by rw[Ao.out];rfl,by rw[Ao.out];exact Cg.out,Bv.out⟩
     ·have Jj:p.err≠0:=by rw[←J1.out];exact he
      have hz:(q.err==0)=false:=by simpa using he
      have fY:(q.err !=0)=true:=by rw[bne,hz];rfl
      have Ao:=Hd (Ef.out Jj);clear C6 Mm Ef Gd M7
      go_wp2_with fail
      go_ret;exact⟨by rw[Ao.out];rfl,by rw[Ao.out];exact Ea.out,HK.out⟩
    ·have Fs:(1:Int)<(TK.size:Int):=by omega
     have fX:decide ((1:Int)<(TK.size:Int))=true:=decide_eq_true Fs;have Rg:r.isEmpty=false:=by cases r with
      |nil=>exact absurd rfl Mz
      |cons _ _=>rfl
     by_cases Ml:ch=48
     ·have Pr:(ch.toNat:Int)=48:=Xo.out.2 Ml;have gD:((ch.toNat:Int)==48)=true:=by rw[Pr];rfl
      have Tf:Hid (nc=false):=by
       rw[Hid,Gn.out,decide_eq_true Jk,Rg,Ml];rfl
      clear Ef C6 Mm Gd M7 Gn En Ml Pr
      go_wp2_with fail
      refine(Xw.out _ Ea.out).mono ?_;rintro _ w3 ⟨rfl,hr,hk⟩;have Aq:=Hd hr;have An:=Hd (HK.out.trans hk);obtain⟨_,_,_,c3,_,_,_⟩:=hr.cells;have M4:((q.fail 3).err==0)=false:=by simpa using CP.fail_e (e:=3) (by decide) q
      have Ao:=Hd (Cj.out Tf.out);clear hr hk
      go_wp2_with fail
      go_ret;exact⟨by rw[Ao.out];rfl,by rw[Ao.out];exact Aq.out,An.out⟩
     ·have Pr: ¬(ch.toNat:Int)=48:=fun h=>Ml (Xo.out.1 h);have gD:((ch.toNat:Int)==48)=false:=by simpa using Pr
      have Ku:Hid (nc=true):=by
       have e48:(ch==48)=false:=by simpa using Ml
       rw[Hid,Gn.out,decide_eq_true Jk,Rg,e48];rfl
      clear Gn En Cj
      by_cases he:q.err=0
      ·have hz:(q.err==0)=true:=by simpa using he
       have fY:(q.err !=0)=false:=by rw[bne,hz];rfl
       have Jj:p.err=0:=by rw[←J1.out];exact he
       have T7:=Hd (Gd.out Ku.out);have fZ:=M7.out Ku.out;rw[he]at c3
       go_wp2_with fail
       refine(T7.out _).mono ?_;rintro _ w2 ⟨rfl,Ii⟩;have Lt:=Hd (Ea.out.below Ii);have A6:=Hd (HK.out.trans (Za4 Ii));clear Ii;have C0:=Hd (O2.out dv _ fZ A6.out)
       by_cases Ij:chk dv=0
       ·have Ao:=Hd (C6.out Ku.out Jj Ij);rw[Hid,Ij]at C0;have M6:Hid (∀W,Pq W b S q→Pq (W.setCell ⟨b,1,none⟩ (.int .i64 ((k0:Int)+(TK.size:Int)))) b S (q.adv TK.size)):=fun W g=>by
         have Xu:k0+TK.size≤S.size:=by rw[Lu.out];exact Em
         have:=g.pos (k0+TK.size) Xu;rw[show((k0+TK.size:Nat):Int)=(k0:Int)+(TK.size:Int) by omega]at this;have e:q.adv TK.size= { q with pos:=k0+TK.size } :=by unfold CP.adv;rw[Fd.out]
         rw[e];exact this
        have T8:TK.size≤200000:=by have:=Lu.out;omega
        clear C6 Mm Ef Gd M7 Ij
        go_wp2_with (go_at_fn g;refine C0.mono ?_;rintro _ w4 ⟨rfl,Dk⟩;have Hn:=Hd (Lt.out.below Dk);have Bh:=Hd (A6.out.trans (Za4 Dk));obtain⟨_,d1,_,d3,g1,_,_⟩:=Hn.out.cells;rw[Fd.out]at d1;clear Dk)
        go_ret;exact⟨by rw[Ao.out];rfl,by rw[Ao.out];show Pq _ b S (q.adv (r.length+1));rw[←Lu.out];exact M6.out _ Hn.out,Bh.out.set (p:=⟨b,1,none⟩) (Za8 b) _⟩
       ·have Ao:=Hd (Mm.out Ku.out Jj Ij);have Ua:(chk dv==0)=false:=by simpa using Ij
        have gC:(chk dv !=0)=true:=by rw[bne,Ua];rfl
        have Ub:=Hd (Tp.out (chk dv));clear C6 Mm Ef Gd M7
        go_wp2_with (go_at_fn g;refine C0.mono ?_;rintro _ w4 ⟨rfl,Dk⟩;have Hn:=Hd (Lt.out.below Dk);have Bh:=Hd (A6.out.trans (Za4 Dk));clear Dk)
        refine(Ub.out _ Hn.out).mono ?_;rintro _ w5 ⟨rfl,hr,hk⟩;have Cg:=Hd hr;have Bv:=Hd (Bh.out.trans hk);clear hr hk
        go_wp2_with fail
        go_ret;exact⟨by rw[Ao.out];rfl,by rw[Ao.out];exact Cg.out,Bv.out⟩
      ·have Jj:p.err≠0:=by rw[←J1.out];exact he
       have hz:(q.err==0)=false:=by simpa using he
       have fY:(q.err !=0)=true:=by rw[bne,hz];rfl
       have Ao:=Hd (Ef.out Jj);clear C6 Mm Ef Gd M7
       go_wp2_with fail
       go_ret;exact⟨by rw[Ao.out];rfl,by rw[Ao.out];exact Ea.out,HK.out⟩
   ·have cX:(3:Int)<(TK.size:Int):=by omega
    have fW:decide ((3:Int)<(TK.size:Int))=true:=decide_eq_true cX;have Tf:Hid (nc=false):=by
     rw[Hid,Gn.out,decide_eq_false Jk];rfl
    clear Ef C6 Mm Gd M7 Gn En
    go_wp2_with fail
    refine(Xw.out _ Ea.out).mono ?_;rintro _ w3 ⟨rfl,hr,hk⟩;have Aq:=Hd hr;have An:=Hd (HK.out.trans hk);obtain⟨_,_,_,c3,_,_,_⟩:=hr.cells;have M4:((q.fail 3).err==0)=false:=by simpa using CP.fail_e (e:=3) (by decide) q
    have Ao:=Hd (Cj.out Tf.out);clear hr hk
    go_wp2_with fail
    go_ret;exact⟨by rw[Ao.out];rfl,by rw[Ao.out];exact Aq.out,An.out⟩
theorem Kp.setN {P:Nat→Bool} {a w:World} (h:Kp P a w) {p:Addr} (hp:a.heap.size≤p.block)(u:Value):Kp P a (w.setCell p u):=
 h.then (Q:=Zaf p.block) ((Kp.refl _ w).set (Za8 _) u) (fun i hi e=>by
  have:=of_decide_eq_true e;omega)
theorem Pq.other {w:World} {b:Nat} {S:ByteArray} {p:CP} (h:Pq w b S p) {a:Addr} (Az:a.block≠b)(u:Value):Pq (w.setCell a u) b S p:=
 ⟨h.1.kp (P:=Zaf a.block) ((Kp.refl _ w).set (Za8 _) u) (Za1 (fun e=>Az e.symm)),h.2⟩
theorem Cel.other {w:World} {b:Nat} {T:TypeId} {cs:List Value} (h:Cel w b T cs) {a:Addr} (Az:a.block≠b)(u:Value):Cel (w.setCell a u) b T cs:=
 h.kp (P:=Zaf a.block) ((Kp.refl _ w).set (Za8 _) u) (Za1 (fun e=>Az e.symm))
theorem Zxu (o1 o2:Nat)(op:Int)(count:Nat)(n:Nat)(W:World)(h1:W.cell? ⟨o1,0,none⟩=some (.int .i64 op))(h2:W.cell? ⟨o2,0,none⟩=some (.int .i64 (count:Int))):Calls prog 347 #[.int .i64 (n:Int),.pointer (some ⟨o1,0,none⟩),.pointer (some ⟨o2,0,none⟩)] W fun e w'=>e= .returned (.int .i64 (Zds op count n))∧Below W.heap.size W w':=by
 have HG:=Hd (Zlk op);have HV:Hid (Zds op count n=(if Zbe op<(n:Int)then 2 else if 4≤count then 6 else 0)):=rfl;generalize Zds op count n=res at *;generalize Zbe op=gv at *
 by_cases g1:gv<(n:Int)
 ·rw[if_pos g1]at HV;have gd:decide (gv<(n:Int))=true:=decide_eq_true g1
  go_enter func347,ntmps347
  go_wp2_with fail
  refine(HG.out _).mono ?_;rintro _ _ ⟨rfl,rfl⟩
  go_wp2_with fail
  go_ret;exact⟨by rw[HV.out];rfl,Below.refl _ _⟩
 ·rw[if_neg g1]at HV;have gd:decide (gv<(n:Int))=false:=decide_eq_false g1
  by_cases g2:4≤count
  ·rw[if_pos g2]at HV;have g2z:(4:Int)≤(count:Int):=by omega
   have g2d:decide ((4:Int)≤(count:Int))=true:=decide_eq_true g2z
   go_enter func347,ntmps347
   go_wp2_with fail
   refine(HG.out _).mono ?_;rintro _ _ ⟨rfl,rfl⟩
   go_wp2_with fail
   go_ret;exact⟨by rw[HV.out];rfl,Below.refl _ _⟩
  ·rw[if_neg g2]at HV;have g2z: ¬(4:Int)≤(count:Int):=by omega
   have g2d:decide ((4:Int)≤(count:Int))=false:=decide_eq_false g2z
   go_enter func347,ntmps347
   go_wp2_with fail
   refine(HG.out _).mono ?_;rintro _ _ ⟨rfl,rfl⟩
   go_wp2_with fail
   go_ret;exact⟨by rw[HV.out];rfl,Below.refl _ _⟩
theorem Zxx (o1 o2:Nat)(op x:Int)(n:Nat)(W:World)(h1:W.cell? ⟨o1,0,none⟩=some (.int .i64 op))(h2:W.cell? ⟨o2,0,none⟩=some (.int .i64 x)):Calls prog 348 #[.int .i64 (n:Int),.pointer (some ⟨o1,0,none⟩),.pointer (some ⟨o2,0,none⟩)] W fun e w'=>e= .returned (.int .i64 (Zgo op x n))∧Below W.heap.size W w':=by
 have HG:=Hd (Zlk op);have HV:Hid (Zgo op x n=(if Zbe op<(n:Int)∨(n:Int)<x then 2 else 0)):=rfl;generalize Zgo op x n=res at *;generalize Zbe op=gv at *
 by_cases g1:gv<(n:Int)
 ·rw[if_pos (.inl g1)]at HV;have gd:decide (gv<(n:Int))=true:=decide_eq_true g1
  go_enter func348,ntmps348
  go_wp2_with fail
  refine(HG.out _).mono ?_;rintro _ _ ⟨rfl,rfl⟩
  go_wp2_with fail
  go_ret;exact⟨by rw[HV.out];rfl,Below.refl _ _⟩
 ·have gd:decide (gv<(n:Int))=false:=decide_eq_false g1
  by_cases g2:(n:Int)<x
  ·rw[if_pos (.inr g2)]at HV;have g2d:decide ((n:Int)<x)=true:=decide_eq_true g2
   go_enter func348,ntmps348
   go_wp2_with fail
   refine(HG.out _).mono ?_;rintro _ _ ⟨rfl,rfl⟩
   go_wp2_with fail
   go_ret;exact⟨by rw[HV.out];rfl,Below.refl _ _⟩
  ·rw[if_neg (fun h=>h.elim g1 g2)]at HV;have g2d:decide ((n:Int)<x)=false:=decide_eq_false g2
   go_enter func348,ntmps348
   go_wp2_with fail
   refine(HG.out _).mono ?_;rintro _ _ ⟨rfl,rfl⟩
   go_wp2_with fail
   go_ret;exact⟨by rw[HV.out];rfl,Below.refl _ _⟩
theorem Zz9 (b:Nat)(S:ByteArray)(op:Int)(count:Nat)(p:CP)(w:World)(h:Pq w b S p):Calls prog 342 #[.pointer (some ⟨b,0,none⟩),.int .i64 op,.int .i64 (count:Int)] w (PqP b S (.agg #[.int .i64 (CP.span S.data.toList op count p).1.1,.int .i64 (CP.span S.data.toList op count p).1.2]) (CP.span S.data.toList op count p).2 w):=by
 have Gp:∀(fn:Fn) (first cap:Array Value) (w:World),(Instr.makeFunc fn first cap).run prog w= .ok (.func fn first cap) w:=fun _ _ _ _=>rfl;have Ec:Hid (∀W,Pq W b S p→∀o1 o2,o1≠b→o2≠b→W.cell? ⟨o1,0,none⟩=some (.int .i64 op)→W.cell? ⟨o2,0,none⟩=some (.int .i64 (count:Int))→Calls prog 340 #[.pointer (some ⟨b,0,none⟩),.func (.func 347) #[] #[.pointer (some ⟨o1,0,none⟩),.pointer (some ⟨o2,0,none⟩)]] W (PqP b S (.int .i64 (CP.number S.data.toList (Zds op count) p).1) (CP.number S.data.toList (Zds op count) p).2 W)):=fun W g o1 o2 n1 n2 e1 e2=>
  Znm b S p W g 347 _ (enters_of func347 (by kernel_rfl) rfl) (Zds op count) (fun n V _ hk=>Zxu o1 o2 op count n V (hk.cell (Za1 n1) e1) (hk.cell (Za1 n2) e2))
 have Hm:Hid (∀x q W,Pq W b S q→∀o1 o2,o1≠b→o2≠b→W.cell? ⟨o1,0,none⟩=some (.int .i64 op)→W.cell? ⟨o2,0,none⟩=some (.int .i64 x)→Calls prog 340 #[.pointer (some ⟨b,0,none⟩),.func (.func 348) #[] #[.pointer (some ⟨o1,0,none⟩),.pointer (some ⟨o2,0,none⟩)]] W (PqP b S (.int .i64 (CP.number S.data.toList (Zgo op x) q).1) (CP.number S.data.toList (Zgo op x) q).2 W)):=fun x q W g o1 o2 n1 n2 e1 e2=>
  Znm b S q W g 348 _ (enters_of func348 (by kernel_rfl) rfl) (Zgo op x) (fun n V _ hk=>Zxx o1 o2 op x n V (hk.cell (Za1 n1) e1) (hk.cell (Za1 n2) e2))
 have Ao:=Hd (fun q W (g:Pq W b S q)=>Ziy b S [46,46] (by decide) q W g);have HP:=Hd h;have hb:=h.lt;have HV:Hid (CP.span S.data.toList op count p=(if(CP.next S.data.toList [46,46] (CP.number S.data.toList (Zds op count) p).2).1 then((((CP.number S.data.toList (Zds op count) p).1,(CP.number S.data.toList (Zgo op (CP.number S.data.toList (Zds op count) p).1) (CP.next S.data.toList [46,46] (CP.number S.data.toList (Zds op count) p).2).2).1),(CP.number S.data.toList (Zgo op (CP.number S.data.toList (Zds op count) p).1) (CP.next S.data.toList [46,46] (CP.number S.data.toList (Zds op count) p).2).2).2):(Int×Int)×CP)else(((CP.number S.data.toList (Zds op count) p).1,(CP.number S.data.toList (Zds op count) p).1),(CP.next S.data.toList [46,46] (CP.number S.data.toList (Zds op count) p).2).2))):=rfl;unfold PqP at Ec Hm Ao⊢;clear h;generalize CP.span S.data.toList op count p=res at *;generalize CP.number S.data.toList (Zds op count) p=r1 at *;obtain⟨x,p1⟩:=r1;simp only at HV Ec;have Hm:=Hd (Hm.out x);have Ao:=Hd (Ao.out p1);generalize CP.next S.data.toList [46,46] p1=r2 at *
 go_enter func342,ntmps342
 go_upto_region 1 with(fail)
 refine Zlm ?_;intro w0 Mn;have C4:Hid (w0.heap.size=w.heap.size+3):=by rw[Hid,Mn];simp
 have Ay:Hid (Below w.heap.size w w0):=by rw[Mn];exact Bel.alloc (Bel.alloc (Bel.alloc (Bel.refl w) _) _) _
 have C0:Hid (Cel w0 w.heap.size 3 [.int .i64 op]):=by
  rw[Mn];exact((Cel.new w [.int .i64 op] 3).below (Bel.alloc (Bel.refl _) _)).below (Bel.alloc (Bel.refl _) _)
 have Gc:Hid (Cel w0 (w.heap.size+1) 3 [.int .i64 (count:Int)]):=by
  have:=(Cel.new (w.alloc (.cells #[.int .i64 op] 3)) [.int .i64 (count:Int)] 3).below (Bel.alloc (Bel.refl _) (.cells #[.int .i64 0,.int .i64 0] 152));rw[show(w.alloc (.cells #[.int .i64 op] 3)).heap.size=w.heap.size+1 by simp]at this;rw[Mn];exact this
 have Ft:Hid (Cel w0 (w.heap.size+1+1) 152 [.int .i64 0,.int .i64 0]):=by
  have:=Cel.new ((w.alloc (.cells #[.int .i64 op] 3)).alloc (.cells #[.int .i64 (count:Int)] 3)) [.int .i64 0,.int .i64 0] 152;rw[show((w.alloc (.cells #[.int .i64 op] 3)).alloc (.cells #[.int .i64 (count:Int)] 3)).heap.size=w.heap.size+1+1 by simp]at this;rw[Mn];exact this
 have M8:=Hd (HP.out.below Ay.out);clear Mn HP;obtain⟨n0,E6⟩:∃n,w.heap.size=n:=⟨_,rfl⟩;rw[E6]at C0 Gc Ft C4 hb⊢;have E7:=Hd E6;clear E6
 go_wp2_with fail
 refine(Ec.out _ M8.out n0 (n0+1) (by omega) (by omega) (C0.out.cell 0) (Gc.out.cell 0)).mono ?_;rintro _ w1 ⟨rfl,Av,At⟩;have G8:=Hd Av;have Bf:=Hd ((Za4 (P:=Zaf b) Ay.out).trans At);have Xx:=Hd (C0.out.kp At (Za1 (by omega)));have Xy:=Hd (Ft.out.kp At (Za1 (by omega)));have Ba:n0+3≤w1.heap.size:=by have:=At.size;have:=C4.out;omega
 clear Av At Ec C0 Gc Ft M8 Ay
 go_upto_region 4 with(fail)
 have Kz:=Hd (G8.out.below (Bel.alloc (Bel.refl w1) (.cells #[.int .i64 x,.int .i64 x] 152)));have A6:=Hd (Bf.out.alloc (.cells #[.int .i64 x,.int .i64 x] 152));have Xz:=Hd (Xx.out.below (Bel.alloc (Bel.refl w1) (.cells #[.int .i64 x,.int .i64 x] 152)));have X0:=Hd (Xy.out.below (Bel.alloc (Bel.refl w1) (.cells #[.int .i64 x,.int .i64 x] 152)));have C7:Hid (Cel (w1.alloc (.cells #[.int .i64 x,.int .i64 x] 152)) w1.heap.size 152 [.int .i64 x,.int .i64 x]):=Cel.new w1 _ _;generalize w1.alloc (.cells #[.int .i64 x,.int .i64 x] 152)=w2 at *;obtain⟨X,hX⟩:∃X,w1.heap.size=X:=⟨_,rfl⟩;rw[hX]at C7 Ba⊢;clear hX G8 Bf Xx Xy
 go_wp2_with fail
 refine(Ao.out _ Kz.out).mono ?_;rintro _ w3 ⟨rfl,Av,At⟩;obtain⟨more,p2⟩:=r2;simp only at Av HV;have G9:=Hd Av;have An:=Hd (A6.out.trans At);have gE:=Hd (Xz.out.kp At (Za1 (by omega)));have J2:=Hd (X0.out.kp At (Za1 (by omega)));have Bg:=Hd (C7.out.kp At (Za1 (by omega)));clear Av At Kz A6 Xz X0 C7 Ao;have X1:X≠n0+1+1:=by omega
 cases more with
 |true=>
  rw[if_pos rfl]at HV;have x0:=Bg.out.cell 0;have x1:=Bg.out.cell 1;simp only[Le0,Le1]at x0 x1
  go_wp2_with fail
  refine(Hm.out p2 _ G9.out n0 X (by omega) (by omega) (gE.out.cell 0) (Bg.out.cell 0)).mono ?_;generalize CP.number S.data.toList (Zgo op x) p2=r4 at *;obtain⟨y,p4⟩:=r4;simp only at HV⊢;rintro _ w4 ⟨rfl,Av,At⟩;have X2:=Hd Av;have Bh:=Hd (An.out.trans At);have Lv:=Hd (J2.out.kp At (Za1 (by omega)));have Cl:=Hd (Bg.out.kp At (Za1 (by omega)));clear Av At Hm x0 x1;have x0:=Cl.out.cell 0;have x1:=Cl.out.cell 1;have xf:=Cl.out.frz 1;have r0:=Lv.out.cell 0;have r1:=Lv.out.cell 1;have rf0:=Lv.out.frz 0;have rf1:=Lv.out.frz 1;simp only[Le0,Le1]at x0 x1 r0 r1;have Ik:X<w4.heap.size:=Cl.out.lt;have Jk:n0+1+1<w4.heap.size:=Lv.out.lt
  go_wp2_with fail
  refine bodyPost_ret (results_cell_row rfl _ _ (n0+1+1) 152 #[.int .i64 x,.int .i64 y] (0,0) _ rfl ?_ underlying152 rfl (by kernel_rfl)) rfl ?_
  ·exact(((Lv.out.other (a:=⟨X,1,none⟩) X1 (.int .i64 y)).set 0 (.int .i64 x)).set 1 (.int .i64 y))
  ·refine⟨by rw[HV.out],by rw[HV.out];exact((X2.out.other (a:=⟨X,1,none⟩) (by show X≠b;omega) _).other (a:=⟨n0+1+1,0,none⟩) (by show n0+1+1≠b;omega) _).other (a:=⟨n0+1+1,1,none⟩) (by show n0+1+1≠b;omega) _,((Bh.out.setN (p:=⟨X,1,none⟩) (by show w.heap.size≤X;rw[E7.out];omega) _).setN (p:=⟨n0+1+1,0,none⟩) (by show w.heap.size≤n0+1+1;rw[E7.out];omega) _).setN (p:=⟨n0+1+1,1,none⟩) (by show w.heap.size≤n0+1+1;rw[E7.out];omega) _⟩
 |false=>
  rw[if_neg (by simp)]at HV;have x0:=Bg.out.cell 0;have x1:=Bg.out.cell 1;have r0:=J2.out.cell 0;have r1:=J2.out.cell 1;have rf0:=J2.out.frz 0;have rf1:=J2.out.frz 1;simp only[Le0,Le1]at x0 x1 r0 r1;have Ik:X<w3.heap.size:=Bg.out.lt;have Jk:n0+1+1<w3.heap.size:=J2.out.lt
  go_wp2_with fail
  refine bodyPost_ret (results_cell_row rfl _ _ (n0+1+1) 152 #[.int .i64 x,.int .i64 x] (0,0) _ rfl ?_ underlying152 rfl (by kernel_rfl)) rfl ?_
  ·exact((J2.out.set 0 (.int .i64 x)).set 1 (.int .i64 x))
  ·refine⟨by rw[HV.out],by rw[HV.out];exact(G9.out.other (a:=⟨n0+1+1,0,none⟩) (by show n0+1+1≠b;omega) _).other (a:=⟨n0+1+1,1,none⟩) (by show n0+1+1≠b;omega) _,(An.out.setN (p:=⟨n0+1+1,0,none⟩) (by show w.heap.size≤n0+1+1;rw[E7.out];omega) _).setN (p:=⟨n0+1+1,1,none⟩) (by show w.heap.size≤n0+1+1;rw[E7.out];omega) _⟩
section
variable {P : Program} {ops : Array Oper} {Q : Exit → Act → World → Prop} {md : Region.Mode} {S : Array Bool → World → Prop}
def Zcq (P:Program)(md:Region.Mode)(ops:Array Oper)(Q:Exit→Act→World→Prop)(S:Array Bool→World→Prop):Nat→Array Bool→Act→World→Prop
 |0,L,a,w=>Region.ready md ops L=[]∧Q .normal a w
 |g+1,L,a,w=>(Region.ready md ops L=[]→Q .normal a w)∧∀i∈Region.ready md ops L,wpOp P ops Q i (fun a' w'=>S (L.setIfInBounds i true) w'∧Zcq P md ops Q S g (L.setIfInBounds i true) a' w') a w
theorem Zoy:∀(g:Nat) (L:Array Bool) (a:Act) (w:World),Zcq P md ops Q S g L a w→wpAny P md ops Q g L a w
 |0,_,_,_,h=>h
 |g+1,_,_,_,h=>⟨h.1,fun i hi=>wpOp_mono (fun a' w' h'=>Zoy g _ a' w' h'.2) (h.2 i hi)⟩
def Zf1 (k:Nat)(S:World→Prop)(L:Array Bool)(w:World):Prop:=L.getD k true=false→S w
def Zf6 (md:Region.Mode)(ops:Array Oper)(k i:Nat):Bool:=match ops[k]? with|some o=>o.after.any fun e=>Region.binds md e&&e.on==i|none=>false
theorem Zt2 {k i:Nat} {oi:Oper} {v:Value} {S:World→Prop} (hi:ops[i]? =some oi)(M9:∀(j:Nat) (o:Oper) cs b,ops[j]? =some o→o.op≠ .select cs b)
  (hQ:∀c a w,Q (.panic c) (a.put oi.dst v) w→Q (.panic c) a w) (Wa:i≠k) (hw:Zf6 md ops k i=true):
  ∀(g:Nat) (L:Array Bool) (a:Act) (w:World),
   (∀j oj,ops[j]? =some oj→j≠i→L.getD j true=false→(∀e∈oj.after,Region.binds md e=true→e.on≠i)→oi.apart ops oj=true)→
   i∈Region.ready md ops L→YieldsIf P ops S oi v a→L.getD k true=false→S w→
   Zcq P md ops Q (Zf1 k S) g (L.setIfInBounds i true) (a.put oi.dst v) w→Zcq P md ops Q (Zf1 k S) (g+1) L a w:=by
 intro g;induction g with
 |zero=>
  intro L a w _ hr hy _ hS H;refine⟨fun h=>(by rw[h]at hr;cases hr),fun j hj=>?_⟩
  by_cases Iy:j=i
  ·subst Iy;exact hy.wpOp hi hS ⟨fun _=>hS,H⟩
  ·have:=ready_mono hj Iy;rw[H.1]at this;cases this
 |succ g ih=>
  intro L a w Iz hr hy nF hS H;refine⟨fun h=>(by rw[h]at hr;cases hr),fun j hj=>?_⟩
  by_cases Iy:j=i
  ·subst Iy;exact hy.wpOp hi hS ⟨fun _=>hS,H⟩
  ·have h1:=H.2 j (ready_mono hj Iy);obtain⟨Na,oj,Ps,Be⟩:=mem_ready.1 hj;have Kv:=(mem_ready.1 hr).1;have Pu:∀e∈oj.after,Region.binds md e=true→e.on≠i:=fun e he hb cY=>by
    have h1:=Be e he hb;rw[cY]at h1;rcases Nat.lt_or_ge i L.size with h'|h'
    ·simp[h']at Kv h1;rw[Kv]at h1;cases h1
    ·simp[Array.getElem?_eq_none h']at h1
   have nG:j≠k:=fun e=>by
    subst e;unfold Zf6 at hw;rw[Ps]at hw;simp only[Array.any_eq_true,Bool.and_eq_true,beq_iff_eq]at hw;obtain⟨x,hx,hb,ho⟩:=hw;exact Pu _ (Array.getElem_mem hx) hb ho
   have gF:(L.setIfInBounds j true).getD k true=false:=by rw[getD_set_ne true nG];exact nF
   have Uc:((L.setIfInBounds i true).setIfInBounds j true).getD k true=false:=by rw[getD_set_ne true nG,getD_set_ne true Wa];exact nF
   have h2:=wpOp_putIf Ps (Iz j oj Ps Iy Na Pu) (fun cs b=>M9 i oi cs b hi) (fun cs b=>M9 j oj cs b Ps) hQ hy h1;have J3:∀m ok,ops[m]? =some ok→m≠i→(L.setIfInBounds j true).getD m true=false→
     (∀e∈ok.after,Region.binds md e=true→e.on≠i)→oi.apart ops ok=true:=fun m ok hm gG Kv Wl=>by
    refine Iz m ok hm gG ?_ Wl
    by_cases Wm:j=m
    ·subst Wm;exact Na
    ·rw[getD_set_ne true Wm]at Kv;exact Kv
   refine wpOp_mono (fun a' w' h3=>?_) h2;have X5:S w':=h3.2.1 Uc;refine⟨fun _=>X5,ih (L.setIfInBounds j true) a' w' J3 (ready_mono hr (Ne.symm Iy)) h3.1 gF X5 ?_⟩;rw[Array.setIfInBounds_comm _ _ Iy];exact h3.2.2
theorem Zv8 {k i:Nat} {oi:Oper} {v:Value} {g:Nat} {L:Array Bool} {a:Act} {w:World} {S:World→Prop} (hi:ops[i]? =some oi)
  (hs:Region.noSelect ops=true) (hf:Region.free md ops L i=true) (hr:(Region.ready md ops L).contains i=true)
  (hQ:∀c a w,Q (.panic c) (a.put oi.dst v) w→Q (.panic c) a w) (hw:Zf6 md ops k i=true) (Wa:i≠k) (hk:L.getD k true=false) (hy:YieldsIf P ops S oi v a) (hS:S w)
  (h:Zcq P md ops Q (Zf1 k S) g (L.setIfInBounds i true) (a.put oi.dst v) w):Zcq P md ops Q (Zf1 k S) (g+1) L a w:=
 Zt2 hi (Region.noSelect_spec hs) hQ Wa hw g L a w (Region.free_spec hi hf) (by simpa using hr) hy hk hS h
def AllReadyG (P:Program)(md:Region.Mode)(ops:Array Oper)(Q:Exit→Act→World→Prop)(S:Array Bool→World→Prop)(g:Nat)(L:Array Bool)(a:Act)(w:World)(rs:List Nat):Prop:=
 ∀i∈rs,wpOp P ops Q i (fun a' w'=>S (L.setIfInBounds i true) w'∧Zcq P md ops Q S g (L.setIfInBounds i true) a' w') a w
theorem AllReadyG.nil {g:Nat} {L:Array Bool} {a:Act} {w:World} :AllReadyG P md ops Q S g L a w []:=fun _ h=>by cases h
theorem AllReadyG.cons {g:Nat} {L:Array Bool} {a:Act} {w:World} {i:Nat} {o:Oper} {rs:List Nat} (ho:ops[i]? =some o)
  (h:∀K':Act→World→Prop,Shut (∀a w,S (L.setIfInBounds i true) w→(S (L.setIfInBounds i true) w→Zcq P md ops Q S g (L.setIfInBounds i true) a w)→K' a w)→if Region.wanted o (yielded ops a.tmps)=true then Oper.wp P o a w K' Q else K' (a.put o.dst undef) w)
  (hs:AllReadyG P md ops Q S g L a w rs):AllReadyG P md ops Q S g L a w (i::rs):=fun j hj=>by
 rcases List.mem_cons.1 hj with rfl|hj
 ·exact wpOp_step ho (fun K' hK=>h K' (fun a w hS hW=>hK a w ⟨hS,hW hS⟩))
 ·exact hs j hj
theorem Zu3 {rs:List Nat} {g:Nat} {L:Array Bool} {a:Act} {w:World} (hr:Region.ready md ops L=rs)(Az:rs≠[])
  (h:AllReadyG P md ops Q S g L a w rs):Zcq P md ops Q S (g+1) L a w:=⟨fun h0=>absurd (hr▸h0) Az,hr▸h⟩
theorem Zcp {L:Array Bool} {a:Act} {w:World} (hr:Region.ready md ops L=[])(h:Q .normal a w):∀g,Zcq P md ops Q S g L a w
 |0=>⟨hr,h⟩
 |_+1=>⟨fun _=>h,by rw[hr];simp⟩
theorem Zbx {id:Nat} {a:Act} {w:World} (k:Nat)(S:World→Prop)(hm:P.follows .mixedOrders=true)(hS:S w.drew)
  (h:S w.drew→Zcq P .any ops Q (Zf1 k S) ops.size (Array.replicate ops.size false) a w.drew):(Code.region id ops true).wp P Q a w:=
 wp_region_any hm (Zoy _ _ _ _ (h hS))
end
section
variable {P : Program} {ops : Array Oper} {Q : Exit → Act → World → Prop} {md : Region.Mode} {S : World → Prop}
theorem Tg {k:Nat} (i:Nat) {o:Oper} {v:Value} {g:Nat} {L:Array Bool} {a b:Act} {w:World} (h:Zcq P md ops Q (Zf1 k S) g (L.setIfInBounds i true) b w)
  (hi:ops[i]? =some o:=by exact rfl) (hs:Region.noSelect ops=true:=by kernel_rfl) (hf:Region.free md ops L i=true:=by kernel_rfl)
  (hr:(Region.ready md ops L).contains i=true:=by kernel_rfl) (hx:Zf6 md ops k i=true:=by kernel_rfl) (hk:i≠k:=by decide) (hl:L.getD k true=false:=by kernel_rfl)
  (hw:Region.wanted o (yielded ops a.tmps)=true:=by kernel_rfl)
  (hy:∀w,S w→(execOp a.eval o).run P w= .ok (.value v) w:=by intro wx A3;go_simp;try with_reducible rfl)
  (hb:a.put o.dst v=b:=by
   conv=>lhs;simp only[Act.put,List.getElem_toArray,List.getElem_cons_succ,List.getElem_cons_zero,List.setIfInBounds_toArray,List.set_cons_zero,List.set_cons_succ]
   try exact rfl)
  (hQ:∀c a w,Q (.panic c) (a.put o.dst v) w→Q (.panic c) a w:=by exact fun _ _ _ h=>h) (hS:S w:=by exact Lw):Zcq P md ops Q (Zf1 k S) (g+1) L a w:=
 Zv8 hi hs hf hr hQ hx hk hl (Or.inl ⟨hw,hy⟩) hS (by rw[hb];exact h)
theorem Ry {k:Nat} (i:Nat) {o:Oper} {g:Nat} {L:Array Bool} {a:Act} {w:World}
  (h:∀K':Act→World→Prop,Shut (∀a w,Zf1 k S (L.setIfInBounds i true) w→(Zf1 k S (L.setIfInBounds i true) w→Zcq P md ops Q (Zf1 k S) g (L.setIfInBounds i true) a w)→K' a w)→if Region.wanted o (yielded ops a.tmps)=true then Oper.wp P o a w K' Q else K' (a.put o.dst undef) w)
  (ho:ops[i]? =some o:=by exact rfl) (hr:Region.ready md ops L=[i]:=by kernel_rfl):Zcq P md ops Q (Zf1 k S) (g+1) L a w:=
 Zu3 hr (List.cons_ne_nil _ _) (AllReadyG.cons ho h AllReadyG.nil)
end
end Go.Proofs.YtmleeodfmmpdgaaGreatDoor
