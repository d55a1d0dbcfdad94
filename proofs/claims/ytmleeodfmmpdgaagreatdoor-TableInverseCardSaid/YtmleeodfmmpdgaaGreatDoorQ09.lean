/- part -/
import Derived.Test.YtmleeodfmmpdgaaGreatDoorQ06
import Derived.Test.YtmleeodfmmpdgaaGreatDoorQ07
import Derived.Test.YtmleeodfmmpdgaaGreatDoorQ08
set_option maxRecDepth 20000
set_option maxHeartbeats 8000000
namespace Go.Proofs.YtmleeodfmmpdgaaGreatDoor
open Go.RowKit
attribute [local go_sem] Ext.cell Ext.frozen
attribute [local go_sem ↓] Go.wp_at_zero Go.wp_at_succ
open _root_.List (length_drop takeWhile_cons)
open _root_.Nat (le_refl)
open _root_.Go.Proofs.Tryz
def MaxLen (w:World):Prop:=∃m,w.cell? ⟨1,0,none⟩=some (.int .i64 m)
theorem MaxLen.below {w w':World} (h:MaxLen w)(hb:Below w.heap.size w w'):MaxLen w':=by
 obtain⟨m,h⟩:=h;exact⟨m,(hb.cell (p:=⟨1,0,none⟩) (World.block_lt_of_cell? w _ h)).trans h⟩
def Zep:List UInt8:=[32,9,10,13]
def Zet:List UInt8:=[123,125,59]
def innerL:List UInt8:=[65,66,67,68,69,70,71,72,73,74,75,76,77,78,79,80,81,82,83,84,85,86,87,88,89,90,97,98,99,100,101,102,103,104,105,106,107,108,109,110,111,112,113,114,115,116,117,118,119,120,121,122,48,49,50,51,52,53,54,55,56,57,45,95]
theorem Zl5 (l:List UInt8)(c:UInt8):(c∈l→0≤Lib.indexByte l c)∧(c∉l→Lib.indexByte l c= -1):=by
 induction l with
 |nil=>exact⟨fun h=>(by cases h),fun _=>rfl⟩
 |cons b l ih=>
  unfold Lib.indexByte
  by_cases h:b=c
  ·subst h;rw[beq_self_eq_true,if_pos rfl];exact⟨fun _=>Int.le_refl _,fun h=>absurd (List.mem_cons_self ..) h⟩
  ·rw[if_neg (by simpa using h)];constructor
   ·intro hm;have Tj:c∈l:=(List.mem_cons.1 hm).resolve_left (fun e=>h e.symm);have:=ih.1 Tj;rw[if_neg (by simp only[beq_iff_eq];omega)];omega
   ·intro hm;rw[if_pos (by rw[ih.2 (fun e=>hm (List.mem_cons_of_mem _ e))];rfl)]
theorem Zahz (c:UInt8):((c.toNat:Int).toNat.toUInt8)=c:=by rw[Int.toNat_natCast];simp
theorem Zaav (c:UInt8)(l:List UInt8)(w:World):Calls prog 172 #[.int .u8 (c.toNat:Int),.string (bs l)] w fun e w'=>e= .returned (.bool (decide (c∈l)))∧w=w':=by
 have Fm:=Hd (fun w=>Tryz.strings_IndexByte (bs l) (c.toNat:Int) w);rw[Zcz,Zahz]at Fm
 by_cases h:c∈l
 ·have h1:=(Zl5 l c).1 h;rw[decide_eq_true h];generalize Lib.indexByte l c=ix at *;generalize bs l=S at *
  go_enter func172,ntmps172
  go_wp2_with fail
  refine(Fm.out _).mono ?_;rintro e _ ⟨rfl,rfl⟩
  go_wp2_with fail
  go_ret;exact⟨rfl,rfl⟩
 ·rw[(Zl5 l c).2 h]at Fm;rw[decide_eq_false h];generalize bs l=S at *
  go_enter func172,ntmps172
  go_wp2_with fail
  refine(Fm.out _).mono ?_;rintro e _ ⟨rfl,rfl⟩
  go_wp2_with fail
  go_ret;exact⟨rfl,rfl⟩
def Zab (l:List UInt8):Nat:=(l.takeWhile (innerL.contains ·)).length
theorem Zgs (l:List UInt8):Zab l≤l.length:=(List.takeWhile_prefix _).length_le
theorem Ztb (l:List UInt8)(p:UInt8→Bool):(l.dropWhile p).length=l.length -(l.takeWhile p).length:=by
 have:=congrArg List.length (List.takeWhile_append_dropWhile (p:=p) (l:=l));rw[List.length_append]at this;omega
theorem Zvy (l:List UInt8)(hl:l.length≤200000)(w:World):Calls prog 168 #[.string (bs l),.string (bs innerL)] w fun e w'=>e= .returned (.int .i64 (Zab l:Int))∧Below w.heap.size w w':=by
 have Xm:Hid (∀w,Calls prog 209 #[.string (bs l),.string (bs innerL)] w fun e w'=>∃T:ByteArray,e= .returned (.string T)∧(T.size:Int)=(l.length:Int) -(Zab l:Int)∧Below w.heap.size w w'):=fun w=>by
  refine(Any.strings_TrimLeft_laid Tryz.lays161 (by kernel_rfl) (bs l) (bs innerL) w (by decide) (fun j b h=>?_)).mono ?_
  ·have hm:b∈innerL:=List.mem_of_getElem? h;have k:∀b∈innerL,b.toNat<128:=by decide
   exact k b hm
  ·rintro e w' ⟨rfl,hb⟩;refine⟨_,rfl,?_,hb⟩;rw[Zcz,Zcz];show((Lib.trimLeftS l innerL).toArray.size:Int)=_;rw[List.size_toArray];unfold Lib.trimLeftS;rw[Ztb];have:=Zgs l;unfold Zab at this⊢;omega
 have Am:(bs l).size=l.length:=Za5 l;have Em:(bs l).size≤200000:=by omega
 have Pm:=Zgs l;have HS:=Hd Am;generalize hW:Zab l=W at *;generalize bs l=S at *;generalize bs innerL=I at *;clear Am hW
 go_enter func168,ntmps168
 go_wp2_with fail
 refine(Xm.out _).mono ?_;rintro e w2 ⟨T,rfl,hT,hb⟩;have HB:=Hd hb;have HT:Hid ((S.size:Int) -(T.size:Int)=(W:Int)):=by unfold Hid;rw[hT,HS.out];omega
 have qF:T.size≤200000:=by omega
 clear hT hb
 go_wp2_with fail
 go_ret;exact⟨by rw[←HT.out];rfl,HB.out⟩
def Zb1:Bool→List UInt8→Nat
 |_,[]=>0
 |true,c::r=>if c=10 then 1+Zb1 false r else 1+Zb1 true r
 |false,c::r=>if c∈Zep then 1+Zb1 false r else if c=35 then 1+Zb1 true r else 0
def Zf3 (l:List UInt8):Nat:=(l.takeWhile (· !=10)).length
theorem Zpw:∀r:List UInt8,Zb1 true r=Zf3 r+Zb1 false (r.drop (Zf3 r))
 |[]=>rfl
 |c::r=>by
  by_cases h:c=10
  ·subst h;have e:Zf3 (10::r)=0:=by unfold Zf3;rw[takeWhile_cons,if_neg (by decide)];rfl
   rw[e,List.drop_zero,Zb1,if_pos rfl,Zb1,if_pos (by decide),Nat.zero_add]
  ·have e:Zf3 (c::r)=Zf3 r+1:=by unfold Zf3;rw[takeWhile_cons,if_pos (by simpa using h)];rfl
   rw[e,List.drop_succ_cons,Zb1,if_neg h,Zpw r];omega
theorem Zyt:∀l:List UInt8,(Lib.cut l [10]).1=l.takeWhile (· !=10)
 |[]=>rfl
 |c::l=>by
  have ih:=Zyt l;unfold Lib.cut at ih⊢
  by_cases h:c=10
  ·subst h;have:Lib.index (10::l) [10]=0:=by unfold Lib.index;simp
   rw[this,if_pos (Int.le_refl _)];rfl
  ·have mJ:=Lib.index_ge l [10];have e:Lib.index (c::l) [10]=if Lib.index l [10]== -1 then -1 else Lib.index l [10]+1:=by
    rw[Lib.index];rw[if_neg (by simp only[List.isPrefixOf,Bool.and_true,beq_iff_eq];exact fun e=>h e.symm)]
   have et:(c::l).takeWhile (· !=10)=c::l.takeWhile (· !=10):=by rw[takeWhile_cons,if_pos (by simpa using h)]
   rw[et]
   by_cases hm:Lib.index l [10]= -1
   ·have e2:Lib.index (c::l) [10]= -1:=by rw[e,hm];rfl
    rw[hm,if_neg (by omega)]at ih;rw[e2,if_neg (by omega),←ih]
   ·have e2:Lib.index (c::l) [10]=Lib.index l [10]+1:=by rw[e,if_neg (by simpa using hm)]
    rw[if_pos (by omega)]at ih;rw[e2,if_pos (by omega),←ih,show(Lib.index l [10]+1).toNat=(Lib.index l [10]).toNat+1 by omega];rfl
theorem Zpt (l:List UInt8) {k:Nat} (h:k<l.length)(b:Bool):Zb1 b (l.drop k)=Zb1 b (l.getD k 0::l.drop (k+1)):=by rw[←Zi5 h]
theorem Zwp {c:UInt8} (r:List UInt8)(h:c∈Zep):Zb1 false (c::r)=1+Zb1 false r:=by rw[Zb1,if_pos h]
theorem Zyq (r:List UInt8):Zb1 false (35::r)=Zb1 true (35::r):=by
 have e1:Zb1 false (35::r)=1+Zb1 true r:=by rw[Zb1,if_neg (by decide),if_pos rfl]
 have e2:Zb1 true (35::r)=1+Zb1 true r:=by rw[Zb1,if_neg (by decide)]
 rw[e1,e2]
theorem Zyn {c:UInt8} (r:List UInt8)(h:c∉Zep)(h2:c≠35):Zb1 false (c::r)=0:=by rw[Zb1,if_neg h,if_neg h2]
theorem Zjq:∀(b:Bool) (l:List UInt8),Zb1 b l≤l.length
 |true,[]=>le_refl _
 |false,[]=>le_refl _
 |true,c::r=>by
  have h1:=Zjq true r;have h2:=Zjq false r;rw[Zb1,List.length_cons];split <;> omega
 |false,c::r=>by
  have h1:=Zjq true r;have h2:=Zjq false r;rw[Zb1,List.length_cons];split
  ·omega
  ·split <;> omega
theorem Zabw (l:List UInt8)(w:World)(hl:l.length≤200000)(hM:MaxLen w):Calls prog 173 #[.string (bs l),.string ⟨#[10]⟩] w fun e w'=>∃(D E:ByteArray) (b:Bool),e= .returned (.tuple #[.string D,.string E,.bool b])∧D.size=Zf3 l∧Below w.heap.size w w':=by
 obtain⟨m,hm⟩:=hM;refine(Tryz.strings_Cut (bs l) ⟨#[10]⟩ m w (by rw[Za5];omega) hm).mono ?_;rintro e _ ⟨rfl,k,rfl⟩;refine⟨_,_,_,rfl,?_,Zat _ _⟩;rw[Zcz,show(⟨#[10]⟩:ByteArray).data.toList=[10]from rfl,Zyt];show((l.takeWhile (· !=10)).toArray).size=_;rw[List.size_toArray];rfl
theorem Zabz (l:List UInt8):Zf3 l≤l.length:=(List.takeWhile_prefix _).length_le
theorem Zabp (l:List UInt8)(k0:Nat)(hk:k0≤l.length)(hl:l.length≤200000)(w:World)(hM:MaxLen w):
  Calls prog 116 #[.string (bs l),.int .i64 (k0:Int)] w fun e w'=>e= .returned (.int .i64 ((k0+Zb1 false (l.drop k0):Nat):Int))∧Below w.heap.size w w':=by
 have Am:(bs l).size=l.length:=Za5 l;have Dy:=Hd Am;have Em:(bs l).size≤200000:=by omega
 have Mh:Hid (∀(i:Nat) (g:i<(bs l).size),(bs l)[i]'g=l.getD i 0):=fun i g=>Zol l g;have Th:=Hd (Zjy l);have HM:=Hd (fun w' (h:Below w.heap.size w w')=>hM.below h);have Pn:Hid (∀c w,Calls prog 172 #[.int .u8 (c.toNat:Int),.string ⟨#[32,9,10,13]⟩] w fun e w'=>e= .returned (.bool (decide (c∈Zep)))∧w=w'):=fun c w=>Zaav c Zep w;generalize hS:bs l=S at *;obtain⟨X,hX⟩:∃X,k0+Zb1 false (l.drop k0)=X:=⟨_,rfl⟩;rw[hX];have HX:=Hd hX;clear hS Am hX hM
 go_enter func116,ntmps116
 go_wp2_with fail
 go_loopw [1] (fun i wr=>∃k:Nat,k≤l.length∧i= .int .i64 (k:Int)∧k+Zb1 false (l.drop k)=X∧Below w.heap.size w wr) (fun i _=>l.length -(intOf i).toNat)
 case atStart=>exact⟨k0,hk,rfl,HX.out,Below.refl _ _⟩
 case round=>
  obtain⟨k,hk,rfl,Q5,Ak⟩:=hrel;have Gw:=Hd Q5;have Ac:=Hd Ak;have Bl:=Ak.size;clear Q5 Ak
  by_cases Aa:k<l.length
  ·have V8:k<S.size:=by rw[Dy.out];exact Aa
   have Ci:∀g:k<S.size,S[k]'g=l.getD k 0:=fun g=>Mh.out k g;have hcut:S.extract k S.size=bs (l.drop k):=Th.out k;have Hg:=Hd (fun w h=>Zabw (l.drop k) w (by rw[length_drop];omega) h);have Dc:=Zpt l Aa false;have Wb:=Zpt l Aa true;have Gx:=Zpw (l.drop k);have Xn:=Zabz (l.drop k);have Mz:l.getD k 0≠10→1≤Zf3 (l.drop k):=fun h=>by
    rw[Zi5 Aa];unfold Zf3;rw[takeWhile_cons,if_pos (by simpa using h)];simp
   rw[List.drop_drop]at Gx;rw[length_drop]at Xn;have HI:=Hd (Pn.out (l.getD k 0));have Kw:=Hd Aa;generalize l.getD k 0=c at *
   by_cases hb:c∈Zep
   ·have Ao:Hid (k+1+Zb1 false (l.drop (k+1))=X):=by unfold Hid;rw[←Gw.out,Dc,Zwp _ hb];omega
    rw[decide_eq_true hb]at HI;clear Dc Wb Gx Xn Mz hb
    go_wp2_with fail
    refine(HI.out _).mono ?_;rintro e _ ⟨rfl,rfl⟩
    go_wp2_with fail
    go_roundw
    case rel=>exact⟨k+1,Kw.out,by go_num,Ao.out,Ac.out⟩
    case measure=>have:=Kw.out;simp[intOf];omega
   ·rw[decide_eq_false hb]at HI
    by_cases cH:c=35
    ·subst cH;have Ao:Hid (k+Zf3 (l.drop k)+Zb1 false (l.drop (k+Zf3 (l.drop k)))=X):=by
      unfold Hid;rw[←Gw.out,Dc,Zyq,←Wb,Gx];omega
     have F2:=Hd (Mz (by decide));have mK:=Hd Xn;have vM:Zf3 (l.drop k)≤200000:=by omega
     clear Dc Wb Gx Xn Mz hb;generalize Zf3 (l.drop k)=j at *;generalize bs (l.drop k)=E at *
     go_wp2_with fail
     refine(HI.out _).mono ?_;rintro e _ ⟨rfl,rfl⟩
     go_wp2_with fail
     refine(Hg.out _ (HM.out _ Ac.out)).mono ?_;rintro e w2 ⟨D,E2,b,rfl,hD,Ag⟩;have Ai:Hid (Below w.heap.size w w2):=Ac.out.trans (Ag.mono Bl);have mL:=Hd hD;have vN:D.size≤200000:=by omega
     clear Ag hD
     go_wp2_with fail
     go_roundw
     case rel=>exact⟨k+j,by have:=mK.out;have:=Kw.out;omega,by rw[mL.out];go_num,Ao.out,Ai.out⟩
     case measure=>have:=F2.out;have:=mL.out;have:=Kw.out;simp[intOf];omega
    ·have g35:((c.toNat:Int)==35)=false:=neU cH;have HE:Hid (X=k):=by unfold Hid;rw[←Gw.out,Dc,Zyn _ hb cH];rfl
     clear Dc Wb Gx Xn Mz hb cH
     go_wp2_with fail
     refine(HI.out _).mono ?_;rintro e _ ⟨rfl,rfl⟩
     go_wp2_with fail
     go_ret;exact⟨by rw[HE.out];rfl,Ac.out⟩
  ·obtain rfl:k=l.length:=by omega
   have V8: ¬l.length<S.size:=by rw[Dy.out];omega
   have HE:Hid (X=l.length):=by unfold Hid;rw[←Gw.out,List.drop_length];rfl
   go_wp2_with fail
   go_ret;exact⟨by rw[HE.out];rfl,Ac.out⟩
def TabU (w:World):Prop:=Lib.Utf8Tabs 2 3 w
theorem TabU.below {w w':World} (h:TabU w)(hb:Below w.heap.size w w'):TabU w':=Utf8Tabs_below h hb
theorem Zqu (l:List UInt8)(hl:l.length≤200000)(w:World)(hT:TabU w):Calls prog 197 #[.string (bs l)] w fun e w'=>e= .returned (.bool (Lib.validD l))∧Below w.heap.size w w':=by
 have HV:Hid (Calls prog 249 #[.string (bs l)] w fun e w'=>e= .returned (.bool (Lib.validD l))∧Below w.heap.size w w'):=Any.utf8_ValidString Tryz.lays196 (bs l) w (by rw[Za5];omega) hT;generalize bs l=S at *;generalize Lib.validD l=B at *
 go_enter func197,ntmps197
 go_wp2_with fail
 refine HV.out.mono ?_;rintro e w2 ⟨rfl,hb⟩;have HB:=Hd hb;clear hb
 go_wp2_with fail
 go_ret;exact⟨rfl,HB.out⟩
abbrev Nx:=(Nat×List UInt8×Nat)×Nat×Nat×Nat
def Zbg (i e:Nat):Nx:=((0,[],0),0,i,e)
def Zbj (l:List UInt8)(i:Nat):Nx:=
 match Zbu (l.drop (i+1))with
 |none=>Zbg i 3
 |some n=>
  if(Zay ((l.drop (i+1)).take n)).2.2≠0 then Zbg (i+1+(Zay ((l.drop (i+1)).take n)).2.1) 3
  else if 400<(Zay ((l.drop (i+1)).take n)).1.length then Zbg i 6
  else if Lib.validD (Zay ((l.drop (i+1)).take n)).1=false then Zbg i 4
  else((2,(Zay ((l.drop (i+1)).take n)).1,i),n+2,0,0)
def Zb4 (l:List UInt8)(i:Nat):Nx:=
 if l.getD i 0∈Zet then((3,[l.getD i 0],i),1,0,0)
 else if l.getD i 0=34 then Zbj l i
 else if Zab (l.drop i)=0 then Zbg i 3
 else if 40<Zab (l.drop i)then Zbg i 6
 else((1,(l.drop i).take (Zab (l.drop i)),i),Zab (l.drop i),0,0)
def nxR (x:Nx):Ending:= .returned (.tuple #[.agg #[.int .i64 (x.1.1:Int),.string (bs x.1.2.1),.int .i64 (x.1.2.2:Int)],.int .i64 (x.2.1:Int),.agg #[.int .i64 (x.2.2.1:Int),.int .i64 (x.2.2.2:Int)]])
def Zft (W:World)(B:Nat)(x y z p q:Value):World:=((((W.setCell ⟨B,0,none⟩ x).setCell ⟨B,1,none⟩ y).setCell ⟨B,2,none⟩ z).setCell ⟨B+1,0,none⟩ p).setCell ⟨B+1,1,none⟩ q
theorem Zdi {W:World} {B:Nat} {a b c d e:Value} {T U:TypeId} (h1:W.heap[B]? =some (.cells #[a,b,c] T (0,0)))(h2:W.heap[B+1]? =some (.cells #[d,e] U (0,0)))(x y z p q:Value):
  (Zft W B x y z p q).cell? ⟨B,0,none⟩=some x∧(Zft W B x y z p q).cell? ⟨B,1,none⟩=some y∧(Zft W B x y z p q).cell? ⟨B,2,none⟩=some z∧(Zft W B x y z p q).cell? ⟨B+1,0,none⟩=some p∧(Zft W B x y z p q).cell? ⟨B+1,1,none⟩=some q:=by
 have k1:=Zjj (Zjj (Zjj h1 0 x) 1 y) 2 z;have Az:B≠B+1:=by omega
 have k2:(((W.setCell ⟨B,0,none⟩ x).setCell ⟨B,1,none⟩ y).setCell ⟨B,2,none⟩ z).heap[B+1]? =some (.cells #[d,e] U (0,0)):=by
  rw[Below.heap_setCell _ ⟨B,2,none⟩ _ (B+1) Az.symm,Below.heap_setCell _ ⟨B,1,none⟩ _ (B+1) Az.symm,Below.heap_setCell _ ⟨B,0,none⟩ _ (B+1) Az.symm];exact h2
 have k3:=Zjj (Zjj k2 0 p) 1 q;have k4:(Zft W B x y z p q).heap[B]? =_:=(Below.heap_setCell _ ⟨B+1,1,none⟩ q B Az).trans ((Below.heap_setCell _ ⟨B+1,0,none⟩ p B Az).trans k1);exact⟨(Za2 k4 0).trans rfl,(Za2 k4 1).trans rfl,(Za2 k4 2).trans rfl,(Za2 k3 0).trans rfl,(Za2 k3 1).trans rfl⟩
theorem Zdh {base:Nat} {w W:World} {B:Nat} (h:Below base w W)(hB:base≤B)(x y z p q:Value):Below base w (Zft W B x y z p q):=
 ((((h.setCell (p:=⟨B,0,none⟩) hB x).setCell (p:=⟨B,1,none⟩) hB y).setCell (p:=⟨B,2,none⟩) hB z).setCell (p:=⟨B+1,0,none⟩) (by show base≤B+1;omega) p).setCell (p:=⟨B+1,1,none⟩) (by show base≤B+1;omega) q
theorem Zk0:∀ {l:List UInt8} {k:Nat},Zbu l=some k→k<l.length
 |[],k,h=>by cases h
 |[c],k,h=>by
  by_cases e:c=34
  ·simp[Zbu,e]at h;simp;omega
  ·simp[Zbu,e]at h
 |c::d::r,k,h=>by
  unfold Zbu at h;split at h
  ·injection h with h;simp;omega
  ·split at h
   ·obtain⟨j,h1,rfl⟩:=Option.map_eq_some_iff.1 h;have:=Zk0 h1;simp;omega
   ·obtain⟨j,h1,rfl⟩:=Option.map_eq_some_iff.1 h;have:=Zk0 h1;simp at this⊢;omega
theorem Zrx (l:List UInt8)(i n:Nat):(bs l).extract i (i+n)=bs ((l.drop i).take n):=by rw[Zdz,List.drop_take];congr 2;omega
theorem Zwm (l:List UInt8)(i:Nat)(hi:i<l.length)(hl:l.length≤200000)(w:World)(hT:TabU w):
  Calls prog 174 #[.string (bs l),.int .i64 (i:Int)] w fun e w'=>e=nxR (Zbj l i)∧Below w.heap.size w w':=by
 have Am:(bs l).size=l.length:=Za5 l;have Dy:=Hd Am;have Em:(bs l).size≤200000:=by omega
 have qG:i+1≤(bs l).size:=by omega
 have cK:=Zjy l (i+1);have HT:=Hd (fun w' (h:Below w.heap.size w w')=>hT.below h);have Xo:=Hd (Zrx l (i+1));have F1:(l.drop (i+1)).length=l.length -(i+1):=length_drop ..;have Bb:=Hd (fun w=>Zahm (bs (l.drop (i+1))) w (by rw[Za5];omega));rw[Zcz]at Bb;have HX:Hid (∃X,Zbj l i=X):=⟨_,rfl⟩;cases he:Zbu (l.drop (i+1))with
 |none=>
  have HR:Hid (Zbj l i=Zbg i 3):=by unfold Hid Zbj;rw[he]
  rw[Zq1 he]at Bb;clear he hT F1 Am HX;generalize bs l=S at *;generalize bs (l.drop (i+1))=E at *
  go_enter func174,ntmps174
  go_upto_region 1 with(fail)
  refine Zbs ?_;intro W hW;have KA:Hid (W.heap[w.heap.size]? =some (.cells #[.int .i64 0,.string ⟨#[]⟩,.int .i64 0] 109 (0,0))):=by rw[hW];exact(Below.heap_alloc _ _ _ (by simp)).trans (Zc1 _ _ _)
  have KB:Hid (W.heap[w.heap.size+1]? =some (.cells #[.int .i64 0,.int .i64 0] 111 (0,0))):=by rw[hW];exact Zdp _ _ _ _
  have Ay:Hid (Below w.heap.size w W):=by rw[hW];exact((Below.refl _ _).alloc (le_refl _) _).alloc (by simp) _
  clear hW
  go_wp2_with fail
  refine(Bb.out _).mono ?_;rintro e _ ⟨rfl,rfl⟩;have a0:=Za2 KA.out 0;have a1:=Za2 KA.out 1;have a2:=Za2 KA.out 2;have b0:=Za2 KB.out 0;have b1:=Za2 KB.out 1;have fa0:=Za6 KA.out 0;have fa1:=Za6 KA.out 1;have fa2:=Za6 KA.out 2;have fb0:=Za6 KB.out 0;have fb1:=Za6 KB.out 1
  go_wp2_with fail
  obtain⟨y0,y1,y2,y3,y4⟩:=Zdi KA.out KB.out (.int .i64 0) (.string ⟨#[]⟩) (.int .i64 0) (.int .i64 (i:Int)) (.int .i64 3);simp only[Zft]at y0 y1 y2 y3 y4;exact bodyPost_ret (v:= .tuple #[.agg #[.int .i64 0,.string ⟨#[]⟩,.int .i64 0],.int .i64 0,.agg #[.int .i64 (i:Int),.int .i64 3]]) (by simp[results,Tryz.f174,go_sem,y0,y1,y2,y3,y4]) rfl ⟨by rw[HR.out];simp only[nxR,Zbg];rfl,Zdh Ay.out (le_refl _) _ _ _ _ _⟩
 |some n=>
  have hn:=Zk0 he;rw[F1]at hn;rw[Zr0 he]at Bb;have vO:i+1+n≤(bs l).size:=by omega
  have Ov:=Xo.out n;have Q6:=Zo7 ((l.drop (i+1)).take n);rw[List.length_take,F1]at Q6;have Mx:=Hd (fun w=>Zte ((l.drop (i+1)).take n) w (by rw[List.length_take,F1];omega));have HQ:Hid (Zbj l i=if(Zay ((l.drop (i+1)).take n)).2.2≠0 then Zbg (i+1+(Zay ((l.drop (i+1)).take n)).2.1) 3
    else if 400<(Zay ((l.drop (i+1)).take n)).1.length then Zbg i 6
    else if Lib.validD (Zay ((l.drop (i+1)).take n)).1=false then Zbg i 4
    else((2,(Zay ((l.drop (i+1)).take n)).1,i),n+2,0,0)):=by unfold Hid Zbj;rw[he]
  have F9:n≤200000:=by omega
  clear he hT F1 Am HX Xo;generalize Zay ((l.drop (i+1)).take n)=X at *;generalize bs ((l.drop (i+1)).take n)=U at *;generalize bs (l.drop (i+1))=E at *;generalize bs l=S at *;obtain⟨x1,x2,x3⟩:=X;simp only at Mx HQ Q6;have Tl:(bs x1).size=x1.length:=Za5 x1;have eV:x1.length≤200000:=by omega
  have qH:x2≤200000:=by omega
  have Ow:=Hd (fun w h=>Zqu x1 eV w h)
  by_cases h3:x3=0
  rotate_left
  ·have HR:Hid (Zbj l i=Zbg (i+1+x2) 3):=by unfold Hid;rw[HQ.out,if_pos h3]
   have vP:((x3:Int)==0)=false:=by simp only[beq_eq_false_iff_ne];omega
   clear HQ h3 Q6
   go_enter func174,ntmps174
   go_upto_region 1 with(fail)
   refine Zbs ?_;intro W hW;have KA:Hid (W.heap[w.heap.size]? =some (.cells #[.int .i64 0,.string ⟨#[]⟩,.int .i64 0] 109 (0,0))):=by rw[hW];exact(Below.heap_alloc _ _ _ (by simp)).trans (Zc1 _ _ _)
   have KB:Hid (W.heap[w.heap.size+1]? =some (.cells #[.int .i64 0,.int .i64 0] 111 (0,0))):=by rw[hW];exact Zdp _ _ _ _
   have Ay:Hid (Below w.heap.size w W):=by rw[hW];exact((Below.refl _ _).alloc (le_refl _) _).alloc (by simp) _
   clear hW
   go_wp2_with fail
   refine(Bb.out _).mono ?_;rintro e _ ⟨rfl,rfl⟩
   go_wp2_with fail
   refine(Mx.out _).mono ?_;rintro e w2 ⟨rfl,Ag⟩;have Ex:w.heap.size<W.heap.size:=(Array.getElem?_eq_some_iff.1 KA.out).1;have Ey:w.heap.size+1<W.heap.size:=(Array.getElem?_eq_some_iff.1 KB.out).1;replace KA:Hid (w2.heap[w.heap.size]? =some (.cells #[.int .i64 0,.string ⟨#[]⟩,.int .i64 0] 109 (0,0))):=(Ag.block w.heap.size Ex).trans KA.out;replace KB:Hid (w2.heap[w.heap.size+1]? =some (.cells #[.int .i64 0,.int .i64 0] 111 (0,0))):=(Ag.block (w.heap.size+1) Ey).trans KB.out;have Ai:Hid (Below w.heap.size w w2):=Ay.out.trans (Ag.mono (by omega));clear Ag Ex Ey;have a0:=Za2 KA.out 0;have a1:=Za2 KA.out 1;have a2:=Za2 KA.out 2;have b0:=Za2 KB.out 0;have b1:=Za2 KB.out 1;have fa0:=Za6 KA.out 0;have fa1:=Za6 KA.out 1;have fa2:=Za6 KA.out 2;have fb0:=Za6 KB.out 0;have fb1:=Za6 KB.out 1
   go_wp2_with fail
   obtain⟨y0,y1,y2,y3,y4⟩:=Zdi KA.out KB.out (.int .i64 0) (.string ⟨#[]⟩) (.int .i64 0) (.int .i64 ((i:Int)+1+(x2:Int))) (.int .i64 3);simp only[Zft]at y0 y1 y2 y3 y4;exact bodyPost_ret (v:= .tuple #[.agg #[.int .i64 0,.string ⟨#[]⟩,.int .i64 0],.int .i64 0,.agg #[.int .i64 ((i:Int)+1+(x2:Int)),.int .i64 3]]) (by simp[results,Tryz.f174,go_sem,y0,y1,y2,y3,y4]) rfl ⟨by rw[HR.out];simp only[nxR,Zbg,Int.natCast_add];rfl,Zdh Ai.out (le_refl _) _ _ _ _ _⟩
  subst h3;rw[if_neg (by decide)]at HQ
  by_cases h4:400<x1.length
  ·have HR:Hid (Zbj l i=Zbg i 6):=by unfold Hid;rw[HQ.out,if_pos h4]
   have eW:400<((bs x1).size:Int):=by omega
   clear HQ h4 Q6 Tl
   go_enter func174,ntmps174
   go_upto_region 1 with(fail)
   refine Zbs ?_;intro W hW;have KA:Hid (W.heap[w.heap.size]? =some (.cells #[.int .i64 0,.string ⟨#[]⟩,.int .i64 0] 109 (0,0))):=by rw[hW];exact(Below.heap_alloc _ _ _ (by simp)).trans (Zc1 _ _ _)
   have KB:Hid (W.heap[w.heap.size+1]? =some (.cells #[.int .i64 0,.int .i64 0] 111 (0,0))):=by rw[hW];exact Zdp _ _ _ _
   have Ay:Hid (Below w.heap.size w W):=by rw[hW];exact((Below.refl _ _).alloc (le_refl _) _).alloc (by simp) _
   clear hW
   go_wp2_with fail
   refine(Bb.out _).mono ?_;rintro e _ ⟨rfl,rfl⟩
   go_wp2_with fail
   refine(Mx.out _).mono ?_;rintro e w2 ⟨rfl,Ag⟩;have Ex:w.heap.size<W.heap.size:=(Array.getElem?_eq_some_iff.1 KA.out).1;have Ey:w.heap.size+1<W.heap.size:=(Array.getElem?_eq_some_iff.1 KB.out).1;replace KA:Hid (w2.heap[w.heap.size]? =some (.cells #[.int .i64 0,.string ⟨#[]⟩,.int .i64 0] 109 (0,0))):=(Ag.block w.heap.size Ex).trans KA.out;replace KB:Hid (w2.heap[w.heap.size+1]? =some (.cells #[.int .i64 0,.int .i64 0] 111 (0,0))):=(Ag.block (w.heap.size+1) Ey).trans KB.out;have Ai:Hid (Below w.heap.size w w2):=Ay.out.trans (Ag.mono (by omega));clear Ag Ex Ey;have a0:=Za2 KA.out 0;have a1:=Za2 KA.out 1;have a2:=Za2 KA.out 2;have b0:=Za2 KB.out 0;have b1:=Za2 KB.out 1;have fa0:=Za6 KA.out 0;have fa1:=Za6 KA.out 1;have fa2:=Za6 KA.out 2;have fb0:=Za6 KB.out 0;have fb1:=Za6 KB.out 1
   go_wp2_with fail
   obtain⟨y0,y1,y2,y3,y4⟩:=Zdi KA.out KB.out (.int .i64 0) (.string ⟨#[]⟩) (.int .i64 0) (.int .i64 (i:Int)) (.int .i64 6);simp only[Zft]at y0 y1 y2 y3 y4;exact bodyPost_ret (v:= .tuple #[.agg #[.int .i64 0,.string ⟨#[]⟩,.int .i64 0],.int .i64 0,.agg #[.int .i64 (i:Int),.int .i64 6]]) (by simp[results,Tryz.f174,go_sem,y0,y1,y2,y3,y4]) rfl ⟨by rw[HR.out];simp only[nxR,Zbg];rfl,Zdh Ai.out (le_refl _) _ _ _ _ _⟩
  have eW: ¬400<((bs x1).size:Int):=by omega
  rw[if_neg h4]at HQ;cases hv:Lib.validD x1
  ·have HR:Hid (Zbj l i=Zbg i 4):=by unfold Hid;rw[HQ.out,if_pos hv]
   rw[hv]at Ow;clear HQ h4 Q6 Tl hv
   go_enter func174,ntmps174
   go_upto_region 1 with(fail)
   refine Zbs ?_;intro W hW;have KA:Hid (W.heap[w.heap.size]? =some (.cells #[.int .i64 0,.string ⟨#[]⟩,.int .i64 0] 109 (0,0))):=by rw[hW];exact(Below.heap_alloc _ _ _ (by simp)).trans (Zc1 _ _ _)
   have KB:Hid (W.heap[w.heap.size+1]? =some (.cells #[.int .i64 0,.int .i64 0] 111 (0,0))):=by rw[hW];exact Zdp _ _ _ _
   have Ay:Hid (Below w.heap.size w W):=by rw[hW];exact((Below.refl _ _).alloc (le_refl _) _).alloc (by simp) _
   clear hW
   go_wp2_with fail
   refine(Bb.out _).mono ?_;rintro e _ ⟨rfl,rfl⟩
   go_wp2_with fail
   refine(Mx.out _).mono ?_;rintro e w2 ⟨rfl,Ag⟩;have Ex:w.heap.size<W.heap.size:=(Array.getElem?_eq_some_iff.1 KA.out).1;have Ey:w.heap.size+1<W.heap.size:=(Array.getElem?_eq_some_iff.1 KB.out).1;replace KA:Hid (w2.heap[w.heap.size]? =some (.cells #[.int .i64 0,.string ⟨#[]⟩,.int .i64 0] 109 (0,0))):=(Ag.block w.heap.size Ex).trans KA.out;replace KB:Hid (w2.heap[w.heap.size+1]? =some (.cells #[.int .i64 0,.int .i64 0] 111 (0,0))):=(Ag.block (w.heap.size+1) Ey).trans KB.out;have Ai:Hid (Below w.heap.size w w2):=Ay.out.trans (Ag.mono (by omega));clear Ag Ex Ey
   go_wp2_with fail
   refine(Ow.out _ (HT.out _ Ai.out)).mono ?_;rintro e w3 ⟨rfl,Ax⟩;have Ex:w.heap.size<w2.heap.size:=(Array.getElem?_eq_some_iff.1 KA.out).1;have Ey:w.heap.size+1<w2.heap.size:=(Array.getElem?_eq_some_iff.1 KB.out).1;replace KA:Hid (w3.heap[w.heap.size]? =some (.cells #[.int .i64 0,.string ⟨#[]⟩,.int .i64 0] 109 (0,0))):=(Ax.block w.heap.size Ex).trans KA.out;replace KB:Hid (w3.heap[w.heap.size+1]? =some (.cells #[.int .i64 0,.int .i64 0] 111 (0,0))):=(Ax.block (w.heap.size+1) Ey).trans KB.out;have C3:Hid (Below w.heap.size w w3):=Ai.out.trans (Ax.mono (by omega));clear Ax Ex Ey;have a0:=Za2 KA.out 0;have a1:=Za2 KA.out 1;have a2:=Za2 KA.out 2;have b0:=Za2 KB.out 0;have b1:=Za2 KB.out 1;have fa0:=Za6 KA.out 0;have fa1:=Za6 KA.out 1;have fa2:=Za6 KA.out 2;have fb0:=Za6 KB.out 0;have fb1:=Za6 KB.out 1
   go_wp2_with fail
   obtain⟨y0,y1,y2,y3,y4⟩:=Zdi KA.out KB.out (.int .i64 0) (.string ⟨#[]⟩) (.int .i64 0) (.int .i64 (i:Int)) (.int .i64 4);simp only[Zft]at y0 y1 y2 y3 y4;exact bodyPost_ret (v:= .tuple #[.agg #[.int .i64 0,.string ⟨#[]⟩,.int .i64 0],.int .i64 0,.agg #[.int .i64 (i:Int),.int .i64 4]]) (by simp[results,Tryz.f174,go_sem,y0,y1,y2,y3,y4]) rfl ⟨by rw[HR.out];simp only[nxR,Zbg];rfl,Zdh C3.out (le_refl _) _ _ _ _ _⟩
  ·have HR:Hid (Zbj l i=((2,x1,i),n+2,0,0)):=by unfold Hid;rw[HQ.out,if_neg (by rw[hv];decide)]
   rw[hv]at Ow;clear HQ h4 Q6 Tl hv
   go_enter func174,ntmps174
   go_upto_region 1 with(fail)
   refine Zbs ?_;intro W hW;have KA:Hid (W.heap[w.heap.size]? =some (.cells #[.int .i64 0,.string ⟨#[]⟩,.int .i64 0] 109 (0,0))):=by rw[hW];exact(Below.heap_alloc _ _ _ (by simp)).trans (Zc1 _ _ _)
   have KB:Hid (W.heap[w.heap.size+1]? =some (.cells #[.int .i64 0,.int .i64 0] 111 (0,0))):=by rw[hW];exact Zdp _ _ _ _
   have Ay:Hid (Below w.heap.size w W):=by rw[hW];exact((Below.refl _ _).alloc (le_refl _) _).alloc (by simp) _
   clear hW
   go_wp2_with fail
   refine(Bb.out _).mono ?_;rintro e _ ⟨rfl,rfl⟩
   go_wp2_with fail
   refine(Mx.out _).mono ?_;rintro e w2 ⟨rfl,Ag⟩;have Ex:w.heap.size<W.heap.size:=(Array.getElem?_eq_some_iff.1 KA.out).1;have Ey:w.heap.size+1<W.heap.size:=(Array.getElem?_eq_some_iff.1 KB.out).1;replace KA:Hid (w2.heap[w.heap.size]? =some (.cells #[.int .i64 0,.string ⟨#[]⟩,.int .i64 0] 109 (0,0))):=(Ag.block w.heap.size Ex).trans KA.out;replace KB:Hid (w2.heap[w.heap.size+1]? =some (.cells #[.int .i64 0,.int .i64 0] 111 (0,0))):=(Ag.block (w.heap.size+1) Ey).trans KB.out;have Ai:Hid (Below w.heap.size w w2):=Ay.out.trans (Ag.mono (by omega));clear Ag Ex Ey
   go_wp2_with fail
   refine(Ow.out _ (HT.out _ Ai.out)).mono ?_;rintro e w3 ⟨rfl,Ax⟩;have Ex:w.heap.size<w2.heap.size:=(Array.getElem?_eq_some_iff.1 KA.out).1;have Ey:w.heap.size+1<w2.heap.size:=(Array.getElem?_eq_some_iff.1 KB.out).1;replace KA:Hid (w3.heap[w.heap.size]? =some (.cells #[.int .i64 0,.string ⟨#[]⟩,.int .i64 0] 109 (0,0))):=(Ax.block w.heap.size Ex).trans KA.out;replace KB:Hid (w3.heap[w.heap.size+1]? =some (.cells #[.int .i64 0,.int .i64 0] 111 (0,0))):=(Ax.block (w.heap.size+1) Ey).trans KB.out;have C3:Hid (Below w.heap.size w w3):=Ai.out.trans (Ax.mono (by omega));clear Ax Ex Ey;have a0:=Za2 KA.out 0;have a1:=Za2 KA.out 1;have a2:=Za2 KA.out 2;have b0:=Za2 KB.out 0;have b1:=Za2 KB.out 1;have fa0:=Za6 KA.out 0;have fa1:=Za6 KA.out 1;have fa2:=Za6 KA.out 2;have fb0:=Za6 KB.out 0;have fb1:=Za6 KB.out 1
   go_wp2_with fail
   obtain⟨y0,y1,y2,y3,y4⟩:=Zdi KA.out KB.out (.int .i64 2) (.string (bs x1)) (.int .i64 (i:Int)) (.int .i64 0) (.int .i64 0);simp only[Zft]at y0 y1 y2 y3 y4;exact bodyPost_ret (v:= .tuple #[.agg #[.int .i64 2,.string (bs x1),.int .i64 (i:Int)],.int .i64 ((n:Int)+2),.agg #[.int .i64 0,.int .i64 0]]) (by simp[results,Tryz.f174,go_sem,y0,y1,y2,y3,y4]) rfl ⟨by rw[HR.out];simp only[nxR,Int.natCast_add];rfl,Zdh C3.out (le_refl _) _ _ _ _ _⟩
theorem Zacy (l:List UInt8)(i:Nat)(hi:i<l.length)(hl:l.length≤200000)(w:World)(hT:TabU w):
  Calls prog 117 #[.string (bs l),.int .i64 (i:Int)] w fun e w'=>e=nxR (Zb4 l i)∧Below w.heap.size w w':=by
 have Am:(bs l).size=l.length:=Za5 l;have Em:(bs l).size≤200000:=by omega
 have qG:i<(bs l).size:=by omega
 have Ci:∀g:i<(bs l).size,(bs l)[i]'g=l.getD i 0:=fun g=>Zol l g;have Hl:(bs l).extract i (i+1)=bs [l.getD i 0]:=Zagg l hi;have cK:=Zjy l i;have Hj:=Hd (Zrx l i);have HT:=Hd (fun w' (h:Below w.heap.size w w')=>hT.below h);have Pn:Hid (∀w,Calls prog 172 #[.int .u8 ((l.getD i 0).toNat:Int),.string ⟨#[123,125,59]⟩] w fun e w'=>e= .returned (.bool (decide (l.getD i 0∈Zet)))∧w=w'):=fun w=>Zaav _ Zet w;have eX:=Hd (fun w h=>Zwm l i hi hl w h);have F1:(l.drop i).length=l.length - i:=length_drop ..;have Dd:Hid (∀w,Calls prog 168 #[.string (bs (l.drop i)),.string ⟨#[65,66,67,68,69,70,71,72,73,74,75,76,77,78,79,80,81,82,83,84,85,86,87,88,89,90,97,98,99,100,101,102,103,104,105,106,107,108,109,110,111,112,113,114,115,116,117,118,119,120,121,122,48,49,50,51,52,53,54,55,56,57,45,95]⟩] w fun e w'=>e= .returned (.int .i64 (Zab (l.drop i):Int))∧Below w.heap.size w w'):=fun w=>Zvy (l.drop i) (by omega) w;have Pm:=Zgs (l.drop i);have HN:Hid (Zb4 l i=if l.getD i 0∈Zet then((3,[l.getD i 0],i),1,0,0)else if l.getD i 0=34 then Zbj l i else if Zab (l.drop i)=0 then Zbg i 3 else if 40<Zab (l.drop i)then Zbg i 6 else((1,(l.drop i).take (Zab (l.drop i)),i),Zab (l.drop i),0,0)):=rfl;have Ov:=Hj.out (Zab (l.drop i));have Jw:Zab (l.drop i)≤200000:=by omega
 have vQ:i+Zab (l.drop i)≤(bs l).size:=by omega
 have vR:i≤200000:=by omega
 clear hT Hj F1 Pm;generalize l.getD i 0=c at *;generalize qI:Zab (l.drop i)=n at *;generalize bs (l.drop i)=E at *;generalize bs l=S at *;clear qI
 by_cases hm:c∈Zet
 ·have HR:Hid (Zb4 l i=((3,[c],i),1,0,0)):=by unfold Hid;rw[HN.out,if_pos hm]
  rw[decide_eq_true hm]at Pn;clear HN hm Am
  go_enter func117,ntmps117
  go_upto_region 1 with(fail)
  refine Zbs ?_;intro W hW;have KA:Hid (W.heap[w.heap.size]? =some (.cells #[.int .i64 0,.string ⟨#[]⟩,.int .i64 0] 109 (0,0))):=by rw[hW];exact(Below.heap_alloc _ _ _ (by simp)).trans (Zc1 _ _ _)
  have KB:Hid (W.heap[w.heap.size+1]? =some (.cells #[.int .i64 0,.int .i64 0] 111 (0,0))):=by rw[hW];exact Zdp _ _ _ _
  have Ay:Hid (Below w.heap.size w W):=by rw[hW];exact((Below.refl _ _).alloc (le_refl _) _).alloc (by simp) _
  clear hW
  go_wp2_with fail
  refine(Pn.out _).mono ?_;rintro e _ ⟨rfl,rfl⟩;have a0:=Za2 KA.out 0;have a1:=Za2 KA.out 1;have a2:=Za2 KA.out 2;have b0:=Za2 KB.out 0;have b1:=Za2 KB.out 1;have fa0:=Za6 KA.out 0;have fa1:=Za6 KA.out 1;have fa2:=Za6 KA.out 2;have fb0:=Za6 KB.out 0;have fb1:=Za6 KB.out 1
  go_wp2_with fail
  obtain⟨y0,y1,y2,y3,y4⟩:=Zdi KA.out KB.out (.int .i64 3) (.string (bs [c])) (.int .i64 (i:Int)) (.int .i64 0) (.int .i64 0);simp only[Zft]at y0 y1 y2 y3 y4;exact bodyPost_ret (v:= .tuple #[.agg #[.int .i64 3,.string (bs [c]),.int .i64 (i:Int)],.int .i64 1,.agg #[.int .i64 0,.int .i64 0]]) (by simp[results,Tryz.f117,go_sem,y0,y1,y2,y3,y4]) rfl ⟨by rw[HR.out];simp only[nxR];rfl,Zdh Ay.out (le_refl _) _ _ _ _ _⟩
 rw[decide_eq_false hm]at Pn;rw[if_neg hm]at HN
 by_cases Fy:c=34
 ·subst Fy;rw[if_pos rfl]at HN;obtain⟨X,hX⟩:∃X,Zbj l i=X:=⟨_,rfl⟩;rw[hX]at HN eX;clear hX hm Am;obtain⟨⟨x1,x2,x3⟩,x4,x5,x6⟩:=X;simp only[nxR]at eX
  go_enter func117,ntmps117
  go_upto_region 1 with(fail)
  refine Zbs ?_;intro W hW;have KA:Hid (W.heap[w.heap.size]? =some (.cells #[.int .i64 0,.string ⟨#[]⟩,.int .i64 0] 109 (0,0))):=by rw[hW];exact(Below.heap_alloc _ _ _ (by simp)).trans (Zc1 _ _ _)
  have KB:Hid (W.heap[w.heap.size+1]? =some (.cells #[.int .i64 0,.int .i64 0] 111 (0,0))):=by rw[hW];exact Zdp _ _ _ _
  have Ay:Hid (Below w.heap.size w W):=by rw[hW];exact((Below.refl _ _).alloc (le_refl _) _).alloc (by simp) _
  clear hW
  go_wp2_with fail
  refine(Pn.out _).mono ?_;rintro e _ ⟨rfl,rfl⟩
  go_wp2_with fail
  refine(eX.out _ (HT.out _ Ay.out)).mono ?_;rintro e w2 ⟨rfl,Ag⟩;have Ex:w.heap.size<W.heap.size:=(Array.getElem?_eq_some_iff.1 KA.out).1;have Ey:w.heap.size+1<W.heap.size:=(Array.getElem?_eq_some_iff.1 KB.out).1;replace KA:Hid (w2.heap[w.heap.size]? =some (.cells #[.int .i64 0,.string ⟨#[]⟩,.int .i64 0] 109 (0,0))):=(Ag.block w.heap.size Ex).trans KA.out;replace KB:Hid (w2.heap[w.heap.size+1]? =some (.cells #[.int .i64 0,.int .i64 0] 111 (0,0))):=(Ag.block (w.heap.size+1) Ey).trans KB.out;have Ai:Hid (Below w.heap.size w w2):=Ay.out.trans (Ag.mono (by omega));clear Ag Ex Ey;have a0:=Za2 KA.out 0;have a1:=Za2 KA.out 1;have a2:=Za2 KA.out 2;have b0:=Za2 KB.out 0;have b1:=Za2 KB.out 1;have fa0:=Za6 KA.out 0;have fa1:=Za6 KA.out 1;have fa2:=Za6 KA.out 2;have fb0:=Za6 KB.out 0;have fb1:=Za6 KB.out 1
  go_wp2_with fail
  obtain⟨y0,y1,y2,y3,y4⟩:=Zdi KA.out KB.out (.int .i64 (x1:Int)) (.string (bs x2)) (.int .i64 (x3:Int)) (.int .i64 (x5:Int)) (.int .i64 (x6:Int));simp only[Zft]at y0 y1 y2 y3 y4;exact bodyPost_ret (v:= .tuple #[.agg #[.int .i64 (x1:Int),.string (bs x2),.int .i64 (x3:Int)],.int .i64 (x4:Int),.agg #[.int .i64 (x5:Int),.int .i64 (x6:Int)]]) (by simp[results,Tryz.f117,go_sem,y0,y1,y2,y3,y4]) rfl ⟨by rw[HN.out];simp only[nxR],Zdh Ai.out (le_refl _) _ _ _ _ _⟩
 have g34:((c.toNat:Int)==34)=false:=neU Fy;rw[if_neg Fy]at HN
 by_cases h0:n=0
 ·have HR:Hid (Zb4 l i=Zbg i 3):=by unfold Hid;rw[HN.out,if_pos h0]
  have qJ:(n:Int)=0:=by omega
  clear HN hm Am Fy h0
  go_enter func117,ntmps117
  go_upto_region 1 with(fail)
  refine Zbs ?_;intro W hW;have KA:Hid (W.heap[w.heap.size]? =some (.cells #[.int .i64 0,.string ⟨#[]⟩,.int .i64 0] 109 (0,0))):=by rw[hW];exact(Below.heap_alloc _ _ _ (by simp)).trans (Zc1 _ _ _)
  have KB:Hid (W.heap[w.heap.size+1]? =some (.cells #[.int .i64 0,.int .i64 0] 111 (0,0))):=by rw[hW];exact Zdp _ _ _ _
  have Ay:Hid (Below w.heap.size w W):=by rw[hW];exact((Below.refl _ _).alloc (le_refl _) _).alloc (by simp) _
  clear hW
  go_wp2_with fail
  refine(Pn.out _).mono ?_;rintro e _ ⟨rfl,rfl⟩
  go_wp2_with fail
  refine(Dd.out _).mono ?_;rintro e w2 ⟨rfl,Ag⟩;have Ex:w.heap.size<W.heap.size:=(Array.getElem?_eq_some_iff.1 KA.out).1;have Ey:w.heap.size+1<W.heap.size:=(Array.getElem?_eq_some_iff.1 KB.out).1;replace KA:Hid (w2.heap[w.heap.size]? =some (.cells #[.int .i64 0,.string ⟨#[]⟩,.int .i64 0] 109 (0,0))):=(Ag.block w.heap.size Ex).trans KA.out;replace KB:Hid (w2.heap[w.heap.size+1]? =some (.cells #[.int .i64 0,.int .i64 0] 111 (0,0))):=(Ag.block (w.heap.size+1) Ey).trans KB.out;have Ai:Hid (Below w.heap.size w w2):=Ay.out.trans (Ag.mono (by omega));clear Ag Ex Ey;have a0:=Za2 KA.out 0;have a1:=Za2 KA.out 1;have a2:=Za2 KA.out 2;have b0:=Za2 KB.out 0;have b1:=Za2 KB.out 1;have fa0:=Za6 KA.out 0;have fa1:=Za6 KA.out 1;have fa2:=Za6 KA.out 2;have fb0:=Za6 KB.out 0;have fb1:=Za6 KB.out 1
  go_wp2_with fail
  obtain⟨y0,y1,y2,y3,y4⟩:=Zdi KA.out KB.out (.int .i64 0) (.string ⟨#[]⟩) (.int .i64 0) (.int .i64 (i:Int)) (.int .i64 3);simp only[Zft]at y0 y1 y2 y3 y4;exact bodyPost_ret (v:= .tuple #[.agg #[.int .i64 0,.string ⟨#[]⟩,.int .i64 0],.int .i64 0,.agg #[.int .i64 (i:Int),.int .i64 3]]) (by simp[results,Tryz.f117,go_sem,y0,y1,y2,y3,y4]) rfl ⟨by rw[HR.out];simp only[nxR,Zbg];rfl,Zdh Ai.out (le_refl _) _ _ _ _ _⟩
 have qJ:((n:Int)==0)=false:=by simp only[beq_eq_false_iff_ne];omega
 rw[if_neg h0]at HN
 by_cases mM:40<n
 ·have HR:Hid (Zb4 l i=Zbg i 6):=by unfold Hid;rw[HN.out,if_pos mM]
  have eW:40<(n:Int):=by omega
  clear HN hm Am Fy h0
  go_enter func117,ntmps117
  go_upto_region 1 with(fail)
  refine Zbs ?_;intro W hW;have KA:Hid (W.heap[w.heap.size]? =some (.cells #[.int .i64 0,.string ⟨#[]⟩,.int .i64 0] 109 (0,0))):=by rw[hW];exact(Below.heap_alloc _ _ _ (by simp)).trans (Zc1 _ _ _)
  have KB:Hid (W.heap[w.heap.size+1]? =some (.cells #[.int .i64 0,.int .i64 0] 111 (0,0))):=by rw[hW];exact Zdp _ _ _ _
  have Ay:Hid (Below w.heap.size w W):=by rw[hW];exact((Below.refl _ _).alloc (le_refl _) _).alloc (by simp) _
  clear hW
  go_wp2_with fail
  refine(Pn.out _).mono ?_;rintro e _ ⟨rfl,rfl⟩
  go_wp2_with fail
  refine(Dd.out _).mono ?_;rintro e w2 ⟨rfl,Ag⟩;have Ex:w.heap.size<W.heap.size:=(Array.getElem?_eq_some_iff.1 KA.out).1;have Ey:w.heap.size+1<W.heap.size:=(Array.getElem?_eq_some_iff.1 KB.out).1;replace KA:Hid (w2.heap[w.heap.size]? =some (.cells #[.int .i64 0,.string ⟨#[]⟩,.int .i64 0] 109 (0,0))):=(Ag.block w.heap.size Ex).trans KA.out;replace KB:Hid (w2.heap[w.heap.size+1]? =some (.cells #[.int .i64 0,.int .i64 0] 111 (0,0))):=(Ag.block (w.heap.size+1) Ey).trans KB.out;have Ai:Hid (Below w.heap.size w w2):=Ay.out.trans (Ag.mono (by omega));clear Ag Ex Ey;have a0:=Za2 KA.out 0;have a1:=Za2 KA.out 1;have a2:=Za2 KA.out 2;have b0:=Za2 KB.out 0;have b1:=Za2 KB.out 1;have fa0:=Za6 KA.out 0;have fa1:=Za6 KA.out 1;have fa2:=Za6 KA.out 2;have fb0:=Za6 KB.out 0;have fb1:=Za6 KB.out 1
  go_wp2_with fail
  obtain⟨y0,y1,y2,y3,y4⟩:=Zdi KA.out KB.out (.int .i64 0) (.string ⟨#[]⟩) (.int .i64 0) (.int .i64 (i:Int)) (.int .i64 6);simp only[Zft]at y0 y1 y2 y3 y4;exact bodyPost_ret (v:= .tuple #[.agg #[.int .i64 0,.string ⟨#[]⟩,.int .i64 0],.int .i64 0,.agg #[.int .i64 (i:Int),.int .i64 6]]) (by simp[results,Tryz.f117,go_sem,y0,y1,y2,y3,y4]) rfl ⟨by rw[HR.out];simp only[nxR,Zbg];rfl,Zdh Ai.out (le_refl _) _ _ _ _ _⟩
 have eW: ¬40<(n:Int):=by omega
 have HR:Hid (Zb4 l i=((1,(l.drop i).take n,i),n,0,0)):=by unfold Hid;rw[HN.out,if_neg mM]
 obtain⟨V,hV⟩:∃V,bs ((l.drop i).take n)=V:=⟨_,rfl⟩;have HV:=Hd hV;rw[hV]at Ov;clear HN hm Am Fy h0 hV
 go_enter func117,ntmps117
 go_upto_region 1 with(fail)
 refine Zbs ?_;intro W hW;have KA:Hid (W.heap[w.heap.size]? =some (.cells #[.int .i64 0,.string ⟨#[]⟩,.int .i64 0] 109 (0,0))):=by rw[hW];exact(Below.heap_alloc _ _ _ (by simp)).trans (Zc1 _ _ _)
 have KB:Hid (W.heap[w.heap.size+1]? =some (.cells #[.int .i64 0,.int .i64 0] 111 (0,0))):=by rw[hW];exact Zdp _ _ _ _
 have Ay:Hid (Below w.heap.size w W):=by rw[hW];exact((Below.refl _ _).alloc (le_refl _) _).alloc (by simp) _
 clear hW
 go_wp2_with fail
 refine(Pn.out _).mono ?_;rintro e _ ⟨rfl,rfl⟩
 go_wp2_with fail
 refine(Dd.out _).mono ?_;rintro e w2 ⟨rfl,Ag⟩;have Ex:w.heap.size<W.heap.size:=(Array.getElem?_eq_some_iff.1 KA.out).1;have Ey:w.heap.size+1<W.heap.size:=(Array.getElem?_eq_some_iff.1 KB.out).1;replace KA:Hid (w2.heap[w.heap.size]? =some (.cells #[.int .i64 0,.string ⟨#[]⟩,.int .i64 0] 109 (0,0))):=(Ag.block w.heap.size Ex).trans KA.out;replace KB:Hid (w2.heap[w.heap.size+1]? =some (.cells #[.int .i64 0,.int .i64 0] 111 (0,0))):=(Ag.block (w.heap.size+1) Ey).trans KB.out;have Ai:Hid (Below w.heap.size w w2):=Ay.out.trans (Ag.mono (by omega));clear Ag Ex Ey;have a0:=Za2 KA.out 0;have a1:=Za2 KA.out 1;have a2:=Za2 KA.out 2;have b0:=Za2 KB.out 0;have b1:=Za2 KB.out 1;have fa0:=Za6 KA.out 0;have fa1:=Za6 KA.out 1;have fa2:=Za6 KA.out 2;have fb0:=Za6 KB.out 0;have fb1:=Za6 KB.out 1
 go_wp2_with fail
 obtain⟨y0,y1,y2,y3,y4⟩:=Zdi KA.out KB.out (.int .i64 1) (.string V) (.int .i64 (i:Int)) (.int .i64 0) (.int .i64 0);simp only[Zft]at y0 y1 y2 y3 y4;exact bodyPost_ret (v:= .tuple #[.agg #[.int .i64 1,.string V,.int .i64 (i:Int)],.int .i64 (n:Int),.agg #[.int .i64 0,.int .i64 0]]) (by simp[results,Tryz.f117,go_sem,y0,y1,y2,y3,y4]) rfl ⟨by rw[HR.out];simp only[nxR];rw[HV.out];rfl,Zdh Ai.out (le_refl _) _ _ _ _ _⟩
end Go.Proofs.YtmleeodfmmpdgaaGreatDoor
