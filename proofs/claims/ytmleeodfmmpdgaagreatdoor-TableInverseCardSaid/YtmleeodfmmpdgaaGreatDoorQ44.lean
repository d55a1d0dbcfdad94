/- Plain: the text of a table that is read is not much longer than what was read. -/
import Derived.Test.YtmleeodfmmpdgaaGreatDoorQ43
namespace Go.Proofs.YtmleeodfmmpdgaaGreatDoor
open Go.RowKit
open _root_.List (length_append length_cons length_nil length_singleton map_cons map_nil mem_cons not_mem_nil sum_cons sum_nil)
open _root_.Nat (le_refl le_trans zero_le)
def wT (l:List Tz):Nat:=(l.map fun t=>t.2.1.length+1).sum
theorem Zvb (t:Tz)(l:List Tz):wT (t::l)=t.2.1.length+1+wT l:=by unfold wT;rw[map_cons,sum_cons]
theorem Zt7 {E k:Int} (hk:k≠0) {r:RS} (h:(r.take E k).2.e=0):wT (r.take E k).2.l+((r.take E k).1.length+1)=wT r.l:=by
 obtain⟨_,t,l,hl,_,e⟩:=Zas hk h;rw[e];show wT r.l.tail+(t.2.1.length+1)=wT r.l;rw[hl,Zvb,List.tail_cons];omega
theorem Ze9 {E:Int} {r:RS} (h:(r.word E).2.e=0):wT (r.word E).2.l+((r.word E).1.length+1)=wT r.l:=Zt7 (by decide) h
theorem Zo4 {E:Int} {r:RS} (h:(r.text E).2.e=0):wT (r.text E).2.l+((r.text E).1.length+1)=wT r.l:=Zt7 (by decide) h
theorem Zf5 {E:Int} {s:List UInt8} {r:RS} (h:(r.mark E s).e=0):wT (r.mark E s).l+(s.length+1)=wT r.l:=by
 unfold RS.mark at h⊢;cases hi:r.is E 3 s with
 |false=>
  rw[hi,if_neg (by decide)]at h;exact absurd (Zas (by decide) h).1 (RS.fail_e E (by decide) r)
 |true=>
  rw[hi,if_pos rfl]at h;rw[if_pos rfl];obtain⟨_,_,h3⟩:=RS.is_kind hi;have hw:=Zt7 (by decide) h;obtain⟨_,t,l,hl,_,e⟩:=Zas (by decide) h;rw[Zb8 hl]at h3;rw[e]at hw⊢;rw[←h3];exact hw
theorem texts_len (E:Int):∀(n:Nat) (out:List ByteArray) (r:RS),(RS.texts E n out r).1.length=out.length+n
 |0,_,_=>rfl
 |n+1,out,r=>by
  rw[RS.texts,texts_len E n,length_append,length_singleton];omega
def sz1 (l:List ByteArray):Nat:=(l.map fun s=>s.size+1).sum
theorem Zaec (l:List ByteArray)(s:ByteArray):sz1 (l++[s])=sz1 l+(s.size+1):=by unfold sz1;rw[List.map_append,List.sum_append];simp
theorem Zvj {E:Int} :∀(n:Nat) (out:List ByteArray) {r:RS},(RS.texts E n out r).2.e=0→wT (RS.texts E n out r).2.l+sz1 (RS.texts E n out r).1=wT r.l+sz1 out
 |0,_,_,_=>rfl
 |n+1,out,r,h=>by
  have h1:(r.text E).2.e=0:=(Zdj E E n _ _ h).1;have a:=Zo4 h1;have i:=Zvj n _ h;rw[Zaec,Za5]at i;rw[RS.texts];omega
theorem Zky {E:Int} {n:Nat} {r:RS} (h:(RS.texts0 E n r).2.e=0):wT (RS.texts0 E n r).2.l+sz1 (RS.texts0 E n r).1=wT r.l:=Zvj n [] h
theorem Zwx {E:Int} {l:List ByteArray} {r:RS} (h:(r.one E l).2.e=0):wT (r.one E l).2.l+((bs (r.one E l).1).size+1)=wT r.l:=by
 unfold RS.one at h⊢;rw[Za5];cases hc:(decide ((r.peek E).1=1)&& !l.contains (bs (r.peek E).2.1))with
 |true=>
  rw[hc,if_pos rfl]at h;exact absurd (Zas (by decide) h).1 (RS.fail_e E (by decide) r)
 |false=>
  rw[hc,if_neg (by decide)]at h;rw[if_neg (by decide)];exact Ze9 h
theorem Zne {E m:Int} {r:RS} (h:(r.number E m).2.e=0):wT (r.number E m).2.l+1≤wT r.l:=by
 unfold RS.number at h⊢
 by_cases h1:(r.peek E).1=1∧(Zcn (r.peek E).2.1).2=true
 ·rw[if_pos h1]at h⊢
  by_cases h2:m<((Zcn (r.peek E).2.1).1:Int)
  ·rw[if_pos h2]at h;exact absurd (Zas (by decide) h).1 (RS.fail_e E (by decide) r)
  ·rw[if_neg h2]at h⊢;have:=Ze9 h;show wT (r.word E).2.l+1≤wT r.l;omega
 ·rw[if_neg h1]at h;exact absurd (Zas (by decide) h).1 (RS.fail_e E (by decide) r)
theorem Zakf {E:Int} {r:RS} (h:(r.cond E).2.e=0):wT (r.cond E).2.l+1≤wT r.l:=by
 unfold RS.cond at h⊢
 by_cases h1:(r.peek E).1=2
 ·rw[if_pos h1]at h⊢
  by_cases h2:(Zb3 (r.peek E).2.1).2.2=0
  ·rw[if_pos h2]at h⊢;have:=Zo4 h;show wT (r.text E).2.l+1≤wT r.l;omega
  ·rw[if_neg h2]at h;exact absurd (Zas (by decide) h).1 (RS.fail_e E h2 r)
 ·rw[if_neg h1]at h;obtain⟨_,t,q,hl,ht,_⟩:=Zas (by decide) h;rw[Zb8 hl]at h1;exact absurd ht h1
theorem Zaaw {E:Int} {r:RS} (h:(r.rule E).2.e=0):wT (r.rule E).2.l+((r.rule E).1.1.size+4)≤wT r.l:=by
 have h3:((r.one E classL).2.cond E).2.e=0:=(Zaj E E [59] _ h).1;have h2:(r.one E classL).2.e=0:=(Zkk E E _ h3).1;have a:=Zwx h2;have b:=Zakf h3;have c:=Zf5 h;have e:(r.rule E).1.1=bs (r.one E classL).1:=rfl;have e2:(r.rule E).2=((r.one E classL).2.cond E).2.mark E [59]:=rfl;rw[e,e2];rw[length_singleton]at c;omega
theorem Zrw:∀l:List (List UInt8),(Lib.join l [32]).length≤(l.map fun x=>x.length+1).sum
 |[]=>zero_le _
 |[x]=>by rw[Zua];simp
 |x::y::l=>by
  have ih:=Zrw (y::l);rw[Ztj,length_append,length_cons,map_cons,sum_cons];omega
theorem Zin (ind:List UInt8)(l:List (List UInt8)):(Zaw ind l).length≤ind.length+(l.map fun x=>x.length+1).sum+2:=by
 have:=Zrw l;unfold Zaw;simp only[length_append,length_cons,length_nil];omega
theorem Zm2 (s:ByteArray):(qT s).length≤4 *s.size+2:=Zrl (le_refl _)
theorem Zg4 (s:ByteArray):s.data.toList.length=s.size:=rfl
theorem Zio (kw:List UInt8)(ws more:List ByteArray):(Zbb (kw::ws.map (·.data.toList)) more).length≤kw.length+4+sz1 ws+4 *sz1 more:=by
 have:=Zin [9] ((kw::ws.map (·.data.toList))++more.map qT);have e1:((((kw::ws.map (·.data.toList))++more.map qT)).map fun x=>x.length+1).sum≤kw.length+1+sz1 ws+4 *sz1 more:=by
  rw[List.map_append,List.sum_append,map_cons,sum_cons];have h1:((ws.map (·.data.toList)).map fun x=>x.length+1).sum=sz1 ws:=by
   rw[List.map_map];rfl
  have h2:∀l:List ByteArray,((l.map qT).map fun x=>x.length+1).sum≤4 *sz1 l:=fun l=>by
   induction l with
   |nil=>exact le_refl _
   |cons s l ih=>
    have:=Zm2 s;unfold sz1 at ih⊢;rw[map_cons,map_cons,sum_cons,map_cons,sum_cons,Nat.mul_add];omega
  have:=h2 more;rw[h1];omega
 unfold Zbb;rw[length_singleton]at this;omega
theorem Zacw {x:ByteArray×List (List Rel)} (h:Zb7 x=true)(kw:List UInt8):(Zaw [9] [kw,x.1.data.toList,qT (bs (Zad x.2))]).length≤kw.length+x.1.size+344:=by
 obtain⟨_,h2⟩:=Zc8 h;have hl:=(Zl0 h2).2;have hq:(qT (bs (Zad x.2))).length≤338:=by
  unfold qT;rw[show(bs (Zad x.2)).data.toList=Zad x.2 from rfl,Zz3 (Zko h2)];simp only[length_cons,length_append,length_nil];omega
 have:=Zin [9] [kw,x.1.data.toList,qT (bs (Zad x.2))];simp only[map_cons,map_nil,sum_cons,sum_nil,length_singleton,Zg4]at this;omega
def dL (d:ByteArray):Nat:=if d= .empty then 0 else(Zaw [9] [[100,105,114,101,99,116,105,111,110],d.data.toList]).length
def ruL (kw:List UInt8)(l:List (ByteArray×List (List Rel))):Nat:=(Zbt kw l).length
def syL (a b c d:ByteArray)(p q:Int):Nat:=if a= .empty∧b= .empty∧c= .empty∧d= .empty∧p=0∧q=0 then 0 else(Zaw [9] ([[115,121,109,98,111,108,115]]++[a,b,c,d].map qT++[Lib.itoa p,Lib.itoa q])).length
def naL (kw:List UInt8)(l:List ByteArray):Nat:=if l=[]then 0 else(Zbb [kw] l).length
def cardW:List UInt8:=[99,97,114,100,105,110,97,108]
def ordW:List UInt8:=[111,114,100,105,110,97,108]
def Zc6 (y:Lc):Nat:=dL y.dir+ruL cardW y.card+ruL ordW y.ord+syL y.dec y.grp y.mi y.pct y.pri y.sec+(y.lists.flatMap lpT).length+(y.units.flatMap upT).length+(y.dates.flatMap dpT).length+naL [109,111,110,116,104,115] y.months+naL [100,97,121,115] y.days
theorem Zaek (y:Lc):(Zmg y).length=Zc6 y:=by
 have e1:(Zj7 y).length=dL y.dir:=by unfold Zj7 dL;split <;> rfl
 have e2:(if Zdq y then []else Zhk y).length=syL y.dec y.grp y.mi y.pct y.pri y.sec:=by
  unfold Zdq syL
  by_cases h:y.dec= .empty∧y.grp= .empty∧y.mi= .empty∧y.pct= .empty∧y.pri=0∧y.sec=0
  ·rw[decide_eq_true h,if_pos rfl,if_pos h];rfl
  ·rw[decide_eq_false h,if_neg (by decide),if_neg h];rfl
 have e3:∀(kw:List UInt8) (l:List ByteArray),(if l=[]then []else Zbb [kw] l).length=naL kw l:=fun kw l=>by unfold naL;split <;> rfl
 unfold Zmg Zc6;simp only[length_append,e1,e2,e3];rfl
theorem Ze6 {α:Type} (f:α→List UInt8)(l:List α)(x:α):((l++[x]).flatMap f).length=(l.flatMap f).length+(f x).length:=by
 rw[List.flatMap_append,length_append];simp
theorem Zjs (s:ByteArray):sz1 [s]=s.size+1:=by simp[sz1]
theorem Zali (d:ByteArray):dL d≤d.size+14:=by
 unfold dL;split
 ·omega
 ·have:=Zio [100,105,114,101,99,116,105,111,110] [d] [];rw[Zjs]at this;show(Zbb ([100,105,114,101,99,116,105,111,110]::[d].map (·.data.toList)) []).length≤_;have e:sz1 ([]:List ByteArray)=0:=rfl;rw[e]at this;simp only[length_cons,length_nil]at this;omega
theorem Zue (kw:List UInt8)(l:List (ByteArray×List (List Rel))) {x:ByteArray×List (List Rel)} (h:Zb7 x=true):ruL kw (l++[x])≤ruL kw l+(kw.length+x.1.size+344):=by
 have:=Zacw h kw;unfold ruL Zbt;rw[Ze6];omega
theorem Zakg {a b c d:ByteArray} {p q:Int} (hp:0≤p∧p≤9)(hq:0≤q∧q≤9):syL a b c d p q≤55+4 *sz1 [a,b,c,d]:=by
 unfold syL;split
 ·omega
 ·have e0:([[115,121,109,98,111,108,115]]++[a,b,c,d].map qT++[Lib.itoa p,Lib.itoa q]:List (List UInt8))=[[115,121,109,98,111,108,115],qT a,qT b,qT c,qT d,Lib.itoa p,Lib.itoa q]:=rfl;rw[e0];have:=Zin [9] [[115,121,109,98,111,108,115],qT a,qT b,qT c,qT d,Lib.itoa p,Lib.itoa q];have h1:=Zd8 hp.1 (by omega:p≤1000);have h2:=Zd8 hq.1 (by omega:q≤1000);have k1:=Zm2 a;have k2:=Zm2 b;have k3:=Zm2 c;have k4:=Zm2 d;have e:sz1 [a,b,c,d]=a.size+1+(b.size+1+(c.size+1+(d.size+1))):=by simp[sz1]
  simp only[map_cons,map_nil,sum_cons,sum_nil,length_cons,length_nil]at this;rw[e];omega
theorem Zz1 (kw:List UInt8)(l:List ByteArray):naL kw l≤kw.length+4+4 *sz1 l:=by
 unfold naL;split
 ·omega
 ·have:=Zio kw [] l;have e:sz1 ([]:List ByteArray)=0:=rfl;rw[e]at this
  simpa using this
theorem Zaie (x:Lp):(lpT x).length≤8+(x.style.size+1)+4 *sz1 [x.two,x.start,x.mid,x.fin]:=by
 have:=Zio [108,105,115,116] [x.style] [x.two,x.start,x.mid,x.fin];rw[Zjs]at this;exact this
theorem Zagk (x:Up):(upT x).length≤8+(x.unit.size+1+(x.cls.size+1))+4 *(x.pat.size+1):=by
 have:=Zio [117,110,105,116] [x.unit,x.cls] [x.pat];have e:sz1 [x.unit,x.cls]=x.unit.size+1+(x.cls.size+1):=by simp[sz1]
 rw[Zjs,e]at this;exact this
theorem Zagh (x:Dp):(dpT x).length≤8+(x.skel.size+1)+4 *(x.pat.size+1):=by
 have:=Zio [100,97,116,101] [x.skel] [x.pat];rw[Zjs,Zjs]at this;exact this
theorem Zama {E:Int} {r:RS} (h:(r.lp E).2.e=0):wT (r.lp E).2.l+sz1 [(r.lp E).1.two,(r.lp E).1.start,(r.lp E).1.mid,(r.lp E).1.fin]+((r.lp E).1.style.size+1)+2=wT r.l:=by
 have h2:(RS.texts0 E 4 (r.word E).2).2.e=0:=(Zaj E E [59] _ h).1;have h1:(r.word E).2.e=0:=(Zdj E E 4 [] _ h2).1;have a:=Ze9 h1;have b:=Zky h2;have c:=Zf5 h;have hl:=texts_len E 4 [] (r.word E).2;have e:sz1 [gS (RS.texts0 E 4 (r.word E).2).1 0,gS (RS.texts0 E 4 (r.word E).2).1 1,gS (RS.texts0 E 4 (r.word E).2).1 2,gS (RS.texts0 E 4 (r.word E).2).1 3]=sz1 (RS.texts0 E 4 (r.word E).2).1:=by
  have Td:(RS.texts0 E 4 (r.word E).2).1.length=4:=hl;generalize (RS.texts0 E 4 (r.word E).2).1=l at *
  match l,Td with
  |[_,_,_,_],_=>rfl
 show wT ((RS.texts0 E 4 (r.word E).2).2.mark E [59]).l+sz1 [gS (RS.texts0 E 4 (r.word E).2).1 0,gS (RS.texts0 E 4 (r.word E).2).1 1,gS (RS.texts0 E 4 (r.word E).2).1 2,gS (RS.texts0 E 4 (r.word E).2).1 3]+((bs (r.word E).1).size+1)+2=wT r.l;rw[e,Za5];rw[length_singleton]at c;omega
theorem Zalx {E:Int} {r:RS} (h:(r.up E).2.e=0):wT (r.up E).2.l+((r.up E).1.unit.size+1)+((r.up E).1.cls.size+1)+((r.up E).1.pat.size+1)+2=wT r.l:=by
 have h3:(((r.word E).2.one E unitL).2.text E).2.e=0:=(Zaj E E [59] _ h).1;have h2:((r.word E).2.one E unitL).2.e=0:=(Zfm E E _ h3).1;have h1:(r.word E).2.e=0:=(Zi0 E E unitL _ h2).1;have a:=Ze9 h1;have b:=Zwx h2;have c:=Zo4 h3;have d:=Zf5 h;show wT ((((r.word E).2.one E unitL).2.text E).2.mark E [59]).l+((bs (r.word E).1).size+1)+((bs ((r.word E).2.one E unitL).1).size+1)+((bs (((r.word E).2.one E unitL).2.text E).1).size+1)+2=wT r.l;rw[Za5 (r.word E).1,Za5 (((r.word E).2.one E unitL).2.text E).1];rw[length_singleton]at d;omega
theorem Zalw {E:Int} {r:RS} (h:(r.dp E).2.e=0):wT (r.dp E).2.l+((r.dp E).1.skel.size+1)+((r.dp E).1.pat.size+1)+2=wT r.l:=by
 have h3:((r.word E).2.text E).2.e=0:=(Zaj E E [59] _ h).1;have h1:(r.word E).2.e=0:=(Zfm E E _ h3).1;have a:=Ze9 h1;have c:=Zo4 h3;have d:=Zf5 h;show wT (((r.word E).2.text E).2.mark E [59]).l+((bs (r.word E).1).size+1)+((bs ((r.word E).2.text E).1).size+1)+2=wT r.l;rw[Za5,Za5];rw[length_singleton]at d;omega
theorem Zalt {E:Int} {r:RS} (h:(r.sym E).2.e=0):wT (r.sym E).2.l+sz1 [gS (r.sym E).1.1 0,gS (r.sym E).1.1 1,gS (r.sym E).1.1 2,gS (r.sym E).1.1 3]+4≤wT r.l:=by
 have h4:(((RS.texts0 E 4 (r.sym0 E)).2.number E 9).2.number E 9).2.e=0:=(Zaj E E [59] _ h).1;have h3:((RS.texts0 E 4 (r.sym0 E)).2.number E 9).2.e=0:=(Zdw E E 9 _ h4).1;have h2:(RS.texts0 E 4 (r.sym0 E)).2.e=0:=(Zdw E E 9 _ h3).1;have h1:(r.sym0 E).l=r.l:=by
  unfold RS.sym0;split
  ·rw[RS.fail_l]
  ·rfl
 have a:=Zky h2;have b:=Zne h3;have c:=Zne h4;have d:=Zf5 h;rw[h1]at a;have hl:=texts_len E 4 [] (r.sym0 E);have e:sz1 [gS (RS.texts0 E 4 (r.sym0 E)).1 0,gS (RS.texts0 E 4 (r.sym0 E)).1 1,gS (RS.texts0 E 4 (r.sym0 E)).1 2,gS (RS.texts0 E 4 (r.sym0 E)).1 3]=sz1 (RS.texts0 E 4 (r.sym0 E)).1:=by
  have Td:(RS.texts0 E 4 (r.sym0 E)).1.length=4:=hl;generalize (RS.texts0 E 4 (r.sym0 E)).1=l at *
  match l,Td with
  |[_,_,_,_],_=>rfl
 show wT ((((RS.texts0 E 4 (r.sym0 E)).2.number E 9).2.number E 9).2.mark E [59]).l+sz1 [gS (RS.texts0 E 4 (r.sym0 E)).1 0,gS (RS.texts0 E 4 (r.sym0 E)).1 1,gS (RS.texts0 E 4 (r.sym0 E)).1 2,gS (RS.texts0 E 4 (r.sym0 E)).1 3]+4≤wT r.l;rw[e];rw[length_singleton]at d;omega
theorem Zog {s:ByteArray} (h:classL.contains s=true):3≤s.size:=by
 have h1:=List.contains_iff_mem.1 h;simp only[classL,mem_cons,not_mem_nil,or_false]at h1;rcases h1 with rfl|rfl|rfl|rfl|rfl <;> decide
theorem Zakw (E p:Int)(y:Lc)(r:RS)(hz:TkZ r):∀i,(itN i E p y r).2.e=0→Zc6 (itN i E p y r).1+24 *wT (itN i E p y r).2.l≤Zc6 y+24 *wT r.l+(if i=1∨i=2 then 192 else 0)
 |0,h=>by
  obtain⟨h1,h2⟩:=Zf7 h;have h3:(r.one E dirL).2.e=0:=(Zaj E E [59] _ h2).1;have a:=Zwx h3;have b:=Zf5 h2;have c:=Zali (bs (r.one E dirL).1);rw[length_singleton]at b;show Zc6 { y with dir:=bs (r.one E dirL).1 } +24 *wT (RS.once p (Zh1 y.dir) ((r.one E dirL).2.mark E [59])).l≤_;rw[h1,Zjr,if_neg (by decide)];unfold Zc6;dsimp only;omega
 |1,h=>by
  obtain⟨h1,h2,h3⟩:=RS.add_full h;obtain⟨v,_,_⟩:=Zjw hz h3;have a:=Zaaw h3;have b:=Zue cardW y.card v;have d:=Zog (Zc8 v).1;show Zc6 { y with card:=y.card++[(r.rule E).1] } +24 *wT (RS.add p (Zhr y.card (r.rule E).1.1) (Zcc 5 y.card.length) (r.rule E).2).l≤_;rw[h1,h2,Zm5,if_pos (by decide)];unfold Zc6;dsimp only;rw[show cardW.length=8 from rfl]at b;omega
 |2,h=>by
  obtain⟨h1,h2,h3⟩:=RS.add_full h;obtain⟨v,_,_⟩:=Zjw hz h3;have a:=Zaaw h3;have b:=Zue ordW y.ord v;have d:=Zog (Zc8 v).1;show Zc6 { y with ord:=y.ord++[(r.rule E).1] } +24 *wT (RS.add p (Zhr y.ord (r.rule E).1.1) (Zcc 5 y.ord.length) (r.rule E).2).l≤_;rw[h1,h2,Zm5,if_pos (by decide)];unfold Zc6;dsimp only;rw[show ordW.length=7 from rfl]at b;omega
 |3,h=>by
  obtain⟨h1,h2⟩:=Zf7 h;obtain⟨_,_,a3,a4,_,_⟩:=Zvw hz h2;have a:=Zalt h2;have b:=Zakg (a:=gS (r.sym E).1.1 0) (b:=gS (r.sym E).1.1 1) (c:=gS (r.sym E).1.1 2) (d:=gS (r.sym E).1.1 3) a3 a4;show Zc6 { y with dec:=gS (r.sym E).1.1 0,grp:=gS (r.sym E).1.1 1,mi:=gS (r.sym E).1.1 2,pct:=gS (r.sym E).1.1 3,pri:=(r.sym E).1.2.1,sec:=(r.sym E).1.2.2 } +24 *wT (RS.once p (Zh1 y.dec) (r.sym E).2).l≤_;rw[h1,Zjr,if_neg (by decide)];unfold Zc6;dsimp only;omega
 |4,h=>by
  obtain⟨h1,h2,h3⟩:=RS.add_full h;have a:=Zama h3;have b:=Zaie (r.lp E).1;have c:=Ze6 lpT y.lists (r.lp E).1;show Zc6 { y with lists:=y.lists++[(r.lp E).1] } +24 *wT (RS.add p (Zoi y.lists (r.lp E).1.style) (Zcc 10 y.lists.length) (r.lp E).2).l≤_;rw[h1,h2,Zm5,if_neg (by decide)];unfold Zc6;dsimp only;omega
 |5,h=>by
  obtain⟨h1,h2,h3⟩:=RS.add_full h;have a:=Zalx h3;have b:=Zagk (r.up E).1;have c:=Ze6 upT y.units (r.up E).1;show Zc6 { y with units:=y.units++[(r.up E).1] } +24 *wT (RS.add p (Zmp y.units (r.up E).1.unit (r.up E).1.cls) (Zcc 100 y.units.length) (r.up E).2).l≤_;rw[h1,h2,Zm5,if_neg (by decide)];unfold Zc6;dsimp only;omega
 |6,h=>by
  obtain⟨h1,h2,h3⟩:=RS.add_full h;have a:=Zalw h3;have b:=Zagh (r.dp E).1;have c:=Ze6 dpT y.dates (r.dp E).1;show Zc6 { y with dates:=y.dates++[(r.dp E).1] } +24 *wT (RS.add p (Zof y.dates (r.dp E).1.skel) (Zcc 30 y.dates.length) (r.dp E).2).l≤_;rw[h1,h2,Zm5,if_neg (by decide)];unfold Zc6;dsimp only;omega
 |7,h=>by
  obtain⟨h1,h2⟩:=Zf7 h;have h3:(RS.texts0 E 12 r).2.e=0:=(Zaj E E [59] _ h2).1;have a:=Zky h3;have b:=Zf5 h2;have c:=Zz1 [109,111,110,116,104,115] (RS.texts0 E 12 r).1;rw[length_singleton]at b;show Zc6 { y with months:=(RS.texts0 E 12 r).1 } +24 *wT (RS.once p (!decide (y.months.length=0)) ((RS.texts0 E 12 r).2.mark E [59])).l≤_;rw[h1,Zjr,if_neg (by decide)];unfold Zc6;dsimp only;simp only[length_cons,length_nil]at c;omega
 |n+8,h=>by
  obtain⟨h1,h2⟩:=Zf7 h;have h3:(RS.texts0 E 7 r).2.e=0:=(Zaj E E [59] _ h2).1;have a:=Zky h3;have b:=Zf5 h2;have c:=Zz1 [100,97,121,115] (RS.texts0 E 7 r).1;rw[length_singleton]at b;show Zc6 { y with days:=(RS.texts0 E 7 r).1 } +24 *wT (RS.once p (!decide (y.days.length=0)) ((RS.texts0 E 7 r).2.mark E [59])).l≤_;rw[h1,Zjr];unfold Zc6;dsimp only;simp only[length_cons,length_nil]at c;split <;> omega
theorem Zzm {p:Nat→Bool} {n:Nat} (h: ¬Zc2 p n<0):(Zc2 p n).toNat<n∧p (Zc2 p n).toNat=true:=by
 unfold Zc2 at h⊢;cases e:(List.range n).find? p with
 |none=>rw[e]at h;exact absurd (by decide) h
 |some i=>
  have h1:=List.find?_some e;have h2:=List.mem_of_find?_eq_some e;exact⟨List.mem_range.1 h2,h1⟩
theorem Zagw {E:Int} {y:Lc} {r:RS} (hz:TkZ r)(h:(tItem E y r).2.e=0):Zc6 (tItem E y r).1+24 *wT (tItem E y r).2.l≤Zc6 y+24 *wT r.l:=by
 unfold tItem at h⊢;split at h
 ·exact absurd h (RS.fail_e E (by decide) r)
 ·rename_i hi;rw[if_neg hi];obtain⟨_,hp⟩:=Zzm hi;generalize (Zc2 (Zgy (r.peek E)) 9).toNat=i at *;have hw:=Zaez _ _ _ _ _ h;have a:=Ze9 hw;have b:=Zakw E _ y _ (Zc7 hz hw).2.1 i h;have hk:i=1∨i=2→7≤(r.word E).1.length:=fun hi=>by
   unfold Zgy at hp;rw[Bool.and_eq_true,decide_eq_true_eq,decide_eq_true_eq]at hp;obtain⟨_,t,l,hl,ht,e⟩:=Zas (by decide) hw;have e2:(r.word E).1=t.2.1:=by show(r.take E 1).1=_;rw[e]
   rw[Zb8 hl]at hp;have h2:=congrArg (fun s:ByteArray=>s.data.toList) hp.2;have h3:keyL.getD i []=t.2.1:=h2;rw[e2,←h3];rcases hi with rfl|rfl <;> decide
  by_cases Oz:i=1∨i=2
  ·rw[if_pos Oz]at b;have:=hk Oz;omega
  ·rw[if_neg Oz]at b;omega
theorem Zsm {E:Int} :∀(n:Nat) {y:Lc} {r:RS},LocV1 y→TkZ r→(tItems E n y r).2.e=0→Zc6 (tItems E n y r).1+24 *wT (tItems E n y r).2.l≤Zc6 y+24 *wT r.l
 |0,_,_,_,_,_=>le_refl _
 |n+1,y,r,hv,hz,h=>by
  rw[tItems]at h⊢
  by_cases hc:r.e=0∧r.is E 3 [125]=false
  ·rw[if_pos hc]at h⊢;have he:=Zk8 h;obtain⟨a1,a2⟩:=Zq6 hv hz he;exact le_trans (Zsm n a1 a2 h) (Zagw hz he)
  ·rw[if_neg hc];exact le_refl _
theorem Zako {E:Int} {r:RS} (h:(r.head E).2.e=0):wT (r.head E).2.l+((r.head E).1.1.size+1)+(if(r.head E).1.2= .empty then 0 else(r.head E).1.2.size+1)≤wT r.l:=by
 unfold RS.head at h⊢;dsimp only at h⊢
 by_cases hi:(r.word E).2.is E 1 [112,97,114,101,110,116]=true
 ·rw[if_pos hi]at h⊢;have h2:=(Zdd E E _ h).1;have h1:=(Zdd E E _ h2).1;have a:=Ze9 h1;have b:=Ze9 h2;have c:=Ze9 h;dsimp only;rw[Za5,Za5];split <;> omega
 ·rw[if_neg hi]at h⊢;have a:=Ze9 h;dsimp only;rw[if_pos rfl,Za5];omega
theorem Zzf (y:Lc):(Zgk y).length≤10+y.tag.size+(if y.par= .empty then 0 else 8+y.par.size):=by
 unfold Zgk;simp only[length_append,length_cons,length_nil,Zg4];split
 ·simp only[length_nil];omega
 ·simp only[length_append,length_cons,length_nil,Zg4];omega
theorem Zagl (E p:Int)(y:Lc)(r:RS):∀i,(itN i E p y r).1.tag=y.tag∧(itN i E p y r).1.par=y.par
 |0=>⟨rfl,rfl⟩
 |1=>⟨rfl,rfl⟩
 |2=>⟨rfl,rfl⟩
 |3=>⟨rfl,rfl⟩
 |4=>⟨rfl,rfl⟩
 |5=>⟨rfl,rfl⟩
 |6=>⟨rfl,rfl⟩
 |7=>⟨rfl,rfl⟩
 |_+8=>⟨rfl,rfl⟩
theorem Zaat (E:Int)(y:Lc)(r:RS):(tItem E y r).1.tag=y.tag∧(tItem E y r).1.par=y.par:=by
 unfold tItem;split
 ·exact⟨rfl,rfl⟩
 ·exact Zagl _ _ _ _ _
theorem Zop (E:Int):∀(n:Nat) (y:Lc) (r:RS),(tItems E n y r).1.tag=y.tag∧(tItems E n y r).1.par=y.par
 |0,_,_=>⟨rfl,rfl⟩
 |n+1,y,r=>by
  rw[tItems];split
  ·obtain⟨a,b⟩:=Zop E n (tItem E y r).1 (tItem E y r).2;obtain⟨c,d⟩:=Zaat E y r;exact⟨a.trans c,b.trans d⟩
  ·exact⟨rfl,rfl⟩
theorem Zy0 {E:Int} {r:RS} (hz:TkZ r)(h:(tLocale E r).2.e=0):(Zcm (tLocale E r).1).length+24 *wT (tLocale E r).2.l≤24 *wT r.l:=by
 unfold tLocale at h⊢;dsimp only at h⊢;have h2:=(Zaj E E [125] _ h).1;have h3:=Zk8 h2;have h4:=(Zaj E E [123] _ h3).1;obtain⟨⟨a1,a2⟩,a3⟩:=head_val hz h4;have b:=Zsm _ (LocV1.lc0 a1 a2) (Zdb a3 h3).1 h2;have c:=Zf5 h;have d:=Zf5 h3;have e:=Zako h4;have f:=Zzf (tItems E (((r.head E).2.mark E [123]).l.length+1) (lc0 (r.head E).1.1 (r.head E).1.2) ((r.head E).2.mark E [123])).1;obtain⟨g1,g2⟩:=Zop E (((r.head E).2.mark E [123]).l.length+1) (lc0 (r.head E).1.1 (r.head E).1.2) ((r.head E).2.mark E [123]);rw[g1,g2]at f;have Fp:Zc6 (lc0 (r.head E).1.1 (r.head E).1.2)=0:=rfl;rw[Fp]at b;have et:(lc0 (r.head E).1.1 (r.head E).1.2).tag=(r.head E).1.1:=rfl;have ep:(lc0 (r.head E).1.1 (r.head E).1.2).par=(r.head E).1.2:=rfl;rw[et,ep]at f;generalize tItems E (((r.head E).2.mark E [123]).l.length+1) (lc0 (r.head E).1.1 (r.head E).1.2) ((r.head E).2.mark E [123])=t at *;have hl:(Zcm t.1).length=(Zgk t.1).length+Zc6 t.1+2:=by
  unfold Zcm;rw[←Zaek];simp only[length_append,length_cons,length_nil]
 rw[hl];rw[length_singleton]at c d;split at e <;> split at f <;> omega
theorem Zalu {E:Int} {r:RS} (h:(RS.al E r).2.e=0):wT (RS.al E r).2.l+((RS.al E r).1.fro.size+1)+((RS.al E r).1.dst.size+1)+2=wT r.l:=by
 have h3:((r.word E).2.word E).2.e=0:=(Zaj E E [59] _ h).1;have h1:(r.word E).2.e=0:=(Zdd E E _ h3).1;have a:=Ze9 h1;have c:=Ze9 h3;have d:=Zf5 h;show wT (((r.word E).2.word E).2.mark E [59]).l+((bs (r.word E).1).size+1)+((bs ((r.word E).2.word E).1).size+1)+2=wT r.l;rw[Za5,Za5];rw[length_singleton]at d;omega
theorem Zalz {E:Int} {r:RS} (h:(RS.ne E r).2.e=0):wT (RS.ne E r).2.l+((RS.ne E r).1.fro.size+1)+((RS.ne E r).1.dst.size+1)+3≤wT r.l:=by
 have h4:(((r.word E).2.word E).2.number E 1000).2.e=0:=(Zaj E E [59] _ h).1;have h3:((r.word E).2.word E).2.e=0:=(Zdw E E 1000 _ h4).1;have h1:(r.word E).2.e=0:=(Zdd E E _ h3).1;have a:=Ze9 h1;have c:=Ze9 h3;have b:=Zne h4;have d:=Zf5 h;show wT ((((r.word E).2.word E).2.number E 1000).2.mark E [59]).l+((bs (r.word E).1).size+1)+((bs ((r.word E).2.word E).1).size+1)+3≤wT r.l;rw[Za5,Za5];rw[length_singleton]at d;omega
theorem Zafx (x:Al):(alT x).length≤8+(x.fro.size+1)+(x.dst.size+1):=by
 have:=Zin [] [[97,108,105,97,115],x.fro.data.toList,x.dst.data.toList];simp only[map_cons,map_nil,sum_cons,sum_nil,length_cons,length_nil,Zg4]at this;unfold alT;omega
theorem Zaif {x:Ne} (h:Zee x=true):(neT x).length≤29+(x.fro.size+1)+(x.dst.size+1):=by
 obtain⟨_,h0,h1⟩:=Zhu h;have:=Zin [] [[110,101,97,114],x.fro.data.toList,x.dst.data.toList,Lib.itoa x.cost];have hi:=Zd8 h0 h1;simp only[map_cons,map_nil,sum_cons,sum_nil,length_cons,length_nil,Zg4]at this;unfold neT;omega
theorem Zafv {E:Int} {t:Tb} {r:RS} (hz:TkZ r)(h:(Zax E t r).2.e=0):(Zck (Zax E t r).1).length+24 *wT (Zax E t r).2.l≤(Zck t).length+24 *wT r.l:=by
 have hw:∀ {s:List UInt8},r.is E 1 s=true→TkZ (r.word E).2∧wT (r.word E).2.l+1≤wT r.l:=fun hi=>by
  obtain⟨he,hk,_⟩:=RS.is_kind hi;have:(r.word E).2.e=0:=by show(r.take E 1).2.e=0;rw[RS.take_ok hk he];exact he
  have a:=Ze9 this;exact⟨(Zc7 hz this).2.1,by omega⟩
 have hl:∀t:Tb,(Zck t).length=(t.locs.flatMap Zcm).length+(t.als.flatMap alT).length+(t.near.flatMap neT).length:=fun t=>by unfold Zck;simp only[length_append]
 rw[hl,hl];unfold Zax at h⊢;dsimp only at h⊢
 by_cases h1:r.is E 1 [108,111,99,97,108,101]=true
 ·rw[if_pos h1]at h⊢;have g:=Zfw h;obtain⟨k1,k2⟩:=hw h1;have a:=Zy0 k1 g.2;dsimp only;rw[Ze6,g.1,Zp9];omega
 ·rw[if_neg h1]at h⊢
  by_cases h2:r.is E 1 [97,108,105,97,115]=true
  ·rw[if_pos h2]at h⊢;have g:=Zfw h;obtain⟨_,k2⟩:=hw h2;have a:=Zalu g.2;have b:=Zafx (RS.al E (r.word E).2).1;dsimp only;rw[Ze6,g.1,Zp9];omega
  ·rw[if_neg h2]at h⊢
   by_cases h3:r.is E 1 [110,101,97,114]=true
   ·rw[if_pos h3]at h⊢;have g:=Zfw h;obtain⟨k1,k2⟩:=hw h3;have a:=Zalz g.2;have b:=Zaif (Zaab k1 g.2).1;dsimp only;rw[Ze6,g.1,Zp9];omega
   ·rw[if_neg h3]at h;exact absurd h (RS.fail_e E (by decide) r)
theorem Zrz {E:Int} :∀(n:Nat) {t:Tb} {r:RS},TabV1 t→TkZ r→(Zbn E n t r).2.e=0→(Zck (Zbn E n t r).1).length≤(Zck t).length+24 *wT r.l
 |0,_,_,_,_,_=>Nat.le_add_right _ _
 |n+1,t,r,hv,hz,h=>by
  rw[Zbn]at h⊢
  by_cases hc:r.e=0∧r.l≠[]
  ·rw[if_pos hc]at h⊢;have he:=Zs5 h;obtain⟨a1,a2⟩:=Zqv hv hz he;have a:=Zrz n a1 a2 h;have b:=Zafv hz he;omega
  ·rw[if_neg hc];exact Nat.le_add_right _ _
theorem Zaal:∀l:List Tz,wT l=Zfa l+l.length
 |[]=>rfl
 |t::l=>by
  have ih:=Zaal l;have:Zfa (t::l)=t.2.1.length+Zfa l:=by unfold Zfa;rw[map_cons,sum_cons]
  rw[Zvb,ih,this,length_cons];omega
theorem Zago (l:List UInt8):wT (Zap l).1≤2 *l.length+1:=by
 have h2:=(Zsg l).2;rw[Zaal];have h1:Zfa (Zap l).1≤l.length:=by
  unfold Zap;split
  ·rename_i h;rw[Zff]at h;obtain⟨hr,_⟩:=Zi1 l;exact le_trans (Znj hr h (Zef l) (le_refl _)) (Zaju hr h)
  ·exact zero_le _
 omega
theorem Zxe {l:List UInt8} (hl:l.length≤4000):(Zck (Zal l).1).length≤200000:=by
 have hw:=Zago l;unfold Zal;rw[if_neg (by omega)];split
 ·unfold Zmo;dsimp only;split
  ·rename_i he;have a:=Zrz (r:=⟨(Zap l).1,0,0⟩) _ TabV1.tb0 (Zqy l) he;have hb:(Zck tb0).length=0:=rfl;rw[hb]at a;replace a:(Zck (Zbn (l.length:Int) ((Zap l).1.length+1) tb0 ⟨(Zap l).1,0,0⟩).1).length≤0+24 *wT (Zap l).1:=a;show(Zck (Zbn (l.length:Int) ((Zap l).1.length+1) tb0 ⟨(Zap l).1,0,0⟩).1).length≤200000;omega
  ·exact zero_le _
 ·exact zero_le _
theorem Zagv {s:ByteArray} (h:Zgq s=true):s.size≤40:=by
 have:=(Zij h).2.1
 rwa [Zg4]at this
theorem Zags {s:ByteArray} (h:Zfu s=true):s.size≤400:=by
 unfold Zfu Zbk at h;rw[Bool.and_eq_true,decide_eq_true_eq]at h;have:=h.1
 rwa [Zg4]at this
theorem Zg7 {l:List ByteArray} (h:Zb6 l=true):∀s∈l,s.size≤200000:=fun s hs=>le_trans (Zagv (Ze4 h hs)) (by decide)
theorem Zgx {l:List ByteArray} (h:Zb2 l=true):∀s∈l,s.size≤200000:=fun s hs=>le_trans (Zags (Zey h hs)) (by decide)
theorem Zvl {r:ByteArray×List (List Rel)} (h:Zb7 r=true):r.1.size≤140737488351232∧r.2.length≤30:=by
 obtain⟨h1,h2⟩:=Zc8 h;refine⟨?_,?_⟩
 ·have h3:=List.contains_iff_mem.1 h1;simp only[classL,mem_cons,not_mem_nil,or_false]at h3;rcases h3 with e|e|e|e|e <;>(rw[e];decide)
 ·unfold Zbw at h2;rw[Bool.and_eq_true,Bool.and_eq_true,decide_eq_true_eq]at h2;have:=Zl2 r.2 (fun l hl=>List.all_eq_true.1 h2.1.1 l hl);omega
theorem Zabc {y:Lc} (h:Zdo y=true):SmL y:=by
 have v:=Zje h;have Cp:=Zj1 v.card.1 v.card.2;have Eo:=Zj1 v.ord.1 v.ord.2;have Ht:∀s∈[y.dec,y.grp,y.mi,y.pct],s.size≤200000:=by
  rcases v.sym with e|e
  ·obtain⟨a1,a2,a3,a4,_,_⟩:y.dec= .empty∧y.grp= .empty∧y.mi= .empty∧y.pct= .empty∧y.pri=0∧y.sec=0:=of_decide_eq_true e;intro s hs;simp only[mem_cons,not_mem_nil,or_false]at hs;rcases hs with e|e|e|e <;>(rw[e];simp only[a1,a2,a3,a4];decide)
  ·exact Zgx e.2.1
 have lE:y.dir.size≤200000:=by
  rcases v.dir with e|e
  ·rw[e];decide
  ·have:=List.contains_iff_mem.1 e;simp only[dirL,mem_cons,not_mem_nil,or_false]at this;rcases this with e|e <;>(rw[e];decide)
 have lF:y.par.size≤200000:=by
  rcases v.par with e|e
  ·rw[e];decide
  ·exact Zg7 e _ (List.mem_singleton.2 rfl)
 refine⟨?_,?_,?_,⟨?_,?_⟩,⟨?_,?_⟩,⟨?_,?_⟩,⟨by omega,fun r hr=>Zvl (v.card.2 r hr)⟩,⟨by omega,fun r hr=>Zvl (v.ord.2 r hr)⟩⟩
 ·intro s hs;simp only[mem_cons,not_mem_nil,or_false]at hs;rcases hs with rfl|rfl|rfl|e|e|e|e
  ·exact Zg7 v.tag _ (List.mem_singleton.2 rfl)
  ·exact lF
  ·exact lE
  ·exact Ht s (by simp[e])
  ·exact Ht s (by simp[e])
  ·exact Ht s (by simp[e])
  ·exact Ht s (by simp[e])
 ·rcases v.months with e|e
  ·rw[e];exact⟨by decide,fun s hs=>by cases hs⟩
  ·exact⟨by omega,Zgx e.2⟩
 ·rcases v.days with e|e
  ·rw[e];exact⟨by decide,fun s hs=>by cases hs⟩
  ·exact⟨by omega,Zgx e.2⟩
 ·have:=v.lists.1;omega
 ·intro x hx s hs;have hx:=v.lists.2.2 x hx;unfold Zes at hx;rw[Bool.and_eq_true]at hx;rcases List.mem_cons.1 hs with e|hs
  ·exact Zg7 hx.1 s (by rw[e];exact List.mem_singleton.2 rfl)
  ·exact Zgx hx.2 s hs
 ·have:=v.units.1;omega
 ·intro x hx s hs;have hx:=v.units.2.2 x hx;unfold Zed at hx;rw[Bool.and_eq_true,Bool.and_eq_true]at hx;simp only[mem_cons,not_mem_nil,or_false]at hs;rcases hs with e|e|e
  ·exact Zg7 hx.1 s (by rw[e];exact List.mem_singleton.2 rfl)
  ·have h1:=List.contains_iff_mem.1 hx.2.1;rw[e];simp only[classU,classL,List.mem_append,mem_cons,not_mem_nil,or_false]at h1;rcases h1 with(e|e|e|e|e)|e <;>(rw[e];decide)
  ·exact Zgx hx.2.2 s (by rw[e];exact List.mem_singleton.2 rfl)
 ·have:=v.dates.1;omega
 ·intro x hx s hs;have hx:=v.dates.2.2 x hx;unfold Zev at hx;rw[Bool.and_eq_true]at hx;simp only[mem_cons,not_mem_nil,or_false]at hs;rcases hs with e|e
  ·exact Zg7 hx.1 s (by rw[e];exact List.mem_singleton.2 rfl)
  ·exact Zgx hx.2 s (by rw[e];exact List.mem_singleton.2 rfl)
theorem Zaci {t:Tb} (h:Zec t=true):SmT t:=by
 have v:=Zjd h;have a:=v.n0;have b:=v.n1;have c:=v.n2;refine⟨⟨by omega,fun y hy=>Zabc (v.locs y hy)⟩,⟨by omega,fun x hx=>Zg7 (v.als x hx)⟩,⟨by omega,fun x hx=>Zg7 (Zhu (v.near x hx)).1⟩⟩
theorem Zq9 {c:List (List Rel)} (h:Zbw c=true):CondWf c:=by
 unfold Zbw at h;rw[Bool.and_eq_true,Bool.and_eq_true]at h;intro l hl r hr;obtain⟨_,_,_,_,_,h6⟩:=Zip ((Ze5 (List.all_eq_true.1 h.1.1 l hl)).2 r hr);have hg:=Zni r.op;intro s hs;have:=h6 s hs;unfold Zaz at this;rw[Bool.and_eq_true,Bool.and_eq_true,decide_eq_true_eq,decide_eq_true_eq,decide_eq_true_eq]at this;exact⟨Zha (by omega) (by omega),Zha (by omega) (by omega)⟩
theorem Zt6 {t:Tb} (h:Zec t=true):TbWf t:=fun y hy=>by
 have v:=Zje ((Zjd h).locs y hy);exact⟨fun r hr=>Zq9 (Zc8 (v.card.2 r hr)).2,fun r hr=>Zq9 (Zc8 (v.ord.2 r hr)).2⟩
theorem Zy5 {t:Tb} (h:(Zbv t).2=0):Zec t=true∧(Zbv t).1=Zck t∧(Zck t).length≤200000:=by
 unfold Zbv at h⊢
 by_cases ho:Zec t=true
 ·rw[if_pos ho]at h⊢
  by_cases hl:200000<(Zck t).length
  ·rw[if_pos hl]at h;cases h
  ·rw[if_neg hl];exact⟨ho,rfl,by omega⟩
 ·rw[if_neg ho]at h;cases h
theorem Zu4 {t:Tb} (h:(Zbv t).2=0):Zec t=true∧(Zbv t).1.length≤200000∧Zal (Zbv t).1=(t,0,0):=by
 obtain⟨h1,h2,h3⟩:=Zy5 h;rw[h2];exact⟨h1,h3,Zmx h1 h3⟩
theorem Zqb {l:List UInt8} (hl:l.length≤4000):Zbv (Zal l).1=(Zck (Zal l).1,0)∧(Zck (Zal l).1).length≤200000∧Zal (Zck (Zal l).1)=((Zal l).1,0,0):=by
 have h1:=Zm3 l;have h2:=Zxe hl;refine⟨?_,h2,Zmx h1 h2⟩;unfold Zbv;rw[if_pos h1,if_neg (by omega)]
theorem Zxs {l:List UInt8} (h:(Zal l).2.2≠0):(Zal l).1=tb0:=by
 unfold Zal at h⊢;split
 ·rfl
 ·rename_i hl;rw[if_neg hl]at h;split
  ·rename_i ht;rw[if_pos ht]at h;unfold Zmo at h⊢;dsimp only at h⊢;split
   ·rename_i he;rw[if_pos he]at h;exact absurd rfl h
   ·rfl
  ·rfl
end Go.Proofs.YtmleeodfmmpdgaaGreatDoor
