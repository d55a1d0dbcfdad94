/- part -/
import Derived.Test.YtmleeodfmmpdgaaGreatDoorQ09
import Derived.Sort.CutIn
set_option maxRecDepth 100000
set_option maxHeartbeats 4000000
namespace Go.Proofs.YtmleeodfmmpdgaaGreatDoor
open Go.RowKit Go.Shelf
attribute [local go_sem] Oper.semAt_some
open _root_.List (cons_append length_cons length_drop length_nil nil_append)
open _root_.Nat (le_refl le_trans lt_of_lt_of_le not_lt_zero zero_le)
open _root_.Array (replicate_succ replicate_zero)
open World (size_alloc)
open _root_.Go.Proofs.Tryz
def Zch (l:List UInt8)(i:Nat):Nat:=i+Zb1 false (l.drop i)
theorem Zeh (l:List UInt8) {i:Nat} (h:i≤l.length):Zch l i≤l.length:=by
 have:=Zjq false (l.drop i);rw[length_drop]at this;unfold Zch;omega
def Zan (l:List UInt8):Nat→Nat
 |0=>Zch l 0
 |k+1=>Zch l (Zan l k+(Zb4 l (Zan l k)).2.1)
def Za9 (l:List UInt8)(k:Nat):Nx:=Zb4 l (Zan l k)
theorem Zxd (l:List UInt8)(i:Nat)(h:i<l.length):i+(Zbj l i).2.1≤l.length:=by
 unfold Zbj;split
 ·show i+0≤_;omega
 ·rename_i n hn;have:=Zk0 hn;rw[length_drop]at this;split
  ·show i+0≤_;omega
  ·split
   ·show i+0≤_;omega
   ·split
    ·show i+0≤_;omega
    ·show i+(n+2)≤_;omega
theorem Zkl (l:List UInt8)(i:Nat)(h:i<l.length):i+(Zb4 l i).2.1≤l.length:=by
 unfold Zb4;split
 ·show i+1≤_;omega
 ·split
  ·exact Zxd l i h
  ·have:=Zgs (l.drop i);rw[length_drop]at this;split
   ·show i+0≤_;omega
   ·split
    ·show i+0≤_;omega
    ·show i+Zab (l.drop i)≤_;omega
theorem Zxf (l:List UInt8)(i:Nat)(h:(Zbj l i).2.2.2=0):1≤(Zbj l i).2.1:=by
 unfold Zbj at h⊢;cases hn:Zbu (l.drop (i+1))with
 |none=>rw[hn]at h;exact absurd (show(3:Nat)=0 from h) (by decide)
 |some n=>
  rw[hn]at h;show 1≤(if(Zay ((l.drop (i+1)).take n)).2.2≠0 then Zbg (i+1+(Zay ((l.drop (i+1)).take n)).2.1) 3 else if 400<(Zay ((l.drop (i+1)).take n)).1.length then Zbg i 6
   else if Lib.validD (Zay ((l.drop (i+1)).take n)).1=false then Zbg i 4 else((2,(Zay ((l.drop (i+1)).take n)).1,i),n+2,0,0):Nx).2.1
  replace h:(if(Zay ((l.drop (i+1)).take n)).2.2≠0 then Zbg (i+1+(Zay ((l.drop (i+1)).take n)).2.1) 3 else if 400<(Zay ((l.drop (i+1)).take n)).1.length then Zbg i 6
   else if Lib.validD (Zay ((l.drop (i+1)).take n)).1=false then Zbg i 4 else((2,(Zay ((l.drop (i+1)).take n)).1,i),n+2,0,0):Nx).2.2.2=0:=h
  split at h
  ·exact absurd (show(3:Nat)=0 from h) (by decide)
  ·rename_i h1;rw[if_neg h1];split at h
   ·exact absurd (show(6:Nat)=0 from h) (by decide)
   ·rename_i h2;rw[if_neg h2];split at h
    ·exact absurd (show(4:Nat)=0 from h) (by decide)
    ·rename_i h3;rw[if_neg h3];show 1≤n+2;omega
theorem Zry (l:List UInt8)(i:Nat)(h:(Zb4 l i).2.2.2=0):1≤(Zb4 l i).2.1:=by
 unfold Zb4 at h⊢;split at h
 ·rename_i h1;rw[if_pos h1];show 1≤1;omega
 ·rename_i h1;rw[if_neg h1];split at h
  ·rename_i h2;rw[if_pos h2];exact Zxf l i h
  ·rename_i h2;rw[if_neg h2];split at h
   ·exact absurd (show(3:Nat)=0 from h) (by decide)
   ·rename_i h3;rw[if_neg h3];split at h
    ·exact absurd (show(6:Nat)=0 from h) (by decide)
    ·rename_i h4;rw[if_neg h4];show 1≤Zab (l.drop i);omega
def Zgn (l:List UInt8)(M:Nat):Prop:=
 (∀k,k<M→Zan l k<l.length)∧(∀k,k+1<M→(Za9 l k).2.2.2=0)∧((l.length≤Zan l M∧∀k,k<M→(Za9 l k).2.2.2=0)∨(0<M∧(Za9 l (M - 1)).2.2.2≠0))
theorem Zs8 (l:List UInt8):∀(m k:Nat),l.length - Zan l k≤m→Zan l k≤l.length→(∀q,q<k→Zan l q<l.length∧(Za9 l q).2.2.2=0)→k≤Zan l k→∃M,Zgn l M∧M≤l.length+1
 |m,k,hm,hp,hq,hk=>by
  by_cases Aa:Zan l k<l.length
  ·have Wc:=Zkl l _ Aa
   by_cases B6:(Za9 l k).2.2.2=0
   ·have eY:=Zry l _ B6;have h1:Zan l k+(Zb4 l (Zan l k)).2.1≤Zan l (k+1):=by show _≤Zch l _;unfold Zch;omega
    match m,hm with
    |0,hm=>omega
    |m+1,hm=>
     exact Zs8 l m (k+1) (by omega) (Zeh l Wc) (fun q h=>by
      by_cases e:q=k
      ·subst e;exact⟨Aa,B6⟩
      ·exact hq q (by omega)) (by omega)
   ·refine⟨k+1,⟨fun q h=>?_,fun q h=>(hq q (by omega)).2,.inr ⟨by omega,B6⟩⟩,by omega⟩
    by_cases e:q=k
    ·subst e;exact Aa
    ·exact(hq q (by omega)).1
  ·exact⟨k,⟨fun q h=>(hq q h).1,fun q h=>(hq q (by omega)).2,.inl ⟨by omega,fun q h=>(hq q h).2⟩⟩,by omega⟩
theorem Zkm (l:List UInt8):∃M,Zgn l M∧M≤l.length+1:=
 Zs8 l l.length 0 (by omega) (Zeh l (zero_le _)) (fun q h=>absurd h (not_lt_zero _)) (zero_le _)
abbrev nxE (x:Nx):Array Value:= #[.agg #[.int .i64 (x.1.1:Int),.string (bs x.1.2.1),.int .i64 (x.1.2.2:Int)],.agg #[.int .i64 (x.2.2.1:Int),.int .i64 (x.2.2.2:Int)]]
def KeepF (S:Nat→Prop)(W W':World):Prop:=KeepS S W W'∧(∀(k:Nat) (cs:Array Value) (fr:Nat×Nat),W.heap[k]? =some (Obj.cells cs 111 fr)→W'.heap[k]? =W.heap[k]?)∧W.heap.size≤W'.heap.size
theorem KeepF.trans {S:Nat→Prop} {A B C:World} (h:KeepF S A B)(k:KeepF S B C):KeepF S A C:=
 ⟨h.1.trans k.1,fun i cs fr hi=>by have h1:=h.2.1 i cs fr hi;exact(k.2.1 i cs fr (h1.trans hi)).trans h1,le_trans h.2.2 k.2.2⟩
theorem KeepF.put {S:Nat→Prop} {B:Nat} (hS:∀k,S k→k<B)(W:World)(l:Nat)(o o':Obj)(hl:B≤l)(h:W.heap[l]? =some o)(hc:o.isCells=false)(hw:o.isWalk=false):KeepF S W (W.putObj l o'):=
 ⟨KeepS.put hS W l o o' hl h hc hw,fun k cs fr hk=>World.putObj_heap_other (fun e=>by subst e;rw[h]at hk;injection hk with hk;subst hk;cases hc),by simp⟩
theorem Zjc {W W':World} (h:Below W.heap.size W W'):W.grownBy W' none:=⟨h.os,h.tape,h.output,h.size,fun k hk _=>h.block k hk⟩
theorem KeepS.tabU {S:Nat→Prop} {W W':World} (h:KeepS S W W')(h0:S 2)(h1:S 3)(hu:TabU W):TabU W':=
 ⟨fun c hc=>(h.cell h0 c).trans (hu.1 c hc),fun i hi=>⟨(h.cell h1 _).trans (hu.2 i hi).1,(h.cell h1 _).trans (hu.2 i hi).2⟩⟩
theorem KeepS.maxLen {S:Nat→Prop} {W W':World} (h:KeepS S W W')(h0:S 1)(hm:MaxLen W):MaxLen W':=by
 obtain⟨m,hm⟩:=hm;exact⟨m,(h.cell h0 0).trans hm⟩
theorem Zx9 (n:Nat)(hn:1≤n)(lp Bs:Nat)(S:Nat→Prop)(l:List UInt8)(hl:l.length≤200000)(mN:S Bs)(qK:S 1)(qL:S 2)(qM:S 3)
  (M:Nat) (Dz:Zgn l M) (J Jx:List Nx→World→Prop) (W:World) (hJ:AbidesFrom W.heap.size J)
  (hY:∀pre x W1,J pre W1→pre.length<M→YieldAt Fence.wide (n - 1) prog lp (nxE x) W1 fun e W'=>
   (e= .returned (.bool true)∧J (pre++[x]) W'∧KeepF S W1 W')∨(e= .returned (.bool false)∧Jx (pre++[x]) W'))
  (Fq:∀k,S k→k<W.heap.size)
  (hB:W.heap[Bs]? =some (.cells #[.string (bs l)] 9 (0,0))) (hM:MaxLen W) (hU:TabU W) (h0:J [] W):
  CallsIn Fence.wide n prog 115 #[.func (.yield lp) #[] #[],.pointer (some ⟨Bs,0,none⟩)] W fun e W'=>(∃v,e= .returned v)∧
   ((∃ys,ys=Zda (Za9 l) M∧J ys W')∨(∃pre,(∃k,k≤M∧pre=Zda (Za9 l) k)∧Jx pre W')):=by
 have HB:=Hd hB;have HM:=Hd hM;have HU:=Hd hU;have Am:(bs l).size=l.length:=Za5 l;have Dy:=Hd Am;have Em:(bs l).size≤200000:=by omega
 have Gw:=Hd (fun i hi w h=>Zabp l i hi hl w h);have Ao:=Hd (fun i hi w h=>Zacy l i hi hl w h);have Tm:=Hd Dz;have c0:=Za2 HB.out 0;clear hB hM hU Am Dz;generalize bs l=T at *;refine callsIn_of_wp func115 rfl trivial ?_ rfl;simp only[ntmps115,List.size_toArray,length_cons,length_nil,Nat.reduceAdd,Nat.reduceSub,replicate_succ,replicate_zero,List.push_toArray,List.append_toArray,nil_append,cons_append];have C4:=Hd (Gw.out 0 (zero_le _) W HM.out)
 gi_wp2_with (refine⟨trivial,?_⟩;gi_at_call 116;refine(callsIn_wide.2 C4.out).mono ?_;rintro e w' ⟨rfl,Aw⟩)
 have qN:Hid (J (Zda (Za9 l) 0) w'):=hJ [] W w' none h0 (Zjc Aw) (fun r e=>by cases e);have Bf:Hid (KeepS S W w'):=fun k hk=>Aw.block k (Fq k hk);have Jy:=Hd Aw.size;clear Aw c0 C4 h0
 gi_loopw [3] (fun i wr=>∃k:Nat,k≤M∧i= .int .i64 (Zan l k:Int)∧Zan l k≤l.length∧(∀q,q<k→(Za9 l q).2.2.2=0)∧J (Zda (Za9 l) k) wr∧KeepS S W wr∧W.heap.size≤wr.heap.size)
  (fun i _=>l.length -(intOf i).toNat)
 case atStart=>exact⟨0,zero_le _,by rw[show Zan l 0=Zb1 false l by show 0+Zb1 false (l.drop 0)=_;rw[List.drop_zero,Nat.zero_add]],Zeh l (zero_le _),fun q h=>absurd h (not_lt_zero _),qN.out,Bf.out,Jy.out⟩
 case round=>
  obtain⟨k,hk,rfl,mO,B6,mP,Ga,Bl⟩:=hrel;have C6:=Hd B6;have mQ:=Hd mP;have mR:=Hd Ga;have c0:=Za2 ((Ga Bs mN).trans HB.out) 0;have mS:(Zan l k:Int)≤200000:=by omega
  clear B6 mP Ga
  by_cases Aa:k<M
  ·have Tn:=Tm.out.1 k Aa;have qO:Zan l k<T.size:=by rw[Dy.out];exact Tn
   have M0:Hid (Calls prog 117 #[.string T,.int .i64 (Zan l k:Int)] wr fun e w'=>e=nxR (Za9 l k)∧Below wr.heap.size wr w'):=Ao.out _ Tn wr (mR.out.tabU qL qM HU.out);have Wc:Zan l k+(Za9 l k).2.1≤l.length:=Zkl l _ Tn;have eY:(Za9 l k).2.2.2=0→1≤(Za9 l k).2.1:=Zry l _;have To:Hid (Zan l (k+1)=Zch l (Zan l k+(Za9 l k).2.1)):=rfl;have eZ:Hid (Zda (Za9 l) (k+1)=Zda (Za9 l) k++[Za9 l k]):=Zlo _ _;have Q7:Hid (∀q,q<k+1→(Za9 l k).2.2.2=0→(Za9 l q).2.2.2=0):=fun q hq h=>by
    by_cases e:q=k
    ·subst e;exact h
    ·exact C6.out q (by omega)
   have Xp:Hid ((Za9 l k).2.2.2≠0→k+1=M):=fun h=>by
    rcases Nat.lt_or_ge (k+1) M with h1|h1
    ·exact absurd (Tm.out.2.1 k h1) h
    ·omega
   have qP:=Hd (fun W1 h=>hY (Zda (Za9 l) k) (Za9 l k) W1 h (by rw[Ze0];exact Aa));generalize Za9 l k=X at *;obtain⟨⟨x1,x2,x3⟩,x4,x5,x6⟩:=X;generalize hp:Zan l k=p at *;clear hp;simp only[nxR]at M0
   gi_upto_region 4 with(refine⟨trivial,?_⟩;gi_at_call 117;refine(callsIn_wide.2 M0.out).mono ?_;rintro e w2 ⟨rfl,Ag⟩)
   refine Zl4 ?_;intro V hV;have KT:Hid (V.heap[w2.heap.size+1]? =some (.cells #[.int .i64 (x5:Int),.int .i64 (x6:Int)] 111 (0,0))):=by rw[hV];exact Zdp _ _ _ _
   have KX:Hid (V.heap[w2.heap.size]? =some (.cells #[.int .i64 (x1:Int),.string (bs x2),.int .i64 (x3:Int)] 109 (0,0))):=by rw[hV];exact(Below.heap_alloc _ _ _ (by simp)).trans (Zc1 _ _ _)
   have cL:Below wr.heap.size wr V:=by rw[hV];exact(Ag.alloc Ag.size _).alloc (by have:=Ag.size;simp;omega) _
   obtain⟨fn,tm,asg,bo,hy,hR⟩:=qP.out V (hJ _ wr V none mQ.out (Zjc cL) (fun r e=>by cases e));dsimp only[nxE]at hy;have qQ:Hid (KeepS S W V):=mR.out.trans (fun q hq=>cL.block q (lt_of_lt_of_le (Fq q hq) Bl));have qR:Hid (W.heap.size≤V.heap.size):=le_trans Bl cL.size;have f0:=Za2 KT.out 0;have f1:=Za2 KT.out 1;have t0:=Za2 KX.out 0;have t1:=Za2 KX.out 1;have t2:=Za2 KX.out 2;clear hV Ag cL c0
   gi_wp2
   refine hR.mono ?_;rintro e W3 (⟨rfl,mT,Cv⟩|⟨rfl,fC⟩)
   ·have Xq:=Hd mT;have KT3:=Hd ((Cv.2.1 _ _ _ KT.out).trans KT.out);have An:=Hd (qQ.out.trans Cv.1);have Xk:W.heap.size≤W3.heap.size:=le_trans qR.out Cv.2.2;have c0:=Za2 ((An.out Bs mN).trans HB.out) 0;clear f0 f1 t0 t1 t2 hR hy mT Cv;have f1:=Za2 KT3.out 1
    by_cases We:x6=0
    ·subst We;have Mj:=eY rfl;have cM:=Hd (Gw.out (p+x4) Wc W3 (An.out.maxLen qK HM.out));have Q8:(x4:Int)≤200000:=by omega
     have Tp:Hid (∀q,q<k+1→(Za9 l q).2.2.2=0):=fun q hq=>Q7.out q hq rfl;have mJ:p<Zch l (p+x4):=by unfold Zch;omega
     clear eY
     gi_wp2_with (refine⟨trivial,?_⟩;gi_at_call 116;refine(callsIn_wide.2 cM.out).mono ?_;rintro e w5 ⟨rfl,Ig⟩)
     go_roundw
     case rel=>exact⟨k+1,Aa,by rw[To.out];rfl,by rw[To.out];exact Zeh l Wc,Tp.out,by rw[eZ.out];exact hJ _ W3 w5 none Xq.out (Zjc Ig) (fun r e=>by cases e),An.out.trans (fun q hq=>Ig.block q (lt_of_lt_of_le (Fq q hq) Xk)),le_trans Xk Ig.size⟩
     case measure=>have:=Zeh l Wc;unfold Zch at this mJ;simp[intOf];omega
    ·have h6:((x6:Int)==0)=false:=by simp only[beq_eq_false_iff_ne];omega
     have cN:=Hd (Xp.out We)
     gi_wp2
     refine bodyPost_ret (results_none rfl _ _ _) rfl ?_;exact⟨⟨_,rfl⟩,.inl ⟨_,rfl,by rw[←cN.out,eZ.out];exact Xq.out⟩⟩
   ·gi_wp2
    refine bodyPost_ret (results_none rfl _ _ _) rfl ?_;exact⟨⟨_,rfl⟩,.inr ⟨_,⟨k+1,Aa,eZ.out.symm⟩,fC⟩⟩
  ·obtain rfl:k=M:=by omega
   have vS: ¬Zan l k<T.size:=by
    rw[Dy.out];rcases Tm.out.2.2 with⟨h,_⟩|⟨h1,h2⟩
    ·omega
    ·exact absurd (C6.out (k - 1) (by omega)) h2
   gi_wp2
   go_end0;exact⟨⟨_,rfl⟩,.inl ⟨_,rfl,mQ.out⟩⟩
theorem Zri {β:Type} {S:Nat→Prop} {V:World} {B:Nat} (hS:∀k,S k→k<B)(hV:∀k,S k→k<V.heap.size):OwnFrom B (fun(_:β) W=>V.heap.size≤W.heap.size∧KeepS S V W):=
 fun _ X Y row hs hg hr=>⟨le_trans hs.1 hg.size,fun k hk=>(hg.block k (lt_of_lt_of_le (hV k hk) hs.1) (fun e=>by have:=(hr k e.symm).1;have:=hS k hk;omega)).trans (hs.2 k hk)⟩
theorem Zhe {w W:World} {B:Nat} {t:TypeId} {v:Value} (h:Boxed w B t v)(hb:Below w.heap.size w W):Boxed W B t v:=(hb.block B h.lt).trans h
theorem Zss {w w':World} (h:Below w.heap.size w w'):KeepsOthers w w':=⟨h.size,fun k _ hk _=>(h.block k (Array.getElem?_eq_some_iff.1 hk).1).trans hk⟩
def Zdl (xs:List Nx):List Value:=xs.flatMap fun x=>[.int .i64 (x.1.1:Int),.string (bs x.1.2.1),.int .i64 (x.1.2.2:Int)]
theorem Zu6 (xs:List Nx)(x:Nx):Zdl (xs++[x])=Zdl xs++[.int .i64 (x.1.1:Int),.string (bs x.1.2.1),.int .i64 (x.1.2.2:Int)]:=by simp[Zdl]
def Zalv (l:List UInt8)(w:World)(e:Ending)(w':World):Prop:=
 Below w.heap.size w w'∧∃M,Zgn l M∧M≤l.length+1∧
  (((∀k,k<M→(Za9 l k).2.2.2=0)∧∃ad c,e= .returned (.tuple #[.slice ad M c,.int .i64 0,.int .i64 0])∧w'.ownsRow w.heap.size 109 3 (.slice ad M c) M (Zdl (Zda (Za9 l) M)))∨
   (0<M∧(Za9 l (M - 1)).2.2.2≠0∧e= .returned (.tuple #[.slice none 0 0,.int .i64 ((Za9 l (M - 1)).2.2.1:Int),.int .i64 ((Za9 l (M - 1)).2.2.2:Int)])))
theorem Zrb {F:Fence} {n0:Nat} {P:Program} {ops:Array Oper} {rest:List Oper} {o:Oper} {a:Act} {Q:Exit→Act→World→Prop} {w:World} (t E:TypeId)
  (ht:P.underlying t=some (.slice E)) (i:TypeInfo) (z:Value) (hi:P.info? E=some i) (hz:i.zero=some z) (Mu:i.size=3) (eL:i.bytes=32) (Fl:z.cells.size=3)
  (Lq:o.guard=none) (s x:Operand) (ho:o.op= .call { callee:= .builtin .append,args:= #[s,x],argTypes:= #[t,t] })
  (base:Nat) (v:Value) (n:Nat) (xs:List Value) (hs:a.eval s=v) (Ab:w.ownsRow base E 3 v n xs)
  (y0 y1 y2:Value) (E':TypeId) (hx:a.eval x= .slice (some ⟨w.heap.size,0,none⟩) 1 1) (h0:y0.oneCell'=true) (h1:y1.oneCell'=true) (h2:y2.oneCell'=true)
  (hn:n≤1000000000) (Bn:base≤w.heap.size)
  (h:∀ad' c' w',w'.ownsRow base E 3 (.slice ad' (n+1) c') (n+1) (xs++[y0,y1,y2])→(w.alloc (.cells #[y0,y1,y2] E')).grownBy w' v.ownBlock→
   wpListIn F n0 P ops Q rest (a.put o.dst (.slice ad' (n+1) c')) w'):wpListIn F n0 P ops Q (o::rest) a (w.alloc (.cells #[y0,y1,y2] E')):=by
 refine wpListIn_append_own _ Lq s x t ho base E i z 3 32 ht hi hz Mu eL Fl (by omega) v n xs hs (World.ownsRow.alloc Ab _) ⟨w.heap.size,0,none⟩ 1 1 [y0,y1,y2] hx rfl (World.news_of_block (Zc1 w #[y0,y1,y2] E'))
  (by intro u hu;simp at hu;rcases hu with rfl|rfl|rfl <;> assumption) (by unfold maxLen;omega) (by omega) (by simp;omega) ?_
 intro v' w' g1 g2 _;obtain⟨ad',c',rfl⟩:=Zob g1;exact h ad' c' w' g1 g2
theorem Zy4 (n:Nat)(s:ByteArray)(w:World):
  CallsIn Fence.wide n prog 54 #[.string s] w fun e w'=>e= .returned (.func (.func 115) #[] #[.pointer (some ⟨w.heap.size,0,none⟩)])∧w'=w.alloc (.cells #[.string s] 9):=by
 refine callsIn_of_wp func54 rfl trivial ?_ rfl;simp only[ntmps54,List.size_toArray,length_cons,length_nil,Nat.reduceAdd,Nat.reduceSub,replicate_succ,replicate_zero,List.push_toArray,List.append_toArray,nil_append,cons_append]
 gi_wp2
 go_ret;exact⟨rfl,rfl⟩
def Zpn (B:Nat)(k:Nat):Prop:=k=B∨k=1∨k=2∨k=3
theorem Zaih:(prog.info? 109).map (fun i=>(i.zero,i.size,i.bytes))=some (some (.agg #[.int .i64 0,.string .empty,.int .i64 0]),3,32):=by kernel_rfl
theorem Zzl (n:Nat)(hn:1≤n)(Bs:Nat)(l:List UInt8)(hl:l.length≤200000)(M:Nat)(Dz:Zgn l M)(w:World)(Fq:∀k,Zpn Bs k→k<w.heap.size)
  (hB:w.heap[Bs]? =some (.cells #[.string (bs l)] 9 (0,0))) (hM:MaxLen w) (hU:TabU w):
  SeqStopsK Fence.wide n prog 115 #[.pointer (some ⟨Bs,0,none⟩)] nxE (KeepF (Zpn Bs)) (fun ys=>ys=Zda (Za9 l) M) (fun pre=>∃k,k≤M∧pre=Zda (Za9 l) k) M w:=fun lp J Jx W hW hJ _ hY h0=>
 Zx9 n hn lp Bs (Zpn Bs) l hl (.inl rfl) (.inr (.inl rfl)) (.inr (.inr (.inl rfl))) (.inr (.inr (.inr rfl))) M Dz J Jx W hJ hY (fun k hk=>lt_of_lt_of_le (Fq k hk) hW.size)
  ((hW.block Bs (Array.getElem?_eq_some_iff.1 hB).1).trans hB) (hM.below hW) (hU.below hW) h0
theorem Zfp {w:World} {base:Nat} {E T:TypeId} {size:Nat} {v:Value} {n:Nat} {xs:List Value} {k:Nat} {cs:Array Value} {fr:Nat×Nat} (h:w.ownsRow base E size v n xs)(hd:w.heap[k]? =some (.cells cs T fr))(qS:T≠E):v.ownBlock≠some k:=by
 intro e;rcases h.2 with⟨rfl,_⟩|⟨g,cap,cur,rfl,_,Pd,_⟩
 ·simp[Value.ownBlock]at e
 ·obtain rfl:g=k:=by simpa [Value.ownBlock]using e
  rw[hd]at Pd;injection Pd with Pd;injection Pd with _ h2;exact qS h2
theorem Zws (l:List UInt8)(hl:l.length≤200000)(w:World)(hM:MaxLen w)(hU:TabU w):Calls prog 26 #[.string (bs l)] w (Zalv l w):=by
 obtain⟨M,Dz,fD⟩:=Zkm l;obtain⟨i0,hi,Cc,Ba,A7⟩:=info_parts Zaih;have HI:=Hd hi;have Ox:=Hd Cc;have Jy:=Hd Ba;have Oy:=Hd A7;have HM:=Hd (fun w' (h:Below w.heap.size w w')=>hM.below h);have HU:=Hd (fun w' (h:Below w.heap.size w w')=>hU.below h);have qU:1<w.heap.size:=by obtain⟨m,hm⟩:=hM;exact World.block_lt_of_cell? w _ hm
 have qV:2<w.heap.size:=World.block_lt_of_cell? w _ (hU.1 0 (by decide));have qW:3<w.heap.size:=World.block_lt_of_cell? w _ (hU.2 0 (by decide)).1;clear hi Cc Ba A7 hM hU;refine(callsIn_wide (n:=5)).1 ?_;refine callsIn_of_wp_marks func26 rfl trivial ?_ rfl;simp only[ntmps26,List.size_toArray,length_cons,length_nil,Nat.reduceAdd,Nat.reduceSub,replicate_succ,replicate_zero,List.push_toArray,List.append_toArray,nil_append,cons_append]
 gi_wp2_with (refine⟨trivial,?_⟩;gi_at_call 54;refine(Zy4 4 _ _).mono ?_;rintro e w' ⟨rfl,rfl⟩)
 refine Zl4 ?_;intro V hV;obtain⟨b,hb⟩:∃b,w.heap.size=b:=⟨_,rfl⟩;have E5:Below w.heap.size w V:=by
  rw[hV];exact(((((Below.refl _ w).alloc (le_refl _) _).alloc (by simp) _).alloc (by simp;omega) _).alloc (by simp;omega) _).alloc (by simp;omega) _
 have kbox:V.heap[w.heap.size+1+1+1+1]? =some (.cells #[.string (bs l)] 9 (0,0)):=by
  rw[hV];have:=Zc1 ((((w.alloc (.cells #[.slice none 0 0] 62)).alloc (.cells #[.int .i64 0] 3)).alloc (.cells #[.int .i64 0] 28)).alloc (.cells #[.slice none 0 0] 62)) #[.string (bs l)] 9
  simpa only[size_alloc]using this
 have b0:Boxed V w.heap.size 62 (.slice none 0 0):=by
  rw[hV];exact((((Boxed.new w 62 (.slice none 0 0)).alloc _).alloc _).alloc _).alloc _
 have b1:Boxed V (w.heap.size+1) 3 (.int .i64 0):=by
  rw[hV];have:=Boxed.new (w.alloc (.cells #[.slice none 0 0] 62)) 3 (.int .i64 0);rw[size_alloc]at this;exact((this.alloc _).alloc _).alloc _
 have b2:Boxed V (w.heap.size+1+1) 28 (.int .i64 0):=by
  rw[hV];have:=Boxed.new ((w.alloc (.cells #[.slice none 0 0] 62)).alloc (.cells #[.int .i64 0] 3)) 28 (.int .i64 0);rw[size_alloc,size_alloc]at this;exact(this.alloc _).alloc _
 have b3:Boxed V (w.heap.size+1+1+1) 62 (.slice none 0 0):=by
  rw[hV];have:=Boxed.new (((w.alloc (.cells #[.slice none 0 0] 62)).alloc (.cells #[.int .i64 0] 3)).alloc (.cells #[.int .i64 0] 28)) 62 (.slice none 0 0);rw[size_alloc,size_alloc,size_alloc]at this;exact this.alloc _
 have Q9:w.heap.size+1+1+1+1<V.heap.size:=by rw[hV];simp
 clear hV hb;have Fq:∀k,Zpn (w.heap.size+1+1+1+1) k→k<V.heap.size:=fun k hk=>by
  rcases hk with rfl|rfl|rfl|rfl <;> omega
 refine wpIn_rangeFunc_ownH rfl (by omega) (gf:=115) (lb:= #[.pointer (some ⟨w.heap.size+1+1+1+1,0,none⟩)]) rfl trivial (enters_of func115 (by kernel_rfl) rfl)
  (Zzl 4 (by omega) (w.heap.size+1+1+1+1) l hl M Dz V Fq kbox (HM.out V E5) (HU.out V E5)) (fun h1 h2=>KeepF.trans h1 h2) (KeepF.put Fq) (Below.refl _ _) (fun _=>rfl)
  (fun pre W=>((∃v,Boxed W (w.heap.size+1+1+1) 62 v∧W.ownsRow w.heap.size 109 3 v pre.length (Zdl pre)∧True)∧(Boxed W w.heap.size 62 (.slice none 0 0)∧Boxed W (w.heap.size+1) 3 (.int .i64 0)∧Boxed W (w.heap.size+1+1) 28 (.int .i64 0)∧(∀x∈pre,(x:Nx).2.2.2=0))∧(V.heap.size≤W.heap.size∧KeepS (Zpn (w.heap.size+1+1+1+1)) V W))∧Below w.heap.size w W)
  (fun c pre W=>(c= .ret∧∃ini last,pre=ini++[last]∧(last:Nx).2.2.2≠0∧Boxed W w.heap.size 62 (.slice none 0 0)∧Boxed W (w.heap.size+1) 3 (.int .i64 (last.2.2.1:Int))∧Boxed W (w.heap.size+1+1) 28 (.int .i64 (last.2.2.2:Int)))∧Below w.heap.size w W)
  (OwnFrom.and (OwnFrom.and (Own.from (holdsRow_own _ _ _ _ _ (fun pre=>pre.length) (fun pre=>Zdl pre) (fun _ _=>True)) _) (OwnFrom.and (Own.from (fun s A B row hs hg hr=>⟨Zgu hs.1 hg hr,Zgu hs.2.1 hg hr,Zgu hs.2.2.1 hg hr,hs.2.2.2⟩) _) (Zri Fq Fq))) (ownFrom_below (le_refl _) (by omega)))
  (fun c=>OwnFrom.and (Own.from (fun s A B row hs hg hr=>by obtain⟨hc,ini,last,e1,e2,e3,e4,e5⟩:=hs;exact⟨hc,ini,last,e1,e2,Zgu e3 hg hr,Zgu e4 hg hr,Zgu e5 hg hr⟩) _) (ownFrom_below (le_refl _) (by omega)))
  ⟨⟨⟨_,b3,World.ownsRow_nil _ _ _ _,trivial⟩,⟨b0,b1,b2,by simp⟩,le_refl _,KeepS.refl _ _⟩,E5⟩
  (fun x a' W=>∃B:Nat,V.heap.size≤B∧W.heap[B]? =some (.cells #[.int .i64 (x.1.1:Int),.string (bs x.1.2.1),.int .i64 (x.1.2.2:Int)] 109 (0,0))∧W.heap[B+1]? =some (.cells #[.int .i64 (x.2.2.1:Int),.int .i64 (x.2.2.2:Int)] 111 (0,0))∧
   a'= { tmps:= #[.string (bs l),undef,.pointer (some ⟨w.heap.size,0,none⟩),.pointer (some ⟨w.heap.size+1,0,none⟩),.pointer (some ⟨w.heap.size+1+1,0,none⟩),.pointer (some ⟨w.heap.size+1+1+1,0,none⟩),.pointer (some ⟨B,0,none⟩),.pointer (some ⟨B+1,0,none⟩),.string (bs l),
    .func (.func 115) #[] #[.pointer (some ⟨w.heap.size+1+1+1+1,0,none⟩)],.agg #[.int .i64 (x.1.1:Int),.string (bs x.1.2.1),.int .i64 (x.1.2.2:Int)],.agg #[.int .i64 (x.2.2.1:Int),.int .i64 (x.2.2.2:Int)],undef,undef,undef,undef,undef,undef,undef,undef,undef,undef,undef,undef],defers:=[] })
  (fun x a' s A C row hs hg hr=>by
   obtain⟨B,h1,h2,h3,h4⟩:=hs;exact⟨B,h1,(grownBy_keeps_cells hg (fun r e=>(hr r e).2) h2 rfl).trans h2,(grownBy_keeps_cells hg (fun r e=>(hr r e).2) h3 rfl).trans h3,h4⟩) ?assign ?body ?done ?stop
 case assign=>
  rintro lp pre x W K ⟨⟨⟨v,Kx,Ez,_⟩,⟨x0,x1,x2,Be⟩,Tq,At⟩,hB⟩ hK;have Ls:Below W.heap.size W ((W.alloc (.cells #[.int .i64 (x.1.1:Int),.string (bs x.1.2.1),.int .i64 (x.1.2.2:Int)] 109)).alloc (.cells #[.int .i64 (x.2.2.1:Int),.int .i64 (x.2.2.2:Int)] 111)):=((Below.refl _ _).alloc (le_refl _) _).alloc (by simp) _;have HK:=Hd (hK _ _ ((Zss Ls).from _) ⟨fun k hk=>Ls.block k (lt_of_lt_of_le (Fq k hk) Tq),fun k cs fr h=>Ls.block k (Array.getElem?_eq_some_iff.1 h).1,Ls.size⟩
   ⟨⟨⟨v,Zhe Kx Ls,Zci Ez Ls,trivial⟩,⟨Zhe x0 Ls,Zhe x1 Ls,Zhe x2 Ls,Be⟩,le_trans Tq Ls.size,At.trans (fun k hk=>Ls.block k (lt_of_lt_of_le (Fq k hk) Tq))⟩,hB.trans (Ls.mono hB.size)⟩
   ⟨W.heap.size,Tq,(Below.heap_alloc _ _ _ (by simp)).trans (Zc1 _ _ _),Zdp _ _ _ _,rfl⟩)
  clear hK Ls Kx Ez x0 x1 x2 Be hB At
  gi_wp2
  exact HK.out
 case body=>
  rintro lp pre x a' W qX mU ⟨⟨⟨v,Kx,Ez,_⟩,⟨x0,x1,x2,Be⟩,Tq,At⟩,hB⟩ ⟨B,vT,ht,hf,rfl⟩ Ah;obtain⟨⟨k1,k2,k3⟩,k4,k5,k6⟩:=x;simp only at ht hf;have c0:=Za2 hf 0;have c1:=Za2 hf 1;have d0:=Za2 ht 0;have d1:=Za2 ht 1;have d2:=Za2 ht 2;have e0:=x0.cell;have e1:=x1.cell;have e2:=x2.cell;have e3:=Kx.cell;have z0:=x0.frozen;have z1:=x1.frozen;have z2:=x2.frozen;have z3:=Kx.frozen;have n0:w.heap.size≠B+1:=by omega
  have n1:w.heap.size+1≠B+1:=by omega
  have n2:w.heap.size+1+1≠B+1:=by omega
  by_cases h6:k6=0
  ·subst h6;have mO:pre.length≤1000000000:=by omega
   have mV:=hB.size;have B8:=Hd Kx;have Iw:=Hd Ez;have Xr:Hid (∀y∈pre++[(((k1,k2,k3),k4,k5,0):Nx)],y.2.2.2=0):=fun y hy=>by
    rcases List.mem_append.1 hy with hy|hy
    ·exact Be y hy
    ·rw[List.mem_singleton.1 hy]
   have De:=(At _ (.inl rfl)).trans kbox;have Fc:Hid (∀(w3:World) (q:Value),(W.alloc (.cells #[.int .i64 (k1:Int),.string (bs k2),.int .i64 (k3:Int)] 109)).grownBy w3 v.ownBlock→∀(k:Nat) (o:Obj),W.heap[k]? =some o→v.ownBlock≠some k→k≠w.heap.size+1+1+1→(w3.setCell ⟨w.heap.size+1+1+1,0,none⟩ q).heap[k]? =some o):=fun w3 q hg k o hk Az h3=>
    (Below.heap_setCell w3 ⟨w.heap.size+1+1+1,0,none⟩ q k h3).trans ((hg.block k (by simp;have:=(Array.getElem?_eq_some_iff.1 hk).1;omega) (fun e=>Az e.symm)).trans ((Below.heap_alloc _ _ _ (Array.getElem?_eq_some_iff.1 hk).1).trans hk))
   have Dj:=Hd x0;have Ih:=Hd x1;have C7:=Hd x2;have Tr:=Hd De;have fE:=Hd At;have fF:=Hd hB;clear Kx Ez Be At De e0 e1 e2 z0 z1 z2 x0 x1 x2 hB n0 n1 n2 ht hf
   gi_wp2_with (gi_at_builtin;refine Zrb 62 109 underlying62 i0 _ HI.out Ox.out Jy.out Oy.out rfl rfl _ _ rfl w.heap.size v _ _ rfl Iw.out _ _ _ _ rfl rfl rfl rfl mO mV ?_;intro ad6 c6 w3 Ae A5;obtain⟨q1,q2,q3,q4,q5⟩:=B8.out.appended (by decide) Iw.out mV (by omega) Ae A5;have Gy:=q1.cell;have Gb:=q1.frozen;have Ce:=Hd Ae;have Bm:=Hd A5;have A6:=Hd q2;have An:=Hd q3;have Bh:=Hd q4;have Bv:=Hd q5;clear Ae A5 q1 q2 q3 q4 q5)
   have key:=Fc.out w3 (.slice ad6 (pre.length+1) c6) Bm.out;have Xe:Boxed (w3.setCell ⟨w.heap.size+1+1+1,0,none⟩ (.slice ad6 (pre.length+1) c6)) w.heap.size 62 (.slice none 0 0):=key _ _ Dj.out (Zfp Iw.out Dj.out (by decide)) (by omega);have qY:Boxed (w3.setCell ⟨w.heap.size+1+1+1,0,none⟩ (.slice ad6 (pre.length+1) c6)) (w.heap.size+1) 3 (.int .i64 0):=key _ _ Ih.out (Zfp Iw.out Ih.out (by decide)) (by omega);have fG:Boxed (w3.setCell ⟨w.heap.size+1+1+1,0,none⟩ (.slice ad6 (pre.length+1) c6)) (w.heap.size+1+1) 28 (.int .i64 0):=key _ _ C7.out (Zfp Iw.out C7.out (by decide)) (by omega);have M1:∀k,k<w.heap.size→(w3.setCell ⟨w.heap.size+1+1+1,0,none⟩ (.slice ad6 (pre.length+1) c6)).heap[k]? =W.heap[k]? :=fun k hk=>by
    obtain⟨o,ho⟩:∃o,W.heap[k]? =some o:=⟨_,Array.getElem?_eq_getElem (by omega)⟩;exact(key k o ho (fun e=>by have:=(World.ownsRow.lt Iw.out _ e).1;omega) (by omega)).trans ho.symm
   have V8:KeepS (Zpn (w.heap.size+1+1+1+1)) W (w3.setCell ⟨w.heap.size+1+1+1,0,none⟩ (.slice ad6 (pre.length+1) c6)):=fun k hk=>by
    rcases hk with rfl|rfl|rfl|rfl
    ·exact(key _ _ Tr.out (Zfp Iw.out Tr.out (by decide)) (by omega)).trans Tr.out.symm
    ·exact M1 _ qU
    ·exact M1 _ qV
    ·exact M1 _ qW
   have qZ:∀(k:Nat) (cs:Array Value) (fr:Nat×Nat),W.heap[k]? =some (Obj.cells cs 111 fr)→(w3.setCell ⟨w.heap.size+1+1+1,0,none⟩ (.slice ad6 (pre.length+1) c6)).heap[k]? =W.heap[k]? :=fun k cs fr hk=>
    (key k _ hk (Zfp Iw.out hk (by decide)) (fun e=>by subst e;rw[show W.heap[_]? =_ from B8.out]at hk;injection hk with hk;injection hk with _ hk;exact absurd hk (by decide))).trans hk.symm
   exact⟨Bh.out.from _,⟨V8,qZ,Bh.out.size⟩,⟨⟨_,A6.out,by rw[Zu6,List.length_append];exact An.out,trivial⟩,⟨Xe,qY,fG,Xr.out⟩,le_trans Tq Bh.out.size,fE.out.trans V8⟩,fF.out.trans Bv.out⟩
  ·have vU:((k6:Int)==0)=false:=by simp only[beq_eq_false_iff_ne];omega
   have y0:Boxed (((W.setCell ⟨w.heap.size,0,none⟩ (.slice none 0 0)).setCell ⟨w.heap.size+1,0,none⟩ (.int .i64 (k5:Int))).setCell ⟨w.heap.size+1+1,0,none⟩ (.int .i64 (k6:Int))) w.heap.size 62 (.slice none 0 0):=((x0.set _).other (by omega) _).other (by omega) _;have y1:Boxed (((W.setCell ⟨w.heap.size,0,none⟩ (.slice none 0 0)).setCell ⟨w.heap.size+1,0,none⟩ (.int .i64 (k5:Int))).setCell ⟨w.heap.size+1+1,0,none⟩ (.int .i64 (k6:Int))) (w.heap.size+1) 3 (.int .i64 (k5:Int)):=((x1.other (by omega) _).set _).other (by omega) _;have y2:Boxed (((W.setCell ⟨w.heap.size,0,none⟩ (.slice none 0 0)).setCell ⟨w.heap.size+1,0,none⟩ (.int .i64 (k5:Int))).setCell ⟨w.heap.size+1+1,0,none⟩ (.int .i64 (k6:Int))) (w.heap.size+1+1) 28 (.int .i64 (k6:Int)):=((x2.other (by omega) _).other (by omega) _).set _;have Ra:Below w.heap.size w (((W.setCell ⟨w.heap.size,0,none⟩ (.slice none 0 0)).setCell ⟨w.heap.size+1,0,none⟩ (.int .i64 (k5:Int))).setCell ⟨w.heap.size+1+1,0,none⟩ (.int .i64 (k6:Int))).drew:=(((hB.setCell (p:=⟨w.heap.size,0,none⟩) (le_refl _) _).setCell (p:=⟨w.heap.size+1,0,none⟩) (by show w.heap.size≤w.heap.size+1;omega) _).setCell (p:=⟨w.heap.size+1+1,0,none⟩) (by show w.heap.size≤w.heap.size+1+1;omega) _).drew;have fH:KeepsOthers W (((W.setCell ⟨w.heap.size,0,none⟩ (.slice none 0 0)).setCell ⟨w.heap.size+1,0,none⟩ (.int .i64 (k5:Int))).setCell ⟨w.heap.size+1+1,0,none⟩ (.int .i64 (k6:Int))):=((KeepsOthers.setCell _ _ _).trans (KeepsOthers.setCell _ _ _)).trans (KeepsOthers.setCell _ _ _);have rA:=Hd y0;have rB:=Hd y1;have rC:=Hd y2;have fF:=Hd Ra;have rD:Hid (KeepsOthers W (((W.setCell ⟨w.heap.size,0,none⟩ (.slice none 0 0)).setCell ⟨w.heap.size+1,0,none⟩ (.int .i64 (k5:Int))).setCell ⟨w.heap.size+1+1,0,none⟩ (.int .i64 (k6:Int))).drew):=⟨fH.size,fH.same⟩;clear y0 y1 y2 Ra fH Kx Ez x0 x1 x2 Be hB ht hf e3 z3 d0 d1 d2 At
   gi_wp2
   gi_region
   all_goals
    gi_wp2
    exact⟨rD.out.from _,⟨rfl,pre,_,rfl,h6,rA.out,rB.out,rC.out⟩,fF.out⟩
 case done=>
  rintro D ys W hD rfl ⟨⟨⟨v,Kx,Ez,_⟩,⟨x0,x1,x2,Be⟩,Tq,At⟩,hB⟩ hK;rw[Ze0]at Ez;obtain⟨ad7,c7,rfl⟩:=Zob Ez;have e3:=Kx.cell;have e0:=x0.cell;have e1:=x1.cell;have e2:=x2.cell;have z0:=x0.frozen;have z1:=x1.frozen;have z2:=x2.frozen;have y0:Boxed (((W.setCell ⟨w.heap.size,0,none⟩ (.slice ad7 M c7)).setCell ⟨w.heap.size+1,0,none⟩ (.int .i64 0)).setCell ⟨w.heap.size+1+1,0,none⟩ (.int .i64 0)) w.heap.size 62 (.slice ad7 M c7):=((x0.set _).other (by omega) _).other (by omega) _;have y1:Boxed (((W.setCell ⟨w.heap.size,0,none⟩ (.slice ad7 M c7)).setCell ⟨w.heap.size+1,0,none⟩ (.int .i64 0)).setCell ⟨w.heap.size+1+1,0,none⟩ (.int .i64 0)) (w.heap.size+1) 3 (.int .i64 0):=((x1.other (by omega) _).set _).other (by omega) _;have y2:Boxed (((W.setCell ⟨w.heap.size,0,none⟩ (.slice ad7 M c7)).setCell ⟨w.heap.size+1,0,none⟩ (.int .i64 0)).setCell ⟨w.heap.size+1+1,0,none⟩ (.int .i64 0)) (w.heap.size+1+1) 28 (.int .i64 0):=((x2.other (by omega) _).other (by omega) _).set _;have Xs:(((W.setCell ⟨w.heap.size,0,none⟩ (.slice ad7 M c7)).setCell ⟨w.heap.size+1,0,none⟩ (.int .i64 0)).setCell ⟨w.heap.size+1+1,0,none⟩ (.int .i64 0)).ownsRow w.heap.size 109 3 (.slice ad7 M c7) M (Zdl (Zda (Za9 l) M)):=
   Zpc (Zpc (Zpc Ez x0 (by decide) 0 _) ((x1.other (by omega) _):Boxed _ _ _ _) (by decide) 0 _) (((x2.other (by omega) _).other (by omega) _):Boxed _ _ _ _) (by decide) 0 _
  have Ra:Below w.heap.size w (((W.setCell ⟨w.heap.size,0,none⟩ (.slice ad7 M c7)).setCell ⟨w.heap.size+1,0,none⟩ (.int .i64 0)).setCell ⟨w.heap.size+1+1,0,none⟩ (.int .i64 0)):=((hB.setCell (p:=⟨w.heap.size,0,none⟩) (le_refl _) _).setCell (p:=⟨w.heap.size+1,0,none⟩) (by show w.heap.size≤w.heap.size+1;omega) _).setCell (p:=⟨w.heap.size+1+1,0,none⟩) (by show w.heap.size≤w.heap.size+1+1;omega) _;have Wf:=(((KeepsOthers.setCell W ⟨w.heap.size,0,none⟩ (.slice ad7 M c7)).trans (KeepsOthers.setCell _ ⟨w.heap.size+1,0,none⟩ (.int .i64 0))).trans (KeepsOthers.setCell _ ⟨w.heap.size+1+1,0,none⟩ (.int .i64 0))).same D _ hK rfl;have fK:=Hd Be;clear Be Kx Ez x0 x1 x2 hB At
  gi_wp2
  refine⟨by simp,.inl ⟨_,_,rfl,run_takeDeferred Wf,?_⟩⟩;have Jv:=cell_kept y0.cell (grownBy_putObj' _ D (.deferred none)) (fun r e=>by cases e;exact⟨_,Wf,rfl⟩);have Gy:=cell_kept y1.cell (grownBy_putObj' _ D (.deferred none)) (fun r e=>by cases e;exact⟨_,Wf,rfl⟩);have Fz:=cell_kept y2.cell (grownBy_putObj' _ D (.deferred none)) (fun r e=>by cases e;exact⟨_,Wf,rfl⟩);refine⟨.tuple #[.slice ad7 M c7,.int .i64 0,.int .i64 0],by simp[results,Tryz.f26,go_sem,Jv,Gy,Fz],Ra.trans (belowK_b (w:=w) (le_refl _) _ D _ _ (by omega) Wf rfl rfl),M,Dz,fD,.inl ⟨fun k hk=>fK.out _ (List.mem_map.2 ⟨k,List.mem_range.2 hk,rfl⟩),ad7,c7,rfl,ownsRow_putObj Xs _ Wf rfl⟩⟩
 case stop=>
  rintro D c pre W hD ⟨k,hk,rfl⟩ ⟨⟨rfl,ini,last,e1,e2,x0,x1,x2⟩,hB⟩ hK;have Cd:1≤k:=by
   have:=congrArg List.length e1;rw[Ze0,List.length_append]at this;simp at this;omega
  obtain⟨q,rfl⟩:∃q,k=q+1:=⟨k - 1,by omega⟩;rw[Zlo]at e1;have M2:Za9 l q=last:=by
   have:=congrArg List.getLast? e1
   simpa using this
  have mW:Hid (M=q+1):=by
   rcases Nat.lt_or_ge (q+1) M with h1|h1
   ·exact absurd (Dz.2.1 q h1) (by rw[M2];exact e2)
   ·unfold Hid;omega
  have HL:Hid (Za9 l (M - 1)=last):=by unfold Hid;rw[mW.out];exact M2
  have Jh:=Hd e2;clear e1 M2 hk e2
  gi_wp2
  refine⟨by simp,.inl ⟨_,_,rfl,run_takeDeferred hK,?_⟩⟩;have Jv:=cell_kept x0.cell (grownBy_putObj' _ D (.deferred none)) (fun r e=>by cases e;exact⟨_,hK,rfl⟩);have Gy:=cell_kept x1.cell (grownBy_putObj' _ D (.deferred none)) (fun r e=>by cases e;exact⟨_,hK,rfl⟩);have Fz:=cell_kept x2.cell (grownBy_putObj' _ D (.deferred none)) (fun r e=>by cases e;exact⟨_,hK,rfl⟩);refine⟨.tuple #[.slice none 0 0,.int .i64 (last.2.2.1:Int),.int .i64 (last.2.2.2:Int)],by simp[results,Tryz.f26,go_sem,Jv,Gy,Fz],hB.trans (belowK_b (w:=w) (le_refl _) _ D _ _ (by omega) hK rfl rfl),M,Dz,fD,.inr ⟨by rw[mW.out];omega,by rw[HL.out];exact Jh.out,by rw[HL.out]⟩⟩
open Go.RowKit
theorem Zk2 {l:List UInt8} {M N:Nat} (h:Zgn l M)(hN:∀k,k<N→Zan l k<l.length∧(Za9 l k).2.2.2=0)(hE:l.length≤Zan l N):M=N:=by
 rcases Nat.lt_trichotomy M N with h1|h1|h1
 ·rcases h.2.2 with⟨h2,_⟩|⟨h2,h3⟩
  ·have:=(hN M h1).1;omega
  ·exact absurd (hN (M - 1) (by omega)).2 h3
 ·exact h1
 ·have:=h.1 N h1;omega
theorem Zi7 {l:List UInt8} {i:Nat} (h:Zbu (l.drop (i+1))=none):Zbj l i=Zbg i 3:=by unfold Zbj;rw[h]
theorem Zfk {l:List UInt8} {i n:Nat} (h:Zbu (l.drop (i+1))=some n):Zbj l i=if(Zay ((l.drop (i+1)).take n)).2.2≠0 then Zbg (i+1+(Zay ((l.drop (i+1)).take n)).2.1) 3 else if 400<(Zay ((l.drop (i+1)).take n)).1.length then Zbg i 6
   else if Lib.validD (Zay ((l.drop (i+1)).take n)).1=false then Zbg i 4 else((2,(Zay ((l.drop (i+1)).take n)).1,i),n+2,0,0):=by unfold Zbj;rw[h]
attribute [local go_sem] Ext.cell Ext.frozen
attribute [local go_sem ↓] Go.wp_at_zero Go.wp_at_succ
structure TkAt (w:World) (ad:Option Addr) (n:Nat) (xs:List Nx) (b off:Nat):Prop where
 len:xs.length=n
 max:n≤1000000
 adr:n≠0→ad=some ⟨b,off,none⟩
 c0:∀i,i<n→w.cell? ⟨b,off+i *3,none⟩=some (.int .i64 ((xs.getD i (Zbg 0 0)).1.1:Int))
 c1:∀i,i<n→w.cell? ⟨b,off+i *3+1,none⟩=some (.string (bs (xs.getD i (Zbg 0 0)).1.2.1))
 c2:∀i,i<n→w.cell? ⟨b,off+i *3+2,none⟩=some (.int .i64 ((xs.getD i (Zbg 0 0)).1.2.2:Int))
theorem Zux (xs:List Nx):(Zdl xs).length=xs.length *3:=by
 induction xs with
 |nil=>rfl
 |cons x xs ih=>simp only[Zdl,List.flatMap_cons,List.length_append,length_cons,length_nil]at ih⊢;omega
theorem Zhs:∀(xs:List Nx) (i:Nat),i<xs.length→(Zdl xs)[i *3]? =some (.int .i64 ((xs.getD i (Zbg 0 0)).1.1:Int))∧(Zdl xs)[i *3+1]? =some (.string (bs (xs.getD i (Zbg 0 0)).1.2.1))∧(Zdl xs)[i *3+2]? =some (.int .i64 ((xs.getD i (Zbg 0 0)).1.2.2:Int))
 |[],i,h=>absurd h (not_lt_zero _)
 |x::xs,0,_=>⟨rfl,rfl,rfl⟩
 |x::xs,i+1,h=>by
  have:=Zhs xs i (by simpa using h);rw[show(i+1)*3=i *3+1+1+1 by omega];exact this
theorem Zaii {w:World} {base:Nat} {E:TypeId} {ad:Option Addr} {n c:Nat} {xs:List Nx} (h:w.ownsRow base E 3 (.slice ad n c) n (Zdl xs))(hm:n≤1000000):∃b,TkAt w ad n xs b 0:=by
 have hl:xs.length=n:=by have:=h.1;rw[Zux]at this;omega
 obtain⟨_,⟨h1,h2⟩|⟨g,cap,cur,h1,h2,h3,h4,h5,h6,h7⟩⟩:=h
 ·subst h2;exact⟨0,hl,hm,fun h=>absurd rfl h,fun i hi=>absurd hi (not_lt_zero _),fun i hi=>absurd hi (not_lt_zero _),fun i hi=>absurd hi (not_lt_zero _)⟩
 ·injection h1 with e1 e2 e3;subst e1;have key:∀j v,j<n *3→(Zdl xs)[j]? =some v→w.cell? ⟨g,0+j,none⟩=some v:=fun j v hj hv=>by
   rw[Nat.zero_add];rw[←h7,List.getElem?_take,if_pos hj]at hv;simp only[World.cell?,h3];rw[Array.getElem?_toList]at hv
   simpa using hv
  exact⟨g,hl,hm,fun _=>rfl,fun i hi=>key _ _ (by omega) (Zhs xs i (by omega)).1,
   fun i hi=>by have:=key _ _ (by omega) (Zhs xs i (by omega)).2.1;rwa [←Nat.add_assoc]at this,
   fun i hi=>by have:=key _ _ (by omega) (Zhs xs i (by omega)).2.2;rwa [←Nat.add_assoc]at this⟩
end Go.Proofs.YtmleeodfmmpdgaaGreatDoor
