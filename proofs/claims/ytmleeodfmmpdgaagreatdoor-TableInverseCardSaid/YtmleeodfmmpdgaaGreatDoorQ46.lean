/- part -/
import Derived.Test.YtmleeodfmmpdgaaGreatDoorQ00
import Derived.Laws.AppendOwnNone
namespace Go.Proofs.YtmleeodfmmpdgaaGreatDoor
open Go.RowKit
open _root_.Nat (le_refl lt_or_ge)
open _root_.Go.Proofs.Tryz
section
variable {P : Program} {ops : Array Oper} {Q : Exit → Act → World → Prop}
def StepsOk (P:Program)(ops:Array Oper)(Q:Exit→Act→World→Prop)(J:Array Bool→Act→World→Prop):Nat→List Oper→Prop
 |_,[]=>True
 |i,o::r=>(∀L a w,L.size=ops.size→L.getD i true=false→(∀e∈o.after,Region.binds .any e=true→L.getD e.on false=true)→J L a w→
   if Region.wanted o (yielded ops a.tmps)=true then o.wp P a w (J (L.setIfInBounds i true)) Q else J (L.setIfInBounds i true) (a.put o.dst undef) w)∧StepsOk P ops Q J (i+1) r
theorem StepsOk.at {J:Array Bool→Act→World→Prop} :∀(l:List Oper) (k:Nat),StepsOk P ops Q J k l→∀(i:Nat) (o:Oper),l[i]? =some o→∀L a w,L.size=ops.size→L.getD (k+i) true=false→
  (∀e∈o.after,Region.binds .any e=true→L.getD e.on false=true)→J L a w→
  if Region.wanted o (yielded ops a.tmps)=true then o.wp P a w (J (L.setIfInBounds (k+i) true)) Q else J (L.setIfInBounds (k+i) true) (a.put o.dst undef) w
 |[],_,_,i,o,h=>by simp at h
 |o'::r,k,hs,0,o,h=>by
  simp at h;subst h;exact hs.1
 |o'::r,k,hs,i+1,o,h=>by
  have:=StepsOk.at r (k+1) hs.2 i o (by simpa using h)
  rwa [show k+1+i=k+(i+1) by omega]at this
def Zmm (ops:List Oper):Nat→Bool
 |0=>true
 |n+1=>Zmm ops n&&(match ops[n]? with|some o=>o.after.toList.all (fun e=> !Region.binds .any e||decide (e.on<n))|none=>true)
theorem Zou {l:List Oper} :∀ {n:Nat},Zmm l n=true→∀i o,i<n→l[i]? =some o→∀e∈o.after,Region.binds .any e=true→e.on<i
 |0,_,i,_,h,_=>by omega
 |n+1,hd,i,o,h,ho=>by
  simp only[Zmm,Bool.and_eq_true]at hd
  by_cases e:i=n
  ·subst e;have h2:=hd.2;rw[ho]at h2;simp only[List.all_eq_true,Bool.or_eq_true,decide_eq_true_eq]at h2;intro e he hb;rcases h2 e (by simpa using he)with h3|h3
   ·rw[hb]at h3;cases h3
   ·exact h3
  ·exact Zou hd.1 i o (by omega) ho
theorem Zr8 {l:List Oper} (hd:Zmm l l.length=true) {L:Array Bool} (hL:L.size=l.length)(h:∃i,i<l.length∧L.getD i true=false):Region.ready .any l.toArray L≠[]:=by
 intro h0;have key:∀n i,i<n→i<l.length→L.getD i true=true:=by
  intro n;induction n with
  |zero=>intro i hi;omega
  |succ n ih=>
   intro i hi hl
   by_cases uP:i<n
   ·exact ih i uP hl
   ·cases hb:L.getD i true with
    |true=>rfl
    |false=>
     have hm:i∈Region.ready .any l.toArray L:=by
      rw[mem_ready];refine⟨hb,l[i],by simp[hl],fun e he gL=>?_⟩;have:=Zou hd i l[i] hl (by simp[hl]) e he gL;have h2:=ih e.on (by omega) (by omega);have h3:e.on<L.size:=by omega
      simp only[Array.getD,h3,dif_pos]at h2⊢;exact h2
     rw[h0]at hm;cases hm
 obtain⟨i,hi,hb⟩:=h;rw[key (i+1) i (by omega) hi]at hb;cases hb
theorem Zq2:∀(l:List Bool) (i:Nat),l[i]? =some false→((l.set i true).filter (· ==false)).length+1=(l.filter (· ==false)).length
 |[],i,h=>by simp at h
 |x::l,0,h=>by
  simp at h;subst h;simp
 |x::l,i+1,h=>by
  have:=Zq2 l i (by simpa using h);cases x <;> simp[List.set_cons_succ]at this⊢ <;> omega
theorem Zsv {l:List Oper} (hd:Zmm l l.length=true) {J:Array Bool→Act→World→Prop} (hs:StepsOk P l.toArray Q J 0 l)
  (Dr:∀L a w,(∀i,i<l.length→L.getD i false=true)→J L a w→Q .normal a w):∀(fuel:Nat) (L:Array Bool) (a:Act) (w:World),L.size=l.length→(L.toList.filter (· ==false)).length≤fuel→J L a w→
  wpAny P .any l.toArray Q fuel L a w:=by
 have done:∀(L:Array Bool) (a:Act) (w:World),L.size=l.length→Region.ready .any l.toArray L=[]→J L a w→Q .normal a w:=by
  intro L a w hL hr hJ;refine Dr L a w (fun i hi=>?_) hJ;have h1:L.getD i true=true:=by
   cases hb:L.getD i true with
   |true=>rfl
   |false=>exact absurd hr (Zr8 hd hL ⟨i,hi,hb⟩)
  have h3:i<L.size:=by omega
  simp only[Array.getD,h3,dif_pos]at h1⊢;exact h1
 intro fuel;induction fuel with
 |zero=>
  intro L a w hL hf hJ;have hr:Region.ready .any l.toArray L=[]:=by
   apply List.eq_nil_iff_forall_not_mem.2
   intro i hi;have h1:=(mem_ready.1 hi).1;have h2:i<L.size:=by
    rcases lt_or_ge i L.size with h|h
    ·exact h
    ·simp[Array.getD,Nat.not_lt.2 h]at h1
   simp only[Array.getD,h2,dif_pos]at h1;have h3:false∈L.toList.filter (· ==false):=by
    rw[List.mem_filter];refine⟨?_,rfl⟩;have:L[i]∈L.toList:=Array.getElem_mem_toList h2;have uQ:L[i]=false:=h1
    rwa [uQ]at this
   have:=List.length_pos_of_mem h3;omega
  exact⟨hr,done L a w hL hr hJ⟩
 |succ fuel ih=>
  intro L a w hL hf hJ;refine⟨fun hr=>done L a w hL hr hJ,fun i hi=>?_⟩;obtain⟨h1,o,ho,hp⟩:=mem_ready.1 hi;have h2:i<L.size:=by
   rcases lt_or_ge i L.size with h|h
   ·exact h
   ·simp[Array.getD,Nat.not_lt.2 h]at h1
  have Aa:i<l.length:=by omega
  have Jf:=StepsOk.at l 0 hs i o (by simpa using ho) L a w (by simpa using hL) (by simpa using h1) hp hJ;rw[Nat.zero_add]at Jf;have Oq:((L.setIfInBounds i true).toList.filter (· ==false)).length≤fuel:=by
   have uR:L[i]=false:=by simpa [Array.getD,h2]using h1
   have:=Zq2 L.toList i (by simp[h2,uR]);rw[Array.toList_setIfInBounds];omega
  have Am:(L.setIfInBounds i true).size=l.length:=by simpa using hL
  unfold wpOp;simp only[ho];split
  ·rename_i hw;rw[if_pos hw]at Jf;exact .inl (Oper.wp_mono (fun a' w' uS=>ih _ a' w' Am Oq uS) Jf)
  ·rename_i hw;rw[if_neg hw]at Jf;exact ih _ _ _ Am Oq Jf
structure Fr (a0 a:Act) (ds:List Nat):Prop where
 defers:a.defers=a0.defers
 size:a.tmps.size=a0.tmps.size
 rest:∀t,t∉ds→a.tmps.getD t undef=a0.tmps.getD t undef
def Tab (T:List (Nat×Nat×Value))(L:Array Bool)(a:Act):Prop:=∀x∈T,L.getD x.1 false=true→a.tmps.getD x.2.1 undef=x.2.2
theorem Zc4 {a:Act} {d:Nat} {v:Value} (h:d<a.tmps.size):(a.put (some d) v).tmps.getD d undef=v:=by
 simp[Act.put,h]
theorem Za3 {a:Act} {d t:Nat} {v:Value} (h:d≠t):(a.put (some d) v).tmps.getD t undef=a.tmps.getD t undef:=by
 simp[Act.put,Array.getD_eq_getD_getElem?,h]
theorem Fr.put {a0 a:Act} {ds:List Nat} (h:Fr a0 a ds) {d:Nat} (hd:d∈ds)(v:Value):Fr a0 (a.put (some d) v) ds:=
 ⟨h.defers,by simpa [Act.put]using h.size,fun t ht=>by rw[Za3 (fun e=>ht (by rw[←e];exact hd))];exact h.rest t ht⟩
theorem Tab.put {T:List (Nat×Nat×Value)} {L:Array Bool} {a:Act} (h:Tab T L a) {i d:Nat} {v:Value} (hd:d<a.tmps.size)(_hi:i<L.size)(hT:∀x∈T,(x.1=i↔x.2.1=d)∧(x.1=i→x.2.2=v)):
  Tab T (L.setIfInBounds i true) (a.put (some d) v):=by
 intro x hx hL
 by_cases e:x.1=i
 ·rw[((hT x hx).1.1 e),Zc4 hd,(hT x hx).2 e]
 ·rw[Za3 (fun e'=>e ((hT x hx).1.2 e'.symm))];refine h x hx ?_;have:L.getD x.1 false=(L.setIfInBounds i true).getD x.1 false:=by
   simp[Array.getD_eq_getD_getElem?,Ne.symm e]
  rw[this];exact hL
theorem Za0 {L:Array Bool} {i k:Nat} (h:i≠k):(L.setIfInBounds i true).getD k false=L.getD k false:=by
 simp[Array.getD_eq_getD_getElem?,h]
theorem Zeg {L:Array Bool} {i:Nat} (h:i<L.size):(L.setIfInBounds i true).getD i false=true:=by
 simp[h]
theorem Zgb {o:Oper} {a:Act} {w w':World} {v:Value} {K:Act→World→Prop} (h:(execOp a.eval o).run P w= .ok (.value v) w')(hK:K (a.put o.dst v) w'):o.wp P a w K Q:=by
 unfold Oper.wp;rw[h];exact hK
theorem Zrg {c:Code} {a:Act} {w:World} (h:∀A0,A0=a→c.wp P Q A0 w):c.wp P Q a w:=h a rfl
theorem Zahf {a b:Act} (h1:a.defers=b.defers)(h2:a.tmps.size=b.tmps.size)(h3:∀t,a.tmps.getD t undef=b.tmps.getD t undef):a=b:=by
 cases a;cases b;simp only at h1 h2 h3;subst h1;congr 1
 apply Array.ext h2
 intro i uT Oz;have:=h3 i
 simpa [Array.getD,uT,Oz]using this
def Zpi (l:List (Nat×Value))(a:Act):Act:=l.foldl (fun A x=>A.put (some x.1) x.2) a
theorem Zmr:∀(l:List (Nat×Value)) (a:Act),(Zpi l a).defers=a.defers
 |[],_=>rfl
 |x::l,a=>Zmr l (a.put (some x.1) x.2)
theorem Zr2:∀(l:List (Nat×Value)) (a:Act),(Zpi l a).tmps.size=a.tmps.size
 |[],_=>rfl
 |x::l,a=>(Zr2 l (a.put (some x.1) x.2)).trans (by simp[Act.put])
theorem Zk3:∀(l:List (Nat×Value)) (a:Act) (t:Nat),(∀x∈l,x.1≠t)→(Zpi l a).tmps.getD t undef=a.tmps.getD t undef
 |[],_,_,_=>rfl
 |x::l,a,t,h=>(Zk3 l (a.put (some x.1) x.2) t (fun y hy=>h y (by simp[hy]))).trans (Za3 (h x (by simp)))
theorem Zr3:∀(l:List (Nat×Value)) (a:Act),(l.map (·.1)).Nodup→(∀x∈l,x.1<a.tmps.size)→∀x∈l,(Zpi l a).tmps.getD x.1 undef=x.2
 |[],_,_,_,x,hx=>by cases hx
 |y::l,a,hn,Aa,x,hx=>by
  simp only[List.map_cons,List.nodup_cons]at hn;rcases List.mem_cons.1 hx with e|e
  ·subst e;exact(Zk3 l (a.put (some x.1) x.2) x.1 (fun z hz e=>hn.1 (by rw[←e];exact List.mem_map_of_mem hz))).trans (Zc4 (Aa x (by simp)))
  ·exact Zr3 l (a.put (some y.1) y.2) hn.2 (fun z hz=>by simpa [Act.put]using Aa z (by simp[hz])) x e
theorem Fr.eq_puts {A0 a:Act} {ds:List Nat} (h:Fr A0 a ds)(l:List (Nat×Value))(hl:l.map (·.1)=ds)(hn:ds.Nodup)(Aa:∀d∈ds,d<A0.tmps.size)(hv:∀x∈l,a.tmps.getD x.1 undef=x.2):a=Zpi l A0:=by
 subst hl;refine Zahf (by rw[h.defers,Zmr]) (by rw[h.size,Zr2]) (fun t=>?_)
 by_cases ht:t∈l.map (·.1)
 ·obtain⟨x,hx,rfl⟩:=List.mem_map.1 ht;rw[hv x hx,Zr3 l A0 hn (fun z hz=>Aa _ (List.mem_map_of_mem hz)) x hx]
 ·rw[h.rest t ht,Zk3 l A0 t (fun x hx e=>ht (by rw[←e];exact List.mem_map_of_mem hx))]
theorem Fr.ev {A0 a:Act} {ds:List Nat} (h:Fr A0 a ds) {t:Nat} {v:Value} (ht:t∉ds)(hv:A0.tmps.getD t undef=v):a.eval (.tmp t)=v:=(h.rest t ht).trans hv
theorem Tab.ev {T:List (Nat×Nat×Value)} {L:Array Bool} {a:Act} (h:Tab T L a) {i d:Nat} {v:Value} (hx:(i,d,v)∈T)(hL:L.getD i false=true):a.eval (.tmp d)=v:=h _ hx hL
theorem Zads {o:Oper} {y:Nat→Option Bool} {X Y:Prop} (hg:o.guard=none)(h:X):if Region.wanted o y=true then X else Y:=by
 rw[if_pos (by simp[Region.wanted,hg])];exact h
theorem Zaga {o:Oper} {a:Act} {w:World} {K:Act→World→Prop} (x:Operand)(ho:o.op= .move x) {v:Value} (hx:a.eval x=v)(hK:K (a.put o.dst v) w):o.wp P a w K Q:=
 Zgb (by rw[BigFrame.run_move x ho,hx]) hK
theorem Zjb {o:Oper} {a:Act} {w:World} {K:Act→World→Prop} (ty:TypeId)(x:Operand)(ho:o.op= .load ty x) {p v:Value} (hx:a.eval x=p)(hl:(Instr.loadAt ty p).run P w= .ok v w)(hK:K (a.put o.dst v) w):o.wp P a w K Q:=by
 refine Zgb (v:=v) (w':=w) ?_ hK;unfold execOp;simp[ho,hx,hl]
theorem Zrs {o:Oper} {a:Act} {w w':World} {K:Act→World→Prop} (ty:TypeId)(x y:Operand)(ho:o.op= .store ty x y) {p v:Value} (hx:a.eval x=p)(hy:a.eval y=v)(hl:(Instr.storeAt ty p v).run P w= .ok () w')(hK:K (a.put o.dst undef) w'):o.wp P a w K Q:=by
 unfold Oper.wp execOp;simp only[ho,hx,hy,Sem.run_bind,Sem.run_pure,hl,Result.andThen_ok];exact hK
theorem Ztu {o:Oper} {a:Act} {w:World} {K:Act→World→Prop} (ty:TypeId)(x y:Operand)(ho:o.op= .indexAddr ty x y) {p i v:Value} (hx:a.eval x=p)(hy:a.eval y=i)(hl:(Instr.indexAt ty p i).run P w= .ok v w)(hK:K (a.put o.dst v) w):o.wp P a w K Q:=by
 refine Zgb (v:=v) (w':=w) ?_ hK;unfold execOp;simp[ho,hx,hy,hl]
theorem Zu5 {o:Oper} {a:Act} {w w':World} {K:Act→World→Prop} (ty:TypeId)(ho:o.op= .alloc ty) {v:Value} (hl:(Instr.alloc ty true (.tuple #[])).run P w= .ok v w')(hK:K (a.put o.dst v) w'):o.wp P a w K Q:=by
 refine Zgb (v:=v) (w':=w') ?_ hK;unfold execOp;simp[ho,hl]
theorem Zlh {o:Oper} {a:Act} {w:World} {K:Act→World→Prop} (ty:TypeId)(x:Operand)(n:Nat)(ho:o.op= .fieldAddr ty x n) {p v:Value} (hx:a.eval x=p)(hl:(Instr.fieldAt ty p n).run P w= .ok v w)(hK:K (a.put o.dst v) w):o.wp P a w K Q:=by
 refine Zgb (v:=v) (w':=w) ?_ hK;unfold execOp;simp[ho,hx,hl]
theorem Zr4 {id:Nat} {l:List Oper} {a:Act} {w:World} (J:Array Bool→Act→World→Prop)(hm:P.follows .mixedOrders=true)(hd:Zmm l l.length=true)
  (h0:J (Array.replicate l.length false) a w.drew) (hs:StepsOk P l.toArray Q J 0 l)
  (Dr:∀L a w,(∀i,i<l.length→L.getD i false=true)→J L a w→Q .normal a w):(Code.region id l.toArray true).wp P Q a w:=by
 refine wp_region_any hm ?_;refine Zsv hd hs Dr _ _ _ _ (by simp) ?_ h0;have:=List.length_filter_le (· ==false) (Array.replicate l.toArray.size false).toList;simp at this⊢
end
theorem Zabj:(prog.info? 51).map (fun i=>(i.zero,i.size,i.bytes))=some (some (.agg #[.string .empty,.slice none 0 0]),2,40):=by kernel_rfl
theorem Zyo:prog.cellsOf 51=2:=by kernel_rfl
def Zbr (f:Nat→Nat→Value):Nat→List Value
 |0=>[]
 |n+1=>Zbr f n++[f n 0,f n 1]
theorem Zfn (f:Nat→Nat→Value):∀n,(Zbr f n).length=n *2
 |0=>rfl
 |n+1=>by rw[Zbr,List.length_append,Zfn f n];simp;omega
theorem Zh7 (f:Nat→Nat→Value):∀(n i:Nat),i<n→(Zbr f n)[i *2]? =some (f i 0)∧(Zbr f n)[i *2+1]? =some (f i 1)
 |0,i,h=>absurd h (Nat.not_lt_zero _)
 |n+1,i,h=>by
  have hl:=Zfn f n;rw[Zbr];rcases lt_or_ge i n with h1|h1
  ·obtain⟨a,b⟩:=Zh7 f n i h1;rw[List.getElem?_append_left (by omega),List.getElem?_append_left (by omega)];exact⟨a,b⟩
  ·obtain rfl:i=n:=by omega
   rw[List.getElem?_append_right (by omega),List.getElem?_append_right (by omega),hl];simp
theorem Zlr (f:Nat→Nat→Value):∀(n:Nat),(∀i,i<n→(f i 0).oneCell'=true∧(f i 1).oneCell'=true)→∀u∈Zbr f n,u.oneCell'=true
 |0,_,u,h=>by cases h
 |n+1,hf,u,h=>by
  rw[Zbr,List.mem_append]at h;rcases h with h|h
  ·exact Zlr f n (fun i hi=>hf i (by omega)) u h
  ·simp only[List.mem_cons,List.not_mem_nil,or_false]at h;rcases h with h|h
   ·rw[h];exact(hf n (by omega)).1
   ·rw[h];exact(hf n (by omega)).2
theorem Rw.news {w:World} {a:Addr} {n:Nat} {f b off} (h:Rw w (some a) n 2 f b off):∀j u,(Zbr f n)[j]? =some u→w.cell? (a.add j)=some u:=by
 intro j u hu;have hj:j<(Zbr f n).length:=(List.getElem?_eq_some_iff.1 hu).1;rw[Zfn]at hj;have ha:a=⟨b,off,none⟩:=by have:=h.adr (by omega);injection this
 have eM:a.add j=⟨b,off+j,none⟩:=by
  rw[ha];unfold Addr.add;split
  ·rename_i h;subst h;rfl
  ·rfl
 have hi:j / 2<n:=by omega
 obtain⟨h0,h1⟩:=Zh7 f n (j / 2) hi;rw[eM];rcases Nat.mod_two_eq_zero_or_one j with hm|hm
 ·rw[show j / 2 *2=j by omega]at h0;rw[←hu,h0,show off+j=off+j / 2 *2+0 by omega];exact h.cell _ 0 hi (by omega)
 ·rw[show j / 2 *2+1=j by omega]at h1;rw[←hu,h1,show off+j=off+j / 2 *2+1 by omega];exact h.cell _ 1 hi (by omega)
theorem Zz5 {w:World} {base:Nat} {E:TypeId} {v:Value} {n:Nat} {xs:List Value} (h:w.ownsRow base E 2 v n xs):∃ad c,v= .slice ad n c:=by
 obtain⟨_,⟨rfl,rfl⟩|⟨g,cap,cur,rfl,_⟩⟩:=h
 ·exact⟨_,_,rfl⟩
 ·exact⟨_,_,rfl⟩
theorem Zm4 {o:Oper} {a:Act} {K:Act→World→Prop} {Q:Exit→Act→World→Prop} {w:World} (s x:Operand)
  (ho:o.op= .call { callee:= .builtin .append,args:= #[s,x],argTypes:= #[38,38] })
  (base:Nat) (ad:Option Addr) (n c:Nat) (xs:List Value) (hs:a.eval s= .slice ad n c) (Ab:w.ownsRow base 51 2 (.slice ad n c) n xs)
  (ad2:Option Addr) (n2 c2:Nat) (f:Nat→Nat→Value) (b2 off2:Nat) (hx:a.eval x= .slice ad2 n2 c2) (hr:Rw w ad2 n2 2 f b2 off2) (Fz:ad2=none→c2=0)
  (lN:∀i,i<n2→(f i 0).oneCell'=true∧(f i 1).oneCell'=true) (hn:n+n2≤1000) (Bn:base≤w.heap.size)
  (h:∀ad' c' w',w'.ownsRow base 51 2 (.slice ad' (n+n2) c') (n+n2) (xs++Zbr f n2)→w.grownBy w' (Value.ownBlock (.slice ad n c))→
   (Value.ownBlock (.slice ad' (n+n2) c')=Value.ownBlock (.slice ad n c)∨∀g,Value.ownBlock (.slice ad' (n+n2) c')=some g→w.heap.size≤g)→K (a.put o.dst (.slice ad' (n+n2) c')) w'):o.wp prog a w K Q:=by
 obtain⟨i0,hi,Cc,Ba,A7⟩:=info_parts Zabj;cases ad2 with
 |none=>
  have h0:n2=0:=by
   rcases Nat.eq_zero_or_pos n2 with h|h
   ·exact h
   ·have:=hr.adr (by omega);cases this
  obtain rfl:=Fz rfl;subst h0;have Dz:=run_append_owned_none (P:=prog) (w:=w) base 38 o.type 51 i0 2 underlying38 hi (.slice ad n c) n xs Ab;unfold Oper.wp;simp[execOp,ho,resolve,invoke,builtin,hs,hx,Dz,Result.andThen];exact h ad c w (by simpa [Zbr]using Ab) (World.grownBy.refl _ _) (.inl rfl)
 |some A2=>
  obtain⟨v',w',Dz,h1,h2,_,h4⟩:=run_append_own_at (P:=prog) (w:=w) base 38 o.type 51 i0 (.agg #[.string .empty,.slice none 0 0]) 2 40 underlying38 hi Cc Ba A7 rfl (by omega) (.slice ad n c) n xs Ab A2 n2 c2 (Zbr f n2) (Zfn f n2) hr.news (Zlr f n2 lN) (by unfold maxLen;omega) (by omega) Bn;unfold Oper.wp;simp[execOp,ho,resolve,invoke,builtin,hs,hx,Dz,Result.andThen];obtain⟨ad',c',rfl⟩:=Zz5 h1;refine h ad' c' w' h1 h2 ?_;rcases h4 with h4|h4
  ·exact .inl h4
  ·exact .inr fun g hg=>by rw[h4]at hg;injection hg with hg;omega
def dsR:List Nat:=[70,71,72,73,74,75,76,77,78,79,6]
structure JR (A0:Act) (T:List (Nat×Nat×Value)) (w0:World) (n3 n4 k:Nat) (xs ys:List Value) (r0 r1:Value) (L:Array Bool) (a:Act) (w:World):Prop where
 fr:Fr A0 a dsR
 tab:Tab T L a
 bel:Below w0.heap.size w0 w
 o3:L.getD 3 false=true→L.getD 0 false=true
 o6:L.getD 6 false=true→L.getD 3 false=true
 o8:L.getD 8 false=true→L.getD 6 false=true
 s0:L.getD 0 false=true→L.getD 3 false=false→∃ad c,a.tmps.getD 70 undef= .slice ad 0 c∧w.ownsRow w0.heap.size 51 2 (.slice ad 0 c) 0 []
 s3:L.getD 3 false=true→L.getD 6 false=false→∃ad c,a.tmps.getD 73 undef= .slice ad n3 c∧w.ownsRow w0.heap.size 51 2 (.slice ad n3 c) n3 xs
 s6:L.getD 6 false=true→∃ad c,a.tmps.getD 76 undef= .slice ad (n3+n4) c∧w.ownsRow w0.heap.size 51 2 (.slice ad (n3+n4) c) (n3+n4) (xs++ys)
 s8:L.getD 8 false=true→∃g,a.tmps.getD 78 undef= .pointer (some ⟨g,k *2,none⟩)∧w0.heap.size≤g∧w.cell? ⟨g,k *2,none⟩=some r0∧w.cell? ⟨g,k *2+1,none⟩=some r1
 box:L.getD 10 false=true→∃B,a.tmps.getD 6 undef= .pointer (some ⟨B,0,none⟩)∧w0.heap.size≤B∧w.heap[B]? =some (.cells #[.string .empty,.slice none 0 0] 51 (0,0))∧
  (L.getD 0 false=true→(a.tmps.getD 70 undef).ownBlock≠some B)∧(L.getD 3 false=true→(a.tmps.getD 73 undef).ownBlock≠some B)
 lo:∀(j d:Nat),(j=0∧d=70)∨(j=3∧d=73)→L.getD j false=true→∀B,(a.tmps.getD d undef).ownBlock=some B→B<w.heap.size
section
variable {A0 : Act} {T : List (Nat × Nat × Value)} {w0 : World} {n3 n4 k : Nat} {xs ys : List Value} {r0 r1 : Value} {L : Array Bool} {a : Act} {w : World}
theorem Zgi {w w':World} {base size:Nat} {E:TypeId} {v:Value} {n:Nat} {xs:List Value} (h:w.ownsRow base E size v n xs)(hb:Below w.heap.size w w'):w'.ownsRow base E size v n xs:=by
 refine⟨h.1,?_⟩;rcases h.2 with h2|⟨g,cap,cur,h1,h2,h3,h4,h5,h6,h7⟩
 ·exact .inl h2
 ·have hg:g<w.heap.size:=by
   rcases lt_or_ge g w.heap.size with h'|h'
   ·exact h'
   ·simp[Array.getElem?_eq_none h']at h3
  exact .inr ⟨g,cap,cur,h1,h2,(hb.block g hg).trans h3,h4,h5,h6,h7⟩
theorem JR.det (h:JR A0 T w0 n3 n4 k xs ys r0 r1 L a w)(hA:79<A0.tmps.size)(hL:L.size=12)(i d:Nat)(v:Value)
  (hi:i<12) (i0:i≠0) (i3:i≠3) (i6:i≠6) (i8:i≠8) (i10:i≠10) (hd:d∈dsR) (d70:d≠70) (d73:d≠73) (d76:d≠76) (d78:d≠78) (d6:d≠6) (hT:∀x∈T,(x.1=i↔x.2.1=d)∧(x.1=i→x.2.2=v)):
  JR A0 T w0 n3 n4 k xs ys r0 r1 (L.setIfInBounds i true) (a.put (some d) v) w:=by
 have Hf:d<a.tmps.size:=by rw[h.fr.size];simp[dsR]at hd;omega
 refine⟨h.fr.put hd v,h.tab.put Hf (by omega) hT,h.bel,?_,?_,?_,?_,?_,?_,?_,?_,?_⟩
 ·rw[Za0 i3,Za0 i0];exact h.o3
 ·rw[Za0 i6,Za0 i3];exact h.o6
 ·rw[Za0 i8,Za0 i6];exact h.o8
 ·rw[Za0 i0,Za0 i3,Za3 d70];exact h.s0
 ·rw[Za0 i3,Za0 i6,Za3 d73];exact h.s3
 ·rw[Za0 i6,Za3 d76];exact h.s6
 ·rw[Za0 i8,Za3 d78];exact h.s8
 ·rw[Za0 i10,Za0 i0,Za0 i3,Za3 d6,Za3 d70,Za3 d73];exact h.box
 ·rintro j e (⟨rfl,rfl⟩|⟨rfl,rfl⟩) e1
  ·rw[Za0 i0]at e1;rw[Za3 d70];exact h.lo 0 70 (.inl ⟨rfl,rfl⟩) e1
  ·rw[Za0 i3]at e1;rw[Za3 d73];exact h.lo 3 73 (.inr ⟨rfl,rfl⟩) e1
theorem JR.op0 (h:JR A0 T w0 n3 n4 k xs ys r0 r1 L a w)(hA:79<A0.tmps.size)(hL:L.size=12)(h0:L.getD 0 false=false)(hT:∀x∈T,x.1≠0∧x.2.1≠70):
  JR A0 T w0 n3 n4 k xs ys r0 r1 (L.setIfInBounds 0 true) (a.put (some 70) (.slice (some ⟨w.heap.size,0,none⟩) 0 0)) (w.alloc (.cells #[] 51)):=by
 have Hf:70<a.tmps.size:=by rw[h.fr.size];omega
 have hb:Below w.heap.size w (w.alloc (.cells #[] 51)):=(Below.refl _ _).alloc (le_refl _) _;have hh:(w.alloc (.cells #[] 51)).heap[w.heap.size]? =some (.cells #[] 51 (0,0)):=by show(w.heap.push _)[w.heap.size]? =some _;simp
 refine⟨h.fr.put (by decide) _,h.tab.put Hf (by omega) (fun x hx=>?_),h.bel.trans (hb.mono h.bel.size),?_,?_,?_,?_,?_,?_,?_,?_,?_⟩
 ·obtain⟨h1,h2⟩:=hT x hx;exact⟨⟨fun e=>absurd e h1,fun e=>absurd e h2⟩,fun e=>absurd e h1⟩
 ·intro _;exact Zeg (by omega)
 ·rw[Za0 (by omega),Za0 (by omega)];exact h.o6
 ·rw[Za0 (by omega),Za0 (by omega)];exact h.o8
 ·intro _ _;exact⟨_,0,Zc4 Hf,rfl,.inr ⟨w.heap.size,0,#[],rfl,h.bel.size,hh,le_refl _,by unfold maxLen;omega,rfl,rfl⟩⟩
 ·rw[Za0 (by omega),Za0 (by omega),Za3 (by omega)];intro a1 a2;obtain⟨ad,c,e1,e2⟩:=h.s3 a1 a2;exact⟨ad,c,e1,Zgi e2 hb⟩
 ·rw[Za0 (by omega),Za3 (by omega)];intro a1;obtain⟨ad,c,e1,e2⟩:=h.s6 a1;exact⟨ad,c,e1,Zgi e2 hb⟩
 ·rw[Za0 (by omega),Za3 (by omega)];intro a1;have:=h.o3 (h.o6 (h.o8 a1));rw[h0]at this;cases this
 ·rw[Za0 (show 0≠10 by omega),Za0 (show 0≠3 by omega),Za3 (show 70≠6 by omega),Za3 (show 70≠73 by omega),Zc4 Hf];intro a1;obtain⟨B,e1,e2,e3,_,e5⟩:=h.box a1;have hB:=(Array.getElem?_eq_some_iff.1 e3).1;exact⟨B,e1,e2,(hb.block B hB).trans e3,fun _ e=>by simp[Value.ownBlock]at e;omega,e5⟩
 ·rintro j e (⟨rfl,rfl⟩|⟨rfl,rfl⟩) e1 B
  ·rw[Zc4 Hf];intro e2;simp[Value.ownBlock]at e2;have:=hb.size;simp at this⊢;omega
  ·rw[Za0 (by omega)]at e1;rw[Za3 (by omega)];intro e2;have:=h.lo 3 73 (.inr ⟨rfl,rfl⟩) e1 B e2;have:=hb.size;omega
theorem JR.op10 (h:JR A0 T w0 n3 n4 k xs ys r0 r1 L a w)(hA:79<A0.tmps.size)(hL:L.size=12)(hT:∀x∈T,x.1≠10∧x.2.1≠6):
  JR A0 T w0 n3 n4 k xs ys r0 r1 (L.setIfInBounds 10 true) (a.put (some 6) (.pointer (some ⟨w.heap.size,0,none⟩))) (w.alloc (.cells #[.string .empty,.slice none 0 0] 51)):=by
 have Hf:6<a.tmps.size:=by rw[h.fr.size];omega
 have hb:Below w.heap.size w (w.alloc (.cells #[.string .empty,.slice none 0 0] 51)):=(Below.refl _ _).alloc (le_refl _) _;have hh:(w.alloc (.cells #[.string .empty,.slice none 0 0] 51)).heap[w.heap.size]? =some (.cells #[.string .empty,.slice none 0 0] 51 (0,0)):=by show(w.heap.push _)[w.heap.size]? =some _;simp
 refine⟨h.fr.put (by decide) _,h.tab.put Hf (by omega) (fun x hx=>?_),h.bel.trans (hb.mono h.bel.size),?_,?_,?_,?_,?_,?_,?_,?_,?_⟩
 ·obtain⟨h1,h2⟩:=hT x hx;exact⟨⟨fun e=>absurd e h1,fun e=>absurd e h2⟩,fun e=>absurd e h1⟩
 ·rw[Za0 (by omega),Za0 (by omega)];exact h.o3
 ·rw[Za0 (by omega),Za0 (by omega)];exact h.o6
 ·rw[Za0 (by omega),Za0 (by omega)];exact h.o8
 ·rw[Za0 (by omega),Za0 (by omega),Za3 (by omega)];intro a1 a2;obtain⟨ad,c,e1,e2⟩:=h.s0 a1 a2;exact⟨ad,c,e1,Zgi e2 hb⟩
 ·rw[Za0 (by omega),Za0 (by omega),Za3 (by omega)];intro a1 a2;obtain⟨ad,c,e1,e2⟩:=h.s3 a1 a2;exact⟨ad,c,e1,Zgi e2 hb⟩
 ·rw[Za0 (by omega),Za3 (by omega)];intro a1;obtain⟨ad,c,e1,e2⟩:=h.s6 a1;exact⟨ad,c,e1,Zgi e2 hb⟩
 ·rw[Za0 (by omega),Za3 (by omega)];intro a1;obtain⟨g,e1,e2,e3,e4⟩:=h.s8 a1;have hg:=World.block_lt_of_cell? w _ e3;exact⟨g,e1,e2,(hb.cell (p:=⟨g,k *2,none⟩) hg).trans e3,(hb.cell (p:=⟨g,k *2+1,none⟩) hg).trans e4⟩
 ·rw[Za0 (show 10≠0 by omega),Za0 (show 10≠3 by omega),Za3 (show 6≠70 by omega),Za3 (show 6≠73 by omega),Zc4 Hf];intro _;exact⟨w.heap.size,rfl,h.bel.size,hh,fun e1 e2=>absurd (h.lo 0 70 (.inl ⟨rfl,rfl⟩) e1 _ e2) (Nat.lt_irrefl _),fun e1 e2=>absurd (h.lo 3 73 (.inr ⟨rfl,rfl⟩) e1 _ e2) (Nat.lt_irrefl _)⟩
 ·rintro j e (⟨rfl,rfl⟩|⟨rfl,rfl⟩) e1 B
  ·rw[Za0 (by omega)]at e1;rw[Za3 (by omega)];intro e2;have:=h.lo 0 70 (.inl ⟨rfl,rfl⟩) e1 B e2;have:=hb.size;omega
  ·rw[Za0 (by omega)]at e1;rw[Za3 (by omega)];intro e2;have:=h.lo 3 73 (.inr ⟨rfl,rfl⟩) e1 B e2;have:=hb.size;omega
theorem JR.op3 (h:JR A0 T w0 n3 n4 k xs ys r0 r1 L a w)(hA:79<A0.tmps.size)(hL:L.size=12)(h0:L.getD 0 false=true)(h3:L.getD 3 false=false)(hT:∀x∈T,x.1≠3∧x.2.1≠73)
  {ad:Option Addr} {c:Nat} (hs:a.tmps.getD 70 undef= .slice ad 0 c) (Aj:w.ownsRow w0.heap.size 51 2 (.slice ad 0 c) 0 []) {ad':Option Addr} {c':Nat} {w':World}
  (Ab:w'.ownsRow w0.heap.size 51 2 (.slice ad' n3 c') n3 xs) (hg:w.grownBy w' (Value.ownBlock (.slice ad 0 c)))
  (hb:Value.ownBlock (.slice ad' n3 c')=Value.ownBlock (.slice ad 0 c)∨∀g,Value.ownBlock (.slice ad' n3 c')=some g→w.heap.size≤g):
  JR A0 T w0 n3 n4 k xs ys r0 r1 (L.setIfInBounds 3 true) (a.put (some 73) (.slice ad' n3 c')) w':=by
 have Hf:73<a.tmps.size:=by rw[h.fr.size];omega
 have n6:L.getD 6 false=true→False:=fun e=>by have:=h.o6 e;rw[h3]at this;cases this
 refine⟨h.fr.put (by decide) _,h.tab.put Hf (by omega) (fun x hx=>?_),h.bel.grown hg h.bel.size (fun q hq=>(World.ownsRow.lt Aj q hq).1),?_,?_,?_,?_,?_,?_,?_,?_,?_⟩
 ·obtain⟨h1,h2⟩:=hT x hx;exact⟨⟨fun e=>absurd e h1,fun e=>absurd e h2⟩,fun e=>absurd e h1⟩
 ·intro _;rw[Za0 (by omega)];exact h0
 ·intro _;exact Zeg (by omega)
 ·rw[Za0 (by omega),Za0 (by omega)];exact h.o8
 ·intro _ e;rw[Zeg (by omega)]at e;cases e
 ·intro _ _;exact⟨ad',c',Zc4 Hf,Ab⟩
 ·rw[Za0 (by omega)];intro e;exact(n6 e).elim
 ·rw[Za0 (by omega)];intro e;exact(n6 (h.o8 e)).elim
 ·rw[Za0 (show 3≠10 by omega),Za0 (show 3≠0 by omega),Za3 (show 73≠6 by omega),Za3 (show 73≠70 by omega),Zc4 Hf];intro e;obtain⟨B,e1,e2,e3,e4,_⟩:=h.box e;have hB:=(Array.getElem?_eq_some_iff.1 e3).1;have Az:Value.ownBlock (.slice ad 0 c)≠some B:=by rw[←hs];exact e4 h0
  refine⟨B,e1,e2,(hg.block B hB (fun e=>Az e.symm)).trans e3,e4,fun _ e5=>?_⟩;rcases hb with hb|hb
  ·rw[hb]at e5;exact Az e5
  ·have:=hb B e5;omega
 ·rintro j e (⟨rfl,rfl⟩|⟨rfl,rfl⟩) e1 B
  ·rw[Za0 (by omega)]at e1;rw[Za3 (by omega)];intro e2;have:=h.lo 0 70 (.inl ⟨rfl,rfl⟩) e1 B e2;have:=hg.size;omega
  ·rw[Zc4 Hf];intro e2;exact(World.ownsRow.lt Ab B e2).2
theorem JR.op6 (h:JR A0 T w0 n3 n4 k xs ys r0 r1 L a w)(hA:79<A0.tmps.size)(hL:L.size=12)(h3:L.getD 3 false=true)(h6:L.getD 6 false=false)(hT:∀x∈T,x.1≠6∧x.2.1≠76)
  {ad:Option Addr} {c:Nat} (hs:a.tmps.getD 73 undef= .slice ad n3 c) (Aj:w.ownsRow w0.heap.size 51 2 (.slice ad n3 c) n3 xs) {ad':Option Addr} {c':Nat} {w':World}
  (Ab:w'.ownsRow w0.heap.size 51 2 (.slice ad' (n3+n4) c') (n3+n4) (xs++ys)) (hg:w.grownBy w' (Value.ownBlock (.slice ad n3 c))):
  JR A0 T w0 n3 n4 k xs ys r0 r1 (L.setIfInBounds 6 true) (a.put (some 76) (.slice ad' (n3+n4) c')) w':=by
 have Hf:76<a.tmps.size:=by rw[h.fr.size];omega
 have n8:L.getD 8 false=true→False:=fun e=>by have:=h.o8 e;rw[h6]at this;cases this
 refine⟨h.fr.put (by decide) _,h.tab.put Hf (by omega) (fun x hx=>?_),h.bel.grown hg h.bel.size (fun q hq=>(World.ownsRow.lt Aj q hq).1),?_,?_,?_,?_,?_,?_,?_,?_,?_⟩
 ·obtain⟨h1,h2⟩:=hT x hx;exact⟨⟨fun e=>absurd e h1,fun e=>absurd e h2⟩,fun e=>absurd e h1⟩
 ·rw[Za0 (show 6≠3 by omega),Za0 (show 6≠0 by omega)];exact h.o3
 ·intro _;rw[Za0 (by omega)];exact h3
 ·intro _;exact Zeg (by omega)
 ·intro _ e;rw[Za0 (by omega),h3]at e;cases e
 ·intro _ e;rw[Zeg (by omega)]at e;cases e
 ·intro _;exact⟨ad',c',Zc4 Hf,Ab⟩
 ·rw[Za0 (by omega)];intro e;exact(n8 e).elim
 ·rw[Za0 (show 6≠10 by omega),Za0 (show 6≠0 by omega),Za0 (show 6≠3 by omega),Za3 (show 76≠6 by omega),Za3 (show 76≠70 by omega),Za3 (show 76≠73 by omega)];intro e;obtain⟨B,e1,e2,e3,e4,e5⟩:=h.box e;have hB:=(Array.getElem?_eq_some_iff.1 e3).1;have Az:Value.ownBlock (.slice ad n3 c)≠some B:=by rw[←hs];exact e5 h3
  exact⟨B,e1,e2,(hg.block B hB (fun e=>Az e.symm)).trans e3,e4,e5⟩
 ·rintro j e (⟨rfl,rfl⟩|⟨rfl,rfl⟩) e1 B
  ·rw[Za0 (by omega)]at e1;rw[Za3 (by omega)];intro e2;have:=h.lo 0 70 (.inl ⟨rfl,rfl⟩) e1 B e2;have:=hg.size;omega
  ·rw[Za0 (by omega)]at e1;rw[Za3 (by omega)];intro e2;have:=h.lo 3 73 (.inr ⟨rfl,rfl⟩) e1 B e2;have:=hg.size;omega
theorem JR.op8 (h:JR A0 T w0 n3 n4 k xs ys r0 r1 L a w)(hA:79<A0.tmps.size)(hL:L.size=12)(h6:L.getD 6 false=true)(hT:∀x∈T,x.1≠8∧x.2.1≠78)
  (g:Nat) (Q0:w0.heap.size≤g) (c0:w.cell? ⟨g,k *2,none⟩=some r0) (c1:w.cell? ⟨g,k *2+1,none⟩=some r1):
  JR A0 T w0 n3 n4 k xs ys r0 r1 (L.setIfInBounds 8 true) (a.put (some 78) (.pointer (some ⟨g,k *2,none⟩))) w:=by
 have Hf:78<a.tmps.size:=by rw[h.fr.size];omega
 refine⟨h.fr.put (by decide) _,h.tab.put Hf (by omega) (fun x hx=>?_),h.bel,?_,?_,?_,?_,?_,?_,?_,?_,?_⟩
 ·obtain⟨h1,h2⟩:=hT x hx;exact⟨⟨fun e=>absurd e h1,fun e=>absurd e h2⟩,fun e=>absurd e h1⟩
 ·rw[Za0 (show 8≠3 by omega),Za0 (show 8≠0 by omega)];exact h.o3
 ·rw[Za0 (show 8≠6 by omega),Za0 (show 8≠3 by omega)];exact h.o6
 ·intro _;rw[Za0 (by omega)];exact h6
 ·rw[Za0 (show 8≠0 by omega),Za0 (show 8≠3 by omega),Za3 (by omega)];exact h.s0
 ·rw[Za0 (show 8≠3 by omega),Za0 (show 8≠6 by omega),Za3 (by omega)];exact h.s3
 ·rw[Za0 (show 8≠6 by omega),Za3 (by omega)];exact h.s6
 ·intro _;exact⟨g,Zc4 Hf,Q0,c0,c1⟩
 ·rw[Za0 (show 8≠10 by omega),Za0 (show 8≠0 by omega),Za0 (show 8≠3 by omega),Za3 (show 78≠6 by omega),Za3 (show 78≠70 by omega),Za3 (show 78≠73 by omega)];exact h.box
 ·rintro j e (⟨rfl,rfl⟩|⟨rfl,rfl⟩) e1
  ·rw[Za0 (by omega)]at e1;rw[Za3 (by omega)];exact h.lo 0 70 (.inl ⟨rfl,rfl⟩) e1
  ·rw[Za0 (by omega)]at e1;rw[Za3 (by omega)];exact h.lo 3 73 (.inr ⟨rfl,rfl⟩) e1
end
end Go.Proofs.YtmleeodfmmpdgaaGreatDoor
