/- part -/
import Derived.Test.YtmleeodfmmpdgaaGreatDoorQ20
set_option maxRecDepth 20000
set_option maxHeartbeats 4000000
namespace Go.Proofs.YtmleeodfmmpdgaaGreatDoor
open Go.RowKit
open _root_.Nat (zero_le)
open _root_.Go.Proofs.Tryz
def Zar (sz:Nat)(f:Nat→Nat→Value)(n:Nat):List Value:=(List.range n).flatMap fun i=>(List.range sz).map (f i)
theorem Ziw (sz:Nat)(f:Nat→Nat→Value)(n:Nat):Zar sz f (n+1)=Zar sz f n++(List.range sz).map (f n):=by simp[Zar,List.range_succ]
theorem Zdg (sz:Nat)(f:Nat→Nat→Value):∀n,(Zar sz f n).length=n *sz
 |0=>by simp[Zar]
 |n+1=>by rw[Ziw,List.length_append,Zdg sz f n,List.length_map,List.length_range,Nat.succ_mul]
theorem Zke (sz:Nat)(f:Nat→Nat→Value):∀ {n i j:Nat},i<n→j<sz→(Zar sz f n)[i *sz+j]? =some (f i j)
 |0,_,_,hi,_=>absurd hi (Nat.not_lt_zero _)
 |n+1,i,j,hi,hj=>by
  rw[Ziw]
  by_cases h:i<n
  ·have:i *sz+j<(Zar sz f n).length:=by
    rw[Zdg];have:=Nat.mul_le_mul_right sz (show i+1≤n by omega);rw[Nat.succ_mul]at this;omega
   rw[List.getElem?_append_left this];exact Zke sz f h hj
  ·obtain rfl:i=n:=by omega
   rw[List.getElem?_append_right (by rw[Zdg];omega),Zdg,Nat.add_sub_cancel_left];simp[hj]
theorem Zrt {sz:Nat} {f:Nat→Nat→Value} {n:Nat} {u:Value} (h:u∈Zar sz f n):∃i j,i<n∧j<sz∧u=f i j:=by
 obtain⟨i,hi,hu⟩:=List.mem_flatMap.1 h;obtain⟨j,hj,e⟩:=List.mem_map.1 hu;exact⟨i,j,List.mem_range.1 hi,List.mem_range.1 hj,e.symm⟩
theorem Zl7 {sz:Nat} {f:Nat→Nat→Value} {n q:Nat} {u:Value} (hs:0<sz)(h:(Zar sz f n)[q]? =some u):∃i j,q=i *sz+j∧i<n∧j<sz∧u=f i j:=by
 have hq:q<n *sz:=by rw[←Zdg sz f n];exact(List.getElem?_eq_some_iff.1 h).1
 have h1:q / sz<n:=by rw[Nat.div_lt_iff_lt_mul hs];exact hq
 have h2:q % sz<sz:=Nat.mod_lt _ hs;have h3:q=q / sz *sz+q % sz:=by rw[Nat.mul_comm];exact(Nat.div_add_mod q sz).symm
 refine⟨q / sz,q % sz,h3,h1,h2,?_⟩;rw[h3,Zke sz f h1 h2]at h;injection h with h;rw[←h]
theorem Zv4 (sz:Nat)(f g:Nat→Nat→Value)(k n:Nat):Zar sz f k++Zar sz g n=Zar sz (fun i j=>if i<k then f i j else g (i - k) j) (k+n):=by
 have h1:Zar sz f k=Zar sz (fun i j=>if i<k then f i j else g (i - k) j) k:=by
  unfold Zar;refine congrArg List.flatten (List.map_congr_left fun i hi=>List.map_congr_left fun j _=>?_);show f i j=if i<k then f i j else g (i - k) j;rw[if_pos (List.mem_range.1 hi)]
 induction n with
 |zero=>simpa [Zar]using h1
 |succ n ih=>
  rw[Ziw,←List.append_assoc,ih,←Nat.add_assoc,Ziw];congr 1;refine List.map_congr_left fun j _=>?_;show g n j=if k+n<k then f (k+n) j else g (k+n - k) j;rw[if_neg (by omega),Nat.add_sub_cancel_left]
theorem Zgc {w:World} {base:Nat} {E:TypeId} {size:Nat} {v:Value} {n:Nat} {xs:List Value} (h:w.ownsRow base E size v n xs):∃ad c,v= .slice ad n c:=by
 obtain⟨_,⟨rfl,rfl⟩|⟨g,cap,cur,rfl,_⟩⟩:=h
 ·exact⟨_,_,rfl⟩
 ·exact⟨_,_,rfl⟩
theorem Zqj {w w':World} {base sz:Nat} {E:TypeId} {v:Value} {n:Nat} {xs:List Value} (h:w.ownsRow base E sz v n xs)(hb:Below w.heap.size w w'):w'.ownsRow base E sz v n xs:=by
 refine⟨h.1,?_⟩;rcases h.2 with h2|⟨g,cap,cur,h1,h2,h3,h4⟩
 ·exact .inl h2
 ·have hg:g<w.heap.size:=by
   rcases Nat.lt_or_ge g w.heap.size with h'|h'
   ·exact h'
   ·simp[Array.getElem?_eq_none h']at h3
  exact .inr ⟨g,cap,cur,h1,h2,(hb.block g hg).trans h3,h4⟩
theorem Zmw {w:World} {base base':Nat} {E:TypeId} {sz:Nat} {v:Value} {n:Nat} {xs:List Value} (h:w.ownsRow base E sz v n xs)(hb:base'≤base):w.ownsRow base' E sz v n xs:=by
 refine⟨h.1,?_⟩;rcases h.2 with h2|⟨g,cap,cur,h1,h2,h3⟩
 ·exact .inl h2
 ·exact .inr ⟨g,cap,cur,h1,by omega,h3⟩
theorem Zli {w:World} {base:Nat} {E:TypeId} {sz:Nat} {ad:Option Addr} {n c:Nat} {f:Nat→Nat→Value} (h:w.ownsRow base E sz (.slice ad n c) n (Zar sz f n)):
  ∃b,Rw w ad n sz f b 0∧(ad=none→c=0)∧n≤c∧(n≠0→base≤b):=by
 obtain⟨hl,⟨h1,h2⟩|⟨g,cap,cur,h1,h2,h3,h4,h5,h6,h7⟩⟩:=h
 ·subst h2;injection h1 with e1 e2 e3;subst e1 e3;exact⟨0,⟨zero_le _,fun h=>absurd rfl h,fun i j hi=>absurd hi (Nat.not_lt_zero _)⟩,fun _=>rfl,Nat.le_refl _,fun h=>absurd rfl h⟩
 ·injection h1 with e1 e2 e3;subst e1 e3;refine⟨g,⟨by unfold maxLen at h5;omega,fun _=>rfl,fun i j hi hj=>?_⟩,(fun h=>by cases h),h4,fun _=>h2⟩;have hf:=Zke sz f hi hj;have Aa:i *sz+j<n *sz:=by
   have:=(List.getElem?_eq_some_iff.1 hf).1
   rwa [Zdg]at this
  rw[←h7,List.getElem?_take,if_pos Aa,Array.getElem?_toList]at hf;rw[Nat.zero_add];simp only[World.cell?,h3]
  simpa using hf
theorem Zuy (w:World)(E:TypeId)(sz n:Nat)(cs:Array Value)(base:Nat)(hb:base≤w.heap.size)(hn:n≤maxLen)(hs:cs.size=n *sz):(w.alloc (.cells cs E)).ownsRow base E sz (.slice (some ⟨w.heap.size,0,none⟩) n n) n cs.toList:=
 ⟨by simpa using hs,.inr ⟨w.heap.size,n,cs,rfl,hb,heap_alloc_new w _,Nat.le_refl _,hn,hs,by rw[List.take_of_length_le (by simp[hs])]⟩⟩
section
variable {P : Program} {T E : TypeId} {z : Value} {sz bytes : Nat}
theorem Zsn {w:World} (ty:TypeId)(hT:P.underlying T=some (.slice E))(info:(P.info? E).map (fun i=>(i.zero,i.size,i.bytes))=some (some z,sz,bytes))(Fl:z.cells.size=sz)(Am:0<sz)
  (base:Nat) (ad:Option Addr) (k c:Nat) (ys:List Value) (Ab:w.ownsRow base E sz (.slice ad k c) k ys) (ad2:Option Addr) (n c2:Nat) (f:Nat→Nat→Value) (b off:Nat)
  (hx:Rw w ad2 n sz f b off) (hc:ad2=none→c2=0) (h1:∀i j,i<n→j<sz→(f i j).oneCell'=true) (Iq:k+n≤maxLen) (hr:(k+n)*bytes≤140737488355328) (hb:base≤w.heap.size):
  ∃ad' c' w',(Builtin.append_ #[T,T] ty #[.slice ad k c,.slice ad2 n c2]).run P w= .ok (.slice ad' (k+n) c') w'∧
   w'.ownsRow base E sz (.slice ad' (k+n) c') (k+n) (ys++Zar sz f n)∧w.grownBy w' (Value.ownBlock (.slice ad k c)):=by
 obtain⟨i0,hi,Cc,Ba,A7⟩:=info_parts info
 by_cases h0:n=0
 ·subst h0;cases ad2 with
  |none=>
   obtain rfl:=hc rfl;exact⟨ad,c,w,run_append_owned_none w base T ty E i0 sz hT hi (.slice ad k c) k ys Ab,by simpa [Zar]using Ab,World.grownBy.refl _ _⟩
  |some A2=>
   obtain⟨v',w',k1,k2,k3,k4⟩:=run_append_own (P:=P) (w:=w) base T ty E i0 z sz bytes hT hi Cc Ba A7 Fl Am (.slice ad k c) k ys Ab A2 0 c2 [] (by simp) (fun j u h=>by simp at h) (fun u h=>by cases h) Iq hr hb;obtain⟨ad',c',rfl⟩:=Zgc k2;exact⟨ad',c',w',k1,by simpa [Zar]using k2,k3⟩
 ·have ha:=hx.adr h0;subst ha;have news:∀q u,(Zar sz f n)[q]? =some u→w.cell? ((⟨b,off,none⟩:Addr).add q)=some u:=by
   intro q u hu;obtain⟨i,j,rfl,hi,hj,rfl⟩:=Zl7 Am hu;have:=hx.cell i j hi hj;rw[Nat.add_assoc]at this;unfold Addr.add;split
   ·rename_i h;rw[h,Nat.add_zero]at this;exact this
   ·exact this
  obtain⟨v',w',k1,k2,k3,k4⟩:=run_append_own (P:=P) (w:=w) base T ty E i0 z sz bytes hT hi Cc Ba A7 Fl Am (.slice ad k c) k ys Ab ⟨b,off,none⟩ n c2 (Zar sz f n)
   (Zdg _ _ _) news (fun u hu=>by obtain⟨i,j,hi,hj,rfl⟩:=Zrt hu;exact h1 i j hi hj) Iq hr hb
  obtain⟨ad',c',rfl⟩:=Zgc k2;exact⟨ad',c',w',k1,k2,k3⟩
theorem Zmy {w:World} {o:Oper} {a:Act} {K:Act→World→Prop} {Q:Exit→Act→World→Prop} (s x:Operand)(ho:o.op= .call { callee:= .builtin .append,args:= #[s,x],argTypes:= #[T,T] })
  (hT:P.underlying T=some (.slice E)) (info:(P.info? E).map (fun i=>(i.zero,i.size,i.bytes))=some (some z,sz,bytes)) (Fl:z.cells.size=sz) (Am:0<sz)
  (base:Nat) (ad:Option Addr) (k c:Nat) (ys:List Value) (hs:a.eval s= .slice ad k c) (Ab:w.ownsRow base E sz (.slice ad k c) k ys) (ad2:Option Addr) (n c2:Nat) (f:Nat→Nat→Value) (b off:Nat) (Lr:a.eval x= .slice ad2 n c2)
  (hx:Rw w ad2 n sz f b off) (hc:ad2=none→c2=0) (h1:∀i j,i<n→j<sz→(f i j).oneCell'=true) (Iq:k+n≤maxLen) (hr:(k+n)*bytes≤140737488355328) (hb:base≤w.heap.size)
  (h:∀ad' c' w',w'.ownsRow base E sz (.slice ad' (k+n) c') (k+n) (ys++Zar sz f n)→w.grownBy w' (Value.ownBlock (.slice ad k c))→K (a.put o.dst (.slice ad' (k+n) c')) w'):o.wp P a w K Q:=by
 obtain⟨ad',c',w',g1,g2,g3⟩:=Zsn o.type hT info Fl Am base ad k c ys Ab ad2 n c2 f b off hx hc h1 Iq hr hb;unfold Oper.wp execOp;simp only[ho,resolve,invoke,builtin,Sem.run_bind,Sem.run_pure,Result.andThen_ok,List.map_toArray,List.map_cons,List.map_nil,hs,Lr,g1];exact h ad' c' w' g2 g3
theorem Zba {w:World} {ops:Array Oper} {rest:List Oper} {o:Oper} {a:Act} {Q:Exit→Act→World→Prop} (Lq:o.guard=none)(s x:Operand)(ho:o.op= .call { callee:= .builtin .append,args:= #[s,x],argTypes:= #[T,T] })
  (hT:P.underlying T=some (.slice E)) (info:(P.info? E).map (fun i=>(i.zero,i.size,i.bytes))=some (some z,sz,bytes)) (Fl:z.cells.size=sz) (Am:0<sz)
  (base:Nat) (ad:Option Addr) (k c:Nat) (ys:List Value) (hs:a.eval s= .slice ad k c) (Ab:w.ownsRow base E sz (.slice ad k c) k ys) (ad2:Option Addr) (n c2:Nat) (f:Nat→Nat→Value) (b off:Nat) (Lr:a.eval x= .slice ad2 n c2)
  (hx:Rw w ad2 n sz f b off) (hc:ad2=none→c2=0) (h1:∀i j,i<n→j<sz→(f i j).oneCell'=true) (Iq:k+n≤maxLen) (hr:(k+n)*bytes≤140737488355328) (hb:base≤w.heap.size)
  (h:∀ad' c' w',w'.ownsRow base E sz (.slice ad' (k+n) c') (k+n) (ys++Zar sz f n)→w.grownBy w' (Value.ownBlock (.slice ad k c))→wpList P ops Q rest (a.put o.dst (.slice ad' (k+n) c')) w'):wpList P ops Q (o::rest) a w:=
 wpList_plain Lq fun _ hK=>Zmy s x ho hT info Fl Am base ad k c ys hs Ab ad2 n c2 f b off Lr hx hc h1 Iq hr hb fun ad' c' w' h2 h3=>hK _ _ (h ad' c' w' h2 h3)
theorem Zg1 {w:World} {ops:Array Oper} {o:Oper} {a:Act} {K:Act→World→Prop} {Q:Exit→Act→World→Prop} {R:Prop} (Lq:o.guard=none)(s x:Operand)(ho:o.op= .call { callee:= .builtin .append,args:= #[s,x],argTypes:= #[T,T] })
  (hT:P.underlying T=some (.slice E)) (info:(P.info? E).map (fun i=>(i.zero,i.size,i.bytes))=some (some z,sz,bytes)) (Fl:z.cells.size=sz) (Am:0<sz)
  (base:Nat) (ad:Option Addr) (k c:Nat) (ys:List Value) (hs:a.eval s= .slice ad k c) (Ab:w.ownsRow base E sz (.slice ad k c) k ys) (ad2:Option Addr) (n c2:Nat) (f:Nat→Nat→Value) (b off:Nat) (Lr:a.eval x= .slice ad2 n c2)
  (hx:Rw w ad2 n sz f b off) (hc:ad2=none→c2=0) (h1:∀i j,i<n→j<sz→(f i j).oneCell'=true) (Iq:k+n≤maxLen) (hr:(k+n)*bytes≤140737488355328) (hb:base≤w.heap.size)
  (h:∀ad' c' w',w'.ownsRow base E sz (.slice ad' (k+n) c') (k+n) (ys++Zar sz f n)→w.grownBy w' (Value.ownBlock (.slice ad k c))→K (a.put o.dst (.slice ad' (k+n) c')) w'):
  if Region.wanted o (yielded ops a.tmps)=true then Oper.wp P o a w K Q else R:=by
 have hw:Region.wanted o (yielded ops a.tmps)=true:=by simp[Region.wanted,Lq]
 rw[if_pos hw];exact Zmy s x ho hT info Fl Am base ad k c ys hs Ab ad2 n c2 f b off Lr hx hc h1 Iq hr hb h
end
attribute [local go_sem] Ext.cell Ext.frozen
attribute [local go_sem ↓] Go.wp_at_zero Go.wp_at_succ
def CP.spans (s:List UInt8)(op:Int):Nat→List (Int×Int)→CP→List (Int×Int)×CP
 |0,l,p=>(l,p)
 |n+1,l,p=>
  if p.err=0 then
   (if(CP.next s [44] (CP.span s op l.length p).2).1 then CP.spans s op n (l++[(CP.span s op l.length p).1]) (CP.next s [44] (CP.span s op l.length p).2).2
    else(l++[(CP.span s op l.length p).1],(CP.next s [44] (CP.span s op l.length p).2).2))
  else(l,p)
def Zbh:List UInt8:=[32,110,105,118,119,102,116]
def CP.relHead (s:List UInt8)(p:CP):CP:=
 let op:=Lib.index Zbh (Zag s p.pos)
 let p1:=if decide ((Zag s p.pos).length=1)&& !decide (op<1)then p.skip s else(p.skip s).fail 3
 let p2:CP:= { p1 with rel:=p1.rel+1 }
 if 6<p2.rel then p2.fail 6 else p2
def CP.relation (s:List UInt8)(p:CP):Rel×CP:=
 let op:=Lib.index Zbh (Zag s p.pos)
 let p4:=(CP.take s [bs (Zag s p.pos)] (p.relHead s)).2
 let m:=CP.next s [37] p4
 let a:=if m.1 then CP.number s (Zfh op) m.2 else(0,m.2)
 let t:=CP.take s [bs [61],bs [33,61]] a.2
 let l:=CP.spans s op 6 [] t.2
 (⟨op,a.1,decide (t.1=[33,61]),l.1⟩,l.2)
theorem Zaaa (t:ByteArray)(w:World)(hM:MaxLen w):Calls prog 338 #[.string ⟨#[32,110,105,118,119,102,116]⟩,.string t] w fun e w'=>e= .returned (.int .i64 (Lib.index Zbh t.data.toList))∧w=w':=by
 obtain⟨m,hm⟩:=hM;exact(Any.strings_Index Tryz.lays143 ⟨#[32,110,105,118,119,102,116]⟩ t m w (by decide) hm).mono fun _ _ ⟨h1,h2⟩=>⟨h1,h2.symm⟩
theorem MaxLen.kp {w w':World} {b:Nat} {S:ByteArray} {p:CP} (h:MaxLen w)(hp:Pq w b S p)(k:Kp (Zaf b) w w'):MaxLen w':=by
 obtain⟨m,hm⟩:=h;refine⟨m,k.cell (Za1 ?_) hm⟩;intro e;have e:1=b:=e;rw[e,hp.1.cell 0]at hm;simp at hm
theorem Zyg (ob:Nat)(op:Int)(n:Nat)(W:World)(h:W.cell? ⟨ob,0,none⟩=some (.int .i64 op)):Calls prog 341 #[.int .i64 (n:Int),.pointer (some ⟨ob,0,none⟩)] W fun e w'=>e= .returned (.int .i64 (Zfh op n))∧Below W.heap.size W w':=by
 have HG:=Hd (Zs0 op n);have HV:Hid (Zfh op n=(if Zdf op n then 0 else 2)):=rfl;generalize Zfh op n=res at *;generalize Zdf op n=q at *;cases q with
 |true=>
  rw[if_pos rfl]at HV
  go_enter func341,ntmps341
  go_wp2_with fail
  refine(HG.out _).mono ?_;rintro _ w2 ⟨rfl,hb⟩;have HB:=Hd hb;clear hb
  go_wp2_with fail
  go_ret;exact⟨by rw[HV.out];rfl,HB.out⟩
 |false=>
  rw[if_neg (by simp)]at HV
  go_enter func341,ntmps341
  go_wp2_with fail
  refine(HG.out _).mono ?_;rintro _ w2 ⟨rfl,hb⟩;have HB:=Hd hb;clear hb
  go_wp2_with fail
  go_ret;exact⟨by rw[HV.out];rfl,HB.out⟩
theorem CP.num_grow {s:List UInt8} {chk:Int→Int} {p:CP} (he:p.err≠0):(p.number s chk).2.err≠0:=by
 rw[CP.num_err he];exact he
theorem CP.span_many {s:List UInt8} {op:Int} {count:Nat} {p:CP} (hc:4≤count):(CP.span s op count p).2.err≠0:=by
 have h1:(CP.number s (Zds op count) p).2.err≠0:=by
  by_cases he:p.err=0
  ·cases hn:Zg5 (Zag s p.pos)with
   |false=>rw[CP.num_no hn];exact CP.fail_e (by decide) _
   |true=>
    have hk:Zds op count (Zem (Zag s p.pos))≠0:=by
     unfold Zds;rw[if_pos hc];split <;> decide
    rw[CP.num_bad hn he hk];exact CP.fail_e hk _
  ·exact CP.num_grow he
 unfold CP.span;simp only[CP.next_err h1,Bool.false_eq_true,if_false];exact h1
theorem CP.spans_stop {s:List UInt8} {op:Int} {l:List (Int×Int)} {p:CP} (n:Nat)(he:p.err≠0):CP.spans s op n l p=(l,p):=by
 cases n with
 |zero=>rfl
 |succ n=>rw[CP.spans,if_neg he]
theorem CP.next_true {s t:List UInt8} {p:CP} (h:(p.next s t).1=true):(p.next s t).2.err=0∧p.err=0:=by
 by_cases he:p.err=0
 ·by_cases ht:Zag s p.pos=t
  ·rw[CP.next_yes he ht];exact⟨he,he⟩
  ·rw[CP.next_no he ht]at h;cases h
 ·rw[CP.next_err he]at h;cases h
theorem Zajy:(prog.info? 152).map (fun i=>(i.zero,i.size,i.bytes))=some (some (.agg #[.int .i64 0,.int .i64 0]),2,16):=by kernel_rfl
def spV (l:List (Int×Int)):List Value:=l.flatMap fun s=>[.int .i64 s.1,.int .i64 s.2]
theorem Zadq (l:List (Int×Int))(x y:Int):spV (l++[(x,y)])=spV l++[.int .i64 x,.int .i64 y]:=by simp[spV]
def Zx5:Value→Nat
 | .slice _ n _=>n
 |_=>0
def Zwn:Value→Nat
 | .bool true=>1
 |_=>0
theorem Zakm (w:World)(x y:Value)(T:TypeId):Rw (w.alloc (.cells #[x,y] T)) (some ⟨w.heap.size,0,none⟩) 1 2 (fun _ j=>(#[x,y]:Array Value).getD j undef) w.heap.size 0:=
 ⟨by omega,fun _=>rfl,fun i j hi hj=>by
  obtain rfl:i=0:=by omega
  rcases(by omega:j=0∨j=1)with e|e <;> subst e <;>(rw[Lib.cell_of_heap (heap_alloc_new w _)];rfl)⟩
def RelP (b:Nat)(S:ByteArray)(op md:Int)(neg:Bool)(res:List (Int×Int)×CP)(w0:World)(e:Ending)(w':World):Prop:=
 ∃ad c,e= .returned (.agg #[.int .i64 op,.int .i64 md,.bool neg,.slice ad res.1.length c])∧w'.ownsRow w0.heap.size 152 2 (.slice ad res.1.length c) res.1.length (spV res.1)∧Pq w' b S res.2∧Kp (Zaf b) w0 w'
noncomputable def Zka (n:Nat):Code:=Zi3 n ((Tryz.f333.body).getD .skip)
theorem Zjn {w w':World} {base sz b:Nat} {E T:TypeId} {v:Value} {n:Nat} {xs cs:List Value} (h:w.ownsRow base E sz v n xs)(hc:Cel w b T cs)(hT:T≠E)(k:Kp (Zaf b) w w'):w'.ownsRow base E sz v n xs:=by
 refine⟨h.1,?_⟩;rcases h.2 with h2|⟨g,cap,cur,h1,h2,h3,h4⟩
 ·exact .inl h2
 ·refine .inr ⟨g,cap,cur,h1,h2,(k.block g (Array.getElem?_eq_some_iff.1 h3).1 (Za1 ?_)).trans h3,h4⟩;intro e;subst e;unfold Cel at hc;rw[hc]at h3;injection h3 with h3;injection h3 with _ h3 _;exact hT h3
theorem Zib {w:World} {base sz b:Nat} {E T:TypeId} {v:Value} {n:Nat} {xs cs:List Value} (h:w.ownsRow base E sz v n xs)(hc:Cel w b T cs)(hT:T≠E):some b≠v.ownBlock:=by
 rcases h.2 with⟨h2,_⟩|⟨g,cap,cur,h1,h2,h3,h4⟩
 ·rw[h2];simp[Value.ownBlock]
 ·rw[h1];intro e;have e:b=g:=by simpa [Value.ownBlock]using e
  subst e;unfold Cel at hc;rw[hc]at h3;injection h3 with h3;injection h3 with _ h3 _;exact hT h3
theorem Zz2 (b:Nat)(S:ByteArray)(op md:Int)(neg:Bool)(p:CP)(w0 w:World)(n0 O X:Nat)(u1 u3 u6 u7 u8 u9 u10 u11 u12 u13 u14 u15 u16 u17 u18 u19 u20 u21 u22 u23 u24 u25 u26 u27 u28 u29 u30 u31 u32 u33 u34 u35 u36 u37 u38 u39 u40 u41 u42 u43 u44 u45 u46 u47 u48 u49 u50 u51 u52 u53 u54 u55 u56 u57 u58 u59 u60 u61 u62 u63 u64 u65 u66 u67 u68 u69 u70 u71 u72:Value)(h:Pq w b S p)(hX:Cel w X 94 [.int .i64 op,.int .i64 md,.bool neg,.slice none 0 0])(hO:Cel w O 3 [.int .i64 op])(hR:Cel w n0 94 [.int .i64 0,.int .i64 0,.bool false,.slice none 0 0])
  (Ch:X≠b) (F3:O≠b) (Fg:n0≠b) (Rh:X≠O) (Ri:X≠n0) (Pv:w0.heap.size≤X) (Lx:w0.heap.size≤n0) (hk:Kp (Zaf b) w0 w):
  (Zka 13).wp prog (bodyPost prog Tryz.f333 (RelP b S op md neg (CP.spans S.data.toList op 6 [] p) w0)) ⟨#[.pointer (some ⟨b,0,none⟩),u1,.pointer (some ⟨n0,0,none⟩),u3,.pointer (some ⟨O,0,none⟩),.pointer (some ⟨X,0,none⟩),u6,u7,u8,u9,u10,u11,u12,u13,u14,u15,u16,u17,u18,u19,u20,u21,u22,u23,u24,u25,u26,u27,u28,u29,u30,u31,u32,u33,u34,u35,u36,u37,u38,u39,u40,u41,u42,u43,u44,u45,u46,u47,u48,u49,u50,u51,u52,u53,u54,u55,u56,u57,u58,u59,u60,u61,u62,u63,u64,u65,u66,u67,u68,u69,u70,u71,u72],[]⟩ w:=by
 have Ud:=Hd (fun(ln:Nat) q W (g:Pq W b S q)=>Zz9 b S op ln q W g);have Ue:=Hd (fun q W (g:Pq W b S q)=>Ziy b S [44] (by decide) q W g);unfold PqP at Ud Ue;have Pw:=Hd h;have Dj:=Hd hX;have Nb:=Hd hO;have Br:=Hd hR;have Bp:=Hd hk;clear h hX hO hR hk;obtain⟨res,Cq⟩:∃res,CP.spans S.data.toList op 6 [] p=res:=⟨_,rfl⟩;rw[Cq]at⊢;have HV:=Hd Cq;clear Cq;unfold Zka;dsimp only
 conv=>arg 2;whnf
 go_wp2_with fail
 go_loopw [6] (fun u wr=>∃(l:List (Int×Int)) (q:CP) (mb:Bool) (ad:Option Addr) (c:Nat),u= .bool mb∧l.length≤5∧(mb=true→l.length≤4∧CP.spans S.data.toList op (6 - l.length) l q=res)∧(mb=false→(l,q)=res)∧Cel wr X 94 [.int .i64 op,.int .i64 md,.bool neg,.slice ad l.length c]∧Cel wr O 3 [.int .i64 op]∧Cel wr n0 94 [.int .i64 0,.int .i64 0,.bool false,.slice none 0 0]∧wr.ownsRow w0.heap.size 152 2 (.slice ad l.length c) l.length (spV l)∧Pq wr b S q∧Kp (Zaf b) w0 wr) (fun u wr=>Zwn u *(10 - Zx5 ((wr.cell? ⟨X,3,none⟩).getD undef)))
 case atStart=>exact⟨[],p,true,none,0,rfl,zero_le _,fun _=>⟨zero_le _,HV.out⟩,fun h=>(by cases h),Dj.out,Nb.out,Br.out,⟨rfl,.inl ⟨rfl,rfl⟩⟩,Pw.out,Bp.out⟩
 case round=>
  obtain⟨l,q,mb,ad,c,rfl,pW,Rj,Gp,hX,hO,hR,Ab,hq,At⟩:=hrel;have HX:=Hd hX;have Ly:=Hd hO;have C1:=Hd hR;have gH:=Hd Ab;have HQ:=Hd hq;have HK:=Hd At;have Nc:=Hd Rj;have Nd:=Hd Gp;obtain⟨_,_,_,c3,_,_,_⟩:=hq.cells;clear hX hO hR Ab hq At Rj Gp Pw Dj Nb Br Bp;have Rl:∀(V:World) ad m c,V.cell? ⟨X,3,none⟩=some (.slice ad m c)→Zx5 ((V.cell? ⟨X,3,none⟩).getD undef)=m:=fun V ad m c hV=>by rw[hV];rfl
  have nH:=Hd Rl;clear Rl;cases mb with
  |false=>
   have HF:=Hd (Nd.out (by trivial));clear Nc Nd;have x0:=HX.out.cell 0;have x1:=HX.out.cell 1;have x2:=HX.out.cell 2;have x3:=HX.out.cell 3;simp only[Le0,Le1]at x0 x1 x2 x3;have r0:=C1.out.cell 0;have r1:=C1.out.cell 1;have r2:=C1.out.cell 2;have r3:=C1.out.cell 3;simp only[Le0,Le1]at r0 r1 r2 r3;have rf0:=C1.out.frz 0;have rf1:=C1.out.frz 1;have rf2:=C1.out.frz 2;have rf3:=C1.out.frz 3;have Ik:X<wr.heap.size:=HX.out.lt;have gK:n0<wr.heap.size:=C1.out.lt
   go_wp2_with fail
   refine bodyPost_ret (results_cell_row rfl _ _ n0 94 #[.int .i64 op,.int .i64 md,.bool neg,.slice ad l.length c] (0,0) _ rfl ?_ underlying94 rfl (by kernel_rfl)) rfl ?_
   ·exact(((C1.out.set 0 (.int .i64 op)).set 1 (.int .i64 md)).set 2 (.bool neg)).set 3 (.slice ad l.length c)
   ·have M3:Kp (Zaf n0) wr ((((wr.setCell ⟨n0,0,none⟩ (.int .i64 op)).setCell ⟨n0,1,none⟩ (.int .i64 md)).setCell ⟨n0,2,none⟩ (.bool neg)).setCell ⟨n0,3,none⟩ (.slice ad l.length c)):=((((Kp.refl _ wr).set (p:=⟨n0,0,none⟩) (Za8 n0) _).set (p:=⟨n0,1,none⟩) (Za8 n0) _).set (p:=⟨n0,2,none⟩) (Za8 n0) _).set (p:=⟨n0,3,none⟩) (Za8 n0) _;rw[←HF.out];exact⟨ad,c,rfl,Zjn gH.out C1.out (by decide) M3,⟨HQ.out.1.kp M3 (Za1 (fun e=>Fg e.symm)),HQ.out.2⟩,HK.out.then M3 (fun i hi e=>by have:=of_decide_eq_true e;omega)⟩
  |true=>
   obtain⟨Td,Mi⟩:=Nc.out (by trivial);have HS:=Hd Mi;clear Nc Nd Mi
   by_cases he:q.err=0
   ·rw[he]at c3;have Eu:=HS.out;rw[show 6 - l.length=(5 - l.length)+1 by omega,CP.spans,if_pos he]at Eu;have Ji:=Hd Eu;have Rc:=Hd (Ud.out l.length q);have Rm:Hid (4≤l.length→(CP.span S.data.toList op l.length q).2.err≠0):=fun h=>CP.span_many h;clear Eu HS he Ud;generalize CP.span S.data.toList op l.length q=sr at *;obtain⟨⟨a1,a2⟩,pq⟩:=sr;simp only at Rc;have cM:Hid ((if(CP.next S.data.toList [44] pq).1 then CP.spans S.data.toList op (5 - l.length) (l++[(a1,a2)]) (CP.next S.data.toList [44] pq).2 else(l++[(a1,a2)],(CP.next S.data.toList [44] pq).2))=res):=Ji.out;have Uf:Hid (4≤l.length→pq.err≠0):=Rm.out;have Ao:=Hd (Ue.out pq);have Ku:Hid ((CP.next S.data.toList [44] pq).1=true→pq.err=0):=fun h=>(CP.next_true h).2;clear Ji Rm Ue;generalize CP.next S.data.toList [44] pq=nr at *;obtain⟨m,q2⟩:=nr;simp only at Ao;have u1:wr.drew.cell? ⟨X,3,none⟩=some (.slice ad l.length c):=HX.out.cell 3;have u2:wr.drew.cell? ⟨O,0,none⟩=some (.int .i64 op):=Ly.out.cell 0;have x3m:wr.cell? ⟨X,3,none⟩=some (.slice ad l.length c):=HX.out.cell 3;have Px:=Hd (nH.out wr ad _ c x3m);clear x3m
    go_upto_region 16 with(fail)
    refine Zbx 11 (fun w'=>w'.cell? ⟨X,3,none⟩=some (.slice ad l.length c)∧w'.cell? ⟨O,0,none⟩=some (.int .i64 op)) (by kernel_rfl) ⟨u1,u2⟩ (fun Lw=>?_);have Pw:=Hd (HQ.out.below (Bel.drew (Bel.refl wr)));have Dj:=Hd (HX.out.below (Bel.drew (Bel.refl wr)));have Nb:=Hd (Ly.out.below (Bel.drew (Bel.refl wr)));have Br:=Hd (C1.out.below (Bel.drew (Bel.refl wr)));have nI:=Hd (Zqj gH.out (Bel.drew (Bel.refl wr)));have Bp:=Hd (HK.out.trans (Za4 (Bel.drew (Bel.refl wr))));refine Tg 0 ?_ (hy:=by intro wx A3;obtain⟨t1,t2⟩:=A3;go_simp;try with_reducible rfl);refine Tg 1 ?_ (hy:=by intro wx A3;obtain⟨t1,t2⟩:=A3;go_simp;try with_reducible rfl);refine Tg 2 ?_ (hy:=by intro wx A3;obtain⟨t1,t2⟩:=A3;go_simp;try with_reducible rfl);refine Tg 3 ?_ (hy:=by intro wx A3;obtain⟨t1,t2⟩:=A3;go_simp;try with_reducible rfl);refine Tg 4 ?_ (hy:=by intro wx A3;obtain⟨t1,t2⟩:=A3;go_simp;try with_reducible rfl);refine Tg 5 ?_ (hy:=by intro wx A3;obtain⟨t1,t2⟩:=A3;go_simp;try with_reducible rfl);refine Tg 6 ?_ (hy:=by intro wx A3;obtain⟨t1,t2⟩:=A3;go_simp;try with_reducible rfl);generalize wr.drew=p0 at *;refine Ry 7 fun K hK=>?_
    go_simp
    refine(Rc.out _ Pw.out).mono ?_;rintro _ p1 ⟨rfl,Av,At⟩;have J4:=Hd Av;have Ih:=Hd (Dj.out.kp At (Za1 Ch));have Nf:=Hd (Nb.out.kp At (Za1 F3));have As:=Hd (Br.out.kp At (Za1 Fg));have nJ:=Hd (Zjn nI.out Pw.out.1 (by decide) At);have Bf:=Hd (Bp.out.trans At);have Ba:w0.heap.size≤p1.heap.size:=Bf.out.size;clear Av At
    go_simp
    refine hK.out _ _ (fun _=>⟨Ih.out.cell 3,Nf.out.cell 0⟩) (fun _=>?_);clear hK K
    try simp only[Act.put,List.getElem_toArray,List.getElem_cons_succ,List.getElem_cons_zero,List.setIfInBounds_toArray,List.set_cons_zero,List.set_cons_succ]
    refine Ry 8 fun K hK=>?_
    go_simp
    have E8:=Hd (J4.out.below (Bel.alloc (Bel.refl p1) (.cells #[.int .i64 a1,.int .i64 a2] 152)));have C7:=Hd (Ih.out.below (Bel.alloc (Bel.refl p1) (.cells #[.int .i64 a1,.int .i64 a2] 152)));have F4:=Hd (Nf.out.below (Bel.alloc (Bel.refl p1) (.cells #[.int .i64 a1,.int .i64 a2] 152)));have Ar:=Hd (As.out.below (Bel.alloc (Bel.refl p1) (.cells #[.int .i64 a1,.int .i64 a2] 152)));have Ug:=Hd (Zqj nJ.out (Bel.alloc (Bel.refl p1) (.cells #[.int .i64 a1,.int .i64 a2] 152)));have A6:=Hd (Bf.out.alloc (.cells #[.int .i64 a1,.int .i64 a2] 152));have Ng:=Hd (Zakm p1 (.int .i64 a1) (.int .i64 a2) 152);have A7:w0.heap.size≤(World.alloc p1 (.cells #[.int .i64 a1,.int .i64 a2] 152)).heap.size:=A6.out.size;refine hK.out _ _ (fun _=>⟨C7.out.cell 3,F4.out.cell 0⟩) (fun _=>?_);clear hK K;generalize World.alloc p1 (.cells #[.int .i64 a1,.int .i64 a2] 152)=p2 at *
    try simp only[Act.put,List.getElem_toArray,List.getElem_cons_succ,List.getElem_cons_zero,List.setIfInBounds_toArray,List.set_cons_zero,List.set_cons_succ]
    refine Ry 9 fun K hK=>?_;refine Zg1 rfl (.tmp 62) (.tmp 69) rfl underlying92 Zajy (by rfl) (by omega) w0.heap.size ad l.length c (spV l) (by rfl) Ug.out (some ⟨p1.heap.size,0,none⟩) 1 1 (fun _ j=>(#[.int .i64 a1,.int .i64 a2]:Array Value).getD j undef) p1.heap.size 0 (by rfl) Ng.out (fun h=>by cases h) (fun i j _ hj=>by rcases(by omega:j=0∨j=1)with e|e <;> subst e <;> rfl) (by unfold maxLen;omega) (by omega) A7 ?_;intro ad3 c3 p3 Ae A5;have X1:=Zib Ug.out C7.out (by decide);have nK:=Zib Ug.out F4.out (by decide);have nL:=Zib Ug.out Ar.out (by decide);have nM:=Zib Ug.out E8.out.1 (by decide);have nN:=Hd Ae;have Bg:Hid (Cel p3 X 94 _):=(A5.block X C7.out.lt X1).trans C7.out;have Ce:Hid (Cel p3 O 3 _):=(A5.block O F4.out.lt nK).trans F4.out;have Aq:Hid (Cel p3 n0 94 _):=(A5.block n0 Ar.out.lt nL).trans Ar.out;have Gz:Hid (Pq p3 b S pq):=⟨(A5.block b E8.out.lt nM).trans E8.out.1,E8.out.2⟩;have An:Hid (Kp (Zaf b) w0 p3):=A6.out.grown A5 (fun k hk=> .inl (World.ownsRow.lt Ug.out k hk).1);clear Ae A5 X1 nK nL nM;refine hK.out _ _ (fun _=>⟨Bg.out.cell 3,Ce.out.cell 0⟩) (fun _=>?_);clear hK K;refine Tg 10 ?_ (hy:=by intro wx A3;obtain⟨t1,t2⟩:=A3;go_simp;try with_reducible rfl) (hS:=⟨Bg.out.cell 3,Ce.out.cell 0⟩);have x3:=Bg.out.cell 3;have xf:=Bg.out.frz 3;refine Ry 11 fun K hK=>?_
    go_simp
    refine hK.out _ _ (fun h=>by cases h) (fun _=>?_);clear hK K;refine Zcp (by kernel_rfl) ?_ _;have Cl:Hid (Cel (p3.setCell ⟨X,3,none⟩ (.slice ad3 (l.length+1) c3)) X 94 [.int .i64 op,.int .i64 md,.bool neg,.slice ad3 (l.length+1) c3]):=Bg.out.set 3 _;have O0:=Hd (Ce.out.other (a:=⟨X,3,none⟩) Rh (.slice ad3 (l.length+1) c3));have Bk:=Hd (Aq.out.other (a:=⟨X,3,none⟩) Ri (.slice ad3 (l.length+1) c3));have Jl:=Hd (Gz.out.other (a:=⟨X,3,none⟩) Ch (.slice ad3 (l.length+1) c3));have Bh:=Hd (An.out.setN (p:=⟨X,3,none⟩) Pv (.slice ad3 (l.length+1) c3));have nO:=Hd (Zjn nN.out Bg.out (by decide) ((Kp.refl _ p3).set (p:=⟨X,3,none⟩) (Za8 X) (.slice ad3 (l.length+1) c3)));clear Bg Ce Aq Gz An nN E8 C7 F4 Ar Ug A6 J4 Ih Nf As nJ Bf Pw Dj Nb Br nI Bp x3 xf Ng Lw u1 u2;generalize p3.setCell ⟨X,3,none⟩ (.slice ad3 (l.length+1) c3)=p4 at *
    go_wp2_with fail
    refine(Ao.out _ Jl.out).mono ?_;rintro _ w5 ⟨rfl,X6,A9⟩;have Dh:=Hd (Cl.out.kp A9 (Za1 Ch));have rO:=Hd (O0.out.kp A9 (Za1 F3));have Cg:=Hd (Bk.out.kp A9 (Za1 Fg));have rP:=Hd (Zjn nO.out Jl.out.1 (by decide) A9);have rQ:=Hd X6;have Bv:=Hd (Bh.out.trans A9);clear X6 A9 Cl O0 Bk nO Jl Bh;have Em:Hid ((l++[(a1,a2)]).length=l.length+1):=by rw[Hid,List.length_append];rfl
    go_wp2_with fail
    go_roundw
    case rel=>
     refine⟨l++[(a1,a2)],q2,m,ad3,c3,rfl,by rw[Em.out];omega,fun hm=>⟨?_,?_⟩,fun hm=>?_,by rw[Em.out];exact Dh.out,rO.out,Cg.out,by rw[Em.out,Zadq];exact rP.out,rQ.out,Bv.out⟩
     ·rw[Em.out];rcases Nat.lt_or_ge l.length 4 with h|h
      ·omega
      ·exact absurd (Ku.out hm) (Uf.out h)
     ·have:=cM.out;subst hm;rw[if_pos rfl]at this;rw[Em.out,show 6 -(l.length+1)=5 - l.length by omega];exact this
     ·have:=cM.out;subst hm;rw[if_neg (by simp)]at this;exact this
    case measure=>
     have e1:=nH.out w5 ad3 _ c3 (Dh.out.cell 3);rw[Px.out,e1];cases m
     ·show 0 *_<1 *_;omega
     ·show 1 *_<1 *_;omega
   ·have hz:(q.err==0)=false:=by simpa using he
    have HF:Hid ((l,q)=res):=by have:=HS.out;rw[CP.spans_stop _ he]at this;exact this
    clear HS;have x0:=HX.out.cell 0;have x1:=HX.out.cell 1;have x2:=HX.out.cell 2;have x3:=HX.out.cell 3;simp only[Le0,Le1]at x0 x1 x2 x3;have r0:=C1.out.cell 0;have r1:=C1.out.cell 1;have r2:=C1.out.cell 2;have r3:=C1.out.cell 3;simp only[Le0,Le1]at r0 r1 r2 r3;have rf0:=C1.out.frz 0;have rf1:=C1.out.frz 1;have rf2:=C1.out.frz 2;have rf3:=C1.out.frz 3;have Ik:X<wr.heap.size:=HX.out.lt;have gK:n0<wr.heap.size:=C1.out.lt
    go_wp2_with fail
    refine bodyPost_ret (results_cell_row rfl _ _ n0 94 #[.int .i64 op,.int .i64 md,.bool neg,.slice ad l.length c] (0,0) _ rfl ?_ underlying94 rfl (by kernel_rfl)) rfl ?_
    ·exact(((C1.out.set 0 (.int .i64 op)).set 1 (.int .i64 md)).set 2 (.bool neg)).set 3 (.slice ad l.length c)
    ·have M3:Kp (Zaf n0) wr ((((wr.setCell ⟨n0,0,none⟩ (.int .i64 op)).setCell ⟨n0,1,none⟩ (.int .i64 md)).setCell ⟨n0,2,none⟩ (.bool neg)).setCell ⟨n0,3,none⟩ (.slice ad l.length c)):=((((Kp.refl _ wr).set (p:=⟨n0,0,none⟩) (Za8 n0) _).set (p:=⟨n0,1,none⟩) (Za8 n0) _).set (p:=⟨n0,2,none⟩) (Za8 n0) _).set (p:=⟨n0,3,none⟩) (Za8 n0) _;rw[←HF.out];exact⟨ad,c,rfl,Zjn gH.out C1.out (by decide) M3,⟨HQ.out.1.kp M3 (Za1 (fun e=>Fg e.symm)),HQ.out.2⟩,HK.out.then M3 (fun i hi e=>by have:=of_decide_eq_true e;omega)⟩
theorem Zain {w:World} {B:Nat} {T:TypeId} {l:List Value} (h:Cel w B T l)(hl:l.length≤9223372036854775807):Sl w (some ⟨B,0,none⟩) l.length l:=
 ⟨B,0,rfl,hl,fun _=>rfl,fun i hi=>by
  rw[h.cell,Nat.zero_add];rw[List.getElem?_eq_getElem hi,List.getD_eq_getElem?_getD,List.getElem?_eq_getElem hi];rfl⟩
theorem Zpu (b:Nat)(S:ByteArray)(B:Nat)(l:List ByteArray)(p:CP)(w:World)(h:Pq w b S p)(hc:Cel w B 9 (Zae l))(hB:B≠b)(hl:l.length≤100):Calls prog 339 #[.pointer (some ⟨b,0,none⟩),.slice (some ⟨B,0,none⟩) l.length l.length] w (PqP b S (.string (bs (p.take S.data.toList l).1)) (p.take S.data.toList l).2 w):=by
 have Ah:(Zae l).length=l.length:=Zco l;have key:∀W,Cel W B 9 (Zae l)→Sl W (some ⟨B,0,none⟩) l.length (Zae l):=fun W g=>by
  have:=Zain g (by rw[Ah];omega)
  rwa [Ah]at this
 exact Zaay b S _ _ _ l p w h (key w hc) (fun W hk=>key W (hc.kp hk (Za1 hB)))
theorem Zakk (b:Nat)(S:ByteArray)(op md:Int)(p:CP)(w0 w:World)(n0 O X:Nat)(u1 u3 u6 u7 u8 u9 u10 u11 u12 u13 u14 u15 u16 u17 u18 u19 u20 u21 u22 u23 u24 u25 u26 u27 u28 u29 u30 u31 u32 u33 u34 u35 u36 u37 u38 u39 u40 u41 u42 u43 u44 u45 u46 u47 u48 u49 u50 u51 u52 u53 u54 u55 u56 u57 u58 u59 u60 u61 u62 u63 u64 u65 u66 u67 u68 u69 u70 u71 u72:Value)(h:Pq w b S p)(hX:Cel w X 94 [.int .i64 op,.int .i64 md,.bool false,.slice none 0 0])(hO:Cel w O 3 [.int .i64 op])(hR:Cel w n0 94 [.int .i64 0,.int .i64 0,.bool false,.slice none 0 0])
  (Ch:X≠b) (F3:O≠b) (Fg:n0≠b) (Rh:X≠O) (Ri:X≠n0) (Pv:w0.heap.size≤X) (Lx:w0.heap.size≤n0) (hk:Kp (Zaf b) w0 w):
  (Zka 12).wp prog (bodyPost prog Tryz.f333 (RelP b S op md (decide ((CP.take S.data.toList [bs [61],bs [33,61]] p).1=[33,61])) (CP.spans S.data.toList op 6 [] (CP.take S.data.toList [bs [61],bs [33,61]] p).2) w0)) ⟨#[.pointer (some ⟨b,0,none⟩),u1,.pointer (some ⟨n0,0,none⟩),u3,.pointer (some ⟨O,0,none⟩),.pointer (some ⟨X,0,none⟩),u6,u7,u8,u9,u10,u11,u12,u13,u14,u15,u16,u17,u18,u19,u20,u21,u22,u23,u24,u25,u26,u27,u28,u29,u30,u31,u32,u33,u34,u35,u36,u37,u38,u39,u40,u41,u42,u43,u44,u45,u46,u47,u48,u49,u50,u51,u52,u53,u54,u55,u56,u57,u58,u59,u60,u61,u62,u63,u64,u65,u66,u67,u68,u69,u70,u71,u72],[]⟩ w:=by
 have Gm:=Hd (fun B W (g:Pq W b S p) (gc:Cel W B 9 (Zae [bs [61],bs [33,61]])) hB=>Zpu b S B [bs [61],bs [33,61]] p W g gc hB (by decide));have Bb:=Hd (fun neg q W=>Zz2 b S op md neg q w0 W n0 O X);have hq:=Zd1 (CP.take S.data.toList [bs [61],bs [33,61]] p).1;unfold PqP at Gm;have HP:=Hd h;have HX:=Hd hX;have Ly:=Hd hO;have C1:=Hd hR;have HK:=Hd hk;have Nh:=h.lt;clear h hX hO hR hk;generalize CP.take S.data.toList [bs [61],bs [33,61]] p=r at *;obtain⟨tv,q⟩:=r;simp only at Gm hq⊢;unfold Zka
 try dsimp only
 conv=>arg 2;whnf
 go_upto_region 12 with(fail)
 rename_i K8 Eg;have Cw:=Hd Eg;clear Eg
 go_wp2_with fail
 have M8:=Hd (HP.out.below (Bel.alloc (Bel.refl w) (.cells #[.string (bs [61]),.string (bs [33,61])] 9)));have Dj:=Hd (HX.out.below (Bel.alloc (Bel.refl w) (.cells #[.string (bs [61]),.string (bs [33,61])] 9)));have Nb:=Hd (Ly.out.below (Bel.alloc (Bel.refl w) (.cells #[.string (bs [61]),.string (bs [33,61])] 9)));have Br:=Hd (C1.out.below (Bel.alloc (Bel.refl w) (.cells #[.string (bs [61]),.string (bs [33,61])] 9)));have Bp:=Hd (HK.out.alloc (.cells #[.string (bs [61]),.string (bs [33,61])] 9));refine(Gm.out w.heap.size _ M8.out (heap_alloc_new w _) (by omega)).mono ?_;rintro _ w1 ⟨rfl,Av,At⟩;have G8:=Hd Av;have Ih:=Hd (Dj.out.kp At (Za1 Ch));have Nf:=Hd (Nb.out.kp At (Za1 F3));have As:=Hd (Br.out.kp At (Za1 Fg));have Bf:=Hd (Bp.out.trans At);clear Av At M8 Dj Nb Br Bp Gm HP HX Ly C1 HK;have x2:=Ih.out.cell 2;have xf:=Ih.out.frz 2;have Ik:X<w1.heap.size:=Ih.out.lt;simp only[Le0,Le1]at x2
 go_wp2_with fail
 refine Cw.out _ _ ?_;rw[hq]at *;have C7:=Hd (Ih.out.set 2 (.bool (decide (tv=[33,61]))));have F4:=Hd (Nf.out.other (a:=⟨X,2,none⟩) Rh (.bool (decide (tv=[33,61]))));have Ar:=Hd (As.out.other (a:=⟨X,2,none⟩) Ri (.bool (decide (tv=[33,61]))));have Kz:=Hd (G8.out.other (a:=⟨X,2,none⟩) Ch (.bool (decide (tv=[33,61]))));have A6:=Hd (Bf.out.setN (p:=⟨X,2,none⟩) Pv (.bool (decide (tv=[33,61]))));have gL:(tv==[33,61])=decide (tv=[33,61]):=by rw[Bool.eq_iff_iff,beq_iff_eq,decide_eq_true_eq]
 rw[gL];exact Bb.out _ _ _ _ _ _ _ _ _ _ _ _ _ _ _ _ _ _ _ _ _ _ _ _ _ _ _ _ _ _ _ _ _ _ _ _ _ _ _ _ _ _ _ _ _ _ _ _ _ _ _ _ _ _ _ _ _ _ _ _ _ _ _ _ _ _ _ _ _ _ _ _ Kz.out C7.out F4.out Ar.out Ch F3 Fg Rh Ri Pv Lx A6.out
theorem Zaky (b:Nat)(S:ByteArray)(op:Int)(tk:List UInt8)(p:CP)(w0 w:World)(n0 O:Nat)(u1 u5 u6 u7 u8 u9 u10 u11 u12 u13 u14 u15 u16 u17 u18 u19 u20 u21 u22 u23 u24 u25 u26 u27 u28 u29 u30 u31 u32 u33 u34 u35 u36 u37 u38 u39 u40 u41 u42 u43 u44 u45 u46 u47 u48 u49 u50 u51 u52 u53 u54 u55 u56 u57 u58 u59 u60 u61 u62 u63 u64 u65 u66 u67 u68 u69 u70 u71 u72:Value)(h:Pq w b S p)(hO:Cel w O 3 [.int .i64 op])(hR:Cel w n0 94 [.int .i64 0,.int .i64 0,.bool false,.slice none 0 0])
  (F3:O≠b) (Fg:n0≠b) (Lx:w0.heap.size≤n0) (hk:Kp (Zaf b) w0 w) (res:Rel×CP)
  (Cq:(let m:=CP.next S.data.toList [37] (CP.take S.data.toList [bs tk] p).2
   let a:=if m.1 then CP.number S.data.toList (Zfh op) m.2 else(0,m.2)
   let t:=CP.take S.data.toList [bs [61],bs [33,61]] a.2
   let l:=CP.spans S.data.toList op 6 [] t.2
   ((⟨op,a.1,decide (t.1=[33,61]),l.1⟩:Rel),l.2))=res):
  (Zka 8).wp prog (bodyPost prog Tryz.f333 (RelP b S op res.1.md res.1.neg (res.1.sp,res.2) w0)) ⟨#[.pointer (some ⟨b,0,none⟩),u1,.pointer (some ⟨n0,0,none⟩),.string (bs tk),.pointer (some ⟨O,0,none⟩),u5,u6,u7,u8,u9,u10,u11,u12,u13,u14,u15,u16,u17,u18,u19,u20,u21,u22,u23,u24,u25,u26,u27,u28,u29,u30,u31,u32,u33,u34,u35,u36,u37,u38,u39,u40,u41,u42,u43,u44,u45,u46,u47,u48,u49,u50,u51,u52,u53,u54,u55,u56,u57,u58,u59,u60,u61,u62,u63,u64,u65,u66,u67,u68,u69,u70,u71,u72],[]⟩ w:=by
 have Gp:∀(fn:Fn) (first cap:Array Value) (w:World),(Instr.makeFunc fn first cap).run prog w= .ok (.func fn first cap) w:=fun _ _ _ _=>rfl;have Gm:=Hd (fun B W (g:Pq W b S p) (gc:Cel W B 9 (Zae [bs tk])) hB=>Zpu b S B [bs tk] p W g gc hB (by simp));have Ao:=Hd (fun q W (g:Pq W b S q)=>Ziy b S [37] (by decide) q W g);have I0:Hid (∀q W,Pq W b S q→∀o1,o1≠b→W.cell? ⟨o1,0,none⟩=some (.int .i64 op)→Calls prog 340 #[.pointer (some ⟨b,0,none⟩),.func (.func 341) #[] #[.pointer (some ⟨o1,0,none⟩)]] W (PqP b S (.int .i64 (CP.number S.data.toList (Zfh op) q).1) (CP.number S.data.toList (Zfh op) q).2 W)):=fun q W g o1 n1 e1=>
  Znm b S q W g 341 _ (enters_of func341 (by kernel_rfl) rfl) (Zfh op) (fun n V _ hk=>Zyg o1 op n V (hk.cell (Za1 n1) e1))
 have Bb:=Hd (fun md q W X=>Zakk b S op md q w0 W n0 O X);unfold PqP at Gm Ao I0;have HP:=Hd h;have Ly:=Hd hO;have C1:=Hd hR;have HK:=Hd hk;have Nh:=h.lt;have rR:=hO.lt;have gK:=hR.lt;have Am:=hk.size;have HV:=Hd Cq;clear h hO hR hk Cq;generalize CP.take S.data.toList [bs tk] p=r at *;obtain⟨tv,q⟩:=r;simp only at Gm HV;have Ao:=Hd (Ao.out q);generalize CP.next S.data.toList [37] q=r2 at *;obtain⟨m,q2⟩:=r2;simp only at Ao HV;have I0:=Hd (I0.out q2);generalize CP.number S.data.toList (Zfh op) q2=r3 at *;obtain⟨md,q3⟩:=r3;simp only at I0;obtain⟨X,hX⟩:∃X,w.heap.size=X:=⟨_,rfl⟩;rw[hX]at Nh rR gK Am;have Ch:X≠b:=by omega
 have Rh:X≠O:=by omega
 have Ri:X≠n0:=by omega
 have Pv:w0.heap.size≤X:=Am;have M8:=Hd (HP.out.below (Bel.alloc (Bel.refl w) (.cells #[.int .i64 op,.int .i64 0,.bool false,.slice none 0 0] 94)));have Dj:=Hd (Cel.new w [.int .i64 op,.int .i64 0,.bool false,.slice none 0 0] 94);have Nb:=Hd (Ly.out.below (Bel.alloc (Bel.refl w) (.cells #[.int .i64 op,.int .i64 0,.bool false,.slice none 0 0] 94)));have Br:=Hd (C1.out.below (Bel.alloc (Bel.refl w) (.cells #[.int .i64 op,.int .i64 0,.bool false,.slice none 0 0] 94)));have Bp:=Hd (HK.out.alloc (.cells #[.int .i64 op,.int .i64 0,.bool false,.slice none 0 0] 94));have Lz:=Hd hX;have C4:Hid ((w.alloc (.cells #[.int .i64 op,.int .i64 0,.bool false,.slice none 0 0] 94)).heap.size=X+1):=by rw[Hid,←hX];simp
 rw[hX]at Dj;have o0:=Ly.out.cell 0;clear HP Ly C1 HK;unfold Zka
 try dsimp only
 conv=>arg 2;whnf
 go_upto_region 10 with(fail)
 rename_i K8 Eg;have Cw:=Hd Eg;clear Eg;refine(Gm.out (X+1) _ (M8.out.below (Bel.alloc (Bel.refl _) (.cells #[.string (bs tk)] 9))) (by rw[←C4.out];exact heap_alloc_new _ _) (by omega)).mono ?_;rintro _ w1 ⟨rfl,Av,At⟩;have Ak:Below (X+1) (w.alloc (.cells #[.int .i64 op,.int .i64 0,.bool false,.slice none 0 0] 94)) ((w.alloc (.cells #[.int .i64 op,.int .i64 0,.bool false,.slice none 0 0] 94)).alloc (.cells #[.string (bs tk)] 9)):=by rw[←C4.out];exact Bel.alloc (Bel.refl _) _
 have G8:=Hd Av;have Ih:=Hd ((Dj.out.below (Bel.alloc (Bel.refl _) (.cells #[.string (bs tk)] 9))).kp At (Za1 Ch));have Nf:=Hd ((Nb.out.below (Bel.alloc (Bel.refl _) (.cells #[.string (bs tk)] 9))).kp At (Za1 F3));have As:=Hd ((Br.out.below (Bel.alloc (Bel.refl _) (.cells #[.string (bs tk)] 9))).kp At (Za1 Fg));have Bf:=Hd ((Bp.out.alloc (.cells #[.string (bs tk)] 9)).trans At);clear Av At Ak M8 Dj Nb Br Bp C4 Lz hX o0 Gm
 go_wp2_with fail
 refine Cw.out _ _ ?_;clear Cw K8
 go_upto_region 10 with(fail)
 rename_i K8 Eg;have Cw:=Hd Eg;clear Eg
 go_wp2_with fail
 refine(Ao.out _ G8.out).mono ?_;rintro _ w2 ⟨rfl,Av,At⟩;have Kz:=Hd Av;have C7:=Hd (Ih.out.kp At (Za1 Ch));have F4:=Hd (Nf.out.kp At (Za1 F3));have Ar:=Hd (As.out.kp At (Za1 Fg));have A6:=Hd (Bf.out.trans At);clear Av At G8 Ih Nf As Bf
 go_wp2_with fail
 refine Cw.out _ _ ?_;clear Cw K8;rename_i K9 Ni;have Ev:=Hd Ni;clear Ni;cases m with
 |false=>
  simp only[Bool.false_eq_true,if_false]at HV
  go_wp2_with fail
  refine Ev.out _ _ ?_;rw[←HV.out];exact Bb.out _ _ _ _ _ _ _ _ _ _ _ _ _ _ _ _ _ _ _ _ _ _ _ _ _ _ _ _ _ _ _ _ _ _ _ _ _ _ _ _ _ _ _ _ _ _ _ _ _ _ _ _ _ _ _ _ _ _ _ _ _ _ _ _ _ _ _ _ _ _ _ _ _ Kz.out C7.out F4.out Ar.out Ch F3 Fg Rh Ri Pv Lx A6.out
 |true=>
  simp only[if_true]at HV;have o0:=F4.out.cell 0;simp only[Le0]at o0
  go_wp2_with fail
  refine(I0.out _ Kz.out O F3 o0).mono ?_;rintro _ w3 ⟨rfl,Av,At⟩;have G9:=Hd Av;have Bg:=Hd (C7.out.kp At (Za1 Ch));have Ce:=Hd (F4.out.kp At (Za1 F3));have Aq:=Hd (Ar.out.kp At (Za1 Fg));have An:=Hd (A6.out.trans At);clear Av At o0 Kz C7 F4 Ar A6;have x1:=Bg.out.cell 1;have xf:=Bg.out.frz 1;have Ik:X<w3.heap.size:=Bg.out.lt;simp only[Le0,Le1]at x1
  go_wp2_with fail
  refine Ev.out _ _ ?_;have Cl:=Hd (Bg.out.set 1 (.int .i64 md));have O0:=Hd (Ce.out.other (a:=⟨X,1,none⟩) Rh (.int .i64 md));have Bk:=Hd (Aq.out.other (a:=⟨X,1,none⟩) Ri (.int .i64 md));have X2:=Hd (G9.out.other (a:=⟨X,1,none⟩) Ch (.int .i64 md));have Bh:=Hd (An.out.setN (p:=⟨X,1,none⟩) Pv (.int .i64 md));rw[←HV.out];exact Bb.out _ _ _ _ _ _ _ _ _ _ _ _ _ _ _ _ _ _ _ _ _ _ _ _ _ _ _ _ _ _ _ _ _ _ _ _ _ _ _ _ _ _ _ _ _ _ _ _ _ _ _ _ _ _ _ _ _ _ _ _ _ _ _ _ _ _ _ _ _ _ _ _ _ X2.out Cl.out O0.out Bk.out Ch F3 Fg Rh Ri Pv Lx Bh.out
def CP.lim (p:CP):CP:=if 6<p.rel+1 then({ p with rel:=p.rel+1 } :CP).fail 6 else { p with rel:=p.rel+1 }
theorem Zalp (b:Nat)(S:ByteArray)(op:Int)(tk:List UInt8)(p:CP)(hrel:p.rel<200000)(w0 w:World)(n0 O:Nat)(u1 u5 u6 u7 u8 u9 u10 u11 u12 u13 u14 u15 u16 u17 u18 u19 u20 u21 u22 u23 u24 u25 u26 u27 u28 u29 u30 u31 u32 u33 u34 u35 u36 u37 u38 u39 u40 u41 u42 u43 u44 u45 u46 u47 u48 u49 u50 u51 u52 u53 u54 u55 u56 u57 u58 u59 u60 u61 u62 u63 u64 u65 u66 u67 u68 u69 u70 u71 u72:Value)(h:Pq w b S p)(hO:Cel w O 3 [.int .i64 op])(hR:Cel w n0 94 [.int .i64 0,.int .i64 0,.bool false,.slice none 0 0])
  (F3:O≠b) (Fg:n0≠b) (_hOw:w0.heap.size≤O) (Lx:w0.heap.size≤n0) (hk:Kp (Zaf b) w0 w) (res:Rel×CP)
  (Cq:(let m:=CP.next S.data.toList [37] (CP.take S.data.toList [bs tk] p.lim).2
   let a:=if m.1 then CP.number S.data.toList (Zfh op) m.2 else(0,m.2)
   let t:=CP.take S.data.toList [bs [61],bs [33,61]] a.2
   let l:=CP.spans S.data.toList op 6 [] t.2
   ((⟨op,a.1,decide (t.1=[33,61]),l.1⟩:Rel),l.2))=res):
  (Zka 5).wp prog (bodyPost prog Tryz.f333 (RelP b S op res.1.md res.1.neg (res.1.sp,res.2) w0)) ⟨#[.pointer (some ⟨b,0,none⟩),u1,.pointer (some ⟨n0,0,none⟩),.string (bs tk),.pointer (some ⟨O,0,none⟩),u5,u6,u7,u8,u9,u10,u11,u12,u13,u14,u15,u16,u17,u18,u19,u20,u21,u22,u23,u24,u25,u26,u27,u28,u29,u30,u31,u32,u33,u34,u35,u36,u37,u38,u39,u40,u41,u42,u43,u44,u45,u46,u47,u48,u49,u50,u51,u52,u53,u54,u55,u56,u57,u58,u59,u60,u61,u62,u63,u64,u65,u66,u67,u68,u69,u70,u71,u72],[]⟩ w:=by
 have Bb:=Hd (fun W (g:Pq W b S p.lim) gO gR gk u1 u5 u6 u7 u8 u9 u10 u11 u12 u13 u14 u15 u16 u17 u18 u19 u20 u21 u22 u23 u24 u25 u26 u27 u28 u29 u30 u31 u32 u33 u34 u35 u36 u37 u38 u39 u40 u41 u42 u43 u44 u45 u46 u47 u48 u49 u50 u51 u52 u53 u54 u55 u56 u57 u58 u59 u60 u61 u62 u63 u64 u65 u66 u67 u68 u69 u70 u71 u72=>Zaky b S op tk p.lim w0 W n0 O u1 u5 u6 u7 u8 u9 u10 u11 u12 u13 u14 u15 u16 u17 u18 u19 u20 u21 u22 u23 u24 u25 u26 u27 u28 u29 u30 u31 u32 u33 u34 u35 u36 u37 u38 u39 u40 u41 u42 u43 u44 u45 u46 u47 u48 u49 u50 u51 u52 u53 u54 u55 u56 u57 u58 u59 u60 u61 u62 u63 u64 u65 u66 u67 u68 u69 u70 u71 u72 g gO gR F3 Fg Lx gk res Cq);have HF:=Hd (fun W (g:Pq W b S ({ p with rel:=p.rel+1 } :CP))=>Zgg b S 6 _ W g);have HL:Hid (p.lim=if 6<p.rel+1 then({ p with rel:=p.rel+1 } :CP).fail 6 else { p with rel:=p.rel+1 }):=rfl;unfold PqP at HF;have HP:=Hd h;have HO:=Hd hO;have HR:=Hd hR;have HK:=Hd hk;have Nh:=h.lt;obtain⟨_,_,c2,_,_,f2,_⟩:=h.cells;clear h hO hR hk Cq;have X7:((p.rel+1:Nat):Int)=(p.rel:Int)+1:=by omega
 have hi:0≤(p.rel:Int):=by omega
 have Oz:(p.rel:Int)≤200000:=by omega
 have X8:=HP.out.rel (p.rel+1) (by omega);rw[X7]at X8;have G8:=Hd X8;have Nf:=Hd (HO.out.other (a:=⟨b,2,none⟩) (fun e=>F3 e.symm) (.int .i64 ((p.rel:Int)+1)));have As:=Hd (HR.out.other (a:=⟨b,2,none⟩) (fun e=>Fg e.symm) (.int .i64 ((p.rel:Int)+1)));have Bf:=Hd (HK.out.set (p:=⟨b,2,none⟩) (Za8 b) (.int .i64 ((p.rel:Int)+1)));clear HP HO HR HK X8 X7;unfold Zka
 try dsimp only
 conv=>arg 2;whnf
 go_upto_region 5 with(fail)
 rename_i K8 Eg;have Cw:=Hd Eg;clear Eg
 go_wp2_with fail
 generalize w.setCell ⟨b,2,none⟩ (.int .i64 ((p.rel:Int)+1))=w1 at *;refine Cw.out _ _ ?_;clear Cw K8;have d2:w1.cell? ⟨b,2,none⟩=some (.int .i64 ((p.rel:Int)+1)):=by
  obtain⟨_,_,d2,_,_,_,_⟩:=G8.out.cells;rw[d2];show some (Value.int .i64 ((p.rel+1:Nat):Int))=_;rw[show((p.rel+1:Nat):Int)=(p.rel:Int)+1 by omega]
 have L0:b<w1.heap.size:=G8.out.lt
 go_upto_region 6 with(fail)
 rename_i K8 Eg;have Cw:=Hd Eg;clear Eg
 go_wp2_with fail
 refine Cw.out _ _ ?_;clear Cw K8;rename_i K9 Ni;have Ev:=Hd Ni;clear Ni
 by_cases cU:6<p.rel+1
 ·rw[if_pos cU]at HL;have hd:decide (6<(p.rel:Int)+1)=true:=decide_eq_true (by omega)
  go_wp2_with fail
  refine(HF.out _ G8.out).mono ?_;rintro _ w3 ⟨rfl,Av,At⟩;have Ce:=Hd (Nf.out.kp At (Za1 F3));have Aq:=Hd (As.out.kp At (Za1 Fg));have An:=Hd (Bf.out.trans At);have G9:=Hd Av;clear Av At
  go_wp2_with fail
  refine Ev.out _ _ ?_;exact Bb.out _ (by rw[HL.out];exact G9.out) Ce.out Aq.out An.out _ _ _ _ _ _ _ _ _ _ _ _ _ _ _ _ _ _ _ _ _ _ _ _ _ _ _ _ _ _ _ _ _ _ _ _ _ _ _ _ _ _ _ _ _ _ _ _ _ _ _ _ _ _ _ _ _ _ _ _ _ _ _ _ _ _ _ _ _
 ·rw[if_neg cU]at HL;have hd:decide (6<(p.rel:Int)+1)=false:=decide_eq_false (by omega)
  go_wp2_with fail
  refine Ev.out _ _ ?_;exact Bb.out _ (by rw[HL.out];exact G8.out) Nf.out As.out Bf.out _ _ _ _ _ _ _ _ _ _ _ _ _ _ _ _ _ _ _ _ _ _ _ _ _ _ _ _ _ _ _ _ _ _ _ _ _ _ _ _ _ _ _ _ _ _ _ _ _ _ _ _ _ _ _ _ _ _ _ _ _ _ _ _ _ _ _ _ _
end Go.Proofs.YtmleeodfmmpdgaaGreatDoor
