/- part -/
import Derived.Test.YtmleeodfmmpdgaaGreatDoorQ13
set_option maxRecDepth 20000
set_option maxHeartbeats 2000000
namespace Go.Proofs.YtmleeodfmmpdgaaGreatDoor
open Go.RowKit
attribute [local go_sem] Ext.cell Ext.frozen
attribute [local go_sem ↓] Go.wp_at_zero Go.wp_at_succ
open _root_.Nat (zero_le)
open _root_.Go.Proofs.Tryz
theorem Zakd (s t:List UInt8):((bs s).toList==(bs t).toList)=decide (s=t):=by
 rw[Zd1,Zd1,Bool.eq_iff_iff,beq_iff_eq,decide_eq_true_eq]
theorem Zhh (b:Nat)(E k:Int)(s:List UInt8)(r:RS)(w:World)(h:Rd w b E r):Calls prog 56 #[.pointer (some ⟨b,0,none⟩),.int .i64 k,.string (bs s)] w fun e w'=>e= .returned (.bool (r.is E k s))∧Below w.heap.size w w':=by
 have HP:=Hd (Ze7 b E r w h);have HR:=Hd h;have HV:Hid (r.is E k s=(decide (r.e=0)&&(decide ((r.peek E).1=k)&&decide ((r.peek E).2.1=s)))):=rfl;clear h;unfold Zgr at HP;generalize r.is E k s=res at *;generalize r.peek E=t at *;obtain⟨k',s',f⟩:=t;simp only at HP HV;have hq:=Zakd s' s;generalize decide (s'=s)=q3 at *;generalize bs s'=S at *;generalize bs s=S2 at *
 go_enter func56,ntmps56
 go_wp2_with fail
 refine HP.out.mono ?_;rintro _ w1 ⟨rfl,hb⟩;have HB:=Hd hb;have As:=Hd (HR.out.below hb);clear hb HR HP
 go_upto_region 2 with(fail)
 have Ai:Hid (Below w.heap.size w (w1.alloc (.cells #[.int .i64 k',.string S,.int .i64 f] 109))):=HB.out.alloc HB.out.size _;have Ar:=Hd (As.out.below (Bel.alloc (Bel.refl w1) (.cells #[.int .i64 k',.string S,.int .i64 f] 109)));have HX:Hid (Cel (w1.alloc (.cells #[.int .i64 k',.string S,.int .i64 f] 109)) w1.heap.size 109 [.int .i64 k',.string S,.int .i64 f]):=Cel.new w1 _ _;have Po:b<w1.heap.size:=As.out.lt;generalize w1.alloc (.cells #[.int .i64 k',.string S,.int .i64 f] 109)=w2 at *;obtain⟨B,hB⟩:∃B,w1.heap.size=B:=⟨_,rfl⟩;rw[hB]at HX Po⊢;clear hB HB As;have x0:=HX.out.cell 0;have x1:=HX.out.cell 1;have x2:=HX.out.cell 2;simp only[Le0,Le1]at x0 x1 x2;obtain⟨c2,c3,f2,f3,f0⟩:=Ar.out.cells
 by_cases he:r.e=0
 ·have hz:(r.e==0)=true:=by simpa using he
  have A7:decide (r.e=0)=true:=decide_eq_true he;rw[A7,Bool.true_and]at HV
  by_cases hk:k'=k
  ·have hy:(k'==k)=true:=by simpa using hk
   have M5:decide (k'=k)=true:=decide_eq_true hk;rw[M5,Bool.true_and]at HV;cases q3 <;>
   (go_wp2_with fail
    go_ret;exact⟨by rw[HV.out];rfl,Ai.out⟩)
  ·have hy:(k'==k)=false:=by simpa using hk
   have M5:decide (k'=k)=false:=decide_eq_false hk;rw[M5,Bool.false_and]at HV
   go_wp2_with fail
   go_ret;exact⟨by rw[HV.out];rfl,Ai.out⟩
 ·have hz:(r.e==0)=false:=by simpa using he
  have A7:decide (r.e=0)=false:=decide_eq_false he;rw[A7,Bool.false_and]at HV
  go_wp2_with fail
  go_ret;exact⟨by rw[HV.out];rfl,Ai.out⟩
theorem Zdr (b:Nat)(E:Int)(r:RS)(w:World)(h:Rd w b E r):Calls prog 57 #[.pointer (some ⟨b,0,none⟩)] w (RdP b E (.string (bs (r.word E).1)) (r.word E).2 w):=by
 have HT:=Hd (Znf b E 1 (by decide) r w h);unfold RS.word;unfold RdP at HT⊢;clear h
 go_enter func57,ntmps57
 go_wp2_with fail
 refine HT.out.mono ?_;rintro _ w1 ⟨rfl,hr,hk⟩;have HR:=Hd hr;have HK:=Hd hk;clear hr hk
 go_wp2_with fail
 go_ret;exact⟨rfl,HR.out,HK.out⟩
theorem Zkr (b:Nat)(E:Int)(r:RS)(w:World)(h:Rd w b E r):Calls prog 275 #[.pointer (some ⟨b,0,none⟩)] w (RdP b E (.string (bs (r.text E).1)) (r.text E).2 w):=by
 have HT:=Hd (Znf b E 2 (by decide) r w h);unfold RS.text;unfold RdP at HT⊢;clear h
 go_enter func275,ntmps275
 go_wp2_with fail
 refine HT.out.mono ?_;rintro _ w1 ⟨rfl,hr,hk⟩;have HR:=Hd hr;have HK:=Hd hk;clear hr hk
 go_wp2_with fail
 go_ret;exact⟨rfl,HR.out,HK.out⟩
theorem Zcs (b:Nat)(E:Int)(s:List UInt8)(r:RS)(w:World)(h:Rd w b E r):Calls prog 60 #[.pointer (some ⟨b,0,none⟩),.string (bs s)] w (RdP b E (.tuple #[]) (r.mark E s) w):=by
 have HI:=Hd (Zhh b E 3 s r w h);have HF:=Hd (fun W (g:Rd W b E r)=>Zfo b E r 3 W g);have HT:=Hd (fun r W (g:Rd W b E r)=>Znf b E 3 (by decide) r W g);have HR:=Hd h;have HV:Hid (r.mark E s=((if r.is E 3 s then r else r.fail E 3).take E 3).2):=rfl;unfold RdP at HF HT⊢;clear h;generalize r.mark E s=res at *;generalize r.is E 3 s=q at *;generalize bs s=S at *
 go_enter func60,ntmps60
 go_wp2_with fail
 refine HI.out.mono ?_;rintro _ w1 ⟨rfl,hb⟩;have HB:=Hd hb;have As:=Hd (HR.out.below hb);clear hb HR HI;cases q with
 |true=>
  rw[if_pos rfl]at HV
  go_wp2_with fail
  refine(HT.out _ _ As.out).mono ?_;rintro _ w3 ⟨rfl,hr,hk⟩;have Aq:=Hd hr;have An:=Hd ((Za4 HB.out).trans hk);clear hr hk
  go_wp2_with fail
  go_end0;exact⟨rfl,by rw[HV.out];exact Aq.out,An.out⟩
 |false=>
  rw[if_neg (by simp)]at HV
  go_wp2_with fail
  refine(HF.out _ As.out).mono ?_;rintro _ w2 ⟨rfl,hr,hk⟩;have Ar:=Hd hr;have A6:=Hd ((Za4 HB.out).trans hk);clear hr hk
  go_wp2_with fail
  refine(HT.out _ _ Ar.out).mono ?_;rintro _ w3 ⟨rfl,hr,hk⟩;have Aq:=Hd hr;have An:=Hd (A6.out.trans hk);clear hr hk
  go_wp2_with fail
  go_end0;exact⟨rfl,by rw[HV.out];exact Aq.out,An.out⟩
theorem Zki (b:Nat)(E p:Int)(q:Bool)(r:RS)(w:World)(h:Rd w b E r):Calls prog 270 #[.pointer (some ⟨b,0,none⟩),.int .i64 p,.bool q] w (RdP b E (.tuple #[]) (r.once p q) w):=by
 have HF:=Hd (Zdu b E r p 9 w h);have HR:=Hd h;unfold RdP at HF⊢;clear h;cases q with
 |true=>
  show Calls _ _ _ _ fun e w'=>e= .returned (.tuple #[])∧Rd w' b E (r.failAt p 9)∧Kp (Zaf b) w w'
  go_enter func270,ntmps270
  go_wp2_with fail
  refine HF.out.mono ?_;rintro _ w1 ⟨rfl,hr,hk⟩;have As:=Hd hr;have HK:=Hd hk;clear hr hk
  go_wp2_with fail
  go_end0;exact⟨rfl,As.out,HK.out⟩
 |false=>
  show Calls _ _ _ _ fun e w'=>e= .returned (.tuple #[])∧Rd w' b E r∧Kp (Zaf b) w w'
  go_enter func270,ntmps270
  go_wp2_with fail
  go_end0;exact⟨rfl,HR.out,Kp.refl _ _⟩
theorem Zpg (b:Nat)(E:Int)(ad:Option Addr)(n c:Nat)(l:List ByteArray)(r:RS)(w:World)(h:Rd w b E r)(hs:Sl w ad n (Zae l)):Calls prog 269 #[.pointer (some ⟨b,0,none⟩),.slice ad n c] w (RdP b E (.string (bs (r.one E l).1)) (r.one E l).2 w):=by
 have HP:=Hd (Ze7 b E r w h);have HF:=Hd (fun W (g:Rd W b E r)=>Zfo b E r 10 W g);have HT:=Hd (fun r W (g:Rd W b E r)=>Zdr b E r W g);have HC:=Hd (fun x W (g:Below w.heap.size w W)=>Zfs ad n c l x W (hs.below g));have HR:=Hd h;have HV:Hid (r.one E l=(if decide ((r.peek E).1=1)&& !l.contains (bs (r.peek E).2.1)then r.fail E 10 else r).word E):=rfl;unfold RdP at HF HT⊢;clear h hs;unfold Zgr at HP;generalize r.one E l=res at *;generalize r.peek E=t at *;obtain⟨k',s',f⟩:=t;simp only at HP HV;generalize bs s'=S at *
 go_enter func269,ntmps269
 go_wp2_with fail
 refine HP.out.mono ?_;rintro _ w1 ⟨rfl,hb⟩;have HB:=Hd hb;have As:=Hd (HR.out.below hb);clear hb HR HP
 go_upto_region 2 with(fail)
 have Ai:Hid (Below w.heap.size w (w1.alloc (.cells #[.int .i64 k',.string S,.int .i64 f] 109))):=HB.out.alloc HB.out.size _;have Ar:=Hd (As.out.below (Bel.alloc (Bel.refl w1) (.cells #[.int .i64 k',.string S,.int .i64 f] 109)));have HX:Hid (Cel (w1.alloc (.cells #[.int .i64 k',.string S,.int .i64 f] 109)) w1.heap.size 109 [.int .i64 k',.string S,.int .i64 f]):=Cel.new w1 _ _;have Po:b<w1.heap.size:=As.out.lt;generalize w1.alloc (.cells #[.int .i64 k',.string S,.int .i64 f] 109)=w2 at *;obtain⟨B,hB⟩:∃B,w1.heap.size=B:=⟨_,rfl⟩;rw[hB]at HX Po⊢;clear hB HB As;have x0:=HX.out.cell 0;have x1:=HX.out.cell 1;have x2:=HX.out.cell 2;simp only[Le0,Le1]at x0 x1 x2;obtain⟨c2,c3,f2,f3,f0⟩:=Ar.out.cells
 by_cases hk:k'=1
 ·have hy:(k'==1)=true:=by simpa using hk
  have M5:decide (k'=1)=true:=decide_eq_true hk;rw[M5,Bool.true_and]at HV;have Gc:=Hd (HC.out S _ Ai.out);clear HC;generalize l.contains S=q at *
  go_wp2_with fail
  refine Gc.out.mono ?_;rintro _ _ ⟨rfl,rfl⟩;cases q with
  |true=>
   rw[if_neg (by simp)]at HV
   go_wp2_with fail
   refine(HT.out _ _ Ar.out).mono ?_;rintro _ w5 ⟨rfl,hr,hk⟩;have Cg:=Hd hr;have Bv:=Hd ((Za4 Ai.out).trans hk);clear hr hk
   go_wp2_with fail
   go_ret;exact⟨by rw[HV.out];rfl,by rw[HV.out];exact Cg.out,Bv.out⟩
  |false=>
   rw[if_pos (by simp)]at HV
   go_wp2_with fail
   refine(HF.out _ Ar.out).mono ?_;rintro _ w3 ⟨rfl,hr,hk⟩;have Aq:=Hd hr;have An:=Hd ((Za4 Ai.out).trans hk);clear hr hk
   go_wp2_with fail
   refine(HT.out _ _ Aq.out).mono ?_;rintro _ w5 ⟨rfl,hr,hk⟩;have Cg:=Hd hr;have Bv:=Hd (An.out.trans hk);clear hr hk
   go_wp2_with fail
   go_ret;exact⟨by rw[HV.out];rfl,by rw[HV.out];exact Cg.out,Bv.out⟩
 ·have hy:(k'==1)=false:=by simpa using hk
  have M5:decide (k'=1)=false:=decide_eq_false hk;rw[M5,Bool.false_and,if_neg (by simp)]at HV
  go_wp2_with fail
  refine(HT.out _ _ Ar.out).mono ?_;rintro _ w5 ⟨rfl,hr,hk⟩;have Cg:=Hd hr;have Bv:=Hd ((Za4 Ai.out).trans hk);clear hr hk
  go_wp2_with fail
  go_ret;exact⟨by rw[HV.out];rfl,by rw[HV.out];exact Cg.out,Bv.out⟩
theorem Zacn:(prog.info? 9).map (fun i=>(i.zero,i.size,i.bytes))=some (some (.string .empty),1,16):=by kernel_rfl
theorem Zw7 {ops:Array Oper} {rest:List Oper} {o:Oper} {a:Act} {Q:Exit→Act→World→Prop} {w:World}
  (Lq:o.guard=none) (s x:Operand) (ho:o.op= .call { callee:= .builtin .append,args:= #[s,x],argTypes:= #[44,44] })
  (base:Nat) (ad:Option Addr) (n c:Nat) (xs:List Value) (hs:a.eval s= .slice ad n c) (Ab:w.ownsRow base 9 1 (.slice ad n c) n xs)
  (y:Value) (E':TypeId) (hx:a.eval x= .slice (some ⟨w.heap.size,0,none⟩) 1 1) (hy:y.oneCell'=true)
  (Iq:n+1≤maxLen) (Jt:(n+1)*16≤140737488355328) (Bn:base≤w.heap.size)
  (h:∀ad' c' w',w'.ownsRow base 9 1 (.slice ad' (n+1) c') (n+1) (xs++[y])→Below base w w'→w.grownBy w' (Value.ownBlock (.slice ad n c))→w.heap.size<w'.heap.size→
   wpList prog ops Q rest (a.put o.dst (.slice ad' (n+1) c')) w'):wpList prog ops Q (o::rest) a (w.alloc (.cells #[y] E')):=by
 obtain⟨i0,hi,Cc,Ba,A7⟩:=info_parts Zacn;exact Zgj 44 9 16 underlying44 i0 _ hi Cc Ba A7 rfl Lq s x ho base ad n c xs hs Ab y E' hx hy Iq Jt Bn h
theorem Zxj (l:List ByteArray)(x:ByteArray):Zae (l++[x])=Zae l++[.string x]:=by simp[Zae]
theorem RS.texts_len (E:Int):∀(n:Nat) (out:List ByteArray) (r:RS),(RS.texts E n out r).1.length=out.length+n
 |0,out,r=>rfl
 |n+1,out,r=>by
  rw[RS.texts,RS.texts_len E n];simp;omega
theorem Zaiu {w w':World} {base sz:Nat} {E:TypeId} {v:Value} {n:Nat} {xs:List Value} (h:w.ownsRow base E sz v n xs) {P:Nat→Bool} (k:Kp P w w')(hp:∀i,base≤i→P i=false):w'.ownsRow base E sz v n xs:=by
 refine⟨h.1,?_⟩;rcases h.2 with h2|⟨g,cap,cur,h1,h2,h3,h4⟩
 ·exact .inl h2
 ·exact .inr ⟨g,cap,cur,h1,h2,(k.block g (Array.getElem?_eq_some_iff.1 h3).1 (hp g h2)).trans h3,h4⟩
theorem Ziz (b:Nat)(E:Int)(n:Nat)(hn:n≤100)(r:RS)(w:World)(h:Rd w b E r):Calls prog 273 #[.pointer (some ⟨b,0,none⟩),.int .i64 (n:Int)] w fun e w'=>∃ad c,e= .returned (.slice ad n c)∧w'.ownsRow w.heap.size 9 1 (.slice ad n c) n (Zae (RS.texts0 E n r).1)∧Rd w' b E (RS.texts0 E n r).2∧Kp (Zaf b) w w':=by
 have HT:=Hd (fun r W (g:Rd W b E r)=>Zkr b E r W g);have HR:=Hd h;have hb:=h.lt;have Et:Hid (∀m out r,RS.texts E (m+1) out r=RS.texts E m (out++[bs (r.text E).1]) (r.text E).2):=fun m out r=>rfl;have HV:Hid (RS.texts E n [] r=RS.texts0 E n r):=rfl;have HZ:Hid (∀out r,RS.texts E 0 out r=(out,r)):=fun out r=>rfl;unfold RdP at HT;clear h;generalize RS.texts0 E n r=res at *
 go_enter func273,ntmps273
 go_wp2_with fail
 go_loopw [5,7] (fun v u wr=>∃(k:Nat) (ad:Option Addr) (c:Nat) (out:List ByteArray) (q:RS),u= .int .i64 (k:Int)∧v= .slice ad k c∧k≤n∧RS.texts E (n - k) out q=res∧wr.ownsRow w.heap.size 9 1 (.slice ad k c) k (Zae out)∧Rd wr b E q∧Kp (Zaf b) w wr) (fun _ u _=>n -(intOf u).toNat)
 case atStart=>exact⟨0,none,0,[],r,rfl,rfl,zero_le _,HV.out,⟨rfl,.inl ⟨rfl,rfl⟩⟩,HR.out,Kp.refl _ _⟩
 case round=>
  obtain⟨k,ad,c,out,q,rfl,rfl,Co,Ff,Ab,mY,At⟩:=hrel;have HS:=Hd Ff;have HO:=Hd Ab;have HQ:=Hd mY;have HK:=Hd At;have Bl:=At.size;clear Ff Ab mY At
  by_cases Aa:k<n
  ·have D0:(k:Int)<(n:Int):=by omega
   have Eu:=HS.out;rw[show n - k=(n -(k+1))+1 by omega,Et.out]at Eu;have Ji:=Hd Eu;clear Eu
   go_wp2_with fail
   refine(HT.out _ _ HQ.out).mono ?_;rintro _ w3 ⟨rfl,hr,hk⟩;have Gz:=Hd hr;have An:=Hd (HK.out.trans hk);have Ce:=Hd (Zaiu HO.out hk (fun i hi=>Za1 (by omega)));have Rb:=An.out.size;clear hr hk HQ HO HK;generalize (q.text E).1=tx at *;generalize (q.text E).2=q2 at *;generalize rJ:bs tx=sv at *;clear rJ
   go_wp2_with (at_builtin;refine Zw7 rfl _ _ rfl w.heap.size _ _ _ _ rfl Ce.out _ _ rfl rfl (by unfold maxLen;omega) (by omega) Rb ?_;intro ad6 c6 w4 Ix Dk Wh Wi;have O0:=Hd Ix;have D8:=Hd Dk;have vW:=Hd Wh;clear Ix Dk Wh Wi)
   go_roundw
   case rel=>
    refine⟨k+1,ad6,c6,out++[sv],q2,by go_num,rfl,by omega,Ji.out,by rw[Zxj];exact O0.out,?_,?_⟩
    ·exact Gz.out.kp (P:=fun i=>decide (w.heap.size≤i)) ⟨D8.out.os,D8.out.tape,D8.out.output,D8.out.size,fun i _ hp=>D8.out.block i (by simpa using hp)⟩ (fun i hi=>by simp;omega)
    ·exact An.out.then (Q:=fun i=>decide (w.heap.size≤i)) ⟨D8.out.os,D8.out.tape,D8.out.output,D8.out.size,fun i _ hp=>D8.out.block i (by simpa using hp)⟩ (fun i hi hp=>by simp at hp;omega)
   case measure=>simp[intOf];omega
  ·obtain rfl:k=n:=by omega
   have Eu:=HS.out;rw[Nat.sub_self,HZ.out]at Eu;subst Eu
   go_wp2_with fail
   go_ret;exact⟨ad,c,rfl,HO.out,HQ.out,HK.out⟩
theorem Zmt (c:UInt8)(w:World):Calls prog 344 #[.int .u8 (c.toNat:Int)] w fun e w'=>e= .returned (.bool (Zby c))∧w=w':=by
 have HV:Hid (Zby c=(decide (97≤c.toNat)&&decide (c.toNat≤122))):=rfl;have fR:=c.toNat_lt;generalize Zby c=q at *;generalize c.toNat=z at *
 by_cases h1:97≤z
 ·have Ts:(97:Int)≤(z:Int):=by omega
  have fS:decide ((97:Int)≤(z:Int))=true:=decide_eq_true Ts
  by_cases h2:z≤122
  ·have Tt:(z:Int)≤122:=by omega
   have Tu:decide ((z:Int)≤122)=true:=decide_eq_true Tt;rw[decide_eq_true h1,decide_eq_true h2]at HV
   go_enter func344,ntmps344
   go_wp2_with fail
   go_ret;exact⟨by rw[HV.out];rfl,rfl⟩
  ·have Tt: ¬(z:Int)≤122:=by omega
   have Tu:decide ((z:Int)≤122)=false:=decide_eq_false Tt;rw[decide_eq_true h1,decide_eq_false h2]at HV
   go_enter func344,ntmps344
   go_wp2_with fail
   go_ret;exact⟨by rw[HV.out];rfl,rfl⟩
 ·have Ts: ¬(97:Int)≤(z:Int):=by omega
  have fS:decide ((97:Int)≤(z:Int))=false:=decide_eq_false Ts;rw[decide_eq_false h1]at HV
  go_enter func344,ntmps344
  go_wp2_with fail
  go_ret;exact⟨by rw[HV.out];rfl,rfl⟩
theorem Zk4 (c:UInt8)(w:World):Calls prog 346 #[.int .u8 (c.toNat:Int)] w fun e w'=>e= .returned (.bool (Zbo c))∧w=w':=by
 have HV:Hid (Zbo c=(decide (48≤c.toNat)&&decide (c.toNat≤57))):=rfl;have fR:=c.toNat_lt;generalize Zbo c=q at *;generalize c.toNat=z at *
 by_cases h1:48≤z
 ·have Ts:(48:Int)≤(z:Int):=by omega
  have fS:decide ((48:Int)≤(z:Int))=true:=decide_eq_true Ts
  by_cases h2:z≤57
  ·have Tt:(z:Int)≤57:=by omega
   have Tu:decide ((z:Int)≤57)=true:=decide_eq_true Tt;rw[decide_eq_true h1,decide_eq_true h2]at HV
   go_enter func346,ntmps346
   go_wp2_with fail
   go_ret;exact⟨by rw[HV.out];rfl,rfl⟩
  ·have Tt: ¬(z:Int)≤57:=by omega
   have Tu:decide ((z:Int)≤57)=false:=decide_eq_false Tt;rw[decide_eq_true h1,decide_eq_false h2]at HV
   go_enter func346,ntmps346
   go_wp2_with fail
   go_ret;exact⟨by rw[HV.out];rfl,rfl⟩
 ·have Ts: ¬(48:Int)≤(z:Int):=by omega
  have fS:decide ((48:Int)≤(z:Int))=false:=decide_eq_false Ts;rw[decide_eq_false h1]at HV
  go_enter func346,ntmps346
  go_wp2_with fail
  go_ret;exact⟨by rw[HV.out];rfl,rfl⟩
theorem Zp6 (s:ByteArray)(k:Nat)(h:k<s.size):s[k]=s.data.toList.getD k 0:=by
 have h2:k<s.data.toList.length:=by rw[Zbm];exact h
 rw[List.getD_eq_getElem?_getD,List.getElem?_eq_getElem h2];rfl
theorem Zgz {p:UInt8→Bool} :∀(l:List UInt8) (k:Nat),(∀i,i<k→i<l.length∧p (l.getD i 0)=true)→(k=l.length∨p (l.getD k 0)=false)→l.takeWhile p=l.take k
 |[],k,h,_=>by
  cases k with
  |zero=>rfl
  |succ k=>exact absurd (h 0 (by omega)).1 (Nat.not_lt_zero _)
 |c::l,0,_,h=>by
  rcases h with h|h
  ·simp at h
  ·have h:p c=false:=h;simp[h]
 |c::l,k+1,h,h2=>by
  have h0:p c=true:=(h 0 (by omega)).2;have ih:=Zgz l k (fun i hi=>by
   have:=h (i+1) (by omega);exact⟨by have:=this.1;simp at this;omega,this.2⟩) (by
   rcases h2 with h2|h2
   ·left;simp at h2;exact h2
   ·right;exact h2)
  simp[h0,ih]
theorem Zwq (S:ByteArray)(w:World)(hS:S.size≤200000):Calls prog 345 #[.string S,.func (.func 344) #[] #[]] w fun e w'=>e= .returned (.string (bs (S.data.toList.takeWhile Zby)))∧w=w':=by
 have HL:=Hd Zmt;have HB:=Hd (Zp6 S);have Tv:=Hd (@Zgz Zby S.data.toList);have Ah:Hid (S.data.toList.length=S.size):=Zbm S;have Th:Hid (∀k,S.extract 0 k=bs (S.data.toList.take k)):=fun k=>by
  have:=Zdz S.data.toList 0 k;rw[Zjm]at this
  simpa using this
 go_enter func345,ntmps345
 go_wp2_with fail
 go_loopw [5] (fun u wr=>∃k:Nat,u= .int .i64 (k:Int)∧k≤S.size∧(∀i,i<k→Zby (S.data.toList.getD i 0)=true)∧wr=w) (fun u _=>S.size -(intOf u).toNat)
 case atStart=>exact⟨0,rfl,zero_le _,fun i hi=>absurd hi (Nat.not_lt_zero _),rfl⟩
 case round=>
  obtain⟨k,rfl,Co,Cn,rfl⟩:=hrel;have B9:=Hd Cn;clear Cn
  by_cases Aa:k<S.size
  ·have D0:(k:Int)<(S.size:Int):=by omega
   have cS:=HB.out k (by omega);have Tw:Hid (Zby (S.data.toList.getD k 0)=true→∀i,i<k+1→Zby (S.data.toList.getD i 0)=true):=fun h i hi=>by
    rcases Nat.lt_or_ge i k with h'|h'
    ·exact B9.out i h'
    ·rw[show i=k by omega];exact h
   have Hj:Hid (Zby (S.data.toList.getD k 0)=false→bs (S.data.toList.takeWhile Zby)=S.extract 0 k):=fun h=>by
    rw[Th.out,Tv.out k (fun i hi=>⟨by rw[Ah.out];omega,B9.out i hi⟩) (.inr h)]
   generalize S.data.toList.getD k 0=ch at *;have HC:=Hd (HL.out ch);generalize Zby ch=q at *
   go_wp2_with fail
   refine(HC.out _).mono ?_;rintro _ _ ⟨rfl,rfl⟩;cases q with
   |true=>
    have G0:=Hd (Tw.out rfl);clear Tw Hj
    go_wp2_with fail
    go_roundw
    case rel=>exact⟨k+1,by go_num,by omega,G0.out,trivial⟩
    case measure=>simp[intOf];omega
   |false=>
    have Jh:=Hd (Hj.out rfl);clear Tw Hj
    go_wp2_with fail
    go_ret;exact⟨by rw[Jh.out];rfl,rfl⟩
  ·obtain Jz:k=S.size:=by omega
   have Hj:Hid (bs (S.data.toList.takeWhile Zby)=S):=by
    rw[Hid,Tv.out k (fun i hi=>⟨by rw[Ah.out];omega,B9.out i hi⟩) (.inl (by rw[Ah.out];exact Jz)),List.take_of_length_le (by rw[Ah.out];omega)];exact Zjm S
   have Wj: ¬(k:Int)<(S.size:Int):=by omega
   go_wp2_with fail
   go_ret;exact⟨by rw[Hj.out];rfl,rfl⟩
theorem Zaah (S:ByteArray)(w:World)(hS:S.size≤200000):Calls prog 345 #[.string S,.func (.func 346) #[] #[]] w fun e w'=>e= .returned (.string (bs (S.data.toList.takeWhile Zbo)))∧w=w':=by
 have HL:=Hd Zk4;have HB:=Hd (Zp6 S);have Tv:=Hd (@Zgz Zbo S.data.toList);have Ah:Hid (S.data.toList.length=S.size):=Zbm S;have Th:Hid (∀k,S.extract 0 k=bs (S.data.toList.take k)):=fun k=>by
  have:=Zdz S.data.toList 0 k;rw[Zjm]at this
  simpa using this
 go_enter func345,ntmps345
 go_wp2_with fail
 go_loopw [5] (fun u wr=>∃k:Nat,u= .int .i64 (k:Int)∧k≤S.size∧(∀i,i<k→Zbo (S.data.toList.getD i 0)=true)∧wr=w) (fun u _=>S.size -(intOf u).toNat)
 case atStart=>exact⟨0,rfl,zero_le _,fun i hi=>absurd hi (Nat.not_lt_zero _),rfl⟩
 case round=>
  obtain⟨k,rfl,Co,Cn,rfl⟩:=hrel;have B9:=Hd Cn;clear Cn
  by_cases Aa:k<S.size
  ·have D0:(k:Int)<(S.size:Int):=by omega
   have cS:=HB.out k (by omega);have Tw:Hid (Zbo (S.data.toList.getD k 0)=true→∀i,i<k+1→Zbo (S.data.toList.getD i 0)=true):=fun h i hi=>by
    rcases Nat.lt_or_ge i k with h'|h'
    ·exact B9.out i h'
    ·rw[show i=k by omega];exact h
   have Hj:Hid (Zbo (S.data.toList.getD k 0)=false→bs (S.data.toList.takeWhile Zbo)=S.extract 0 k):=fun h=>by
    rw[Th.out,Tv.out k (fun i hi=>⟨by rw[Ah.out];omega,B9.out i hi⟩) (.inr h)]
   generalize S.data.toList.getD k 0=ch at *;have HC:=Hd (HL.out ch);generalize Zbo ch=q at *
   go_wp2_with fail
   refine(HC.out _).mono ?_;rintro _ _ ⟨rfl,rfl⟩;cases q with
   |true=>
    have G0:=Hd (Tw.out rfl);clear Tw Hj
    go_wp2_with fail
    go_roundw
    case rel=>exact⟨k+1,by go_num,by omega,G0.out,trivial⟩
    case measure=>simp[intOf];omega
   |false=>
    have Jh:=Hd (Hj.out rfl);clear Tw Hj
    go_wp2_with fail
    go_ret;exact⟨by rw[Jh.out];rfl,rfl⟩
  ·obtain Jz:k=S.size:=by omega
   have Hj:Hid (bs (S.data.toList.takeWhile Zbo)=S):=by
    rw[Hid,Tv.out k (fun i hi=>⟨by rw[Ah.out];omega,B9.out i hi⟩) (.inl (by rw[Ah.out];exact Jz)),List.take_of_length_le (by rw[Ah.out];omega)];exact Zjm S
   have Wj: ¬(k:Int)<(S.size:Int):=by omega
   go_wp2_with fail
   go_ret;exact⟨by rw[Hj.out];rfl,rfl⟩
def Pq (w:World)(b:Nat)(S:ByteArray)(p:CP):Prop:=Cel w b 333 [.string S,.int .i64 (p.pos:Int),.int .i64 (p.rel:Int),.int .i64 p.err]∧p.pos≤S.size∧p.rel≤200000∧S.size≤200000
def PqP (b:Nat)(S:ByteArray)(v:Value)(p:CP)(w:World)(e:Ending)(w':World):Prop:=e= .returned v∧Pq w' b S p∧Kp (Zaf b) w w'
theorem Pq.lt {w:World} {b:Nat} {S:ByteArray} {p:CP} (h:Pq w b S p):b<w.heap.size:=h.1.lt
theorem Pq.below {w w':World} {b:Nat} {S:ByteArray} {p:CP} (h:Pq w b S p)(k:Below w.heap.size w w'):Pq w' b S p:=⟨h.1.below k,h.2⟩
theorem Pq.cells {w:World} {b:Nat} {S:ByteArray} {p:CP} (h:Pq w b S p):w.cell? ⟨b,0,none⟩=some (.string S)∧w.cell? ⟨b,1,none⟩=some (.int .i64 (p.pos:Int))∧w.cell? ⟨b,2,none⟩=some (.int .i64 (p.rel:Int))∧w.cell? ⟨b,3,none⟩=some (.int .i64 p.err)∧w.frozen? ⟨b,1,none⟩=false∧w.frozen? ⟨b,2,none⟩=false∧w.frozen? ⟨b,3,none⟩=false:=
 ⟨h.1.cell 0,h.1.cell 1,h.1.cell 2,h.1.cell 3,h.1.frz 1,h.1.frz 2,h.1.frz 3⟩
theorem Pq.pos {w:World} {b:Nat} {S:ByteArray} {p:CP} (h:Pq w b S p)(n:Nat)(hn:n≤S.size):Pq (w.setCell ⟨b,1,none⟩ (.int .i64 (n:Int))) b S { p with pos:=n } :=⟨h.1.set 1 _,hn,h.2.2⟩
theorem Pq.rel {w:World} {b:Nat} {S:ByteArray} {p:CP} (h:Pq w b S p)(n:Nat)(hn:n≤200000):Pq (w.setCell ⟨b,2,none⟩ (.int .i64 (n:Int))) b S { p with rel:=n } :=⟨h.1.set 2 _,h.2.1,hn,h.2.2.2⟩
theorem Pq.err {w:World} {b:Nat} {S:ByteArray} {p:CP} (h:Pq w b S p)(e:Int):Pq (w.setCell ⟨b,3,none⟩ (.int .i64 e)) b S { p with err:=e } :=⟨h.1.set 3 _,h.2⟩
theorem Zwt {s:List UInt8} {i:Nat} (h:i<s.length)(hb:Zdt (s.getD i 0)=true):Zb9 s (i+1)=Zb9 s i:=by
 unfold Zb9;have hd:s.drop i=s.getD i 0::s.drop (i+1):=by rw[List.drop_eq_getElem_cons h];simp[List.getD,List.getElem?_eq_getElem h]
 rw[hd,List.takeWhile_cons,if_pos hb,List.length_cons];omega
theorem Zx8 {s:List UInt8} {i:Nat} (h:i<s.length)(hb:Zdt (s.getD i 0)=false):Zb9 s i=i:=by
 unfold Zb9;have hd:s.drop i=s.getD i 0::s.drop (i+1):=by rw[List.drop_eq_getElem_cons h];simp[List.getD,List.getElem?_eq_getElem h]
 rw[hd,List.takeWhile_cons,if_neg (by rw[hb];simp)];rfl
theorem Zym {s:List UInt8} {i:Nat} (h:s.length≤i):Zb9 s i=i:=by
 unfold Zb9;rw[List.drop_of_length_le h];rfl
theorem Zabk (c:UInt8):decide (0≤Lib.indexByte [32,9,10] c)=Zdt c:=by
 have k:∀n:Fin 256,decide (0≤Lib.indexByte [32,9,10] (UInt8.ofNat n.val))=Zdt (UInt8.ofNat n.val):=by decide+kernel
 have:=k ⟨c.toNat,c.toNat_lt⟩
 simpa using this
theorem Zaag (c:UInt8):((c.toNat:Int).toNat.toUInt8)=c:=by rw[Int.toNat_natCast];simp
theorem Zq3 (b:Nat)(S:ByteArray)(p:CP)(w:World)(h:Pq w b S p):Calls prog 334 #[.pointer (some ⟨b,0,none⟩)] w (PqP b S (.tuple #[]) (p.skip S.data.toList) w):=by
 have Pp:=Hd (fun(c:UInt8) w=>Tryz.strings_IndexByte (bs [32,9,10]) (c.toNat:Int) w);have HB:=Hd (Zp6 S);have Ah:Hid (S.data.toList.length=S.size):=Zbm S;have HP:=Hd h;have mZ:=h.2.1;have Am:=h.2.2.2;have Xt:Hid (p.skip S.data.toList= { p with pos:=Zb9 S.data.toList p.pos }):=rfl;unfold PqP;clear h;generalize p.skip S.data.toList=res at *
 go_enter func334,ntmps334
 go_wp2_with fail
 go_loopw [] (fun wr=>∃k:Nat,k≤S.size∧Zb9 S.data.toList k=Zb9 S.data.toList p.pos∧Pq wr b S { p with pos:=k } ∧Kp (Zaf b) w wr) (fun wr=>S.size -(intOf ((wr.cell? ⟨b,1,none⟩).getD undef)).toNat)
 case atStart=>exact⟨p.pos,mZ,rfl,HP.out,Kp.refl _ _⟩
 case round=>
  obtain⟨k,hk,Q5,Av,At⟩:=hrel;have Gw:=Hd Q5;have Ea:=Hd Av;have HK:=Hd At;obtain⟨c0,c1,_,_,f1,_,_⟩:=Av.cells;have hb:=Av.lt;clear Q5 Av At;have Jz:∀(V:World) (m:Nat),V.cell? ⟨b,1,none⟩=some (.int .i64 (m:Int))→(intOf ((V.cell? ⟨b,1,none⟩).getD undef)).toNat=m:=fun V m hV=>by rw[hV];simp[intOf]
  have O1:=Hd Jz;clear Jz
  by_cases Aa:k<S.size
  ·have D0:(k:Int)<(S.size:Int):=by omega
   have rK:decide ((k:Int)<(S.size:Int))=true:=decide_eq_true D0;have cS:=HB.out k (by omega);have Et:Hid (Zdt (S.data.toList.getD k 0)=true→Zb9 S.data.toList (k+1)=Zb9 S.data.toList p.pos):=fun h=>(Zwt (by rw[Ah.out];exact Aa) h).trans Gw.out;have Rc:Hid (Zdt (S.data.toList.getD k 0)=false→k=Zb9 S.data.toList p.pos):=fun h=>(Zx8 (by rw[Ah.out];exact Aa) h).symm.trans Gw.out;have Ak:=Zabk (S.data.toList.getD k 0);have Fm:Hid (∀W,Calls prog 216 #[.string ⟨#[32,9,10]⟩,.int .u8 ((S.data.toList.getD k 0).toNat:Int)] W fun e w'=>e= .returned (.int .i64 (Lib.indexByte [32,9,10] (S.data.toList.getD k 0)))∧W=w'):=fun W=>(Pp.out (S.data.toList.getD k 0) W).mono fun e w' ⟨h1,h2⟩=>⟨by rw[h1,Zcz,Zaag],h2.symm⟩;generalize Zdt (S.data.toList.getD k 0)=q at *;generalize Lib.indexByte [32,9,10] (S.data.toList.getD k 0)=ix at *;generalize S.data.toList.getD k 0=ch at *;cases q with
   |true=>
    have Ci:(0:Int)≤ix:=of_decide_eq_true Ak;have Lt:=Hd (fun W (g:Pq W b S { p with pos:=k })=>g.pos (k+1) (by omega));have J0:=Hd (Et.out rfl);clear Et Rc Pp
    go_wp2_with fail
    refine Zaq (by kernel_rfl) (by kernel_rfl) ?_
    repeat (go_big_quiet_step ((first|(go_at_call 216;exact Calls.ext_same (Fm.out _)))))
    refine wpQuiet_nil ?_;intro _ Eb;obtain⟨X9,Bo⟩:=Eb;subst Bo
    go_wp2_with fail
    go_roundw
    case rel=>exact⟨k+1,by omega,J0.out,(Ea.out.below X9.2).pos (k+1) (by omega),(HK.out.trans (Za4 X9.2)).set (p:=⟨b,1,none⟩) (Za8 b) _⟩
    case measure=>
     have e1:(intOf (((X9.val.setCell ⟨b,1,none⟩ (.int .i64 ((k:Int)+1))).cell? ⟨b,1,none⟩).getD undef)).toNat=k+1:=O1.out _ (k+1) (((Ea.out.below X9.2).pos (k+1) (by omega)).cells).2.1;have e2:=O1.out wr k c1;rw[e1,e2];omega
   |false=>
    have Ci: ¬(0:Int)≤ix:=of_decide_eq_false Ak;have Tx:=Hd (Rc.out rfl);clear Et Rc Pp
    go_wp2_with fail
    refine Zaq (by kernel_rfl) (by kernel_rfl) ?_
    repeat (go_big_quiet_step ((first|(go_at_call 216;exact Calls.ext_same (Fm.out _)))))
    refine wpQuiet_nil ?_;intro _ Eb;obtain⟨X9,Bo⟩:=Eb;subst Bo
    go_wp2_with fail
    go_end0;exact⟨rfl,by rw[Xt.out,←Tx.out];exact Ea.out.below X9.2,HK.out.trans (Za4 X9.2)⟩
  ·obtain Xu:k=S.size:=by omega
   have D0: ¬(k:Int)<(S.size:Int):=by omega
   have rK:decide ((k:Int)<(S.size:Int))=false:=decide_eq_false D0;have Tx:Hid (k=Zb9 S.data.toList p.pos):=(Zym (by rw[Ah.out];omega)).symm.trans Gw.out;clear Pp
   go_wp2_with fail
   refine Zaq (by kernel_rfl) (by kernel_rfl) ?_
   repeat (go_big_quiet_step (fail))
   refine wpQuiet_nil ?_;intro _ Eb;obtain⟨X9,Bo⟩:=Eb;subst Bo
   go_wp2_with fail
   go_end0;exact⟨rfl,by rw[Xt.out,←Tx.out];exact Ea.out.below X9.2,HK.out.trans (Za4 X9.2)⟩
theorem Zgg (b:Nat)(S:ByteArray)(e:Int)(p:CP)(w:World)(h:Pq w b S p):Calls prog 335 #[.pointer (some ⟨b,0,none⟩),.int .i64 e] w (PqP b S (.tuple #[]) (p.fail e) w):=by
 obtain⟨_,_,_,c3,_,_,f3⟩:=h.cells;have HR:=Hd h;have hb:=h.lt;unfold PqP CP.fail
 by_cases he:p.err=0
 ·rw[if_pos he];have hz:(p.err==0)=true:=by simpa using he
  have HE:=Hd (h.err e);have HK:Hid (Kp (Zaf b) w (w.setCell ⟨b,3,none⟩ (.int .i64 e))):=(Kp.refl _ w).set (p:=⟨b,3,none⟩) (Za8 b) _;rw[he]at c3;clear h he hz
  go_enter func335,ntmps335
  go_wp2_with fail
  go_end0;exact⟨rfl,HE.out,HK.out⟩
 ·rw[if_neg he];have hz:(p.err==0)=false:=by simpa using he
  clear h
  go_enter func335,ntmps335
  go_wp2_with fail
  go_end0;exact⟨rfl,HR.out,Kp.refl _ _⟩
end Go.Proofs.YtmleeodfmmpdgaaGreatDoor
