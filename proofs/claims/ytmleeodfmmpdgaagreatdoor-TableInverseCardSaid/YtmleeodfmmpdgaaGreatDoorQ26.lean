/- Walks: items of a locale: the direction, the names of months and days. -/
import Derived.Test.YtmleeodfmmpdgaaGreatDoorQ25
set_option maxRecDepth 20000
set_option maxHeartbeats 4000000
namespace Go.Proofs.YtmleeodfmmpdgaaGreatDoor
open Go.RowKit
attribute [local go_sem] Ext.cell Ext.frozen
attribute [local go_sem ↓] Go.wp_at_zero Go.wp_at_succ
open _root_.List (getElem_cons_succ getElem_cons_zero getElem_toArray setIfInBounds_toArray set_cons_succ set_cons_zero)
open _root_.Nat (le_of_lt le_refl le_trans lt_of_lt_of_le)
open _root_.Go.Proofs.Tryz
theorem Rd.ok {w:World} {b:Nat} {E:Int} {r:RS} (h:Rd w b E r):RsOk r:=by
 obtain⟨_,_,_,_,_,_,_,_,_,h⟩:=h;exact h
theorem Zzo:∀(l:List ByteArray),Zae l=Zar 1 (fun i _=> .string (gS l i)) l.length:=by
 intro l
 apply List.ext_getElem?
 intro i;rcases Nat.lt_or_ge i l.length with h|h
 ·have:=Zke 1 (fun i _=>Value.string (gS l i)) (n:=l.length) (j:=0) h (by decide);rw[Nat.mul_one,Nat.add_zero]at this;rw[this];unfold Zae gS;rw[List.getElem?_map,List.getD_eq_getElem?_getD,List.getElem?_eq_getElem h];rfl
 ·rw[List.getElem?_eq_none (by simp[Zae];omega),List.getElem?_eq_none (by rw[Zdg];omega)]
theorem Zqx {w:World} {base n:Nat} {ad:Option Addr} {c:Nat} {l:List ByteArray} (h:w.ownsRow base 9 1 (.slice ad n c) n (Zae l))(hn:l.length=n)(hs:∀s∈l,s.size≤200000):Grow 9 1 OneS base ([]:List TypeId) w (.slice ad n c) l:=by
 subst hn;refine⟨fun i _=> .string (gS l i),by rw[←Zzo];exact h,fun i x hx=>⟨?_,?_⟩⟩
 ·show Value.string (l.getD i .empty)=_;rw[List.getD_eq_getElem?_getD,hx];rfl
 ·exact le_trans (hs x (List.mem_of_getElem? hx)) (by decide)
theorem Zr1 (s:ByteArray):(!s.toList.isEmpty)=Zh1 s:=by
 unfold Zh1;congr 1;rw[Bool.eq_iff_iff,List.isEmpty_iff,decide_eq_true_eq,ByteArray.toList_eq,show s.size=s.data.toList.length from rfl];cases s.data.toList <;> simp
theorem Zabv (b:Nat)(E:Int)(base L:Nat)(p:Int)(y:Lc)(r:RS)(w:World)(hr:Rd w b E r)(hb:b<base)(hl:LocAt base w L y):Calls prog 220 #[.pointer (some ⟨b,0,none⟩),.int .i64 p,.pointer (some ⟨L,0,none⟩)] w (Zd5 b E base L w (Zrk E p y r)):=by
 obtain⟨v3,v4,v11,v12,v13,v14,v15,hl⟩:=hl;have Br:=Hd hr;have D2:=Hd hl;have Bp:=Hd (Kp.refl (Zcj b base) w);have E1:b<L:=lt_of_lt_of_le hb hl.low;have Ru:=hl.cel.lt;have Bc:=hl.low;have Mo:=Hd (fun ad n c W (g:Rd W b E r) gs=>Zpg b E ad n c dirL r W g gs);have Di:=Hd (fun r W (g:Rd W b E r)=>Zcs b E [59] r W g);have Gn:=Hd (fun q r W (g:Rd W b E r)=>Zki b E p q r W g);have HV:Hid (Zrk E p y r=({ y with dir:=bs (r.one E dirL).1 },((r.one E dirL).2.mark E [59]).once p (Zh1 y.dir))):=rfl;have Bj:=Hd (Zr1 y.dir);unfold RdP at Mo Di Gn;unfold Zd5;clear hr hl;generalize Zrk E p y r=res at *;generalize r.one E dirL=r1 at *;obtain⟨k,q1⟩:=r1;simp only at Mo HV;have Ct:=Hd (Di.out q1);generalize q1.mark E [59]=q2 at *;have Gh:=Hd (Gn.out (Zh1 y.dir) q2);generalize q2.once p (Zh1 y.dir)=q3 at *;generalize bs k=K at *;clear Di Gn
 go_enter func220,ntmps220
 go_wp2_with fail
 have As:=Hd (Br.out.below (Bel.alloc (Bel.refl w) (.cells #[.string (bs [108,116,114]),.string (bs [114,116,108])] 9)));have F2:=Hd (D2.out.below (Bel.alloc (Bel.refl w) (.cells #[.string (bs [108,116,114]),.string (bs [114,116,108])] 9)));have Bf:=Hd (Bp.out.trans (Za4 (Bel.alloc (Bel.refl w) (.cells #[.string (bs [108,116,114]),.string (bs [114,116,108])] 9))));clear Br D2 Bp;refine(Mo.out _ _ _ _ As.out (Zjh w (Zae dirL) _ (by decide))).mono ?_;rintro _ w2 ⟨rfl,Eo,D9⟩;have Ar:=Hd Eo;have Dw:=Hd (F2.out.rd As.out D9);have A6:=Hd (Bf.out.trans D9.item);clear Eo D9 As F2 Bf
 go_wp2_with fail
 refine(Ct.out _ Ar.out).mono ?_;rintro _ w3 ⟨rfl,E0,Cv⟩;have Aq:=Hd E0;have J8:=Hd (Dw.out.rd Ar.out Cv);have An:=Hd (A6.out.trans Cv.item);clear E0 Cv Ar Dw A6;have c2:=J8.out.cel.cell 2;simp only[Le0,Le1]at c2;have f2:=J8.out.cel.frz 2;have E9:=J8.out.cel.lt;have Gi:=Hd (Gh.out _ Aq.out)
 go_wp2_with fail
 rw[Bj.out];refine Gi.out.mono ?_;rintro _ w4 ⟨rfl,B4,A8⟩;have Bk:=Hd B4;have Rv:=Hd (J8.out.rd Aq.out A8);have Bh:=Hd (An.out.trans A8.item);clear B4 A8 Aq J8 An;have c2:=Rv.out.cel.cell 2;simp only[Le0,Le1]at c2;have f2:=Rv.out.cel.frz 2;have E9:=Rv.out.cel.lt
 go_wp2_with fail
 go_end0;exact⟨rfl,by rw[HV.out];exact⟨_,_,_,_,_,_,_,Rv.out.dir K⟩,by rw[HV.out];exact Bk.out.other (a:=⟨L,2,none⟩) E1 _,Bh.out.itemS (p:=⟨L,2,none⟩) Bc _⟩
theorem Zaeb (b:Nat)(E:Int)(base L:Nat)(p:Int)(y:Lc)(r:RS)(w:World)(hr:Rd w b E r)(hb:b<base)(hl:LocAt base w L y)(hn:y.months.length≤1000):Calls prog 227 #[.pointer (some ⟨b,0,none⟩),.int .i64 p,.pointer (some ⟨L,0,none⟩)] w (Zd5 b E base L w (Zkh E p y r)):=by
 obtain⟨v3,v4,v11,v12,v13,v14,v15,hl⟩:=hl;have Br:=Hd hr;have D2:=Hd hl;have Bp:=Hd (Kp.refl (Zcj b base) w);have E1:b<L:=lt_of_lt_of_le hb hl.low;have Ru:=hl.cel.lt;have Bc:=hl.low;have J9:=Hd (fun W (g:Rd W b E r)=>Ziz b E 12 (by decide) r W g);have Di:=Hd (fun r W (g:Rd W b E r)=>Zcs b E [59] r W g);have Gn:=Hd (fun q r W (g:Rd W b E r)=>Zki b E p q r W g);have HV:Hid (Zkh E p y r=({ y with months:=(RS.texts0 E 12 r).1 },((RS.texts0 E 12 r).2.mark E [59]).once p (!decide (y.months.length=0)))):=rfl;have Ah:=RS.texts_len0 E 12 r;have Am:=(hr.ok.texts0 (E:=E) 12).1;unfold RdP at Di Gn;unfold Zd5;clear hr hl;generalize Zkh E p y r=res at *;generalize RS.texts0 E 12 r=r1 at *;obtain⟨l,q1⟩:=r1;simp only at J9 HV Ah Am;have Ct:=Hd (Di.out q1);generalize q1.mark E [59]=q2 at *;have Gh:=Hd (Gn.out (!decide (y.months.length=0)) q2);generalize q2.once p (!decide (y.months.length=0))=q3 at *;clear Di Gn;have Eq:=Hd (J9.out w Br.out)
 go_enter func227,ntmps227
 go_wp2_with fail
 refine Eq.out.mono ?_;rintro _ w1 ⟨ad,c,rfl,Ab,Cp,Cd⟩;have Rp:=Hd (Zqx (base:=base) (Zmw Ab (by omega)) Ah Am);have As:=Hd Cp;have F2:=Hd (D2.out.rd Br.out Cd);have Bf:=Hd (Bp.out.trans Cd.item);clear Ab Cp Cd Br D2 Bp J9 Eq;have Cx:=Hd (Ct.out _ As.out)
 go_wp2_with fail
 refine Cx.out.mono ?_;rintro _ w2 ⟨rfl,Eo,D9⟩;have K2:=Hd (Rp.out.keep Zbd (As.out.kpt D9 base (by decide)));have Ar:=Hd Eo;have Dw:=Hd (F2.out.rd As.out D9);have A6:=Hd (Bf.out.trans D9.item);clear Eo D9 As F2 Bf Rp Ct Cx;obtain⟨ad0,c0,F5⟩:=Dw.out.g14.shape;subst F5;have c14:=Dw.out.cel.cell 14;simp only[Le0,Le1]at c14;have f14:=Dw.out.cel.frz 14;have E9:=Dw.out.cel.lt;have Gi:=Hd (Gh.out _ Ar.out)
 go_wp2_with fail
 have Wj:decide (0<y.months.length)= !decide (y.months.length=0):=by
  rw[Bool.eq_iff_iff,decide_eq_true_eq,Bool.not_eq_true',decide_eq_false_iff_not];omega
 rw[Wj];refine Gi.out.mono ?_;rintro _ w3 ⟨rfl,E0,Cv⟩;have Bm:=Hd (K2.out.keep Zbd (Ar.out.kpt Cv base (by decide)));have Aq:=Hd E0;have J8:=Hd (Dw.out.rd Ar.out Cv);have An:=Hd (A6.out.trans Cv.item);clear E0 Cv Ar Dw A6 K2 Gh Gi c14 f14 E9;have c14:=J8.out.cel.cell 14;simp only[Le0,Le1]at c14;have f14:=J8.out.cel.frz 14;have E9:=J8.out.cel.lt
 go_wp2_with fail
 go_end0;exact⟨rfl,by rw[HV.out];exact⟨_,_,_,_,_,_,_,J8.out.months Bm.out⟩,by rw[HV.out];exact Aq.out.other (a:=⟨L,14,none⟩) E1 _,An.out.itemS (p:=⟨L,14,none⟩) Bc _⟩
theorem Zacg (b:Nat)(E:Int)(base L:Nat)(p:Int)(y:Lc)(r:RS)(w:World)(hr:Rd w b E r)(hb:b<base)(hl:LocAt base w L y)(hn:y.days.length≤1000):Calls prog 228 #[.pointer (some ⟨b,0,none⟩),.int .i64 p,.pointer (some ⟨L,0,none⟩)] w (Zd5 b E base L w (Zo1 E p y r)):=by
 obtain⟨v3,v4,v11,v12,v13,v14,v15,hl⟩:=hl;have Br:=Hd hr;have D2:=Hd hl;have Bp:=Hd (Kp.refl (Zcj b base) w);have E1:b<L:=lt_of_lt_of_le hb hl.low;have Ru:=hl.cel.lt;have Bc:=hl.low;have J9:=Hd (fun W (g:Rd W b E r)=>Ziz b E 7 (by decide) r W g);have Di:=Hd (fun r W (g:Rd W b E r)=>Zcs b E [59] r W g);have Gn:=Hd (fun q r W (g:Rd W b E r)=>Zki b E p q r W g);have HV:Hid (Zo1 E p y r=({ y with days:=(RS.texts0 E 7 r).1 },((RS.texts0 E 7 r).2.mark E [59]).once p (!decide (y.days.length=0)))):=rfl;have Ah:=RS.texts_len0 E 7 r;have Am:=(hr.ok.texts0 (E:=E) 7).1;unfold RdP at Di Gn;unfold Zd5;clear hr hl;generalize Zo1 E p y r=res at *;generalize RS.texts0 E 7 r=r1 at *;obtain⟨l,q1⟩:=r1;simp only at J9 HV Ah Am;have Ct:=Hd (Di.out q1);generalize q1.mark E [59]=q2 at *;have Gh:=Hd (Gn.out (!decide (y.days.length=0)) q2);generalize q2.once p (!decide (y.days.length=0))=q3 at *;clear Di Gn;have Eq:=Hd (J9.out w Br.out)
 go_enter func228,ntmps228
 go_wp2_with fail
 refine Eq.out.mono ?_;rintro _ w1 ⟨ad,c,rfl,Ab,Cp,Cd⟩;have Rp:=Hd (Zqx (base:=base) (Zmw Ab (by omega)) Ah Am);have As:=Hd Cp;have F2:=Hd (D2.out.rd Br.out Cd);have Bf:=Hd (Bp.out.trans Cd.item);clear Ab Cp Cd Br D2 Bp J9 Eq;have Cx:=Hd (Ct.out _ As.out)
 go_wp2_with fail
 refine Cx.out.mono ?_;rintro _ w2 ⟨rfl,Eo,D9⟩;have K2:=Hd (Rp.out.keep Zbd (As.out.kpt D9 base (by decide)));have Ar:=Hd Eo;have Dw:=Hd (F2.out.rd As.out D9);have A6:=Hd (Bf.out.trans D9.item);clear Eo D9 As F2 Bf Rp Ct Cx;obtain⟨ad0,c0,F5⟩:=Dw.out.g15.shape;subst F5;have c15:=Dw.out.cel.cell 15;simp only[Le0,Le1]at c15;have f15:=Dw.out.cel.frz 15;have E9:=Dw.out.cel.lt;have Gi:=Hd (Gh.out _ Ar.out)
 go_wp2_with fail
 have Wj:decide (0<y.days.length)= !decide (y.days.length=0):=by
  rw[Bool.eq_iff_iff,decide_eq_true_eq,Bool.not_eq_true',decide_eq_false_iff_not];omega
 rw[Wj];refine Gi.out.mono ?_;rintro _ w3 ⟨rfl,E0,Cv⟩;have Bm:=Hd (K2.out.keep Zbd (Ar.out.kpt Cv base (by decide)));have Aq:=Hd E0;have J8:=Hd (Dw.out.rd Ar.out Cv);have An:=Hd (A6.out.trans Cv.item);clear E0 Cv Ar Dw A6 K2 Gh Gi c15 f15 E9;have c15:=J8.out.cel.cell 15;simp only[Le0,Le1]at c15;have f15:=J8.out.cel.frz 15;have E9:=J8.out.cel.lt
 go_wp2_with fail
 go_end0;exact⟨rfl,by rw[HV.out];exact⟨_,_,_,_,_,_,_,J8.out.days Bm.out⟩,by rw[HV.out];exact Aq.out.other (a:=⟨L,15,none⟩) E1 _,An.out.itemS (p:=⟨L,15,none⟩) Bc _⟩
theorem Zaiy (p:Nat→Bool)(g:Nat)(lb:Array Value)(eg:∀args w,(callFunc g args).run prog w= .ok (.enter g args) w)(ad:Option Addr)(n c:Nat)(f:Nat→Nat→Value)(b off:Nat)(w:World)(hr:Rw w ad n 2 f b off)
  (hp:∀W i,i<n→Below w.heap.size w W→Calls prog g (#[.agg #[f i 0,f i 1]]++lb) W fun e w'=>e= .returned (.bool (p i))∧Below W.heap.size W w'):
  Calls prog 175 #[.slice ad n c,.func (.func g) #[] lb] w fun e w'=>e= .returned (.int .i64 (Zc2 p n))∧Below w.heap.size w w':=by
 have HR:=Hd hr;have HP:=Hd hp;have hm:=hr.max;clear hr hp
 go_enter func175,ntmps175
 go_wp2_with fail
 go_loopw [5,8] (fun _ v wr=>∃k:Nat,v= .int .i64 (k:Int)∧k≤n∧(∀i,i<k→p i=false)∧Below w.heap.size w wr) (fun _ v _=>n -(intOf v).toNat)
 case atStart=>exact⟨0,rfl,Nat.zero_le _,fun i hi=>absurd hi (Nat.not_lt_zero _),Below.refl _ _⟩
 case round=>
  obtain⟨k,rfl,Co,Df,Ak⟩:=hrel;have HM:=Hd Df;have Ac:=Hd Ak;clear Df Ak
  by_cases Aa:k<n
  ·have Au:=Hd (HR.out.below Ac.out);have Ci:=fun W=>Au.out.ix 211 214 underlying211 (by kernel_rfl) (by omega) Aa c W;have c0:wr.cell? ⟨b,off+k *2,none⟩=some (f k 0):=Au.out.cell k 0 Aa (by omega);have c1:wr.cell? ⟨b,off+k *2+1,none⟩=some (f k 1):=Au.out.cell k 1 Aa (by omega);have Af:=Hd (HP.out wr k Aa Ac.out);clear Au;cases hq:p k with
   |true=>
    have HQ:=Hd hq;rw[Hid,hq]at Af;clear hq
    go_wp2_with (go_at_fn g;refine Af.mono ?_;rintro e w' ⟨rfl,Cf⟩)
    go_ret;exact⟨Zbi (Zd9 Aa HQ.out HM.out).symm,Ac.out.trans (Cf.mono Ac.out.size)⟩
   |false=>
    have HQ:=Hd hq;rw[Hid,hq]at Af;clear hq
    go_wp2_with (go_at_fn g;refine Af.mono ?_;rintro e w' ⟨rfl,Cf⟩)
    go_roundw
    case rel=>
     refine⟨k+1,by go_num,by omega,fun i hi=>?_,Ac.out.trans (Cf.mono Ac.out.size)⟩
     by_cases e:i=k
     ·subst e;exact HQ.out
     ·exact HM.out i (by omega)
    case measure=>simp[intOf];omega
  ·obtain rfl:k=n:=by omega
   go_wp2_with fail
   go_ret;exact⟨Zbi (Zcl HM.out).symm,Ac.out⟩
theorem Zafp (w:World)(cs:Array Value)(T:TypeId)(n k:Nat)(hk:cs.size=n *k)(hn:n≤9223372036854775807):Rw (w.alloc (.cells cs T)) (some ⟨w.heap.size,0,none⟩) n k (fun i j=>cs.getD (i *k+j) undef) w.heap.size 0:=
 ⟨hn,fun _=>rfl,fun i j hi hj=>by
  have h1:i *k+j<cs.size:=by
   rw[hk];have:=Nat.mul_le_mul_right k (show i+1≤n by omega);rw[Nat.succ_mul]at this;omega
  rw[Nat.zero_add,Lib.cell_of_heap (heap_alloc_new w _),Array.getElem?_eq_getElem h1];simp[Array.getD,h1]⟩
def fnN:Nat→Nat
 |0=>220
 |1=>221
 |2=>222
 |3=>223
 |4=>224
 |5=>225
 |6=>226
 |7=>227
 |_=>228
def Zabt (i j:Nat):Value:=match j with|0=> .string (bs (keyL.getD i []))|_=> .func (.func (fnN i)) #[] #[]
theorem Zn1 (w:World):Calls prog 176 #[] w fun e w'=>∃ad c bb,e= .returned (.slice ad 9 c)∧Rw w' ad 9 2 Zabt bb 0∧Below w.heap.size w w':=by
 have HL:=Hd (Zafp w #[.string (bs [100,105,114,101,99,116,105,111,110]),.func (.func 220) #[] #[],.string (bs [99,97,114,100,105,110,97,108]),.func (.func 221) #[] #[],.string (bs [111,114,100,105,110,97,108]),.func (.func 222) #[] #[],.string (bs [115,121,109,98,111,108,115]),.func (.func 223) #[] #[],.string (bs [108,105,115,116]),.func (.func 224) #[] #[],.string (bs [117,110,105,116]),.func (.func 225) #[] #[],.string (bs [100,97,116,101]),.func (.func 226) #[] #[],.string (bs [109,111,110,116,104,115]),.func (.func 227) #[] #[],.string (bs [100,97,121,115]),.func (.func 228) #[] #[]] 214 9 2 rfl (by decide))
 go_enter func176,ntmps176
 go_wp2_with fail
 go_ret;refine⟨_,_,_,rfl,⟨HL.out.max,HL.out.adr,fun i j hi hj=>(HL.out.cell i j hi hj).trans ?_⟩,Bel.alloc (Bel.refl w) _⟩;rcases(by omega:j=0∨j=1)with e|e <;> subst e <;> rcases(by omega:i=0∨i=1∨i=2∨i=3∨i=4∨i=5∨i=6∨i=7∨i=8)with e|e|e|e|e|e|e|e|e <;> subst e <;> rfl
theorem Zur (k:Nat):∀args w,(callFunc (fnN k) args).run prog w= .ok (.enter (fnN k) args) w:=by
 match k with
 |0=>exact enters_of func220 (by kernel_rfl) rfl
 |1=>exact enters_of func221 (by kernel_rfl) rfl
 |2=>exact enters_of func222 (by kernel_rfl) rfl
 |3=>exact enters_of func223 (by kernel_rfl) rfl
 |4=>exact enters_of func224 (by kernel_rfl) rfl
 |5=>exact enters_of func225 (by kernel_rfl) rfl
 |6=>exact enters_of func226 (by kernel_rfl) rfl
 |7=>exact enters_of func227 (by kernel_rfl) rfl
 |_+8=>exact enters_of func228 (by kernel_rfl) rfl
theorem Zuq (kb:Nat)(k:Int)(s:List UInt8)(f:Int)(key:ByteArray)(fn:Value)(w:World)(hc:Cel w kb 109 [.int .i64 k,.string (bs s),.int .i64 f]):
  Calls prog 177 #[.agg #[.string key,fn],.pointer (some ⟨kb,0,none⟩)] w fun e w'=>e= .returned (.bool (decide (k=1)&&decide (key=bs s)))∧Below w.heap.size w w':=by
 have x0:=hc.cell 0;have x1:=hc.cell 1;simp only[Le0,Le1]at x0 x1;have hl:=hc.lt;have HE:=Hd (Zdy key (bs s));clear hc;generalize bs s=S at *
 by_cases hk:k=1
 ·subst hk
  go_enter func177,ntmps177
  go_wp2_with fail
  go_ret;exact⟨by simp[HE.out],Bel.alloc (Bel.refl w) _⟩
 ·have hz:(k==1)=false:=by simpa using hk
  go_enter func177,ntmps177
  go_wp2_with fail
  go_ret;exact⟨by simp[hk],Bel.alloc (Bel.refl w) _⟩
section
variable {P : Program} {ops : Array Oper} {Q : Exit → Act → World → Prop} {md : Region.Mode}
theorem Zr7 {k i:Nat} {oi:Oper} {v:Value} {S:World→Prop} (M:List Nat)(hi:ops[i]? =some oi)(M9:∀(j:Nat) (o:Oper) cs b,ops[j]? =some o→o.op≠ .select cs b)
  (hQ:∀c a w,Q (.panic c) (a.put oi.dst v) w→Q (.panic c) a w) (hI:k∈M) (rZ:∀m∈M,i≠m) (hw:∀m∈M,Zf6 md ops m i=true∨∃n∈M,Zf6 md ops m n=true):
  ∀(g:Nat) (L:Array Bool) (a:Act) (w:World),
   (∀j oj,ops[j]? =some oj→j≠i→L.getD j true=false→(∀e∈oj.after,Region.binds md e=true→e.on≠i)→oi.apart ops oj=true)→
   i∈Region.ready md ops L→YieldsIf P ops S oi v a→(∀m∈M,L.getD m true=false)→S w→
   Zcq P md ops Q (Zf1 k S) g (L.setIfInBounds i true) (a.put oi.dst v) w→Zcq P md ops Q (Zf1 k S) (g+1) L a w:=by
 intro g;induction g with
 |zero=>
  intro L a w _ hr hy _ hS H;refine⟨fun h=>(by rw[h]at hr;cases hr),fun j hj=>?_⟩
  by_cases Iy:j=i
  ·subst Iy;exact hy.wpOp hi hS ⟨fun _=>hS,H⟩
  ·have:=ready_mono hj Iy;rw[H.1]at this;cases this
 |succ g ih=>
  intro L a w Iz hr hy hM hS H;refine⟨fun h=>(by rw[h]at hr;cases hr),fun j hj=>?_⟩
  by_cases Iy:j=i
  ·subst Iy;exact hy.wpOp hi hS ⟨fun _=>hS,H⟩
  ·have h1:=H.2 j (ready_mono hj Iy);obtain⟨Na,oj,Ps,Be⟩:=mem_ready.1 hj;have Kv:=(mem_ready.1 hr).1;have Wl:∀(n:Nat),L.getD n true=false→∀e∈oj.after,Region.binds md e=true→e.on≠n:=fun n hn e he hb cY=>by
    have h1:=Be e he hb;rw[cY]at h1;rcases Nat.lt_or_ge n L.size with h'|h'
    ·simp[h']at hn h1;rw[hn]at h1;cases h1
    ·simp[Array.getElem?_eq_none h']at h1
   have Pu:=Wl i Kv;have nR:j∉M:=fun hm=>by
    have Yk:∀n,Zf6 md ops j n=true→L.getD n true=false→False:=fun n hw hn=>by
     unfold Zf6 at hw;rw[Ps]at hw;simp only[Array.any_eq_true,Bool.and_eq_true,beq_iff_eq]at hw;obtain⟨x,hx,hb,ho⟩:=hw;exact Wl n hn _ (Array.getElem_mem hx) hb ho
    rcases hw j hm with h|⟨n,hn,h⟩
    ·exact Yk i h Kv
    ·exact Yk n h (hM n hn)
   have sA:∀m∈M,(L.setIfInBounds j true).getD m true=false:=fun m hm=>by
    have Az:j≠m:=by rintro rfl;exact nR hm
    rw[getD_set_ne true Az];exact hM m hm
   have Uc:((L.setIfInBounds i true).setIfInBounds j true).getD k true=false:=by
    have Az:j≠k:=by rintro rfl;exact nR hI
    rw[getD_set_ne true Az,getD_set_ne true (rZ k hI)];exact hM k hI
   have h2:=wpOp_putIf Ps (Iz j oj Ps Iy Na Pu) (fun cs b=>M9 i oi cs b hi) (fun cs b=>M9 j oj cs b Ps) hQ hy h1;have J3:∀m ok,ops[m]? =some ok→m≠i→(L.setIfInBounds j true).getD m true=false→
     (∀e∈ok.after,Region.binds md e=true→e.on≠i)→oi.apart ops ok=true:=fun m ok hm gG Kv Wl=>by
    refine Iz m ok hm gG ?_ Wl
    by_cases Wm:j=m
    ·subst Wm;exact Na
    ·rw[getD_set_ne true Wm]at Kv;exact Kv
   refine wpOp_mono (fun a' w' h3=>?_) h2;have X5:S w':=h3.2.1 Uc;refine⟨fun _=>X5,ih (L.setIfInBounds j true) a' w' J3 (ready_mono hr (Ne.symm Iy)) h3.1 sA X5 ?_⟩;rw[Array.setIfInBounds_comm _ _ Iy];exact h3.2.2
def Zyc (md:Region.Mode)(ops:Array Oper)(L:Array Bool)(k i:Nat)(M:List Nat):Bool:=
 M.contains k&&M.all fun m=> !(i==m)&& !(L.getD m true)&&(Zf6 md ops m i||M.any fun n=>Zf6 md ops m n)
theorem Zlw {k i:Nat} (M:List Nat) {oi:Oper} {v:Value} {g:Nat} {L:Array Bool} {a:Act} {w:World} {S:World→Prop} (hi:ops[i]? =some oi)
  (hs:Region.noSelect ops=true) (hf:Region.free md ops L i=true) (hr:(Region.ready md ops L).contains i=true)
  (hQ:∀c a w,Q (.panic c) (a.put oi.dst v) w→Q (.panic c) a w) (hw:Zyc md ops L k i M=true) (hy:YieldsIf P ops S oi v a) (hS:S w)
  (h:Zcq P md ops Q (Zf1 k S) g (L.setIfInBounds i true) (a.put oi.dst v) w):Zcq P md ops Q (Zf1 k S) (g+1) L a w:=by
 unfold Zyc at hw;rw[Bool.and_eq_true,List.all_eq_true]at hw;have hk:k∈M:=by simpa using hw.1
 have hm:∀m∈M,i≠m∧L.getD m true=false∧(Zf6 md ops m i=true∨∃n∈M,Zf6 md ops m n=true):=fun m hm=>by
  have:=hw.2 m hm;rw[Bool.and_eq_true,Bool.and_eq_true,Bool.or_eq_true,List.any_eq_true]at this;obtain⟨⟨h1,h2⟩,h3⟩:=this;refine⟨?_,by simpa using h2,h3⟩;intro e;rw[e]at h1;simp at h1
 exact Zr7 M hi (Region.noSelect_spec hs) hQ hk (fun m h=>(hm m h).1) (fun m h=>(hm m h).2.2) g L a w (Region.free_spec hi hf) (by simpa using hr) hy (fun m h=>(hm m h).2.1) hS h
end
theorem Zyr (b:Nat)(E:Int)(base L:Nat)(p:Int)(y:Lc)(r:RS)(w:World)(hr:Rd w b E r)(hb:b<base)(hl:LocAt base w L y)(hM:MaxAt base w)(hn:y.card.length≤1000):Calls prog 221 #[.pointer (some ⟨b,0,none⟩),.int .i64 p,.pointer (some ⟨L,0,none⟩)] w (Zd5 b E base L w (Zp3 E p y r)):=by
 obtain⟨v3,v4,v11,v12,v13,v14,v15,hl⟩:=hl;have Br:=Hd hr;have D2:=Hd hl;have Bp:=Hd (Kp.refl (Zcj b base) w);have E1:b<L:=lt_of_lt_of_le hb hl.low;have Ru:=hl.cel.lt;have Bc:=hl.low;have Nr:=Hd (fun W (g:Rd W b E r) (gM:MaxLen W)=>Zqa b E r W g gM);have Rr:=Hd Zgt;have Ha:=Hd (fun q x0 W (g:Rd W b E q) (hw:base≤W.heap.size) ad c gr xa xn xk xc gx=>Zp0 b E p 5 q W g base hb hw y.card ad c gr hn x0 xa xn xk xc gx);have HV:Hid (Zp3 E p y r=({ y with card:=y.card++[(r.rule E).1] },(r.rule E).2.add p (Zhr y.card (r.rule E).1.1) (Zcc 5 y.card.length))):=rfl;have HM:=Hd (fun W (k:Below w.heap.size w W)=>hM.1.below k);unfold Zhr Zcc at HV;unfold Zd5;clear hr hl hM;generalize Zp3 E p y r=res at *;generalize r.rule E=r1 at *;obtain⟨⟨x0,xc⟩,q1⟩:=r1;simp only at Nr HV;have Ns:=Hd (Ha.out q1 x0);clear Ha;generalize q1.add p _ _=q2 at *;obtain⟨ad0,c0,F5⟩:=D2.out.g3.shape;subst F5
 go_enter func221,ntmps221
 go_upto_region 0 with(fail)
 refine Zbx 14 (fun w'=>w'.cell? ⟨L,3,none⟩=some (.slice ad0 y.card.length c0)) (by kernel_rfl) (D2.out.cel.cell 3) (fun Lw=>?_);have Gs:=Hd (Br.out.below (Bel.drew (Bel.refl w)));have Ed:=Hd (D2.out.below (Bel.drew (Bel.refl w)));have K6:=Hd (Bp.out.trans (Za4 (Bel.drew (Bel.refl w))));have Yl:=Hd (HM.out _ (Bel.drew (Bel.refl w)));clear Br D2 Bp HM;refine Tg 0 ?_;refine Tg 1 ?_;refine Tg 2 ?_;refine Tg 3 ?_;refine Tg 4 ?_;refine Tg 5 ?_;refine Tg 6 ?_;refine Tg 7 ?_;generalize w.drew=p0 at *;refine Ry 8 fun K hK=>?_
 go_simp
 refine(Nr.out p0 Gs.out Yl.out).mono ?_;rintro _ p1 ⟨v,rfl,hd,Cp,Cd⟩;obtain⟨xa,xk,ff,bb,oo,rfl,Fh⟩:=hd;have Ho:base≤p0.heap.size:=le_trans Ed.out.low (le_of_lt Ed.out.cel.lt);have Ym:Hid (RowsOf 1 RelsC (see base [91,94,152] p1) (.slice xa xc.length xk) xc):=RowsOf.sub ⟨xa,xk,ff,bb,oo,rfl,Fh⟩ (Zcr p1 Ho fun _ h=>h) fun _ _ g=>g.sub (Zcr p1 Ho fun _ h=>h);have As:=Hd Cp;have F2:=Hd (Ed.out.rd Gs.out Cd);have Bf:=Hd (K6.out.trans Cd.item);clear Fh Cp Cd Gs Ed K6 Yl Nr
 go_simp
 refine hK.out _ _ (fun _=>F2.out.cel.cell 3) (fun _=>?_);clear hK K
 try simp only[Act.put,getElem_toArray,getElem_cons_succ,getElem_cons_zero,setIfInBounds_toArray,set_cons_zero,set_cons_succ]
 refine Ry 9 fun K hK=>?_
 go_simp
 refine(Rr.out p1).mono ?_;rintro _ p2 ⟨ad2,n2,c2,rfl,F0,Ag⟩;obtain rfl:n2=5:=by
  obtain⟨_,_,F0⟩:=F0;exact F0.len.symm
 have hZ:=Hd (CondAt.kpt Ym.out (KpT.below Ag base [91,94,152]));have Ar:=Hd (As.out.below Ag);have Dw:=Hd (F2.out.below Ag);have A6:=Hd (Bf.out.trans (Za4 Ag));clear F0 Ag As F2 Bf Ym Rr
 go_simp
 refine hK.out _ _ (fun _=>Dw.out.cel.cell 3) (fun _=>?_);clear hK K;refine Tg 10 ?_ (hS:=(Dw.out.cel.cell 3));refine Ry 11 fun K hK=>?_
 go_simp
 have Eu:base≤p2.heap.size:=le_trans Dw.out.low (le_of_lt Dw.out.cel.lt);refine(Ns.out p2 Ar.out Eu ad0 c0 Dw.out.g3 xa xc.length xk xc hZ.out).mono ?_;rintro _ p3 ⟨v',rfl,A5,E0,Cv,K4⟩;obtain⟨ad',n',c',rfl⟩:∃ad n c,v'= .slice ad n c:=by obtain⟨ad,c,h⟩:=A5.shape;exact⟨ad,_,c,h⟩
 have Yn:=Dw.out.celG Ar.out Dw.out.g3 Cv (by decide);have Ft:=Hd Yn;have Rv:=Hd (Dw.out.card Ar.out Cv A5 K4);have Aq:=Hd E0;have An:=Hd (A6.out.trans (Cv.itemG Dw.out.g3 (le_refl _)));clear Yn A5 E0 Cv K4 Ns
 go_simp
 refine hK.out _ _ (fun _=>Ft.out.cell 3) (fun _=>?_);clear hK K
 try simp only[Act.put,getElem_toArray,getElem_cons_succ,getElem_cons_zero,setIfInBounds_toArray,set_cons_zero,set_cons_succ]
 refine Ry 12 fun K hK=>?_
 go_simp
 refine hK.out _ _ (fun _=>Ft.out.cell 3) (fun _=>?_);clear hK K
 try simp only[Act.put,getElem_toArray,getElem_cons_succ,getElem_cons_zero,setIfInBounds_toArray,set_cons_zero,set_cons_succ]
 refine Ry 13 fun K hK=>?_
 go_simp
 refine hK.out _ _ (fun _=>Ft.out.cell 3) (fun _=>?_);clear hK K
 try simp only[Act.put,getElem_toArray,getElem_cons_succ,getElem_cons_zero,setIfInBounds_toArray,set_cons_zero,set_cons_succ]
 have c3:=Ft.out.cell 3;have f3:=Ft.out.frz 3;have E9:=Ft.out.lt;refine Ry 14 fun K hK=>?_
 go_simp
 refine hK.out _ _ (fun h=>by cases h) (fun _=>?_);clear hK K;refine Zcp (by kernel_rfl) ?_ _;go_end0;exact⟨rfl,by rw[HV.out];exact⟨_,_,_,_,_,_,_,Rv.out⟩,by rw[HV.out];exact Aq.out.other (a:=⟨L,3,none⟩) E1 _,An.out.itemS (p:=⟨L,3,none⟩) Bc _⟩
theorem Zacb (b:Nat)(E:Int)(base L:Nat)(p:Int)(y:Lc)(r:RS)(w:World)(hr:Rd w b E r)(hb:b<base)(hl:LocAt base w L y)(hM:MaxAt base w)(hn:y.ord.length≤1000):Calls prog 222 #[.pointer (some ⟨b,0,none⟩),.int .i64 p,.pointer (some ⟨L,0,none⟩)] w (Zd5 b E base L w (Zro E p y r)):=by
 obtain⟨v3,v4,v11,v12,v13,v14,v15,hl⟩:=hl;have Br:=Hd hr;have D2:=Hd hl;have Bp:=Hd (Kp.refl (Zcj b base) w);have E1:b<L:=lt_of_lt_of_le hb hl.low;have Ru:=hl.cel.lt;have Bc:=hl.low;have Nr:=Hd (fun W (g:Rd W b E r) (gM:MaxLen W)=>Zqa b E r W g gM);have Rr:=Hd Zgt;have Ha:=Hd (fun q x0 W (g:Rd W b E q) (hw:base≤W.heap.size) ad c gr xa xn xk xc gx=>Zp0 b E p 5 q W g base hb hw y.ord ad c gr hn x0 xa xn xk xc gx);have HV:Hid (Zro E p y r=({ y with ord:=y.ord++[(r.rule E).1] },(r.rule E).2.add p (Zhr y.ord (r.rule E).1.1) (Zcc 5 y.ord.length))):=rfl;have HM:=Hd (fun W (k:Below w.heap.size w W)=>hM.1.below k);unfold Zhr Zcc at HV;unfold Zd5;clear hr hl hM;generalize Zro E p y r=res at *;generalize r.rule E=r1 at *;obtain⟨⟨x0,xc⟩,q1⟩:=r1;simp only at Nr HV;have Ns:=Hd (Ha.out q1 x0);clear Ha;generalize q1.add p _ _=q2 at *;obtain⟨ad0,c0,F5⟩:=D2.out.g4.shape;subst F5
 go_enter func222,ntmps222
 go_upto_region 0 with(fail)
 refine Zbx 14 (fun w'=>w'.cell? ⟨L,4,none⟩=some (.slice ad0 y.ord.length c0)) (by kernel_rfl) (D2.out.cel.cell 4) (fun Lw=>?_);have Gs:=Hd (Br.out.below (Bel.drew (Bel.refl w)));have Ed:=Hd (D2.out.below (Bel.drew (Bel.refl w)));have K6:=Hd (Bp.out.trans (Za4 (Bel.drew (Bel.refl w))));have Yl:=Hd (HM.out _ (Bel.drew (Bel.refl w)));clear Br D2 Bp HM;refine Tg 0 ?_;refine Tg 1 ?_;refine Tg 2 ?_;refine Tg 3 ?_;refine Tg 4 ?_;refine Tg 5 ?_;refine Tg 6 ?_;refine Tg 7 ?_;generalize w.drew=p0 at *;refine Ry 8 fun K hK=>?_
 go_simp
 refine(Nr.out p0 Gs.out Yl.out).mono ?_;rintro _ p1 ⟨v,rfl,hd,Cp,Cd⟩;obtain⟨xa,xk,ff,bb,oo,rfl,Fh⟩:=hd;have Ho:base≤p0.heap.size:=le_trans Ed.out.low (le_of_lt Ed.out.cel.lt);have Ym:Hid (RowsOf 1 RelsC (see base [91,94,152] p1) (.slice xa xc.length xk) xc):=RowsOf.sub ⟨xa,xk,ff,bb,oo,rfl,Fh⟩ (Zcr p1 Ho fun _ h=>h) fun _ _ g=>g.sub (Zcr p1 Ho fun _ h=>h);have As:=Hd Cp;have F2:=Hd (Ed.out.rd Gs.out Cd);have Bf:=Hd (K6.out.trans Cd.item);clear Fh Cp Cd Gs Ed K6 Yl Nr
 go_simp
 refine hK.out _ _ (fun _=>F2.out.cel.cell 4) (fun _=>?_);clear hK K
 try simp only[Act.put,getElem_toArray,getElem_cons_succ,getElem_cons_zero,setIfInBounds_toArray,set_cons_zero,set_cons_succ]
 refine Ry 9 fun K hK=>?_
 go_simp
 refine(Rr.out p1).mono ?_;rintro _ p2 ⟨ad2,n2,c2,rfl,F0,Ag⟩;obtain rfl:n2=5:=by
  obtain⟨_,_,F0⟩:=F0;exact F0.len.symm
 have hZ:=Hd (CondAt.kpt Ym.out (KpT.below Ag base [91,94,152]));have Ar:=Hd (As.out.below Ag);have Dw:=Hd (F2.out.below Ag);have A6:=Hd (Bf.out.trans (Za4 Ag));clear F0 Ag As F2 Bf Ym Rr
 go_simp
 refine hK.out _ _ (fun _=>Dw.out.cel.cell 4) (fun _=>?_);clear hK K;refine Tg 10 ?_ (hS:=(Dw.out.cel.cell 4));refine Ry 11 fun K hK=>?_
 go_simp
 have Eu:base≤p2.heap.size:=le_trans Dw.out.low (le_of_lt Dw.out.cel.lt);refine(Ns.out p2 Ar.out Eu ad0 c0 Dw.out.g4 xa xc.length xk xc hZ.out).mono ?_;rintro _ p3 ⟨v',rfl,A5,E0,Cv,K4⟩;obtain⟨ad',n',c',rfl⟩:∃ad n c,v'= .slice ad n c:=by obtain⟨ad,c,h⟩:=A5.shape;exact⟨ad,_,c,h⟩
 have Yn:=Dw.out.celG Ar.out Dw.out.g4 Cv (by decide);have Ft:=Hd Yn;have Rv:=Hd (Dw.out.ord Ar.out Cv A5 K4);have Aq:=Hd E0;have An:=Hd (A6.out.trans (Cv.itemG Dw.out.g4 (le_refl _)));clear Yn A5 E0 Cv K4 Ns
 go_simp
 refine hK.out _ _ (fun _=>Ft.out.cell 4) (fun _=>?_);clear hK K
 try simp only[Act.put,getElem_toArray,getElem_cons_succ,getElem_cons_zero,setIfInBounds_toArray,set_cons_zero,set_cons_succ]
 refine Ry 12 fun K hK=>?_
 go_simp
 refine hK.out _ _ (fun _=>Ft.out.cell 4) (fun _=>?_);clear hK K
 try simp only[Act.put,getElem_toArray,getElem_cons_succ,getElem_cons_zero,setIfInBounds_toArray,set_cons_zero,set_cons_succ]
 refine Ry 13 fun K hK=>?_
 go_simp
 refine hK.out _ _ (fun _=>Ft.out.cell 4) (fun _=>?_);clear hK K
 try simp only[Act.put,getElem_toArray,getElem_cons_succ,getElem_cons_zero,setIfInBounds_toArray,set_cons_zero,set_cons_succ]
 have c4:=Ft.out.cell 4;have f4:=Ft.out.frz 4;have E9:=Ft.out.lt;refine Ry 14 fun K hK=>?_
 go_simp
 refine hK.out _ _ (fun h=>by cases h) (fun _=>?_);clear hK K;refine Zcp (by kernel_rfl) ?_ _;go_end0;exact⟨rfl,by rw[HV.out];exact⟨_,_,_,_,_,_,_,Rv.out⟩,by rw[HV.out];exact Aq.out.other (a:=⟨L,4,none⟩) E1 _,An.out.itemS (p:=⟨L,4,none⟩) Bc _⟩
theorem Zya (b:Nat)(E:Int)(base L:Nat)(p:Int)(y:Lc)(r:RS)(w:World)(hr:Rd w b E r)(hb:b<base)(hl:LocAt base w L y)(hn:y.dates.length≤1000):Calls prog 226 #[.pointer (some ⟨b,0,none⟩),.int .i64 p,.pointer (some ⟨L,0,none⟩)] w (Zd5 b E base L w (Zo9 E p y r)):=by
 obtain⟨v3,v4,v11,v12,v13,v14,v15,hl⟩:=hl;have Br:=Hd hr;have D2:=Hd hl;have Bp:=Hd (Kp.refl (Zcj b base) w);have E1:b<L:=lt_of_lt_of_le hb hl.low;have Ru:=hl.cel.lt;have Bc:=hl.low;have Dx:=Hd (fun W (g:Rd W b E r)=>Zdr b E r W g);have Us:=Hd (fun q W (g:Rd W b E q)=>Zkr b E q W g);have Di:=Hd (fun q W (g:Rd W b E q)=>Zcs b E [59] q W g);have Ha:=Hd (fun q x0 x1 z W (g:Rd W b E q) (hw:base≤W.heap.size) ad c gr hx=>Zabm b E p 30 q W g base hb hw y.dates ad c gr hn x0 x1 z hx);have HV:Hid (Zo9 E p y r=({ y with dates:=y.dates++[⟨bs (r.word E).1,bs ((r.word E).2.text E).1⟩] },(((r.word E).2.text E).2.mark E [59]).add p (Zof y.dates (bs (r.word E).1)) (Zcc 30 y.dates.length))):=rfl;have h1:=hr.ok.take (E:=E) (k:=1);have Cc:(bs (r.word E).1).size≤140737488351232:=by rw[Za5];exact le_trans h1.1 (by decide)
 have Ba:(bs ((r.word E).2.text E).1).size≤140737488351232:=by rw[Za5];exact le_trans (h1.2.take (E:=E) (k:=2)).1 (by decide)
 clear h1;unfold Zof Zcc at HV;unfold RdP at Dx Us Di;unfold Zd5;clear hr hl;generalize Zo9 E p y r=res at *;generalize r.word E=r1 at *;obtain⟨K,q1⟩:=r1;simp only at Dx HV Cc Ba;have Nt:=Hd (Us.out q1);generalize q1.text E=r2 at *;obtain⟨T,q2⟩:=r2;simp only at Nt HV Ba;have Ct:=Hd (Di.out q2);generalize q2.mark E [59]=q3 at *;generalize bs K=K at *;generalize bs T=T at *;have Ha:=Hd (Ha.out q3 K T ⟨K,T⟩);have Py:Hid (∀W,DpC W (fun j=>(#[.string K,.string T]:Array Value).getD j undef) ⟨K,T⟩):=fun W=>⟨⟨rfl,Cc⟩,⟨rfl,Ba⟩⟩;clear Us Di Cc Ba;generalize q3.add p _ _=q4 at *;have Bp:=Hd (Kp.refl (Zaf b) w)
 go_enter func226,ntmps226
 go_wp2_with fail
 refine(Dx.out _ Br.out).mono ?_;rintro _ w1 ⟨rfl,Cp,Cd⟩;have As:=Hd Cp;have Bf:=Hd (Bp.out.trans Cd);clear Cp Cd Bp Dx;have Ar:=Hd (As.out.below (Bel.alloc (Bel.refl w1) (.cells #[.string K,.string ⟨#[]⟩] 134)));have A6:=Hd (Bf.out.alloc (.cells #[.string K,.string ⟨#[]⟩] 134));have C7:=Hd (Cel.new w1 [.string K,.string ⟨#[]⟩] 134);obtain⟨X,hX⟩:∃X,w1.heap.size=X:=⟨_,rfl⟩;have E3:w.heap.size≤X:=by rw[←hX];exact Bf.out.size
 have Gq:b<X:=lt_of_lt_of_le Br.out.lt E3;have Ch:X≠b:=by omega
 have dC:X≠L:=by omega
 rw[hX]at C7;clear As Bf
 go_upto_region 1 with(fail)
 generalize w1.alloc (.cells #[.string K,.string ⟨#[]⟩] 134)=w2 at *;have Ut:=Hd (Nt.out _ Ar.out)
 go_wp2_with fail
 refine Ut.out.mono ?_;rintro _ w3 ⟨rfl,E0,Cv⟩;have Aq:=Hd E0;have An:=Hd (A6.out.trans Cv);have Bg:=Hd (C7.out.kp Cv (Za1 Ch));clear E0 Cv Ar A6 C7;have x1:=Bg.out.cell 1;simp only[Le0,Le1]at x1;have xf1:=Bg.out.frz 1;have Bx:=Bg.out.lt
 go_upto_region 2 with(fail)
 have Cl:=Hd (Bg.out.set 1 (.string T));have Bk:=Hd (Aq.out.other (a:=⟨X,1,none⟩) Gq (.string T));have Bh:=Hd (An.out.setN (p:=⟨X,1,none⟩) E3 (.string T));simp only[set_cons_zero,set_cons_succ]at Cl;clear Aq An Bg x1 xf1 Bx;generalize w3.setCell ⟨X,1,none⟩ (.string T)=w4 at *;have Cx:=Hd (Ct.out _ Bk.out)
 go_wp2_with fail
 refine Cx.out.mono ?_;rintro _ w5 ⟨rfl,Bw,A9⟩;have Cg:=Hd Bw;have Bv:=Hd (Bh.out.trans A9);have Dh:=Hd (Cl.out.kp A9 (Za1 Ch));clear Bw A9 Bk Bh Cl
 go_upto_region 3 with(fail)
 have Pz:=Hd (D2.out.rd Br.out Bv.out);obtain⟨ad0,c0,F5⟩:=Pz.out.g13.shape;subst F5;have P0:∀k,Value.ownBlock (.slice ad0 y.dates.length c0)=some k→k<w.heap.size:=fun k hk=>(D2.out.g13.lt hk).2;refine Zbx 11 (fun w'=>w'.cell? ⟨L,13,none⟩=some (.slice ad0 y.dates.length c0)∧Cel w' X 134 [.string K,.string T]) (by kernel_rfl) ⟨Pz.out.cel.cell 13,Dh.out⟩ (fun Lw=>?_);have Gs:=Hd (Cg.out.below (Bel.drew (Bel.refl w5)));have Ed:=Hd (Pz.out.below (Bel.drew (Bel.refl w5)));have Yo:=Hd (Dh.out.below (Bel.drew (Bel.refl w5)));have K6:=Hd (Bv.out.trans (Za4 (Bel.drew (Bel.refl w5))));clear Cg Pz Dh Bv D2 Br;refine Tg 0 ?_ (hy:=by intro wx A3;obtain⟨t1,t2⟩:=A3;have q0:=t2.cell 0;have q1:=t2.cell 1;have Bx:=t2.lt;simp only[Le0,Le1]at q0 q1;go_simp;try with_reducible rfl);refine Tg 1 ?_ (hy:=by intro wx A3;obtain⟨t1,t2⟩:=A3;have q0:=t2.cell 0;have q1:=t2.cell 1;have Bx:=t2.lt;simp only[Le0,Le1]at q0 q1;go_simp;try with_reducible rfl);refine Tg 2 ?_ (hy:=by intro wx A3;obtain⟨t1,t2⟩:=A3;have q0:=t2.cell 0;have q1:=t2.cell 1;have Bx:=t2.lt;simp only[Le0,Le1]at q0 q1;go_simp;try with_reducible rfl);refine Tg 3 ?_ (hy:=by intro wx A3;obtain⟨t1,t2⟩:=A3;have q0:=t2.cell 0;have q1:=t2.cell 1;have Bx:=t2.lt;simp only[Le0,Le1]at q0 q1;go_simp;try with_reducible rfl);refine Tg 4 ?_ (hy:=by intro wx A3;obtain⟨t1,t2⟩:=A3;have q0:=t2.cell 0;have q1:=t2.cell 1;have Bx:=t2.lt;simp only[Le0,Le1]at q0 q1;go_simp;try with_reducible rfl);refine Tg 5 ?_ (hy:=by intro wx A3;obtain⟨t1,t2⟩:=A3;have q0:=t2.cell 0;have q1:=t2.cell 1;have Bx:=t2.lt;simp only[Le0,Le1]at q0 q1;go_simp;try with_reducible rfl);refine Tg 6 ?_ (hy:=by intro wx A3;obtain⟨t1,t2⟩:=A3;have q0:=t2.cell 0;have q1:=t2.cell 1;have Bx:=t2.lt;simp only[Le0,Le1]at q0 q1;go_simp;try with_reducible rfl);refine Tg 7 ?_ (hy:=by intro wx A3;obtain⟨t1,t2⟩:=A3;have q0:=t2.cell 0;have q1:=t2.cell 1;have Bx:=t2.lt;simp only[Le0,Le1]at q0 q1;go_simp;try with_reducible rfl);generalize w5.drew=p0 at *;refine Ry 8 fun K hK=>?_
 go_simp
 have Ho:base≤p0.heap.size:=le_trans Ed.out.low (le_of_lt Ed.out.cel.lt);refine(Ha.out p0 Gs.out Ho ad0 c0 Ed.out.g13 Py.out).mono ?_;rintro _ p1 ⟨v',rfl,Fs,Cp,Cd⟩;obtain⟨ad',n',c',rfl⟩:∃ad n c,v'= .slice ad n c:=by obtain⟨ad,c,h⟩:=Fs.shape;exact⟨ad,_,c,h⟩
 have Gy:=Ed.out.celG Gs.out Ed.out.g13 Cd (by decide);have C0:=Hd Gy;have F2:=Hd (Ed.out.dates Gs.out Cd Fs);have O4:Za7 b (.slice ad0 y.dates.length c0) X=false:=by
  unfold Za7;rw[decide_eq_false Ch,decide_eq_false (fun e=>by have:=P0 X e;omega)];rfl
 have I4:=Hd (Yo.out.kp Cd O4);have As:=Hd Cp;have La:=Hd (K6.out.item.trans (Cd.itemG Ed.out.g13 (le_refl _)));clear Gy Fs Cp Ha
 go_simp
 refine hK.out _ _ (fun _=>⟨C0.out.cell 13,I4.out⟩) (fun _=>?_);clear hK K
 try simp only[Act.put,getElem_toArray,getElem_cons_succ,getElem_cons_zero,setIfInBounds_toArray,set_cons_zero,set_cons_succ]
 refine Ry 9 fun K hK=>?_
 go_simp
 refine hK.out _ _ (fun _=>⟨C0.out.cell 13,I4.out⟩) (fun _=>?_);clear hK K
 try simp only[Act.put,getElem_toArray,getElem_cons_succ,getElem_cons_zero,setIfInBounds_toArray,set_cons_zero,set_cons_succ]
 refine Ry 10 fun K hK=>?_
 go_simp
 refine hK.out _ _ (fun _=>⟨C0.out.cell 13,I4.out⟩) (fun _=>?_);clear hK K
 try simp only[Act.put,getElem_toArray,getElem_cons_succ,getElem_cons_zero,setIfInBounds_toArray,set_cons_zero,set_cons_succ]
 have c13:=C0.out.cell 13;have f13:=C0.out.frz 13;have E9:=C0.out.lt;refine Ry 11 fun K hK=>?_
 go_simp
 refine hK.out _ _ (fun h=>by cases h) (fun _=>?_);clear hK K;refine Zcp (by kernel_rfl) ?_ _;go_end0;exact⟨rfl,by rw[HV.out];exact⟨_,_,_,_,_,_,_,F2.out⟩,by rw[HV.out];exact As.out.other (a:=⟨L,13,none⟩) E1 _,La.out.itemS (p:=⟨L,13,none⟩) Bc _⟩
end Go.Proofs.YtmleeodfmmpdgaaGreatDoor
