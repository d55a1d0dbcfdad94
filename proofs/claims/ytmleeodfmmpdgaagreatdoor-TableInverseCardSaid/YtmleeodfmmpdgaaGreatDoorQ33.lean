/- Walks: words and texts; table.every. -/
import Derived.Test.YtmleeodfmmpdgaaGreatDoorQ32
import Derived.Test.YtmleeodfmmpdgaaGreatDoorQ31
set_option maxRecDepth 20000
set_option maxHeartbeats 4000000
namespace Go.Proofs.YtmleeodfmmpdgaaGreatDoor
open Go.RowKit
attribute [local go_sem] Ext.cell Ext.frozen
attribute [local go_sem ↓] Go.wp_at_zero Go.wp_at_succ
open _root_.List (length_append length_cons length_map length_nil mem_cons mem_cons_self not_mem_nil)
open _root_.Nat (le_refl le_trans not_lt_zero zero_le)
open _root_.Go.Proofs.Tryz
theorem Zajf (p:Nat→Bool)(g:Nat)(lb:Array Value)(eg:∀args w,(callFunc g args).run prog w= .ok (.enter g args) w)(ad:Option Addr)(n c:Nat)(f:Nat→Nat→Value)(b off:Nat)(w:World)(hr:Rw w ad n 1 f b off)
  (hp:∀W i,i<n→Below w.heap.size w W→Calls prog g (#[f i 0]++lb) W fun e w'=>e= .returned (.bool (p i))∧Below W.heap.size W w'):
  Calls prog 167 #[.slice ad n c,.func (.func g) #[] lb] w fun e w'=>e= .returned (.int .i64 (Zc2 p n))∧Below w.heap.size w w':=by
 have HR:=Hd hr;have HP:=Hd hp;have hm:=hr.max;clear hr hp
 go_enter func167,ntmps167
 go_wp2_with fail
 go_loopw [5,8] (fun _ v wr=>∃k:Nat,v= .int .i64 (k:Int)∧k≤n∧(∀i,i<k→p i=false)∧Below w.heap.size w wr) (fun _ v _=>n -(intOf v).toNat)
 case atStart=>exact⟨0,rfl,zero_le _,fun i hi=>absurd hi (not_lt_zero _),Below.refl _ _⟩
 case round=>
  obtain⟨k,rfl,Co,Df,Ak⟩:=hrel;have HM:=Hd Df;have Ac:=Hd Ak;clear Df Ak
  by_cases Aa:k<n
  ·have Au:=Hd (HR.out.below Ac.out);have Ci:=fun W=>Au.out.ix 44 9 underlying44 (by kernel_rfl) (by omega) Aa c W;rw[Nat.mul_one]at Ci;have c0:wr.cell? ⟨b,off+k,none⟩=some (f k 0):=by have:=Au.out.cell k 0 Aa (by omega);rwa [Nat.mul_one,Nat.add_zero]at this
   have Af:=Hd (HP.out wr k Aa Ac.out);clear Au;cases hq:p k with
   |true=>
    have HQ:=Hd hq;rw[Hid,hq]at Af;clear hq
    go_wp2_with (go_at_fn g;refine Af.mono ?_;rintro e w' ⟨rfl,Cf⟩)
    go_ret;exact⟨Zbi (Zd9 Aa HQ.out HM.out).symm,Ac.out.trans (Cf.mono Ac.out.size)⟩
   |false=>
    have HQ:=Hd hq;rw[Hid,hq]at Af;clear hq
    go_wp2_with (go_at_fn g;refine Af.mono ?_;rintro e w' ⟨rfl,Cf⟩)
    go_roundw
    case rel=>
     refine⟨k+1,by go_num,by omega,fun i hi=>?_,Ac.out.trans (Cf.mono Ac.out.size)⟩
     by_cases e:i=k
     ·subst e;exact HQ.out
     ·exact HM.out i (by omega)
    case measure=>simp[intOf];omega
  ·obtain rfl:k=n:=by omega
   go_wp2_with fail
   go_ret;exact⟨Zbi (Zcl HM.out).symm,Ac.out⟩
theorem Zw8 (p:Nat→Bool)(g:Nat)(lb:Array Value)(eg:∀args w,(callFunc g args).run prog w= .ok (.enter g args) w)(ad:Option Addr)(n c:Nat)(f:Nat→Nat→Value)(b off:Nat)(w:World)(hr:Rw w ad n 1 f b off)
  (hp:∀W i,i<n→Below w.heap.size w W→Calls prog g (#[f i 0]++lb) W fun e w'=>e= .returned (.bool (p i))∧Below W.heap.size W w'):
  Calls prog 102 #[.slice ad n c,.func (.func g) #[] lb] w fun e w'=>e= .returned (.bool (Zai p n))∧Below w.heap.size w w':=by
 have HC:=Hd (Zajf p g lb eg ad n c f b off w hr hp);clear hr hp eg;rw[←Zea];generalize Zc2 p n=z at *
 go_enter func102,ntmps102
 go_wp2_with (go_at_call 167;refine HC.out.mono ?_;rintro e w' ⟨rfl,Cf⟩)
 go_ret;exact⟨rfl,Cf⟩
theorem Zxw (s:ByteArray)(w:World)(hs:s.size≤200000):Calls prog 103 #[.string s] w fun e w'=>e= .returned (.bool (!Zgq s))∧Below w.heap.size w w':=by
 have HP:=Hd (fun W=>Zxt s.data.toList (by rw[Zbm];exact hs) W);have HO:Hid (Zam s.data.toList=Zgq s):=rfl;rw[Hid,HO.out,show bs s.data.toList=s from rfl]at HP;have HP:=Hd HP;clear hs HO;generalize Zgq s=q at *
 go_enter func103,ntmps103
 go_wp2_with (go_at_call 104;refine(HP.out _).mono ?_;rintro e w' ⟨rfl,hb⟩)
 go_ret;exact⟨by cases q <;> rfl,hb⟩
theorem Zwk (v:Value)(l:List ByteArray)(w:World)(h:RowsOf 1 OneS w v l)(hz:∀s∈l,s.size≤200000):Calls prog 45 #[v] w fun e w'=>e= .returned (.bool (Zb6 l))∧Below w.heap.size w w':=by
 obtain⟨ad,c,f,b,off,rfl,hr,_,_,_,hf⟩:=h.opn;have HC:=Zw8 (fun i=> !Zgq (l.getD i .empty)) 103 #[] (enters_of func103 (by kernel_rfl) rfl) ad l.length c f b off w hr (fun W i hi hb=>by
  obtain⟨h1,_⟩:=hf i hi;rw[h1];have h2:l.getD i .empty=l[i]:=by rw[List.getD_eq_getElem?_getD,List.getElem?_eq_getElem hi];rfl
  rw[h2];exact Zxw l[i] W (hz _ (List.getElem_mem hi)))
 rw[Zhf (fun s=> !Zgq s),Zmk]at HC;have HC:=Hd HC;have HO:Hid (Zb6 l=l.all Zgq):=rfl;rw[HO.out];clear hr hf hz HO;generalize l.all Zgq=q at *;generalize l.length=n at *
 go_enter func45,ntmps45
 go_wp2_with (refine HC.out.mono ?_;rintro e w' ⟨rfl,hb⟩)
 go_ret;exact⟨by cases q <;> rfl,hb⟩
theorem Zxp (s:ByteArray)(w:World)(hs:s.size≤200000)(hU:TabU w):Calls prog 145 #[.string s] w fun e w'=>e= .returned (.bool (!Zfu s))∧Below w.heap.size w w':=by
 have HP:=Hd (fun W (hb:Below w.heap.size w W)=>Zww s.data.toList (by rw[Zbm];exact hs) W (hU.below hb));have HO:Hid (Zbk s.data.toList=Zfu s):=rfl;rw[Hid,HO.out,show bs s.data.toList=s from rfl]at HP;have HP:=Hd HP;clear hs hU HO;generalize Zfu s=q at *
 go_enter func145,ntmps145
 go_wp2_with (go_at_call 146;refine(HP.out _ (Below.refl _ _)).mono ?_;rintro e w' ⟨rfl,hb⟩)
 go_ret;exact⟨by cases q <;> rfl,hb⟩
theorem Zkc (v:Value)(l:List ByteArray)(w:World)(h:RowsOf 1 OneS w v l)(hz:∀s∈l,s.size≤200000)(hU:TabU w):Calls prog 96 #[v] w fun e w'=>e= .returned (.bool (Zb2 l))∧Below w.heap.size w w':=by
 obtain⟨ad,c,f,b,off,rfl,hr,_,_,_,hf⟩:=h.opn;have HC:=Zw8 (fun i=> !Zfu (l.getD i .empty)) 145 #[] (enters_of func145 (by kernel_rfl) rfl) ad l.length c f b off w hr (fun W i hi hb=>by
  obtain⟨h1,_⟩:=hf i hi;rw[h1];have h2:l.getD i .empty=l[i]:=by rw[List.getD_eq_getElem?_getD,List.getElem?_eq_getElem hi];rfl
  rw[h2];exact Zxp l[i] W (hz _ (List.getElem_mem hi)) (hU.below hb))
 rw[Zhf (fun s=> !Zfu s),Zmk]at HC;have HC:=Hd HC;have HO:Hid (Zb2 l=l.all Zfu):=rfl;rw[HO.out];clear hr hf hz hU HO;generalize l.all Zfu=q at *;generalize l.length=n at *
 go_enter func96,ntmps96
 go_wp2_with (refine HC.out.mono ?_;rintro e w' ⟨rfl,hb⟩)
 go_ret;exact⟨by cases q <;> rfl,hb⟩
theorem Zv6 (p:Bool)(g:Nat)(eg:∀args w,(callFunc g args).run prog w= .ok (.enter g args) w)(x0 x1:Value)(fb:Nat)(w:World)(hk:Cel w fb 189 [.func (.func g) #[] #[]])
  (hp:∀W,Below w.heap.size w W→Calls prog g #[.agg #[x0,x1]] W fun e w'=>e= .returned (.bool p)∧Below W.heap.size W w'):
  Calls prog 199 #[.agg #[x0,x1],.pointer (some ⟨fb,0,none⟩)] w fun e w'=>e= .returned (.bool (!p))∧Below w.heap.size w w':=by
 have HP:=Hd hp;have c0:=hk.cell 0;simp only[Le0]at c0;have Gr:=hk.lt;clear hk hp
 go_enter func199,ntmps199
 go_wp2_with (go_at_fn g;refine(HP.out _ (by first|exact Below.refl _ _|exact(Below.refl _ _).alloc (le_refl _) _)).mono ?_;rintro e w' ⟨rfl,hb⟩)
 go_ret;exact⟨by cases p <;> rfl,by first|exact hb|exact((Below.refl _ _).alloc (le_refl _) _).trans (hb.mono (by simp))⟩
theorem Zwi (p:Nat→Bool)(g:Nat)(eg:∀args w,(callFunc g args).run prog w= .ok (.enter g args) w)(ad:Option Addr)(n c:Nat)(f:Nat→Nat→Value)(b off:Nat)(w:World)(hr:Rw w ad n 2 f b off)
  (hp:∀W i,i<n→Below w.heap.size w W→Calls prog g #[.agg #[f i 0,f i 1]] W fun e w'=>e= .returned (.bool (p i))∧Below W.heap.size W w'):
  Calls prog 149 #[.slice ad n c,.func (.func g) #[] #[]] w fun e w'=>e= .returned (.bool (!Zai (fun i=> !p i) n))∧Below w.heap.size w w':=by
 have Gp:∀(fn:Fn) (first cap:Array Value) (w:World),(Instr.makeFunc fn first cap).run prog w= .ok (.func fn first cap) w:=fun _ _ _ _=>rfl;have HC:Hid (∀W fb,Below w.heap.size w W→Cel W fb 189 [.func (.func g) #[] #[]]→Calls prog 198 #[.slice ad n c,.func (.func 199) #[] #[.pointer (some ⟨fb,0,none⟩)]] W fun e w'=>e= .returned (.bool (Zai (fun i=> !p i) n))∧Below W.heap.size W w'):=by
  intro W fb hb Gv;refine Zqq _ 199 _ (enters_of func199 (by kernel_rfl) rfl) ad n c f b off W (hr.below hb) (fun V i hi hV=>?_);exact Zv6 (p i) g eg _ _ fb V (Gv.below (hV.mono (by omega))) (fun U hU=>hp U i hi (hb.trans ((hV.trans (hU.mono hV.size)).mono hb.size)))
 clear hr hp;generalize Zai (fun i=> !p i) n=q at *;have HN:=Hd (Cel.new w [.func (.func g) #[] #[]] 189);have Ay:Hid (Below w.heap.size w (w.alloc (.cells #[.func (.func g) #[] #[]] 189))):=(Below.refl _ _).alloc (le_refl _) _
 go_enter func149,ntmps149
 go_wp2_with (refine(HC.out _ w.heap.size Ay.out HN.out).mono ?_;rintro e w' ⟨rfl,hb⟩)
 go_ret;exact⟨rfl,Ay.out.trans (hb.mono Ay.out.size)⟩
theorem Zzw (p:Bool)(g:Nat)(eg:∀args w,(callFunc g args).run prog w= .ok (.enter g args) w)(x0 x1 x2 x3 x4:Value)(fb:Nat)(w:World)(hk:Cel w fb 198 [.func (.func g) #[] #[]])
  (hp:∀W,Below w.heap.size w W→Calls prog g #[.agg #[x0,x1,x2,x3,x4]] W fun e w'=>e= .returned (.bool p)∧Below W.heap.size W w'):
  Calls prog 204 #[.agg #[x0,x1,x2,x3,x4],.pointer (some ⟨fb,0,none⟩)] w fun e w'=>e= .returned (.bool (!p))∧Below w.heap.size w w':=by
 have HP:=Hd hp;have c0:=hk.cell 0;simp only[Le0]at c0;have Gr:=hk.lt;clear hk hp
 go_enter func204,ntmps204
 go_wp2_with (go_at_fn g;refine(HP.out _ (by first|exact Below.refl _ _|exact(Below.refl _ _).alloc (le_refl _) _)).mono ?_;rintro e w' ⟨rfl,hb⟩)
 go_ret;exact⟨by cases p <;> rfl,by first|exact hb|exact((Below.refl _ _).alloc (le_refl _) _).trans (hb.mono (by simp))⟩
theorem Zaej (p:Nat→Bool)(g:Nat)(eg:∀args w,(callFunc g args).run prog w= .ok (.enter g args) w)(ad:Option Addr)(n c:Nat)(f:Nat→Nat→Value)(b off:Nat)(w:World)(hr:Rw w ad n 5 f b off)
  (hp:∀W i,i<n→Below w.heap.size w W→Calls prog g #[.agg #[f i 0,f i 1,f i 2,f i 3,f i 4]] W fun e w'=>e= .returned (.bool (p i))∧Below W.heap.size W w'):
  Calls prog 159 #[.slice ad n c,.func (.func g) #[] #[]] w fun e w'=>e= .returned (.bool (!Zai (fun i=> !p i) n))∧Below w.heap.size w w':=by
 have Gp:∀(fn:Fn) (first cap:Array Value) (w:World),(Instr.makeFunc fn first cap).run prog w= .ok (.func fn first cap) w:=fun _ _ _ _=>rfl;have HC:Hid (∀W fb,Below w.heap.size w W→Cel W fb 198 [.func (.func g) #[] #[]]→Calls prog 203 #[.slice ad n c,.func (.func 204) #[] #[.pointer (some ⟨fb,0,none⟩)]] W fun e w'=>e= .returned (.bool (Zai (fun i=> !p i) n))∧Below W.heap.size W w'):=by
  intro W fb hb Gv;refine Zw2 _ 204 _ (enters_of func204 (by kernel_rfl) rfl) ad n c f b off W (hr.below hb) (fun V i hi hV=>?_);exact Zzw (p i) g eg _ _ _ _ _ fb V (Gv.below (hV.mono (by omega))) (fun U hU=>hp U i hi (hb.trans ((hV.trans (hU.mono hV.size)).mono hb.size)))
 clear hr hp;generalize Zai (fun i=> !p i) n=q at *;have HN:=Hd (Cel.new w [.func (.func g) #[] #[]] 198);have Ay:Hid (Below w.heap.size w (w.alloc (.cells #[.func (.func g) #[] #[]] 198))):=(Below.refl _ _).alloc (le_refl _) _
 go_enter func159,ntmps159
 go_wp2_with (refine(HC.out _ w.heap.size Ay.out HN.out).mono ?_;rintro e w' ⟨rfl,hb⟩)
 go_ret;exact⟨rfl,Ay.out.trans (hb.mono Ay.out.size)⟩
theorem Zzk (p:Bool)(g:Nat)(eg:∀args w,(callFunc g args).run prog w= .ok (.enter g args) w)(x0 x1 x2:Value)(fb:Nat)(w:World)(hk:Cel w fb 200 [.func (.func g) #[] #[]])
  (hp:∀W,Below w.heap.size w W→Calls prog g #[.agg #[x0,x1,x2]] W fun e w'=>e= .returned (.bool p)∧Below W.heap.size W w'):
  Calls prog 206 #[.agg #[x0,x1,x2],.pointer (some ⟨fb,0,none⟩)] w fun e w'=>e= .returned (.bool (!p))∧Below w.heap.size w w':=by
 have HP:=Hd hp;have c0:=hk.cell 0;simp only[Le0]at c0;have Gr:=hk.lt;clear hk hp
 go_enter func206,ntmps206
 go_wp2_with (go_at_fn g;refine(HP.out _ (by first|exact Below.refl _ _|exact(Below.refl _ _).alloc (le_refl _) _)).mono ?_;rintro e w' ⟨rfl,hb⟩)
 go_ret;exact⟨by cases p <;> rfl,by first|exact hb|exact((Below.refl _ _).alloc (le_refl _) _).trans (hb.mono (by simp))⟩
theorem Zacc (p:Nat→Bool)(g:Nat)(eg:∀args w,(callFunc g args).run prog w= .ok (.enter g args) w)(ad:Option Addr)(n c:Nat)(f:Nat→Nat→Value)(b off:Nat)(w:World)(hr:Rw w ad n 3 f b off)
  (hp:∀W i,i<n→Below w.heap.size w W→Calls prog g #[.agg #[f i 0,f i 1,f i 2]] W fun e w'=>e= .returned (.bool (p i))∧Below W.heap.size W w'):
  Calls prog 161 #[.slice ad n c,.func (.func g) #[] #[]] w fun e w'=>e= .returned (.bool (!Zai (fun i=> !p i) n))∧Below w.heap.size w w':=by
 have Gp:∀(fn:Fn) (first cap:Array Value) (w:World),(Instr.makeFunc fn first cap).run prog w= .ok (.func fn first cap) w:=fun _ _ _ _=>rfl;have HC:Hid (∀W fb,Below w.heap.size w W→Cel W fb 200 [.func (.func g) #[] #[]]→Calls prog 205 #[.slice ad n c,.func (.func 206) #[] #[.pointer (some ⟨fb,0,none⟩)]] W fun e w'=>e= .returned (.bool (Zai (fun i=> !p i) n))∧Below W.heap.size W w'):=by
  intro W fb hb Gv;refine Zvq _ 206 _ (enters_of func206 (by kernel_rfl) rfl) ad n c f b off W (hr.below hb) (fun V i hi hV=>?_);exact Zzk (p i) g eg _ _ _ fb V (Gv.below (hV.mono (by omega))) (fun U hU=>hp U i hi (hb.trans ((hV.trans (hU.mono hV.size)).mono hb.size)))
 clear hr hp;generalize Zai (fun i=> !p i) n=q at *;have HN:=Hd (Cel.new w [.func (.func g) #[] #[]] 200);have Ay:Hid (Below w.heap.size w (w.alloc (.cells #[.func (.func g) #[] #[]] 200))):=(Below.refl _ _).alloc (le_refl _) _
 go_enter func161,ntmps161
 go_wp2_with (refine(HC.out _ w.heap.size Ay.out HN.out).mono ?_;rintro e w' ⟨rfl,hb⟩)
 go_ret;exact⟨rfl,Ay.out.trans (hb.mono Ay.out.size)⟩
theorem Zzh (p:Bool)(g:Nat)(eg:∀args w,(callFunc g args).run prog w= .ok (.enter g args) w)(x0 x1:Value)(fb:Nat)(w:World)(hk:Cel w fb 202 [.func (.func g) #[] #[]])
  (hp:∀W,Below w.heap.size w W→Calls prog g #[.agg #[x0,x1]] W fun e w'=>e= .returned (.bool p)∧Below W.heap.size W w'):
  Calls prog 208 #[.agg #[x0,x1],.pointer (some ⟨fb,0,none⟩)] w fun e w'=>e= .returned (.bool (!p))∧Below w.heap.size w w':=by
 have HP:=Hd hp;have c0:=hk.cell 0;simp only[Le0]at c0;have Gr:=hk.lt;clear hk hp
 go_enter func208,ntmps208
 go_wp2_with (go_at_fn g;refine(HP.out _ (by first|exact Below.refl _ _|exact(Below.refl _ _).alloc (le_refl _) _)).mono ?_;rintro e w' ⟨rfl,hb⟩)
 go_ret;exact⟨by cases p <;> rfl,by first|exact hb|exact((Below.refl _ _).alloc (le_refl _) _).trans (hb.mono (by simp))⟩
theorem Zabf (p:Nat→Bool)(g:Nat)(eg:∀args w,(callFunc g args).run prog w= .ok (.enter g args) w)(ad:Option Addr)(n c:Nat)(f:Nat→Nat→Value)(b off:Nat)(w:World)(hr:Rw w ad n 2 f b off)
  (hp:∀W i,i<n→Below w.heap.size w W→Calls prog g #[.agg #[f i 0,f i 1]] W fun e w'=>e= .returned (.bool (p i))∧Below W.heap.size W w'):
  Calls prog 164 #[.slice ad n c,.func (.func g) #[] #[]] w fun e w'=>e= .returned (.bool (!Zai (fun i=> !p i) n))∧Below w.heap.size w w':=by
 have Gp:∀(fn:Fn) (first cap:Array Value) (w:World),(Instr.makeFunc fn first cap).run prog w= .ok (.func fn first cap) w:=fun _ _ _ _=>rfl;have HC:Hid (∀W fb,Below w.heap.size w W→Cel W fb 202 [.func (.func g) #[] #[]]→Calls prog 207 #[.slice ad n c,.func (.func 208) #[] #[.pointer (some ⟨fb,0,none⟩)]] W fun e w'=>e= .returned (.bool (Zai (fun i=> !p i) n))∧Below W.heap.size W w'):=by
  intro W fb hb Gv;refine Zvf _ 208 _ (enters_of func208 (by kernel_rfl) rfl) ad n c f b off W (hr.below hb) (fun V i hi hV=>?_);exact Zzh (p i) g eg _ _ fb V (Gv.below (hV.mono (by omega))) (fun U hU=>hp U i hi (hb.trans ((hV.trans (hU.mono hV.size)).mono hb.size)))
 clear hr hp;generalize Zai (fun i=> !p i) n=q at *;have HN:=Hd (Cel.new w [.func (.func g) #[] #[]] 202);have Ay:Hid (Below w.heap.size w (w.alloc (.cells #[.func (.func g) #[] #[]] 202))):=(Below.refl _ _).alloc (le_refl _) _
 go_enter func164,ntmps164
 go_wp2_with (refine(HC.out _ w.heap.size Ay.out HN.out).mono ?_;rintro e w' ⟨rfl,hb⟩)
 go_ret;exact⟨rfl,Ay.out.trans (hb.mono Ay.out.size)⟩
theorem Zys (p:Bool)(g:Nat)(eg:∀args w,(callFunc g args).run prog w= .ok (.enter g args) w)(x0 x1 x2 x3 x4 x5 x6 x7 x8 x9 x10 x11 x12 x13 x14 x15:Value)(fb:Nat)(w:World)(hk:Cel w fb 89 [.func (.func g) #[] #[]])
  (hp:∀W,Below w.heap.size w W→Calls prog g #[.agg #[x0,x1,x2,x3,x4,x5,x6,x7,x8,x9,x10,x11,x12,x13,x14,x15]] W fun e w'=>e= .returned (.bool p)∧Below W.heap.size W w'):
  Calls prog 94 #[.agg #[x0,x1,x2,x3,x4,x5,x6,x7,x8,x9,x10,x11,x12,x13,x14,x15],.pointer (some ⟨fb,0,none⟩)] w fun e w'=>e= .returned (.bool (!p))∧Below w.heap.size w w':=by
 have HP:=Hd hp;have c0:=hk.cell 0;simp only[Le0]at c0;have Gr:=hk.lt;clear hk hp
 go_enter func94,ntmps94
 go_wp2_with (go_at_fn g;refine(HP.out _ (by first|exact Below.refl _ _|exact(Below.refl _ _).alloc (le_refl _) _)).mono ?_;rintro e w' ⟨rfl,hb⟩)
 go_ret;exact⟨by cases p <;> rfl,by first|exact hb|exact((Below.refl _ _).alloc (le_refl _) _).trans (hb.mono (by simp))⟩
theorem Zade (p:Nat→Bool)(g:Nat)(eg:∀args w,(callFunc g args).run prog w= .ok (.enter g args) w)(ad:Option Addr)(n c:Nat)(f:Nat→Nat→Value)(b off:Nat)(w:World)(hr:Rw w ad n 16 f b off)
  (hp:∀W i,i<n→Below w.heap.size w W→Calls prog g #[.agg #[f i 0,f i 1,f i 2,f i 3,f i 4,f i 5,f i 6,f i 7,f i 8,f i 9,f i 10,f i 11,f i 12,f i 13,f i 14,f i 15]] W fun e w'=>e= .returned (.bool (p i))∧Below W.heap.size W w'):
  Calls prog 41 #[.slice ad n c,.func (.func g) #[] #[]] w fun e w'=>e= .returned (.bool (!Zai (fun i=> !p i) n))∧Below w.heap.size w w':=by
 have Gp:∀(fn:Fn) (first cap:Array Value) (w:World),(Instr.makeFunc fn first cap).run prog w= .ok (.func fn first cap) w:=fun _ _ _ _=>rfl;have HC:Hid (∀W fb,Below w.heap.size w W→Cel W fb 89 [.func (.func g) #[] #[]]→Calls prog 93 #[.slice ad n c,.func (.func 94) #[] #[.pointer (some ⟨fb,0,none⟩)]] W fun e w'=>e= .returned (.bool (Zai (fun i=> !p i) n))∧Below W.heap.size W w'):=by
  intro W fb hb Gv;refine Zagj _ 94 _ (enters_of func94 (by kernel_rfl) rfl) ad n c f b off W (hr.below hb) (fun V i hi hV=>?_);exact Zys (p i) g eg _ _ _ _ _ _ _ _ _ _ _ _ _ _ _ _ fb V (Gv.below (hV.mono (by omega))) (fun U hU=>hp U i hi (hb.trans ((hV.trans (hU.mono hV.size)).mono hb.size)))
 clear hr hp;generalize Zai (fun i=> !p i) n=q at *;have HN:=Hd (Cel.new w [.func (.func g) #[] #[]] 89);have Ay:Hid (Below w.heap.size w (w.alloc (.cells #[.func (.func g) #[] #[]] 89))):=(Below.refl _ _).alloc (le_refl _) _
 go_enter func41,ntmps41
 go_wp2_with (refine(HC.out _ w.heap.size Ay.out HN.out).mono ?_;rintro e w' ⟨rfl,hb⟩)
 go_ret;exact⟨rfl,Ay.out.trans (hb.mono Ay.out.size)⟩
theorem Zaas (p:Bool)(g:Nat)(eg:∀args w,(callFunc g args).run prog w= .ok (.enter g args) w)(x0 x1:Value)(fb:Nat)(w:World)(hk:Cel w fb 98 [.func (.func g) #[] #[]])
  (hp:∀W,Below w.heap.size w W→Calls prog g #[.agg #[x0,x1]] W fun e w'=>e= .returned (.bool p)∧Below W.heap.size W w'):
  Calls prog 101 #[.agg #[x0,x1],.pointer (some ⟨fb,0,none⟩)] w fun e w'=>e= .returned (.bool (!p))∧Below w.heap.size w w':=by
 have HP:=Hd hp;have c0:=hk.cell 0;simp only[Le0]at c0;have Gr:=hk.lt;clear hk hp
 go_enter func101,ntmps101
 go_wp2_with (go_at_fn g;refine(HP.out _ (by first|exact Below.refl _ _|exact(Below.refl _ _).alloc (le_refl _) _)).mono ?_;rintro e w' ⟨rfl,hb⟩)
 go_ret;exact⟨by cases p <;> rfl,by first|exact hb|exact((Below.refl _ _).alloc (le_refl _) _).trans (hb.mono (by simp))⟩
theorem Zacr (p:Nat→Bool)(g:Nat)(eg:∀args w,(callFunc g args).run prog w= .ok (.enter g args) w)(ad:Option Addr)(n c:Nat)(f:Nat→Nat→Value)(b off:Nat)(w:World)(hr:Rw w ad n 2 f b off)
  (hp:∀W i,i<n→Below w.heap.size w W→Calls prog g #[.agg #[f i 0,f i 1]] W fun e w'=>e= .returned (.bool (p i))∧Below W.heap.size W w'):
  Calls prog 43 #[.slice ad n c,.func (.func g) #[] #[]] w fun e w'=>e= .returned (.bool (!Zai (fun i=> !p i) n))∧Below w.heap.size w w':=by
 have Gp:∀(fn:Fn) (first cap:Array Value) (w:World),(Instr.makeFunc fn first cap).run prog w= .ok (.func fn first cap) w:=fun _ _ _ _=>rfl;have HC:Hid (∀W fb,Below w.heap.size w W→Cel W fb 98 [.func (.func g) #[] #[]]→Calls prog 100 #[.slice ad n c,.func (.func 101) #[] #[.pointer (some ⟨fb,0,none⟩)]] W fun e w'=>e= .returned (.bool (Zai (fun i=> !p i) n))∧Below W.heap.size W w'):=by
  intro W fb hb Gv;refine Zahs _ 101 _ (enters_of func101 (by kernel_rfl) rfl) ad n c f b off W (hr.below hb) (fun V i hi hV=>?_);exact Zaas (p i) g eg _ _ fb V (Gv.below (hV.mono (by omega))) (fun U hU=>hp U i hi (hb.trans ((hV.trans (hU.mono hV.size)).mono hb.size)))
 clear hr hp;generalize Zai (fun i=> !p i) n=q at *;have HN:=Hd (Cel.new w [.func (.func g) #[] #[]] 98);have Ay:Hid (Below w.heap.size w (w.alloc (.cells #[.func (.func g) #[] #[]] 98))):=(Below.refl _ _).alloc (le_refl _) _
 go_enter func43,ntmps43
 go_wp2_with (refine(HC.out _ w.heap.size Ay.out HN.out).mono ?_;rintro e w' ⟨rfl,hb⟩)
 go_ret;exact⟨rfl,Ay.out.trans (hb.mono Ay.out.size)⟩
theorem Zaao (p:Bool)(g:Nat)(eg:∀args w,(callFunc g args).run prog w= .ok (.enter g args) w)(x0 x1 x2:Value)(fb:Nat)(w:World)(hk:Cel w fb 100 [.func (.func g) #[] #[]])
  (hp:∀W,Below w.heap.size w W→Calls prog g #[.agg #[x0,x1,x2]] W fun e w'=>e= .returned (.bool p)∧Below W.heap.size W w'):
  Calls prog 106 #[.agg #[x0,x1,x2],.pointer (some ⟨fb,0,none⟩)] w fun e w'=>e= .returned (.bool (!p))∧Below w.heap.size w w':=by
 have HP:=Hd hp;have c0:=hk.cell 0;simp only[Le0]at c0;have Gr:=hk.lt;clear hk hp
 go_enter func106,ntmps106
 go_wp2_with (go_at_fn g;refine(HP.out _ (by first|exact Below.refl _ _|exact(Below.refl _ _).alloc (le_refl _) _)).mono ?_;rintro e w' ⟨rfl,hb⟩)
 go_ret;exact⟨by cases p <;> rfl,by first|exact hb|exact((Below.refl _ _).alloc (le_refl _) _).trans (hb.mono (by simp))⟩
theorem Zaed (p:Nat→Bool)(g:Nat)(eg:∀args w,(callFunc g args).run prog w= .ok (.enter g args) w)(ad:Option Addr)(n c:Nat)(f:Nat→Nat→Value)(b off:Nat)(w:World)(hr:Rw w ad n 3 f b off)
  (hp:∀W i,i<n→Below w.heap.size w W→Calls prog g #[.agg #[f i 0,f i 1,f i 2]] W fun e w'=>e= .returned (.bool (p i))∧Below W.heap.size W w'):
  Calls prog 46 #[.slice ad n c,.func (.func g) #[] #[]] w fun e w'=>e= .returned (.bool (!Zai (fun i=> !p i) n))∧Below w.heap.size w w':=by
 have Gp:∀(fn:Fn) (first cap:Array Value) (w:World),(Instr.makeFunc fn first cap).run prog w= .ok (.func fn first cap) w:=fun _ _ _ _=>rfl;have HC:Hid (∀W fb,Below w.heap.size w W→Cel W fb 100 [.func (.func g) #[] #[]]→Calls prog 105 #[.slice ad n c,.func (.func 106) #[] #[.pointer (some ⟨fb,0,none⟩)]] W fun e w'=>e= .returned (.bool (Zai (fun i=> !p i) n))∧Below W.heap.size W w'):=by
  intro W fb hb Gv;refine Zagt _ 106 _ (enters_of func106 (by kernel_rfl) rfl) ad n c f b off W (hr.below hb) (fun V i hi hV=>?_);exact Zaao (p i) g eg _ _ _ fb V (Gv.below (hV.mono (by omega))) (fun U hU=>hp U i hi (hb.trans ((hV.trans (hU.mono hV.size)).mono hb.size)))
 clear hr hp;generalize Zai (fun i=> !p i) n=q at *;have HN:=Hd (Cel.new w [.func (.func g) #[] #[]] 100);have Ay:Hid (Below w.heap.size w (w.alloc (.cells #[.func (.func g) #[] #[]] 100))):=(Below.refl _ _).alloc (le_refl _) _
 go_enter func46,ntmps46
 go_wp2_with (refine(HC.out _ w.heap.size Ay.out HN.out).mono ?_;rintro e w' ⟨rfl,hb⟩)
 go_ret;exact⟨rfl,Ay.out.trans (hb.mono Ay.out.size)⟩
theorem Ze4 {l:List ByteArray} (h:Zb6 l=true) {s:ByteArray} (hs:s∈l):Zgq s=true:=List.all_eq_true.1 h s hs
theorem Zey {l:List ByteArray} (h:Zb2 l=true) {s:ByteArray} (hs:s∈l):Zfu s=true:=List.all_eq_true.1 h s hs
theorem Zcy (s:ByteArray):s.data.toList.length=s.size:=Zbm s
theorem Zq5 {s:ByteArray} (h:s∈classU):s.size≤40:=by
 simp only[classU,classL,Zzy,List.mem_append,mem_cons,not_mem_nil,or_false]at h;rcases h with(rfl|rfl|rfl|rfl|rfl)|rfl <;> decide
theorem Zady {s:ByteArray} (h:s∈classL):s∈classU:=List.mem_append_left _ h
theorem Zru {r:ByteArray×List (List Rel)} (h:Zb7 r=true)(kw:List UInt8)(hk:kw.length≤10):(Zaw [9] [kw,r.1.data.toList,qT (bs (Zad r.2))]).length≤160000:=by
 unfold Zb7 at h;rw[Bool.and_eq_true]at h;have h1:=Zq5 (Zady (List.contains_iff_mem.1 h.1));have h2:=Znd (Zko h.2);have h3:=Zrl (s:=bs (Zad r.2)) (m:=13000) (by rw[Za5];exact h2);have:=Zh6 [9] [kw,r.1.data.toList,qT (bs (Zad r.2))] 52002 (le_refl _) (fun x hx=>by
  simp only[mem_cons,not_mem_nil,or_false]at hx;rcases hx with rfl|rfl|rfl
  ·omega
  ·rw[Zcy];omega
  ·exact h3)
 simp only[length_cons,length_nil]at this;omega
theorem Zhi {l:List (ByteArray×List (List Rel))} (h:∀r∈l,Zb7 r=true)(kw:List UInt8)(hk:kw.length≤10):(Zbt kw l).length≤l.length *160000:=Zcu _ _ _ fun r hr=>Zru (h r hr) kw hk
theorem Zez (l:List (List UInt8))(more:List ByteArray)(hl:∀x∈l,x.length≤40)(hm:∀s∈more,Zfu s=true):(Zbb l more).length≤(l.length+more.length)*1603+3:=by
 have:=Zh6 [9] (l++more.map qT) 1602 (le_refl _) (fun x hx=>by
  rcases List.mem_append.1 hx with hx|hx
  ·have:=hl x hx;omega
  ·obtain⟨s,hs,rfl⟩:=List.mem_map.1 hx;exact Zrl (Zaac (hm s hs)))
 rw[length_append,length_map]at this;exact this
theorem Zs4 {x:Lp} (h:Zes x=true):(lpT x).length≤10000:=by
 unfold Zes at h;rw[Bool.and_eq_true]at h;have h1:=Zfl (Ze4 h.1 (mem_cons_self ..));have:=Zez [[108,105,115,116],x.style.data.toList] [x.two,x.start,x.mid,x.fin] (fun y hy=>by
  simp only[mem_cons,not_mem_nil,or_false]at hy;rcases hy with rfl|rfl
  ·decide
  ·rw[Zcy];exact h1.2) (fun s hs=>Zey h.2 hs)
 unfold lpT;simp only[length_cons,length_nil]at this;omega
theorem Zst {x:Up} (h:Zed x=true):(upT x).length≤10000:=by
 unfold Zed at h;rw[Bool.and_eq_true,Bool.and_eq_true]at h;have h1:=Zfl (Ze4 h.1 (mem_cons_self ..));have h2:=Zq5 (List.contains_iff_mem.1 h.2.1);have:=Zez [[117,110,105,116],x.unit.data.toList,x.cls.data.toList] [x.pat] (fun y hy=>by
  simp only[mem_cons,not_mem_nil,or_false]at hy;rcases hy with rfl|rfl|rfl
  ·decide
  ·rw[Zcy];exact h1.2
  ·rw[Zcy];exact h2) (fun s hs=>Zey h.2.2 hs)
 unfold upT;simp only[length_cons,length_nil]at this;omega
theorem Zrv {x:Dp} (h:Zev x=true):(dpT x).length≤10000:=by
 unfold Zev at h;rw[Bool.and_eq_true]at h;have h1:=Zfl (Ze4 h.1 (mem_cons_self ..));have:=Zez [[100,97,116,101],x.skel.data.toList] [x.pat] (fun y hy=>by
  simp only[mem_cons,not_mem_nil,or_false]at hy;rcases hy with rfl|rfl
  ·decide
  ·rw[Zcy];exact h1.2) (fun s hs=>Zey h.2 hs)
 unfold dpT;simp only[length_cons,length_nil]at this;omega
theorem Zvn {y:Lc} (h:Zg2 y=true)(hz:Zdq y=false):(Zhk y).length≤20000:=by
 unfold Zg2 at h;rw[hz,Bool.false_or]at h;simp only[Bool.and_eq_true,decide_eq_true_eq]at h;obtain⟨_,h2,h3,h4,h5,h6⟩:=h;have e1:=Zd8 (n:=y.pri) h3 (by omega);have e2:=Zd8 (n:=y.sec) h5 (by omega);have:=Zh6 [9] ([[115,121,109,98,111,108,115]]++[y.dec,y.grp,y.mi,y.pct].map qT++[Lib.itoa y.pri,Lib.itoa y.sec]) 1602 (le_refl _) (fun x hx=>by
  rcases List.mem_append.1 hx with hx|hx
  ·rcases List.mem_append.1 hx with hx|hx
   ·rw[List.mem_singleton.1 hx];decide
   ·obtain⟨s,hs,rfl⟩:=List.mem_map.1 hx;exact Zrl (Zaac (Zey h2 hs))
  ·simp only[mem_cons,not_mem_nil,or_false]at hx;rcases hx with rfl|rfl <;> omega)
 unfold Zhk;simp only[length_append,length_map,length_cons,length_nil]at this⊢;omega
theorem Zw1 {s:ByteArray} (h:s∈dirU):s.size≤3:=by
 simp only[dirU,mem_cons,not_mem_nil,or_false]at h;rcases h with rfl|rfl|rfl <;> decide
structure LocF (y:Lc):Prop where
 tag:Zgq y.tag=true
 par:y.par= .empty∨Zgq y.par=true
 dir:y.dir∈dirU
 months:y.months.length≤12
 days:y.days.length≤7
 monthsX:∀s∈y.months,Zfu s=true
 daysX:∀s∈y.days,Zfu s=true
 card:∀r∈y.card,Zb7 r=true
 ord:∀r∈y.ord,Zb7 r=true
 sym:Zg2 y=true
 nl:y.lists.length≤10
 nu:y.units.length≤100
 nd:y.dates.length≤30
 lists:∀x∈y.lists,Zes x=true
 units:∀x∈y.units,Zed x=true
 dates:∀x∈y.dates,Zev x=true
theorem Zvc {y:Lc} (h:Zdo y=true):LocF y:=by
 unfold Zdo Znu Zme Ze1 Zhx at h;simp only[Bool.and_eq_true,Bool.or_eq_true,decide_eq_true_eq]at h;obtain⟨⟨h1,h2,h3⟩,⟨h4,h5,h6,h7⟩,⟨_,h8⟩,⟨_,h9⟩,Is,C9,Mk,Kt,_,_,_,Wz,W4,sP⟩:=h;exact⟨Ze4 h1 (mem_cons_self ..),h2.imp id (fun h=>Ze4 h (mem_cons_self ..)),List.contains_iff_mem.1 h3,by omega,by omega,fun s hs=>Zey h6 hs,fun s hs=>Zey h7 hs,
  List.all_eq_true.1 h8,List.all_eq_true.1 h9,Is,C9,Mk,Kt,List.all_eq_true.1 Wz,List.all_eq_true.1 W4,List.all_eq_true.1 sP⟩
theorem Zsf {y:Lc} (h:LocF y):(Zgk y).length≤100:=by
 have h1:=Zfl h.tag;unfold Zgk;rcases h.par with e|e
 ·rw[if_pos e];simp only[length_append,Zcy,length_cons,length_nil];omega
 ·have h2:=Zfl e;split <;> simp only[length_append,Zcy,length_cons,length_nil]<;> omega
theorem Zve {y:Lc} (h:LocF y):(Zj7 y).length≤50:=by
 have h1:=Zw1 h.dir;unfold Zj7;split
 ·simp
 ·have:=Zh6 [9] [[100,105,114,101,99,116,105,111,110],y.dir.data.toList] 9 (le_refl _) (fun x hx=>by
   simp only[mem_cons,not_mem_nil,or_false]at hx;rcases hx with rfl|rfl
   ·decide
   ·rw[Zcy];omega)
  simp only[length_cons,length_nil]at this;omega
theorem Zagr {y:Lc} (h:LocF y)(h1:y.card.length≤1000)(h2:y.ord.length≤1000):(Zcm y).length≤400000000:=by
 have a1:=Zsf h;have a2:=Zve h;have a3:=Zhi h.card [99,97,114,100,105,110,97,108] (by decide);have a4:=Zhi h.ord [111,114,100,105,110,97,108] (by decide);have a5:=Zcu lpT 10000 y.lists fun x hx=>Zs4 (h.lists x hx);have a6:=Zcu upT 10000 y.units fun x hx=>Zst (h.units x hx);have a7:=Zcu dpT 10000 y.dates fun x hx=>Zrv (h.dates x hx);have a8:=Zez [[109,111,110,116,104,115]] y.months (fun x hx=>by rw[List.mem_singleton.1 hx];decide) h.monthsX;have a9:=Zez [[100,97,121,115]] y.days (fun x hx=>by rw[List.mem_singleton.1 hx];decide) h.daysX;have b1:=h.months;have b2:=h.days;have b3:=h.nl;have b4:=h.nu;have b5:=h.nd;have c1:(if Zdq y then []else Zhk y).length≤20000:=by
  cases e:Zdq y with
  |true=>simp
  |false=>exact Zvn h.sym e
 have c2:(if y.months=[]then []else Zbb [[109,111,110,116,104,115]] y.months).length≤30000:=by
  split
  ·simp
  ·simp only[length_cons,length_nil]at a8;omega
 have c3:(if y.days=[]then []else Zbb [[100,97,121,115]] y.days).length≤30000:=by
  split
  ·simp
  ·simp only[length_cons,length_nil]at a9;omega
 unfold Zcm Zmg;simp only[length_append,length_cons,length_nil];omega
theorem Zyp {x:Al} (h:Zfy x=true):(alT x).length≤200:=by
 have h1:=Zfl (Ze4 h (mem_cons_self ..));have h2:=Zfl (Ze4 h (List.mem_cons_of_mem _ (mem_cons_self ..)));have:=Zh6 [] [[97,108,105,97,115],x.fro.data.toList,x.dst.data.toList] 40 (zero_le _) (fun y hy=>by
  simp only[mem_cons,not_mem_nil,or_false]at hy;rcases hy with rfl|rfl|rfl
  ·decide
  ·rw[Zcy];exact h1.2
  ·rw[Zcy];exact h2.2)
 simp only[length_cons,length_nil]at this;unfold alT;omega
theorem Zyl {x:Ne} (h:Zee x=true):(neT x).length≤200:=by
 unfold Zee at h;simp only[Bool.and_eq_true,decide_eq_true_eq]at h;have h1:=Zfl (Ze4 h.1 (mem_cons_self ..));have h2:=Zfl (Ze4 h.1 (List.mem_cons_of_mem _ (mem_cons_self ..)));have h3:=Zd8 h.2.1 h.2.2;have:=Zh6 [] [[110,101,97,114],x.fro.data.toList,x.dst.data.toList,Lib.itoa x.cost] 40 (zero_le _) (fun y hy=>by
  simp only[mem_cons,not_mem_nil,or_false]at hy;rcases hy with rfl|rfl|rfl|rfl
  ·decide
  ·rw[Zcy];exact h1.2
  ·rw[Zcy];exact h2.2
  ·omega)
 simp only[length_cons,length_nil]at this;unfold neT;omega
structure TabF (t:Tb):Prop where
 nl:t.locs.length≤60
 na:t.als.length≤200
 nn:t.near.length≤200
 locs:∀x∈t.locs,Zdo x=true
 als:∀x∈t.als,Zfy x=true
 near:∀x∈t.near,Zee x=true
theorem Zvx {t:Tb} (h:Zec t=true):TabF t:=by
 unfold Zec at h;simp only[Bool.and_eq_true,decide_eq_true_eq]at h;exact⟨h.1,h.2.1,h.2.2.1,List.all_eq_true.1 h.2.2.2.1,List.all_eq_true.1 h.2.2.2.2.1,List.all_eq_true.1 h.2.2.2.2.2⟩
theorem Zahn {t:Tb} (h:TabF t)(h1:∀y∈t.locs,y.card.length≤1000∧y.ord.length≤1000):(Zck t).length≤30000000000:=by
 have a1:=Zcu Zcm 400000000 t.locs fun x hx=>Zagr (Zvc (h.locs x hx)) (h1 x hx).1 (h1 x hx).2;have a2:=Zcu alT 200 t.als fun x hx=>Zyp (h.als x hx);have a3:=Zcu neT 200 t.near fun x hx=>Zyl (h.near x hx);have b1:=h.nl;have b2:=h.na;have b3:=h.nn;unfold Zck;simp only[length_append];omega
theorem Zg0 {fn:Func} {p u v:Tmp} {ty:TypeId} {P:Program} (h:fn.results= #[.cell p ty,.tmp u,.tmp v])(tmps:Array Value)(w:World)(g:Nat)(x:Value)
  (hp:tmps.getD p undef= .pointer (some ⟨g,0,none⟩)) (sQ:(loadVar ty ⟨g,0,none⟩).run P w= .ok x w):
  (results fn tmps).run P w= .ok (.tuple #[x,tmps.getD u undef,tmps.getD v undef]) w:=by
 have Y6:tmps[p]?.getD undef= .pointer (some ⟨g,0,none⟩):=by simpa using hp
 simp[results,h,Y6,asAddr,sQ]
theorem Zagf {w:World} {base sz:Nat} {E:TypeId} {ad:Option Addr} {n m c:Nat} {xs:List Value} (h:w.ownsRow base E sz (.slice ad n c) m xs):n≤c∧c≤maxLen:=by
 rcases h.2 with⟨h1,h2⟩|⟨g,cap,cur,h1,_,_,h4,h5,_⟩
 ·injection h1 with _ h3 h4;subst h3 h4;exact⟨le_refl _,zero_le _⟩
 ·injection h1 with _ h3 h6;subst h3 h6;exact⟨h4,h5⟩
theorem Zaby (l:List UInt8)(hl:l.length≤200000)(w:World)(hM:MaxLen w)(hU:TabU w):Calls prog 26 #[.string (bs l)] w fun e w'=>
  ∃ad c tb off,e= .returned (.tuple #[.slice ad (Zap l).1.length c,.int .i64 (Zap l).2.1,.int .i64 (Zap l).2.2])∧TzAt w' ad (Zap l).1.length (Zap l).1 tb off∧((Zap l).1≠[]→tb<w'.heap.size)∧(Zap l).1.length≤c∧c≤9223372036854775807∧Below w.heap.size w w':=by
 refine(Zws l hl w hM hU).mono ?_;rintro e w' ⟨hb,M,Dz,fD,sR⟩;obtain rfl:=Zahh Dz;rcases sR with⟨B6,ad,c,rfl,Ab⟩|⟨h0,h6,rfl⟩
 ·have hT:Zap l=((Zda (Za9 l) (Zef l)).map zOf,0,0):=by
   unfold Zap;rw[if_pos ((Zff _ _).2 B6)]
  have Ah:((Zda (Za9 l) (Zef l)).map zOf).length=Zef l:=by rw[length_map,Ze0]
  obtain⟨b,Jg⟩:=Zaii Ab (by omega);have T8:=Jg.z;have hc:=Zagf Ab;rw[hT];dsimp only;rw[Ah];refine⟨ad,c,b,0,rfl,T8,fun Az=>?_,hc.1,by have:=hc.2;unfold maxLen at this;omega,hb⟩;have Hk:0<Zef l:=by
   rcases Nat.eq_zero_or_pos (Zef l)with e|e
   ·rw[e]at Az;exact absurd rfl Az
   ·exact e
  exact World.block_lt_of_cell? w' _ (T8.c0 0 Hk)
 ·have hT:Zap l=([],((Za9 l (Zef l - 1)).2.2.1:Int),((Za9 l (Zef l - 1)).2.2.2:Int)):=by
   unfold Zap;rw[if_neg];intro h;exact h6 ((Zff _ _).1 h (Zef l - 1) (by omega))
  rw[hT];exact⟨none,0,0,0,rfl,⟨rfl,zero_le _,fun h=>absurd rfl h,fun _i hi=>absurd hi (not_lt_zero _),fun _i hi=>absurd hi (not_lt_zero _),fun _i hi=>absurd hi (not_lt_zero _)⟩,fun h=>absurd rfl h,le_refl _,by decide,hb⟩
def Zov:List TypeId:=[46,61,58]++Zfv
theorem TabV.tbC {base:Nat} {w:World} {T:Nat} {t:Tb} {v0 v1 v2:Value} (h:TabV base w T t v0 v1 v2)(hf:TbFew 1 t):TbC (see base Zov w) (fun j=>(#[v0,v1,v2]:Array Value).getD j undef) t:=by
 have n0:t.locs.length≤140737488351232:=le_trans hf.locs (by decide);have n1:t.als.length≤140737488351232:=le_trans hf.als (by decide);have n2:t.near.length≤140737488351232:=le_trans hf.near (by decide);have up:∀ts,(∀U,U∈ts→U∈Zov)→Sub (see base ts w) (see base Zov w):=fun ts h=>Zcr w (le_refl _) h;exact⟨(h.g0.rows Zie n0).sub (up _ (by decide)) fun _ _ g=>Zie _ _ _ _ (up (46::Zfv) (by decide)) g,(h.g1.rows Zkn n1).sub (up _ (by decide)) fun _ _ g=>Zkn _ _ _ _ (up [61] (by decide)) g,(h.g2.rows Zl1 n2).sub (up _ (by decide)) fun _ _ g=>Zl1 _ _ _ _ (up [58] (by decide)) g⟩
theorem TabV.new {w:World} {T:Nat} (h:Cel w T 27 [.slice none 0 0,.slice none 0 0,.slice none 0 0]):TabV T w T tb0 (.slice none 0 0) (.slice none 0 0) (.slice none 0 0):=⟨h,le_refl _,Grow.nil _ _ _ _ _ _,Grow.nil _ _ _ _ _ _,Grow.nil _ _ _ _ _ _⟩
theorem TbC.zero (w:World):TbC w (fun j=>(#[.slice none 0 0,.slice none 0 0,.slice none 0 0]:Array Value).getD j undef) tb0:=⟨RowsOf.nil _ _ _,RowsOf.nil _ _ _,RowsOf.nil _ _ _⟩
def Zgl (w:World)(res:Tb×Int×Int)(e:Ending)(w':World):Prop:=
 ∃f:Nat→Value,e= .returned (.tuple #[.agg #[f 0,f 1,f 2],.int .i64 res.2.1,.int .i64 res.2.2])∧TbC (see w.heap.size Zov w') f res.1∧Below w.heap.size w w'
def upP (n k:Nat):Bool:=decide (n≤k)
theorem Zgm {n k:Nat} (h:n≤k):upP n k=true:=decide_eq_true h
theorem Zoo (l:List UInt8)(hl:l.length≤200000)(w:World)(hM:MaxLen w)(hU:TabU w)(RR:Tb→RS→Prop)(oF:RR tb0 ⟨(Zap l).1,0,0⟩)(oG:∀t q,RR t q→q.e=0→q.l≠[]→RR (Zax (l.length:Int) t q).1 (Zax (l.length:Int) t q).2)
  (oH:∀t q,RR t q→q.e=0→q.l≠[]→∀(b base T:Nat) (w:World),Rd w b (l.length:Int) q→b<base→Zj2 base w T t→MaxAt base w→t.locs.length≤1000→t.als.length≤1000→t.near.length≤1000→Calls prog 27 #[.pointer (some ⟨b,0,none⟩),.pointer (some ⟨T,0,none⟩)] w (Zim b (l.length:Int) base T w (Zax (l.length:Int) t q))):
  Calls prog 11 #[.string (bs l)] w (Zgl w (Zal l)):=by
 have sS:=Hd oF;have C1:=Hd oG;have dO:=Hd oH;clear oF oG oH;have iT:=Hd (fun W (k:Below w.heap.size w W)=>Zaby l hl W (hM.below k) (hU.below k));have HV:Hid (Zal l=if(Zap l).2.2=0 then Zmo (l.length:Int) (Zap l).1 else(tb0,(Zap l).2.1,(Zap l).2.2)):=by
  unfold Hid Zal;rw[if_neg (by omega)]
 have Am:(bs l).size=l.length:=Za5 l;have iU:∀t∈(Zap l).1,t.2.1.length≤200000:=fun t ht=>le_trans ((Zsg l).1 t ht) hl;have hg:1<w.heap.size:=by
  obtain⟨m,hm⟩:=hM;exact World.block_lt_of_cell? w _ hm
 obtain⟨n0,E6⟩:∃n,w.heap.size=n:=⟨_,rfl⟩;have HM:=Hd (fun W (k:Below w.heap.size w W)=>hM.below k);have sT:(l.length:Int)≤200000:=by omega
 obtain⟨E,hE⟩:∃E:Int,(l.length:Int)=E:=⟨_,rfl⟩;have sU:((bs l).size:Int)=E:=by rw[Am,hE]
 rw[hE]at HV sT;rw[Hid,hE]at C1 dO;replace C1:=Hd C1;replace dO:=Hd dO;clear hM hU Am hl;unfold Zgl;generalize Zal l=res at *;generalize Zap l=ts at *;obtain⟨ts,tpos,terr⟩:=ts;simp only at iT HV iU;generalize bs l=S at *;have E7:=Hd (Cel.new w [.slice none 0 0,.slice none 0 0,.slice none 0 0] 27);have Bp:=Hd ((Kp.refl (upP n0) w).alloc (.cells #[.slice none 0 0,.slice none 0 0,.slice none 0 0] 27));have Ay:=Hd (Bel.alloc (Bel.refl w) (.cells #[.slice none 0 0,.slice none 0 0,.slice none 0 0] 27));rw[E6]at E7;have Ki: ¬(200000<S.size):=by omega
 go_enter func11,ntmps11
 go_upto_region 1 with(fail)
 have Fu:=Hd (iT.out _ Ay.out);have Wo:=Hd (HM.out _ Ay.out);generalize w.alloc (.cells #[.slice none 0 0,.slice none 0 0,.slice none 0 0] 27)=w0 at *
 go_wp2_with fail
 refine Fu.out.mono ?_;rintro _ w1 ⟨ad,c,tb,off,rfl,T8,cQ,cO,sV,Aw⟩;have Ec:=Hd (E7.out.below Aw);have Bf:=Hd (Bp.out.trans (Za4 Aw));have Cs:=Hd (Ay.out.trans (Aw.mono Ay.out.size));have oI:=Hd T8;clear T8 Aw iT Fu Wo Ay E7 Bp
 by_cases he:terr=0
 ·subst he;rw[if_pos rfl]at HV;have C7:=Hd (Cel.new w1 [.slice ad ts.length c,.int .i64 E,.int .i64 0,.int .i64 0] 67);have Dt:Rd (w1.alloc (.cells #[.slice ad ts.length c,.int .i64 E,.int .i64 0,.int .i64 0] 67)) w1.heap.size E ⟨ts,0,0⟩:=
   ⟨ad,c,tb,off,C7.out,oI.out.below (Bel.alloc (Bel.refl w1) _),cQ,cO,sV,iU⟩
  have Ar:=Hd Dt;have Hm:=Hd (Ec.out.below (Bel.alloc (Bel.refl w1) (.cells #[.slice ad ts.length c,.int .i64 E,.int .i64 0,.int .i64 0] 67)));have A6:=Hd (Bf.out.alloc (.cells #[.slice ad ts.length c,.int .i64 E,.int .i64 0,.int .i64 0] 67));have Eu:(w1.alloc (.cells #[.slice ad ts.length c,.int .i64 E,.int .i64 0,.int .i64 0] 67)).heap.size=w1.heap.size+1:=by simp
  have Ji:=Hd Eu;obtain⟨rb,Qc⟩:∃r,w1.heap.size=r:=⟨_,rfl⟩;have J6:n0<w1.heap.size:=Ec.out.lt;rw[Qc]at Ar Ji J6;clear Dt Eu C7 Ec Bf Cs oI cQ
  go_upto_region 7 with(fail)
  generalize w1.alloc (.cells #[.slice ad ts.length c,.int .i64 E,.int .i64 0,.int .i64 0] 67)=w2 at *;have Yf:=Hd (TabV.new (Cel.new w2 [.slice none 0 0,.slice none 0 0,.slice none 0 0] 27));have Aq:=Hd (Ar.out.below (Bel.alloc (Bel.refl w2) (.cells #[.slice none 0 0,.slice none 0 0,.slice none 0 0] 27)));have J7:=Hd (Hm.out.below (Bel.alloc (Bel.refl w2) (.cells #[.slice none 0 0,.slice none 0 0,.slice none 0 0] 27)));have An:=Hd (A6.out.alloc (.cells #[.slice none 0 0,.slice none 0 0,.slice none 0 0] 27));rw[Ji.out]at Yf;have Ew:Hid (res=if(Zbn E (ts.length+1) tb0 ⟨ts,0,0⟩).2.e=0 then((Zbn E (ts.length+1) tb0 ⟨ts,0,0⟩).1,0,0)else(tb0,(Zbn E (ts.length+1) tb0 ⟨ts,0,0⟩).2.pos,(Zbn E (ts.length+1) tb0 ⟨ts,0,0⟩).2.e)):=HV.out;have Ao:Hid (∀n t q,Zbn E (n+1) t q=if q.e=0∧q.l≠[]then Zbn E n (Zax E t q).1 (Zax E t q).2 else(t,q)):=fun _ _ _=>rfl;have Yq:Hid (∀t q,Zbn E 0 t q=(t,q)):=fun _ _=>rfl;have Uy:Hid (TbFew 0 tb0):=⟨zero_le _,zero_le _,zero_le _⟩;have Qd:Hid (Zbn E (ts.length+1) tb0 ⟨ts,0,0⟩=Zbn E (ts.length+1) tb0 ⟨ts,0,0⟩):=rfl;obtain⟨R,hR⟩:∃R,Zbn E (ts.length+1) tb0 ⟨ts,0,0⟩=R:=⟨_,rfl⟩;rw[hR]at Ew;have Xm:Hid (Zbn E (ts.length+1) tb0 ⟨ts,0,0⟩=R):=hR;have iV:n0≠rb:=by omega
  clear hR HV Qd Ar Hm A6 iU
  go_wp2_with fail
  rw[Ji.out]
  go_loopw [] (fun wr=>∃n t q,Zbn E n t q=R∧(q.e=0→q.l.length<n)∧Zj2 (rb+1) wr (rb+1) t∧Rd wr rb E q∧Cel wr n0 27 [.slice none 0 0,.slice none 0 0,.slice none 0 0]∧Kp (upP n0) w wr∧TbFew 1 t∧(q.e=0→TbFew 0 t)∧RR t q) (fun wr=>Zj6 rb wr)
  case atStart=>exact⟨ts.length+1,tb0,⟨ts,0,0⟩,Xm.out,(fun _=>Nat.lt_succ_self _),⟨_,_,_,Yf.out⟩,Aq.out,J7.out,An.out,⟨zero_le _,zero_le _,zero_le _⟩,(fun _=>Uy.out),sS.out⟩
  case round=>
   obtain⟨n,t,q,Ff,Gx,hl,hr,hN,hk,hf,Ej,A4⟩:=hrel;have Au:=Hd A4;clear A4;have Et:=Hd Ff;have HT:=Hd hl;have HR:=Hd hr;have HN:=Hd hN;have HK:=Hd hk;have HF:=Hd hf;obtain⟨ad',c',tb',off',N8,_,_,_,_,_⟩:=hr;have c0:=N8.cell 0;have c2:=N8.cell 2;have c3:=N8.cell 3;simp only[Le0,Le1]at c0 c2 c3;have I3:=N8.lt;clear Ff hl hN hk hf N8
   by_cases he:q.e=0
   ·by_cases Az:q.l=[]
    ·have P3:Hid (R=(t,q)):=by
      have Ff:=Et.out;unfold Hid;rw[←Ff];cases n with
      |zero=>exact Yq.out t q
      |succ m=>rw[Ao.out,if_neg (fun h=>h.2 Az)]
     have Cq:res=(t,0,0):=by
      rw[Ew.out,P3.out,if_pos he]
     rw[he]at c3;rw[Az]at c0;simp only[length_nil]at c0;have I7:=Hd (Ej he);clear Ej Gx;obtain⟨v0,v1,v2,ht⟩:=HT.out;obtain⟨a0,k0,F5⟩:=ht.g0.shape;subst F5;obtain⟨a1,k1,Pa⟩:=ht.g1.shape;subst Pa;obtain⟨a2,k2,Gt⟩:=ht.g2.shape;subst Gt;have sW:=Hd ht;have d0:=ht.cel.cell 0;have d1:=ht.cel.cell 1;have d2:=ht.cel.cell 2;simp only[Le0,Le1]at d0 d1 d2;have wF:=ht.cel.lt;clear ht;have r0:=HN.out.cell 0;have rf0:=HN.out.frz 0;have r1:=HN.out.cell 1;have rf1:=HN.out.frz 1;have r2:=HN.out.cell 2;have rf2:=HN.out.frz 2;simp only[Le0,Le1]at r0 r1 r2;have iC:=HN.out.lt
     go_wp2_with fail
     have Y7:=(((HN.out.set 0 (.slice a0 t.locs.length k0)).set 1 (.slice a1 t.als.length k1)).set 2 (.slice a2 t.near.length k2));have Ee:=(((HK.out.set (p:=⟨n0,0,none⟩) (Zgm (le_refl n0)) (.slice a0 t.locs.length k0)).set (p:=⟨n0,1,none⟩) (Zgm (le_refl n0)) (.slice a1 t.als.length k1)).set (p:=⟨n0,2,none⟩) (Zgm (le_refl n0)) (.slice a2 t.near.length k2));refine bodyPost_ret (Zg0 rfl _ _ n0 _ rfl (run_loadVar_row _ n0 27 27 #[.slice a0 t.locs.length k0,.slice a1 t.als.length k1,.slice a2 t.near.length k2] (0,0) _ Y7 underlying27 rfl (by kernel_rfl))) rfl ?_;exact⟨fun j=>(#[.slice a0 t.locs.length k0,.slice a1 t.als.length k1,.slice a2 t.near.length k2]:Array Value).getD j undef,by rw[Cq];rfl,by rw[Cq];exact((sW.out.tbC HF.out).sub ((Zf8 (Kp.kptO (b:=n0) ((((Kp.refl (Zaf n0) wr).set (p:=⟨n0,0,none⟩) (Za8 n0) (.slice a0 t.locs.length k0)).set (p:=⟨n0,1,none⟩) (Za8 n0) (.slice a1 t.als.length k1)).set (p:=⟨n0,2,none⟩) (Za8 n0) (.slice a2 t.near.length k2)) HN.out (by decide))).trans (Zcr _ (by omega) fun _ h=>h))),Ee.below w.heap.size (le_refl _) (fun k hk=>decide_eq_false (by omega))⟩
    ·have Hk:0<q.l.length:=by
      cases hq:q.l with
      |nil=>exact absurd hq Az
      |cons a b=>simp
     have I7:=Hd (Ej he);have Hb:=Hd (Gx he);have iJ:=Hd (Zmj HR.out he);obtain⟨m,rfl⟩:∃m,n=m+1:=⟨n - 1,by have:=Hb.out;omega⟩;have Ff:=Et.out;rw[Ao.out,if_pos ⟨he,Az⟩]at Ff;have J0:=Hd Ff;have F6:=Hd (dO.out t q Au.out he Az rb (rb+1) (rb+1) wr HR.out (Nat.lt_succ_self _) HT.out ⟨HM.out _ (HK.out.below w.heap.size (le_refl _) (fun k hk=>decide_eq_false (by omega))),by omega⟩ (by have:=I7.out.locs;omega) (by have:=I7.out.als;omega) (by have:=I7.out.near;omega));have oJ:=Hd (C1.out t q Au.out he Az);have Kw:=Hd (fun(g:(Zax E t q).2.e=0)=>Zadb (t:=t) (r:=q) g);have Uz:=Hd (TbFew.part (E:=E) (r:=q) I7.out);unfold Zim at F6;rw[he]at c3;clear Ff Et Ej Gx Az;generalize Zax E t q=tq at *;obtain⟨t',q'⟩:=tq;simp only at F6 J0 Kw Uz oJ
     go_wp2_with fail
     refine F6.out.mono ?_;rintro _ w8 ⟨rfl,R2,Mp,O5⟩;have U0:Hid (Zj6 rb w8<Zj6 rb wr):=by
      unfold Hid;rw[iJ.out]
      by_cases h:q'.e=0
      ·rw[Zmj Mp h];have:=Kw.out h;omega
      ·rw[Zw9 Mp h];omega
     have sX:=Hd R2;have Il:=Hd Mp;have sY:=Hd (HN.out.kp O5 (Znq iV (by omega)));have Cw:=Hd (HK.out.trans (O5.le fun k _ hq=>decide_eq_true (by
      unfold Zcj at hq;rw[Bool.or_eq_true,decide_eq_true_eq,decide_eq_true_eq]at hq;omega)):Kp (upP n0) w w8)
     clear R2 Mp O5
     go_wp2_with fail
     go_roundw
     case rel=>exact⟨m,t',q',J0.out,(fun h=>by have:=Kw.out h;have:=Hb.out;omega),sX.out,Il.out,sY.out,Cw.out,Uz.out.1,Uz.out.2,oJ.out⟩
     case measure=>exact U0.out
   ·have P3:Hid (R=(t,q)):=by
     have Ff:=Et.out;unfold Hid;rw[←Ff];cases n with
     |zero=>exact Yq.out t q
     |succ m=>rw[Ao.out,if_neg (fun h=>he h.1)]
    have Cq:res=(tb0,q.pos,q.e):=by
     rw[Ew.out,P3.out,if_neg he]
    have hz:(q.e==0)=false:=by simpa using he
    have A7:(q.e !=0)=true:=by unfold bne;rw[hz];rfl
    clear Ej Gx;have r0:=HN.out.cell 0;have rf0:=HN.out.frz 0;have r1:=HN.out.cell 1;have rf1:=HN.out.frz 1;have r2:=HN.out.cell 2;have rf2:=HN.out.frz 2;simp only[Le0,Le1]at r0 r1 r2;have iC:=HN.out.lt
    go_wp2_with fail
    go_region
    all_goals go_wp2_with fail
    have Y7:=Cel.below (((HN.out.set 0 (.slice none 0 0)).set 1 (.slice none 0 0)).set 2 (.slice none 0 0)) (Bel.drew (Bel.refl _));have Ee:=Kp.drew (((HK.out.set (p:=⟨n0,0,none⟩) (Zgm (le_refl n0)) (.slice none 0 0)).set (p:=⟨n0,1,none⟩) (Zgm (le_refl n0)) (.slice none 0 0)).set (p:=⟨n0,2,none⟩) (Zgm (le_refl n0)) (.slice none 0 0));refine bodyPost_ret (Zg0 rfl _ _ n0 _ rfl (run_loadVar_row _ n0 27 27 #[.slice none 0 0,.slice none 0 0,.slice none 0 0] (0,0) _ Y7 underlying27 rfl (by kernel_rfl))) rfl ?_;exact⟨fun j=>(#[.slice none 0 0,.slice none 0 0,.slice none 0 0]:Array Value).getD j undef,by rw[Cq];rfl,by rw[Cq];exact TbC.zero _,Ee.below w.heap.size (le_refl _) (fun k hk=>decide_eq_false (by omega))⟩
 ·rw[if_neg he]at HV;have hz:(terr==0)=false:=by simpa using he
  have A7:(terr !=0)=true:=by unfold bne;rw[hz];rfl
  have Cq:res=(tb0,tpos,terr):=HV.out;have r0:=Ec.out.cell 0;have rf0:=Ec.out.frz 0;have r1:=Ec.out.cell 1;have rf1:=Ec.out.frz 1;have r2:=Ec.out.cell 2;have rf2:=Ec.out.frz 2;simp only[Le0,Le1]at r0 r1 r2;have iC:=Ec.out.lt
  go_wp2_with fail
  have Y7:=(((Ec.out.set 0 (.slice none 0 0)).set 1 (.slice none 0 0)).set 2 (.slice none 0 0));have Ee:=(((Bf.out.set (p:=⟨n0,0,none⟩) (Zgm (le_refl n0)) (.slice none 0 0)).set (p:=⟨n0,1,none⟩) (Zgm (le_refl n0)) (.slice none 0 0)).set (p:=⟨n0,2,none⟩) (Zgm (le_refl n0)) (.slice none 0 0));refine bodyPost_ret (Zg0 rfl _ _ n0 _ rfl (run_loadVar_row _ n0 27 27 #[.slice none 0 0,.slice none 0 0,.slice none 0 0] (0,0) _ Y7 underlying27 rfl (by kernel_rfl))) rfl ?_;exact⟨fun j=>(#[.slice none 0 0,.slice none 0 0,.slice none 0 0]:Array Value).getD j undef,by rw[Cq];rfl,by rw[Cq];exact TbC.zero _,Ee.below w.heap.size (le_refl _) (fun k hk=>decide_eq_false (by omega))⟩
theorem Zkt (l:List UInt8)(hl:l.length≤200000)(w:World)(hM:MaxLen w)(hU:TabU w):Calls prog 11 #[.string (bs l)] w (Zgl w (Zal l)):=
 Zoo l hl w hM hU (fun _ _=>True) trivial (fun _ _ _ _ _=>trivial) (fun t q _ _ _ b base T w hr hb hl hM h0 h1 h2=>Zabe b _ base T t q w hr hb hl hM h0 h1 h2)
end Go.Proofs.YtmleeodfmmpdgaaGreatDoor
