/- part -/
import Derived.Test.YtmleeodfmmpdgaaGreatDoorQ12
set_option maxRecDepth 20000
set_option maxHeartbeats 2000000
namespace Go.Proofs.YtmleeodfmmpdgaaGreatDoor
open Go.RowKit
attribute [local go_sem] Ext.cell Ext.frozen
attribute [local go_sem ↓] Go.wp_at_zero Go.wp_at_succ
open _root_.Nat (le_refl le_trans not_lt_zero zero_le)
open _root_.Go.Proofs.Tryz
theorem Zaij (p:Nat→Bool)(g:Nat)(lb:Array Value)(eg:∀args w,(callFunc g args).run prog w= .ok (.enter g args) w)(ad:Option Addr)(n c:Nat)(f:Nat→Nat→Value)(b off:Nat)(w:World)(hr:Rw w ad n 5 f b off)
  (hp:∀W i,i<n→Below w.heap.size w W→Calls prog g (#[.agg #[f i 0,f i 1,f i 2,f i 3,f i 4]]++lb) W fun e w'=>e= .returned (.bool (p i))∧Below W.heap.size W w'):
  Calls prog 254 #[.slice ad n c,.func (.func g) #[] lb] w fun e w'=>e= .returned (.int .i64 (Zc2 p n))∧Below w.heap.size w w':=by
 have HR:=Hd hr;have HP:=Hd hp;have hm:=hr.max;clear hr hp
 go_enter func254,ntmps254
 go_wp2_with fail
 go_loopw [5,8] (fun _ v wr=>∃k:Nat,v= .int .i64 (k:Int)∧k≤n∧(∀i,i<k→p i=false)∧Below w.heap.size w wr) (fun _ v _=>n -(intOf v).toNat)
 case atStart=>exact⟨0,rfl,zero_le _,fun i hi=>absurd hi (not_lt_zero _),Below.refl _ _⟩
 case round=>
  obtain⟨k,rfl,Co,Df,Ak⟩:=hrel;have HM:=Hd Df;have Ac:=Hd Ak;clear Df Ak
  by_cases Aa:k<n
  ·have Au:=Hd (HR.out.below Ac.out);have Ci:=fun W=>Au.out.ix 41 130 underlying41 (by kernel_rfl) (by omega) Aa c W;have c0:wr.cell? ⟨b,off+k *5,none⟩=some (f k 0):=Au.out.cell k 0 Aa (by omega);have c1:wr.cell? ⟨b,off+k *5+1,none⟩=some (f k 1):=Au.out.cell k 1 Aa (by omega);have c2:wr.cell? ⟨b,off+k *5+2,none⟩=some (f k 2):=Au.out.cell k 2 Aa (by omega);have c3:wr.cell? ⟨b,off+k *5+3,none⟩=some (f k 3):=Au.out.cell k 3 Aa (by omega);have c4:wr.cell? ⟨b,off+k *5+4,none⟩=some (f k 4):=Au.out.cell k 4 Aa (by omega);have Af:=Hd (HP.out wr k Aa Ac.out);clear Au;cases hq:p k with
   |true=>
    have HQ:=Hd hq;rw[Hid,hq]at Af;clear hq
    go_wp2_with (go_at_fn g;refine Af.mono ?_;rintro e w' ⟨rfl,Cf⟩)
    go_ret;exact⟨Zbi (Zd9 Aa HQ.out HM.out).symm,Ac.out.trans (Cf.mono Ac.out.size)⟩
   |false=>
    have HQ:=Hd hq;rw[Hid,hq]at Af;clear hq
    go_wp2_with (go_at_fn g;refine Af.mono ?_;rintro e w' ⟨rfl,Cf⟩)
    go_roundw
    case rel=>
     refine⟨k+1,by go_num,by omega,fun i hi=>?_,Ac.out.trans (Cf.mono Ac.out.size)⟩
     by_cases e:i=k
     ·subst e;exact HQ.out
     ·exact HM.out i (by omega)
    case measure=>simp[intOf];omega
  ·obtain rfl:k=n:=by omega
   go_wp2_with fail
   go_ret;exact⟨Zbi (Zcl HM.out).symm,Ac.out⟩
theorem Zw2 (p:Nat→Bool)(g:Nat)(lb:Array Value)(eg:∀args w,(callFunc g args).run prog w= .ok (.enter g args) w)(ad:Option Addr)(n c:Nat)(f:Nat→Nat→Value)(b off:Nat)(w:World)(hr:Rw w ad n 5 f b off)
  (hp:∀W i,i<n→Below w.heap.size w W→Calls prog g (#[.agg #[f i 0,f i 1,f i 2,f i 3,f i 4]]++lb) W fun e w'=>e= .returned (.bool (p i))∧Below W.heap.size W w'):
  Calls prog 203 #[.slice ad n c,.func (.func g) #[] lb] w fun e w'=>e= .returned (.bool (Zai p n))∧Below w.heap.size w w':=by
 have HC:=Hd (Zaij p g lb eg ad n c f b off w hr hp);clear hr hp eg;rw[←Zea];generalize Zc2 p n=z at *
 go_enter func203,ntmps203
 go_wp2_with (go_at_call 254;refine HC.out.mono ?_;rintro e w' ⟨rfl,Cf⟩)
 go_ret;exact⟨rfl,Cf⟩
theorem Zajh (p:Nat→Bool)(g:Nat)(lb:Array Value)(eg:∀args w,(callFunc g args).run prog w= .ok (.enter g args) w)(ad:Option Addr)(n c:Nat)(f:Nat→Nat→Value)(b off:Nat)(w:World)(hr:Rw w ad n 3 f b off)
  (hp:∀W i,i<n→Below w.heap.size w W→Calls prog g (#[.agg #[f i 0,f i 1,f i 2]]++lb) W fun e w'=>e= .returned (.bool (p i))∧Below W.heap.size W w'):
  Calls prog 255 #[.slice ad n c,.func (.func g) #[] lb] w fun e w'=>e= .returned (.int .i64 (Zc2 p n))∧Below w.heap.size w w':=by
 have HR:=Hd hr;have HP:=Hd hp;have hm:=hr.max;clear hr hp
 go_enter func255,ntmps255
 go_wp2_with fail
 go_loopw [5,8] (fun _ v wr=>∃k:Nat,v= .int .i64 (k:Int)∧k≤n∧(∀i,i<k→p i=false)∧Below w.heap.size w wr) (fun _ v _=>n -(intOf v).toNat)
 case atStart=>exact⟨0,rfl,zero_le _,fun i hi=>absurd hi (not_lt_zero _),Below.refl _ _⟩
 case round=>
  obtain⟨k,rfl,Co,Df,Ak⟩:=hrel;have HM:=Hd Df;have Ac:=Hd Ak;clear Df Ak
  by_cases Aa:k<n
  ·have Au:=Hd (HR.out.below Ac.out);have Ci:=fun W=>Au.out.ix 42 132 underlying42 (by kernel_rfl) (by omega) Aa c W;have c0:wr.cell? ⟨b,off+k *3,none⟩=some (f k 0):=Au.out.cell k 0 Aa (by omega);have c1:wr.cell? ⟨b,off+k *3+1,none⟩=some (f k 1):=Au.out.cell k 1 Aa (by omega);have c2:wr.cell? ⟨b,off+k *3+2,none⟩=some (f k 2):=Au.out.cell k 2 Aa (by omega);have Af:=Hd (HP.out wr k Aa Ac.out);clear Au;cases hq:p k with
   |true=>
    have HQ:=Hd hq;rw[Hid,hq]at Af;clear hq
    go_wp2_with (go_at_fn g;refine Af.mono ?_;rintro e w' ⟨rfl,Cf⟩)
    go_ret;exact⟨Zbi (Zd9 Aa HQ.out HM.out).symm,Ac.out.trans (Cf.mono Ac.out.size)⟩
   |false=>
    have HQ:=Hd hq;rw[Hid,hq]at Af;clear hq
    go_wp2_with (go_at_fn g;refine Af.mono ?_;rintro e w' ⟨rfl,Cf⟩)
    go_roundw
    case rel=>
     refine⟨k+1,by go_num,by omega,fun i hi=>?_,Ac.out.trans (Cf.mono Ac.out.size)⟩
     by_cases e:i=k
     ·subst e;exact HQ.out
     ·exact HM.out i (by omega)
    case measure=>simp[intOf];omega
  ·obtain rfl:k=n:=by omega
   go_wp2_with fail
   go_ret;exact⟨Zbi (Zcl HM.out).symm,Ac.out⟩
theorem Zvq (p:Nat→Bool)(g:Nat)(lb:Array Value)(eg:∀args w,(callFunc g args).run prog w= .ok (.enter g args) w)(ad:Option Addr)(n c:Nat)(f:Nat→Nat→Value)(b off:Nat)(w:World)(hr:Rw w ad n 3 f b off)
  (hp:∀W i,i<n→Below w.heap.size w W→Calls prog g (#[.agg #[f i 0,f i 1,f i 2]]++lb) W fun e w'=>e= .returned (.bool (p i))∧Below W.heap.size W w'):
  Calls prog 205 #[.slice ad n c,.func (.func g) #[] lb] w fun e w'=>e= .returned (.bool (Zai p n))∧Below w.heap.size w w':=by
 have HC:=Hd (Zajh p g lb eg ad n c f b off w hr hp);clear hr hp eg;rw[←Zea];generalize Zc2 p n=z at *
 go_enter func205,ntmps205
 go_wp2_with (go_at_call 255;refine HC.out.mono ?_;rintro e w' ⟨rfl,Cf⟩)
 go_ret;exact⟨rfl,Cf⟩
theorem Zail (p:Nat→Bool)(g:Nat)(lb:Array Value)(eg:∀args w,(callFunc g args).run prog w= .ok (.enter g args) w)(ad:Option Addr)(n c:Nat)(f:Nat→Nat→Value)(b off:Nat)(w:World)(hr:Rw w ad n 2 f b off)
  (hp:∀W i,i<n→Below w.heap.size w W→Calls prog g (#[.agg #[f i 0,f i 1]]++lb) W fun e w'=>e= .returned (.bool (p i))∧Below W.heap.size W w'):
  Calls prog 256 #[.slice ad n c,.func (.func g) #[] lb] w fun e w'=>e= .returned (.int .i64 (Zc2 p n))∧Below w.heap.size w w':=by
 have HR:=Hd hr;have HP:=Hd hp;have hm:=hr.max;clear hr hp
 go_enter func256,ntmps256
 go_wp2_with fail
 go_loopw [5,8] (fun _ v wr=>∃k:Nat,v= .int .i64 (k:Int)∧k≤n∧(∀i,i<k→p i=false)∧Below w.heap.size w wr) (fun _ v _=>n -(intOf v).toNat)
 case atStart=>exact⟨0,rfl,zero_le _,fun i hi=>absurd hi (not_lt_zero _),Below.refl _ _⟩
 case round=>
  obtain⟨k,rfl,Co,Df,Ak⟩:=hrel;have HM:=Hd Df;have Ac:=Hd Ak;clear Df Ak
  by_cases Aa:k<n
  ·have Au:=Hd (HR.out.below Ac.out);have Ci:=fun W=>Au.out.ix 43 134 underlying43 (by kernel_rfl) (by omega) Aa c W;have c0:wr.cell? ⟨b,off+k *2,none⟩=some (f k 0):=Au.out.cell k 0 Aa (by omega);have c1:wr.cell? ⟨b,off+k *2+1,none⟩=some (f k 1):=Au.out.cell k 1 Aa (by omega);have Af:=Hd (HP.out wr k Aa Ac.out);clear Au;cases hq:p k with
   |true=>
    have HQ:=Hd hq;rw[Hid,hq]at Af;clear hq
    go_wp2_with (go_at_fn g;refine Af.mono ?_;rintro e w' ⟨rfl,Cf⟩)
    go_ret;exact⟨Zbi (Zd9 Aa HQ.out HM.out).symm,Ac.out.trans (Cf.mono Ac.out.size)⟩
   |false=>
    have HQ:=Hd hq;rw[Hid,hq]at Af;clear hq
    go_wp2_with (go_at_fn g;refine Af.mono ?_;rintro e w' ⟨rfl,Cf⟩)
    go_roundw
    case rel=>
     refine⟨k+1,by go_num,by omega,fun i hi=>?_,Ac.out.trans (Cf.mono Ac.out.size)⟩
     by_cases e:i=k
     ·subst e;exact HQ.out
     ·exact HM.out i (by omega)
    case measure=>simp[intOf];omega
  ·obtain rfl:k=n:=by omega
   go_wp2_with fail
   go_ret;exact⟨Zbi (Zcl HM.out).symm,Ac.out⟩
theorem Zvf (p:Nat→Bool)(g:Nat)(lb:Array Value)(eg:∀args w,(callFunc g args).run prog w= .ok (.enter g args) w)(ad:Option Addr)(n c:Nat)(f:Nat→Nat→Value)(b off:Nat)(w:World)(hr:Rw w ad n 2 f b off)
  (hp:∀W i,i<n→Below w.heap.size w W→Calls prog g (#[.agg #[f i 0,f i 1]]++lb) W fun e w'=>e= .returned (.bool (p i))∧Below W.heap.size W w'):
  Calls prog 207 #[.slice ad n c,.func (.func g) #[] lb] w fun e w'=>e= .returned (.bool (Zai p n))∧Below w.heap.size w w':=by
 have HC:=Hd (Zail p g lb eg ad n c f b off w hr hp);clear hr hp eg;rw[←Zea];generalize Zc2 p n=z at *
 go_enter func207,ntmps207
 go_wp2_with (go_at_call 256;refine HC.out.mono ?_;rintro e w' ⟨rfl,Cf⟩)
 go_ret;exact⟨rfl,Cf⟩
theorem Zaja (p:Nat→Bool)(g:Nat)(lb:Array Value)(eg:∀args w,(callFunc g args).run prog w= .ok (.enter g args) w)(ad:Option Addr)(n c:Nat)(f:Nat→Nat→Value)(b off:Nat)(w:World)(hr:Rw w ad n 16 f b off)
  (hp:∀W i,i<n→Below w.heap.size w W→Calls prog g (#[.agg #[f i 0,f i 1,f i 2,f i 3,f i 4,f i 5,f i 6,f i 7,f i 8,f i 9,f i 10,f i 11,f i 12,f i 13,f i 14,f i 15]]++lb) W fun e w'=>e= .returned (.bool (p i))∧Below W.heap.size W w'):
  Calls prog 143 #[.slice ad n c,.func (.func g) #[] lb] w fun e w'=>e= .returned (.int .i64 (Zc2 p n))∧Below w.heap.size w w':=by
 have HR:=Hd hr;have HP:=Hd hp;have hm:=hr.max;clear hr hp
 go_enter func143,ntmps143
 go_wp2_with fail
 go_loopw [5,8] (fun _ v wr=>∃k:Nat,v= .int .i64 (k:Int)∧k≤n∧(∀i,i<k→p i=false)∧Below w.heap.size w wr) (fun _ v _=>n -(intOf v).toNat)
 case atStart=>exact⟨0,rfl,zero_le _,fun i hi=>absurd hi (not_lt_zero _),Below.refl _ _⟩
 case round=>
  obtain⟨k,rfl,Co,Df,Ak⟩:=hrel;have HM:=Hd Df;have Ac:=Hd Ak;clear Df Ak
  by_cases Aa:k<n
  ·have Au:=Hd (HR.out.below Ac.out);have Ci:=fun W=>Au.out.ix 23 46 underlying23 (by kernel_rfl) (by omega) Aa c W;have c0:wr.cell? ⟨b,off+k *16,none⟩=some (f k 0):=Au.out.cell k 0 Aa (by omega);have c1:wr.cell? ⟨b,off+k *16+1,none⟩=some (f k 1):=Au.out.cell k 1 Aa (by omega);have c2:wr.cell? ⟨b,off+k *16+2,none⟩=some (f k 2):=Au.out.cell k 2 Aa (by omega);have c3:wr.cell? ⟨b,off+k *16+3,none⟩=some (f k 3):=Au.out.cell k 3 Aa (by omega);have c4:wr.cell? ⟨b,off+k *16+4,none⟩=some (f k 4):=Au.out.cell k 4 Aa (by omega);have c5:wr.cell? ⟨b,off+k *16+5,none⟩=some (f k 5):=Au.out.cell k 5 Aa (by omega);have c6:wr.cell? ⟨b,off+k *16+6,none⟩=some (f k 6):=Au.out.cell k 6 Aa (by omega);have c7:wr.cell? ⟨b,off+k *16+7,none⟩=some (f k 7):=Au.out.cell k 7 Aa (by omega);have c8:wr.cell? ⟨b,off+k *16+8,none⟩=some (f k 8):=Au.out.cell k 8 Aa (by omega);have c9:wr.cell? ⟨b,off+k *16+9,none⟩=some (f k 9):=Au.out.cell k 9 Aa (by omega);have c10:wr.cell? ⟨b,off+k *16+10,none⟩=some (f k 10):=Au.out.cell k 10 Aa (by omega);have c11:wr.cell? ⟨b,off+k *16+11,none⟩=some (f k 11):=Au.out.cell k 11 Aa (by omega);have c12:wr.cell? ⟨b,off+k *16+12,none⟩=some (f k 12):=Au.out.cell k 12 Aa (by omega);have c13:wr.cell? ⟨b,off+k *16+13,none⟩=some (f k 13):=Au.out.cell k 13 Aa (by omega);have c14:wr.cell? ⟨b,off+k *16+14,none⟩=some (f k 14):=Au.out.cell k 14 Aa (by omega);have c15:wr.cell? ⟨b,off+k *16+15,none⟩=some (f k 15):=Au.out.cell k 15 Aa (by omega);have Af:=Hd (HP.out wr k Aa Ac.out);clear Au;cases hq:p k with
   |true=>
    have HQ:=Hd hq;rw[Hid,hq]at Af;clear hq
    go_wp2_with (go_at_fn g;refine Af.mono ?_;rintro e w' ⟨rfl,Cf⟩)
    go_ret;exact⟨Zbi (Zd9 Aa HQ.out HM.out).symm,Ac.out.trans (Cf.mono Ac.out.size)⟩
   |false=>
    have HQ:=Hd hq;rw[Hid,hq]at Af;clear hq
    go_wp2_with (go_at_fn g;refine Af.mono ?_;rintro e w' ⟨rfl,Cf⟩)
    go_roundw
    case rel=>
     refine⟨k+1,by go_num,by omega,fun i hi=>?_,Ac.out.trans (Cf.mono Ac.out.size)⟩
     by_cases e:i=k
     ·subst e;exact HQ.out
     ·exact HM.out i (by omega)
    case measure=>simp[intOf];omega
  ·obtain rfl:k=n:=by omega
   go_wp2_with fail
   go_ret;exact⟨Zbi (Zcl HM.out).symm,Ac.out⟩
theorem Zagj (p:Nat→Bool)(g:Nat)(lb:Array Value)(eg:∀args w,(callFunc g args).run prog w= .ok (.enter g args) w)(ad:Option Addr)(n c:Nat)(f:Nat→Nat→Value)(b off:Nat)(w:World)(hr:Rw w ad n 16 f b off)
  (hp:∀W i,i<n→Below w.heap.size w W→Calls prog g (#[.agg #[f i 0,f i 1,f i 2,f i 3,f i 4,f i 5,f i 6,f i 7,f i 8,f i 9,f i 10,f i 11,f i 12,f i 13,f i 14,f i 15]]++lb) W fun e w'=>e= .returned (.bool (p i))∧Below W.heap.size W w'):
  Calls prog 93 #[.slice ad n c,.func (.func g) #[] lb] w fun e w'=>e= .returned (.bool (Zai p n))∧Below w.heap.size w w':=by
 have HC:=Hd (Zaja p g lb eg ad n c f b off w hr hp);clear hr hp eg;rw[←Zea];generalize Zc2 p n=z at *
 go_enter func93,ntmps93
 go_wp2_with (go_at_call 143;refine HC.out.mono ?_;rintro e w' ⟨rfl,Cf⟩)
 go_ret;exact⟨rfl,Cf⟩
theorem Zaik (p:Nat→Bool)(g:Nat)(lb:Array Value)(eg:∀args w,(callFunc g args).run prog w= .ok (.enter g args) w)(ad:Option Addr)(n c:Nat)(f:Nat→Nat→Value)(b off:Nat)(w:World)(hr:Rw w ad n 2 f b off)
  (hp:∀W i,i<n→Below w.heap.size w W→Calls prog g (#[.agg #[f i 0,f i 1]]++lb) W fun e w'=>e= .returned (.bool (p i))∧Below W.heap.size W w'):
  Calls prog 166 #[.slice ad n c,.func (.func g) #[] lb] w fun e w'=>e= .returned (.int .i64 (Zc2 p n))∧Below w.heap.size w w':=by
 have HR:=Hd hr;have HP:=Hd hp;have hm:=hr.max;clear hr hp
 go_enter func166,ntmps166
 go_wp2_with fail
 go_loopw [5,8] (fun _ v wr=>∃k:Nat,v= .int .i64 (k:Int)∧k≤n∧(∀i,i<k→p i=false)∧Below w.heap.size w wr) (fun _ v _=>n -(intOf v).toNat)
 case atStart=>exact⟨0,rfl,zero_le _,fun i hi=>absurd hi (not_lt_zero _),Below.refl _ _⟩
 case round=>
  obtain⟨k,rfl,Co,Df,Ak⟩:=hrel;have HM:=Hd Df;have Ac:=Hd Ak;clear Df Ak
  by_cases Aa:k<n
  ·have Au:=Hd (HR.out.below Ac.out);have Ci:=fun W=>Au.out.ix 24 61 underlying24 (by kernel_rfl) (by omega) Aa c W;have c0:wr.cell? ⟨b,off+k *2,none⟩=some (f k 0):=Au.out.cell k 0 Aa (by omega);have c1:wr.cell? ⟨b,off+k *2+1,none⟩=some (f k 1):=Au.out.cell k 1 Aa (by omega);have Af:=Hd (HP.out wr k Aa Ac.out);clear Au;cases hq:p k with
   |true=>
    have HQ:=Hd hq;rw[Hid,hq]at Af;clear hq
    go_wp2_with (go_at_fn g;refine Af.mono ?_;rintro e w' ⟨rfl,Cf⟩)
    go_ret;exact⟨Zbi (Zd9 Aa HQ.out HM.out).symm,Ac.out.trans (Cf.mono Ac.out.size)⟩
   |false=>
    have HQ:=Hd hq;rw[Hid,hq]at Af;clear hq
    go_wp2_with (go_at_fn g;refine Af.mono ?_;rintro e w' ⟨rfl,Cf⟩)
    go_roundw
    case rel=>
     refine⟨k+1,by go_num,by omega,fun i hi=>?_,Ac.out.trans (Cf.mono Ac.out.size)⟩
     by_cases e:i=k
     ·subst e;exact HQ.out
     ·exact HM.out i (by omega)
    case measure=>simp[intOf];omega
  ·obtain rfl:k=n:=by omega
   go_wp2_with fail
   go_ret;exact⟨Zbi (Zcl HM.out).symm,Ac.out⟩
theorem Zahs (p:Nat→Bool)(g:Nat)(lb:Array Value)(eg:∀args w,(callFunc g args).run prog w= .ok (.enter g args) w)(ad:Option Addr)(n c:Nat)(f:Nat→Nat→Value)(b off:Nat)(w:World)(hr:Rw w ad n 2 f b off)
  (hp:∀W i,i<n→Below w.heap.size w W→Calls prog g (#[.agg #[f i 0,f i 1]]++lb) W fun e w'=>e= .returned (.bool (p i))∧Below W.heap.size W w'):
  Calls prog 100 #[.slice ad n c,.func (.func g) #[] lb] w fun e w'=>e= .returned (.bool (Zai p n))∧Below w.heap.size w w':=by
 have HC:=Hd (Zaik p g lb eg ad n c f b off w hr hp);clear hr hp eg;rw[←Zea];generalize Zc2 p n=z at *
 go_enter func100,ntmps100
 go_wp2_with (go_at_call 166;refine HC.out.mono ?_;rintro e w' ⟨rfl,Cf⟩)
 go_ret;exact⟨rfl,Cf⟩
theorem Zajn (p:Nat→Bool)(g:Nat)(lb:Array Value)(eg:∀args w,(callFunc g args).run prog w= .ok (.enter g args) w)(ad:Option Addr)(n c:Nat)(f:Nat→Nat→Value)(b off:Nat)(w:World)(hr:Rw w ad n 3 f b off)
  (hp:∀W i,i<n→Below w.heap.size w W→Calls prog g (#[.agg #[f i 0,f i 1,f i 2]]++lb) W fun e w'=>e= .returned (.bool (p i))∧Below W.heap.size W w'):
  Calls prog 169 #[.slice ad n c,.func (.func g) #[] lb] w fun e w'=>e= .returned (.int .i64 (Zc2 p n))∧Below w.heap.size w w':=by
 have HR:=Hd hr;have HP:=Hd hp;have hm:=hr.max;clear hr hp
 go_enter func169,ntmps169
 go_wp2_with fail
 go_loopw [5,8] (fun _ v wr=>∃k:Nat,v= .int .i64 (k:Int)∧k≤n∧(∀i,i<k→p i=false)∧Below w.heap.size w wr) (fun _ v _=>n -(intOf v).toNat)
 case atStart=>exact⟨0,rfl,zero_le _,fun i hi=>absurd hi (not_lt_zero _),Below.refl _ _⟩
 case round=>
  obtain⟨k,rfl,Co,Df,Ak⟩:=hrel;have HM:=Hd Df;have Ac:=Hd Ak;clear Df Ak
  by_cases Aa:k<n
  ·have Au:=Hd (HR.out.below Ac.out);have Ci:=fun W=>Au.out.ix 25 58 underlying25 (by kernel_rfl) (by omega) Aa c W;have c0:wr.cell? ⟨b,off+k *3,none⟩=some (f k 0):=Au.out.cell k 0 Aa (by omega);have c1:wr.cell? ⟨b,off+k *3+1,none⟩=some (f k 1):=Au.out.cell k 1 Aa (by omega);have c2:wr.cell? ⟨b,off+k *3+2,none⟩=some (f k 2):=Au.out.cell k 2 Aa (by omega);have Af:=Hd (HP.out wr k Aa Ac.out);clear Au;cases hq:p k with
   |true=>
    have HQ:=Hd hq;rw[Hid,hq]at Af;clear hq
    go_wp2_with (go_at_fn g;refine Af.mono ?_;rintro e w' ⟨rfl,Cf⟩)
    go_ret;exact⟨Zbi (Zd9 Aa HQ.out HM.out).symm,Ac.out.trans (Cf.mono Ac.out.size)⟩
   |false=>
    have HQ:=Hd hq;rw[Hid,hq]at Af;clear hq
    go_wp2_with (go_at_fn g;refine Af.mono ?_;rintro e w' ⟨rfl,Cf⟩)
    go_roundw
    case rel=>
     refine⟨k+1,by go_num,by omega,fun i hi=>?_,Ac.out.trans (Cf.mono Ac.out.size)⟩
     by_cases e:i=k
     ·subst e;exact HQ.out
     ·exact HM.out i (by omega)
    case measure=>simp[intOf];omega
  ·obtain rfl:k=n:=by omega
   go_wp2_with fail
   go_ret;exact⟨Zbi (Zcl HM.out).symm,Ac.out⟩
theorem Zagt (p:Nat→Bool)(g:Nat)(lb:Array Value)(eg:∀args w,(callFunc g args).run prog w= .ok (.enter g args) w)(ad:Option Addr)(n c:Nat)(f:Nat→Nat→Value)(b off:Nat)(w:World)(hr:Rw w ad n 3 f b off)
  (hp:∀W i,i<n→Below w.heap.size w W→Calls prog g (#[.agg #[f i 0,f i 1,f i 2]]++lb) W fun e w'=>e= .returned (.bool (p i))∧Below W.heap.size W w'):
  Calls prog 105 #[.slice ad n c,.func (.func g) #[] lb] w fun e w'=>e= .returned (.bool (Zai p n))∧Below w.heap.size w w':=by
 have HC:=Hd (Zajn p g lb eg ad n c f b off w hr hp);clear hr hp eg;rw[←Zea];generalize Zc2 p n=z at *
 go_enter func105,ntmps105
 go_wp2_with (go_at_call 169;refine HC.out.mono ?_;rintro e w' ⟨rfl,Cf⟩)
 go_ret;exact⟨rfl,Cf⟩
def Zi3 (n:Nat):Code→Code
 | .seq a b=>match a with
  | .region k _ _=>if k=n then .seq a b else Zi3 n b
  | .seq (.region k _ _) _=>if k=n then .seq a b else Zi3 n b
  |_=>Zi3 n b
 |c=>c
def Sub (w w':World):Prop:=∀(p:Addr) (v:Value),w.cell? p=some v→w'.cell? p=some v
theorem Sub.trans {a b c:World} (h:Sub a b)(k:Sub b c):Sub a c:=fun p v hv=>k p v (h p v hv)
theorem Rw.sub {w w':World} {ad:Option Addr} {n k:Nat} {f b off} (h:Rw w ad n k f b off)(hs:Sub w w'):Rw w' ad n k f b off:=
 ⟨h.max,h.adr,fun i j hi hj=>hs _ _ (h.cell i j hi hj)⟩
theorem RowsOf.sub {α:Type} {k:Nat} {C:World→(Nat→Value)→α→Prop} {w w':World} {v:Value} {l:List α} (h:RowsOf k C w v l)(hs:Sub w w')(hC:∀x a,C w x a→C w' x a):RowsOf k C w' v l:=by
 obtain⟨ad,c,f,b,off,h1,h2,h3,h4,h5,h6⟩:=h;exact⟨ad,c,f,b,off,h1,h2.sub hs,h3,h4,h5,fun i x hx=>hC _ _ (h6 i x hx)⟩
theorem RelC.sub {w w':World} {x:Nat→Value} {r:Rel} (h:RelC w x r)(hs:Sub w w'):RelC w' x r:=⟨h.1,h.2.1,h.2.2.1,h.2.2.2.sub hs fun _ _ h=>h⟩
theorem RelsC.sub {w w':World} {x:Nat→Value} {l:List Rel} (h:RelsC w x l)(hs:Sub w w'):RelsC w' x l:=RowsOf.sub h hs fun _ _ h=>h.sub hs
theorem CondAt.sub {w w':World} {v:Value} {c:List (List Rel)} (h:CondAt w v c)(hs:Sub w w'):CondAt w' v c:=RowsOf.sub h hs fun _ _ h=>h.sub hs
theorem RuleC.sub {w w':World} {x:Nat→Value} {r:ByteArray×List (List Rel)} (h:RuleC w x r)(hs:Sub w w'):RuleC w' x r:=⟨h.1,h.2.sub hs⟩
theorem RulesAt.sub {w w':World} {v:Value} {l:List (ByteArray×List (List Rel))} (h:RulesAt w v l)(hs:Sub w w'):RulesAt w' v l:=RowsOf.sub h hs fun _ _ h=>h.sub hs
theorem LcC.sub {w w':World} {x:Nat→Value} {y:Lc} (h:LcC w x y)(hs:Sub w w'):LcC w' x y:=
 ⟨h.c0,h.c1,h.c2,h.c3.sub hs,h.c4.sub hs,h.c5,h.c6,h.c7,h.c8,h.c9,h.c10,h.c11.sub hs fun _ _ h=>h.at,h.c12.sub hs fun _ _ h=>h.at,h.c13.sub hs fun _ _ h=>h.at,h.c14.sub hs fun _ _ h=>h,h.c15.sub hs fun _ _ h=>h⟩
theorem TbC.sub {w w':World} {x:Nat→Value} {y:Tb} (h:TbC w x y)(hs:Sub w w'):TbC w' x y:=
 ⟨h.c0.sub hs fun _ _ h=>h.sub hs,h.c1.sub hs fun _ _ h=>h.at,h.c2.sub hs fun _ _ h=>h.at⟩
def Zks (P:Nat→Bool)(w:World):World:= { w with heap:=w.heap.mapIdx fun i o=>if P i then .cells #[] 0 else o }
theorem Zub (P:Nat→Bool)(w:World)(k:Nat):(Zks P w).heap[k]? =(w.heap[k]?).map fun o=>if P k then .cells #[] 0 else o:=by simp[Zks]
theorem Zkz {P:Nat→Bool} {w:World} {k:Nat} (h:P k=false):(Zks P w).heap[k]? =w.heap[k]? :=by
 rw[Zub,h];simp
theorem Zly {P:Nat→Bool} {w:World} {p:Addr} {v:Value} (h:(Zks P w).cell? p=some v):P p.block=false∧w.cell? p=some v:=by
 cases hp:P p.block with
 |false=>exact⟨rfl,by rw[←World.cell?_of_block (Zkz hp)];exact h⟩
 |true=>
  exfalso
  have hg:=Zub P w p.block;rw[hp]at hg;unfold World.cell? at h;rw[hg]at h;cases hq:w.heap[p.block]? <;> simp[hq]at h
theorem Zack (P:Nat→Bool)(w:World):Sub (Zks P w) w:=fun _ _ h=>(Zly h).2
def Zaf (b:Nat)(k:Nat):Bool:=decide (k=b)
structure Kp (P:Nat→Bool) (w w':World):Prop where
 os:w'.os=w.os
 tape:w'.tape=w.tape
 output:w'.output=w.output
 size:w.heap.size≤w'.heap.size
 block:∀k,k<w.heap.size→P k=false→w'.heap[k]? =w.heap[k]?
theorem Kp.refl (P:Nat→Bool)(w:World):Kp P w w:=⟨rfl,rfl,rfl,le_refl _,fun _ _ _=>rfl⟩
theorem Kp.trans {P:Nat→Bool} {a b c:World} (h:Kp P a b)(k:Kp P b c):Kp P a c:=
 ⟨k.os.trans h.os,k.tape.trans h.tape,k.output.trans h.output,le_trans h.size k.size,fun i hi hp=>(k.block i (Nat.lt_of_lt_of_le hi h.size) hp).trans (h.block i hi hp)⟩
theorem Kp.le {P Q:Nat→Bool} {w w':World} (h:Kp P w w')(hq:∀k,k<w.heap.size→P k=true→Q k=true):Kp Q w w':=
 ⟨h.os,h.tape,h.output,h.size,fun k hk hp=>h.block k hk (by
  cases hh:P k with
  |false=>rfl
  |true=>rw[hq k hk hh]at hp;cases hp)⟩
theorem Za4 {P:Nat→Bool} {w w':World} (h:Below w.heap.size w w'):Kp P w w':=⟨h.os,h.tape,h.output,h.size,fun k hk _=>h.block k hk⟩
theorem Kp.below {P:Nat→Bool} {w w':World} (h:Kp P w w')(base:Nat)(hb:base≤w.heap.size)(hp:∀k,k<base→P k=false):Below base w w':=
 ⟨h.os,h.tape,h.output,h.size,fun k hk=>h.block k (by omega) (hp k hk)⟩
theorem Kp.cell {P:Nat→Bool} {w w':World} (h:Kp P w w') {p:Addr} {v:Value} (hp:P p.block=false)(hv:w.cell? p=some v):w'.cell? p=some v:=
 (World.cell?_of_block (h.block _ (World.block_lt_of_cell? w _ hv) hp)).trans hv
theorem Kp.alloc {P:Nat→Bool} {a w:World} (h:Kp P a w)(o:Obj):Kp P a (w.alloc o):=
 h.trans ⟨rfl,rfl,rfl,by simp,fun k hk _=>Below.heap_alloc _ _ _ hk⟩
theorem Kp.drew {P:Nat→Bool} {a w:World} (h:Kp P a w):Kp P a w.drew:=⟨h.os,h.tape,h.output,h.size,h.block⟩
theorem Kp.set {P:Nat→Bool} {a w:World} (h:Kp P a w) {p:Addr} (hp:P p.block=true)(u:Value):Kp P a (w.setCell p u):=
 h.trans ⟨rfl,rfl,rfl,by simp[World.setCell],fun k _ hk=>Below.heap_setCell _ _ _ _ (by rintro rfl;rw[hp]at hk;cases hk)⟩
theorem Kp.grown {P:Nat→Bool} {a w w':World} (h:Kp P a w) {row:Option Nat} (hg:w.grownBy w' row)(hr:∀k,row=some k→a.heap.size≤k∨P k=true):Kp P a w':=
 ⟨hg.os.trans h.os,hg.tape.trans h.tape,hg.output.trans h.output,le_trans h.size hg.size,fun k hk hp=>(hg.block k (Nat.lt_of_lt_of_le hk h.size) (fun e=>by
  rcases hr k e.symm with h1|h1
  ·omega
  ·rw[h1]at hp;cases hp)).trans (h.block k hk hp)⟩
theorem Kp.then {P:Nat→Bool} {a w w':World} (h:Kp P a w) {Q:Nat→Bool} (k:Kp Q w w')(hq:∀i,i<a.heap.size→Q i=true→P i=true):Kp P a w':=
 ⟨k.os.trans h.os,k.tape.trans h.tape,k.output.trans h.output,le_trans h.size k.size,fun i hi hp=>(k.block i (Nat.lt_of_lt_of_le hi h.size) (by
  cases hh:Q i with
  |false=>rfl
  |true=>rw[hq i hi hh]at hp;cases hp)).trans (h.block i hi hp)⟩
theorem Za8 (b:Nat):Zaf b b=true:=decide_eq_true rfl
theorem Za1 {b k:Nat} (h:k≠b):Zaf b k=false:=decide_eq_false h
def Cel (w:World)(b:Nat)(T:TypeId)(cs:List Value):Prop:=w.heap[b]? =some (.cells cs.toArray T (0,0))
theorem Cel.lt {w:World} {b:Nat} {T:TypeId} {cs:List Value} (h:Cel w b T cs):b<w.heap.size:=(Array.getElem?_eq_some_iff.1 h).1
theorem Cel.cell {w:World} {b:Nat} {T:TypeId} {cs:List Value} (h:Cel w b T cs)(j:Nat):w.cell? ⟨b,j,none⟩=cs[j]? :=by
 unfold Cel at h;simp[World.cell?,h]
theorem Cel.frz {w:World} {b:Nat} {T:TypeId} {cs:List Value} (h:Cel w b T cs)(j:Nat):w.frozen? ⟨b,j,none⟩=false:=by
 unfold Cel at h;simp[World.frozen?,h]
theorem Cel.set {w:World} {b:Nat} {T:TypeId} {cs:List Value} (h:Cel w b T cs)(j:Nat)(v:Value):Cel (w.setCell ⟨b,j,none⟩ v) b T (cs.set j v):=by
 unfold Cel at h⊢;simp[World.setCell,Array.getElem?_modify,h]
theorem Cel.kp {w w':World} {b:Nat} {T:TypeId} {cs:List Value} (h:Cel w b T cs) {P:Nat→Bool} (k:Kp P w w')(hp:P b=false):Cel w' b T cs:=(k.block b h.lt hp).trans h
theorem Cel.below {w w':World} {b:Nat} {T:TypeId} {cs:List Value} (h:Cel w b T cs)(k:Below w.heap.size w w'):Cel w' b T cs:=(k.block b h.lt).trans h
theorem Cel.new (w:World)(cs:List Value)(T:TypeId):Cel (w.alloc (.cells cs.toArray T)) w.heap.size T cs:=by
 show(w.heap.push _)[w.heap.size]? =_;simp
def Zdt (c:UInt8):Bool:=c==32||c==9||c==10
def Zby (c:UInt8):Bool:=decide (97≤c.toNat)&&decide (c.toNat≤122)
def Zbo (c:UInt8):Bool:=decide (48≤c.toNat)&&decide (c.toNat≤57)
def Zfz:List UInt8→List UInt8
 |[]=>[]
 |c::r=>
  if Zby c then(c::r).takeWhile Zby
  else if Zbo c then(c::r).takeWhile Zbo
  else if c=46∧r.head? =some 46 then [46,46]
  else if c=33∧r.head? =some 61 then [33,61]
  else if c=37∨c=61∨c=44 then [c]
  else []
def Zb9 (s:List UInt8)(i:Nat):Nat:=i+((s.drop i).takeWhile Zdt).length
def Zag (s:List UInt8)(i:Nat):List UInt8:=Zfz (s.drop (Zb9 s i))
theorem Zid {α:Type} (p:α→Bool)(l:List α):(l.takeWhile p).length≤l.length:=(List.takeWhile_prefix _).length_le
theorem Zn6 {s:List UInt8} {i:Nat} (h:i≤s.length):Zb9 s i≤s.length:=by
 have:=Zid Zdt (s.drop i);rw[List.length_drop]at this;unfold Zb9;omega
theorem Zahv:∀l:List UInt8,(Zfz l).length≤l.length
 |[]=>le_refl _
 |c::r=>by
  rw[Zfz]
  by_cases h1:Zby c=true
  ·rw[if_pos h1];exact Zid _ _
  ·rw[if_neg h1]
   by_cases h2:Zbo c=true
   ·rw[if_pos h2];exact Zid _ _
   ·rw[if_neg h2]
    by_cases h3:c=46∧r.head? =some 46
    ·rw[if_pos h3];cases r with
     |nil=>simp at h3
     |cons d r=>simp
    ·rw[if_neg h3]
     by_cases h4:c=33∧r.head? =some 61
     ·rw[if_pos h4];cases r with
      |nil=>simp at h4
      |cons d r=>simp
     ·rw[if_neg h4];split <;> simp
theorem Zp8 {s:List UInt8} {i:Nat} (h:i≤s.length):Zb9 s i+(Zag s i).length≤s.length:=by
 have h1:=Zahv (s.drop (Zb9 s i));have h2:=Zn6 h;rw[List.length_drop]at h1;unfold Zag;omega
def Zem (l:List UInt8):Nat:=l.foldl (fun n c=>10 *n+(c.toNat - 48)) 0
def Zg5:List UInt8→Bool
 |[]=>false
 |c::r=>Zbo c&&decide (r.length≤2)&&(r.isEmpty|| !(c==48))
structure CP where
 pos:Nat
 rel:Nat
 err:Int
deriving DecidableEq
def CP.skip (s:List UInt8)(p:CP):CP:= { p with pos:=Zb9 s p.pos }
def CP.fail (e:Int)(p:CP):CP:=if p.err=0 then { p with err:=e }else p
def CP.adv (n:Nat)(p:CP):CP:= { p with pos:=p.pos+n }
def CP.take (s:List UInt8)(l:List ByteArray)(p:CP):List UInt8×CP:=
 let t:=Zag s p.pos
 let q:=if l.contains (bs t)then p.skip s else(p.skip s).fail 3
 if q.err=0 then(t,q.adv t.length)else([],q)
def CP.next (s t:List UInt8)(p:CP):Bool×CP:=
 if p.err=0 then(if Zag s p.pos=t then(true,(p.skip s).adv t.length)else(false,p.skip s))else(false,p)
def CP.number (s:List UInt8)(chk:Int→Int)(p:CP):Int×CP:=
 let t:=Zag s p.pos
 let q:=if Zg5 t then p.skip s else(p.skip s).fail 3
 if q.err=0 then(if chk (Zem t)=0 then((Zem t:Int),q.adv t.length)else(0,q.fail (chk (Zem t))))else(0,q)
theorem CP.fail_e {e:Int} (he:e≠0)(p:CP):(p.fail e).err≠0:=by
 unfold CP.fail
 by_cases h:p.err=0
 ·rw[if_pos h];exact he
 ·rw[if_neg h];exact h
theorem CP.take_ok {s:List UInt8} {l:List ByteArray} {p:CP} (h:l.contains (bs (Zag s p.pos))=true)(he:p.err=0):p.take s l=(Zag s p.pos,(p.skip s).adv (Zag s p.pos).length):=by
 have e:(p.skip s).err=0:=he;unfold CP.take;simp only[h,if_true,e]
theorem CP.take_no {s:List UInt8} {l:List ByteArray} {p:CP} (h:l.contains (bs (Zag s p.pos))=false):p.take s l=([],(p.skip s).fail 3):=by
 have e: ¬((p.skip s).fail 3).err=0:=CP.fail_e (by decide) _;unfold CP.take;simp only[h,Bool.false_eq_true,if_false,e]
theorem CP.take_err {s:List UInt8} {l:List ByteArray} {p:CP} (he:p.err≠0):p.take s l=([],p.skip s):=by
 have e: ¬(p.skip s).err=0:=he;have hf:(p.skip s).fail 3=p.skip s:=by unfold CP.fail;rw[if_neg e]
 unfold CP.take;simp only[hf,ite_self,e,if_false]
theorem CP.next_err {s t:List UInt8} {p:CP} (he:p.err≠0):p.next s t=(false,p):=by unfold CP.next;rw[if_neg he]
theorem CP.next_yes {s t:List UInt8} {p:CP} (he:p.err=0)(h:Zag s p.pos=t):p.next s t=(true,(p.skip s).adv t.length):=by unfold CP.next;rw[if_pos he,if_pos h]
theorem CP.next_no {s t:List UInt8} {p:CP} (he:p.err=0)(h:Zag s p.pos≠t):p.next s t=(false,p.skip s):=by unfold CP.next;rw[if_pos he,if_neg h]
def Zds (op:Int)(count:Nat)(n:Int):Int:=if Zbe op<n then 2 else if 4≤count then 6 else 0
def Zgo (op x n:Int):Int:=if Zbe op<n∨n<x then 2 else 0
def Zfh (op n:Int):Int:=if Zdf op n then 0 else 2
def CP.span (s:List UInt8)(op:Int)(count:Nat)(p:CP):(Int×Int)×CP:=
 let a:=CP.number s (Zds op count) p
 let m:=CP.next s [46,46] a.2
 if m.1 then(let b:=CP.number s (Zgo op a.1) m.2;((a.1,b.1),b.2))else((a.1,a.1),m.2)
structure RS where
 l:List Tz
 pos:Int
 e:Int
def RS.peek (E:Int)(r:RS):Tz:=r.l.headD (0,[],E)
def RS.failAt (p e:Int)(r:RS):RS:=if r.e=0 then { r with pos:=p,e:=e }else r
def RS.fail (E e:Int)(r:RS):RS:=r.failAt (r.peek E).2.2 e
def RS.drop (r:RS):RS:= { r with l:=r.l.tail }
def RS.take (E k:Int)(r:RS):List UInt8×RS:=
 let q:=if(r.peek E).1=k then r else r.fail E 3
 if q.e=0 then((r.peek E).2.1,q.drop)else([],q)
theorem RS.fail_e (E:Int) {e:Int} (he:e≠0)(r:RS):(r.fail E e).e≠0:=by
 unfold RS.fail RS.failAt
 by_cases h:r.e=0
 ·rw[if_pos h];exact he
 ·rw[if_neg h];exact h
theorem RS.take_ok {E k:Int} {r:RS} (h:(r.peek E).1=k)(he:r.e=0):r.take E k=((r.peek E).2.1,r.drop):=by
 unfold RS.take;simp only[if_pos h,if_pos he]
theorem RS.take_err {E k:Int} {r:RS} (h:(r.peek E).1=k)(he:r.e≠0):r.take E k=([],r):=by
 unfold RS.take;simp only[if_pos h,if_neg he]
theorem RS.take_no {E k:Int} {r:RS} (h:(r.peek E).1≠k):r.take E k=([],r.fail E 3):=by
 unfold RS.take;simp only[if_neg h,if_neg (RS.fail_e E (e:=3) (by decide) r)]
def RS.is (E k:Int)(s:List UInt8)(r:RS):Bool:=decide (r.e=0)&&(decide ((r.peek E).1=k)&&decide ((r.peek E).2.1=s))
def RS.mark (E:Int)(s:List UInt8)(r:RS):RS:=((if r.is E 3 s then r else r.fail E 3).take E 3).2
def RS.word (E:Int)(r:RS):List UInt8×RS:=r.take E 1
def RS.text (E:Int)(r:RS):List UInt8×RS:=r.take E 2
def RS.texts (E:Int):Nat→List ByteArray→RS→List ByteArray×RS
 |0,out,r=>(out,r)
 |n+1,out,r=>RS.texts E n (out++[bs (r.text E).1]) (r.text E).2
def RS.texts0 (E:Int)(n:Nat)(r:RS):List ByteArray×RS:=RS.texts E n [] r
def RS.one (E:Int)(l:List ByteArray)(r:RS):List UInt8×RS:=
 (if decide ((r.peek E).1=1)&& !l.contains (bs (r.peek E).2.1)then r.fail E 10 else r).word E
def RS.once (at_:Int)(b:Bool)(r:RS):RS:=if b then r.failAt at_ 9 else r
def Zgr (t:Tz):Value:= .agg #[.int .i64 t.1,.string (bs t.2.1),.int .i64 t.2.2]
def Rd (w:World)(b:Nat)(E:Int)(r:RS):Prop:=
 ∃ad c tb off,Cel w b 67 [.slice ad r.l.length c,.int .i64 E,.int .i64 r.pos,.int .i64 r.e]∧TzAt w ad r.l.length r.l tb off∧(r.l≠[]→tb<b)∧r.l.length≤c∧c≤9223372036854775807∧∀t∈r.l,t.2.1.length≤200000
theorem TzAt.same {w w':World} {ad:Option Addr} {n:Nat} {xs:List Tz} {b off:Nat} (h:TzAt w ad n xs b off)(hs:n≠0→w'.heap[b]? =w.heap[b]?):TzAt w' ad n xs b off:=
 ⟨h.len,h.max,h.adr,fun i hi=>(World.cell?_of_block (hs (by omega))).trans (h.c0 i hi),fun i hi=>(World.cell?_of_block (hs (by omega))).trans (h.c1 i hi),fun i hi=>(World.cell?_of_block (hs (by omega))).trans (h.c2 i hi)⟩
theorem Rd.lt {w:World} {b:Nat} {E:Int} {r:RS} (h:Rd w b E r):b<w.heap.size:=by
 obtain⟨_,_,_,_,h1,_⟩:=h;exact h1.lt
theorem Rd.kp {w w':World} {b:Nat} {E:Int} {r:RS} (h:Rd w b E r) {P:Nat→Bool} (k:Kp P w w')(hp:∀i,i≤b→P i=false):Rd w' b E r:=by
 obtain⟨ad,c,tb,off,h1,h2,h3,h4,h5,h6⟩:=h;refine⟨ad,c,tb,off,h1.kp k (hp b (le_refl _)),h2.same fun hn=>k.block tb ?_ (hp tb ?_),h3,h4,h5,h6⟩
 ·have:=h3 (fun e=>hn (by rw[e];rfl));have:=h1.lt;omega
 ·have:=h3 (fun e=>hn (by rw[e];rfl));omega
theorem Rd.below {w w':World} {b:Nat} {E:Int} {r:RS} (h:Rd w b E r)(k:Below w.heap.size w w'):Rd w' b E r:=h.kp (P:=fun _=>false) (Za4 k) (fun _ _=>rfl)
theorem Zaly:prog.cellsOf 109=3:=by kernel_rfl
theorem TzAt.first {w:World} {ad:Option Addr} {t:Tz} {l:List Tz} {b off:Nat} (h:TzAt w ad (l.length+1) (t::l) b off)(c:Nat):
  ad=some ⟨b,off,none⟩∧(∀W,(Instr.indexAt 62 (.slice (some ⟨b,off,none⟩) (l.length+1) c) (.int .i64 0)).run prog W= .ok (.pointer (some ⟨b,off,none⟩)) W)∧w.cell? ⟨b,off,none⟩=some (.int .i64 t.1)∧w.cell? ⟨b,off+1,none⟩=some (.string (bs t.2.1))∧w.cell? ⟨b,off+2,none⟩=some (.int .i64 t.2.2):=by
 have h2:=h.adr (by omega);subst h2;have k0:=h.c0 0 (by omega);have k1:=h.c1 0 (by omega);have k2:=h.c2 0 (by omega);rw[Nat.zero_mul,Nat.add_zero]at k0 k1 k2;exact⟨rfl,fun W=>by simpa using h.ixT 62 109 underlying62 Zaly (i:=0) (by omega) c W,k0,k1,k2⟩
theorem Ze7 (b:Nat)(E:Int)(r:RS)(w:World)(h:Rd w b E r):Calls prog 55 #[.pointer (some ⟨b,0,none⟩)] w fun e w'=>e= .returned (Zgr (r.peek E))∧Below w.heap.size w w':=by
 obtain⟨ad,c,tb,off,hc,ht,_,_,_,_⟩:=h;have hb:=hc.lt;have c0:=hc.cell 0;have c1:=hc.cell 1;obtain⟨l,p,e⟩:=r;simp only[Le0,Le1]at c0 c1;cases l with
 |nil=>
  clear hc ht
  go_enter func55,ntmps55
  go_wp2_with fail
  refine bodyPost_ret (results_cell_row rfl _ _ w.heap.size 109 _ (0,0) _ rfl (heap_alloc_new w _) underlying109 rfl (by kernel_rfl)) rfl ?_;exact⟨rfl,Bel.alloc (Bel.refl w) _⟩
 |cons t l=>
  obtain⟨rfl,Ci,k0,k1,k2⟩:=ht.first c;have Aa:tb<w.heap.size:=World.block_lt_of_cell? _ _ k0;have D0: ¬((l.length:Int)+1)=0:=by omega
  rw[List.length_cons]at c0;clear hc ht;show Calls _ _ _ _ fun e w'=>e= .returned (Zgr t)∧_;unfold Zgr;obtain⟨k,s,f⟩:=t;simp only at k0 k1 k2⊢;generalize bs s=S at *
  go_enter func55,ntmps55
  go_wp2_with fail
  refine bodyPost_ret (results_cell_row rfl _ _ w.heap.size 109 _ (0,0) _ rfl (heap_alloc_new w _) underlying109 rfl (by kernel_rfl)) rfl ?_;exact⟨rfl,Bel.alloc (Bel.refl w) _⟩
theorem Rd.cells {w:World} {b:Nat} {E:Int} {r:RS} (h:Rd w b E r):w.cell? ⟨b,2,none⟩=some (.int .i64 r.pos)∧w.cell? ⟨b,3,none⟩=some (.int .i64 r.e)∧w.frozen? ⟨b,2,none⟩=false∧w.frozen? ⟨b,3,none⟩=false∧w.frozen? ⟨b,0,none⟩=false:=by
 obtain⟨_,_,_,_,h1,_⟩:=h;exact⟨h1.cell 2,h1.cell 3,h1.frz 2,h1.frz 3,h1.frz 0⟩
theorem Rd.err {w:World} {b:Nat} {E:Int} {r:RS} (h:Rd w b E r)(p e:Int):Rd ((w.setCell ⟨b,2,none⟩ (.int .i64 p)).setCell ⟨b,3,none⟩ (.int .i64 e)) b E { r with pos:=p,e:=e } :=by
 obtain⟨ad,c,tb,off,h1,h2,h3,h4,h5,h6⟩:=h;refine⟨ad,c,tb,off,(h1.set 2 _).set 3 _,h2.same fun hn=>?_,h3,h4,h5,h6⟩;have:=h3 (fun e=>hn (by rw[e];rfl));rw[Below.heap_setCell _ _ _ _ (by show tb≠b;omega),Below.heap_setCell _ _ _ _ (by show tb≠b;omega)]
def RdP (b:Nat)(E:Int)(v:Value)(r:RS)(w:World)(e:Ending)(w':World):Prop:=e= .returned v∧Rd w' b E r∧Kp (Zaf b) w w'
theorem Zdu (b:Nat)(E:Int)(r:RS)(p e:Int)(w:World)(h:Rd w b E r):Calls prog 59 #[.pointer (some ⟨b,0,none⟩),.int .i64 p,.int .i64 e] w (RdP b E (.tuple #[]) (r.failAt p e) w):=by
 obtain⟨c2,c3,f2,f3,_⟩:=h.cells;have hb:=h.lt;have HR:=Hd h;unfold RdP RS.failAt
 by_cases he:r.e=0
 ·rw[if_pos he];have hz:(r.e==0)=true:=by simpa using he
  have HE:=Hd (h.err p e);have HK:Hid (Kp (Zaf b) w ((w.setCell ⟨b,2,none⟩ (.int .i64 p)).setCell ⟨b,3,none⟩ (.int .i64 e))):=((Kp.refl _ w).set (p:=⟨b,2,none⟩) (Za8 b) _).set (p:=⟨b,3,none⟩) (Za8 b) _;rw[he]at c3;clear h he hz
  go_enter func59,ntmps59
  go_wp2_with fail
  go_end0;exact⟨rfl,HE.out,HK.out⟩
 ·rw[if_neg he];have hz:(r.e==0)=false:=by simpa using he
  clear h
  go_enter func59,ntmps59
  go_wp2_with fail
  go_end0;exact⟨rfl,HR.out,Kp.refl _ _⟩
theorem Zfo (b:Nat)(E:Int)(r:RS)(e:Int)(w:World)(h:Rd w b E r):Calls prog 62 #[.pointer (some ⟨b,0,none⟩),.int .i64 e] w (RdP b E (.tuple #[]) (r.fail E e) w):=by
 have HP:=Hd (Ze7 b E r w h);have HF:=Hd (fun W (g:Rd W b E r)=>Zdu b E r (r.peek E).2.2 e W g);have HR:=Hd h;unfold RdP at HF⊢;unfold RS.fail;clear h;unfold Zgr at HP;generalize r.peek E=t at *;obtain⟨k,s,f⟩:=t;simp only at HP HF⊢;generalize bs s=S at *;have Da:∀W:World,(Instr.field 109 (.agg #[.int .i64 k,.string S,.int .i64 f]) 2).run prog W= .ok (.int .i64 f) W:=fun _=>by kernel_rfl
 go_enter func62,ntmps62
 go_wp2_with fail
 refine HP.out.mono ?_;rintro _ w1 ⟨rfl,hb⟩;have HB:=Hd hb;clear hb
 go_wp2_with fail
 refine(HF.out _ (HR.out.below HB.out)).mono ?_;rintro _ w2 ⟨rfl,hr,hk⟩;have Ar:=Hd hr;have A6:=Hd ((Za4 HB.out).trans hk);clear hr hk
 go_wp2_with fail
 go_end0;exact⟨rfl,Ar.out,A6.out⟩
theorem Rd.dropped {w:World} {b:Nat} {E:Int} {r:RS} (h:Rd w b E r)(Az:r.l≠[]):∃tb off l c,w.cell? ⟨b,0,none⟩=some (.slice (some ⟨tb,off,none⟩) (l+1) c)∧l+1≤c∧c≤9223372036854775807∧
  ∀o c',(l≠0→o=off+3)→l≤c'→c'≤9223372036854775807→Rd (w.setCell ⟨b,0,none⟩ (.slice (some ⟨tb,o,none⟩) l c')) b E r.drop:=by
 obtain⟨ad,c,tb,off,h1,h2,h3,h4,h5,h6⟩:=h;obtain⟨l,p,e⟩:=r;cases l with
 |nil=>exact absurd rfl Az
 |cons t l=>
  have c0:=h1.cell 0;obtain rfl:=h2.adr (by simp);refine⟨tb,off,l.length,c,c0,h4,h5,fun o c' ho Gy Fz=>?_⟩;have fN:=h1.set 0 (.slice (some ⟨tb,o,none⟩) l.length c');have cQ:=h3 (by simp);have hl:=h2.max;rw[List.length_cons]at hl h4;show Rd _ b E ⟨l,p,e⟩;have Ga:=fun i=>World.cell?_of_block (a:=⟨tb,i,none⟩) (Below.heap_setCell w ⟨b,0,none⟩ (.slice (some ⟨tb,o,none⟩) l.length c') tb (by show tb≠b;omega));have key:∀i j,off+(i+1)*3+j=off+3+i *3+j:=fun i j=>by omega
  refine⟨_,c',tb,o,fN,⟨rfl,by show l.length≤_;omega,fun _=>rfl,fun i hi=>?_,fun i hi=>?_,fun i hi=>?_⟩,fun _=>cQ,Gy,Fz,fun x hx=>h6 x (List.mem_cons_of_mem _ hx)⟩
  ·have:=h2.c0 (i+1) (Nat.succ_lt_succ hi);rw[show off+(i+1)*3=off+3+i *3 by omega]at this;have Lo:i<l.length:=hi;obtain rfl:o=off+3:=ho (by omega);exact(Ga _).trans this
  ·have:=h2.c1 (i+1) (Nat.succ_lt_succ hi);rw[key]at this;have Lo:i<l.length:=hi;obtain rfl:o=off+3:=ho (by omega);exact(Ga _).trans this
  ·have:=h2.c2 (i+1) (Nat.succ_lt_succ hi);rw[key]at this;have Lo:i<l.length:=hi;obtain rfl:o=off+3:=ho (by omega);exact(Ga _).trans this
theorem Znf (b:Nat)(E k:Int)(hk:k≠0)(r:RS)(w:World)(h:Rd w b E r):Calls prog 118 #[.pointer (some ⟨b,0,none⟩),.int .i64 k] w (RdP b E (.string (bs (r.take E k).1)) (r.take E k).2 w):=by
 have HP:=Hd (Ze7 b E r w h);have HF:=Hd (fun W (g:Rd W b E r)=>Zfo b E r 3 W g);have HR:=Hd h;have Bj:Hid ((r.peek E).1=k→r.l≠[]):=fun e hn=>by
  unfold RS.peek at e;rw[hn]at e;exact hk e.symm
 have C6:=Hd (@RS.take_ok E k r);have Ef:=Hd (@RS.take_err E k r);have Cj:=Hd (@RS.take_no E k r);unfold RdP at HF⊢;clear h;unfold Zgr at HP;generalize r.take E k=res at *;generalize r.peek E=t at *;obtain⟨k',s,f⟩:=t;simp only at HP Bj C6 Ef Cj;obtain⟨rv,rr⟩:=res;simp only
 go_enter func118,ntmps118
 go_wp2_with fail
 refine HP.out.mono ?_;rintro _ w1 ⟨rfl,hb⟩;have HB:=Hd hb;have As:=Hd (HR.out.below hb);clear hb HR HP
 go_upto_region 2 with(fail)
 have A6:Hid (Kp (Zaf b) w (w1.alloc (.cells #[.int .i64 k',.string (bs s),.int .i64 f] 109))):=Za4 (HB.out.alloc HB.out.size _);have Ar:=Hd (As.out.below (Bel.alloc (Bel.refl w1) (.cells #[.int .i64 k',.string (bs s),.int .i64 f] 109)));have HX:Hid (Cel (w1.alloc (.cells #[.int .i64 k',.string (bs s),.int .i64 f] 109)) w1.heap.size 109 [.int .i64 k',.string (bs s),.int .i64 f]):=Cel.new w1 _ _;have Po:b<w1.heap.size:=As.out.lt;generalize w1.alloc (.cells #[.int .i64 k',.string (bs s),.int .i64 f] 109)=w2 at *;obtain⟨B,hB⟩:∃B,w1.heap.size=B:=⟨_,rfl⟩;rw[hB]at HX Po⊢;clear hB HB As;have x0:=HX.out.cell 0;simp only[Le0]at x0
 by_cases M3:k'=k
 ·subst M3;have Az:=Bj.out rfl;obtain⟨c2,c3,f2,f3,f0⟩:=Ar.out.cells;obtain⟨tb,off,l,c,c0,cR,vV,fO⟩:=Ar.out.dropped Az;have x1:=HX.out.cell 1;simp only[Le0,Le1]at x1
  by_cases he:r.e=0
  ·have h1:=C6.out rfl he;injection h1 with h1 h2;have H1:Hid (bs s=bs rv):=by rw[Hid,h1]
   have H2:=Hd h2;have hz:(r.e==0)=true:=by simpa using he
   rw[he]at c3;have mX:=Hd fO;clear fO Az Bj HF h1 h2 C6 Ef Cj he hz;generalize bs s=S at *
   by_cases Gy:c=1
   ·obtain rfl:l=0:=by omega
    subst Gy
    go_wp2_with fail
    all_goals
     go_ret;exact⟨by rw[←H1.out];rfl,by rw[H2.out];exact mX.out _ _ (by omega) (by omega) (by omega),A6.out.set (p:=⟨b,0,none⟩) (Za8 b) _⟩
   ·go_wp2_with fail
    all_goals
     go_ret;exact⟨by rw[←H1.out];rfl,by rw[H2.out];exact mX.out _ _ (by omega) (by omega) (by omega),A6.out.set (p:=⟨b,0,none⟩) (Za8 b) _⟩
  ·have h1:=Ef.out rfl he;injection h1 with h1 h2;have H1:Hid (bs rv= .empty):=by rw[Hid,h1];rfl
   have H2:=Hd h2;have hz:(r.e==0)=false:=by simpa using he
   clear fO Az Bj HF h1 h2 C6 Ef Cj;generalize bs s=S at *
   go_wp2_with fail
   go_ret;exact⟨by rw[H1.out];rfl,by rw[H2.out];exact Ar.out,A6.out⟩
 ·have h1:=Cj.out M3;injection h1 with h1 h2;have H1:Hid (bs rv= .empty):=by rw[Hid,h1];rfl
  have H2:=Hd h2;have hz:(k'==k)=false:=by simpa using M3
  have fP:Hid (rr.e≠0):=by rw[Hid,h2];exact RS.fail_e E (by decide) r
  rw[←h2]at HF;clear Bj h1 h2 C6 Ef Cj;generalize bs s=S at *
  go_wp2_with fail
  refine(HF.out _ Ar.out).mono ?_;rintro _ w3 ⟨rfl,E0,Cv⟩;have Aq:=Hd E0;have An:=Hd (A6.out.trans Cv);obtain⟨c2,c3,f2,f3,f0⟩:=Aq.out.cells;have M4:(rr.e==0)=false:=by simpa using fP.out
  clear E0 Cv
  go_wp2_with fail
  go_ret;exact⟨by rw[H1.out];rfl,Aq.out,An.out⟩
theorem RowsOf.get {α:Type} {C:World→(Nat→Value)→α→Prop} {w:World} {l:List α} {f:Nat→Nat→Value} (h:∀i x,l[i]? =some x→C w (f i) x) {i:Nat} (hi:i<l.length)(d:α):C w (f i) (l.getD i d):=
 h i _ (by rw[List.getElem?_eq_getElem hi];simp[List.getD,List.getElem?_eq_getElem hi])
theorem Zsi {α:Type} {q:α→Bool} {l:List α} (d:α)(h:∀i,i<l.length→q (l.getD i d)=true):l.all q=true:=by
 rw[List.all_eq_true];intro x hx;obtain⟨i,hi,rfl⟩:=List.getElem_of_mem hx;have:=h i hi
 rwa [show l.getD i d=l[i]from by simp[List.getD,List.getElem?_eq_getElem hi]]at this
theorem Zw6 {α:Type} {q:α→Bool} {l:List α} (d:α) {i:Nat} (hi:i<l.length)(h:q (l.getD i d)=false):l.all q=false:=by
 rw[←Bool.not_eq_true,List.all_eq_true];intro hc;rw[hc _ (Znl l i d hi)]at h;cases h
theorem Zqk {c:List (List Rel)} {k:Nat} (hk:k<c.length):Zbf (c.take (k+1))=Zbf (c.take k)+(c.getD k []).length:=
 Zy7 (by simp[List.getD,List.getElem?_eq_getElem hk])
theorem Zzc {c:List (List Rel)} {k:Nat} (hk:k<c.length)(h:Zc0 (c.getD k [])=false):Zbw c=false:=by
 unfold Zbw;rw[Zw6 [] hk h];rfl
theorem Zx6 {c:List (List Rel)} (h:∀i,i<c.length→Zc0 (c.getD i [])=true):Zbw c=(decide (0<c.length)&&decide (Zbf c≤6)):=by
 unfold Zbw;rw[Zsi [] h];cases c <;> simp
theorem Zm7 {P:Program} {c:Code} {Q:Exit→Act→World→Prop} {a:Act} {w:World} (h:∀W,W=w→c.wp P Q a W):c.wp P Q a w:=h w rfl
theorem Zlk (op:Int)(w:World):Calls prog 253 #[.int .i64 op] w fun e w'=>e= .returned (.int .i64 (Zbe op))∧w=w':=by
 by_cases h3:op=3
 ·subst h3
  go_enter func253,ntmps253
  go_wp2_with fail
  go_ret;exact⟨rfl,rfl⟩
 ·by_cases h4:op=4
  ·subst h4
   go_enter func253,ntmps253
   go_wp2_with fail
   go_ret;exact⟨rfl,rfl⟩
  ·have HO:Hid (Zbe op=100):=by unfold Hid Zbe;rw[if_neg (by omega)]
   have e3:(op==3)=false:=by simpa using h3
   have e4:(op==4)=false:=by simpa using h4
   clear h3 h4
   go_enter func253,ntmps253
   go_wp2_with fail
   go_ret;exact⟨Zbi HO.out.symm,rfl⟩
def modsL:List Int:=[2,3,4,5,6,10,20,25,50,100]
theorem Zjh (w:World)(l:List Value)(e:TypeId)(hl:l.length≤9223372036854775807):Sl (w.alloc (.cells l.toArray e)) (some ⟨w.heap.size,0,none⟩) l.length l:=
 ⟨w.heap.size,0,rfl,hl,fun _=>rfl,fun i hi=>by simp[go_sem,List.getD,List.getElem?_eq_getElem hi]⟩
theorem Zs0 (op md:Int)(w:World):Calls prog 252 #[.int .i64 op,.int .i64 md] w fun e w'=>e= .returned (.bool (Zdf op md))∧Below w.heap.size w w':=by
 by_cases Mk:op=1∨op=2
 ·have HO:Hid (Zdf op md=modsL.contains md):=by unfold Hid Zdf;rw[if_pos Mk];rfl
  have HC:Hid (∀e,Calls prog 294 #[.slice (some ⟨w.heap.size,0,none⟩) 10 10,.int .i64 md] (w.alloc (.cells #[.int .i64 2,.int .i64 3,.int .i64 4,.int .i64 5,.int .i64 6,.int .i64 10,.int .i64 20,.int .i64 25,.int .i64 50,.int .i64 100] e)) fun e' w'=>e'= .returned (.bool (modsL.contains md))∧w.alloc (.cells #[.int .i64 2,.int .i64 3,.int .i64 4,.int .i64 5,.int .i64 6,.int .i64 10,.int .i64 20,.int .i64 25,.int .i64 50,.int .i64 100] e)=w'):=fun e=>Ztc _ 10 10 modsL md _ (Zjh w (Znh modsL) e (by decide));generalize modsL.contains md=q at *;rcases Mk with h|h
  all_goals
   subst h
   go_enter func252,ntmps252
   go_wp2_with (go_at_call 294;refine(HC.out _).mono ?_;rintro e _ ⟨rfl,rfl⟩)
   go_ret;exact⟨by rw[HO.out];rfl,(Below.refl _ _).alloc (le_refl _) _⟩
 ·by_cases Wg:op=5∨op=6
  ·have HO:Hid (Zdf op md=(md==10||md==100)):=by
    unfold Hid Zdf;rw[if_neg Mk,if_pos Wg];rw[Bool.eq_iff_iff];simp
   cases Is:(md==10)
   all_goals
    cases fQ:(md==100)
    all_goals
     rw[Hid,Is,fQ]at HO;have HO:=Hd HO;rcases Wg with h|h
     all_goals
      subst h
      go_enter func252,ntmps252
      go_wp2_with fail
      go_ret;exact⟨by rw[HO.out];rfl,Below.refl _ _⟩
  ·have HO:Hid (Zdf op md=false):=by unfold Hid Zdf;rw[if_neg Mk,if_neg Wg]
   have e1:(op==1)=false:=by simpa using fun h=>Mk (.inl h)
   have e2:(op==2)=false:=by simpa using fun h=>Mk (.inr h)
   have e5:(op==5)=false:=by simpa using fun h=>Wg (.inl h)
   have e6:(op==6)=false:=by simpa using fun h=>Wg (.inr h)
   clear Mk Wg
   go_enter func252,ntmps252
   go_wp2_with fail
   go_ret;exact⟨by rw[HO.out];rfl,Below.refl _ _⟩
def classL:List ByteArray:=[bs [122,101,114,111],bs [111,110,101],bs [116,119,111],bs [102,101,119],bs [109,97,110,121]]
end Go.Proofs.YtmleeodfmmpdgaaGreatDoor
