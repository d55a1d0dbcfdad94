/- part -/
import Derived.Test.YtmleeodfmmpdgaaGreatDoorQ05
set_option maxRecDepth 20000
set_option maxHeartbeats 4000000
namespace Go.Proofs.YtmleeodfmmpdgaaGreatDoor
open Go.RowKit
attribute [local go_sem] Ext.cell Ext.frozen
attribute [local go_sem ↓] Go.wp_at_zero Go.wp_at_succ
open _root_.List (length_append length_cons length_take)
open _root_.Nat (le_refl zero_le)
open _root_.Go.Proofs.Tryz
def Zhd:List UInt8:=[92,34,61,58,35,33,123,125,32]
def rbV:List UInt8→List UInt8×Nat
 |_::c::r=>
  if c=110 then([10],2)else if c=114 then([13],2)else if c=116 then([9],2)
  else if c=120 then(if 2≤r.length then(match Zeu (r.take 2)with|some n=>if n≤127 then([UInt8.ofNat n],4)else([],0)|none=>([],0))else([],0))
  else if c=117 then(if 4≤r.length then(match Zeu (r.take 4)with|some n=>if Zcb n then(Zja n,6)else([],0)|none=>([],0))else([],0))
  else if c∈Zhd then([c],2)else([],0)
 |_=>([],0)
theorem Zx2 (c:UInt8):(c∈Zhd∧0≤Lib.indexByte Zhd ((c.toNat:Int).toNat.toUInt8))∨(c∉Zhd∧Lib.indexByte Zhd ((c.toNat:Int).toNat.toUInt8)= -1):=by
 have k:∀f:Fin 256,((UInt8.ofNat f.1)∈Zhd∧0≤Lib.indexByte Zhd (((UInt8.ofNat f.1).toNat:Int).toNat.toUInt8))∨((UInt8.ofNat f.1)∉Zhd∧Lib.indexByte Zhd (((UInt8.ofNat f.1).toNat:Int).toNat.toUInt8)= -1):=by decide+kernel
 have e:UInt8.ofNat c.toNat=c:=by simp
 have:=k ⟨c.toNat,c.toNat_lt⟩
 simpa only[e]using this
theorem Zjp:∀(l:List UInt8) (m n:Nat),l.foldl Zit (some m)=some n→n<(m+1)*16^l.length
 |[],m,n,h=>by
  injection h with h;simp;omega
 |c::l,m,n,h=>by
  cases hc:Zi9 c with
  |none=>rw[List.foldl_cons,Zos hc,Zic]at h;cases h
  |some d=>
   have hd:d<16:=by
    rcases Zqg c with⟨h1,_,_⟩|⟨e,h1,h2,_,_⟩|⟨e,h1,h2,_⟩
    ·rw[hc]at h1;cases h1
    ·rw[hc]at h2;injection h2 with h2;omega
    ·rw[hc]at h2;injection h2 with h2;omega
   rw[List.foldl_cons,Zk1 hc]at h;have:=Zjp l _ n h;rw[length_cons,Nat.pow_succ,Nat.mul_comm (16^l.length) 16,←Nat.mul_assoc];exact Nat.lt_of_lt_of_le this (Nat.mul_le_mul_right _ (by omega))
theorem Zwd {l:List UInt8} {n:Nat} (h:Zeu l=some n):n<16^l.length:=by
 have:=Zjp l 0 n h
 simpa using this
theorem Zvm (l:List UInt8):(rbV l).1.length≤3∧(rbV l).2≤l.length∧(rbV l).1.length≤(rbV l).2:=by
 match l with
 |[]=>exact⟨by decide,by decide,by decide⟩
 |[a]=>exact⟨by simp[rbV],by simp[rbV],by simp[rbV]⟩
 |a::c::r=>
  simp only[rbV];have:=Zsu
  repeat' split
  all_goals simp only[length_cons,List.length_nil]
  all_goals first|(refine⟨?_,?_,?_⟩<;> omega)|(rename_i n _ _;have:=Zsu n;refine⟨?_,?_,?_⟩<;> omega)
def RbP (x:List UInt8×Nat)(w:World)(e:Ending)(w':World):Prop:=e= .returned (.tuple #[.string (bs x.1),.int .i64 (x.2:Int)])∧Below w.heap.size w w'
theorem Zzr (l:List UInt8)(h:l.length<2)(w:World):Calls prog 265 #[.string (bs l)] w (RbP (rbV l) w):=by
 have e:rbV l=([],0):=by
  match l,h with
  |[],_=>rfl
  |[_],_=>rfl
  |_::_::_,h=>simp at h;omega
 have hs:((bs l).size:Int)<2:=by rw[Za5];omega
 rw[e];generalize bs l=D at *
 go_enter func265,ntmps265
 go_wp2_with fail
 go_ret2
 exact⟨rfl,Below.refl _ _⟩
theorem Zk6 (a:UInt8)(c:UInt8)(r:List UInt8)(hr:r.length≤200000)(h:c=110∨c=114∨c=116)(w:World):
  Calls prog 265 #[.string (bs (a::c::r))] w (RbP (rbV (a::c::r)) w):=by
 have Am:(bs (a::c::r)).size=r.length+2:=by rw[Za5];simp
 have hs: ¬((bs (a::c::r)).size:Int)<2:=by omega
 have Em:(bs (a::c::r)).size≤1000000:=by omega
 have hb:1<(bs (a::c::r)).size:=by omega
 have hx:∀g:1<(bs (a::c::r)).size,(bs (a::c::r))[1]'g=c:=fun _=>rfl;have Hi:Hid ((c=110→rbV (a::c::r)=([10],2))∧(c=114→rbV (a::c::r)=([13],2))∧(c=116→rbV (a::c::r)=([9],2))):=
  ⟨fun e=>by subst e;rfl,fun e=>by subst e;rfl,fun e=>by subst e;rfl⟩
 generalize rbV (a::c::r)=RB at *;rcases h with h|h|h
 all_goals
  subst h;obtain⟨r1,r2,r3⟩:=Hi.out
  first|(have e:=r1 rfl)|(have e:=r2 rfl)|(have e:=r3 rfl)
  subst e;clear Hi r1 r2 r3 Am;generalize bs (_::_::r)=D at *
  go_enter func265,ntmps265
  go_wp2_with fail
  go_ret2
  exact⟨rfl,Below.refl _ _⟩
theorem Zaee (a:UInt8)(c:UInt8)(r:List UInt8)(hr:r.length≤200000)(Pf:c≠110)(Pg:c≠114)(Ph:c≠116)(Pi:c≠120)(Pj:c≠117)(w:World):
  Calls prog 265 #[.string (bs (a::c::r))] w (RbP (rbV (a::c::r)) w):=by
 have Am:(bs (a::c::r)).size=r.length+2:=by rw[Za5];simp
 have hs: ¬((bs (a::c::r)).size:Int)<2:=by omega
 have Em:(bs (a::c::r)).size≤1000000:=by omega
 have hb:1<(bs (a::c::r)).size:=by omega
 have hx:∀g:1<(bs (a::c::r)).size,(bs (a::c::r))[1]'g=c:=fun _=>rfl;have n110:((c.toNat:Int)==110)=false:=neU Pf;have n114:((c.toNat:Int)==114)=false:=neU Pg;have n116:((c.toNat:Int)==116)=false:=neU Ph;have n120:((c.toNat:Int)==120)=false:=neU Pi;have n117:((c.toNat:Int)==117)=false:=neU Pj;have Fm:=Hd (fun w=>Tryz.strings_IndexByte ⟨#[92,34,61,58,35,33,123,125,32]⟩ (c.toNat:Int) w);have hcut:(bs (a::c::r)).extract 1 2=bs [c]:=by rw[Zdz];rfl
 have Ag:2≤(bs (a::c::r)).size:=by omega
 have Dt:rbV (a::c::r)=if c∈Zhd then([c],2)else([],0):=by
  show(if c=110 then _ else _)=_;rw[if_neg Pf,if_neg Pg,if_neg Ph,if_neg Pi,if_neg Pj]
 rcases Zx2 c with⟨h1,h2⟩|⟨h1,h2⟩
 ·rw[if_pos h1]at Dt;rw[Dt];replace h2:0≤Lib.indexByte (⟨#[92,34,61,58,35,33,123,125,32]⟩:ByteArray).data.toList ((c.toNat:Int).toNat.toUInt8):=h2;generalize Lib.indexByte (⟨#[92,34,61,58,35,33,123,125,32]⟩:ByteArray).data.toList ((c.toNat:Int).toNat.toUInt8)=ix at *;clear Am Dt h1 Pf Pg Ph Pi Pj;generalize bs (a::c::r)=D at *
  go_enter func265,ntmps265
  go_wp2_with fail
  refine(Fm.out _).mono ?_;rintro e _ ⟨rfl,rfl⟩
  go_wp2_with fail
  go_ret2
  exact⟨rfl,Below.refl _ _⟩
 ·rw[if_neg h1]at Dt;rw[Dt];replace h2:Lib.indexByte (⟨#[92,34,61,58,35,33,123,125,32]⟩:ByteArray).data.toList ((c.toNat:Int).toNat.toUInt8)= -1:=h2;rw[h2]at Fm;clear Am Dt h1 h2 hcut Pf Pg Ph Pi Pj;generalize bs (a::c::r)=D at *
  go_enter func265,ntmps265
  go_wp2_with fail
  refine(Fm.out _).mono ?_;rintro e _ ⟨rfl,rfl⟩
  go_wp2_with fail
  go_ret2
  exact⟨rfl,Below.refl _ _⟩
theorem Zalr (a:UInt8)(r:List UInt8)(hr:r.length≤200000)(w:World):
  Calls prog 265 #[.string (bs (a::120::r))] w (RbP (rbV (a::120::r)) w):=by
 have Am:(bs (a::120::r)).size=r.length+2:=by rw[Za5];simp
 have hs: ¬((bs (a::120::r)).size:Int)<2:=by omega
 have Em:(bs (a::120::r)).size≤1000000:=by omega
 have hb:1<(bs (a::120::r)).size:=by omega
 have hx:∀g:1<(bs (a::120::r)).size,(bs (a::120::r))[1]'g=120:=fun _=>rfl
 by_cases hl:2≤r.length
 ·have h4:(4:Int)≤((bs (a::120::r)).size:Int):=by omega
  have qC:4≤(bs (a::120::r)).size:=by omega
  have hcut:(bs (a::120::r)).extract 2 4=bs (r.take 2):=by rw[Zdz];rfl
  have Ah:(r.take 2).length=2:=by rw[length_take];omega
  have Gu:=Hd (fun w=>Zp2 (r.take 2) (by omega) w);have Az:(r.take 2).isEmpty=false:=by
   cases h:r.take 2 with
   |nil=>rw[h]at Ah;cases Ah
   |cons _ _=>rfl
  rw[Az]at Gu;cases hn:Zeu (r.take 2)with
  |none=>
   have Dt:rbV (a::120::r)=([],0):=by
    show(if 2≤r.length then _ else _)=_;rw[if_pos hl,hn]
   rw[Dt];rw[hn]at Gu;clear hn Dt Am Ah Az;generalize bs (a::120::r)=D at *;generalize bs (r.take 2)=U at *
   go_enter func265,ntmps265
   go_wp2_with fail
   refine(Gu.out _).mono ?_;rintro e _ ⟨rfl,rfl⟩
   go_wp2_with fail
   go_ret2
   exact⟨rfl,Below.refl _ _⟩
  |some n=>
   have Aa:=Zwd hn;rw[Ah]at Aa;rw[hn]at Gu;replace Gu:Hid (∀w,Calls prog 303 #[.string (bs (r.take 2)),.int .i64 16] w fun e w'=>e= .returned (.tuple #[.int .i64 (n:Int),.bool true])∧w=w'):=Gu
   by_cases h7:n≤127
   ·have qD:(n:Int)≤127:=by omega
    have Dt:rbV (a::120::r)=([UInt8.ofNat n],4):=by
     show(if 2≤r.length then _ else _)=_;rw[if_pos hl,hn];show(if n≤127 then _ else _)=_;rw[if_pos h7]
    rw[Dt];have vL:=Zxo (n:Int) (UInt8.ofNat n) (by rw[UInt8.toNat_ofNat_of_lt' (by omega)]);clear hn Dt Am Ah Az Aa;generalize bs (a::120::r)=D at *;generalize bs (r.take 2)=U at *
    go_enter func265,ntmps265
    go_wp2_with fail
    refine(Gu.out _).mono ?_;rintro e _ ⟨rfl,rfl⟩
    go_wp2_with fail
    go_ret2
    exact⟨rfl,(Below.refl _ _).alloc (le_refl _) _⟩
   ·have qD: ¬(n:Int)≤127:=by omega
    have Dt:rbV (a::120::r)=([],0):=by
     show(if 2≤r.length then _ else _)=_;rw[if_pos hl,hn];show(if n≤127 then _ else _)=_;rw[if_neg h7]
    rw[Dt];clear hn Dt Am Ah Az Aa;generalize bs (a::120::r)=D at *;generalize bs (r.take 2)=U at *
    go_enter func265,ntmps265
    go_wp2_with fail
    refine(Gu.out _).mono ?_;rintro e _ ⟨rfl,rfl⟩
    go_wp2_with fail
    go_ret2
    exact⟨rfl,Below.refl _ _⟩
 ·have h4: ¬(4:Int)≤((bs (a::120::r)).size:Int):=by omega
  have Dt:rbV (a::120::r)=([],0):=by
   show(if 2≤r.length then _ else _)=_;rw[if_neg hl]
  rw[Dt];clear Dt Am hl;generalize bs (a::120::r)=D at *
  go_enter func265,ntmps265
  go_wp2_with fail
  go_ret2
  exact⟨rfl,Below.refl _ _⟩
theorem Zaln (a:UInt8)(r:List UInt8)(hr:r.length≤200000)(w:World):
  Calls prog 265 #[.string (bs (a::117::r))] w (RbP (rbV (a::117::r)) w):=by
 have Am:(bs (a::117::r)).size=r.length+2:=by rw[Za5];simp
 have hs: ¬((bs (a::117::r)).size:Int)<2:=by omega
 have Em:(bs (a::117::r)).size≤1000000:=by omega
 have hb:1<(bs (a::117::r)).size:=by omega
 have hx:∀g:1<(bs (a::117::r)).size,(bs (a::117::r))[1]'g=117:=fun _=>rfl
 by_cases hl:4≤r.length
 ·have h4:(6:Int)≤((bs (a::117::r)).size:Int):=by omega
  have qC:6≤(bs (a::117::r)).size:=by omega
  have hcut:(bs (a::117::r)).extract 2 6=bs (r.take 4):=by rw[Zdz];rfl
  have Ah:(r.take 4).length=4:=by rw[length_take];omega
  have Gu:=Hd (fun w=>Zp2 (r.take 4) (by omega) w);have Az:(r.take 4).isEmpty=false:=by
   cases h:r.take 4 with
   |nil=>rw[h]at Ah;cases Ah
   |cons _ _=>rfl
  rw[Az]at Gu;cases hn:Zeu (r.take 4)with
  |none=>
   have Dt:rbV (a::117::r)=([],0):=by
    show(if 4≤r.length then _ else _)=_;rw[if_pos hl,hn]
   rw[Dt];rw[hn]at Gu;clear hn Dt Am Ah Az;generalize bs (a::117::r)=D at *;generalize bs (r.take 4)=U at *
   go_enter func265,ntmps265
   go_wp2_with fail
   refine(Gu.out _).mono ?_;rintro e _ ⟨rfl,rfl⟩
   go_wp2_with fail
   go_ret2
   exact⟨rfl,Below.refl _ _⟩
  |some n=>
   have Aa:=Zwd hn;rw[Ah]at Aa;rw[hn]at Gu;replace Gu:Hid (∀w,Calls prog 303 #[.string (bs (r.take 4)),.int .i64 16] w fun e w'=>e= .returned (.tuple #[.int .i64 (n:Int),.bool true])∧w=w'):=Gu;have eT:n≤65535:=by omega
   have Hj:=Hd (fun w=>Zv9 n eT w);cases hp:Zcb n
   ·have Dt:rbV (a::117::r)=([],0):=by
     show(if 4≤r.length then _ else _)=_;rw[if_pos hl,hn];show(if Zcb n=true then _ else _)=_;rw[hp];rfl
    rw[Dt];rw[hp]at Hj;clear hn Dt Am Ah Az Aa hp;generalize bs (a::117::r)=D at *;generalize bs (r.take 4)=U at *
    go_enter func265,ntmps265
    go_wp2_with fail
    refine(Gu.out _).mono ?_;rintro e _ ⟨rfl,rfl⟩
    go_wp2_with fail
    refine(Hj.out _).mono ?_;rintro e w2 ⟨rfl,Ag⟩;have Ai:=Hd Ag;clear Ag
    go_wp2_with fail
    go_ret2
    exact⟨rfl,Ai.out⟩
   ·have Dt:rbV (a::117::r)=(Zja n,6):=by
     show(if 4≤r.length then _ else _)=_;rw[if_pos hl,hn];show(if Zcb n=true then _ else _)=_;rw[hp];rfl
    rw[Dt];rw[hp]at Hj;clear hn Dt Am Ah Az Aa hp;generalize bs (a::117::r)=D at *;generalize bs (r.take 4)=U at *
    go_enter func265,ntmps265
    go_wp2_with fail
    refine(Gu.out _).mono ?_;rintro e _ ⟨rfl,rfl⟩
    go_wp2_with fail
    refine(Hj.out _).mono ?_;rintro e w2 ⟨rfl,Ag⟩;have Ai:=Hd Ag;clear Ag
    go_wp2_with fail
    go_ret2
    exact⟨rfl,Ai.out⟩
 ·have h4: ¬(6:Int)≤((bs (a::117::r)).size:Int):=by omega
  have Dt:rbV (a::117::r)=([],0):=by
   show(if 4≤r.length then _ else _)=_;rw[if_neg hl]
  rw[Dt];clear Dt Am hl;generalize bs (a::117::r)=D at *
  go_enter func265,ntmps265
  go_wp2_with fail
  go_ret2
  exact⟨rfl,Below.refl _ _⟩
theorem Zaim (l:List UInt8)(hl:l.length≤200000)(w:World):Calls prog 265 #[.string (bs l)] w (RbP (rbV l) w):=by
 by_cases h:l.length<2
 ·exact Zzr l h w
 ·match l,hl,h with
  |a::c::r,hl,_=>
   have hr:r.length≤200000:=by simp only[length_cons]at hl;omega
   by_cases h1:c=110
   ·exact Zk6 a c r hr (.inl h1) w
   by_cases h2:c=114
   ·exact Zk6 a c r hr (.inr (.inl h2)) w
   by_cases h3:c=116
   ·exact Zk6 a c r hr (.inr (.inr h3)) w
   by_cases h4:c=120
   ·subst h4;exact Zalr a r hr w
   by_cases h5:c=117
   ·subst h5;exact Zaln a r hr w
   exact Zaee a c r hr h1 h2 h3 h4 h5 w
  |[],_,h=>simp at h
  |[_],_,h=>simp at h
def Zcf (l:List UInt8):Nat→Nat→List UInt8→List UInt8×Nat×Nat
 |0,_,acc=>(acc,0,0)
 |f+1,i,acc=>
  if i<l.length then
   if l.getD i 0=92 then(if(rbV (l.drop i)).2=0 then([],i,3)else Zcf l f (i+(rbV (l.drop i)).2) (acc++(rbV (l.drop i)).1))
   else if l.getD i 0=10∨l.getD i 0=34 then([],i,3)else Zcf l f (i+1) (acc++[l.getD i 0])
  else(acc,0,0)
def Zay (l:List UInt8):List UInt8×Nat×Nat:=Zcf l (l.length+1) 0 []
theorem Zku {l:List UInt8} {i:Nat} (h: ¬i<l.length)(f:Nat)(acc:List UInt8):Zcf l f i acc=(acc,0,0):=by
 cases f with
 |zero=>rfl
 |succ f=>rw[Zcf,if_neg h]
theorem Zkq {l:List UInt8} {i:Nat} (h:i<l.length)(hc:l.getD i 0=92)(hk:(rbV (l.drop i)).2≠0)(f:Nat)(acc:List UInt8):
  Zcf l (f+1) i acc=Zcf l f (i+(rbV (l.drop i)).2) (acc++(rbV (l.drop i)).1):=by rw[Zcf,if_pos h,if_pos hc,if_neg hk]
theorem Zoc {l:List UInt8} {i:Nat} (h:i<l.length)(hc:l.getD i 0=92)(hk:(rbV (l.drop i)).2=0)(f:Nat)(acc:List UInt8):
  Zcf l (f+1) i acc=([],i,3):=by rw[Zcf,if_pos h,if_pos hc,if_pos hk]
theorem Zn0 {l:List UInt8} {i:Nat} (h:i<l.length)(hc:l.getD i 0≠92)(hk:l.getD i 0=10∨l.getD i 0=34)(f:Nat)(acc:List UInt8):
  Zcf l (f+1) i acc=([],i,3):=by rw[Zcf,if_pos h,if_neg hc,if_pos hk]
theorem Zkj {l:List UInt8} {i:Nat} (h:i<l.length)(hc:l.getD i 0≠92)(h1:l.getD i 0≠10)(h2:l.getD i 0≠34)(f:Nat)(acc:List UInt8):
  Zcf l (f+1) i acc=Zcf l f (i+1) (acc++[l.getD i 0]):=by rw[Zcf,if_pos h,if_neg hc,if_neg (fun e=>e.elim h1 h2)]
theorem Zjy (l:List UInt8)(i:Nat):(bs l).extract i (bs l).size=bs (l.drop i):=by rw[Zdz,Za5,List.take_length]
theorem Zot (c:UInt8)(w:World):Calls prog 267 #[.int .i64 2,.int .u8 (c.toNat:Int)] w fun e w'=>e= .returned (.bool (decide (c=10∨c=34)))∧w=w':=by
 by_cases h1:c=10
 ·subst h1
  go_enter func267,ntmps267
  go_wp2_with fail
  go_ret;exact⟨rfl,rfl⟩
 ·by_cases h2:c=34
  ·subst h2
   go_enter func267,ntmps267
   go_wp2_with fail
   go_ret;exact⟨rfl,rfl⟩
  ·rw[decide_eq_false (fun e=>e.elim h1 h2)];exact Zaai c h1 h2 w
def UnP (x:List UInt8×Nat×Nat)(w:World)(e:Ending)(w':World):Prop:=e= .returned (.tuple #[.string (bs x.1),.int .i64 (x.2.1:Int),.int .i64 (x.2.2:Int)])∧Below w.heap.size w w'
theorem Zrc {w wr w2:World} {l:List UInt8} (h:Lib.IsBuilder 82 5 w.heap.size w.heap.size (Lib.byteCells l) wr)(hb:Below wr.heap.size wr w2):Lib.IsBuilder 82 5 w.heap.size w.heap.size (Lib.byteCells l) w2:=by
 have key:∀p,Lib.BuilderAt 82 5 w.heap.size w.heap.size p (Lib.byteCells l) wr→Lib.BuilderAt 82 5 w.heap.size w.heap.size p (Lib.byteCells l) w2:=by
  rintro p ⟨h1,v,h2,h3,h4⟩;exact⟨h1,v,(hb.block _ (Array.getElem?_eq_some_iff.1 h2).1).trans h2,Zci h3 hb,h4⟩
 exact h.elim (fun h=> .inl (key _ h)) (fun h=> .inr (key _ h))
theorem Zte (l:List UInt8)(w:World)(hl:l.length≤200000):Calls prog 219 #[.int .i64 2,.string (bs l)] w (UnP (Zay l) w):=by
 have Et:=Hd Zlt;have Am:(bs l).size=l.length:=Za5 _;have Dy:=Hd Am;have Em:(bs l).size≤200000:=by omega
 have Mh:Hid (∀(i:Nat) (g:i<(bs l).size),(bs l)[i]'g=l.getD i 0):=fun i g=>Zol l g;have Th:=Hd (Zjy l);generalize hS:bs l=S at *;generalize hX:Zay l=X at *;have Dj:=Hd hX;clear Am hS hX
 go_enter func219,ntmps219
 go_wp2_with fail
 refine(Et.out _).mono ?_;rintro e _ ⟨rfl,rfl⟩
 go_wp2_with fail
 refine Zbs ?_;intro W hW;have b1:Lib.IsBuilder 82 5 w.heap.size w.heap.size (Lib.byteCells []) W:=by
  refine .inl ⟨le_refl _,.slice none 0 0,?_,World.ownsRow_nil _ _ _ _,by simp[Value.ownBlock]⟩;rw[hW];exact Zc1 _ _ _
 have Ay:Hid (Below w.heap.size w W):=by rw[hW];exact(Below.refl _ _).alloc (le_refl _) _
 have Cs:=Hd b1;clear b1 hW
 go_loopw [10] (fun i wr=>∃(j f:Nat) (acc:List UInt8),j≤l.length∧acc.length≤j∧l.length - j<f∧Zcf l f j acc=X∧i= .int .i64 (j:Int)∧Lib.IsBuilder 82 5 w.heap.size w.heap.size (Lib.byteCells acc) wr∧Below w.heap.size w wr) (fun i _=>l.length -(intOf i).toNat)
 case atStart=>exact⟨0,l.length+1,[],zero_le _,le_refl _,by omega,Dj.out,rfl,Cs.out,Ay.out⟩
 case round=>
  obtain⟨j,f,acc,hj,Cn,hf,Kv,rfl,Xh,Ak⟩:=hrel;obtain⟨g,rfl⟩:∃g,f=g+1:=⟨f - 1,by omega⟩;have Mx:=Hd Kv;have V6:=Hd Xh;have Ac:=Hd Ak;have B9:=Hd Cn;have HF:=Hd hf;have Bl:=Ak.size;have qE:acc.length≤200000:=by have:=Dy.out;omega
  clear Xh Ak Kv Cn hf Dj Ay Cs
  by_cases Aa:j<l.length
  ·have hN:j<S.size:=by rw[Dy.out];exact Aa
   have Ci:∀g:j<S.size,S[j]'g=l.getD j 0:=fun g=>Mh.out j g;have HJ:=Hd Aa
   by_cases Fx:l.getD j 0=92
   ·rw[Fx]at Ci;have hcut:S.extract j S.size=bs (l.drop j):=Th.out j;have F1:(l.drop j).length=l.length - j:=List.length_drop ..;have eU:=Hd (fun w=>Zaim (l.drop j) (by have:=Dy.out;omega) w);obtain⟨q1,q2,q3⟩:=Zvm (l.drop j);rw[F1]at q2
    by_cases hk:(rbV (l.drop j)).2=0
    ·have Ti:Hid (X=([],j,3)):=by unfold Hid;rw[←Mx.out];exact Zoc Aa Fx hk g acc
     have Wa:((rbV (l.drop j)).2:Int)=0:=by omega
     clear q1 q2 q3 F1 hk Fx;generalize rbV (l.drop j)=R at *;generalize bs (l.drop j)=E at *
     go_wp2_with fail
     refine(eU.out _).mono ?_;rintro e w2 ⟨rfl,Ag⟩;have Ai:Hid (Below w.heap.size w w2):=Ac.out.trans (Ag.mono Bl);clear Ag
     go_wp2_with fail
     exact bodyPost_ret (v:= .tuple #[.string (bs []),.int .i64 (j:Int),.int .i64 3]) (by simp[results,Tryz.f219,go_sem];rfl) rfl ⟨by rw[Ti.out];rfl,Ai.out⟩
    ·have Ao:Hid (Zcf l g (j+(rbV (l.drop j)).2) (acc++(rbV (l.drop j)).1)=X):=by unfold Hid;rw[←Mx.out];exact(Zkq Aa Fx hk g acc).symm
     have Wa:(((rbV (l.drop j)).2:Int)==0)=false:=by simp only[beq_eq_false_iff_ne];omega
     have Pk:((rbV (l.drop j)).2:Int)≤200000:=by have:=Dy.out;omega
     have HQ:Hid (0<(rbV (l.drop j)).2∧(rbV (l.drop j)).1.length≤(rbV (l.drop j)).2∧j+(rbV (l.drop j)).2≤l.length):=⟨by omega,q3,by omega⟩;have Et:Hid ((bs (rbV (l.drop j)).1).size=(rbV (l.drop j)).1.length):=Za5 _;clear q2 q3 F1 hk Fx Aa;generalize rbV (l.drop j)=R at *;obtain⟨Rt,Rk⟩:=R;simp only at eU HQ Ao Et Wa Pk q1;generalize bs (l.drop j)=E at *
     go_wp2_with fail
     refine(eU.out _).mono ?_;rintro e w2 ⟨rfl,Ag⟩;have Q4:w.heap.size≤w2.heap.size:=Nat.le_trans Bl Ag.size;have HW:=Hd (Zn2 w.heap.size w.heap.size _ (bs Rt) w2 (Zrc V6.out Ag) (by rw[Lib.byteCells_length,Et.out];omega) Q4);have B8:Hid (Below w.heap.size w w2):=Ac.out.trans (Ag.mono Bl);clear Ag
     go_wp2_with fail
     refine HW.out.mono ?_;rintro e w3 ⟨rfl,Iu,C5,_⟩;have Ju:Hid (Below w.heap.size w w3):=B8.out.trans C5;have Xi:Hid (Lib.IsBuilder 82 5 w.heap.size w.heap.size (Lib.byteCells (acc++Rt)) w3):=by
      unfold Hid;rw[show Lib.byteCells (acc++Rt)=Lib.byteCells acc++Lib.strCells (bs Rt) by rw[Lib.strCells_eq,Zcz];simp[Lib.byteCells]];exact .inr Iu
     clear Iu C5
     go_wp2_with fail
     go_roundw
     case rel=>exact⟨j+Rk,g,acc++Rt,HQ.out.2.2,by have:=B9.out;have:=HQ.out.2.1;rw[length_append];omega,by have:=HF.out;have:=HQ.out;omega,Ao.out,by go_num,Xi.out,Ju.out⟩
     case measure=>have:=HQ.out;have:=HJ.out;simp[intOf];omega
   ·by_cases Gv:l.getD j 0=10∨l.getD j 0=34
    ·have Ti:Hid (X=([],j,3)):=by unfold Hid;rw[←Mx.out];exact Zn0 Aa Fx Gv g acc
     have Xl:=Hd (fun w=>Zot (l.getD j 0) w);rw[decide_eq_true Gv]at Xl;have g92:(((l.getD j 0).toNat:Int)==92)=false:=neU Fx;clear Gv Fx Aa;generalize l.getD j 0=c at *
     go_wp2_with fail
     refine(Xl.out _).mono ?_;rintro e _ ⟨rfl,rfl⟩
     go_wp2_with fail
     exact bodyPost_ret (v:= .tuple #[.string (bs []),.int .i64 (j:Int),.int .i64 3]) (by simp[results,Tryz.f219,go_sem];rfl) rfl ⟨by rw[Ti.out];rfl,Ac.out⟩
    ·have Ao:Hid (Zcf l g (j+1) (acc++[l.getD j 0])=X):=by unfold Hid;rw[←Mx.out];exact(Zkj Aa Fx (fun e=>Gv (.inl e)) (fun e=>Gv (.inr e)) g acc).symm
     have Xl:=Hd (fun w=>Zot (l.getD j 0) w);rw[decide_eq_false Gv]at Xl;have g92:(((l.getD j 0).toNat:Int)==92)=false:=neU Fx;have My:=Hd (Zaaq w.heap.size w.heap.size (Lib.byteCells acc) ((l.getD j 0).toNat:Int) wr V6.out (by rw[Lib.byteCells_length];omega) Bl);clear Gv Fx;generalize l.getD j 0=c at *
     go_wp2_with fail
     refine(Xl.out _).mono ?_;rintro e _ ⟨rfl,rfl⟩
     go_wp2_with fail
     refine My.out.mono ?_;rintro e w3 ⟨rfl,Iu,C5⟩;have Ju:Hid (Below w.heap.size w w3):=Ac.out.trans C5;have Xi:Hid (Lib.IsBuilder 82 5 w.heap.size w.heap.size (Lib.byteCells (acc++[c])) w3):=by
      unfold Hid;rw[show Lib.byteCells (acc++[c])=Lib.byteCells acc++[.int .u8 (c.toNat:Int)] by simp[Lib.byteCells]];exact .inr Iu
     clear Iu C5
     go_wp2_with fail
     go_roundw
     case rel=>exact⟨j+1,g,acc++[c],Aa,by have:=B9.out;simp;omega,by have:=HF.out;omega,Ao.out,by go_num,Xi.out,Ju.out⟩
     case measure=>simp[intOf];omega
  ·have Bb:Hid (X=(acc,0,0)):=by unfold Hid;rw[←Mx.out];exact Zku Aa (g+1) acc
   have hN: ¬j<S.size:=by rw[Dy.out];exact Aa
   have HS:=Hd (Tryz.Builder_String_any_k w.heap.size w.heap.size acc wr (Lib.IsBuilderF.of V6.out) Bl)
   go_wp2_with fail
   refine HS.out.mono ?_;rintro e w3 ⟨rfl,_,C5,_⟩;have Ju:Hid (Below w.heap.size w w3):=Ac.out.trans C5;clear C5
   go_wp2_with fail
   exact bodyPost_ret (v:= .tuple #[.string (bs acc),.int .i64 0,.int .i64 0]) (by simp[results,Tryz.f219,go_sem];rfl) rfl ⟨by rw[Bb.out];rfl,Ju.out⟩
theorem Zk9 (l:List UInt8):∀(f i:Nat) (acc:List UInt8),acc.length≤i→i≤l.length→(Zcf l f i acc).1.length≤l.length∧(Zcf l f i acc).2.1≤l.length
 |0,i,acc,h1,h2=>⟨by show acc.length≤_;omega,zero_le _⟩
 |f+1,i,acc,h1,h2=>by
  by_cases h:i<l.length
  ·by_cases hc:l.getD i 0=92
   ·by_cases hk:(rbV (l.drop i)).2=0
    ·rw[Zoc h hc hk];exact⟨zero_le _,by show i≤_;omega⟩
    ·rw[Zkq h hc hk];obtain⟨_,q2,q3⟩:=Zvm (l.drop i);rw[List.length_drop]at q2;exact Zk9 l f _ _ (by rw[length_append];omega) (by omega)
   ·by_cases hk:l.getD i 0=10∨l.getD i 0=34
    ·rw[Zn0 h hc hk];exact⟨zero_le _,by show i≤_;omega⟩
    ·rw[Zkj h hc (fun e=>hk (.inl e)) (fun e=>hk (.inr e))];exact Zk9 l f _ _ (by simp;omega) (by omega)
  ·rw[Zku h];exact⟨by show acc.length≤_;omega,zero_le _⟩
theorem Zo7 (l:List UInt8):(Zay l).1.length≤l.length∧(Zay l).2.1≤l.length:=Zk9 l _ 0 [] (le_refl _) (zero_le _)
theorem Zxc (x:List UInt8) {j:Nat} (h:j<x.length):Zah x=Zah (x.take j)++(Zc3 (x.getD j 0)++Zah (x.drop (j+1))):=by
 have e:x=x.take j++(x.getD j 0::x.drop (j+1)):=by rw[←Zi5 h,List.take_append_drop]
 have k:∀a b:List UInt8,Zah (a++b)=Zah a++Zah b:=fun a b=>by simp[Zah]
 have k2:∀(c:UInt8) (b:List UInt8),Zah (c::b)=Zc3 c++Zah b:=fun c b=>by simp[Zah]
 conv=>lhs;rw[e,k,k2]
theorem Zafj:∀f:Fin 128,Zeu [Zav (f.1 / 16),Zav (f.1 % 16)]=some f.1:=by decide+kernel
theorem Zale (a:UInt8)(r:List UInt8)(h:2≤r.length):rbV (a::120::r)=(match Zeu (r.take 2)with|some n=>if n≤127 then(([UInt8.ofNat n],4):List UInt8×Nat)else([],0)|none=>([],0)):=by
 show(if 2≤r.length then _ else _)=_;rw[if_pos h]
 try (cases Zeu (r.take 2)<;> rfl)
theorem Zvz (c:UInt8):(Zc3 c=[c]∧c≠92∧c≠10∧c≠34)∨((∃tl,Zc3 c=92::tl)∧∀R:List UInt8,rbV (Zc3 c++R)=([c],(Zc3 c).length)):=by
 unfold Zc3;split
 ·rename_i h;subst h;exact .inr ⟨⟨_,rfl⟩,fun R=>rfl⟩
 ·split
  ·rename_i h;subst h;exact .inr ⟨⟨_,rfl⟩,fun R=>rfl⟩
  ·split
   ·rename_i h;subst h;exact .inr ⟨⟨_,rfl⟩,fun R=>rfl⟩
   ·split
    ·rename_i h;subst h;exact .inr ⟨⟨_,rfl⟩,fun R=>rfl⟩
    ·split
     ·rename_i h;subst h;exact .inr ⟨⟨_,rfl⟩,fun R=>rfl⟩
     ·split
      ·rename_i h;refine .inr ⟨⟨_,rfl⟩,fun R=>?_⟩;have hc:c.toNat<128:=by omega
       have hn:=Zafj ⟨c.toNat,hc⟩;have hl:2≤(Zav (c.toNat / 16)::Zav (c.toNat % 16)::R).length:=by simp
       show rbV (92::120::(Zav (c.toNat / 16)::Zav (c.toNat % 16)::R))=_;rw[Zale _ _ hl];show(match Zeu [Zav (c.toNat / 16),Zav (c.toNat % 16)]with|some n=>if n≤127 then(([UInt8.ofNat n],4):List UInt8×Nat)else([],0)|none=>([],0))=([c],4);rw[hn];show(if c.toNat≤127 then(([UInt8.ofNat c.toNat],4):List UInt8×Nat)else([],0))=([c],4);rw[if_pos (by omega)];simp
      ·rename_i h1 h2 _ _ h3 _;exact .inl ⟨rfl,h1,h2,h3⟩
theorem Zns (A T:List UInt8)(h:UInt8):(A++h::T).getD A.length 0=h:=by simp[List.getD]
theorem Zl6 (x:List UInt8):∀(m j f:Nat),x.length - j=m→j≤x.length→(Zah x).length -(Zah (x.take j)).length<f→Zcf (Zah x) f (Zah (x.take j)).length (x.take j)=(x,0,0)
 |0,j,f,hm,hj,hf=>by
  obtain rfl:j=x.length:=by omega
  rw[List.take_length,Zku (Nat.lt_irrefl _)]
 |m+1,j,f,hm,hj,hf=>by
  have Aa:j<x.length:=by omega
  have Mi:=Zxc x Aa;have Jg:=Zqw x j Aa;have Iv:x.take (j+1)=x.take j++[x.getD j 0]:=by
   rw[List.take_succ_eq_append_getElem Aa];simp[List.getD,List.getElem?_eq_getElem Aa]
  have hR:∃R,Zah (x.drop (j+1))=R:=⟨_,rfl⟩;obtain⟨R,hR⟩:=hR;rw[hR]at Mi;obtain⟨c,hc⟩:∃c,x.getD j 0=c:=⟨_,rfl⟩;rw[hc]at Mi Jg Iv;have Ah:(Zah x).length=(Zah (x.take j)).length+((Zc3 c).length+R.length):=by rw[Mi,length_append,length_append]
  have Hk:1≤(Zc3 c).length:=by
   rcases Zvz c with⟨e,_⟩|⟨⟨tl,e⟩,_⟩<;> rw[e]<;> simp
  obtain⟨g,rfl⟩:∃g,f=g+1:=⟨f - 1,by omega⟩;have hi:(Zah (x.take j)).length<(Zah x).length:=by omega
  have mI:(Zah (x.take (j+1))).length=(Zah (x.take j)).length+(Zc3 c).length:=by rw[Jg,length_append]
  have ih:=Zl6 x m (j+1) g (by omega) Aa (by omega);rw[mI,Iv]at ih;rcases Zvz c with⟨e,n1,n2,n3⟩|⟨⟨tl,e⟩,Dt⟩
  ·have hg:(Zah x).getD (Zah (x.take j)).length 0=c:=by rw[Mi,e];exact Zns _ R c
   rw[Zkj hi (by rw[hg];exact n1) (by rw[hg];exact n2) (by rw[hg];exact n3),hg];rw[e]at ih;exact ih
  ·have hg:(Zah x).getD (Zah (x.take j)).length 0=92:=by rw[Mi,e];exact Zns _ (tl++R) 92
   have hd:(Zah x).drop (Zah (x.take j)).length=Zc3 c++R:=by rw[Mi,List.drop_left]
   rw[Zkq hi hg (by rw[hd,Dt];show(Zc3 c).length≠0;omega),hd,Dt];exact ih
theorem Zo2 (x:List UInt8):Zay (Zah x)=(x,0,0):=Zl6 x x.length 0 _ rfl (zero_le _) (by show(Zah x).length - 0<(Zah x).length+1;omega)
theorem Zagg (l:List UInt8) {i:Nat} (h:i<l.length):(bs l).extract i (i+1)=bs [l.getD i 0]:=by
 rw[Zdz,List.take_succ_eq_append_getElem h];have e:(l.take i).length=i:=by rw[length_take];omega
 have k:= @List.drop_left _ (l.take i) [l[i]];rw[e]at k;rw[k];simp[List.getD,List.getElem?_eq_getElem h]
end Go.Proofs.YtmleeodfmmpdgaaGreatDoor
