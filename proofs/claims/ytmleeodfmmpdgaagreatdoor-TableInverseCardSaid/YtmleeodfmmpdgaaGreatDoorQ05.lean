/- part -/
import Derived.Test.YtmleeodfmmpdgaaGreatDoorQ04
import Derived.Lib.AppendIntMem
import Derived.Lib.ItoaLen
set_option maxRecDepth 100000
set_option maxHeartbeats 4000000
namespace Go.Proofs.YtmleeodfmmpdgaaGreatDoor
open Go.RowKit
open _root_.List (map_cons map_nil nil_append)
open _root_.Nat (add_comm le_refl)
open _root_.Go.Proofs.Tryz
def TabTen (w:World):Prop:=Lib.TabBelow prog w.heap.size w "internal/strconv.uint64pow10" .u64 Lib.pow10Tab
theorem TabTen.below {w w':World} (h:TabTen w)(hb:Below w.heap.size w w'):TabTen w':=fun w2 h2=>h w2 (hb.trans (h2.mono hb.size))
theorem ItoaOk.any {n:Int} (h0: -9223372036854775808≤n)(h1:n≤9223372036854775807) {w:World} (ht:TabTen w):ItoaOk n w:=
 ⟨Nat.le_trans (Lib.itoa_length_le n h0 h1) (by omega),fun w' g=>(Tryz.strconv_Itoa n h0 h1 w' (ht w' g)).mono fun _ _ ⟨he,k,os,hw⟩=>⟨he,by rw[hw];exact Lib.below_grow _ w' (le_refl _) k os⟩⟩
attribute [local go_sem ↓] Go.wp_at_zero Go.wp_at_succ
def Zbu:List UInt8→Option Nat
 |[]=>none
 |[c]=>if c=34 then some 0 else none
 |c::d::r=>if c=34 then some 0 else if c=92 then(Zbu r).map (· +2)else(Zbu (d::r)).map (· +1)
theorem Zzu (r:List UInt8):Zbu (34::r)=some 0:=by cases r <;> simp[Zbu]
theorem Zg3 (d:UInt8)(r:List UInt8):Zbu (92::d::r)=(Zbu r).map (· +2):=by simp[Zbu]
theorem Zkp {c:UInt8} (h1:c≠34)(h2:c≠92)(r:List UInt8):Zbu (c::r)=(Zbu r).map (· +1):=by
 cases r <;> simp[Zbu,h1,h2]
theorem Zvi (n:Nat)(h:n<16):Zav n≠34∧Zav n≠92:=by
 have k:∀v:Fin 16,Zav v.1≠34∧Zav v.1≠92:=by decide
 exact k ⟨n,h⟩
theorem Zzs (c:UInt8)(r:List UInt8):Zbu (Zc3 c++r)=(Zbu r).map (· +(Zc3 c).length):=by
 unfold Zc3;split
 ·simp[Zg3]
 ·split
  ·simp[Zg3]
  ·split
   ·simp[Zg3]
   ·split
    ·simp[Zg3]
    ·split
     ·simp[Zg3]
     ·split
      ·obtain⟨a1,a2⟩:=Zvi (c.toNat / 16) (by have:=c.toNat_lt;omega);obtain⟨b1,b2⟩:=Zvi (c.toNat % 16) (by omega);simp only[List.cons_append,nil_append];rw[Zg3,Zkp a1 a2,Zkp b1 b2];cases Zbu r <;> simp
      ·rename_i h1 _ _ _ h2 _;simp only[List.cons_append,nil_append];rw[Zkp h2 h1];rfl
theorem Zq4 (x r:List UInt8):Zbu (Zah x++34::r)=some (Zah x).length:=by
 induction x with
 |nil=>exact Zzu r
 |cons c x ih=>
  show Zbu ((Zc3 c++Zah x)++34::r)=some (Zc3 c++Zah x).length;rw[List.append_assoc,Zzs,ih,List.length_append];simp[add_comm]
def Zn7 (l:List UInt8):Int:=match Zbu l with|some k=>(k:Int)|none=> -1
theorem Zr0 {l:List UInt8} {k:Nat} (h:Zbu l=some k):Zn7 l=(k:Int):=by unfold Zn7;rw[h]
theorem Zq1 {l:List UInt8} (h:Zbu l=none):Zn7 l= -1:=by unfold Zn7;rw[h]
theorem Zi5 {l:List UInt8} {k:Nat} (h:k<l.length):l.drop k=l.getD k 0::l.drop (k+1):=by
 rw[List.drop_eq_getElem_cons h];simp[List.getD,List.getElem?_eq_getElem h]
theorem Zahm (s:ByteArray)(w:World)(hs:s.size≤1000000):
  Calls prog 218 #[.int .i64 2,.string s,.int .u8 34] w fun e w'=>e= .returned (.int .i64 (Zn7 s.data.toList))∧w=w':=by
 have Et:=Hd Zlt;have F0:s.data.toList.length=s.size:=Zbm s
 go_enter func218,ntmps218
 go_wp2_with fail
 refine(Et.out _).mono ?_;rintro e _ ⟨rfl,rfl⟩
 go_wp2_with fail
 go_loop [7] (fun i=>∃k:Nat,i= .int .i64 (k:Int)∧k≤s.size+1∧Zbu s.data.toList=(Zbu (s.data.toList.drop k)).map (· +k)) (fun i=>s.size+1 -(intOf i).toNat)
 case atStart=>exact⟨0,rfl,Nat.zero_le _,by rw[List.drop_zero];cases Zbu s.data.toList <;> rfl⟩
 case round=>
  obtain⟨k,rfl,hk,Xj⟩:=hrel;have HI:=Hd Xj;clear Xj
  by_cases Aa:k<s.size
  ·have F8:k<s.data.toList.length:=by rw[F0];exact Aa
   have Mv:s[k]=s.data.toList.getD k 0:=by
    simp[List.getD,List.getElem?_eq_getElem F8];rfl
   have HD:=Hd (Zi5 F8);rw[←Mv]at HD;clear Mv;generalize hc:s[k]=c at *
   by_cases Fy:c=34
   ·subst Fy;have HE:Hid (Zn7 s.data.toList=(k:Int)):=Zr0 (by rw[HI.out,HD.out,Zzu];simp)
    go_wp2_with fail
    go_ret;exact⟨by rw[HE.out];rfl,rfl⟩
   ·have g34:((c.toNat:Int)==34)=false:=neU Fy
    by_cases Fx:c=92
    ·subst Fx;have HN:Hid (Zbu s.data.toList=(Zbu (s.data.toList.drop (k+2))).map (· +(k+2))):=by
      unfold Hid
      by_cases h2:k+1<s.data.toList.length
      ·rw[HI.out,HD.out,Zi5 h2,Zg3];cases Zbu (s.data.toList.drop (k+1+1))<;> simp[add_comm,Nat.add_left_comm]
      ·rw[HI.out,HD.out,List.drop_of_length_le (by omega:s.data.toList.length≤k+1),List.drop_of_length_le (by omega:s.data.toList.length≤k+2)];simp[Zbu]
     clear HD
     go_wp2_with fail
     go_round
     case rel=>exact⟨k+2,by go_num,by omega,HN.out⟩
     case measure=>simp[intOf];omega
    ·have g92:((c.toNat:Int)==92)=false:=neU Fx;have HN:Hid (Zbu s.data.toList=(Zbu (s.data.toList.drop (k+1))).map (· +(k+1))):=by
      unfold Hid;rw[HI.out,HD.out,Zkp Fy Fx];cases Zbu (s.data.toList.drop (k+1))<;> simp[add_comm,Nat.add_left_comm]
     clear HD
     go_wp2_with fail
     go_round
     case rel=>exact⟨k+1,by go_num,by omega,HN.out⟩
     case measure=>simp[intOf];omega
  ·have HE:Hid (Zn7 s.data.toList= -1):=Zq1 (by rw[HI.out,List.drop_of_length_le (by omega)];rfl)
   go_wp2_with fail
   go_ret;exact⟨by rw[HE.out];rfl,rfl⟩
attribute [local go_sem] Ext.cell Ext.frozen
theorem Zaaq (B b:Nat)(bs:List Value)(c:Int)(w:World)(h:Lib.IsBuilder 82 5 B b bs w)(Ah:bs.length+1≤140737488355328)(Ir:B≤w.heap.size):
  Calls prog 268 #[.pointer (some ⟨b,0,none⟩),.int .u8 c] w fun e w'=>e= .returned .nilIface∧(Lib.BuilderAt 82 5 B b (.pointer (some ⟨b,0,none⟩)) (bs++[.int .u8 c]) w'∧Below B w w'):=by
 obtain⟨i0,hi,Cc,Ba,A7⟩:=info_parts Tryz.Builder_Extra_169.infoByte;have HC:=Hd (Zl8 B b bs w h);clear h
 go_enter func268,ntmps268
 go_wp2_with fail
 refine HC.out.mono ?_;rintro e w1 ⟨rfl,h1,Aw,_⟩;obtain⟨hB,v,Dm,Ab,Az⟩:=h1;have c0:w1.cell? ⟨b,0,none⟩=some (.pointer (some ⟨b,0,none⟩)):=by rw[Lib.cell_of_heap Dm];rfl
 have c1:w1.cell? ⟨b,1,none⟩=some v:=by rw[Lib.cell_of_heap Dm];rfl
 go_wp2_with (at_builtin;refine wpList_append_own _ rfl _ _ 80 rfl B 5 i0 (.int .u8 0) 1 1 underlying80 hi Cc Ba A7 rfl (by decide) _ _ _ rfl (Ab.alloc _) ⟨w1.heap.size,0,none⟩ 1 1 [.int .u8 c] rfl rfl ?c1 ?c2 ?c3 ?c4 ?c5 ?_)
 case c1=>
  intro j u hj
  match j,hj with
  |0,hj=>simp at hj;subst hj;simp[Addr.add]
 case c2=>intro u hu;simp at hu;subst hu;rfl
 case c3=>unfold maxLen;omega
 case c4=>omega
 case c5=>have:=Aw.size;simp;omega
 intro v' w2 B7 Bq _;have Aa:b<w1.heap.size:=by
  rcases Nat.lt_or_ge b w1.heap.size with h'|h'
  ·exact h'
  ·simp[Array.getElem?_eq_none h']at Dm
 have Ag:w2.heap[b]? =some (.cells #[.pointer (some ⟨b,0,none⟩),v] 82 (0,0)):=by
  rw[Bq.block b (by simp;omega) (fun e=>Az e.symm),Lib.alloc_old w1 _ b Aa];exact Dm
 have d0:w2.cell? ⟨b,0,none⟩=some (.pointer (some ⟨b,0,none⟩)):=by rw[Lib.cell_of_heap Ag];rfl
 have d1:w2.cell? ⟨b,1,none⟩=some v:=by rw[Lib.cell_of_heap Ag];rfl
 have f1:w2.frozen? ⟨b,1,none⟩=false:=Lib.frozen_of_heap Ag 1;obtain⟨g,cap,rfl⟩:∃g cap,v'= .slice (some ⟨g,0,none⟩) (bs.length+1) cap:=by
  rcases B7.2 with⟨_,h0⟩|⟨g,cap,cur,hv,_⟩
  ·omega
  ·exact⟨g,cap,hv⟩
 go_wp2_with fail
 go_ret;refine⟨rfl,?_,?_⟩
 ·exact Lib.BuilderAt.put (T:=82) (e:=5) hB Ag (bs':=bs++[.int .u8 c]) (by simpa using B7) (by decide)
 ·exact((Aw.alloc (by have:=Aw.size;omega) _).grown Bq (by have:=Aw.size;simp;omega) (fun k hk=>(Ab.lt k hk).1)).setCell (p:=⟨b,1,none⟩) hB _
theorem Zaai (c:UInt8)(Is:c≠10)(Fy:c≠34)(w:World):Calls prog 267 #[.int .i64 2,.int .u8 (c.toNat:Int)] w fun e w'=>e= .returned (.bool false)∧w=w':=by
 have g10:((c.toNat:Int)==10)=false:=neU Is;have g34:((c.toNat:Int)==34)=false:=neU Fy;generalize (c.toNat:Int)=z at *
 go_enter func267,ntmps267
 go_wp2_with fail
 go_ret;exact⟨rfl,rfl⟩
theorem Zach (B:Nat)(v:Value)(n:Nat)(xs:List Value)(r:Int)(h0:128≤r)(h1:r≤2047)(w:World)(Ab:w.ownsRow B 5 1 v n xs)(Ah:n+4≤140737488355328)(Ir:B≤w.heap.size):
  Calls prog 343 #[v,.int .i32 r] w fun e w'=>∃v',e= .returned v'∧w'.ownsRow B 5 1 v' (n+2) (xs++[.int .u8 (192+r / 64),.int .u8 (128+r % 64)])∧∃o,(w.alloc o).grownBy w' v.ownBlock:=by
 obtain⟨i0,hi,Cc,Ba,A7⟩:=info_parts Tryz.Builder_Extra_169.infoByte
 go_enter func343,ntmps343
 go_wp2_with (at_builtin;refine wpList_append_own _ rfl _ _ 80 rfl B 5 i0 (.int .u8 0) 1 1 underlying80 hi Cc Ba A7 rfl (by decide) _ _ _ rfl (Ab.alloc _) ⟨w.heap.size,0,none⟩ 2 2 [.int .u8 (192+r / 64),.int .u8 (128+r % 64)] rfl rfl ?c1 ?c2 ?c3 ?c4 ?c5 ?_)
 case c1=>
  intro j u hj
  match j,hj with
  |0,hj=>simp at hj;subst hj;simp[Addr.add]
  |1,hj=>simp at hj;subst hj;simp[Addr.add]
  |(j+2),hj=>simp at hj
 case c2=>intro u hu;simp at hu;rcases hu with rfl|rfl <;> rfl
 case c3=>unfold maxLen;omega
 case c4=>omega
 case c5=>simp;omega
 intro v' w2 B7 Bq _
 go_wp2_with fail
 go_ret;exact⟨_,rfl,B7,_,Bq⟩
theorem Zagp (B:Nat)(v:Value)(n:Nat)(xs:List Value)(r:Int)(h0:2048≤r)(h1:r<55296)(w:World)(Ab:w.ownsRow B 5 1 v n xs)(Ah:n+4≤140737488355328)(Ir:B≤w.heap.size):
  Calls prog 343 #[v,.int .i32 r] w fun e w'=>∃v',e= .returned v'∧w'.ownsRow B 5 1 v' (n+3) (xs++[.int .u8 (224+r / 4096),.int .u8 (128+r / 64 % 64),.int .u8 (128+r % 64)])∧∃o,(w.alloc o).grownBy w' v.ownBlock:=by
 obtain⟨i0,hi,Cc,Ba,A7⟩:=info_parts Tryz.Builder_Extra_169.infoByte
 go_enter func343,ntmps343
 go_wp2_with (at_builtin;refine wpList_append_own _ rfl _ _ 80 rfl B 5 i0 (.int .u8 0) 1 1 underlying80 hi Cc Ba A7 rfl (by decide) _ _ _ rfl (Ab.alloc _) ⟨w.heap.size,0,none⟩ 3 3 [.int .u8 (224+r / 4096),.int .u8 (128+r / 64 % 64),.int .u8 (128+r % 64)] rfl rfl ?c1 ?c2 ?c3 ?c4 ?c5 ?_)
 case c1=>
  intro j u hj
  match j,hj with
  |0,hj=>simp at hj;subst hj;simp[Addr.add]
  |1,hj=>simp at hj;subst hj;simp[Addr.add]
  |2,hj=>simp at hj;subst hj;simp[Addr.add]
  |(j+3),hj=>simp at hj
 case c2=>intro u hu;simp at hu;rcases hu with rfl|rfl|rfl <;> rfl
 case c3=>unfold maxLen;omega
 case c4=>omega
 case c5=>simp;omega
 intro v' w2 B7 Bq _
 go_wp2_with fail
 go_ret;exact⟨_,rfl,B7,_,Bq⟩
theorem Zafl (B:Nat)(v:Value)(n:Nat)(xs:List Value)(r:Int)(h0:57343<r)(h1:r≤65535)(w:World)(Ab:w.ownsRow B 5 1 v n xs)(Ah:n+4≤140737488355328)(Ir:B≤w.heap.size):
  Calls prog 343 #[v,.int .i32 r] w fun e w'=>∃v',e= .returned v'∧w'.ownsRow B 5 1 v' (n+3) (xs++[.int .u8 (224+r / 4096),.int .u8 (128+r / 64 % 64),.int .u8 (128+r % 64)])∧∃o,(w.alloc o).grownBy w' v.ownBlock:=by
 obtain⟨i0,hi,Cc,Ba,A7⟩:=info_parts Tryz.Builder_Extra_169.infoByte
 go_enter func343,ntmps343
 go_wp2_with (at_builtin;refine wpList_append_own _ rfl _ _ 80 rfl B 5 i0 (.int .u8 0) 1 1 underlying80 hi Cc Ba A7 rfl (by decide) _ _ _ rfl (Ab.alloc _) ⟨w.heap.size,0,none⟩ 3 3 [.int .u8 (224+r / 4096),.int .u8 (128+r / 64 % 64),.int .u8 (128+r % 64)] rfl rfl ?c1 ?c2 ?c3 ?c4 ?c5 ?_)
 case c1=>
  intro j u hj
  match j,hj with
  |0,hj=>simp at hj;subst hj;simp[Addr.add]
  |1,hj=>simp at hj;subst hj;simp[Addr.add]
  |2,hj=>simp at hj;subst hj;simp[Addr.add]
  |(j+3),hj=>simp at hj
 case c2=>intro u hu;simp at hu;rcases hu with rfl|rfl|rfl <;> rfl
 case c3=>unfold maxLen;omega
 case c4=>omega
 case c5=>simp;omega
 intro v' w2 B7 Bq _
 go_wp2_with fail
 go_ret;exact⟨_,rfl,B7,_,Bq⟩
theorem Zadg (B:Nat)(v:Value)(n:Nat)(xs:List Value)(r:Int)(h0:0≤r)(h1:r≤127)(w:World)(Ab:w.ownsRow B 5 1 v n xs)(Ah:n+4≤140737488355328)(Ir:B≤w.heap.size):
  Calls prog 336 #[v,.int .i32 r] w fun e w'=>∃v',e= .returned v'∧w'.ownsRow B 5 1 v' (n+1) (xs++[.int .u8 r])∧∃o,(w.alloc o).grownBy w' v.ownBlock:=by
 obtain⟨i0,hi,Cc,Ba,A7⟩:=info_parts Tryz.Builder_Extra_169.infoByte
 go_enter func336,ntmps336
 go_wp2_with (at_builtin;refine wpList_append_own _ rfl _ _ 80 rfl B 5 i0 (.int .u8 0) 1 1 underlying80 hi Cc Ba A7 rfl (by decide) _ _ _ rfl (Ab.alloc _) ⟨w.heap.size,0,none⟩ 1 1 [.int .u8 r] rfl rfl ?c1 ?c2 ?c3 ?c4 ?c5 ?_)
 case c1=>
  intro j u hj
  match j,hj with
  |0,hj=>simp at hj;subst hj;simp[Addr.add]
  |(j+1),hj=>simp at hj
 case c2=>intro u hu;simp at hu;subst hu;rfl
 case c3=>unfold maxLen;omega
 case c4=>omega
 case c5=>simp;omega
 intro v' w2 B7 Bq _
 go_wp2_with fail
 go_ret;exact⟨_,rfl,B7,_,Bq⟩
def Zdx (r:Int):List Value:=if r≤127 then [.int .u8 r]else if r≤2047 then [.int .u8 (192+r / 64),.int .u8 (128+r % 64)]else [.int .u8 (224+r / 4096),.int .u8 (128+r / 64 % 64),.int .u8 (128+r % 64)]
theorem Zqi (r:Int):(Zdx r).length≤3∧1≤(Zdx r).length:=by unfold Zdx;(repeat' split)<;> simp
def Zm0 (r:Int):Prop:=0≤r∧r≤65535∧(r<55296∨57343<r)
def Ztz (B:Nat)(v:Value)(n:Nat)(xs:List Value)(r:Int)(w:World)(e:Ending)(w':World):Prop:=
 ∃v',e= .returned v'∧w'.ownsRow B 5 1 v' (n+(Zdx r).length) (xs++Zdx r)∧∃o,(w.alloc o).grownBy w' v.ownBlock
theorem Zabi (B:Nat)(v:Value)(n:Nat)(xs:List Value)(r:Int)(hr:Zm0 r)(w:World)(Ab:w.ownsRow B 5 1 v n xs)(Ah:n+4≤140737488355328)(Ir:B≤w.heap.size):
  Calls prog 336 #[v,.int .i32 r] w (Ztz B v n xs r w):=by
 obtain⟨h0,h1,h2⟩:=hr
 by_cases c1:r≤127
 ·have e:Zdx r=[.int .u8 r]:=by unfold Zdx;rw[if_pos c1]
  refine(Zadg B v n xs r h0 c1 w Ab Ah Ir).mono ?_;rintro _ w' ⟨v',rfl,g1,g2⟩;exact⟨v',rfl,by rw[e];exact g1,g2⟩
 ·have HN:Hid (Calls prog 343 #[v,.int .i32 r] w (Ztz B v n xs r w)):=by
   by_cases c2:r≤2047
   ·have e:Zdx r=[.int .u8 (192+r / 64),.int .u8 (128+r % 64)]:=by unfold Zdx;rw[if_neg c1,if_pos c2]
    refine(Zach B v n xs r (by omega) c2 w Ab Ah Ir).mono ?_;rintro _ w' ⟨v',rfl,g1,g2⟩;exact⟨v',rfl,by rw[e];exact g1,g2⟩
   ·have e:Zdx r=[.int .u8 (224+r / 4096),.int .u8 (128+r / 64 % 64),.int .u8 (128+r % 64)]:=by unfold Zdx;rw[if_neg c1,if_neg c2]
    rcases h2 with h2|h2
    ·refine(Zagp B v n xs r (by omega) h2 w Ab Ah Ir).mono ?_;rintro _ w' ⟨v',rfl,g1,g2⟩;exact⟨v',rfl,by rw[e];exact g1,g2⟩
    ·refine(Zafl B v n xs r h2 h1 w Ab Ah Ir).mono ?_;rintro _ w' ⟨v',rfl,g1,g2⟩;exact⟨v',rfl,by rw[e];exact g1,g2⟩
  clear Ab Ah Ir
  go_enter func336,ntmps336
  go_wp2_with fail
  refine HN.out.mono ?_;rintro _ w1 ⟨v',rfl,g1,g2⟩;have G1:=Hd g1;have G2:=Hd g2;clear g1 g2
  go_wp2_with fail
  go_ret;exact⟨_,rfl,G1.out,G2.out⟩
theorem Zyx (B b:Nat)(bs:List Value)(r:Int)(hr:Zm0 r)(w:World)(h:Lib.IsBuilder 82 5 B b bs w)(Ah:bs.length+4≤140737488355328)(Ir:B≤w.heap.size):
  Calls prog 331 #[.pointer (some ⟨b,0,none⟩),.int .i32 r] w fun e w'=>e= .returned (.tuple #[.int .i64 (Zdx r).length,.nilIface])∧(Lib.BuilderAt 82 5 B b (.pointer (some ⟨b,0,none⟩)) (bs++Zdx r) w'∧Below B w w'):=by
 have HC:=Hd (Zl8 B b bs w h);have A8:=(Zqi r).1;have Cd:=(Zqi r).2;clear h
 go_enter func331,ntmps331
 go_wp2_with fail
 refine HC.out.mono ?_;rintro e w1 ⟨rfl,h1,Aw,_⟩;obtain⟨hB,v,Dm,Ab,Az⟩:=h1;obtain⟨ao,cap,rfl⟩:∃ao cap,v= .slice ao bs.length cap:=by
  rcases Ab.2 with⟨hv,h0⟩|⟨g,cap,cur,hv,_⟩
  ·exact⟨none,0,by rw[hv,h0]⟩
  ·exact⟨_,_,hv⟩
 have c0:w1.cell? ⟨b,0,none⟩=some (.pointer (some ⟨b,0,none⟩)):=by rw[Lib.cell_of_heap Dm];rfl
 have c1:w1.cell? ⟨b,1,none⟩=some (.slice ao bs.length cap):=by rw[Lib.cell_of_heap Dm];rfl
 have HR:=Hd (Zabi B (.slice ao bs.length cap) bs.length bs r hr w1 Ab Ah (by have:=Aw.size;omega))
 go_wp2_with fail
 refine HR.out.mono ?_;rintro e w2 ⟨v',rfl,B7,o,Bq⟩;have Aa:b<w1.heap.size:=by
  rcases Nat.lt_or_ge b w1.heap.size with h'|h'
  ·exact h'
  ·simp[Array.getElem?_eq_none h']at Dm
 have Ag:w2.heap[b]? =some (.cells #[.pointer (some ⟨b,0,none⟩),.slice ao bs.length cap] 82 (0,0)):=by
  rw[Bq.block b (by simp;omega) (fun e=>Az e.symm),Lib.alloc_old w1 _ b Aa];exact Dm
 have d0:w2.cell? ⟨b,0,none⟩=some (.pointer (some ⟨b,0,none⟩)):=by rw[Lib.cell_of_heap Ag];rfl
 have d1:w2.cell? ⟨b,1,none⟩=some (.slice ao bs.length cap):=by rw[Lib.cell_of_heap Ag];rfl
 have f1:w2.frozen? ⟨b,1,none⟩=false:=Lib.frozen_of_heap Ag 1;obtain⟨g,cap',rfl⟩:∃g cap',v'= .slice (some ⟨g,0,none⟩) (bs.length+(Zdx r).length) cap':=by
  rcases B7.2 with⟨_,h0⟩|⟨g,cap',cur,hv,_⟩
  ·omega
  ·exact⟨g,cap',hv⟩
 have e9:IntKind.i64.wrap (((bs.length+(Zdx r).length:Nat):Int) -(bs.length:Int))=((Zdx r).length:Int):=by rw[IntKind.wrap_i64]<;> omega
 go_wp2_with fail
 go_ret2
 refine⟨?_,?_,?_⟩
 ·simp;omega
 ·exact Lib.BuilderAt.put (T:=82) (e:=5) hB Ag (bs':=bs++Zdx r) (by simpa using B7) (by decide)
 ·exact((Aw.alloc (by have:=Aw.size;omega) _).grown Bq (by have:=Aw.size;simp;omega) (fun k hk=>(Ab.lt k hk).1)).setCell (p:=⟨b,1,none⟩) hB _
def Zi9 (c:UInt8):Option Nat:=
 if 48≤c.toNat∧c.toNat≤57 then some (c.toNat - 48)else if 97≤c.toNat∧c.toNat≤102 then some (c.toNat - 87)else if 65≤c.toNat∧c.toNat≤70 then some (c.toNat - 55)else none
def Zjg:List UInt8:=[48,49,50,51,52,53,54,55,56,57,97,98,99,100,101,102]
theorem Zqg (c:UInt8):
  (Zi9 c=none∧Lib.indexByte Zjg ((c.toNat:Int).toNat.toUInt8)= -1∧(c.toNat<65∨70<c.toNat))∨
  (∃d:Nat,d<16∧Zi9 c=some d∧Lib.indexByte Zjg ((c.toNat:Int).toNat.toUInt8)=(d:Int)∧(c.toNat<65∨70<c.toNat))∨
  (∃d:Nat,d<16∧Zi9 c=some d∧65≤c.toNat∧c.toNat≤70∧d=c.toNat - 55):=by
 have k:∀f:Fin 256,(Zi9 (UInt8.ofNat f.1)=none∧Lib.indexByte Zjg ((UInt8.ofNat f.1).toNat:Int).toNat.toUInt8= -1∧((UInt8.ofNat f.1).toNat<65∨70<(UInt8.ofNat f.1).toNat))∨
   (∃d:Fin 16,Zi9 (UInt8.ofNat f.1)=some d.1∧Lib.indexByte Zjg ((UInt8.ofNat f.1).toNat:Int).toNat.toUInt8=(d.1:Int)∧((UInt8.ofNat f.1).toNat<65∨70<(UInt8.ofNat f.1).toNat))∨
   (∃d:Fin 16,Zi9 (UInt8.ofNat f.1)=some d.1∧65≤(UInt8.ofNat f.1).toNat∧(UInt8.ofNat f.1).toNat≤70∧d.1=(UInt8.ofNat f.1).toNat - 55):=by decide+kernel
 have e:UInt8.ofNat c.toNat=c:=by simp
 have:=k ⟨c.toNat,c.toNat_lt⟩;simp only[e]at this;rcases this with h|⟨d,h⟩|⟨d,h⟩
 ·exact .inl h
 ·exact .inr (.inl ⟨d.1,d.2,h⟩)
 ·exact .inr (.inr ⟨d.1,d.2,h⟩)
def Zit (a:Option Nat)(c:UInt8):Option Nat:=match a,Zi9 c with
 |some n,some d=>some (n *16+d)
 |_,_=>none
def Zeu (l:List UInt8):Option Nat:=l.foldl Zit (some 0)
theorem Zos {a:Option Nat} {c:UInt8} (h:Zi9 c=none):Zit a c=none:=by unfold Zit;rw[h];cases a <;> rfl
theorem Zk1 {n d:Nat} {c:UInt8} (h:Zi9 c=some d):Zit (some n) c=some (n *16+d):=by unfold Zit;rw[h]
theorem Zic (l:List UInt8):l.foldl Zit none=none:=by
 induction l with
 |nil=>rfl
 |cons c l ih=>exact ih
theorem Zqt {l:List UInt8} {i:Nat} (hi:i<l.length):Zeu (l.take (i+1))=Zit (Zeu (l.take i)) (l.getD i 0):=by
 unfold Zeu;rw[List.take_succ_eq_append_getElem hi,List.foldl_append];simp[List.getD,List.getElem?_eq_getElem hi]
theorem Zz7 {l:List UInt8} {i:Nat} (hi:i<l.length)(h:Zi9 (l.getD i 0)=none):Zeu l=none:=by
 have e:l=l.take (i+1)++l.drop (i+1):=(List.take_append_drop _ _).symm;have e2:Zeu (l.take (i+1))=none:=by
  rw[Zqt hi,Zos h]
 unfold Zeu at e2⊢;rw[e,List.foldl_append,e2,Zic]
theorem Zol (l:List UInt8) {i:Nat} (g:i<(bs l).size):(bs l)[i]'g=l.getD i 0:=by
 have h:i<l.length:=by rw[Za5]at g;exact g
 show l.toArray[i]'(by simpa using h)=_;simp[List.getD,List.getElem?_eq_getElem h]
theorem Zalq (c:UInt8)(w:World):Calls prog 216 #[.string ⟨#[48,49,50,51,52,53,54,55,56,57,97,98,99,100,101,102]⟩,.int .u8 (c.toNat:Int)] w fun e w'=>e= .returned (.int .i64 (Lib.indexByte Zjg ((c.toNat:Int).toNat.toUInt8)))∧w'=w:=
 Tryz.strings_IndexByte ⟨#[48,49,50,51,52,53,54,55,56,57,97,98,99,100,101,102]⟩ (c.toNat:Int) w
theorem Zp2 (l:List UInt8)(hl:l.length≤4)(w:World):
  Calls prog 303 #[.string (bs l),.int .i64 16] w fun e w'=>e= .returned (.tuple #[.int .i64 (((Zeu l).getD 0:Nat):Int),.bool ((Zeu l).isSome&& !l.isEmpty)])∧w=w':=by
 have Am:(bs l).size=l.length:=Za5 l;have Dy:=Hd Am;have Em:(bs l).size≤4:=by omega
 have Te:= @Zol l;have cE:(bs l).toList.isEmpty=l.isEmpty:=by rw[Zd1]
 have pX:=Hd cE;generalize hS:bs l=S at *;clear hS Am cE
 go_enter func303,ntmps303
 go_wp2_with fail
 go_loopw [6,11] (fun n i wr=>∃(k m:Nat),k≤l.length∧i= .int .i64 (k:Int)∧n= .int .i64 (m:Int)∧Zeu (l.take k)=some m∧m<16^k∧w=wr) (fun _ i _=>l.length -(intOf i).toNat)
 case atStart=>exact⟨0,0,Nat.zero_le _,rfl,rfl,rfl,by decide,rfl⟩
 case round=>
  obtain⟨k,m,hk,rfl,rfl,Mw,hm,rfl⟩:=hrel;have cF:m≤65536:=by
   have:16^k≤16^4:=Nat.pow_le_pow_right (by decide) (by omega);have:(16:Nat)^4=65536:=by decide
   omega
  by_cases Aa:k<l.length
  ·have V8:k<S.size:=by rw[Dy.out];exact Aa
   have Ci:∀g:k<S.size,S[k]'g=l.getD k 0:=fun g=>Te g;have Ku:=Hd (Zqt Aa);have Tf:=Hd (fun h=>Zz7 Aa h);have mH:=Hd Mw;have V9:=Hd hm;have HL:=Hd hk;clear Te Mw hm;generalize l.getD k 0=c at *;have Fm:=Hd (Zalq c);rcases Zqg c with⟨hv,hi,hr⟩|⟨d,hd,hv,hi,hr⟩|⟨d,hd,hv,pY,pZ,qA⟩
   ·have HF:=Hd (Tf.out hv);rw[hi]at Fm;clear hi hv;rcases hr with hr|hr
    ·have g1: ¬(65:Int)≤(c.toNat:Int):=by omega
     clear hr
     go_wp2_with fail
     refine(Fm.out _).mono ?_;rintro e _ ⟨rfl,rfl⟩
     go_wp2_with fail
     go_ret2
     exact⟨by rw[HF.out];rfl,rfl⟩
    ·have g1:(65:Int)≤(c.toNat:Int):=by omega
     have g2: ¬(c.toNat:Int)≤70:=by omega
     clear hr
     go_wp2_with fail
     refine(Fm.out _).mono ?_;rintro e _ ⟨rfl,rfl⟩
     go_wp2_with fail
     go_ret2
     exact⟨by rw[HF.out];rfl,rfl⟩
   ·have Ao:Hid (Zeu (l.take (k+1))=some (m *16+d)):=by unfold Hid;rw[Ku.out,mH.out,Zk1 hv]
    have cG:Hid (m *16+d<16^(k+1)):=by unfold Hid;have:=V9.out;rw[Nat.pow_succ];omega
    rw[hi]at Fm;clear hi hv;rcases hr with hr|hr
    ·have g1: ¬(65:Int)≤(c.toNat:Int):=by omega
     clear hr
     go_wp2_with fail
     refine(Fm.out _).mono ?_;rintro e _ ⟨rfl,rfl⟩
     go_wp2_with fail
     go_roundw
     case rel=>exact⟨k+1,m *16+d,Aa,by go_num,by go_num,Ao.out,cG.out,trivial⟩
     case measure=>simp[intOf];omega
    ·have g1:(65:Int)≤(c.toNat:Int):=by omega
     have g2: ¬(c.toNat:Int)≤70:=by omega
     clear hr
     go_wp2_with fail
     refine(Fm.out _).mono ?_;rintro e _ ⟨rfl,rfl⟩
     go_wp2_with fail
     go_roundw
     case rel=>exact⟨k+1,m *16+d,Aa,by go_num,by go_num,Ao.out,cG.out,trivial⟩
     case measure=>simp[intOf];omega
   ·have Ao:Hid (Zeu (l.take (k+1))=some (m *16+d)):=by unfold Hid;rw[Ku.out,mH.out,Zk1 hv]
    have cG:Hid (m *16+d<16^(k+1)):=by unfold Hid;have:=V9.out;rw[Nat.pow_succ];omega
    have g1:(65:Int)≤(c.toNat:Int):=by omega
    have g2:(c.toNat:Int)≤70:=by omega
    have qB:Hid ((d:Int)=(c.toNat:Int) - 65+10):=by unfold Hid;omega
    clear hv pY pZ qA;generalize Lib.indexByte Zjg ((c.toNat:Int).toNat.toUInt8)=ix at *
    go_wp2_with fail
    refine(Fm.out _).mono ?_;rintro e _ ⟨rfl,rfl⟩
    go_wp2_with fail
    go_roundw
    case rel=>exact⟨k+1,m *16+d,Aa,by go_num,by have:=qB.out;go_num,Ao.out,cG.out,trivial⟩
    case measure=>simp[intOf];omega
  ·obtain rfl:k=l.length:=by omega
   rw[List.take_length]at Mw;have HN:=Hd Mw;have V8: ¬l.length<S.size:=by rw[Dy.out];omega
   clear Mw hm Te
   go_wp2_with fail
   go_ret2
   exact⟨by rw[HN.out,←pX.out];rfl,rfl⟩
def Zii (n:Nat):List UInt8:=
 if n≤127 then [UInt8.ofNat n]else if n≤2047 then [UInt8.ofNat (192+n / 64),UInt8.ofNat (128+n % 64)]else [UInt8.ofNat (224+n / 4096),UInt8.ofNat (128+n / 64 % 64),UInt8.ofNat (128+n % 64)]
theorem Zmh {k:Nat} (h:k<256):Value.int .u8 ((UInt8.ofNat k).toNat:Int)= .int .u8 (k:Int):=by
 rw[UInt8.toNat_ofNat_of_lt' (by simpa using h)]
theorem Zxr {n:Nat} (h:n≤65535):Zdx (n:Int)=Lib.byteCells (Zii n):=by
 unfold Zdx Zii
 by_cases h1:n≤127
 ·rw[if_pos h1,if_pos (by omega)];simp only[Lib.byteCells,map_cons,map_nil];rw[Zmh (by omega)]
 ·rw[if_neg h1,if_neg (by omega)]
  by_cases h2:n≤2047
  ·rw[if_pos h2,if_pos (by omega)];simp only[Lib.byteCells,map_cons,map_nil];rw[Zmh (by omega),Zmh (by omega)]
   push_cast
   rfl
  ·rw[if_neg h2,if_neg (by omega)];simp only[Lib.byteCells,map_cons,map_nil];rw[Zmh (by omega),Zmh (by omega),Zmh (by omega)]
   push_cast
   rfl
theorem Zacl (n:Nat):(Zii n).length≤3:=by unfold Zii;(repeat' split)<;> simp
def Zcb (n:Nat):Bool:=decide (n<55296)||decide (57343<n)
def Zja (n:Nat):List UInt8:=if Zcb n then Zii n else Zii 65533
theorem Zsu (n:Nat):(Zja n).length≤3:=by unfold Zja;split <;> exact Zacl _
theorem Zy6 (n:Nat)(hn:n≤65535)(w:World):Calls prog 330 #[.int .i64 (n:Int)] w fun e w'=>e= .returned (.bool (Zcb n))∧w=w':=by
 have g0:(0:Int)≤(n:Int):=by omega
 have g00:(n:Int)≤1114111:=by omega
 by_cases h1:n<55296
 ·have g1:(n:Int)<55296:=by omega
  have HE:Hid (Zcb n=true):=by unfold Hid Zcb;rw[decide_eq_true h1];rfl
  go_enter func330,ntmps330
  go_wp2_with fail
  go_ret;exact⟨by rw[HE.out];rfl,rfl⟩
 ·have g1: ¬(n:Int)<55296:=by omega
  by_cases h2:57343<n
  ·have g2:57343<(n:Int):=by omega
   have HE:Hid (Zcb n=true):=by unfold Hid Zcb;rw[decide_eq_true h2,Bool.or_true]
   go_enter func330,ntmps330
   go_wp2_with fail
   go_ret;exact⟨by rw[HE.out];rfl,rfl⟩
  ·have g2: ¬57343<(n:Int):=by omega
   have HE:Hid (Zcb n=false):=by unfold Hid Zcb;rw[decide_eq_false h1,decide_eq_false h2];rfl
   go_enter func330,ntmps330
   go_wp2_with fail
   go_ret;exact⟨by rw[HE.out];rfl,rfl⟩
theorem Zyu {n:Nat} (hn:n≤65535)(h:Zcb n=true):Zm0 (n:Int):=by
 unfold Zcb at h;rw[Bool.or_eq_true,decide_eq_true_eq,decide_eq_true_eq]at h;exact⟨by omega,by omega,by omega⟩
theorem Zxq (n:Nat)(hn:n≤65535)(b c:Nat)(w:World)(h0:w.cell? ⟨b,0,none⟩=some (.int .i64 (n:Int))):
  Calls prog 321 #[.slice (some ⟨b,0,none⟩) 1 c] w fun e w'=>e= .returned (.string (bs (Zja n)))∧Below w.heap.size w w':=by
 have Pe:=Hd (fun w=>Zy6 n hn w);have HW:Hid (∀m:Nat,m≤65535→Zm0 (m:Int)→∀wr,Lib.IsBuilder 82 5 w.heap.size w.heap.size (Lib.byteCells []) wr→w.heap.size≤wr.heap.size→Calls prog 331 #[.pointer (some ⟨w.heap.size,0,none⟩),.int .i32 (m:Int)] wr fun e w'=>∃k:Nat,e= .returned (.tuple #[.int .i64 k,.nilIface])∧Lib.IsBuilder 82 5 w.heap.size w.heap.size (Lib.byteCells (Zii m)) w'∧Below w.heap.size wr w'):=by
  intro m hm hp wr hb hz;refine(Zyx w.heap.size w.heap.size (Lib.byteCells []) m hp wr hb (by simp[Lib.byteCells]) hz).mono ?_;rintro e w' ⟨rfl,g1,g2⟩;refine⟨_,rfl,.inr ?_,g2⟩;rw[Zxr hm,show Lib.byteCells ([]:List UInt8)=[]from rfl,nil_append]at g1;exact g1
 have Ak:=World.block_lt_of_cell? w _ h0;have C2:=Hd h0;clear h0
 go_enter func321,ntmps321
 go_wp2_with fail
 refine Zbs ?_;intro W hW;have b1:Lib.IsBuilder 82 5 w.heap.size w.heap.size (Lib.byteCells []) W:=by
  refine .inl ⟨le_refl _,.slice none 0 0,?_,World.ownsRow_nil _ _ _ _,by simp[Value.ownBlock]⟩;rw[hW];exact Zc1 _ _ _
 have Fp:Below w.heap.size w W:=by rw[hW];exact(Below.refl _ _).alloc (le_refl _) _
 have Jv:W.cell? ⟨b,0,none⟩=some (.int .i64 (n:Int)):=(Fp.cell (p:=⟨b,0,none⟩) Ak).trans C2.out;have Cs:=Hd b1;have Ay:=Hd Fp;have Xk:=Fp.size;clear b1 Fp hW Ak;cases hp:Zcb n
 ·have HX:Hid (Zja n=Zii 65533):=by unfold Hid Zja;rw[hp];rfl
  have eR:=Hd (HW.out 65533 (by omega) (by unfold Zm0;omega) W Cs.out Xk);rw[hp]at Pe;clear hp HW Cs;refine wp_loop_rounds 2 ?_;rw[rounds_succ]
  go_wp2_with fail
  refine(Pe.out _).mono ?_;rintro e _ ⟨rfl,rfl⟩
  go_wp2_with fail
  refine eR.out.mono ?_;rintro e w2 ⟨k,rfl,Ag,Hh⟩;have Ai:Hid (Below w.heap.size w w2):=Ay.out.trans Hh;have eS:=Hd Ag;have A7:=Ai.out.size;clear Ag Hh Jv
  go_wp2_with fail
  rw[rounds_succ]
  go_wp2_with fail
  have HS:=Hd (Tryz.Builder_String_any_k w.heap.size w.heap.size (Zii 65533) w2 (Lib.IsBuilderF.of eS.out) A7);refine HS.out.mono ?_;rintro e w3 ⟨rfl,_,C5,_⟩;have Ju:Hid (Below w.heap.size w w3):=Ai.out.trans C5;clear C5
  go_wp2_with fail
  go_ret;exact⟨by rw[HX.out];rfl,Ju.out⟩
 ·have HX:Hid (Zja n=Zii n):=by unfold Hid Zja;rw[hp];rfl
  have eR:=Hd (HW.out n hn (Zyu hn hp) W Cs.out Xk);rw[hp]at Pe;clear hp HW Cs;refine wp_loop_rounds 2 ?_;rw[rounds_succ]
  go_wp2_with fail
  refine(Pe.out _).mono ?_;rintro e _ ⟨rfl,rfl⟩
  go_wp2_with fail
  refine eR.out.mono ?_;rintro e w2 ⟨k,rfl,Ag,Hh⟩;have Ai:Hid (Below w.heap.size w w2):=Ay.out.trans Hh;have eS:=Hd Ag;have A7:=Ai.out.size;clear Ag Hh Jv
  go_wp2_with fail
  rw[rounds_succ]
  go_wp2_with fail
  have HS:=Hd (Tryz.Builder_String_any_k w.heap.size w.heap.size (Zii n) w2 (Lib.IsBuilderF.of eS.out) A7);refine HS.out.mono ?_;rintro e w3 ⟨rfl,_,C5,_⟩;have Ju:Hid (Below w.heap.size w w3):=Ai.out.trans C5;clear C5
  go_wp2_with fail
  go_ret;exact⟨by rw[HX.out];rfl,Ju.out⟩
theorem Zv9 (n:Nat)(hn:n≤65535)(w:World):
  Calls prog 304 #[.int .i64 (n:Int)] w fun e w'=>e= .returned (.tuple #[.string (bs (Zja n)),.bool (Zcb n)])∧Below w.heap.size w w':=by
 have HE:=Hd (Zxq n hn w.heap.size 1 (w.alloc (.cells #[.int .i64 (n:Int)] 3)) (Za2 (Zc1 w #[.int .i64 (n:Int)] 3) 0));have g0:(n:Int)≤1114111:=by omega
 by_cases h1:n<55296
 ·have g1:(n:Int)<55296:=by omega
  have HB:Hid (Zcb n=true):=by unfold Hid Zcb;rw[decide_eq_true h1];rfl
  go_enter func304,ntmps304
  go_wp2_with fail
  refine HE.out.mono ?_;rintro e w2 ⟨rfl,hb⟩;have Ai:=Hd hb;clear hb
  go_wp2_with fail
  go_ret2
  exact⟨by rw[HB.out];rfl,((Below.refl _ _).alloc (le_refl _) _).trans (Ai.out.mono (by simp))⟩
 ·have g1: ¬(n:Int)<55296:=by omega
  by_cases h2:57343<n
  ·have g2:57343<(n:Int):=by omega
   have HB:Hid (Zcb n=true):=by unfold Hid Zcb;rw[decide_eq_true h2,Bool.or_true]
   go_enter func304,ntmps304
   go_wp2_with fail
   refine HE.out.mono ?_;rintro e w2 ⟨rfl,hb⟩;have Ai:=Hd hb;clear hb
   go_wp2_with fail
   go_ret2
   exact⟨by rw[HB.out];rfl,((Below.refl _ _).alloc (le_refl _) _).trans (Ai.out.mono (by simp))⟩
  ·have g2: ¬57343<(n:Int):=by omega
   have HB:Hid (Zcb n=false):=by unfold Hid Zcb;rw[decide_eq_false h1,decide_eq_false h2];rfl
   go_enter func304,ntmps304
   go_wp2_with fail
   refine HE.out.mono ?_;rintro e w2 ⟨rfl,hb⟩;have Ai:=Hd hb;clear hb
   go_wp2_with fail
   go_ret2
   exact⟨by rw[HB.out];rfl,((Below.refl _ _).alloc (le_refl _) _).trans (Ai.out.mono (by simp))⟩
end Go.Proofs.YtmleeodfmmpdgaaGreatDoor
