/- part -/
import Derived.Test.YtmleeodfmmpdgaaGreatDoorQ03
import Derived.Test.YtmleeodfmmpdgaaGreatDoorQ01
set_option maxRecDepth 100000
set_option maxHeartbeats 4000000
namespace Go.Proofs.YtmleeodfmmpdgaaGreatDoor
open Go.RowKit Go.Shelf
attribute [local go_sem] Oper.semAt_some
open _root_.Nat (le_refl)
open _root_.Go.Proofs.Tryz
theorem Zl4 {F:Fence} {n:Nat} {P:Program} {c:Code} {Q:Exit→Act→World→Prop} {a:Act} {w:World} (h:∀W,W=w→c.wpIn F n P Q a W):c.wpIn F n P Q a w:=h w rfl
theorem Zgu {W W':World} {row:Option Nat} {B:Nat} {t:TypeId} {v:Value} (h:Boxed W B t v)(hg:W.grownBy W' row)(hr:∀r,row=some r→∃o:Obj,W.heap[r]? =some o∧o.isCells=false):Boxed W' B t v:=
 (boxed_own (β:=Unit) B t (fun _=>v)) () W W' row h hg hr
open Go.RowKit
structure KeepT (b:Nat) (w w':World):Prop where
 size:w.heap.size≤w'.heap.size
 same:∀(k:Nat) (o:Obj),w.heap[k]? =some o→k≠b→(∀cs fr,o≠ .cells cs 5 fr)→w'.heap[k]? =some o
theorem KeepT.refl (b:Nat)(w:World):KeepT b w w:=⟨le_refl _,fun _ _ h _ _=>h⟩
theorem KeepT.trans {b:Nat} {A B C:World} (h:KeepT b A B)(k:KeepT b B C):KeepT b A C:=⟨Nat.le_trans h.size k.size,fun i o h0 h1 h2=>k.same i o (h.same i o h0 h1 h2) h1 h2⟩
theorem KeepT.set (b:Nat)(w:World)(o:Nat)(v:Value):KeepT b w (w.setCell ⟨b,o,none⟩ v):=⟨by rw[World.size_setCell];exact le_refl _,fun k _ h h1 _=>(Below.heap_setCell w ⟨b,o,none⟩ v k h1).trans h⟩
theorem KeepT.grown (b:Nat) {w w':World} {base:Nat} {v:Value} {n:Nat} {xs:List Value} (Ab:w.ownsRow base 5 1 v n xs)(hg:w.grownBy w' v.ownBlock):KeepT b w w':=
 ⟨hg.size,fun k o h _ h2=>(hg.block k (Array.getElem?_eq_some_iff.1 h).1 (fun e=>by
  rcases Ab.2 with⟨rfl,_⟩|⟨g,cap,cur,rfl,_,Pd,_⟩
  ·simp[Value.ownBlock]at e
  ·simp only[Value.ownBlock,Option.some.injEq]at e;subst e;rw[h]at Pd;injection Pd with Pd;exact h2 _ _ Pd)).trans h⟩
theorem Zaap:∃j,prog.info? 82=some j∧j.size≠0:=by
 obtain⟨j,hj,Ta⟩:=Option.map_eq_some_iff.1 Tryz.Builder_Extra_169.sizeBuilder;exact⟨j,hj,by rw[Ta];decide⟩
theorem Zxm (b:Nat)(w:World)(h0:w.cell? ⟨b,0,none⟩=some (.pointer (some ⟨b,0,none⟩))):
  Calls prog 134 #[.pointer (some ⟨b,0,none⟩)] w fun e w'=>e= .returned (.tuple #[])∧w'=w:=by
 obtain⟨j,hj,_⟩:=Zaap
 go_enter func134,ntmps134
 go_wp2_with fail
 rw[Lib.run_neq_ptr_same w _ underlying79 hj]
 go_wp2_with fail
 go_end0;exact⟨rfl,rfl⟩
theorem Zv0 (b:Nat)(w:World)(h0:w.cell? ⟨b,0,none⟩=some (.pointer none))(Xf:w.shape? b=some (82,2))(mF:w.frozen? ⟨b,0,none⟩=false):
  Calls prog 134 #[.pointer (some ⟨b,0,none⟩)] w fun e w'=>e= .returned (.tuple #[])∧w'=w.setCell ⟨b,0,none⟩ (.pointer (some ⟨b,0,none⟩)):=by
 obtain⟨j,hj,Ta⟩:=Zaap
 go_enter func134,ntmps134
 go_wp2_with fail
 rw[Lib.run_to_unsafe w ⟨b,0,none⟩ underlying79 underlying224 hj Ta Xf (Nat.zero_lt_succ 1)];simp only[Result.andThen];rw[Oper.upon_value]
 go_wp2_with fail
 rw[run_callFunc_extern func187 (by kernel_rfl) (by kernel_rfl) (by kernel_rfl) (e:=Extern.AbiNoEscape.same) (by kernel_rfl)];rw[Lib.run_noEscape];simp only[Result.andThen];rw[Oper.upon_value]
 go_wp2_with fail
 rw[Lib.run_from_unsafe w ⟨b,0,none⟩ underlying224 underlying79 hj Xf Tryz.Builder_Extra_169.liesBuilder];simp only[Result.andThen];rw[Oper.upon_value]
 go_wp2_with fail
 go_end0;exact⟨rfl,rfl⟩
theorem Zl8 (B b:Nat)(bs:List Value)(w:World)(h:Lib.IsBuilder 82 5 B b bs w):
  Calls prog 134 #[.pointer (some ⟨b,0,none⟩)] w fun e w'=>e= .returned (.tuple #[])∧(Lib.BuilderAt 82 5 B b (.pointer (some ⟨b,0,none⟩)) bs w'∧Below B w w'∧KeepT b w w'):=by
 rcases h with h|h
 ·refine(Zv0 b w h.cell0 h.shape h.frozen0).mono ?_;rintro e w' ⟨rfl,rfl⟩;exact⟨rfl,h.used _,(Below.refl B w).setCell (p:=⟨b,0,none⟩) h.1 _,KeepT.set b w 0 _⟩
 ·refine(Zxm b w h.cell0).mono ?_;rintro e w' ⟨rfl,rfl⟩;exact⟨rfl,h,Below.refl B _,KeepT.refl b _⟩
theorem Zn2 (B b:Nat)(bs:List Value)(s:ByteArray)(w:World)(h:Lib.IsBuilder 82 5 B b bs w)(Ah:bs.length+s.size≤140737488355328)(Ir:B≤w.heap.size):
  Calls prog 79 #[.pointer (some ⟨b,0,none⟩),.string s] w fun e w'=>e= .returned (.tuple #[.int .i64 s.size,.nilIface])∧(Lib.BuilderAt 82 5 B b (.pointer (some ⟨b,0,none⟩)) (bs++Lib.strCells s) w'∧Below B w w'∧KeepT b w w'):=by
 obtain⟨i0,hi,Cc,Ba,A7⟩:=info_parts Tryz.Builder_Extra_169.infoByte;have HC:=Hd (Zl8 B b bs w h);clear h
 go_enter func79,ntmps79
 go_wp2_with fail
 refine HC.out.mono ?_;rintro e w1 ⟨rfl,h1,Aw,Xg⟩;have pU:=Hd Xg;clear Xg;obtain⟨hB,v,Dm,Ab,Az⟩:=h1;have c0:w1.cell? ⟨b,0,none⟩=some (.pointer (some ⟨b,0,none⟩)):=by rw[Lib.cell_of_heap Dm];rfl
 have c1:w1.cell? ⟨b,1,none⟩=some v:=by rw[Lib.cell_of_heap Dm];rfl
 go_wp2_with (at_builtin;refine Lib.wpList_append_own_string _ rfl _ _ 80 9 rfl B 5 i0 underlying80 underlying9 hi Cc Ba A7 _ _ _ rfl Ab s rfl ?c3 ?c4 ?c5 ?_)
 case c3=>unfold maxLen;omega
 case c4=>omega
 case c5=>have:=Aw.size;omega
 intro v' w2 B7 Bq _;have Aa:b<w1.heap.size:=by
  rcases Nat.lt_or_ge b w1.heap.size with h'|h'
  ·exact h'
  ·simp[Array.getElem?_eq_none h']at Dm
 have Ag:w2.heap[b]? =some (.cells #[.pointer (some ⟨b,0,none⟩),v] 82 (0,0)):=by
  rw[Bq.block b Aa (fun e=>Az e.symm)];exact Dm
 have d0:w2.cell? ⟨b,0,none⟩=some (.pointer (some ⟨b,0,none⟩)):=by rw[Lib.cell_of_heap Ag];rfl
 have d1:w2.cell? ⟨b,1,none⟩=some v:=by rw[Lib.cell_of_heap Ag];rfl
 have f1:w2.frozen? ⟨b,1,none⟩=false:=Lib.frozen_of_heap Ag 1;obtain⟨ao,n',cap,rfl⟩:∃ao n' cap,v'= .slice ao n' cap:=by
  rcases B7.2 with⟨hv,_⟩|⟨g,cap,cur,hv,_⟩
  ·exact⟨_,_,_,hv⟩
  ·exact⟨_,_,_,hv⟩
 go_wp2_with fail
 go_ret2
 refine⟨rfl,?_,?_,(pU.out.trans (KeepT.grown b Ab Bq)).trans (KeepT.set b _ 1 _)⟩
 ·exact Lib.BuilderAt.put (T:=82) (e:=5) hB Ag (bs':=bs++Lib.strCells s) (by simpa [Lib.strCells_length]using B7) (by decide)
 ·exact(Aw.grown Bq (by have:=Aw.size;omega) (fun k hk=>(Ab.lt k hk).1)).setCell (p:=⟨b,1,none⟩) hB _
attribute [local go_sem] Ext.cell Ext.frozen
attribute [local go_sem ↓] Go.wp_at_zero Go.wp_at_succ
def Zav (n:Nat):UInt8:=if n<10 then UInt8.ofNat (48+n)else UInt8.ofNat (87+n)
def Zc3 (c:UInt8):List UInt8:=
 if c=92 then [92,92]else if c=10 then [92,110]else if c=13 then [92,114]else if c=9 then [92,116]else if c=34 then [92,34]
 else if c.toNat<32∨c.toNat=127 then [92,120,Zav (c.toNat / 16),Zav (c.toNat % 16)]else [c]
theorem neU {c:UInt8} {k:Nat} [OfNat UInt8 k] (h: ¬c=OfNat.ofNat k)(hk:(OfNat.ofNat k:UInt8).toNat=k:=by rfl):((c.toNat:Int)==(k:Int))=false:=by
 simp only[beq_eq_false_iff_ne];intro e;exact h (UInt8.toNat_inj.1 (by rw[hk];omega))
theorem Zxo (z:Int)(c:UInt8)(hz:z=(c.toNat:Int))(W:World):
  (convert 80 9 (.slice (some ⟨W.heap.size,0,none⟩) 1 1)).run prog (W.alloc (.cells #[.int .u8 z] 5))= .ok (.string (bs [c])) (W.alloc (.cells #[.int .u8 z] 5)):=by
 refine run_convert_bytes_back _ 80 9 5 ⟨W.heap.size,0,none⟩ 1 [c] underlying80 underlying5 underlying9 ?_;intro j hj;obtain rfl:j=0:=by simp at hj;exact hj
 subst hz;simp[go_sem,Addr.add]
theorem Zlt (w:World):Calls prog 189 #[.int .i64 2] w fun e w'=>e= .returned (.bool true)∧w=w':=by
 go_enter func189,ntmps189
 go_wp2_with fail
 go_ret;exact⟨rfl,rfl⟩
theorem Zmq (c:Nat)(w:World):Calls prog 241 #[.int .u8 (c:Int)] w fun e w'=>e= .returned (.bool (decide (c<32)||decide (c=127)))∧w=w':=by
 by_cases h:c<32
 ·have h1:(c:Int)<32:=by omega
  have h2:decide (c<32)=true:=decide_eq_true h;rw[h2]
  go_enter func241,ntmps241
  go_wp2_with fail
  go_ret;exact⟨rfl,rfl⟩
 ·have h1: ¬(c:Int)<32:=by omega
  have h2:decide (c<32)=false:=decide_eq_false h;have h3:decide (c=127)=((c:Int)==127):=by
   rw[Bool.eq_iff_iff];simp;omega
  rw[h2,h3]
  go_enter func241,ntmps241
  go_wp2_with fail
  go_ret;exact⟨by simp,rfl⟩
theorem Zacs (c:UInt8)(b:Bool)(hc: ¬(c.toNat<32∨c.toNat=127)∨c=10∨c=13∨c=9)(w:World):Calls prog 191 #[.int .i64 2,.int .u8 (c.toNat:Int),.bool b] w fun e w'=>e= .returned (.string (bs (Zc3 c)))∧Below w.heap.size w w':=by
 by_cases Fx:c=92
 ·subst Fx
  go_enter func191,ntmps191
  go_wp2_with fail
  go_ret;exact⟨rfl,Below.refl _ _⟩
 ·by_cases Is:c=10
  ·subst Is
   go_enter func191,ntmps191
   go_wp2_with fail
   go_ret;exact⟨rfl,Below.refl _ _⟩
  ·by_cases Kt:c=13
   ·subst Kt
    go_enter func191,ntmps191
    go_wp2_with fail
    go_ret;exact⟨rfl,Below.refl _ _⟩
   ·by_cases h9:c=9
    ·subst h9
     go_enter func191,ntmps191
     go_wp2_with fail
     go_ret;exact⟨rfl,Below.refl _ _⟩
    ·have V5:=Hd (fun w=>Tryz.strings_IndexByte ⟨#[34]⟩ (c.toNat:Int) w)
     by_cases Fy:c=34
     ·subst Fy;have e1:Lib.indexByte [34] 34=0:=by decide
      have kc:=Zxo 34 34 rfl
      go_enter func191,ntmps191
      go_wp2_with fail
      refine(V5.out _).mono ?_;rintro e w1 ⟨rfl,rfl⟩
      go_wp2_with fail
      go_ret;exact⟨rfl,(Below.refl _ _).alloc (le_refl _) _⟩
     ·have Fz: ¬(c.toNat<32∨c.toNat=127):=by
       rcases hc with h|h|h|h
       ·exact h
       ·exact absurd h Is
       ·exact absurd h Kt
       ·exact absurd h h9
      have HO:Hid (Zc3 c=[c]):=by unfold Hid Zc3;rw[if_neg Fx,if_neg Is,if_neg Kt,if_neg h9,if_neg Fy,if_neg Fz]
      have e1:Lib.indexByte [34] (c.toNat:Int).toNat.toUInt8= -1:=by
       rw[Int.toNat_natCast];have:c.toNat.toUInt8=c:=by simp
       rw[this];have Tc: ¬(34:UInt8)=c:=fun e=>Fy e.symm;simp[Lib.indexByte,Tc]
      have g92:((c.toNat:Int)==92)=false:=neU Fx;have g10:((c.toNat:Int)==10)=false:=neU Is;have g13:((c.toNat:Int)==13)=false:=neU Kt;have g9:((c.toNat:Int)==9)=false:=neU h9;have Hg:=Hd (fun w=>Zmq c.toNat w);have d1:decide (c.toNat<32)=false:=decide_eq_false (fun e=>Fz (.inl e));have d2:decide (c.toNat=127)=false:=decide_eq_false (fun e=>Fz (.inr e));rw[d1,d2]at Hg;have kc:=Zxo (c.toNat:Int) c rfl;simp only[e1]at V5;clear hc Fz Fx Is Kt h9 Fy d1 d2 e1;generalize Zc3 c=ec at *;generalize (c.toNat:Int)=z at *
      go_enter func191,ntmps191
      go_wp2_with fail
      refine(V5.out _).mono ?_;rintro e w1 ⟨rfl,rfl⟩
      go_wp2_with fail
      refine(Hg.out _).mono ?_;rintro e _ ⟨rfl,rfl⟩
      go_wp2_with fail
      refine(Hg.out _).mono ?_;rintro e _ ⟨rfl,rfl⟩
      go_wp2_with fail
      go_ret;exact⟨by rw[HO.out];rfl,(Below.refl _ _).alloc (le_refl _) _⟩
def Zafe:List Int:=[0,1,56,2,57,49,28,3,61,58,42,50,38,29,17,4,62,47,59,36,45,43,51,22,53,39,33,30,24,18,12,5,63,55,48,27,60,41,37,16,46,35,44,21,52,32,23,11,54,26,40,15,34,20,31,10,25,14,19,9,13,8,7,6]
def Zwv (w:World):Prop:=Lib.TabIs prog w "math/bits.deBruijn64tab" .u8 Zafe
theorem Zafz (w:World)(ht:Zwv w):Calls prog 292 #[.int .u64 16] w fun e w'=>e= .returned (.int .i64 4)∧w=w':=by
 have hc:w.cell? ⟨7,15,none⟩=some (.int .u8 4):=by
  rw[Lib.TabIs.cell ht (by kernel_rfl) 15 (by decide)];rfl
 have e1:bits BinOp.and IntKind.u64 16 (IntKind.u64.wrap (-16))=16:=by decide+kernel
 have e2:IntKind.u64.wrap (16 *285870213051353865)=4573923408821661840:=by decide+kernel
 have e3:IntKind.u64.wrap 4573923408821661840=4573923408821661840:=by decide+kernel
 go_enter func292,ntmps292
 go_wp2_with fail
 go_ret;exact⟨rfl,rfl⟩
theorem Zaff (w:World)(ht:Zwv w):Calls prog 248 #[.int .u64 16] w fun e w'=>e= .returned (.int .i64 4)∧w=w':=by
 go_enter func248,ntmps248
 go_wp2_with fail
 refine(Zafz w ht).mono ?_;rintro e w' ⟨rfl,rfl⟩
 go_wp2_with fail
 go_ret;exact⟨rfl,rfl⟩
theorem Zvp (w:World):Calls prog 247 #[.int .i64 16] w fun e w'=>e= .returned (.bool true)∧w=w':=by
 go_enter func247,ntmps247
 go_wp2_with fail
 go_ret;exact⟨rfl,rfl⟩
def TabDeB (w:World):Prop:=∀w',Below w.heap.size w w'→Zwv w'
theorem Zto {u:Nat} (hu:u<16)(h:u<(⟨#[48,49,50,51,52,53,54,55,56,57,97,98,99,100,101,102,103,104,105,106,107,108,109,110,111,112,113,114,115,116,117,118,119,120,121,122]⟩:ByteArray).size):
  (⟨#[48,49,50,51,52,53,54,55,56,57,97,98,99,100,101,102,103,104,105,106,107,108,109,110,111,112,113,114,115,116,117,118,119,120,121,122]⟩:ByteArray)[u]=Zav u:=by
 have k:∀v:Fin 16,(⟨#[48,49,50,51,52,53,54,55,56,57,97,98,99,100,101,102,103,104,105,106,107,108,109,110,111,112,113,114,115,116,117,118,119,120,121,122]⟩:ByteArray)[v.1]'(Nat.lt_of_lt_of_le v.2 (by decide))=Zav v.1:=by decide+kernel
 exact k ⟨u,hu⟩
theorem Zm1:(Tryz.zeroCells258).size=65:=by kernel_rfl
theorem Zadp (c:UInt8)(w:World)(T:TypeId):
  (convert 80 9 (.slice (some ⟨w.heap.size,64,none⟩) 1 1)).run prog (w.alloc (.cells (Tryz.zeroCells258.setIfInBounds 64 (.int .u8 (c.toNat:Int))) T))= .ok (.string (bs [c])) (w.alloc (.cells (Tryz.zeroCells258.setIfInBounds 64 (.int .u8 (c.toNat:Int))) T)):=by
 refine run_convert_bytes_back _ 80 9 5 ⟨w.heap.size,64,none⟩ 1 [c] underlying80 underlying5 underlying9 ?_;intro j hj;obtain rfl:j=0:=by simp at hj;exact hj
 refine(Za2 (Zc1 _ _ _) 64).trans ?_;rw[Array.getElem?_setIfInBounds_self_of_lt (by rw[Zm1];omega)];rfl
theorem Zadm (a b:UInt8)(w:World)(T:TypeId):
  (convert 80 9 (.slice (some ⟨w.heap.size,63,none⟩) 2 2)).run prog (w.alloc (.cells ((Tryz.zeroCells258.setIfInBounds 64 (.int .u8 (b.toNat:Int))).setIfInBounds 63 (.int .u8 (a.toNat:Int))) T))= .ok (.string (bs [a,b])) (w.alloc (.cells ((Tryz.zeroCells258.setIfInBounds 64 (.int .u8 (b.toNat:Int))).setIfInBounds 63 (.int .u8 (a.toNat:Int))) T)):=by
 refine run_convert_bytes_back _ 80 9 5 ⟨w.heap.size,63,none⟩ 2 [a,b] underlying80 underlying5 underlying9 ?_;intro j hj;have:j=0∨j=1:=by simp at hj;omega
 rcases this with rfl|rfl
 ·refine(Za2 (Zc1 _ _ _) 63).trans ?_;rw[Array.getElem?_setIfInBounds_self_of_lt (by rw[Array.size_setIfInBounds,Zm1];omega)];rfl
 ·refine(Za2 (Zc1 _ _ _) 64).trans ?_;rw[Array.getElem?_setIfInBounds_ne (by omega),Array.getElem?_setIfInBounds_self_of_lt (by rw[Zm1];omega)];rfl
theorem Zacq (u:Nat)(hu:u<16)(w:World)(ht:TabDeB w):Calls prog 196 #[.slice none 0 0,.int .u64 (u:Int),.int .i64 16,.bool false,.bool false] w fun e w'=>e= .returned (.tuple #[.slice none 0 0,.string (bs [Zav u])])∧Below w.heap.size w w':=by
 have h1: ¬(16:Int)≤(u:Int):=by omega
 have hd:=Zto hu;have kc:=Zadp (Zav u) w
 go_enter func196,ntmps196
 go_wp2_with fail
 refine(Zvp _).mono ?_;rintro e w' ⟨rfl,rfl⟩
 go_wp2_with fail
 refine(Zaff _ (ht _ ((Below.refl _ _).alloc (le_refl _) _))).mono ?_;rintro e w' ⟨rfl,rfl⟩
 go_wp2_with fail
 refine wp_loop_rounds 1 ?_;rw[rounds_succ]
 go_wp2_with fail
 go_ret2
 exact⟨rfl,(Below.refl _ _).alloc (le_refl _) _⟩
theorem Zals {u:Nat} (hu:u<256):bits BinOp.and IntKind.u64 (u:Int) 15=((u % 16:Nat):Int):=by
 have k:∀v:Fin 256,bits BinOp.and IntKind.u64 (v.1:Int) 15=((v.1 % 16:Nat):Int):=by decide+kernel
 exact k ⟨u,hu⟩
theorem Zact (u:Nat)(h0:16≤u)(hu:u<256)(w:World)(ht:TabDeB w):Calls prog 196 #[.slice none 0 0,.int .u64 (u:Int),.int .i64 16,.bool false,.bool false] w fun e w'=>e= .returned (.tuple #[.slice none 0 0,.string (bs [Zav (u / 16),Zav (u % 16)])])∧Below w.heap.size w w':=by
 have h1:(16:Int)≤(u:Int):=by omega
 have h2: ¬(16:Int)≤(u:Int) / 16:=by omega
 have hd:=Zto (u:=u / 16) (by omega);have Q3:=Zto (u:=u % 16) (by omega);have ha:=Zals hu;have vK:((u:Int) / 16).toNat=u / 16:=by omega
 have kc:=Zadm (Zav (u / 16)) (Zav (u % 16)) w
 go_enter func196,ntmps196
 go_wp2_with fail
 refine(Zvp _).mono ?_;rintro e w' ⟨rfl,rfl⟩
 go_wp2_with fail
 refine(Zaff _ (ht _ ((Below.refl _ _).alloc (le_refl _) _))).mono ?_;rintro e w' ⟨rfl,rfl⟩
 go_wp2_with fail
 refine wp_loop_rounds 2 ?_;rw[rounds_succ]
 go_wp2_with fail
 rw[rounds_succ]
 go_wp2_with fail
 go_ret2
 exact⟨rfl,(Below.refl _ _).alloc (le_refl _) _⟩
def Zah (l:List UInt8):List UInt8:=l.flatMap Zc3
theorem Zu9 (c:UInt8):(Zc3 c).length≤4:=by unfold Zc3;(repeat' split)<;> simp
theorem Zn4 (l:List UInt8):(Zah l).length≤4 *l.length:=by
 induction l with
 |nil=>exact le_refl _
 |cons c l ih=>
  have:Zah (c::l)=Zc3 c++Zah l:=rfl;rw[this,List.length_append,List.length_cons];have:=Zu9 c;omega
theorem Zqw (l:List UInt8)(k:Nat)(h:k<l.length):Zah (l.take (k+1))=Zah (l.take k)++Zc3 (l.getD k 0):=by
 unfold Zah;rw[List.take_succ_eq_append_getElem h,List.flatMap_append];congr 1;simp[List.getD,List.getElem?_eq_getElem h]
def BslOk (c:UInt8)(w:World):Prop:=∀(b:Bool) w',Below w.heap.size w w'→Calls prog 191 #[.int .i64 2,.int .u8 (c.toNat:Int),.bool b] w' fun e w''=>e= .returned (.string (bs (Zc3 c)))∧Below w'.heap.size w' w''
theorem Zafi (s:ByteArray)(w:World)(hs:s.size≤1000000)(hb:∀c∈s.data.toList,BslOk c w):
  Calls prog 136 #[.int .i64 2,.string s] w fun e w'=>e= .returned (.string (bs (Zah s.data.toList)))∧Below w.heap.size w w':=by
 have Et:=Hd Zlt;have pV:=Hd hb;have F0:s.data.toList.length=s.size:=Zbm s;clear hb
 go_enter func136,ntmps136
 go_wp2_with fail
 refine(Et.out _).mono ?_;rintro e _ ⟨rfl,rfl⟩
 go_wp2_with fail
 refine Zbs ?_;intro W hW;have b1:Lib.IsBuilder 82 5 w.heap.size w.heap.size (Lib.byteCells []) W:=by
  refine .inl ⟨le_refl _,.slice none 0 0,?_,World.ownsRow_nil _ _ _ _,by simp[Value.ownBlock]⟩;rw[hW];exact Zc1 _ _ _
 have Ay:Hid (Below w.heap.size w W):=by rw[hW];exact(Below.refl _ _).alloc (le_refl _) _
 have Cs:=Hd b1;clear b1 hW
 go_loopw [12] (fun i wr=>∃k:Nat,i= .int .i64 (k:Int)∧k≤s.size∧Lib.IsBuilder 82 5 w.heap.size w.heap.size (Lib.byteCells (Zah (s.data.toList.take k))) wr∧Below w.heap.size w wr) (fun i _=>s.size -(intOf i).toNat)
 case atStart=>exact⟨0,rfl,Nat.zero_le _,Cs.out,Ay.out⟩
 case round=>
  obtain⟨k,rfl,hk,Xh,Ak⟩:=hrel;have V6:=Hd Xh;have Ac:=Hd Ak;have Bl:=Ak.size;clear Xh Ak
  by_cases Aa:k<s.size
  ·have F8:k<s.data.toList.length:=by rw[F0];exact Aa
   have eQ:s.data.toList.getD k 0∈s.data.toList:=Znl _ k _ F8;have Mv:s[k]=s.data.toList.getD k 0:=by
    simp[List.getD,List.getElem?_eq_getElem F8];rfl
   have mG:=Hd (pV.out _ eQ);have Gm:=Hd (Zqw s.data.toList k F8);have Td:=Zn4 (s.data.toList.take k);have pW:(Zah (s.data.toList.take k)).length≤4000000:=by rw[List.length_take]at Td;omega
   have cD:(bs (Zc3 (s.data.toList.getD k 0))).size≤4:=by rw[Za5];exact Zu9 _
   rw[←Mv]at mG Gm cD;clear Mv Td
   go_wp2_with fail
   refine(Calls.toExt (mG.out _ _ Ac.out)).mono ?_;rintro e _ ⟨rfl,x,rfl⟩;have Ig:Lib.IsBuilder 82 5 w.heap.size w.heap.size (Lib.byteCells (Zah (s.data.toList.take k))) x.1:=by
    have key:∀p,Lib.BuilderAt 82 5 w.heap.size w.heap.size p (Lib.byteCells (Zah (s.data.toList.take k))) wr→Lib.BuilderAt 82 5 w.heap.size w.heap.size p (Lib.byteCells (Zah (s.data.toList.take k))) x.1:=by
     rintro p ⟨h1,v,h2,h3,h4⟩;exact⟨h1,v,(x.2.block _ (Array.getElem?_eq_some_iff.1 h2).1).trans h2,Zci h3 x.2,h4⟩
    exact V6.out.elim (fun h=> .inl (key _ h)) (fun h=> .inr (key _ h))
   have Q4:w.heap.size≤x.1.heap.size:=by have:=x.2.size;omega
   have HW:=Hd (Zn2 w.heap.size w.heap.size _ (bs (Zc3 s[k])) x.1 Ig (by rw[Lib.byteCells_length];omega) Q4);have B8:Hid (Below w.heap.size w x.1):=Ac.out.trans (x.2.mono Bl);obtain⟨X,hX⟩:=x;simp only at HW B8 Q4⊢;clear Ig hX
   go_wp2_with fail
   refine HW.out.mono ?_;rintro e w3 ⟨rfl,Iu,C5,_⟩;have Ju:Hid (Below w.heap.size w w3):=B8.out.trans C5;have Xi:Hid (Lib.IsBuilder 82 5 w.heap.size w.heap.size (Lib.byteCells (Zah (s.data.toList.take (k+1)))) w3):=by
    unfold Hid;rw[Gm.out,show Lib.byteCells (Zah (s.data.toList.take k)++Zc3 s[k])=Lib.byteCells (Zah (s.data.toList.take k))++Lib.strCells (bs (Zc3 s[k])) by rw[Lib.strCells_eq,Zcz];simp[Lib.byteCells]];exact .inr Iu
   clear Iu C5
   go_wp2_with fail
   go_roundw
   case rel=>exact⟨k+1,by go_num,by omega,Xi.out,Ju.out⟩
   case measure=>simp[intOf];omega
  ·obtain rfl:k=s.size:=by omega
   have HS:=Hd (Tryz.Builder_String_any_k w.heap.size w.heap.size (Zah s.data.toList) wr (Lib.IsBuilderF.of (by have:=V6.out;rwa [List.take_of_length_le (by rw[F0];exact le_refl _)]at this)) Bl)
   go_wp2_with fail
   refine HS.out.mono ?_;rintro e w3 ⟨rfl,_,C5,_⟩;have Ju:Hid (Below w.heap.size w w3):=Ac.out.trans C5;clear C5
   go_wp2_with fail
   go_ret;exact⟨rfl,Ju.out⟩
def ItoaOk (i:Int)(w:World):Prop:=(Lib.itoa i).length≤100∧∀w',Below w.heap.size w w'→Calls prog 34 #[.int .i64 i] w' fun e w''=>e= .returned (.string (bs (Lib.itoa i)))∧Below w'.heap.size w' w''
theorem BslOk.below {c:UInt8} {w w':World} (h:BslOk c w)(hb:Below w.heap.size w w'):BslOk c w':=fun b w2 h2=>h b w2 (hb.trans (h2.mono hb.size))
theorem TabDeB.below {w w':World} (h:TabDeB w)(hb:Below w.heap.size w w'):TabDeB w':=fun w2 h2=>h w2 (hb.trans (h2.mono hb.size))
def Zt4 (u:Nat):List UInt8:=if u<16 then [Zav u]else [Zav (u / 16),Zav (u % 16)]
theorem Zalg (u:Nat)(hu:u<256)(w:World)(ht:TabDeB w):Calls prog 196 #[.slice none 0 0,.int .u64 (u:Int),.int .i64 16,.bool false,.bool false] w fun e w'=>e= .returned (.tuple #[.slice none 0 0,.string (bs (Zt4 u))])∧Below w.heap.size w w':=by
 unfold Zt4
 by_cases h:u<16
 ·rw[if_pos h];exact Zacq u h w ht
 ·rw[if_neg h];exact Zact u (by omega) hu w ht
theorem Zuv (u:Nat)(hu:u<256)(w:World)(ht:TabDeB w):Calls prog 138 #[.int .i64 (u:Int),.int .i64 16] w fun e w'=>e= .returned (.string (bs (Zt4 u)))∧Below w.heap.size w w':=by
 have h1: ¬(u:Int)<0:=by omega
 have h2:(u:Int)<18446744073709551616:=by omega
 go_enter func138,ntmps138
 go_wp2_with fail
 refine(Zalg u hu _ ht).mono ?_;rintro e w' ⟨rfl,hb⟩
 go_wp2_with fail
 go_ret;exact⟨rfl,hb⟩
theorem Zta (u:Nat)(hu:u<256)(w:World)(ht:TabDeB w):Calls prog 289 #[.int .i64 (u:Int),.int .i64 16] w fun e w'=>e= .returned (.string (bs (Zt4 u)))∧Below w.heap.size w w':=by
 go_enter func289,ntmps289
 go_wp2_with fail
 refine(Zuv u hu _ ht).mono ?_;rintro e w' ⟨rfl,hb⟩
 go_wp2_with fail
 go_ret;exact⟨rfl,hb⟩
theorem Zabu (w:World):Calls prog 290 #[.string ⟨#[48]⟩,.int .i64 0] w fun e w'=>e= .returned (.string ⟨#[]⟩)∧w=w':=by
 go_enter func290,ntmps290
 go_wp2_with fail
 go_ret;exact⟨rfl,rfl⟩
theorem Zacf (w:World):Calls prog 290 #[.string ⟨#[48]⟩,.int .i64 1] w fun e w'=>e= .returned (.string ⟨#[48]⟩)∧w=w':=by
 go_enter func290,ntmps290
 go_wp2_with fail
 go_ret;exact⟨rfl,rfl⟩
theorem Zaid (u:Nat)(hu:u<256)(w:World)(ht:TabDeB w):Calls prog 242 #[.int .u8 (u:Int),.int .i64 2] w fun e w'=>e= .returned (.string (bs [Zav (u / 16),Zav (u % 16)]))∧Below w.heap.size w w':=by
 have HF:=Hd (Zta u hu w ht);have h0:(0:Int)≤(u:Int):=by omega
 have h2:(u:Int)<9223372036854775808:=by omega
 unfold Zt4 at HF
 by_cases h:u<16
 ·rw[if_pos h]at HF;have e1:u / 16=0:=by omega
  have e2:u % 16=u:=by omega
  rw[e1,e2];have hs:(bs [Zav u]).size=1:=by rw[Za5];rfl
  have ha:=fun w=>run_string_add_sum (P:=prog) (w:=w) ⟨#[48]⟩ (bs [Zav u]) (by rw[hs];decide);have HE:Hid ((⟨#[48]⟩:ByteArray)++bs [Zav u]=bs [Zav 0,Zav u]):=by
   rw[show(⟨#[48]⟩:ByteArray)=bs [48]from rfl,Hid,Zd0];rfl
  generalize bs [Zav u]=D at *;clear e1 e2
  go_enter func242,ntmps242
  go_wp2_with fail
  refine(HF.out).mono ?_;rintro e w' ⟨rfl,hb⟩
  go_wp2_with fail
  refine(Zacf _).mono ?_;rintro e w2 ⟨rfl,rfl⟩
  go_wp2_with fail
  go_ret;exact⟨by rw[←HE.out];rfl,hb⟩
 ·rw[if_neg h]at HF;have hs:(bs [Zav (u / 16),Zav (u % 16)]).size=2:=by rw[Za5];rfl
  have ha:=fun w=>run_string_add_sum (P:=prog) (w:=w) ⟨#[]⟩ (bs [Zav (u / 16),Zav (u % 16)]) (by rw[hs];decide);have HE:Hid ((⟨#[]⟩:ByteArray)++bs [Zav (u / 16),Zav (u % 16)]=bs [Zav (u / 16),Zav (u % 16)]):=by
   rw[show(⟨#[]⟩:ByteArray)=bs []from rfl,Hid,Zd0];rfl
  generalize bs [Zav (u / 16),Zav (u % 16)]=D at *
  go_enter func242,ntmps242
  go_wp2_with fail
  refine(HF.out).mono ?_;rintro e w' ⟨rfl,hb⟩
  go_wp2_with fail
  refine(Zabu _).mono ?_;rintro e w2 ⟨rfl,rfl⟩
  go_wp2_with fail
  go_ret;exact⟨by first|(rw[HE.out];rfl)|rfl,hb⟩
theorem Zaev (c:UInt8)(b:Bool)(hc:c.toNat<32∨c.toNat=127)(Is:c≠10)(Kt:c≠13)(h9:c≠9)(w:World)(ht:TabDeB w):Calls prog 191 #[.int .i64 2,.int .u8 (c.toNat:Int),.bool b] w fun e w'=>e= .returned (.string (bs (Zc3 c)))∧Below w.heap.size w w':=by
 have Fx: ¬c=92:=fun e=>by subst e;revert hc;decide
 have Fy: ¬c=34:=fun e=>by subst e;revert hc;decide
 have V5:=Hd (fun w=>Tryz.strings_IndexByte ⟨#[34]⟩ (c.toNat:Int) w);have e1:Lib.indexByte [34] (c.toNat:Int).toNat.toUInt8= -1:=by
  rw[Int.toNat_natCast];have:c.toNat.toUInt8=c:=by simp
  rw[this];have Tc: ¬(34:UInt8)=c:=fun e=>Fy e.symm;simp[Lib.indexByte,Tc]
 have g92:((c.toNat:Int)==92)=false:=neU Fx;have g10:((c.toNat:Int)==10)=false:=neU Is;have g13:((c.toNat:Int)==13)=false:=neU Kt;have g9:((c.toNat:Int)==9)=false:=neU h9;have Hg:=Hd (fun w=>Zmq c.toNat w);have d1:(decide (c.toNat<32)||decide (c.toNat=127))=true:=by
  rw[Bool.or_eq_true,decide_eq_true_eq,decide_eq_true_eq];exact hc
 rw[d1]at Hg;have HX:=Hd (fun w' (h:TabDeB w')=>Zaid c.toNat c.toNat_lt w' h);have he:Zc3 c=[92,120,Zav (c.toNat / 16),Zav (c.toNat % 16)]:=by
  unfold Zc3;rw[if_neg Fx,if_neg Is,if_neg Kt,if_neg h9,if_neg Fy,if_pos hc]
 have hs:(bs [Zav (c.toNat / 16),Zav (c.toNat % 16)]).size=2:=by rw[Za5];rfl
 have ha:=fun w=>run_string_add_sum (P:=prog) (w:=w) ⟨#[92,120]⟩ (bs [Zav (c.toNat / 16),Zav (c.toNat % 16)]) (by rw[hs];decide);have HE:Hid ((⟨#[92,120]⟩:ByteArray)++bs [Zav (c.toNat / 16),Zav (c.toNat % 16)]=bs (Zc3 c)):=by
  rw[show(⟨#[92,120]⟩:ByteArray)=bs [92,120]from rfl,Hid,Zd0,he];rfl
 simp only[e1]at V5;clear hc Fx Is Kt h9 Fy d1 e1 he hs;generalize Zc3 c=ec at *;generalize bs [Zav (c.toNat / 16),Zav (c.toNat % 16)]=D at *;generalize (c.toNat:Int)=z at *;have V7:=Hd ht;clear ht
 go_enter func191,ntmps191
 go_wp2_with fail
 refine(V5.out _).mono ?_;rintro e w1 ⟨rfl,rfl⟩
 go_wp2_with fail
 refine(Hg.out _).mono ?_;rintro e _ ⟨rfl,rfl⟩
 go_wp2_with fail
 refine(Hg.out _).mono ?_;rintro e _ ⟨rfl,rfl⟩
 go_wp2_with fail
 refine(HX.out _ V7.out).mono ?_;rintro e w2 ⟨rfl,hb⟩
 go_wp2_with fail
 go_ret;exact⟨by rw[←HE.out];rfl,hb⟩
theorem Zaiq (c:UInt8) {w:World} (ht:TabDeB w):BslOk c w:=fun b w' g=>by
 by_cases hc: ¬(c.toNat<32∨c.toNat=127)∨c=10∨c=13∨c=9
 ·exact Zacs c b hc w'
 ·have h1: ¬(c=10∨c=13∨c=9):=fun e=>hc (.inr e);exact Zaev c b (Classical.byContradiction fun e=>hc (.inl e)) (fun e=>h1 (.inl e)) (fun e=>h1 (.inr (.inl e))) (fun e=>h1 (.inr (.inr e))) w' (ht.below g)
end Go.Proofs.YtmleeodfmmpdgaaGreatDoor
