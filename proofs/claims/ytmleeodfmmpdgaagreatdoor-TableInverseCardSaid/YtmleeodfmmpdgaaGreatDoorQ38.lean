/- part -/
import Derived.Test.YtmleeodfmmpdgaaGreatDoorQ37
set_option maxRecDepth 20000
set_option maxHeartbeats 8000000
namespace Go.Proofs.YtmleeodfmmpdgaaGreatDoor
open Go.RowKit
attribute [local go_sem] Ext.cell Ext.frozen
attribute [local go_sem ↓] Go.wp_at_zero Go.wp_at_succ
open _root_.List (getElem_mem map_append mem_cons_self)
open _root_.Nat (le_refl le_trans)
open _root_.ByteArray (toList_eq)
open _root_.Go.Proofs.Tryz
theorem Zqo {w:World} {base:Nat} {E:TypeId} {ad:Option Addr} {n c:Nat} {xs:List Value} (h:w.ownsRow base E 1 (.slice ad n c) n xs)(e:ad=none):c=0:=by
 rcases h.2 with⟨h1,h0⟩|⟨g,cap,cur,h1,_⟩
 ·injection h1
 ·injection h1 with h2;rw[e]at h2;cases h2
theorem Zgf (W0:World)(xs:List ByteArray)(cs:Array Value)(Dc:cs=(xs.map Value.string).toArray)(_h0:xs≠[])(hn:xs.length≤1000)(base:Nat)(hb:base≤W0.heap.size)(B:Nat)(hB:W0.heap.size=B):
  (W0.alloc (.cells cs 9)).ownsRow base 9 1 (.slice (some ⟨B,0,none⟩) xs.length xs.length) xs.length (Zae xs):=by
 subst hB Dc;refine⟨by simp[Zco],.inr ⟨W0.heap.size,xs.length,(Zae xs).toArray,rfl,hb,?_,le_refl _,by unfold maxLen;omega,by simp[Zco],?_⟩⟩
 ·show(W0.heap.push _)[W0.heap.size]? =_;simp[Zae]
 ·simp[Zco,List.take_of_length_le]
theorem PB.grown {B b:Nat} {l:List UInt8} {w w':World} (h:PB B b l w) {base:Nat} {v:Value} {k:Nat} {xs:List Value} (hr:w.ownsRow base 9 1 v k xs)(hg:w.grownBy w' v.ownBlock):PB B b l w':=by
 obtain⟨h1,h2⟩:=h;have aW:some b≠v.ownBlock:=by
  have hb:∃cs,w.heap[b]? =some (.cells cs 84 (0,0)):=by
   rcases h1 with⟨_,_,h,_⟩|⟨_,_,h,_⟩
   ·exact⟨_,h⟩
   ·exact⟨_,h⟩
  obtain⟨cs,hb⟩:=hb;exact fun e=>Lib.ownBlock_ne hr hb (by decide) e.symm
 have key:∀p,Lib.BuilderAt 84 5 B b p (Lib.byteCells l) w→Lib.BuilderAt 84 5 B b p (Lib.byteCells l) w':=by
  rintro p h;have Aa:=h.lt;obtain⟨hB,u,Dm,Ab,Az⟩:=h;refine⟨hB,u,(hg.block b Aa aW).trans Dm,Ab.kept hg ?_,Az⟩;rcases hr.2 with⟨rfl,_⟩|⟨g,cap,cur,rfl,_,Ag,_⟩
  ·exact Decidable.em _
  ·exact .inr (Lib.ownBlock_ne Ab Ag (by decide))
 have Aa:b<w.heap.size:=by
  rcases h1 with h|h
  ·exact h.lt
  ·exact h.lt
 refine⟨h1.imp (key _) (key _),fun e=>?_⟩;rw[show w'.cell? ⟨b,1,none⟩=w.cell? ⟨b,1,none⟩ by unfold World.cell?;rw[hg.block b Aa aW]];exact h2 e
theorem Zpv (B b:Nat)(t:List UInt8)(ad:Option Addr)(k c:Nat)(xs:List ByteArray)(v:Value)(l:List ByteArray)(w:World)(h:PB B b t w)(hx:xs≠[])(hB:B≤w.heap.size)(Ab:w.ownsRow B 9 1 (.slice ad k c) k (Zae xs))
  (hk:k≤1000) (hv:RowsOf 1 OneS w v l) (hn:l.length≤1000) (hz:∀s∈l,s.size≤200000) (hD:TabDeB w) (hl:(Zbb (xs.map (·.data.toList)) l).length≤100000000) (ht:t.length≤1000000000000):
  Calls prog 82 #[.pointer (some ⟨b,0,none⟩),.slice ad k c,v] w fun e w'=>e= .returned (.tuple #[])∧PB B b (t++Zbb (xs.map (·.data.toList)) l) w'∧Below B w w'∧Oth b w w':=by
 have HQ:=Hd (Zj9 v l w hv hn hz hD);have HE:Hid ((xs++l.map (fun s=>bs (qT s))).map (·.data.toList)=xs.map (·.data.toList)++l.map qT):=by
  rw[Hid,map_append,List.map_map];rfl
 have oX:Hid (Zbb (xs.map (·.data.toList)) l=Zaw [9] ((xs++l.map (fun s=>bs (qT s))).map (·.data.toList))):=by rw[Hid,HE.out];rfl
 rw[oX.out]at hl⊢;have HP:=Hd h;have HO:=Hd Ab;have mK:Hid ((l.map (fun s=>bs (qT s))).length=l.length):=List.length_map _;have Bj:Hid (xs++l.map (fun s=>bs (qT s))≠[]):=fun e=>hx (List.append_eq_nil_iff.1 e).1;have dX:Hid (Zae xs++Zae (l.map (fun s=>bs (qT s)))=Zae (xs++l.map (fun s=>bs (qT s)))):=by unfold Hid Zae;rw[map_append]
 have Wr:Hid (xs.length=k):=by have:=Ab.1;rwa [Zco,Nat.mul_one]at this
 clear h Ab hv hz hD HE oX hx;generalize l.map (fun s=>bs (qT s))=ql at *;generalize l.length=n at *
 go_enter func82,ntmps82
 go_wp2_with fail
 refine HQ.out.mono ?_;rintro e w2 ⟨ad2,c2,rfl,hq,Ag⟩;have E8:=Hd hq;have Kz:=Hd (HP.out.kept Ag);have F4:=Hd (Zci HO.out Ag);have Ai:Hid (Below B w w2):=Ag.mono hB;have kJ:Hid (Oth b w w2):=Oth.below Ag;have A7:=Ai.out.size;clear hq Ag HQ HP HO
 go_wp2_with (at_builtin;go_loud (refine Zj4 rfl (.tmp 7) (.tmp 9) rfl B ad k c (Zae xs) rfl F4.out ad2 n c2 ql rfl (Own.sl E8.out) (Zqo E8.out) (by omega) (by omega) ?_;intro ad3 c3 w3 Ae A5 _;have Ce:=Hd Ae;have G9:=Hd (Kz.out.grown F4.out A5);have kK:Hid (Oth b w w3):=kJ.out.trans (Oth.grown F4.out (.inr rfl) A5);have C3:Hid (Below B w w3):=Ai.out.grown A5 (le_trans hB A7) (fun j hj=>(World.ownsRow.lt F4.out j hj).1);clear Ae A5))
 rw[Hid,dX.out]at Ce;replace Ce:=Hd Ce;refine(Zh4 B b t ⟨#[9]⟩ ad3 (k+n) c3 (xs++ql) w3 G9.out (Own.sl Ce.out) Bj.out (by omega) (Zlq Ce.out) (by decide) (le_trans hB C3.out.size) hl ht).mono ?_;rintro e w4 ⟨rfl,oY,Dk,oZ⟩;have X2:=Hd oY;have kL:Hid (Oth b w w4):=kK.out.trans oZ;have D8:Hid (Below B w w4):=C3.out.trans Dk;clear oY Dk oZ
 go_wp2_with fail
 go_end0;exact⟨rfl,X2.out,D8.out,kL.out⟩
theorem Zy9 {w:World} {base:Nat} {ad:Option Addr} {c:Nat} {s:ByteArray} (h:w.ownsRow base 9 1 (.slice ad 1 c) 1 (Zae [s])):
  ∃g,base≤g∧(∀W,(Instr.indexAt 44 (.slice ad 1 c) (.int .i64 0)).run prog W= .ok (.pointer (some ⟨g,0,none⟩)) W)∧w.cell? ⟨g,0,none⟩=some (.string s)∧g<w.heap.size:=by
 rcases h.2 with⟨e1,e0⟩|⟨g,cap,cur,e1,hg,hb,hc,hm,hs,ht⟩
 ·omega
 ·injection e1 with i1 i2 i3;subst i1;have Jv:w.cell? ⟨g,0,none⟩=some (.string s):=by
   have h1:cur.toList[0]? =some (.string s):=by
    have h2:(cur.toList.take (1 *1))[0]? =(Zae [s])[0]? :=by rw[ht]
    rw[List.getElem?_take]at h2
    simpa [Zae]using h2
   simp only[World.cell?,hb];rw[←Array.getElem?_toList];exact h1
  have Aa:=World.block_lt_of_cell? _ _ Jv;have hr:Rw w (some ⟨g,0,none⟩) 1 1 (fun _ _=> .string s) g 0:=⟨by decide,fun _=>rfl,fun i j hi hj=>by
   obtain rfl:i=0:=by omega
   obtain rfl:j=0:=by omega
   exact Jv⟩
  have Ci:=hr.ix (P:=prog) 44 9 underlying44 (by kernel_rfl) (by decide) (i:=0) (by decide) c;simp only[Nat.zero_mul,Nat.add_zero]at Ci;exact⟨g,hg,fun W=>Ci W,Jv,Aa⟩
theorem Zwo (w0:World)(b:Nat)(t:List UInt8)(kw:ByteArray)(v:Value)(l:List (ByteArray×List (List Rel)))(w:World)(h:RulesAt w0 v l)(h0:Below w0.heap.size w0 w)(hp:PB w0.heap.size b t w)
  (B6:∀r∈l,Zb7 r=true) (hl:l.length≤1000) (hc:∀r∈l,r.2.length≤30) (dY:kw.size≤10) (ht:t.length≤500000000000) (hT:TabTen w0) (hD:TabDeB w0):
  Calls prog 80 #[.pointer (some ⟨b,0,none⟩),.string kw,v] w fun e w'=>e= .returned (.tuple #[])∧PB w0.heap.size b (t++Zbt kw.data.toList l) w'∧Below w0.heap.size w w'∧Oth b w w':=by
 obtain⟨ad,c,f,bb,off,rfl,hr,_,_,_,hf⟩:=h.opn;have Re:∀k,(Zbt kw.data.toList (l.take k)).length≤160000000:=fun k=>by
  have h1:=Zhi (l:=l.take k) (fun r hr=>B6 r (List.mem_of_mem_take hr)) kw.data.toList (by rw[Zcy];exact dY);rw[List.length_take]at h1;have h2:=Nat.mul_le_mul_right 160000 (show min k l.length≤1000 by omega);omega
 obtain⟨n,Io⟩:∃n,l.length=n:=⟨_,rfl⟩;rw[Io]at hr hl⊢;have Hb:=Hd Io;have HR:=Hd hr;have HF:=Hd hf;have HP:=Hd hp;have H0:=Hd h0;have Cc:=h0.size;have cT:=Hd Re;have C6:=Hd B6;have tH:=Hd hc;have Qd:=Hd hT;have S5:=Hd hD;clear h hr hf Io hp h0 Re B6 hc hT hD
 go_enter func80,ntmps80
 go_wp2_with fail
 go_loopw [12] (fun i wr=>∃k:Nat,i= .int .i64 (k:Int)∧k≤n∧PB w0.heap.size b (t++Zbt kw.data.toList (l.take k)) wr∧Below w0.heap.size w wr∧Oth b w wr) (fun i _=>n -(intOf i).toNat)
 case atStart=>exact⟨0,rfl,Nat.zero_le _,by have:=HP.out;simpa [Zbt]using this,Below.refl _ _,Oth.refl _ _⟩
 case round=>
  obtain⟨k,rfl,Co,hp,Ak,pA⟩:=hrel;have V9:=Hd hp;have pB:=Hd pA;have wJ:=hp.lt;have Ac:=Hd Ak;have Ay:Hid (Below w0.heap.size w0 wr):=H0.out.trans Ak;have Bl:=Ay.out.size;clear hp Ak pA
  by_cases Aa:k<n
  ·have A4:=HR.out.below Ay.out;have Ci:=fun W=>A4.ix 38 51 underlying38 (by kernel_rfl) (by omega) Aa c W;have c0:=A4.cell k 0 Aa (by omega);have c1:=A4.cell k 1 Aa (by omega);have F8:k<l.length:=by rw[Hb.out];exact Aa
   obtain⟨e0,e1⟩:=HF.out k F8;obtain⟨ad4,c4,Vm⟩:=RowsOf.shape e1;have B6:=C6.out l[k] (getElem_mem F8);have Wt:Hid (∀W,Below w0.heap.size w0 W→Calls prog 135 #[.slice ad4 l[k].2.length c4] W fun e w'=>e= .returned (.tuple #[.string (bs (Zad l[k].2)),.int .i64 (0:Nat)])∧Below W.heap.size W w'):=fun W g=>by
    have tI:Zbw l[k].2=true:=by unfold Zb7 at B6;rw[Bool.and_eq_true]at B6;exact B6.2
    have:=Zup (f k 1) l[k].2 W (e1.below g) (tH.out _ (getElem_mem F8)) (Qd.out.below g)
    rwa [show Zj5 l[k].2=(Zad l[k].2,0) by unfold Zj5;rw[tI];rfl,Vm]at this
   have Ij:(bs (Zad l[k].2)).size≤13000:=by
    unfold Zb7 at B6;rw[Bool.and_eq_true]at B6;rw[Za5];exact Znd (Zko B6.2)
   have D0:=Zru B6 kw.data.toList (by rw[Zcy];exact dY);have Ds:Hid (Zbt kw.data.toList (l.take (k+1))=Zbt kw.data.toList (l.take k)++Zaw [9] ([kw,l[k].1,bs (qT (bs (Zad l[k].2)))].map (·.data.toList))):=by
    unfold Hid Zbt;rw[List.take_succ_eq_append_getElem F8,List.flatMap_append];simp only[List.flatMap_cons,List.flatMap_nil,List.append_nil];rfl
   have mI:=cT.out k;rw[e0,Nat.add_zero]at c0;rw[Vm]at c1;replace D0:(Zaw [9] ([kw,l[k].1,bs (qT (bs (Zad l[k].2)))].map (·.data.toList))).length≤160000:=D0;clear A4 e0 e1 Vm B6;generalize Zbt kw.data.toList (l.take k)=T0 at *;generalize bs (Zad l[k].2)=C at *;generalize l[k].1=r1 at *;generalize l[k].2.length=m4 at *;obtain⟨A,hA⟩:∃A,wr.heap.size=A:=⟨_,rfl⟩;have G7:A≠b:=by omega
   go_wp2_with fail
   have B8:Hid (Below w0.heap.size w0 (wr.alloc (.cells #[.string r1,.slice ad4 m4 c4] 51))):=Ay.out.alloc Bl _;refine(Wt.out _ B8.out).mono ?_;rintro e wa ⟨rfl,hb⟩;have k0:wa.cell? ⟨A,0,none⟩=some (.string r1):=by rw[←hA,hb.cell (p:=⟨wr.heap.size,0,none⟩) (by simp)];simp[go_sem]
   have k1:wa.cell? ⟨A,1,none⟩=some (.slice ad4 m4 c4):=by rw[←hA,hb.cell (p:=⟨wr.heap.size,1,none⟩) (by simp)];simp[go_sem]
   have Fa:A<wa.heap.size:=World.block_lt_of_cell? _ _ k0;have F6:=Hd (V9.out.kept (((Below.refl wr.heap.size wr).alloc (le_refl _) (.cells #[.string r1,.slice ad4 m4 c4] 51)).trans (hb.mono (by simp))));have HB:Hid (Below w0.heap.size w0 wa):=B8.out.trans (hb.mono B8.out.size);have aX:Hid (Oth b w wa):=pB.out.trans (Oth.below (((Below.refl wr.heap.size wr).alloc (le_refl _) (.cells #[.string r1,.slice ad4 m4 c4] 51)).trans (hb.mono (by simp))));have aY:Hid (Cel wa A 51 [.string r1,.slice ad4 m4 c4]):=by rw[←hA];exact(Cel.new wr [.string r1,.slice ad4 m4 c4] 51).below (hb.mono (by simp))
   have Ip:Hid (Below w0.heap.size wr wa):=(((Below.refl wr.heap.size wr).alloc (le_refl _) (.cells #[.string r1,.slice ad4 m4 c4] 51)).trans (hb.mono (by simp))).mono Ay.out.size;clear hb V9 Wt B8 c0 c1 Ci
   go_wp2_with fail
   refine wp_region_held_drew (S:=(fun w'=>w'.cell? ⟨A,0,none⟩=some (.string r1)∧w'.cell? ⟨A,1,none⟩=some (.slice ad4 m4 c4))) (by kernel_rfl) ?_ (fun hHeld=>?_)
   ·go_keep
   refine Tk 0 ?_;refine Tk 1 ?_;refine Tk 2 ?_;refine Tk 3 ?_;refine Tk 4 ?_;replace F6:Hid (PB w0.heap.size b (t++T0) wa.drew):=F6.out.kept (Below.refl _ _).drew;replace HB:Hid (Below w0.heap.size w0 wa.drew):=HB.out.drew;replace aX:Hid (Oth b w wa.drew):=aX.out.trans (Oth.below (Below.refl _ _).drew);replace aY:Hid (Cel wa.drew A 51 [.string r1,.slice ad4 m4 c4]):=aY.out;replace Ip:Hid (Below w0.heap.size wr wa.drew):=Ip.out.drew;replace k0:wa.drew.cell? ⟨A,0,none⟩=some (.string r1):=k0;replace k1:wa.drew.cell? ⟨A,1,none⟩=some (.slice ad4 m4 c4):=k1;replace Fa:A<wa.drew.heap.size:=Fa;generalize wa.drew=wd at *;refine Rx 5 fun K hK=>?_
   go_simp
   clear hHeld;refine hK.out _ _ (⟨Zdc k0,Zdc k1⟩) fun hHeld=>?_;clear hK K;have As:=Hd (Ze3 wd [C] #[.string C] 9 rfl (by simp) (fun s hs=>by rw[List.mem_singleton.1 hs];omega) wd.heap.size rfl);refine Rx 6 fun K hK=>?_
   go_simp
   have Aw:=(Below.refl wd.heap.size wd).alloc (le_refl _) (.cells #[.string C] 9);refine(Zj9 _ [C] _ As.out (by simp) (fun s hs=>by rw[List.mem_singleton.1 hs];omega) (S5.out.below (HB.out.trans (Aw.mono HB.out.size)))).mono ?_;rintro e w5 ⟨ad5,c5,rfl,X6,hb⟩;replace hb:=Aw.trans (hb.mono (by simp));replace k0:=(Below.cell hb (p:=⟨A,0,none⟩) Fa).trans k0;replace k1:=(Below.cell hb (p:=⟨A,1,none⟩) Fa).trans k1;replace F6:Hid (PB w0.heap.size b (t++T0) w5):=F6.out.kept hb;have L7:Hid (Below w0.heap.size w0 w5):=HB.out.trans (hb.mono HB.out.size);replace Ip:Hid (Below w0.heap.size wr w5):=Ip.out.trans (hb.mono HB.out.size);replace aX:Hid (Oth b w w5):=aX.out.trans (Oth.below hb);replace aY:Hid (Cel w5 A 51 [.string r1,.slice ad4 m4 c4]):=aY.out.below hb;replace HB:=L7;replace Fa:A<w5.heap.size:=Nat.lt_of_lt_of_le Fa hb.size;obtain⟨g5,wK,tJ,wL,wM⟩:=Zy9 X6;clear hb Aw X6 As
   go_simp
   clear hHeld;refine hK.out _ _ (⟨k0,k1⟩) fun hHeld=>?_;clear hK K;refine Tk 7 ?_;refine Rx 8 fun K hK=>?_
   go_simp
   clear hHeld;refine hK.out _ _ (⟨k0,k1⟩) fun hHeld=>?_;clear hK K;refine Rx 9 fun K hK=>?_
   go_simp
   clear hHeld;refine hK.out _ _ (⟨Zdc k0,Zdc k1⟩) fun hHeld=>?_;clear hK K;refine Rx 10 fun K hK=>?_
   go_simp
   have Aw:=(Below.refl w5.heap.size w5).alloc (le_refl _) (.cells #[.string kw,.string r1,.string (bs (qT C))] 9);have P4:=Zgf w5 [kw,r1,bs (qT C)] #[.string kw,.string r1,.string (bs (qT C))] rfl (by simp) (by simp) w0.heap.size HB.out.size w5.heap.size rfl;refine(Zh4 w0.heap.size b (t++T0) ⟨#[9]⟩ _ 3 3 [kw,r1,bs (qT C)] _ (F6.out.kept Aw) (Own.sl P4) (by simp) (by omega) (by omega) (by decide) (le_trans HB.out.size (by simp)) (le_trans D0 (by omega)) (by rw[List.length_append];omega)).mono ?_;rintro e w6 ⟨rfl,pC,Iu,kM⟩;have tK:=Hd pC;have My:Hid (Below w0.heap.size wr w6):=Ip.out.trans ((Aw.mono HB.out.size).trans Iu);have tL:Hid (Oth b w w6):=aX.out.trans ((Oth.below Aw).trans kM);have We:=(aY.out.below Aw).oth kM G7 (by decide) (by decide);replace k0:=We.cell 0;replace k1:=We.cell 1;simp only[Le0,Le1]at k0 k1;clear pC Iu Aw P4 kM We
   go_simp
   clear hHeld;refine hK.out _ _ (⟨k0,k1⟩) fun hHeld=>?_;clear hK K;refine Dn ?_;clear hHeld
   go_wp2_with fail
   go_roundw
   case rel=>exact⟨k+1,by go_num,by omega,by rw[Ds.out,←List.append_assoc];exact tK.out,Ac.out.trans My.out,tL.out⟩
   case measure=>simp[intOf];omega
  ·obtain rfl:k=n:=by omega
   have HE:Hid (PB w0.heap.size b (t++Zbt kw.data.toList l) wr):=by
    have:=V9.out
    rwa [List.take_of_length_le (by rw[Hb.out];exact le_refl _)]at this
   go_wp2_with fail
   go_end0;exact⟨rfl,HE.out,Ac.out,pB.out⟩
structure LS (w0 w:World) (b A:Nat) (cl:List Value) (t:List UInt8) (wx:World):Prop where
 pb:PB w0.heap.size b t wx
 cel:Cel wx A 46 cl
 bel:Below w0.heap.size w wx
 oth:Oth b w wx
 all:Below w0.heap.size w0 wx
theorem Zyb (a b c:List ByteArray):Zae (a++b++c)=Zae a++Zae b++Zae c:=by unfold Zae;rw[map_append,map_append]
section
variable {w0 w : World} {b A : Nat} {cl : List Value} {t : List UInt8} {wx : World}
theorem LS.step (h:LS w0 w b A cl t wx)(hA:A≠b) {t':List UInt8} {w':World} (hp:PB w0.heap.size b t' w')(hb:Below w0.heap.size wx w')(ho:Oth b wx w'):LS w0 w b A cl t' w':=
 ⟨hp,h.cel.oth ho hA (by decide) (by decide),h.bel.trans hb,h.oth.trans ho,h.all.trans hb⟩
theorem LS.below (h:LS w0 w b A cl t wx) {w':World} (hb:Below wx.heap.size wx w'):LS w0 w b A cl t w':=
 ⟨h.pb.kept hb,h.cel.below hb,h.bel.trans (hb.mono h.all.size),h.oth.trans (Oth.below hb),h.all.trans (hb.mono h.all.size)⟩
theorem LS.alloc (h:LS w0 w b A cl t wx)(o:Obj):LS w0 w b A cl t (wx.alloc o):=h.below ((Below.refl _ _).alloc (le_refl _) _)
theorem LS.drew (h:LS w0 w b A cl t wx):LS w0 w b A cl t wx.drew:=h.below (Below.refl _ _).drew
theorem LS.app (h:LS w0 w b A cl t wx)(hA:A≠b) {v:Value} {k:Nat} {xs:List Value} (Ab:wx.ownsRow w0.heap.size 9 1 v k xs) {w':World} (hg:wx.grownBy w' v.ownBlock):LS w0 w b A cl t w':=
 h.step hA (h.pb.grown Ab hg) ((Below.refl _ _).grown hg h.all.size (fun j hj=>(World.ownsRow.lt Ab j hj).1)) (Oth.grown Ab (.inr rfl) hg)
theorem LS.write (h:LS w0 w b A cl t wx)(hA:A≠b)(s:ByteArray)(hs:s.size≠0)(hz:s.size≤1000000)(ht:t.length≤1000000000000):
  Calls prog 79 #[.pointer (some ⟨b,0,none⟩),.string s] wx fun e w'=>e= .returned (.tuple #[.int .i64 s.size,.nilIface])∧LS w0 w b A cl (t++s.data.toList) w':=
 (Zon w0.heap.size b t s wx h.pb hs (by omega) h.all.size).mono fun _ _ ⟨h1,h2,h3,h4⟩=>⟨h1,h.step hA h2 h3 h4⟩
theorem LS.line (h:LS w0 w b A cl t wx)(hA:A≠b)(id:ByteArray)(hi:id.size≤1)(xs:List ByteArray)(cs:Array Value)(Dc:cs=(xs.map Value.string).toArray)(h0:xs≠[])(hn:xs.length≤1000)(B:Nat)(hB:wx.heap.size=B)
  (hl:(Zaw id.data.toList (xs.map (·.data.toList))).length≤100000000) (ht:t.length≤1000000000000):
  Calls prog 33 #[.pointer (some ⟨b,0,none⟩),.string id,.slice (some ⟨B,0,none⟩) xs.length xs.length] (wx.alloc (.cells cs 9)) fun e w'=>e= .returned (.tuple #[])∧LS w0 w b A cl (t++Zaw id.data.toList (xs.map (·.data.toList))) w':=by
 have h':=h.alloc (.cells cs 9);exact(Zh4 w0.heap.size b t id _ _ _ xs _ h'.pb (Own.sl (Zgf wx xs cs Dc h0 hn w0.heap.size h.all.size B hB)) h0 (by omega) (le_refl _) hi h'.all.size hl ht).mono fun _ _ ⟨h1,h2,h3,h4⟩=>⟨h1,h'.step hA h2 h3 h4⟩
theorem LS.item (h:LS w0 w b A cl t wx)(hA:A≠b)(xs:List ByteArray)(cs:Array Value)(Dc:cs=(xs.map Value.string).toArray)(h0:xs≠[])(hn:xs.length≤1000)(B:Nat)(hB:wx.heap.size=B)
  (l:List ByteArray) (ds:Array Value) (kN:ds=(l.map Value.string).toArray) (Ko:l.length≤1000) (hz:∀s∈l,s.size≤200000) (C:Nat) (hC:wx.heap.size+1=C) (hD:TabDeB w0)
  (hl:(Zbb (xs.map (·.data.toList)) l).length≤100000000) (ht:t.length≤1000000000000):
  Calls prog 82 #[.pointer (some ⟨b,0,none⟩),.slice (some ⟨B,0,none⟩) xs.length xs.length,.slice (some ⟨C,0,none⟩) l.length l.length] ((wx.alloc (.cells cs 9)).alloc (.cells ds 9)) fun e w'=>e= .returned (.tuple #[])∧LS w0 w b A cl (t++Zbb (xs.map (·.data.toList)) l) w':=by
 have h':=h.alloc (.cells cs 9);have dZ:=h'.alloc (.cells ds 9);exact(Zpv w0.heap.size b t _ _ _ xs _ l _ dZ.pb h0 dZ.all.size (World.ownsRow.alloc (Zgf wx xs cs Dc h0 hn w0.heap.size h.all.size B hB) _) hn (Ze3 _ l ds _ kN Ko (fun s hs=>le_trans (hz s hs) (by omega)) C (by simp;omega)) Ko hz (hD.below dZ.all) hl ht).mono fun _ _ ⟨h1,h2,h3,h4⟩=>⟨h1,dZ.step hA h2 h3 h4⟩
theorem LS.names (h:LS w0 w b A cl t wx)(hA:A≠b)(xs:List ByteArray)(cs:Array Value)(Dc:cs=(xs.map Value.string).toArray)(h0:xs≠[])(hn:xs.length≤1000)(B:Nat)(hB:wx.heap.size=B)
  (v:Value) (l:List ByteArray) (hv:RowsOf 1 OneS w0 v l) (Ko:l.length≤1000) (hz:∀s∈l,s.size≤200000) (hD:TabDeB w0)
  (hl:(Zbb (xs.map (·.data.toList)) l).length≤100000000) (ht:t.length≤1000000000000):
  Calls prog 82 #[.pointer (some ⟨b,0,none⟩),.slice (some ⟨B,0,none⟩) xs.length xs.length,v] (wx.alloc (.cells cs 9)) fun e w'=>e= .returned (.tuple #[])∧LS w0 w b A cl (t++Zbb (xs.map (·.data.toList)) l) w':=by
 have h':=h.alloc (.cells cs 9);exact(Zpv w0.heap.size b t _ _ _ xs _ l _ h'.pb h0 h'.all.size (Zgf wx xs cs Dc h0 hn w0.heap.size h.all.size B hB) hn (hv.map h'.all fun _ _ h=>h) Ko hz (hD.below h'.all) hl ht).mono fun _ _ ⟨h1,h2,h3,h4⟩=>⟨h1,h'.step hA h2 h3 h4⟩
theorem LS.rules (h:LS w0 w b A cl t wx)(hA:A≠b)(kw:ByteArray)(v:Value)(l:List (ByteArray×List (List Rel)))(hv:RulesAt w0 v l)(B6:∀r∈l,Zb7 r=true)(hl:l.length≤1000)(hc:∀r∈l,r.2.length≤30)(dY:kw.size≤10)(ht:t.length≤500000000000)(hT:TabTen w0)(hD:TabDeB w0):
  Calls prog 80 #[.pointer (some ⟨b,0,none⟩),.string kw,v] wx fun e w'=>e= .returned (.tuple #[])∧LS w0 w b A cl (t++Zbt kw.data.toList l) w':=
 (Zwo w0 b t kw v l wx hv h.all h.pb B6 hl hc dY ht hT hD).mono fun _ _ ⟨h1,h2,h3,h4⟩=>⟨h1,h.step hA h2 h3 h4⟩
end
structure SmL (y:Lc):Prop where
 s7:∀s∈[y.tag,y.par,y.dir,y.dec,y.grp,y.mi,y.pct],s.size≤200000
 mo:y.months.length≤1000∧∀s∈y.months,s.size≤200000
 da:y.days.length≤1000∧∀s∈y.days,s.size≤200000
 li:y.lists.length≤1000∧∀x∈y.lists,∀s∈[x.style,x.two,x.start,x.mid,x.fin],s.size≤200000
 un:y.units.length≤1000∧∀x∈y.units,∀s∈[x.unit,x.cls,x.pat],s.size≤200000
 dt:y.dates.length≤1000∧∀x∈y.dates,∀s∈[x.skel,x.pat],s.size≤200000
 ca:y.card.length≤1000∧∀r∈y.card,r.1.size≤140737488351232∧r.2.length≤30
 od:y.ord.length≤1000∧∀r∈y.ord,r.1.size≤140737488351232∧r.2.length≤30
theorem Zhb {α β:Type} [DecidableEq β] (key:α→β)(l:List α)(d:α):decide (((List.range l.length).map fun i=>key (l.getD i d)).Nodup)=Zcv key l:=by
 unfold Zcv;rw[show(List.range l.length).map (fun i=>key (l.getD i d))=l.map key from ?_]
 apply List.ext_getElem
 ·simp
 ·intro i h1 h2;simp only[List.length_map,List.length_range]at h1;simp[List.getD_eq_getElem?_getD,List.getElem?_eq_getElem h1]
theorem Zf0 {α:Type} (q:α→Bool)(l:List α)(d:α):(!Zai (fun i=> !q (l.getD i d)) l.length)=l.all q:=by
 rw[Zhf (fun x=> !q x),Zmk,Bool.not_not]
theorem Zde {α:Type} (l:List α)(i:Nat)(d:α)(h:i<l.length):l.getD i d=l[i]:=by rw[List.getD_eq_getElem?_getD,List.getElem?_eq_getElem h];rfl
theorem Zzx (v:Value)(l:List (ByteArray×List (List Rel)))(w:World)(h:RowsOf 2 RuleC w v l)(hn:l.length≤1000)(hz:∀r∈l,r.1.size≤140737488351232∧r.2.length≤30):
  Calls prog 147 #[v,.func (.func 148) #[] #[]] w fun e w'=>e= .returned (.bool (Zcv (fun r:ByteArray×List (List Rel)=>r.1) l))∧Below w.heap.size w w':=by
 obtain⟨ad,c,f,b,off,rfl,hr,_,_,_,hf⟩:=h.opn;rw[←Zhb (fun r:ByteArray×List (List Rel)=>r.1) l (.empty,[])];refine Zv5 (fun i=>(l.getD i (.empty,[])).1) ad l.length c f b off w hr (by omega) (fun i hi=>?_) (fun i hi=>?_)
 ·obtain⟨h0,h1⟩:=hf i hi;obtain⟨ad2,c2,Gt⟩:=RowsOf.shape h1;exact⟨by rw[h0,Zde l i _ hi],ad2,_,c2,Gt⟩
 ·simp only[Zde l i _ hi];exact le_trans (hz _ (getElem_mem hi)).1 (by omega)
theorem Zadd (v:Value)(l:List (ByteArray×List (List Rel)))(w:World)(h:RowsOf 2 RuleC w v l)(hz:∀r∈l,r.1.size≤140737488351232∧r.2.length≤30):
  Calls prog 149 #[v,.func (.func 150) #[] #[]] w fun e w'=>e= .returned (.bool (l.all Zb7))∧Below w.heap.size w w':=by
 obtain⟨ad,c,f,b,off,rfl,hr,_,_,_,hf⟩:=h.opn;rw[←Zf0 Zb7 l (.empty,[])];refine Zwi (fun i=>Zb7 (l.getD i (.empty,[]))) 150 (enters_of func150 (by kernel_rfl) rfl) ad l.length c f b off w hr (fun W i hi hb=>?_)
 ·rw[Zde l i _ hi];exact Zwg (f i) l[i] W (show RuleC W (f i) l[i]from RuleC.below (hf i hi) hb) (hz _ (getElem_mem hi)).2
theorem Zod (v:Value)(l:List (ByteArray×List (List Rel)))(w:World)(h:RulesAt w v l)(hn:l.length≤1000)(hz:∀r∈l,r.1.size≤140737488351232∧r.2.length≤30):
  Calls prog 97 #[v] w fun e w'=>e= .returned (.bool (Ze1 l))∧Below w.heap.size w w':=by
 have HA:=Hd (Zzx v l w h hn hz);have HE:Hid (∀W,Below w.heap.size w W→Calls prog 149 #[v,.func (.func 150) #[] #[]] W fun e w'=>e= .returned (.bool (l.all Zb7))∧Below W.heap.size W w'):=fun W hb=>Zadd v l W (RulesAt.below h hb) hz;have HO:Hid (Ze1 l=(Zcv (fun r:ByteArray×List (List Rel)=>r.1) l&&l.all Zb7)):=rfl;rw[HO.out];clear h hn hz HO;generalize Zcv (fun r:ByteArray×List (List Rel)=>r.1) l=p at *;generalize l.all Zb7=q at *
 go_enter func97,ntmps97
 go_wp2_with fail
 refine HA.out.mono ?_;rintro e w2 ⟨rfl,hb⟩;have HB:=Hd hb;clear hb;cases p with
 |false=>
  go_wp2_with fail
  go_ret;exact⟨rfl,HB.out⟩
 |true=>
  go_wp2_with fail
  refine(HE.out _ HB.out).mono ?_;rintro e w3 ⟨rfl,hb⟩;replace HB:=Hd (HB.out.trans (hb.mono HB.out.size))
  go_wp2_with fail
  go_ret;exact⟨by cases q <;> rfl,HB.out⟩
theorem Zagu (v:Value)(l:List (Lp))(w:World)(h:RowsOf 5 LpC w v l)(hn:l.length≤1000)(hz:∀x∈l,∀s∈[x.style,x.two,x.start,x.mid,x.fin],s.size≤200000):
  Calls prog 153 #[v,.func (.func 154) #[] #[]] w fun e w'=>e= .returned (.bool (Zcv (Lp.style) l))∧Below w.heap.size w w':=by
 obtain⟨ad,c,f,b,off,rfl,hr,_,_,_,hf⟩:=h.opn;rw[←Zhb (Lp.style) l default];refine Zzv (fun i=>(l.getD i default).style) (fun i=>(l.getD i default).two) (fun i=>(l.getD i default).start) (fun i=>(l.getD i default).mid) (fun i=>(l.getD i default).fin) ad l.length c f b off w hr (by omega) (fun i hi=>?_) (fun i hi=>?_)
 ·have h:=hf i hi;simp only[Zde l i _ hi];exact⟨h.c0.1,h.c1.1,h.c2.1,h.c3.1,h.c4.1⟩
 ·simp only[Zde l i _ hi];exact le_trans (hz _ (getElem_mem hi) _ (mem_cons_self ..)) (by omega)
theorem Zaku (v:Value)(l:List (Lp))(w:World)(h:RowsOf 5 LpC w v l)(hz:∀x∈l,∀s∈[x.style,x.two,x.start,x.mid,x.fin],s.size≤200000)(hU:TabU w):
  Calls prog 159 #[v,.func (.func 160) #[] #[]] w fun e w'=>e= .returned (.bool (l.all Zes))∧Below w.heap.size w w':=by
 obtain⟨ad,c,f,b,off,rfl,hr,_,_,_,hf⟩:=h.opn;rw[←Zf0 Zes l default];refine Zaej (fun i=>Zes (l.getD i default)) 160 (enters_of func160 (by kernel_rfl) rfl) ad l.length c f b off w hr (fun W i hi hb=>?_)
 ·rw[Zde l i _ hi];exact Zadk (f i) l[i] W (hf i hi).at (hz _ (getElem_mem hi)) (hU.below hb)
theorem Zafy (v:Value)(l:List (Up))(w:World)(h:RowsOf 3 UpC w v l)(hn:l.length≤1000)(hz:∀x∈l,∀s∈[x.unit,x.cls,x.pat],s.size≤200000):
  Calls prog 155 #[v,.func (.func 156) #[] #[]] w fun e w'=>e= .returned (.bool (Zcv (fun u:Up=>(u.unit,u.cls)) l))∧Below w.heap.size w w':=by
 obtain⟨ad,c,f,b,off,rfl,hr,_,_,_,hf⟩:=h.opn;rw[←Zhb (fun u:Up=>(u.unit,u.cls)) l default];refine Zaaf (fun i=>(l.getD i default).unit) (fun i=>(l.getD i default).cls) (fun i=>(l.getD i default).pat) ad l.length c f b off w hr (by omega) (fun i hi=>?_) (fun i hi=>?_)
 ·have h:=hf i hi;simp only[Zde l i _ hi];exact⟨h.c0.1,h.c1.1,h.c2.1⟩
 ·simp only[Zde l i _ hi];exact⟨le_trans (hz _ (getElem_mem hi) _ (mem_cons_self ..)) (by omega),le_trans (hz _ (getElem_mem hi) _ (List.mem_cons_of_mem _ (mem_cons_self ..))) (by omega)⟩
theorem Zajz (v:Value)(l:List (Up))(w:World)(h:RowsOf 3 UpC w v l)(hz:∀x∈l,∀s∈[x.unit,x.cls,x.pat],s.size≤200000)(hU:TabU w):
  Calls prog 161 #[v,.func (.func 162) #[] #[]] w fun e w'=>e= .returned (.bool (l.all Zed))∧Below w.heap.size w w':=by
 obtain⟨ad,c,f,b,off,rfl,hr,_,_,_,hf⟩:=h.opn;rw[←Zf0 Zed l default];refine Zacc (fun i=>Zed (l.getD i default)) 162 (enters_of func162 (by kernel_rfl) rfl) ad l.length c f b off w hr (fun W i hi hb=>?_)
 ·rw[Zde l i _ hi];exact Zadw (f i) l[i] W (hf i hi).at (hz _ (getElem_mem hi)) (hU.below hb)
theorem Zahg (v:Value)(l:List (Dp))(w:World)(h:RowsOf 2 DpC w v l)(hn:l.length≤1000)(hz:∀x∈l,∀s∈[x.skel,x.pat],s.size≤200000):
  Calls prog 157 #[v,.func (.func 158) #[] #[]] w fun e w'=>e= .returned (.bool (Zcv (Dp.skel) l))∧Below w.heap.size w w':=by
 obtain⟨ad,c,f,b,off,rfl,hr,_,_,_,hf⟩:=h.opn;rw[←Zhb (Dp.skel) l default];refine Zzz (fun i=>(l.getD i default).skel) (fun i=>(l.getD i default).pat) ad l.length c f b off w hr (by omega) (fun i hi=>?_) (fun i hi=>?_)
 ·have h:=hf i hi;simp only[Zde l i _ hi];exact⟨h.c0.1,h.c1.1⟩
 ·simp only[Zde l i _ hi];exact le_trans (hz _ (getElem_mem hi) _ (mem_cons_self ..)) (by omega)
theorem Zaip (v:Value)(l:List (Dp))(w:World)(h:RowsOf 2 DpC w v l)(hz:∀x∈l,∀s∈[x.skel,x.pat],s.size≤200000)(hU:TabU w):
  Calls prog 164 #[v,.func (.func 165) #[] #[]] w fun e w'=>e= .returned (.bool (l.all Zev))∧Below w.heap.size w w':=by
 obtain⟨ad,c,f,b,off,rfl,hr,_,_,_,hf⟩:=h.opn;rw[←Zf0 Zev l default];refine Zabf (fun i=>Zev (l.getD i default)) 165 (enters_of func165 (by kernel_rfl) rfl) ad l.length c f b off w hr (fun W i hi hb=>?_)
 ·rw[Zde l i _ hi];exact Zabh (f i) l[i] W (hf i hi).at (hz _ (getElem_mem hi)) (hU.below hb)
theorem Zdk {s:ByteArray} (h:s= .empty):(s.toList==([]:List UInt8))=true:=by rw[h,toList_eq];rfl
theorem Zct {s:ByteArray} (h:s= .empty):s.toList.isEmpty=true:=by rw[h,toList_eq];rfl
theorem Zd4 {s:ByteArray} (h: ¬s= .empty):s.toList.isEmpty=false:=by
 rw[List.isEmpty_eq_false_iff];intro e;exact h (ByteArray.ext (by simpa [toList_eq]using e))
theorem Zeb {s:ByteArray} (h: ¬s= .empty):(s.toList==([]:List UInt8))=false:=by
 have:=Zd4 h;rw[List.isEmpty_eq_false_iff]at this
 rwa [beq_eq_false_iff_ne]
theorem Zuf (y:Lc)(w:World)(hs:SmL y)(_h9:W6i y.pri)(_Is:W6i y.sec)(hU:TabU w):Calls prog 98 #[.agg #[.string y.dec,.string y.grp,.string y.mi,.string y.pct,.int .i64 y.pri,.int .i64 y.sec]] w fun e w'=>e= .returned (.bool (Zg2 y))∧Below w.heap.size w w':=by
 have Am:∀s∈[y.dec,y.grp,y.mi,y.pct],s.size≤200000:=fun s h=>hs.s7 s (List.mem_append_right [y.tag,y.par,y.dir] h);have HT:Hid (∀W0,Below w.heap.size w W0→∀b,W0.heap.size=b→Calls prog 96 #[.slice (some ⟨b,0,none⟩) 4 4] (W0.alloc (.cells #[.string (y.dec),.string (y.grp),.string (y.mi),.string (y.pct)] 9)) fun e w'=>e= .returned (.bool (Zb2 [y.dec,y.grp,y.mi,y.pct]))∧Below W0.heap.size W0 w'):=fun W0 Fp b hb=>Zis 9 [y.dec,y.grp,y.mi,y.pct] _ rfl (by simp) Am W0 (hU.below Fp) b hb;have HO:Hid (Zg2 y=(decide (y.dec= .empty∧y.grp= .empty∧y.mi= .empty∧y.pct= .empty∧y.pri=0∧y.sec=0)||(decide (y.dec≠ .empty)&&(Zb2 [y.dec,y.grp,y.mi,y.pct]&&(decide (0≤y.pri)&&(decide (y.pri≤9)&&(decide (0≤y.sec)&&decide (y.sec≤9)))))))):=rfl;rw[HO.out];clear hs _h9 _Is hU Am HO;generalize Zb2 [y.dec,y.grp,y.mi,y.pct]=X at *;generalize y.dec=a0 at *;generalize y.grp=a1 at *;generalize y.mi=a2 at *;generalize y.pct=a3 at *;generalize y.pri=pr at *;generalize y.sec=se at *
 go_enter func98,ntmps98
 go_upto_region 1 with(fail)
 refine Zb5 ?_;intro wa B2;have HX:Hid (Cel wa w.heap.size 40 [.string a0,.string a1,.string a2,.string a3,.int .i64 pr,.int .i64 se]):=by rw[B2];exact Cel.new w [.string a0,.string a1,.string a2,.string a3,.int .i64 pr,.int .i64 se] 40
 have HB:Hid (Below w.heap.size w wa):=by rw[B2];exact(Below.refl _ _).alloc (le_refl _) _
 have hz:=HB.out.size;clear B2;have x0:=HX.out.cell 0;have x1:=HX.out.cell 1;have x2:=HX.out.cell 2;have x3:=HX.out.cell 3;have x4:=HX.out.cell 4;have x5:=HX.out.cell 5;have Ap:=HX.out.lt;simp only[Le0,Le1]at x0 x1 x2 x3 x4 x5
 by_cases e0:a0= .empty
 ·have d_e0:=Zdk e0;have i_e0:=Zct e0;have l_e0:=List.isEmpty_iff.1 i_e0
  by_cases e1:a1= .empty
  ·have d_e1:=Zdk e1;have i_e1:=Zct e1;have l_e1:=List.isEmpty_iff.1 i_e1
   by_cases e2:a2= .empty
   ·have d_e2:=Zdk e2;have i_e2:=Zct e2;have l_e2:=List.isEmpty_iff.1 i_e2
    by_cases e3:a3= .empty
    ·have d_e3:=Zdk e3;have i_e3:=Zct e3;have l_e3:=List.isEmpty_iff.1 i_e3
     by_cases f4:pr=0
     ·have d_f4:=decide_eq_true f4;have b_f4:=beq_iff_eq.2 f4
      by_cases f5:se=0
      ·have d_f5:=decide_eq_true f5;have b_f5:=beq_iff_eq.2 f5
       go_wp2_with fail
       go_ret;exact⟨by first|(simp[e0,e1,e2,e3,f4,f5];done)|(simp[e0,e1,e2,e3,f4,f5];intros;omega),HB.out⟩
      ·have d_f5:=decide_eq_false f5;have b_f5:=beq_eq_false_iff_ne.2 f5
       go_wp2_with fail
       go_ret;exact⟨by first|(simp[e0,e1,e2,e3,f4,f5];done)|(simp[e0,e1,e2,e3,f4,f5];intros;omega),HB.out⟩
     ·have d_f4:=decide_eq_false f4;have b_f4:=beq_eq_false_iff_ne.2 f4
      go_wp2_with fail
      go_ret;exact⟨by first|(simp[e0,e1,e2,e3,f4];done)|(simp[e0,e1,e2,e3,f4];intros;omega),HB.out⟩
    ·have d_e3:=Zeb e3;have i_e3:=Zd4 e3;have l_e3:=List.isEmpty_eq_false_iff.1 i_e3
     go_wp2_with fail
     go_ret;exact⟨by first|(simp[e0,e1,e2,e3];done)|(simp[e0,e1,e2,e3];intros;omega),HB.out⟩
   ·have d_e2:=Zeb e2;have i_e2:=Zd4 e2;have l_e2:=List.isEmpty_eq_false_iff.1 i_e2
    go_wp2_with fail
    go_ret;exact⟨by first|(simp[e0,e1,e2];done)|(simp[e0,e1,e2];intros;omega),HB.out⟩
  ·have d_e1:=Zeb e1;have i_e1:=Zd4 e1;have l_e1:=List.isEmpty_eq_false_iff.1 i_e1
   go_wp2_with fail
   go_ret;exact⟨by first|(simp[e0,e1];done)|(simp[e0,e1];intros;omega),HB.out⟩
 ·have d_e0:=Zeb e0;have i_e0:=Zd4 e0;have l_e0:=List.isEmpty_eq_false_iff.1 i_e0
  go_wp2_with fail
  refine(HT.out _ HB.out _ (by first|rfl|simp)).mono ?_;rintro e w3 ⟨rfl,hb⟩;replace HX:=Hd (HX.out.below hb);replace HB:=Hd (HB.out.trans (hb.mono HB.out.size));clear hb Ap x0 x1 x2 x3 x4 x5;have x0:=HX.out.cell 0;have x1:=HX.out.cell 1;have x2:=HX.out.cell 2;have x3:=HX.out.cell 3;have x4:=HX.out.cell 4;have x5:=HX.out.cell 5;have Ap:=HX.out.lt;simp only[Le0,Le1]at x0 x1 x2 x3 x4 x5;cases X with
  |false=>
   go_wp2_with fail
   go_ret;exact⟨by first|(simp[e0];done)|(simp[e0];intros;omega),HB.out⟩
  |true=>
   by_cases g1:0≤pr
   ·have d_g1:=decide_eq_true g1
    by_cases g2:pr≤9
    ·have d_g2:=decide_eq_true g2
     by_cases g3:0≤se
     ·have d_g3:=decide_eq_true g3
      by_cases g4:se≤9
      ·have d_g4:=decide_eq_true g4
       go_wp2_with fail
       go_ret;exact⟨by first|(simp[e0,g1,g2,g3,g4];done)|(simp[e0,g1,g2,g3,g4];intros;omega),HB.out⟩
      ·have d_g4:=decide_eq_false g4
       go_wp2_with fail
       go_ret;exact⟨by first|(simp[e0,g1,g2,g3,g4];done)|(simp[e0,g1,g2,g3,g4];intros;omega),HB.out⟩
     ·have d_g3:=decide_eq_false g3
      go_wp2_with fail
      go_ret;exact⟨by first|(simp[e0,g1,g2];done)|(simp[e0,g1,g2];intros;omega),HB.out⟩
    ·have d_g2:=decide_eq_false g2
     go_wp2_with fail
     go_ret;exact⟨by first|(simp[e0,g1];done)|(simp[e0,g1];intros;omega),HB.out⟩
   ·have d_g1:=decide_eq_false g1
    go_wp2_with fail
    go_ret;exact⟨by first|(simp[e0];done)|(simp[e0];intros;omega),HB.out⟩
theorem Zi6 (n k:Nat)(z:Int)(hz:(k:Int)=z):decide (n≤k)= !decide (z<(n:Int)):=by
 subst hz
 by_cases h:n≤k
 ·rw[decide_eq_true h,decide_eq_false (by omega)];rfl
 ·rw[decide_eq_false h,decide_eq_true (by omega)];rfl
theorem Zre (x:Nat→Value)(y:Lc)(w:World)(h:LcC w x y)(hs:SmL y)(hU:TabU w):Calls prog 99 #[.agg #[x 0,x 1,x 2,x 3,x 4,x 5,x 6,x 7,x 8,x 9,x 10,x 11,x 12,x 13,x 14,x 15]] w fun e w'=>e= .returned (.bool (Zhx y))∧Below w.heap.size w w':=by
 have Qm:Hid (∀W,Below w.heap.size w W→Calls prog 153 #[x 11,.func (.func 154) #[] #[]] W fun e w'=>e= .returned (.bool (Zcv (Lp.style) y.lists))∧Below W.heap.size W w'):=fun W hb=>Zagu (x 11) y.lists W (h.c11.map hb fun _ _ h=>h.at) hs.li.1 hs.li.2;have L9:Hid (∀W,Below w.heap.size w W→Calls prog 159 #[x 11,.func (.func 160) #[] #[]] W fun e w'=>e= .returned (.bool (y.lists.all Zes))∧Below W.heap.size W w'):=fun W hb=>Zaku (x 11) y.lists W (h.c11.map hb fun _ _ h=>h.at) hs.li.2 (hU.below hb);have Qn:Hid (∀W,Below w.heap.size w W→Calls prog 155 #[x 12,.func (.func 156) #[] #[]] W fun e w'=>e= .returned (.bool (Zcv (fun u:Up=>(u.unit,u.cls)) y.units))∧Below W.heap.size W w'):=fun W hb=>Zafy (x 12) y.units W (h.c12.map hb fun _ _ h=>h.at) hs.un.1 hs.un.2;have Ma:Hid (∀W,Below w.heap.size w W→Calls prog 161 #[x 12,.func (.func 162) #[] #[]] W fun e w'=>e= .returned (.bool (y.units.all Zed))∧Below W.heap.size W w'):=fun W hb=>Zajz (x 12) y.units W (h.c12.map hb fun _ _ h=>h.at) hs.un.2 (hU.below hb);have Qo:Hid (∀W,Below w.heap.size w W→Calls prog 157 #[x 13,.func (.func 158) #[] #[]] W fun e w'=>e= .returned (.bool (Zcv (Dp.skel) y.dates))∧Below W.heap.size W w'):=fun W hb=>Zahg (x 13) y.dates W (h.c13.map hb fun _ _ h=>h.at) hs.dt.1 hs.dt.2;have Mb:Hid (∀W,Below w.heap.size w W→Calls prog 164 #[x 13,.func (.func 165) #[] #[]] W fun e w'=>e= .returned (.bool (y.dates.all Zev))∧Below W.heap.size W w'):=fun W hb=>Zaip (x 13) y.dates W (h.c13.map hb fun _ _ h=>h.at) hs.dt.2 (hU.below hb);have HO:Hid (Zhx y=(!decide ((10:Int)<(y.lists.length:Int))&&(!decide ((100:Int)<(y.units.length:Int))&&(!decide ((30:Int)<(y.dates.length:Int))&&(Zcv Lp.style y.lists&&(Zcv (fun u:Up=>(u.unit,u.cls)) y.units&&(Zcv Dp.skel y.dates&&
  (y.lists.all Zes&&(y.units.all Zed&&y.dates.all Zev))))))))):=by
  rw[←Zi6 y.lists.length 10 10 rfl,←Zi6 y.units.length 100 100 rfl,←Zi6 y.dates.length 30 30 rfl];rfl
 rw[HO.out];obtain⟨ad11,k11,Me⟩:=RowsOf.shape h.c11;rw[Hid,Me]at Qm L9;replace Qm:=Hd Qm;replace L9:=Hd L9;have tM:y.lists.length≤1000:=hs.li.1;obtain⟨ad12,k12,Mf⟩:=RowsOf.shape h.c12;rw[Hid,Mf]at Qn Ma;replace Qn:=Hd Qn;replace Ma:=Hd Ma;have tN:y.units.length≤1000:=hs.un.1;obtain⟨ad13,k13,Mg⟩:=RowsOf.shape h.c13;rw[Hid,Mg]at Qo Mb;replace Qo:=Hd Qo;replace Mb:=Hd Mb;have tO:y.dates.length≤1000:=hs.dt.1;rw[Me,Mf,Mg];clear h hs hU HO Me Mf Mg;generalize Zcv Lp.style y.lists=p1 at *;generalize Zcv (fun u:Up=>(u.unit,u.cls)) y.units=p2 at *;generalize Zcv Dp.skel y.dates=p3 at *;generalize y.lists.all Zes=q1 at *;generalize y.units.all Zed=q2 at *;generalize y.dates.all Zev=q3 at *;generalize y.lists.length=n1 at *;generalize y.units.length=n2 at *;generalize y.dates.length=n3 at *;generalize x 0=u0 at *;generalize x 1=u1 at *;generalize x 2=u2 at *;generalize x 3=u3 at *;generalize x 4=u4 at *;generalize x 5=u5 at *;generalize x 6=u6 at *;generalize x 7=u7 at *;generalize x 8=u8 at *;generalize x 9=u9 at *;generalize x 10=u10 at *;generalize x 14=u14 at *;generalize x 15=u15 at *
 go_enter func99,ntmps99
 go_upto_region 1 with(fail)
 refine Zb5 ?_;intro wa B2;have HX:Hid (Cel wa w.heap.size 46 [u0,u1,u2,u3,u4,u5,u6,u7,u8,u9,u10,.slice ad11 n1 k11,.slice ad12 n2 k12,.slice ad13 n3 k13,u14,u15]):=by rw[B2];exact Cel.new w [u0,u1,u2,u3,u4,u5,u6,u7,u8,u9,u10,.slice ad11 n1 k11,.slice ad12 n2 k12,.slice ad13 n3 k13,u14,u15] 46
 have HB:Hid (Below w.heap.size w wa):=by rw[B2];exact(Below.refl _ _).alloc (le_refl _) _
 have hz:=HB.out.size;clear B2;have x11:=HX.out.cell 11;have x12:=HX.out.cell 12;have x13:=HX.out.cell 13;have Ap:=HX.out.lt;simp only[Le0,Le1]at x11 x12 x13
 by_cases g1:(10:Int)<(n1:Int)
 ·have d_g1:=decide_eq_true g1
  go_wp2_with fail
  go_ret;exact⟨by simp[g1],HB.out⟩
 ·have d_g1:=decide_eq_false g1
  by_cases g2:(100:Int)<(n2:Int)
  ·have d_g2:=decide_eq_true g2
   go_wp2_with fail
   go_ret;exact⟨by simp,HB.out⟩
  ·have d_g2:=decide_eq_false g2
   by_cases g3:(30:Int)<(n3:Int)
   ·have d_g3:=decide_eq_true g3
    go_wp2_with fail
    go_ret;exact⟨by simp,HB.out⟩
   ·have d_g3:=decide_eq_false g3
    go_wp2_with fail
    refine(Qm.out _ HB.out).mono ?_;rintro e w2 ⟨rfl,hb⟩;replace HX:=Hd (HX.out.below hb);replace HB:=Hd (HB.out.trans (hb.mono HB.out.size));clear hb Ap x11 x12 x13;have x11:=HX.out.cell 11;have x12:=HX.out.cell 12;have x13:=HX.out.cell 13;have Ap:=HX.out.lt;simp only[Le0,Le1]at x11 x12 x13;cases p1 with
    |false=>
     go_wp2_with fail
     go_ret;exact⟨by simp,HB.out⟩
    |true=>
     go_wp2_with fail
     refine(Qn.out _ HB.out).mono ?_;rintro e w3 ⟨rfl,hb⟩;replace HX:=Hd (HX.out.below hb);replace HB:=Hd (HB.out.trans (hb.mono HB.out.size));clear hb Ap x11 x12 x13;have x11:=HX.out.cell 11;have x12:=HX.out.cell 12;have x13:=HX.out.cell 13;have Ap:=HX.out.lt;simp only[Le0,Le1]at x11 x12 x13;cases p2 with
     |false=>
      go_wp2_with fail
      go_ret;exact⟨by simp,HB.out⟩
     |true=>
      go_wp2_with fail
      refine(Qo.out _ HB.out).mono ?_;rintro e w4 ⟨rfl,hb⟩;replace HX:=Hd (HX.out.below hb);replace HB:=Hd (HB.out.trans (hb.mono HB.out.size));clear hb Ap x11 x12 x13;have x11:=HX.out.cell 11;have x12:=HX.out.cell 12;have x13:=HX.out.cell 13;have Ap:=HX.out.lt;simp only[Le0,Le1]at x11 x12 x13;cases p3 with
      |false=>
       go_wp2_with fail
       go_ret;exact⟨by simp,HB.out⟩
      |true=>
       go_wp2_with fail
       refine(L9.out _ HB.out).mono ?_;rintro e w5 ⟨rfl,hb⟩;replace HX:=Hd (HX.out.below hb);replace HB:=Hd (HB.out.trans (hb.mono HB.out.size));clear hb Ap x11 x12 x13;have x11:=HX.out.cell 11;have x12:=HX.out.cell 12;have x13:=HX.out.cell 13;have Ap:=HX.out.lt;simp only[Le0,Le1]at x11 x12 x13;cases q1 with
       |false=>
        go_wp2_with fail
        go_ret;exact⟨by simp,HB.out⟩
       |true=>
        go_wp2_with fail
        refine(Ma.out _ HB.out).mono ?_;rintro e w6 ⟨rfl,hb⟩;replace HX:=Hd (HX.out.below hb);replace HB:=Hd (HB.out.trans (hb.mono HB.out.size));clear hb Ap x11 x12 x13;have x11:=HX.out.cell 11;have x12:=HX.out.cell 12;have x13:=HX.out.cell 13;have Ap:=HX.out.lt;simp only[Le0,Le1]at x11 x12 x13;cases q2 with
        |false=>
         go_wp2_with fail
         go_ret;exact⟨by simp,HB.out⟩
        |true=>
         go_wp2_with fail
         refine(Mb.out _ HB.out).mono ?_;rintro e w7 ⟨rfl,hb⟩;replace HX:=Hd (HX.out.below hb);replace HB:=Hd (HB.out.trans (hb.mono HB.out.size));clear hb Ap x11 x12 x13;have x11:=HX.out.cell 11;have x12:=HX.out.cell 12;have x13:=HX.out.cell 13;have Ap:=HX.out.lt;simp only[Le0,Le1]at x11 x12 x13;cases q3 with
         |false=>
          go_wp2_with fail
          go_ret;exact⟨by simp,HB.out⟩
         |true=>
          go_wp2_with fail
          go_ret;exact⟨by simp[g1,g2,g3],HB.out⟩
end Go.Proofs.YtmleeodfmmpdgaaGreatDoor
