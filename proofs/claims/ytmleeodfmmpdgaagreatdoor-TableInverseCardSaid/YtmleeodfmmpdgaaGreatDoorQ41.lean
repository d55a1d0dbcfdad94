/- part -/
import Derived.Test.YtmleeodfmmpdgaaGreatDoorQ39
import Derived.Test.YtmleeodfmmpdgaaGreatDoorQ40
set_option maxRecDepth 20000
set_option maxHeartbeats 8000000
namespace Go.Proofs.YtmleeodfmmpdgaaGreatDoor
open Go.RowKit
attribute [local go_sem] Ext.cell Ext.frozen
attribute [local go_sem ↓] Go.wp_at_zero Go.wp_at_succ
open _root_.List (getElem_mem length_append take_length)
open _root_.Nat (add_zero le_refl le_trans zero_le)
open _root_.Go.Proofs.Tryz
def Zbv (t:Tb):List UInt8×Nat:=if Zec t then(if 200000<(Zck t).length then([],6)else(Zck t,0))else([],1)
theorem PB.rebase {B B' b:Nat} {l:List UInt8} {w:World} (h:PB B b l w)(hB:B'≤B):PB B' b l w:=by
 obtain⟨h1,h2⟩:=h;have key:∀p,Lib.BuilderAt 84 5 B b p (Lib.byteCells l) w→Lib.BuilderAt 84 5 B' b p (Lib.byteCells l) w:=by
  rintro p ⟨h3,v,h4,h5,h6⟩;exact⟨le_trans hB h3,v,h4,Own.rebase h5 hB,h6⟩
 exact⟨h1.imp (key _) (key _),h2⟩
structure LT (w:World) (b A:Nat) (cl:List Value) (t:List UInt8) (wx:World):Prop where
 pb:PB w.heap.size b t wx
 cel:Cel wx A 27 cl
 bel:Below w.heap.size w wx
section
variable {w : World} {b A : Nat} {cl : List Value} {t : List UInt8} {wx : World}
theorem LT.step (h:LT w b A cl t wx)(hA:A≠b) {t':List UInt8} {w':World} (hp:PB w.heap.size b t' w')(hb:Below w.heap.size wx w')(ho:Oth b wx w'):LT w b A cl t' w':=
 ⟨hp,h.cel.oth ho hA (by decide) (by decide),h.bel.trans hb⟩
theorem LT.below (h:LT w b A cl t wx) {w':World} (hb:Below wx.heap.size wx w'):LT w b A cl t w':=
 ⟨h.pb.kept hb,h.cel.below hb,h.bel.trans (hb.mono h.bel.size)⟩
theorem LT.alloc (h:LT w b A cl t wx)(o:Obj):LT w b A cl t (wx.alloc o):=h.below ((Below.refl _ _).alloc (le_refl _) _)
theorem LT.drew (h:LT w b A cl t wx):LT w b A cl t wx.drew:=h.below (Below.refl _ _).drew
theorem LT.line (h:LT w b A cl t wx)(hA:A≠b)(xs:List ByteArray)(cs:Array Value)(Dc:cs=(xs.map Value.string).toArray)(h0:xs≠[])(hn:xs.length≤1000)(B:Nat)(hB:wx.heap.size=B)
  (hl:(Zaw [] (xs.map (·.data.toList))).length≤100000000) (ht:t.length≤1000000000000):
  Calls prog 33 #[.pointer (some ⟨b,0,none⟩),.string ⟨#[]⟩,.slice (some ⟨B,0,none⟩) xs.length xs.length] (wx.alloc (.cells cs 9)) fun e w'=>e= .returned (.tuple #[])∧LT w b A cl (t++Zaw [] (xs.map (·.data.toList))) w':=by
 have h':=h.alloc (.cells cs 9);exact(Zh4 w.heap.size b t ⟨#[]⟩ _ _ _ xs _ h'.pb (Own.sl (Zgf wx xs cs Dc h0 hn w.heap.size h.bel.size B hB)) h0 (by omega) (le_refl _) (by decide) h'.bel.size hl ht).mono fun _ _ ⟨h1,h2,h3,h4⟩=>⟨h1,h'.step hA h2 h3 h4⟩
theorem LT.locale (h:LT w b A cl t wx)(hA:A≠b)(x:Nat→Value)(y:Lc)(hx:LcC w x y)(hs:SmL y)(hf:LocF y)(ht:t.length≤400000000000)(hT:TabTen w)(hD:TabDeB w):
  Calls prog 32 #[.pointer (some ⟨b,0,none⟩),.agg #[x 0,x 1,x 2,x 3,x 4,x 5,x 6,x 7,x 8,x 9,x 10,x 11,x 12,x 13,x 14,x 15]] wx fun e w'=>e= .returned (.tuple #[])∧LT w b A cl (t++Zcm y) w':=
 (Zuo w b t x y wx hx hs hf h.bel h.pb ht hT hD).mono fun _ _ ⟨h1,h2,h3,h4⟩=>⟨h1,h.step hA h2 h3 h4⟩
end
theorem Zkb (x:Nat→Value)(t:Tb)(w:World)(h:TbC w x t)(hs:SmT t)(hU:TabU w)(hT:TabTen w)(hD:TabDeB w):Calls prog 15 #[.agg #[x 0,x 1,x 2]] w fun e w'=>e= .returned (.tuple #[.string (bs (Zbv t).1),.int .i64 ((Zbv t).2:Nat)])∧Below w.heap.size w w':=by
 have HV:Hid (∀W,Below w.heap.size w W→Calls prog 20 #[.agg #[x 0,x 1,x 2]] W fun e w'=>e= .returned (.bool (Zec t))∧Below W.heap.size W w'):=fun W hb=>Zwf x t W (h.below hb) hs (hU.below hb);obtain⟨ad0,k0,f0,b0,o0,F5,Xc,_,_,_,Ej⟩:=RowsOf.opn h.c0;obtain⟨ad1,k1,f1,b1,o1,Pa,Cp,_,_,_,Gb⟩:=RowsOf.opn h.c1;obtain⟨ad2,k2,f2,b2,o2,Gt,Eo,_,_,_,Fw⟩:=RowsOf.opn h.c2;rw[Hid,F5,Pa,Gt]at HV;replace HV:=Hd HV;rw[F5,Pa,Gt];cases B6:Zec t with
 |false=>
  have HO:Hid (Zbv t=([],1)):=by unfold Hid Zbv;rw[B6];rfl
  rw[Hid,B6]at HV;replace HV:=Hd HV;rw[HO.out];simp only;clear h hs hU hT hD B6 HO F5 Pa Gt Xc Cp Eo Ej Gb Fw
  go_enter func15,ntmps15
  go_wp2_with fail
  refine(HV.out _ ((Below.refl _ _).alloc (le_refl _) _)).mono ?_;rintro e w2 ⟨rfl,hb⟩;have HB:Hid (Below w.heap.size w w2):=((Below.refl _ _).alloc (le_refl _) _).trans (hb.mono (by simp));clear hb
  go_wp2_with fail
  go_ret2
  exact⟨rfl,HB.out⟩
 |true=>
  have HF:=Hd (Zvx B6);have Qp:=Hd hs;have Qd:=Hd hT;have S5:=Hd hD;have Br:=Hd Xc;have As:=Hd Cp;have Ar:=Hd Eo;have Uy:=Hd Ej;have Du:=Hd Gb;have G0:=Hd Fw;have hz:=Zahn (Zvx B6) (fun y hy=>⟨(hs.lo.2 y hy).ca.1,(hs.lo.2 y hy).od.1⟩);have lC:Zck t=t.locs.flatMap Zcm++t.als.flatMap alT++t.near.flatMap neT:=rfl;have A7:=hz;rw[lC,length_append,length_append]at A7;have J9:=Hd lC;have HO:Hid (Zbv t=if 200000<(Zck t).length then([],6)else(Zck t,0)):=by unfold Hid Zbv;rw[B6];rfl
  rw[Hid,B6]at HV;replace HV:=Hd HV;generalize Zbv t=PV at *;clear h hs hU hT hD B6 F5 Pa Gt Xc Cp Eo Ej Gb Fw lC;obtain⟨A,hA⟩:∃A,w.heap.size=A:=⟨_,rfl⟩
  go_enter func15,ntmps15
  go_wp2_with fail
  refine(HV.out _ ((Below.refl _ _).alloc (le_refl _) _)).mono ?_;rintro e w2 ⟨rfl,hb⟩;have HX:Hid (Cel w2 A 27 [.slice ad0 t.locs.length k0,.slice ad1 t.als.length k1,.slice ad2 t.near.length k2]):=by rw[←hA];exact(Cel.new w [.slice ad0 t.locs.length k0,.slice ad1 t.als.length k1,.slice ad2 t.near.length k2] 27).below hb
  have HB:Hid (Below w.heap.size w w2):=((Below.refl _ _).alloc (le_refl _) _).trans (hb.mono (by simp));clear hb HV
  go_upto_region 4 with(fail)
  obtain⟨b,hb⟩:∃b,w2.heap.size=b:=⟨_,rfl⟩;have G7:A≠b:=by have:=HX.out.lt;omega
  refine Zb5 ?_;intro w3 Ty;have HL:Hid (LT w b A [.slice ad0 t.locs.length k0,.slice ad1 t.als.length k1,.slice ad2 t.near.length k2] ([]) w3):=by
   rw[Ty,←hb];exact⟨(PB.new w2).rebase HB.out.size,HX.out.below ((Below.refl _ _).alloc (le_refl _) _),HB.out.alloc HB.out.size _⟩
  try rw[hb]
  clear Ty HX HB;have x0:=HL.out.cel.cell 0;simp only[Le0]at x0;have Ap:=HL.out.cel.lt
  go_wp2_with fail
  clear Ap x0
  go_loopw [19] (fun i wr=>∃k:Nat,i= .int .i64 (k:Int)∧k≤t.locs.length∧LT w b A [.slice ad0 t.locs.length k0,.slice ad1 t.als.length k1,.slice ad2 t.near.length k2] ((t.locs.take k).flatMap Zcm) wr) (fun i _=>t.locs.length -(intOf i).toNat)
  case atStart=>exact⟨0,rfl,zero_le _,by exact HL.out⟩
  case round=>
   obtain⟨k,rfl,Co,hl⟩:=hrel;replace HL:=Hd hl;clear hl
   by_cases Aa:k<t.locs.length
   ·have A4:=Br.out.below HL.out.bel;have Ci:=fun W=>A4.ix 23 46 underlying23 (by kernel_rfl) (by omega) Aa k0 W;have hc:=Uy.out k Aa;obtain⟨p3,q3,s3⟩:=RowsOf.shape hc.c3;obtain⟨p4,q4,s4⟩:=RowsOf.shape hc.c4;obtain⟨p11,q11,s11⟩:=RowsOf.shape hc.c11;obtain⟨p12,q12,s12⟩:=RowsOf.shape hc.c12;obtain⟨p13,q13,s13⟩:=RowsOf.shape hc.c13;obtain⟨p14,q14,s14⟩:=RowsOf.shape hc.c14;obtain⟨p15,q15,s15⟩:=RowsOf.shape hc.c15;have d0:=A4.cell k 0 Aa (by omega);rw[hc.c0.1]at d0;have d1:=A4.cell k 1 Aa (by omega);rw[hc.c1.1]at d1;have d2:=A4.cell k 2 Aa (by omega);rw[hc.c2.1]at d2;have d3:=A4.cell k 3 Aa (by omega);rw[s3]at d3;have d4:=A4.cell k 4 Aa (by omega);rw[s4]at d4;have d5:=A4.cell k 5 Aa (by omega);rw[hc.c5.1]at d5;have d6:=A4.cell k 6 Aa (by omega);rw[hc.c6.1]at d6;have d7:=A4.cell k 7 Aa (by omega);rw[hc.c7.1]at d7;have d8:=A4.cell k 8 Aa (by omega);rw[hc.c8.1]at d8;have d9:=A4.cell k 9 Aa (by omega);rw[hc.c9.1]at d9;have d10:=A4.cell k 10 Aa (by omega);rw[hc.c10.1]at d10;have d11:=A4.cell k 11 Aa (by omega);rw[s11]at d11;have d12:=A4.cell k 12 Aa (by omega);rw[s12]at d12;have d13:=A4.cell k 13 Aa (by omega);rw[s13]at d13;have d14:=A4.cell k 14 Aa (by omega);rw[s14]at d14;have d15:=A4.cell k 15 Aa (by omega);rw[s15]at d15;rw[add_zero]at d0;have Jg:=Zdn Zcm t.locs k;have Ds:Hid ((t.locs.take (k+1)).flatMap Zcm=(t.locs.take k).flatMap Zcm++Zcm t.locs[k]):=by
     unfold Hid;rw[List.take_succ_eq_append_getElem Aa,List.flatMap_append];simp
    have HC:Hid (∀W,LT w b A [.slice ad0 t.locs.length k0,.slice ad1 t.als.length k1,.slice ad2 t.near.length k2] ((t.locs.take k).flatMap Zcm) W→Calls prog 32 #[.pointer (some ⟨b,0,none⟩),.agg #[f0 k 0,f0 k 1,f0 k 2,f0 k 3,f0 k 4,f0 k 5,f0 k 6,f0 k 7,f0 k 8,f0 k 9,f0 k 10,f0 k 11,f0 k 12,f0 k 13,f0 k 14,f0 k 15]] W fun e w'=>e= .returned (.tuple #[])∧LT w b A [.slice ad0 t.locs.length k0,.slice ad1 t.als.length k1,.slice ad2 t.near.length k2] ((t.locs.take k).flatMap Zcm++Zcm t.locs[k]) w'):=fun W g=>g.locale G7 (f0 k) t.locs[k] hc (Qp.out.lo.2 _ (getElem_mem Aa)) (Zvc (HF.out.locs _ (getElem_mem Aa))) (by omega) Qd.out S5.out;rw[Hid,hc.c0.1,hc.c1.1,hc.c2.1,s3,s4,hc.c5.1,hc.c6.1,hc.c7.1,hc.c8.1,hc.c9.1,hc.c10.1,s11,s12,s13,s14,s15]at HC;replace HC:=Hd HC;clear A4 hc Jg s3 s4 s11 s12 s13 s14 s15;generalize (t.locs.take k).flatMap Zcm=TK at *;generalize Zcm t.locs[k]=TY at *;generalize t.locs[k]=y at *
    go_wp2_with fail
    refine(HC.out _ (HL.out.alloc _)).mono ?_;rintro e wn ⟨rfl,hl⟩;replace HL:=Hd hl;clear hl HC
    go_wp2_with fail
    go_roundw
    case rel=>exact⟨k+1,by go_num,by omega,by rw[Ds.out];exact HL.out⟩
    case measure=>simp[intOf];omega
   ·obtain rfl:k=t.locs.length:=by omega
    rw[Hid,take_length]at HL;replace HL:=Hd HL;have x1:=HL.out.cel.cell 1;simp only[Le0,Le1]at x1;have Ap:=HL.out.cel.lt
    go_wp2_with fail
    clear Ap x1
    go_loopw [30] (fun i wr=>∃k:Nat,i= .int .i64 (k:Int)∧k≤t.als.length∧LT w b A [.slice ad0 t.locs.length k0,.slice ad1 t.als.length k1,.slice ad2 t.near.length k2] (t.locs.flatMap Zcm++(t.als.take k).flatMap alT) wr) (fun i _=>t.als.length -(intOf i).toNat)
    case atStart=>exact⟨0,rfl,zero_le _,by rw[List.take_zero,List.flatMap_nil,List.append_nil];exact HL.out⟩
    case round=>
     obtain⟨k,rfl,Co,hl⟩:=hrel;replace HL:=Hd hl;clear hl
     by_cases Aa:k<t.als.length
     ·have A4:=As.out.below HL.out.bel;have Ci:=fun W=>A4.ix 24 61 underlying24 (by kernel_rfl) (by omega) Aa k1 W;have d0:=A4.cell k 0 Aa (by omega);rw[(Du.out k Aa).c0.1,add_zero]at d0;have d1:=A4.cell k 1 Aa (by omega);rw[(Du.out k Aa).c1.1]at d1;have Jg:=Zdn alT t.als k;have Ds:Hid ((t.als.take (k+1)).flatMap alT=(t.als.take k).flatMap alT++alT t.als[k]):=by
       unfold Hid;rw[List.take_succ_eq_append_getElem Aa,List.flatMap_append];simp
      have D0:=Zyp (HF.out.als t.als[k] (getElem_mem Aa));rw[Hid,show alT t.als[k]=Zaw [] ([(⟨#[97,108,105,97,115]⟩:ByteArray),t.als[k].fro,t.als[k].dst].map (·.data.toList))from rfl]at Ds;replace Ds:=Hd Ds;replace D0:(Zaw [] ([(⟨#[97,108,105,97,115]⟩:ByteArray),t.als[k].fro,t.als[k].dst].map (·.data.toList))).length≤200:=D0;clear A4;generalize (t.als.take k).flatMap alT=TK at *;generalize t.als[k].fro=e0 at *;generalize t.als[k].dst=e1 at *;have HC:=Hd ((HL.out.alloc (.cells #[.string e0,.string e1] 61)).line G7 [⟨#[97,108,105,97,115]⟩,e0,e1] _ rfl (by simp) (by simp) (wr.heap.size+1) (by simp) (le_trans D0 (by omega)) (by simp only[length_append];omega));clear D0 Jg
      go_wp2_with fail
      refine HC.out.mono ?_;rintro e wn ⟨rfl,hl⟩;replace HL:=Hd hl;clear hl HC
      go_wp2_with fail
      go_roundw
      case rel=>exact⟨k+1,by go_num,by omega,by rw[Ds.out,←List.append_assoc];exact HL.out⟩
      case measure=>simp[intOf];omega
     ·obtain rfl:k=t.als.length:=by omega
      rw[Hid,take_length]at HL;replace HL:=Hd HL;have x2:=HL.out.cel.cell 2;simp only[Le0,Le1]at x2;have Ap:=HL.out.cel.lt
      go_wp2_with fail
      clear Ap x2
      go_loopw [45] (fun i wr=>∃k:Nat,i= .int .i64 (k:Int)∧k≤t.near.length∧LT w b A [.slice ad0 t.locs.length k0,.slice ad1 t.als.length k1,.slice ad2 t.near.length k2] (t.locs.flatMap Zcm++t.als.flatMap alT++(t.near.take k).flatMap neT) wr) (fun i _=>t.near.length -(intOf i).toNat)
      case atStart=>exact⟨0,rfl,zero_le _,by rw[List.take_zero,List.flatMap_nil,List.append_nil];exact HL.out⟩
      case round=>
       obtain⟨k,rfl,Co,hl⟩:=hrel;replace HL:=Hd hl;clear hl
       by_cases Aa:k<t.near.length
       ·have A4:=Ar.out.below HL.out.bel;have Ci:=fun W=>A4.ix 25 58 underlying25 (by kernel_rfl) (by omega) Aa k2 W;have d0:=A4.cell k 0 Aa (by omega);rw[(G0.out k Aa).c0.1,add_zero]at d0;have d1:=A4.cell k 1 Aa (by omega);rw[(G0.out k Aa).c1.1]at d1;have d2:=A4.cell k 2 Aa (by omega);rw[(G0.out k Aa).c2.1]at d2;have Jg:=Zdn neT t.near k;have Ds:Hid ((t.near.take (k+1)).flatMap neT=(t.near.take k).flatMap neT++neT t.near[k]):=by
         unfold Hid;rw[List.take_succ_eq_append_getElem Aa,List.flatMap_append];simp
        have B6:=HF.out.near t.near[k] (getElem_mem Aa);have D0:=Zyl B6;have Ij:0≤t.near[k].cost∧t.near[k].cost≤1000:=by unfold Zee at B6;simp only[Bool.and_eq_true,decide_eq_true_eq]at B6;exact B6.2
        rw[Hid,show neT t.near[k]=Zaw [] ([(⟨#[110,101,97,114]⟩:ByteArray),t.near[k].fro,t.near[k].dst,bs (Lib.itoa t.near[k].cost)].map (·.data.toList))from rfl]at Ds;replace Ds:=Hd Ds;replace D0:(Zaw [] ([(⟨#[110,101,97,114]⟩:ByteArray),t.near[k].fro,t.near[k].dst,bs (Lib.itoa t.near[k].cost)].map (·.data.toList))).length≤200:=D0;clear A4 B6;generalize (t.near.take k).flatMap neT=TK at *;generalize t.near[k].fro=e0 at *;generalize t.near[k].dst=e1 at *;generalize t.near[k].cost=z at *;obtain⟨C,hC⟩:∃C,wr.heap.size=C:=⟨_,rfl⟩;have bK:C≠b:=by have:=HL.out.pb.lt;omega
        go_wp2_with fail
        refine Zb5 ?_;intro wa B2;have HY:Hid (Cel wa C 58 [.string e0,.string e1,.int .i64 z]):=by rw[B2,←hC];exact Cel.new wr [.string e0,.string e1,.int .i64 z] 58
        replace HL:Hid (LT w b A [.slice ad0 t.locs.length k0,.slice ad1 t.als.length k1,.slice ad2 t.near.length k2] (t.locs.flatMap Zcm++t.als.flatMap alT++TK) wa):=by rw[B2];exact HL.out.alloc _
        clear B2 Ci d0 d1 d2
        try rw[hC]
        have v0:=HY.out.cell 0;have v1:=HY.out.cell 1;have v2:=HY.out.cell 2;simp only[Le0,Le1]at v0 v1 v2;refine wp_region_held_drew (S:=(fun w'=>w'.cell? ⟨C,0,none⟩=some (.string e0)∧w'.cell? ⟨C,1,none⟩=some (.string e1)∧w'.cell? ⟨C,2,none⟩=some (.int .i64 z))) (by kernel_rfl) ?_ (fun hHeld=>?_)
        ·go_keep
        refine Tk 0 ?_;refine Tk 1 ?_;refine Tk 2 ?_;refine Tk 3 ?_;refine Tk 4 ?_;refine Tk 5 ?_;refine Tk 6 ?_;replace HL:=Hd HL.out.drew;replace HY:Hid (Cel wa.drew C 58 [.string e0,.string e1,.int .i64 z]):=HY.out;refine Rx 7 fun K hK=>?_
        go_simp
        refine(Zgd z Ij.1 Ij.2 _ (Qd.out.below HL.out.bel)).mono ?_;rintro e wi ⟨rfl,hb⟩;replace HL:=Hd (HL.out.below hb);replace HY:=Hd (HY.out.below hb);replace v0:=HY.out.cell 0;replace v1:=HY.out.cell 1;replace v2:=HY.out.cell 2;simp only[Le0,Le1]at v0 v1 v2;clear hb
        go_simp
        clear hHeld;refine hK.out _ _ (⟨v0,v1,v2⟩) fun hHeld=>?_;clear hK K;refine Rx 8 fun K hK=>?_
        go_simp
        clear hHeld;refine hK.out _ _ (⟨Zdc v0,Zdc v1,Zdc v2⟩) fun hHeld=>?_;clear hK K;have Gx:=Zh4 w.heap.size b (t.locs.flatMap Zcm++t.als.flatMap alT++TK) ⟨#[]⟩ _ 4 4 [⟨#[110,101,97,114]⟩,e0,e1,bs (Lib.itoa z)] _ (HL.out.alloc (.cells #[.string ⟨#[110,101,97,114]⟩,.string e0,.string e1,.string (bs (Lib.itoa z))] 9)).pb (Own.sl (Zgf wi [⟨#[110,101,97,114]⟩,e0,e1,bs (Lib.itoa z)] _ rfl (by simp) (by simp) w.heap.size HL.out.bel.size wi.heap.size rfl)) (by simp) (by omega) (by omega) (by decide) (HL.out.alloc _).bel.size (le_trans D0 (by omega)) (by simp only[length_append];omega);have Hc:=HY.out.below ((Below.refl _ _).alloc (le_refl _) (.cells #[.string ⟨#[110,101,97,114]⟩,.string e0,.string e1,.string (bs (Lib.itoa z))] 9));have Mz:=HL.out.alloc (.cells #[.string ⟨#[110,101,97,114]⟩,.string e0,.string e1,.string (bs (Lib.itoa z))] 9);refine Rx 9 fun K hK=>?_
        go_simp
        refine Gx.mono ?_;rintro e wn ⟨rfl,bL,Oh,Vr⟩;replace HL:=Hd (Mz.step G7 bL Oh Vr);replace HY:=Hd (Hc.oth Vr bK (by decide) (by decide));replace v0:=HY.out.cell 0;replace v1:=HY.out.cell 1;replace v2:=HY.out.cell 2;simp only[Le0,Le1]at v0 v1 v2;clear bL Oh Vr Gx Hc Mz
        go_simp
        clear hHeld;refine hK.out _ _ (⟨v0,v1,v2⟩) fun hHeld=>?_;clear hK K;refine Dn ?_;clear hHeld
        go_wp2_with fail
        go_roundw
        case rel=>exact⟨k+1,by go_num,by omega,by rw[Ds.out,←List.append_assoc];exact HL.out⟩
        case measure=>simp[intOf];omega
       ·obtain rfl:k=t.near.length:=by omega
        rw[Hid,take_length]at HL;replace HL:=Hd HL;rw[Hid,←J9.out]at HL;replace HL:=Hd HL;generalize Zck t=T at *;have Hb:=Hd (Zaco w.heap.size b T wr HL.out.pb);have Et:=Hd (Zuu w.heap.size b T wr HL.out.pb)
        by_cases Ki:200000<T.length
        ·have ho:=HO.out;rw[if_pos Ki]at ho;have Ly:=Hd ho;clear ho HO;have hd:decide ((200000:Int)<(T.length:Int))=true:=decide_eq_true (by omega);have Q3:(200000:Int)<(T.length:Int):=by omega
         go_wp2_with fail
         refine Hb.out.mono ?_;rintro e _ ⟨rfl,rfl⟩
         go_wp2_with fail
         go_ret2
         exact⟨by rw[Ly.out];rfl,HL.out.bel⟩
        ·have ho:=HO.out;rw[if_neg Ki]at ho;have Ly:=Hd ho;clear ho HO;have Q3: ¬(200000:Int)<(T.length:Int):=by omega
         have hd:decide ((200000:Int)<(T.length:Int))=false:=decide_eq_false Q3
         go_wp2_with fail
         refine Hb.out.mono ?_;rintro e _ ⟨rfl,rfl⟩
         go_wp2_with fail
         refine Et.out.mono ?_;rintro e wn ⟨rfl,Oh⟩;have kI:Hid (Below w.heap.size w wn):=HL.out.bel.trans Oh;clear Oh
         go_wp2_with fail
         go_ret2
         exact⟨by rw[Ly.out];rfl,kI.out⟩
theorem Zra {n:Nat} (h: ¬n<10):Lib.decDigits n=Lib.decDigits (n / 10)++Lib.decDigits (n % 10):=by
 rw[Lib.decDigits_one (show n % 10<10 by omega)];rw[Lib.decDigits,dif_neg h]
def Zaje (w:World)(P:Prop)(e:Ending)(w':World):Prop:=∃q:Bool,e= .returned (.bool q)∧w=w'∧(q=true→P)
theorem Zyf (v:Value)(l:List (List Rel))(w:World)(h:CondAt w v l):Calls prog 17 #[v] w (Zaje w (l.length≤30)):=by
 obtain⟨ad,c,f,b,off,rfl,hr,_,_,_,Ej⟩:=h;have hf:∀i,i<l.length→Zaig w (f i 0):=fun i hi=>by
  obtain⟨ad2,c2,f2,b2,off2,h1,h2,_,_,_,h5⟩:=RowsOf.get Ej hi [];exact⟨ad2,_,c2,f2,b2,off2,h1,h2,fun j hj=>by
   obtain⟨_,_,_,ad3,c3,f3,b3,off3,h6,h7,_⟩:=RowsOf.get h5 hj ⟨0,0,false,[]⟩;exact⟨ad3,_,c3,h6,h7.max⟩⟩
 generalize l.length=n at *;clear Ej;have HR:=Hd hr;have HF:=Hd hf;have wQ:=hr.max;clear hr hf
 go_enter func17,ntmps17
 go_wp2_with fail
 go_loop [3,4] (fun u v=>∃(k:Nat) (z:Int),v= .int .i64 (k:Int)∧k≤n∧u= .int .i64 z) (fun _ v=>n -(intOf v).toNat)
 case atStart=>exact⟨0,0,rfl,zero_le _,rfl⟩
 case round=>
  obtain⟨k,z,rfl,Co,rfl⟩:=hrel
  by_cases Aa:k<n
  ·have Ci:=fun W=>HR.out.ix 48 91 underlying48 (by kernel_rfl) (by omega) Aa c W;rw[Nat.mul_one]at Ci;have hc:=HR.out.cell k 0 Aa (by omega);rw[Nat.mul_one,add_zero]at hc;obtain⟨ad2,n2,c2,f2,b2,off2,Gt,Eo,Eu⟩:=HF.out k Aa;rw[Gt]at hc;have Ar:=Hd Eo;have Ji:=Hd Eu;have tY:=Eo.max;clear Gt Eo Eu
   go_wp2_with fail
   go_loop [3,5] (fun u v=>∃(q:Nat) (z:Int),v= .int .i64 (q:Int)∧q≤n2∧u= .int .i64 z) (fun _ v=>n2 -(intOf v).toNat)
   case atStart=>exact⟨0,z,rfl,zero_le _,rfl⟩
   case round=>
    obtain⟨q,z2,rfl,Mq,rfl⟩:=hrel
    by_cases Bi:q<n2
    ·have tZ:=fun W=>Ar.out.ix 91 94 underlying91 (by kernel_rfl) (by omega) Bi c2 W;obtain⟨a3,m3,c3,h3,uB⟩:=Ji.out q Bi;have Fz:=Ar.out.cell q 3 Bi (by omega);rw[h3]at Fz;clear h3
     go_wp2_with fail
     go_round
     case rel=>exact⟨q+1,_,by go_num,by omega,rfl⟩
     case measure=>simp[intOf];omega
    ·obtain rfl:q=n2:=by omega
     by_cases wR:80<z2
     ·go_wp2_with fail
      go_ret;exact⟨false,rfl,rfl,fun h=>(by cases h)⟩
     ·go_wp2_with fail
      go_round
      case rel=>exact⟨k+1,z2,by go_num,by omega,rfl⟩
      case measure=>simp[intOf];omega
  ·obtain rfl:k=n:=by omega
   go_wp2_with fail
   go_ret;exact⟨_,rfl,rfl,fun h=>by have:=of_decide_eq_true h;omega⟩
def Zls (c:UInt8):Bool:=decide (Zc3 c=[c])
theorem Zoh:∀l:List UInt8,(∀c∈l,Zls c=true)→Zah l=l
 |[],_=>rfl
 |c::l,h=>by
  have h1:Zc3 c=[c]:=of_decide_eq_true (h c (List.mem_cons_self ..));have h2:=Zoh l fun d hd=>h d (List.mem_cons_of_mem _ hd);have:Zah (c::l)=Zc3 c++Zah l:=rfl;rw[this,h1,h2];rfl
def plainL (l:List UInt8):Prop:=∀c∈l,Zls c=true
theorem plainL.app {a b:List UInt8} (ha:plainL a)(hb:plainL b):plainL (a++b):=fun c hc=>(List.mem_append.1 hc).elim (ha c) (hb c)
theorem plainL.join {l:List (List UInt8)} {sep:List UInt8} (h:∀x∈l,plainL x)(hs:plainL sep):plainL (Lib.join l sep):=by
 induction l with
 |nil=>intro c hc;rw[Lib.join_nil]at hc;cases hc
 |cons x r ih=>
  rw[Lib.join_cons];refine(h x (List.mem_cons_self ..)).app ?_;have:∀r:List (List UInt8),(∀x∈r,plainL x)→plainL (Lib.joinTail sep r):=by
   intro r hr;induction r with
   |nil=>intro c hc;simp[Lib.joinTail]at hc
   |cons y r ih2=>
    have e:Lib.joinTail sep (y::r)=sep++y++Lib.joinTail sep r:=by simp[Lib.joinTail]
    rw[e];exact(hs.app (hr y (List.mem_cons_self ..))).app (ih2 fun x hx=>hr x (List.mem_cons_of_mem _ hx))
  exact this r fun y hy=>h y (List.mem_cons_of_mem _ hy)
theorem plainL.lit {l:List UInt8} (h:l.all Zls=true):plainL l:=fun c hc=>List.all_eq_true.1 h c hc
theorem Zui {n:Nat} (h:n<10):Zls (UInt8.ofNat (48+n))=true:=by
 have:∀n:Fin 10,Zls (UInt8.ofNat (48+n.val))=true:=by decide+kernel
 exact this ⟨n,h⟩
theorem Zaae (n:Nat):plainL (Lib.decDigits n):=by
 induction n using Nat.strongRecOn with
 |ind n ih=>
  by_cases h:n<10
  ·rw[Lib.decDigits_one h];intro c hc;rw[List.mem_singleton.1 hc];exact Zui h
  ·rw[Zra h];exact(ih (n / 10) (by omega)).app (ih (n % 10) (by omega))
theorem Zhn {z:Int} (h:0≤z):plainL (Lib.itoa z):=by
 obtain⟨n,rfl⟩:=Int.eq_ofNat_of_zero_le h;rw[Lib.itoa_nonneg];exact Zaae n
theorem Zxz {s:Int×Int} (h:0≤s.1∧s.1≤s.2∧s.2≤100):plainL (Zak s):=by
 unfold Zak;split
 ·exact Zhn h.1
 ·exact((Zhn h.1).app (plainL.lit (by decide+kernel))).app (Zhn (by omega))
theorem Zyz {r:Rel} (h:RelF r):plainL (Zc9 r):=by
 unfold Zc9;refine((plainL.app ?_ ?_).app ?_).app (plainL.join (fun x hx=>?_) (plainL.lit (by decide+kernel)))
 ·obtain⟨op,md,neg,sp⟩:=r;have oU:=h.op;simp only at oU⊢;obtain rfl|rfl|rfl|rfl|rfl|rfl:op=1∨op=2∨op=3∨op=4∨op=5∨op=6:=by omega
  all_goals exact plainL.lit (by decide+kernel)
 ·split
  ·exact(plainL.lit (by decide+kernel)).app (Zhn h.md.1)
  ·intro c hc;cases hc
 ·split <;> exact plainL.lit (by decide+kernel)
 ·obtain⟨s,hs,rfl⟩:=List.mem_map.1 hx;exact Zxz (h.sp s hs)
theorem Zz3 {cs:List (List Rel)} (h:CondF cs):Zah (Zad cs)=Zad cs:=by
 refine Zoh _ ?_;refine plainL.join (fun x hx=>?_) (plainL.lit (by decide+kernel));obtain⟨l,hl,rfl⟩:=List.mem_map.1 hx;refine plainL.join (fun y hy=>?_) (plainL.lit (by decide+kernel));obtain⟨r,hr,rfl⟩:=List.mem_map.1 hy;exact Zyz ((h.each l hl).2.2 r hr)
end Go.Proofs.YtmleeodfmmpdgaaGreatDoor
