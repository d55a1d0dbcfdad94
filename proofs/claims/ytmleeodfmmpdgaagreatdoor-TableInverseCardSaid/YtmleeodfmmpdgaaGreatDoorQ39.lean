/- part -/
import Derived.Test.YtmleeodfmmpdgaaGreatDoorQ38
set_option maxRecDepth 20000
set_option maxHeartbeats 8000000
namespace Go.Proofs.YtmleeodfmmpdgaaGreatDoor
open Go.RowKit
attribute [local go_sem] Ext.cell Ext.frozen
attribute [local go_sem ↓] Go.wp_at_zero Go.wp_at_succ
open _root_.List (append_assoc append_nil flatMap_nil getElem_mem length_append length_cons length_nil mem_append_right take_length take_zero)
open _root_.Nat (add_zero le_refl le_trans zero_le)
open _root_.ByteArray (data_append size_append)
open _root_.Go.Proofs.Tryz
theorem Zuo (w0:World)(b:Nat)(t:List UInt8)(x:Nat→Value)(y:Lc)(w:World)(h:LcC w0 x y)(hs:SmL y)(hf:LocF y)(h0:Below w0.heap.size w0 w)(hp:PB w0.heap.size b t w)(ht:t.length≤400000000000)(hT:TabTen w0)(hD:TabDeB w0):
  Calls prog 32 #[.pointer (some ⟨b,0,none⟩),.agg #[x 0,x 1,x 2,x 3,x 4,x 5,x 6,x 7,x 8,x 9,x 10,x 11,x 12,x 13,x 14,x 15]] w fun e w'=>e= .returned (.tuple #[])∧PB w0.heap.size b (t++Zcm y) w'∧Below w0.heap.size w w'∧Oth b w w':=by
 have Dv:Hid (∀A cl T wx,LS w0 w b A cl T wx→A≠b→T.length≤500000000000→Calls prog 80 #[.pointer (some ⟨b,0,none⟩),.string ⟨#[99,97,114,100,105,110,97,108]⟩,x 3] wx fun e w'=>e= .returned (.tuple #[])∧LS w0 w b A cl (T++Zbt [99,97,114,100,105,110,97,108] y.card) w'):=fun A cl T wx g hA hz=>g.rules hA ⟨#[99,97,114,100,105,110,97,108]⟩ (x 3) y.card h.c3 hf.card hs.ca.1 (fun r hr=>(hs.ca.2 r hr).2) (by decide) hz hT hD;have kO:Hid (∀A cl T wx,LS w0 w b A cl T wx→A≠b→T.length≤500000000000→Calls prog 80 #[.pointer (some ⟨b,0,none⟩),.string ⟨#[111,114,100,105,110,97,108]⟩,x 4] wx fun e w'=>e= .returned (.tuple #[])∧LS w0 w b A cl (T++Zbt [111,114,100,105,110,97,108] y.ord) w'):=fun A cl T wx g hA hz=>g.rules hA ⟨#[111,114,100,105,110,97,108]⟩ (x 4) y.ord h.c4 hf.ord hs.od.1 (fun r hr=>(hs.od.2 r hr).2) (by decide) hz hT hD;have Ms:Hid (∀A cl T wx,LS w0 w b A cl T wx→A≠b→T.length≤500000000000→Calls prog 82 #[.pointer (some ⟨b,0,none⟩),.slice (some ⟨wx.heap.size,0,none⟩) 1 1,x 14] (wx.alloc (.cells #[.string ⟨#[109,111,110,116,104,115]⟩] 9)) fun e w'=>e= .returned (.tuple #[])∧LS w0 w b A cl (T++Zbb [[109,111,110,116,104,115]] y.months) w'):=fun A cl T wx g hA hz=>g.names hA [⟨#[109,111,110,116,104,115]⟩] _ rfl (by simp) (by simp) wx.heap.size rfl (x 14) y.months h.c14 hs.mo.1 hs.mo.2 hD (by
  have:=Zez [[109,111,110,116,104,115]] y.months (fun x hx=>by rw[List.mem_singleton.1 hx];decide) hf.monthsX;have:=hf.months;simp only[length_cons,length_nil]at *;exact le_trans ‹_› (by omega)) (by omega)
 have Mt:Hid (∀A cl T wx,LS w0 w b A cl T wx→A≠b→T.length≤500000000000→Calls prog 82 #[.pointer (some ⟨b,0,none⟩),.slice (some ⟨wx.heap.size,0,none⟩) 1 1,x 15] (wx.alloc (.cells #[.string ⟨#[100,97,121,115]⟩] 9)) fun e w'=>e= .returned (.tuple #[])∧LS w0 w b A cl (T++Zbb [[100,97,121,115]] y.days) w'):=fun A cl T wx g hA hz=>g.names hA [⟨#[100,97,121,115]⟩] _ rfl (by simp) (by simp) wx.heap.size rfl (x 15) y.days h.c15 hs.da.1 hs.da.2 hD (by
  have:=Zez [[100,97,121,115]] y.days (fun x hx=>by rw[List.mem_singleton.1 hx];decide) hf.daysX;have:=hf.days;simp only[length_cons,length_nil]at *;exact le_trans ‹_› (by omega)) (by omega)
 have l1:=Zsf hf;have l2:=Zve hf;have l3:=Zhi hf.card [99,97,114,100,105,110,97,108] (by decide);have l4:=Zhi hf.ord [111,114,100,105,110,97,108] (by decide);have gQ:y.card.length≤1000:=hs.ca.1;have wN:y.ord.length≤1000:=hs.od.1;replace l3:(Zbt [99,97,114,100,105,110,97,108] y.card).length≤160000000:=le_trans l3 (by omega);replace l4:(Zbt [111,114,100,105,110,97,108] y.ord).length≤160000000:=le_trans l4 (by omega);have Wj:y.tag.size≤40:=(Zfl hf.tag).2;have mZ:y.par.size≤40:=by
  rcases hf.par with e|e
  ·rw[e];decide
  ·exact(Zfl e).2
 have tP:y.dir.size≤3:=Zw1 hf.dir;obtain⟨ad11,k11,f11,b11,o11,Me,I9,_,_,_,aZ⟩:=RowsOf.opn h.c11;have Kb:=Hd I9;have Oi:=Hd aZ;obtain⟨ad12,k12,f12,b12,o12,Mf,bC,_,_,_,bD⟩:=RowsOf.opn h.c12;have kP:=Hd bC;have Vn:=Hd bD;obtain⟨ad13,k13,f13,b13,o13,Mg,bE,_,_,_,bF⟩:=RowsOf.opn h.c13;have kQ:=Hd bE;have bG:=Hd bF;obtain⟨ad14,k14,Jd⟩:=RowsOf.shape h.c14;obtain⟨ad15,k15,Je⟩:=RowsOf.shape h.c15;rw[Hid,Jd]at Ms;rw[Hid,Je]at Mt;replace Ms:=Hd Ms;replace Mt:=Hd Mt;rw[h.c0.1,h.c1.1,h.c2.1,h.c5.1,h.c6.1,h.c7.1,h.c8.1,h.c9.1,h.c10.1,Me,Mf,Mg,Jd,Je];have Lk:=Hd hf;have Qp:=Hd hs;have S5:=Hd hD;have Qd:=Hd hT;have Fu:Hid (Zgk y=((⟨#[108,111,99,97,108,101,32]⟩:ByteArray)++y.tag).data.toList++(if y.par= .empty then []else((⟨#[32,112,97,114,101,110,116,32]⟩:ByteArray)++y.par).data.toList)++[32,123,10]):=by
  unfold Hid Zgk;rw[data_append,data_append,Array.toList_append,Array.toList_append]
 have Uj:Hid (Zj7 y=if y.dir= .empty then []else Zaw [9] ([⟨#[100,105,114,101,99,116,105,111,110]⟩,y.dir].map (·.data.toList))):=rfl;have P4:Hid (Zcm y=Zgk y++(Zj7 y++Zbt [99,97,114,100,105,110,97,108] y.card++Zbt [111,114,100,105,110,97,108] y.ord++(if Zdq y then []else Zhk y)++y.lists.flatMap lpT++y.units.flatMap upT++y.dates.flatMap dpT++(if y.months=[]then []else Zbb [[109,111,110,116,104,115]] y.months)++(if y.days=[]then []else Zbb [[100,97,121,115]] y.days))++[125,10]):=rfl;generalize Zcm y=LY at *;have HP:=Hd hp;have H0:=Hd h0;have Ii:=hp.lt;clear h hs hf hT hD hp h0 I9 aZ bC bD bE bF Me Mf Mg Jd Je;generalize Zbt [99,97,114,100,105,110,97,108] y.card=T3 at *;generalize Zbt [111,114,100,105,110,97,108] y.ord=T4 at *;generalize Zgk y=T1 at *;generalize Zj7 y=T2 at *;generalize y.tag=a0 at *;generalize y.par=a1 at *;generalize y.dir=a2 at *;obtain⟨A,hA⟩:∃A,w.heap.size=A:=⟨_,rfl⟩;have G7:A≠b:=by omega
 have zl:(⟨#[108,111,99,97,108,101,32]⟩:ByteArray).size=7:=rfl;have zp:(⟨#[32,112,97,114,101,110,116,32]⟩:ByteArray).size=8:=rfl;have a1x:=fun w=>run_string_add_sum (P:=prog) (w:=w) (⟨#[108,111,99,97,108,101,32]⟩:ByteArray) a0 (by omega);have a2x:=fun w=>run_string_add_sum (P:=prog) (w:=w) (⟨#[32,112,97,114,101,110,116,32]⟩:ByteArray) a1 (by omega)
 go_enter func32,ntmps32
 go_wp2_with fail
 refine Zb5 ?_;intro wa B2;have HL:Hid (LS w0 w b A [.string a0,.string a1,.string a2,x 3,x 4,.string y.dec,.string y.grp,.string y.mi,.string y.pct,.int .i64 y.pri,.int .i64 y.sec,.slice ad11 y.lists.length k11,.slice ad12 y.units.length k12,.slice ad13 y.dates.length k13,.slice ad14 y.months.length k14,.slice ad15 y.days.length k15] (t) wa):=by
  have Aw:Below w.heap.size w wa:=by rw[B2];exact(Below.refl _ _).alloc (le_refl _) _
  refine⟨HP.out.kept Aw,by rw[B2,←hA];exact Cel.new w [.string a0,.string a1,.string a2,x 3,x 4,.string y.dec,.string y.grp,.string y.mi,.string y.pct,.int .i64 y.pri,.int .i64 y.sec,.slice ad11 y.lists.length k11,.slice ad12 y.units.length k12,.slice ad13 y.dates.length k13,.slice ad14 y.months.length k14,.slice ad15 y.days.length k15] 46,Aw.mono H0.out.size,Oth.below Aw,H0.out.trans (Aw.mono H0.out.size)⟩
 clear B2 HP H0;have x0:=HL.out.cel.cell 0;simp only[Le0]at x0;have Ap:=HL.out.cel.lt;refine wp_region_held_drew (S:=(fun w'=>w'.cell? ⟨A,0,none⟩=some (.string a0))) (by kernel_rfl) ?_ (fun hHeld=>?_)
 ·go_keep
 refine Tk 0 ?_;refine Tk 1 ?_;refine Tk 2 ?_;refine Tk 3 ?_;refine Tk 4 ?_;refine Tk 5 ?_;replace HL:=Hd HL.out.drew;refine Rx 6 fun K hK=>?_
 go_simp
 refine(HL.out.write G7 ((⟨#[108,111,99,97,108,101,32]⟩:ByteArray)++a0) (by rw[size_append];show _+_≠0;omega) (by rw[size_append];omega) (by first|omega|(simp only[length_append,Zcy,size_append,length_cons,length_nil];omega))).mono ?_;rintro e w2 ⟨rfl,hl⟩;replace HL:Hid (LS w0 w b A [.string a0,.string a1,.string a2,x 3,x 4,.string y.dec,.string y.grp,.string y.mi,.string y.pct,.int .i64 y.pri,.int .i64 y.sec,.slice ad11 y.lists.length k11,.slice ad12 y.units.length k12,.slice ad13 y.dates.length k13,.slice ad14 y.months.length k14,.slice ad15 y.days.length k15] (t++((⟨#[108,111,99,97,108,101,32]⟩:ByteArray)++a0).data.toList) w2):=hl;clear hl;replace x0:=HL.out.cel.cell 0;simp only[Le0]at x0
 go_simp
 clear hHeld;refine hK.out _ _ (x0) fun hHeld=>?_;clear hK K;refine Dn ?_;clear hHeld;clear Ap x0;have x1:=HL.out.cel.cell 1;simp only[Le0,Le1]at x1;have Ap:=HL.out.cel.lt
 go_upto_if 21 with(fail)
 go_cut [] (fun wx=>LS w0 w b A [.string a0,.string a1,.string a2,x 3,x 4,.string y.dec,.string y.grp,.string y.mi,.string y.pct,.int .i64 y.pri,.int .i64 y.sec,.slice ad11 y.lists.length k11,.slice ad12 y.units.length k12,.slice ad13 y.dates.length k13,.slice ad14 y.months.length k14,.slice ad15 y.days.length k15] (t++((⟨#[108,111,99,97,108,101,32]⟩:ByteArray)++a0).data.toList++(if a1= .empty then []else((⟨#[32,112,97,114,101,110,116,32]⟩:ByteArray)++a1).data.toList)) wx)
 case first=>
  by_cases e0:a1= .empty
  ·have d_e0:=Zdk e0;have i_e0:=Zct e0;have l_e0:=List.isEmpty_iff.1 i_e0;have kR:=Hd e0;clear e0;rw[i_e0]
   go_wp2_with fail
   go_meet
   rw[if_pos kR.out,append_nil];exact HL.out
  ·have d_e0:=Zeb e0;have i_e0:=Zd4 e0;have l_e0:=List.isEmpty_eq_false_iff.1 i_e0;have kR:=Hd e0;clear e0;rw[i_e0]
   go_wp2_with fail
   refine wp_region_held_drew (S:=(fun w'=>w'.cell? ⟨A,1,none⟩=some (.string a1))) (by kernel_rfl) ?_ (fun hHeld=>?_)
   ·go_keep
   refine Tk 0 ?_;refine Tk 1 ?_;refine Tk 2 ?_;refine Tk 3 ?_;refine Tk 4 ?_;refine Tk 5 ?_;replace HL:=Hd HL.out.drew;refine Rx 6 fun K hK=>?_
   go_simp
   refine(HL.out.write G7 ((⟨#[32,112,97,114,101,110,116,32]⟩:ByteArray)++a1) (by rw[size_append];show _+_≠0;omega) (by rw[size_append];omega) (by first|omega|(simp only[length_append,Zcy,size_append];omega))).mono ?_;rintro e w3 ⟨rfl,hl⟩;replace HL:Hid (LS w0 w b A [.string a0,.string a1,.string a2,x 3,x 4,.string y.dec,.string y.grp,.string y.mi,.string y.pct,.int .i64 y.pri,.int .i64 y.sec,.slice ad11 y.lists.length k11,.slice ad12 y.units.length k12,.slice ad13 y.dates.length k13,.slice ad14 y.months.length k14,.slice ad15 y.days.length k15] (t++((⟨#[108,111,99,97,108,101,32]⟩:ByteArray)++a0).data.toList++((⟨#[32,112,97,114,101,110,116,32]⟩:ByteArray)++a1).data.toList) w3):=hl;clear hl;replace x1:=HL.out.cel.cell 1;simp only[Le0,Le1]at x1
   go_simp
   clear hHeld;refine hK.out _ _ (x1) fun hHeld=>?_;clear hK K;refine Dn ?_;clear hHeld
   go_wp2_with fail
   go_meet
   rw[if_neg kR.out];exact HL.out
 case rest=>
  clear Ap x1;replace HL:=Hd hcut;clear hcut;have Aa:(((⟨#[108,111,99,97,108,101,32]⟩:ByteArray)++a0).data.toList++(if a1= .empty then []else((⟨#[32,112,97,114,101,110,116,32]⟩:ByteArray)++a1).data.toList)).length≤100:=by
   have:=Fu.out;have h2:=congrArg List.length this;simp only[length_append,length_cons,length_nil]at h2⊢;omega
  rw[Hid,append_assoc]at HL;replace HL:=Hd HL;generalize ((⟨#[108,111,99,97,108,101,32]⟩:ByteArray)++a0).data.toList++(if a1= .empty then []else((⟨#[32,112,97,114,101,110,116,32]⟩:ByteArray)++a1).data.toList)=TH at *
  go_wp2_with fail
  refine(HL.out.write G7 ⟨#[32,123,10]⟩ (by decide) (by decide) (by rw[length_append];omega)).mono ?_;rintro e w4 ⟨rfl,hl⟩;replace HL:Hid (LS w0 w b A [.string a0,.string a1,.string a2,x 3,x 4,.string y.dec,.string y.grp,.string y.mi,.string y.pct,.int .i64 y.pri,.int .i64 y.sec,.slice ad11 y.lists.length k11,.slice ad12 y.units.length k12,.slice ad13 y.dates.length k13,.slice ad14 y.months.length k14,.slice ad15 y.days.length k15] (t++TH++[32,123,10]) w4):=hl;clear hl;rw[Hid,append_assoc,←Fu.out]at HL;replace HL:=Hd HL;clear Fu Aa;have x2:=HL.out.cel.cell 2;simp only[Le0,Le1]at x2;have Ap:=HL.out.cel.lt
  go_upto_if 35 with(fail)
  go_cut [] (fun wx=>LS w0 w b A [.string a0,.string a1,.string a2,x 3,x 4,.string y.dec,.string y.grp,.string y.mi,.string y.pct,.int .i64 y.pri,.int .i64 y.sec,.slice ad11 y.lists.length k11,.slice ad12 y.units.length k12,.slice ad13 y.dates.length k13,.slice ad14 y.months.length k14,.slice ad15 y.days.length k15] (t++T1++T2) wx)
  case first=>
   by_cases e1:a2= .empty
   ·have d_e1:=Zdk e1;have i_e1:=Zct e1;have l_e1:=List.isEmpty_iff.1 i_e1;have eA:=Hd e1;clear e1;rw[i_e1];have Vo:=Uj.out;rw[if_pos eA.out]at Vo;have Vp:=Hd Vo;clear Vo
    go_wp2_with fail
    go_meet
    rw[Vp.out,append_nil];exact HL.out
   ·have d_e1:=Zeb e1;have i_e1:=Zd4 e1;have l_e1:=List.isEmpty_eq_false_iff.1 i_e1;have eA:=Hd e1;clear e1;rw[i_e1];have Vo:=Uj.out;rw[if_neg eA.out]at Vo;have Vp:=Hd Vo;clear Vo
    go_wp2_with fail
    refine(HL.out.line G7 ⟨#[9]⟩ (by decide) [⟨#[100,105,114,101,99,116,105,111,110]⟩,a2] _ rfl (by simp) (by simp) _ (by first|rfl|simp) (by have:=Uj.out;rw[if_neg eA.out]at this;rw[show(⟨#[9]⟩:ByteArray).data.toList=[9]from rfl,←this];omega) (by rw[length_append];omega)).mono ?_;rintro e w5 ⟨rfl,hl⟩;replace HL:Hid (LS w0 w b A [.string a0,.string a1,.string a2,x 3,x 4,.string y.dec,.string y.grp,.string y.mi,.string y.pct,.int .i64 y.pri,.int .i64 y.sec,.slice ad11 y.lists.length k11,.slice ad12 y.units.length k12,.slice ad13 y.dates.length k13,.slice ad14 y.months.length k14,.slice ad15 y.days.length k15] (t++T1++Zaw [9] ([⟨#[100,105,114,101,99,116,105,111,110]⟩,a2].map (·.data.toList))) w5):=hl;clear hl
    go_wp2_with fail
    go_meet
    rw[Vp.out];exact HL.out
  case rest=>
   clear Ap x2;replace HL:=Hd hcut;clear hcut;clear Uj;have x3:=HL.out.cel.cell 3;simp only[Le0,Le1]at x3;have Ap:=HL.out.cel.lt
   go_wp2_with fail
   refine(Dv.out A _ _ _ HL.out G7 (by simp only[length_append];omega)).mono ?_;rintro e w6 ⟨rfl,hl⟩;replace HL:Hid (LS w0 w b A [.string a0,.string a1,.string a2,x 3,x 4,.string y.dec,.string y.grp,.string y.mi,.string y.pct,.int .i64 y.pri,.int .i64 y.sec,.slice ad11 y.lists.length k11,.slice ad12 y.units.length k12,.slice ad13 y.dates.length k13,.slice ad14 y.months.length k14,.slice ad15 y.days.length k15] (t++T1++T2++T3) w6):=hl;clear hl;clear Ap x3;have x4:=HL.out.cel.cell 4;simp only[Le0,Le1]at x4;have Ap:=HL.out.cel.lt
   go_wp2_with fail
   refine(kO.out A _ _ _ HL.out G7 (by simp only[length_append];omega)).mono ?_;rintro e w7 ⟨rfl,hl⟩;replace HL:Hid (LS w0 w b A [.string a0,.string a1,.string a2,x 3,x 4,.string y.dec,.string y.grp,.string y.mi,.string y.pct,.int .i64 y.pri,.int .i64 y.sec,.slice ad11 y.lists.length k11,.slice ad12 y.units.length k12,.slice ad13 y.dates.length k13,.slice ad14 y.months.length k14,.slice ad15 y.days.length k15] (t++T1++T2++T3++T4) w7):=hl;clear hl;clear Ap x4;have x5:=HL.out.cel.cell 5;have x6:=HL.out.cel.cell 6;have x7:=HL.out.cel.cell 7;have x8:=HL.out.cel.cell 8;have x9:=HL.out.cel.cell 9;have x10:=HL.out.cel.cell 10;simp only[Le0,Le1]at x5 x6 x7 x8 x9 x10;have Ap:=HL.out.cel.lt
   go_upto_region 10 with(fail)
   obtain⟨C,hC⟩:∃C,w7.heap.size=C:=⟨_,rfl⟩
   try rw[hC]
   have Mr:A<C:=by have:=HL.out.cel.lt;omega
   refine Zb5 ?_;intro w8 kS;have HY:Hid (Cel w8 C 40 [.string y.dec,.string y.grp,.string y.mi,.string y.pct,.int .i64 y.pri,.int .i64 y.sec]):=by rw[kS,←hC];exact Cel.new w7 [.string y.dec,.string y.grp,.string y.mi,.string y.pct,.int .i64 y.pri,.int .i64 y.sec] 40
   have R2:=HL.out.alloc (.cells ([.string y.dec,.string y.grp,.string y.mi,.string y.pct,.int .i64 y.pri,.int .i64 y.sec]:List Value).toArray 40);replace HL:Hid (LS w0 w b A [.string a0,.string a1,.string a2,x 3,x 4,.string y.dec,.string y.grp,.string y.mi,.string y.pct,.int .i64 y.pri,.int .i64 y.sec,.slice ad11 y.lists.length k11,.slice ad12 y.units.length k12,.slice ad13 y.dates.length k13,.slice ad14 y.months.length k14,.slice ad15 y.days.length k15] (t++T1++T2++T3++T4) w8):=by rw[kS];exact R2
   clear kS R2;clear Ap x5 x6 x7 x8 x9 x10;have v0:=HY.out.cell 0;have v1:=HY.out.cell 1;have v2:=HY.out.cell 2;have v3:=HY.out.cell 3;have v4:=HY.out.cell 4;have v5:=HY.out.cell 5;simp only[Le0,Le1]at v0 v1 v2 v3 v4 v5;have kT:=HY.out.lt
   go_cut [53] (fun p wx=>p= .bool (!Zdq y)∧LS w0 w b A [.string a0,.string a1,.string a2,x 3,x 4,.string y.dec,.string y.grp,.string y.mi,.string y.pct,.int .i64 y.pri,.int .i64 y.sec,.slice ad11 y.lists.length k11,.slice ad12 y.units.length k12,.slice ad13 y.dates.length k13,.slice ad14 y.months.length k14,.slice ad15 y.days.length k15] (t++T1++T2++T3++T4) wx∧Cel wx C 40 [.string y.dec,.string y.grp,.string y.mi,.string y.pct,.int .i64 y.pri,.int .i64 y.sec])
   case first=>
    by_cases s0:y.dec= .empty
    ·have d_s0:=Zdk s0;have i_s0:=Zct s0;have l_s0:=List.isEmpty_iff.1 i_s0;have Fk:=Hd s0;clear s0
     by_cases s1:y.grp= .empty
     ·have d_s1:=Zdk s1;have i_s1:=Zct s1;have l_s1:=List.isEmpty_iff.1 i_s1;have Vq:=Hd s1;clear s1
      by_cases s2:y.mi= .empty
      ·have d_s2:=Zdk s2;have i_s2:=Zct s2;have l_s2:=List.isEmpty_iff.1 i_s2;have Xa:=Hd s2;clear s2
       by_cases s3:y.pct= .empty
       ·have d_s3:=Zdk s3;have i_s3:=Zct s3;have l_s3:=List.isEmpty_iff.1 i_s3;have bH:=Hd s3;clear s3
        by_cases s4:y.pri=0
        ·have d_s4:=decide_eq_true s4;have b_s4:=beq_iff_eq.2 s4;have eC:=Hd s4;clear s4
         by_cases s5:y.sec=0
         ·have d_s5:=decide_eq_true s5;have b_s5:=beq_iff_eq.2 s5;have kU:=Hd s5;clear s5
          go_wp2_with fail
          go_meet
          exact⟨by simp[Zdq,Fk.out,Vq.out,Xa.out,bH.out,eC.out,kU.out],HL.out,HY.out⟩
         ·have d_s5:=decide_eq_false s5;have b_s5:=beq_eq_false_iff_ne.2 s5;have kU:=Hd s5;clear s5
          go_wp2_with fail
          go_meet
          exact⟨by simp[Zdq,Fk.out,Vq.out,Xa.out,bH.out,eC.out,kU.out],HL.out,HY.out⟩
        ·have d_s4:=decide_eq_false s4;have b_s4:=beq_eq_false_iff_ne.2 s4;have eC:=Hd s4;clear s4
         go_wp2_with fail
         go_meet
         exact⟨by simp[Zdq,Fk.out,Vq.out,Xa.out,bH.out,eC.out],HL.out,HY.out⟩
       ·have d_s3:=Zeb s3;have i_s3:=Zd4 s3;have l_s3:=List.isEmpty_eq_false_iff.1 i_s3;have bH:=Hd s3;clear s3
        go_wp2_with fail
        go_meet
        exact⟨by simp[Zdq,Fk.out,Vq.out,Xa.out,bH.out],HL.out,HY.out⟩
      ·have d_s2:=Zeb s2;have i_s2:=Zd4 s2;have l_s2:=List.isEmpty_eq_false_iff.1 i_s2;have Xa:=Hd s2;clear s2
       go_wp2_with fail
       go_meet
       exact⟨by simp[Zdq,Fk.out,Vq.out,Xa.out],HL.out,HY.out⟩
     ·have d_s1:=Zeb s1;have i_s1:=Zd4 s1;have l_s1:=List.isEmpty_eq_false_iff.1 i_s1;have Vq:=Hd s1;clear s1
      go_wp2_with fail
      go_meet
      exact⟨by simp[Zdq,Fk.out,Vq.out],HL.out,HY.out⟩
    ·have d_s0:=Zeb s0;have i_s0:=Zd4 s0;have l_s0:=List.isEmpty_eq_false_iff.1 i_s0;have Fk:=Hd s0;clear s0
     go_wp2_with fail
     go_meet
     exact⟨by simp[Zdq,Fk.out],HL.out,HY.out⟩
   case rest=>
    clear kT v0 v1 v2 v3 v4 v5;obtain⟨rfl,hl,hy⟩:=hcut;replace HL:=Hd hl;replace HY:=Hd hy;clear hl hy;have R1:Hid (Zdq y=false→(Zhk y).length≤20000∧(∀s∈[y.dec,y.grp,y.mi,y.pct],s.size≤200000)∧0≤y.pri∧y.pri≤1000∧0≤y.sec∧y.sec≤1000):=fun hz=>by
     have eD:=Lk.out.sym;refine⟨Zvn eD hz,fun s h=>Qp.out.s7 s (mem_append_right [y.tag,y.par,y.dir] h),?_⟩;unfold Zg2 at eD;rw[hz,Bool.false_or]at eD;simp only[Bool.and_eq_true,decide_eq_true_eq]at eD;omega
    have Et:Hid (Zhk y=Zaw [9] (([(⟨#[115,121,109,98,111,108,115]⟩:ByteArray)]++[y.dec,y.grp,y.mi,y.pct].map (fun s=>bs (qT s))++[bs (Lib.itoa y.pri),bs (Lib.itoa y.sec)]).map (·.data.toList))):=rfl;have l5:(if Zdq y then []else Zhk y).length≤20000:=by
     cases hz:Zdq y with
     |true=>simp
     |false=>exact(R1.out hz).1
    generalize Zhk y=ST at *;generalize Zdq y=Z at *
    go_upto_if 53 with(fail)
    go_cut [] (fun wx=>LS w0 w b A [.string a0,.string a1,.string a2,x 3,x 4,.string y.dec,.string y.grp,.string y.mi,.string y.pct,.int .i64 y.pri,.int .i64 y.sec,.slice ad11 y.lists.length k11,.slice ad12 y.units.length k12,.slice ad13 y.dates.length k13,.slice ad14 y.months.length k14,.slice ad15 y.days.length k15] (t++T1++T2++T3++T4++(if Z then []else ST)) wx)
    case first=>
     cases Z with
     |true=>
      go_wp2_with fail
      go_meet
      (first|rw[if_pos trivial]|rw[if_pos rfl])
      rw[append_nil];exact HL.out
     |false=>
      rename World=>w8x
      obtain⟨pD,Eu,tQ,tR,tS,tT⟩:=R1.out rfl;have bK:C≠b:=by omega
      have v0:=HY.out.cell 0;have v1:=HY.out.cell 1;have v2:=HY.out.cell 2;have v3:=HY.out.cell 3;have v4:=HY.out.cell 4;have v5:=HY.out.cell 5;simp only[Le0,Le1]at v0 v1 v2 v3 v4 v5;have kT:=HY.out.lt
      go_wp2_with fail
      have Jk:=(HL.out.alloc (.cells #[.string ⟨#[115,121,109,98,111,108,115]⟩] 9)).alloc (.cells #[.string y.dec,.string y.grp,.string y.mi,.string y.pct] 9);have Ag:=((Below.refl w8x.heap.size w8x).alloc (le_refl _) (.cells #[.string ⟨#[115,121,109,98,111,108,115]⟩] 9)).alloc (by simp) (.cells #[.string y.dec,.string y.grp,.string y.mi,.string y.pct] 9);have Uu:=World.ownsRow.alloc (Zgf w8x [(⟨#[115,121,109,98,111,108,115]⟩:ByteArray)] #[.string ⟨#[115,121,109,98,111,108,115]⟩] rfl (by simp) (by simp) w0.heap.size HL.out.all.size w8x.heap.size rfl) (.cells #[.string y.dec,.string y.grp,.string y.mi,.string y.pct] 9);have B4:=Ze3 (w8x.alloc (.cells #[.string ⟨#[115,121,109,98,111,108,115]⟩] 9)) [y.dec,y.grp,y.mi,y.pct] #[.string y.dec,.string y.grp,.string y.mi,.string y.pct] 9 rfl (by simp) (fun s hs=>le_trans (Eu s hs) (by omega)) (w8x.heap.size+1) (by simp);refine(Zj9 _ [y.dec,y.grp,y.mi,y.pct] _ B4 (by simp) Eu (S5.out.below Jk.all)).mono ?_;rintro e wq ⟨ad5,c5,rfl,hq,hb⟩;replace HL:=Hd (Jk.below hb);replace HY:=Hd ((HY.out.below Ag).below hb);have HO:=Hd (Zci Uu hb);have HQ:=Hd hq;clear Jk Ag Uu B4 hq hb kT v0 v1 v2 v3 v4 v5
      go_wp2_with (at_builtin;refine Zj4 rfl (.tmp 54) (.tmp 64) rfl w0.heap.size (some ⟨w8x.heap.size,0,none⟩) 1 1 _ rfl HO.out ad5 4 c5 ([y.dec,y.grp,y.mi,y.pct].map (fun s=>bs (qT s))) rfl (Own.sl HQ.out) (Zqo HQ.out) (by omega) HL.out.all.size ?_;intro ad6 c6 w6y El Ql _;replace HY:=Hd (HY.out.oth (Oth.grown HO.out (.inr rfl) Ql) bK (by decide) (by decide));replace HL:=Hd (HL.out.app G7 HO.out Ql);replace HO:=Hd El;clear El Ql)
      have v4:=HY.out.cell 4;have v5:=HY.out.cell 5;simp only[Le0,Le1]at v4 v5;clear HQ;refine wp_region_held_drew (S:=(fun w'=>w'.cell? ⟨C,4,none⟩=some (.int .i64 y.pri)∧w'.cell? ⟨C,5,none⟩=some (.int .i64 y.sec))) (by kernel_rfl) ?_ (fun hHeld=>?_)
      ·go_keep
      refine Tk 0 ?_;refine Tk 1 ?_;refine Tk 2 ?_;refine Tk 3 ?_;refine Tk 5 ?_;refine Tk 6 ?_;replace HL:=Hd HL.out.drew;replace HY:Hid (Cel w6y.drew C 40 [.string y.dec,.string y.grp,.string y.mi,.string y.pct,.int .i64 y.pri,.int .i64 y.sec]):=HY.out;replace HO:=Hd (Zci HO.out (Below.refl _ _).drew);refine Rx 4 fun K hK=>?_
      go_simp
      refine(Zgd y.pri tQ tR _ (Qd.out.below HL.out.all)).mono ?_;rintro e wi ⟨rfl,hb⟩;replace HL:=Hd (HL.out.below hb);replace HY:=Hd (HY.out.below hb);replace HO:=Hd (Zci HO.out hb);replace v4:=HY.out.cell 4;replace v5:=HY.out.cell 5;simp only[Le0,Le1]at v4 v5;clear hb
      go_simp
      clear hHeld;refine hK.out _ _ (⟨v4,v5⟩) fun hHeld=>?_;clear hK K;refine Rx 7 fun K hK=>?_
      go_simp
      refine(Zgd y.sec tS tT _ (Qd.out.below HL.out.all)).mono ?_;rintro e wj ⟨rfl,hb⟩;replace HL:=Hd (HL.out.below hb);replace HY:=Hd (HY.out.below hb);replace HO:=Hd (Zci HO.out hb);replace v4:=HY.out.cell 4;replace v5:=HY.out.cell 5;simp only[Le0,Le1]at v4 v5;clear hb
      go_simp
      clear hHeld;refine hK.out _ _ (⟨v4,v5⟩) fun hHeld=>?_;clear hK K;refine Rx 8 fun K hK=>?_
      go_simp
      clear hHeld;refine hK.out _ _ (⟨Zdc v4,Zdc v5⟩) fun hHeld=>?_;clear hK K;have Xb:=HL.out.alloc (.cells #[.string (bs (Lib.itoa y.pri)),.string (bs (Lib.itoa y.sec))] 9);have pE:=HY.out.below ((Below.refl _ _).alloc (le_refl _) (.cells #[.string (bs (Lib.itoa y.pri)),.string (bs (Lib.itoa y.sec))] 9));have eE:=World.ownsRow.alloc HO.out (.cells #[.string (bs (Lib.itoa y.pri)),.string (bs (Lib.itoa y.sec))] 9);have F0:=Own.sl (Zgf wj [bs (Lib.itoa y.pri),bs (Lib.itoa y.sec)] #[.string (bs (Lib.itoa y.pri)),.string (bs (Lib.itoa y.sec))] rfl (by simp) (by simp) w0.heap.size HL.out.all.size wj.heap.size rfl);refine Rx 9 fun K hK=>?_;refine Zmu (.tmp 67) (.tmp 74) rfl w0.heap.size ad6 5 c6 _ rfl eE (some ⟨wj.heap.size,0,none⟩) 2 2 [bs (Lib.itoa y.pri),bs (Lib.itoa y.sec)] rfl F0 (fun e=>by cases e) (by omega) Xb.all.size ?_;intro ad8 c8 w8y Bd kV _;have O6:=Hd (Xb.app G7 eE kV);have kW:=Hd (pE.oth (Oth.grown eE (.inr rfl) kV) bK (by decide) (by decide));have kX:=Hd Bd;replace v4:=kW.out.cell 4;replace v5:=kW.out.cell 5;simp only[Le0,Le1]at v4 v5;clear Xb pE eE F0 Bd kV;clear hHeld;refine hK.out _ _ (⟨v4,v5⟩) fun hHeld=>?_;clear hK K;rw[Hid,←Zyb]at kX;have Gx:=Zh4 w0.heap.size b (t++T1++T2++T3++T4) ⟨#[9]⟩ ad8 7 c8 (([(⟨#[115,121,109,98,111,108,115]⟩:ByteArray)]++[y.dec,y.grp,y.mi,y.pct].map (fun s=>bs (qT s))++[bs (Lib.itoa y.pri),bs (Lib.itoa y.sec)])) w8y O6.out.pb (Own.sl kX) (by simp) (by omega) (Zlq kX) (by decide) O6.out.all.size (by rw[show(⟨#[9]⟩:ByteArray).data.toList=[9]from rfl,←Et.out];omega) (by simp only[length_append];omega);rw[show(⟨#[9]⟩:ByteArray).data.toList=[9]from rfl,←Et.out]at Gx;refine Rx 10 fun K hK=>?_
      go_simp
      refine Gx.mono ?_;rintro e w9 ⟨rfl,bL,Oh,Vr⟩;replace HL:Hid (LS w0 w b A [.string a0,.string a1,.string a2,x 3,x 4,.string y.dec,.string y.grp,.string y.mi,.string y.pct,.int .i64 y.pri,.int .i64 y.sec,.slice ad11 y.lists.length k11,.slice ad12 y.units.length k12,.slice ad13 y.dates.length k13,.slice ad14 y.months.length k14,.slice ad15 y.days.length k15] (t++T1++T2++T3++T4++ST) w9):=O6.out.step G7 bL Oh Vr;have kY:=kW.out.oth Vr bK (by decide) (by decide);replace v4:=kY.cell 4;replace v5:=kY.cell 5;simp only[Le0,Le1]at v4 v5;clear bL Oh Vr Gx kY
      go_simp
      clear hHeld;refine hK.out _ _ (⟨v4,v5⟩) fun hHeld=>?_;clear hK K;refine Dn ?_;clear hHeld
      go_wp2_with fail
      go_meet
      (first|rw[if_neg (show¬False from fun h=>h)]|rw[if_neg (show¬(false=true) by simp)])
      exact HL.out
    case rest=>
     replace HL:=Hd hcut;clear hcut HY R1 Et;generalize (if Z then []else ST)=T5 at *;have tU:=Zcu lpT 10000 y.lists fun x hx=>Zs4 (Lk.out.lists x hx);have tV:=Zcu upT 10000 y.units fun x hx=>Zst (Lk.out.units x hx);have kN:=Zcu dpT 10000 y.dates fun x hx=>Zrv (Lk.out.dates x hx);have Wc:=Lk.out.nl;have wO:=Lk.out.nu;have tW:=Lk.out.nd;replace tU:(y.lists.flatMap lpT).length≤1000000:=by omega
     replace tV:(y.units.flatMap upT).length≤1000000:=by omega
     replace kN:(y.dates.flatMap dpT).length≤1000000:=by omega
     have wP:(if y.months=[]then []else Zbb [[109,111,110,116,104,115]] y.months).length≤100000:=by
      have:=Zez [[109,111,110,116,104,115]] y.months (fun x hx=>by rw[List.mem_singleton.1 hx];decide) Lk.out.monthsX;have h2:=Lk.out.months;simp only[length_cons,length_nil]at this;split
      ·simp
      ·omega
     have x11:=HL.out.cel.cell 11;simp only[Le0,Le1]at x11;have Ap:=HL.out.cel.lt
     go_wp2_with fail
     clear Ap x11
     go_loopw [80] (fun i wr=>∃k:Nat,i= .int .i64 (k:Int)∧k≤y.lists.length∧LS w0 w b A [.string a0,.string a1,.string a2,x 3,x 4,.string y.dec,.string y.grp,.string y.mi,.string y.pct,.int .i64 y.pri,.int .i64 y.sec,.slice ad11 y.lists.length k11,.slice ad12 y.units.length k12,.slice ad13 y.dates.length k13,.slice ad14 y.months.length k14,.slice ad15 y.days.length k15] (t++T1++T2++T3++T4++T5++(y.lists.take k).flatMap lpT) wr) (fun i _=>y.lists.length -(intOf i).toNat)
     case atStart=>exact⟨0,rfl,zero_le _,by rw[take_zero,flatMap_nil,append_nil];exact HL.out⟩
     case round=>
      obtain⟨k,rfl,Co,hl⟩:=hrel;replace HL:=Hd hl;clear hl
      by_cases Aa:k<y.lists.length
      ·have A4:=Kb.out.below HL.out.all;have Ci:=fun W=>A4.ix 41 130 underlying41 (by kernel_rfl) (by omega) Aa k11 W;have c0:=A4.cell k 0 Aa (by omega);rw[(Oi.out k Aa).c0.1]at c0;have c1:=A4.cell k 1 Aa (by omega);rw[(Oi.out k Aa).c1.1]at c1;have c2:=A4.cell k 2 Aa (by omega);rw[(Oi.out k Aa).c2.1]at c2;have c3:=A4.cell k 3 Aa (by omega);rw[(Oi.out k Aa).c3.1]at c3;have c4:=A4.cell k 4 Aa (by omega);rw[(Oi.out k Aa).c4.1]at c4;rw[add_zero]at c0;have Jg:=Zdn lpT y.lists k;have D0:=Zs4 (Lk.out.lists y.lists[k] (getElem_mem Aa));have Am:=Qp.out.li.2 y.lists[k] (getElem_mem Aa);have Ds:Hid ((y.lists.take (k+1)).flatMap lpT=(y.lists.take k).flatMap lpT++lpT y.lists[k]):=by
        unfold Hid;rw[List.take_succ_eq_append_getElem Aa,List.flatMap_append];simp
       rw[Hid,show lpT y.lists[k]=Zbb ([(⟨#[108,105,115,116]⟩:ByteArray),y.lists[k].style].map (·.data.toList)) [y.lists[k].two,y.lists[k].start,y.lists[k].mid,y.lists[k].fin]from rfl]at Ds;replace Ds:=Hd Ds;replace D0:(Zbb ([(⟨#[108,105,115,116]⟩:ByteArray),y.lists[k].style].map (·.data.toList)) [y.lists[k].two,y.lists[k].start,y.lists[k].mid,y.lists[k].fin]).length≤10000:=D0;replace Am:∀s∈[y.lists[k].two,y.lists[k].start,y.lists[k].mid,y.lists[k].fin],s.size≤200000:=fun s hs=>Am s (mem_append_right [y.lists[k].style] hs);clear A4;generalize (y.lists.take k).flatMap lpT=TK at *;generalize y.lists[k].style=e_style at *;generalize y.lists[k].two=e_two at *;generalize y.lists[k].start=e_start at *;generalize y.lists[k].mid=e_mid at *;generalize y.lists[k].fin=e_fin at *;have HI:=Hd ((HL.out.alloc (.cells #[.string e_style,.string e_two,.string e_start,.string e_mid,.string e_fin] 130)).item G7 [⟨#[108,105,115,116]⟩,e_style] _ rfl (by simp) (by simp) (wr.heap.size+1) (by simp) [e_two,e_start,e_mid,e_fin] _ rfl (by simp) Am (wr.heap.size+2) (by simp) S5.out (le_trans D0 (by omega)) (by simp only[length_append];omega));clear Am D0 Jg
       go_wp2_with fail
       refine HI.out.mono ?_;rintro e wn ⟨rfl,hl⟩;replace HL:=Hd hl;clear hl HI
       go_wp2_with fail
       go_roundw
       case rel=>exact⟨k+1,by go_num,by omega,by rw[Ds.out,←append_assoc];exact HL.out⟩
       case measure=>simp[intOf];omega
      ·obtain rfl:k=y.lists.length:=by omega
       rw[Hid,take_length]at HL;replace HL:=Hd HL;have x12:=HL.out.cel.cell 12;simp only[Le0,Le1]at x12;have Ap:=HL.out.cel.lt
       go_wp2_with fail
       clear Ap x12
       go_loopw [102] (fun i wr=>∃k:Nat,i= .int .i64 (k:Int)∧k≤y.units.length∧LS w0 w b A [.string a0,.string a1,.string a2,x 3,x 4,.string y.dec,.string y.grp,.string y.mi,.string y.pct,.int .i64 y.pri,.int .i64 y.sec,.slice ad11 y.lists.length k11,.slice ad12 y.units.length k12,.slice ad13 y.dates.length k13,.slice ad14 y.months.length k14,.slice ad15 y.days.length k15] (t++T1++T2++T3++T4++T5++y.lists.flatMap lpT++(y.units.take k).flatMap upT) wr) (fun i _=>y.units.length -(intOf i).toNat)
       case atStart=>exact⟨0,rfl,zero_le _,by rw[take_zero,flatMap_nil,append_nil];exact HL.out⟩
       case round=>
        obtain⟨k,rfl,Co,hl⟩:=hrel;replace HL:=Hd hl;clear hl
        by_cases Aa:k<y.units.length
        ·have A4:=kP.out.below HL.out.all;have Ci:=fun W=>A4.ix 42 132 underlying42 (by kernel_rfl) (by omega) Aa k12 W;have c0:=A4.cell k 0 Aa (by omega);rw[(Vn.out k Aa).c0.1]at c0;have c1:=A4.cell k 1 Aa (by omega);rw[(Vn.out k Aa).c1.1]at c1;have c2:=A4.cell k 2 Aa (by omega);rw[(Vn.out k Aa).c2.1]at c2;rw[add_zero]at c0;have Jg:=Zdn upT y.units k;have D0:=Zst (Lk.out.units y.units[k] (getElem_mem Aa));have Am:=Qp.out.un.2 y.units[k] (getElem_mem Aa);have Ds:Hid ((y.units.take (k+1)).flatMap upT=(y.units.take k).flatMap upT++upT y.units[k]):=by
          unfold Hid;rw[List.take_succ_eq_append_getElem Aa,List.flatMap_append];simp
         rw[Hid,show upT y.units[k]=Zbb ([(⟨#[117,110,105,116]⟩:ByteArray),y.units[k].unit,y.units[k].cls].map (·.data.toList)) [y.units[k].pat]from rfl]at Ds;replace Ds:=Hd Ds;replace D0:(Zbb ([(⟨#[117,110,105,116]⟩:ByteArray),y.units[k].unit,y.units[k].cls].map (·.data.toList)) [y.units[k].pat]).length≤10000:=D0;replace Am:∀s∈[y.units[k].pat],s.size≤200000:=fun s hs=>Am s (mem_append_right [y.units[k].unit,y.units[k].cls] hs);clear A4;generalize (y.units.take k).flatMap upT=TK at *;generalize y.units[k].unit=e_unit at *;generalize y.units[k].cls=e_cls at *;generalize y.units[k].pat=e_pat at *;have HI:=Hd ((HL.out.alloc (.cells #[.string e_unit,.string e_cls,.string e_pat] 132)).item G7 [⟨#[117,110,105,116]⟩,e_unit,e_cls] _ rfl (by simp) (by simp) (wr.heap.size+1) (by simp) [e_pat] _ rfl (by simp) Am (wr.heap.size+2) (by simp) S5.out (le_trans D0 (by omega)) (by simp only[length_append];omega));clear Am D0 Jg
         go_wp2_with fail
         refine HI.out.mono ?_;rintro e wn ⟨rfl,hl⟩;replace HL:=Hd hl;clear hl HI
         go_wp2_with fail
         go_roundw
         case rel=>exact⟨k+1,by go_num,by omega,by rw[Ds.out,←append_assoc];exact HL.out⟩
         case measure=>simp[intOf];omega
        ·obtain rfl:k=y.units.length:=by omega
         rw[Hid,take_length]at HL;replace HL:=Hd HL;have x13:=HL.out.cel.cell 13;simp only[Le0,Le1]at x13;have Ap:=HL.out.cel.lt
         go_wp2_with fail
         clear Ap x13
         go_loopw [120] (fun i wr=>∃k:Nat,i= .int .i64 (k:Int)∧k≤y.dates.length∧LS w0 w b A [.string a0,.string a1,.string a2,x 3,x 4,.string y.dec,.string y.grp,.string y.mi,.string y.pct,.int .i64 y.pri,.int .i64 y.sec,.slice ad11 y.lists.length k11,.slice ad12 y.units.length k12,.slice ad13 y.dates.length k13,.slice ad14 y.months.length k14,.slice ad15 y.days.length k15] (t++T1++T2++T3++T4++T5++y.lists.flatMap lpT++y.units.flatMap upT++(y.dates.take k).flatMap dpT) wr) (fun i _=>y.dates.length -(intOf i).toNat)
         case atStart=>exact⟨0,rfl,zero_le _,by rw[take_zero,flatMap_nil,append_nil];exact HL.out⟩
         case round=>
          obtain⟨k,rfl,Co,hl⟩:=hrel;replace HL:=Hd hl;clear hl
          by_cases Aa:k<y.dates.length
          ·have A4:=kQ.out.below HL.out.all;have Ci:=fun W=>A4.ix 43 134 underlying43 (by kernel_rfl) (by omega) Aa k13 W;have c0:=A4.cell k 0 Aa (by omega);rw[(bG.out k Aa).c0.1]at c0;have c1:=A4.cell k 1 Aa (by omega);rw[(bG.out k Aa).c1.1]at c1;rw[add_zero]at c0;have Jg:=Zdn dpT y.dates k;have D0:=Zrv (Lk.out.dates y.dates[k] (getElem_mem Aa));have Am:=Qp.out.dt.2 y.dates[k] (getElem_mem Aa);have Ds:Hid ((y.dates.take (k+1)).flatMap dpT=(y.dates.take k).flatMap dpT++dpT y.dates[k]):=by
            unfold Hid;rw[List.take_succ_eq_append_getElem Aa,List.flatMap_append];simp
           rw[Hid,show dpT y.dates[k]=Zbb ([(⟨#[100,97,116,101]⟩:ByteArray),y.dates[k].skel].map (·.data.toList)) [y.dates[k].pat]from rfl]at Ds;replace Ds:=Hd Ds;replace D0:(Zbb ([(⟨#[100,97,116,101]⟩:ByteArray),y.dates[k].skel].map (·.data.toList)) [y.dates[k].pat]).length≤10000:=D0;replace Am:∀s∈[y.dates[k].pat],s.size≤200000:=fun s hs=>Am s (mem_append_right [y.dates[k].skel] hs);clear A4;generalize (y.dates.take k).flatMap dpT=TK at *;generalize y.dates[k].skel=e_skel at *;generalize y.dates[k].pat=e_pat at *;have HI:=Hd ((HL.out.alloc (.cells #[.string e_skel,.string e_pat] 134)).item G7 [⟨#[100,97,116,101]⟩,e_skel] _ rfl (by simp) (by simp) (wr.heap.size+1) (by simp) [e_pat] _ rfl (by simp) Am (wr.heap.size+2) (by simp) S5.out (le_trans D0 (by omega)) (by simp only[length_append];omega));clear Am D0 Jg
           go_wp2_with fail
           refine HI.out.mono ?_;rintro e wn ⟨rfl,hl⟩;replace HL:=Hd hl;clear hl HI
           go_wp2_with fail
           go_roundw
           case rel=>exact⟨k+1,by go_num,by omega,by rw[Ds.out,←append_assoc];exact HL.out⟩
           case measure=>simp[intOf];omega
          ·obtain rfl:k=y.dates.length:=by omega
           rw[Hid,take_length]at HL;replace HL:=Hd HL;have x14:=HL.out.cel.cell 14;simp only[Le0,Le1]at x14;have Ap:=HL.out.cel.lt
           go_upto_if 136 with(fail)
           go_cut [] (fun wx=>LS w0 w b A [.string a0,.string a1,.string a2,x 3,x 4,.string y.dec,.string y.grp,.string y.mi,.string y.pct,.int .i64 y.pri,.int .i64 y.sec,.slice ad11 y.lists.length k11,.slice ad12 y.units.length k12,.slice ad13 y.dates.length k13,.slice ad14 y.months.length k14,.slice ad15 y.days.length k15] (t++T1++T2++T3++T4++T5++y.lists.flatMap lpT++y.units.flatMap upT++y.dates.flatMap dpT++(if y.months=[]then []else Zbb [[109,111,110,116,104,115]] y.months)) wx)
           case first=>
            by_cases hm:y.months=[]
            ·have hd:decide (0<y.months.length)=false:=by rw[hm];rfl
             rw[hd];have HM:=Hd hm;clear hm hd
             go_wp2_with fail
             go_meet
             rw[if_pos HM.out,append_nil];exact HL.out
            ·have hd:decide (0<y.months.length)=true:=decide_eq_true (List.length_pos_iff.2 hm);rw[hd];have HM:=Hd hm;clear hm hd
             go_wp2_with fail
             refine(Ms.out A _ _ _ HL.out G7 (by simp only[length_append];omega)).mono ?_;rintro e wn ⟨rfl,hl⟩;replace HL:=Hd hl;clear hl
             go_wp2_with fail
             go_meet
             rw[if_neg HM.out];exact HL.out
           case rest=>
            clear Ap x14;replace HL:=Hd hcut;clear hcut;generalize (if y.months=[]then []else Zbb [[109,111,110,116,104,115]] y.months)=T9 at *;have x15:=HL.out.cel.cell 15;simp only[Le0,Le1]at x15;have Ap:=HL.out.cel.lt
            go_upto_if 145 with(fail)
            go_cut [] (fun wx=>LS w0 w b A [.string a0,.string a1,.string a2,x 3,x 4,.string y.dec,.string y.grp,.string y.mi,.string y.pct,.int .i64 y.pri,.int .i64 y.sec,.slice ad11 y.lists.length k11,.slice ad12 y.units.length k12,.slice ad13 y.dates.length k13,.slice ad14 y.months.length k14,.slice ad15 y.days.length k15] (t++T1++T2++T3++T4++T5++y.lists.flatMap lpT++y.units.flatMap upT++y.dates.flatMap dpT++T9++(if y.days=[]then []else Zbb [[100,97,121,115]] y.days)) wx)
            case first=>
             by_cases hm:y.days=[]
             ·have hd:decide (0<y.days.length)=false:=by rw[hm];rfl
              rw[hd];have HM:=Hd hm;clear hm hd
              go_wp2_with fail
              go_meet
              rw[if_pos HM.out,append_nil];exact HL.out
             ·have hd:decide (0<y.days.length)=true:=decide_eq_true (List.length_pos_iff.2 hm);rw[hd];have HM:=Hd hm;clear hm hd
              go_wp2_with fail
              refine(Mt.out A _ _ _ HL.out G7 (by simp only[length_append];omega)).mono ?_;rintro e wn ⟨rfl,hl⟩;replace HL:=Hd hl;clear hl
              go_wp2_with fail
              go_meet
              rw[if_neg HM.out];exact HL.out
            case rest=>
             clear Ap x15;replace HL:=Hd hcut;clear hcut;have tP:(if y.days=[]then []else Zbb [[100,97,121,115]] y.days).length≤100000:=by
              have:=Zez [[100,97,121,115]] y.days (fun x hx=>by rw[List.mem_singleton.1 hx];decide) Lk.out.daysX;have h2:=Lk.out.days;simp only[length_cons,length_nil]at this;split
              ·simp
              ·omega
             generalize (if y.days=[]then []else Zbb [[100,97,121,115]] y.days)=TD at *
             go_wp2_with fail
             refine(HL.out.write G7 ⟨#[125,10]⟩ (by decide) (by decide) (by simp only[length_append];omega)).mono ?_;rintro e wn ⟨rfl,hl⟩;replace HL:=Hd hl;clear hl
             go_wp2_with fail
             go_end0;have hl:=HL.out;refine⟨rfl,?_,hl.bel,hl.oth⟩;have hp:=hl.pb
             try rw[show(⟨#[125,10]⟩:ByteArray).data.toList=[125,10]from rfl]at hp
             rw[P4.out];simp only[append_assoc]at hp⊢;exact hp
end Go.Proofs.YtmleeodfmmpdgaaGreatDoor
