/- part -/
import Derived.Test.YtmleeodfmmpdgaaGreatDoorQ27
set_option maxRecDepth 20000
set_option maxHeartbeats 4000000
namespace Go.Proofs.YtmleeodfmmpdgaaGreatDoor
open Go.RowKit
attribute [local go_sem] Ext.cell Ext.frozen
attribute [local go_sem ↓] Go.wp_at_zero Go.wp_at_succ
open _root_.Nat (le_trans zero_le)
open _root_.Go.Proofs.Tryz
def Zfv:List TypeId:=[51,91,94,152,130,132,134,9]
theorem LocV.lcC {base:Nat} {w:World} {L:Nat} {y:Lc} {v3 v4 v11 v12 v13 v14 v15:Value} (h:LocV base w L y v3 v4 v11 v12 v13 v14 v15)(hs:LcSz y)(hf:LcFew 1 y):LcC (see base Zfv w) (fun j=>(#[.string y.tag,.string y.par,.string y.dir,v3,v4,.string y.dec,.string y.grp,.string y.mi,.string y.pct,.int .i64 y.pri,.int .i64 y.sec,v11,v12,v13,v14,v15]:Array Value).getD j undef) y:=by
 have n3:y.card.length≤140737488351232:=le_trans hf.card (by decide);have n4:y.ord.length≤140737488351232:=le_trans hf.ord (by decide);have n11:y.lists.length≤140737488351232:=le_trans hf.lists (by decide);have n12:y.units.length≤140737488351232:=le_trans hf.units (by decide);have n13:y.dates.length≤140737488351232:=le_trans hf.dates (by decide);have n14:y.months.length≤140737488351232:=le_trans hf.months (by decide);have n15:y.days.length≤140737488351232:=le_trans hf.days (by decide);have big:∀ {s:ByteArray},s.size≤200000→s.size≤140737488351232:=fun h=>le_trans h (by decide);have num:∀ {z:Int},0≤z∧z≤1000000→-9223372036854775808≤z∧z≤9223372036854775807:=fun h=>⟨by omega,by omega⟩;have up:∀ts,(∀T,T∈ts→T∈Zfv)→Sub (see base ts w) (see base Zfv w):=fun ts h=>Zcr w (Nat.le_refl _) h;exact⟨⟨rfl,big hs.tag⟩,⟨rfl,big hs.par⟩,⟨rfl,big hs.dir⟩,(h.g3.rows Zbp n3).sub (up _ (by decide)) fun _ _ g=>Zbp _ _ _ _ (up _ (by decide)) g,(h.g4.rows Zbp n4).sub (up _ (by decide)) fun _ _ g=>Zbp _ _ _ _ (up _ (by decide)) g,
  ⟨rfl,big hs.dec⟩,⟨rfl,big hs.grp⟩,⟨rfl,big hs.mi⟩,⟨rfl,big hs.pct⟩,⟨rfl,num hs.pri⟩,⟨rfl,num hs.sec⟩,
  (h.g11.rows Zel n11).sub (up _ (by decide)) fun _ _ g=>Zel _ _ _ _ (up [130] (by decide)) g,(h.g12.rows Zek n12).sub (up _ (by decide)) fun _ _ g=>Zek _ _ _ _ (up [132] (by decide)) g,(h.g13.rows Zen n13).sub (up _ (by decide)) fun _ _ g=>Zen _ _ _ _ (up [134] (by decide)) g,
  (h.g14.rows Zbd n14).sub (up _ (by decide)) fun _ _ g=>g,(h.g15.rows Zbd n15).sub (up _ (by decide)) fun _ _ g=>g⟩
theorem LocV.new {w:World} {L:Nat} {tag par:ByteArray} (h:Cel w L 46 [.string tag,.string par,.string ⟨#[]⟩,.slice none 0 0,.slice none 0 0,.string ⟨#[]⟩,.string ⟨#[]⟩,.string ⟨#[]⟩,.string ⟨#[]⟩,.int .i64 0,.int .i64 0,.slice none 0 0,.slice none 0 0,.slice none 0 0,.slice none 0 0,.slice none 0 0]):LocV L w L (lc0 tag par) (.slice none 0 0) (.slice none 0 0) (.slice none 0 0) (.slice none 0 0) (.slice none 0 0) (.slice none 0 0) (.slice none 0 0):=
 ⟨h,Nat.le_refl _,Grow.nil _ _ _ _ _ _,Grow.nil _ _ _ _ _ _,Grow.nil _ _ _ _ _ _,Grow.nil _ _ _ _ _ _,Grow.nil _ _ _ _ _ _,Grow.nil _ _ _ _ _ _,Grow.nil _ _ _ _ _ _,Apart.none _ _ _⟩
theorem LcSz.new {tag par:ByteArray} (h1:tag.size≤200000)(h2:par.size≤200000):LcSz (lc0 tag par):=⟨h1,h2,zero_le _,zero_le _,zero_le _,zero_le _,zero_le _,⟨Int.le_refl _,by show(0:Int)≤_;decide⟩,⟨Int.le_refl _,by show(0:Int)≤_;decide⟩⟩
theorem LcFew.new (tag par:ByteArray):LcFew 0 (lc0 tag par):=⟨zero_le _,zero_le _,zero_le _,zero_le _,zero_le _,zero_le _,zero_le _⟩
def Zng (b:Nat)(E:Int)(w:World)(res:Lc×RS)(e:Ending)(w':World):Prop:=
 ∃f:Nat→Value,e= .returned (.agg #[f 0,f 1,f 2,f 3,f 4,f 5,f 6,f 7,f 8,f 9,f 10,f 11,f 12,f 13,f 14,f 15])∧LcC (see w.heap.size Zfv w') f res.1∧Rd w' b E res.2∧Kp (Zaf b) w w'
def Zmd (n:Nat):Code→Code
 | .seq a b=>match a with
  | .region k _ _=>if k=n then b else Zmd n b
  | .seq (.region k _ _) c=>if k=n then .seq c b else Zmd n b
  |_=>Zmd n b
 |c=>c
noncomputable def Zada (n:Nat):Code:=Zmd n ((Tryz.f58.body).getD .skip)
noncomputable def Zaef (n:Nat):Code:=Zi3 n ((Tryz.f58.body).getD .skip)
theorem Zalh (b:Nat)(E:Int)(q:RS)(y:Lc)(w w9:World)(n0 L:Nat)(u1 u4 u5 u6 u7 u8 u9 u10 u11 u12 u13 u14 u15 u16 u17 u18 u19 u20 u21 u22 u23 u24 u25 u26 u27 u28 u29 u30:Value)(E6:w.heap.size=n0)(hb:b<n0)(hL:n0<L)(hr:Rd w9 b E q)(hl:LocAt L w9 L y)(hN:Cel w9 n0 46 [.string ⟨#[]⟩,.string ⟨#[]⟩,.string ⟨#[]⟩,.slice none 0 0,.slice none 0 0,.string ⟨#[]⟩,.string ⟨#[]⟩,.string ⟨#[]⟩,.string ⟨#[]⟩,.int .i64 0,.int .i64 0,.slice none 0 0,.slice none 0 0,.slice none 0 0,.slice none 0 0,.slice none 0 0])(hk:Kp (Zaf b) w w9)(hs:LcSz y)(hf:LcFew 1 y):
  (Zaef 9).wp prog (bodyPost prog Tryz.f58 (Zng b E w (y,q))) ⟨#[.pointer (some ⟨b,0,none⟩),u1,.pointer (some ⟨n0,0,none⟩),.pointer (some ⟨L,0,none⟩),u4,u5,u6,u7,u8,u9,u10,u11,u12,u13,u14,u15,u16,u17,u18,u19,u20,u21,u22,u23,u24,u25,u26,u27,u28,u29,u30],[]⟩ w9:=by
 obtain⟨v3,v4,v11,v12,v13,v14,v15,hl⟩:=hl;obtain⟨a3,k3,hv⟩:=hl.g3.shape;subst hv;obtain⟨a4,k4,hv⟩:=hl.g4.shape;subst hv;obtain⟨a11,k11,hv⟩:=hl.g11.shape;subst hv;obtain⟨a12,k12,hv⟩:=hl.g12.shape;subst hv;obtain⟨a13,k13,hv⟩:=hl.g13.shape;subst hv;obtain⟨a14,k14,hv⟩:=hl.g14.shape;subst hv;obtain⟨a15,k15,hv⟩:=hl.g15.shape;subst hv;have Fi:=Hd hl;have D3:=Hd hN;have Ev:=Hd hk;have O7:=Hd hr;unfold Zng;clear hl hN hk hr;rw[E6];unfold Zaef
 try dsimp only
 conv=>arg 2;whnf
 have c0:=Fi.out.cel.cell 0;have r0:=D3.out.cell 0;have g0:=D3.out.frz 0;have c1:=Fi.out.cel.cell 1;have r1:=D3.out.cell 1;have g1:=D3.out.frz 1;have c2:=Fi.out.cel.cell 2;have r2:=D3.out.cell 2;have g2:=D3.out.frz 2;have c3:=Fi.out.cel.cell 3;have r3:=D3.out.cell 3;have g3:=D3.out.frz 3;have c4:=Fi.out.cel.cell 4;have r4:=D3.out.cell 4;have g4:=D3.out.frz 4;have c5:=Fi.out.cel.cell 5;have r5:=D3.out.cell 5;have g5:=D3.out.frz 5;have c6:=Fi.out.cel.cell 6;have r6:=D3.out.cell 6;have g6:=D3.out.frz 6;have c7:=Fi.out.cel.cell 7;have r7:=D3.out.cell 7;have g7:=D3.out.frz 7;have c8:=Fi.out.cel.cell 8;have r8:=D3.out.cell 8;have g8:=D3.out.frz 8;have c9:=Fi.out.cel.cell 9;have r9:=D3.out.cell 9;have g9:=D3.out.frz 9;have c10:=Fi.out.cel.cell 10;have r10:=D3.out.cell 10;have g10:=D3.out.frz 10;have c11:=Fi.out.cel.cell 11;have r11:=D3.out.cell 11;have g11:=D3.out.frz 11;have c12:=Fi.out.cel.cell 12;have r12:=D3.out.cell 12;have g12:=D3.out.frz 12;have c13:=Fi.out.cel.cell 13;have r13:=D3.out.cell 13;have g13:=D3.out.frz 13;have c14:=Fi.out.cel.cell 14;have r14:=D3.out.cell 14;have g14:=D3.out.frz 14;have c15:=Fi.out.cel.cell 15;have r15:=D3.out.cell 15;have g15:=D3.out.frz 15;simp only[Le0,Le1]at c0 r0 c1 r1 c2 r2 c3 r3 c4 r4 c5 r5 c6 r6 c7 r7 c8 r8 c9 r9 c10 r10 c11 r11 c12 r12 c13 r13 c14 r14 c15 r15;have E9:=Fi.out.cel.lt;have iC:=D3.out.lt
 go_wp2_with fail
 have iD:=((((((((((((((((D3.out.set 0 (.string y.tag)).set 1 (.string y.par)).set 2 (.string y.dir)).set 3 (.slice a3 y.card.length k3)).set 4 (.slice a4 y.ord.length k4)).set 5 (.string y.dec)).set 6 (.string y.grp)).set 7 (.string y.mi)).set 8 (.string y.pct)).set 9 (.int .i64 y.pri)).set 10 (.int .i64 y.sec)).set 11 (.slice a11 y.lists.length k11)).set 12 (.slice a12 y.units.length k12)).set 13 (.slice a13 y.dates.length k13)).set 14 (.slice a14 y.months.length k14)).set 15 (.slice a15 y.days.length k15));have Gj:Kp (Zaf n0) w9 ((((((((((((((((w9.setCell ⟨n0,0,none⟩ (.string y.tag)).setCell ⟨n0,1,none⟩ (.string y.par)).setCell ⟨n0,2,none⟩ (.string y.dir)).setCell ⟨n0,3,none⟩ (.slice a3 y.card.length k3)).setCell ⟨n0,4,none⟩ (.slice a4 y.ord.length k4)).setCell ⟨n0,5,none⟩ (.string y.dec)).setCell ⟨n0,6,none⟩ (.string y.grp)).setCell ⟨n0,7,none⟩ (.string y.mi)).setCell ⟨n0,8,none⟩ (.string y.pct)).setCell ⟨n0,9,none⟩ (.int .i64 y.pri)).setCell ⟨n0,10,none⟩ (.int .i64 y.sec)).setCell ⟨n0,11,none⟩ (.slice a11 y.lists.length k11)).setCell ⟨n0,12,none⟩ (.slice a12 y.units.length k12)).setCell ⟨n0,13,none⟩ (.slice a13 y.dates.length k13)).setCell ⟨n0,14,none⟩ (.slice a14 y.months.length k14)).setCell ⟨n0,15,none⟩ (.slice a15 y.days.length k15)):=(((((((((((((((((Kp.refl _ w9).set (p:=⟨n0,0,none⟩) (Za8 n0) (.string y.tag)).set (p:=⟨n0,1,none⟩) (Za8 n0) (.string y.par)).set (p:=⟨n0,2,none⟩) (Za8 n0) (.string y.dir)).set (p:=⟨n0,3,none⟩) (Za8 n0) (.slice a3 y.card.length k3)).set (p:=⟨n0,4,none⟩) (Za8 n0) (.slice a4 y.ord.length k4)).set (p:=⟨n0,5,none⟩) (Za8 n0) (.string y.dec)).set (p:=⟨n0,6,none⟩) (Za8 n0) (.string y.grp)).set (p:=⟨n0,7,none⟩) (Za8 n0) (.string y.mi)).set (p:=⟨n0,8,none⟩) (Za8 n0) (.string y.pct)).set (p:=⟨n0,9,none⟩) (Za8 n0) (.int .i64 y.pri)).set (p:=⟨n0,10,none⟩) (Za8 n0) (.int .i64 y.sec)).set (p:=⟨n0,11,none⟩) (Za8 n0) (.slice a11 y.lists.length k11)).set (p:=⟨n0,12,none⟩) (Za8 n0) (.slice a12 y.units.length k12)).set (p:=⟨n0,13,none⟩) (Za8 n0) (.slice a13 y.dates.length k13)).set (p:=⟨n0,14,none⟩) (Za8 n0) (.slice a14 y.months.length k14)).set (p:=⟨n0,15,none⟩) (Za8 n0) (.slice a15 y.days.length k15));refine bodyPost_ret (results_cell_row rfl _ _ n0 46 #[.string y.tag,.string y.par,.string y.dir,.slice a3 y.card.length k3,.slice a4 y.ord.length k4,.string y.dec,.string y.grp,.string y.mi,.string y.pct,.int .i64 y.pri,.int .i64 y.sec,.slice a11 y.lists.length k11,.slice a12 y.units.length k12,.slice a13 y.dates.length k13,.slice a14 y.months.length k14,.slice a15 y.days.length k15] (0,0) _ rfl iD underlying46 rfl (by kernel_rfl)) rfl ?_;have sD:Sub (see L Zfv w9) (see n0 Zfv ((((((((((((((((w9.setCell ⟨n0,0,none⟩ (.string y.tag)).setCell ⟨n0,1,none⟩ (.string y.par)).setCell ⟨n0,2,none⟩ (.string y.dir)).setCell ⟨n0,3,none⟩ (.slice a3 y.card.length k3)).setCell ⟨n0,4,none⟩ (.slice a4 y.ord.length k4)).setCell ⟨n0,5,none⟩ (.string y.dec)).setCell ⟨n0,6,none⟩ (.string y.grp)).setCell ⟨n0,7,none⟩ (.string y.mi)).setCell ⟨n0,8,none⟩ (.string y.pct)).setCell ⟨n0,9,none⟩ (.int .i64 y.pri)).setCell ⟨n0,10,none⟩ (.int .i64 y.sec)).setCell ⟨n0,11,none⟩ (.slice a11 y.lists.length k11)).setCell ⟨n0,12,none⟩ (.slice a12 y.units.length k12)).setCell ⟨n0,13,none⟩ (.slice a13 y.dates.length k13)).setCell ⟨n0,14,none⟩ (.slice a14 y.months.length k14)).setCell ⟨n0,15,none⟩ (.slice a15 y.days.length k15))):=(Zf8 (Gj.kptO D3.out (by decide))).trans (Zcr _ (by omega) fun _ h=>h);exact⟨fun j=>(#[.string y.tag,.string y.par,.string y.dir,.slice a3 y.card.length k3,.slice a4 y.ord.length k4,.string y.dec,.string y.grp,.string y.mi,.string y.pct,.int .i64 y.pri,.int .i64 y.sec,.slice a11 y.lists.length k11,.slice a12 y.units.length k12,.slice a13 y.dates.length k13,.slice a14 y.months.length k14,.slice a15 y.days.length k15]:Array Value).getD j undef,rfl,(Fi.out.lcC hs hf).sub sD,O7.out.kp Gj (fun i hi=>Za1 (by omega)),Ev.out.then Gj (fun i hi e=>by have:=of_decide_eq_true e;omega)⟩
def Zj6 (b:Nat)(w:World):Nat:=match w.cell? ⟨b,3,none⟩with
 |some (.int .i64 0)=>Zx5 ((w.cell? ⟨b,0,none⟩).getD undef)+1
 |_=>0
theorem Zmj {w:World} {b:Nat} {E:Int} {r:RS} (h:Rd w b E r)(he:r.e=0):Zj6 b w=r.l.length+1:=by
 obtain⟨_,_,_,_,h1,_⟩:=h;unfold Zj6;rw[h1.cell 0,h1.cell 3];simp[he,Zx5]
theorem Zw9 {w:World} {b:Nat} {E:Int} {r:RS} (h:Rd w b E r)(he:r.e≠0):Zj6 b w=0:=by
 obtain⟨_,_,_,_,h1,_⟩:=h;unfold Zj6;rw[h1.cell 0,h1.cell 3];simp only[Le0,Le1];split
 ·rename_i h;injection h with h;injection h with _ h;exact absurd h he
 ·rfl
theorem Zakx (b:Nat)(E:Int)(q1:RS)(tag par:ByteArray)(w w5:World)(n0 L:Nat)(u1 u4 u5 u6 u7 u8 u9 u10 u11 u12 u13 u14 u15 u16 u17 u18 u19 u20 u21 u22 u23 u24 u25 u26 u27 u28 u29 u30:Value)(E6:w.heap.size=n0)(hb:b<n0)(hL:n0<L)(hr:Rd w5 b E q1)(hx:Cel w5 L 46 [.string tag,.string par,.string ⟨#[]⟩,.slice none 0 0,.slice none 0 0,.string ⟨#[]⟩,.string ⟨#[]⟩,.string ⟨#[]⟩,.string ⟨#[]⟩,.int .i64 0,.int .i64 0,.slice none 0 0,.slice none 0 0,.slice none 0 0,.slice none 0 0,.slice none 0 0])(hN:Cel w5 n0 46 [.string ⟨#[]⟩,.string ⟨#[]⟩,.string ⟨#[]⟩,.slice none 0 0,.slice none 0 0,.string ⟨#[]⟩,.string ⟨#[]⟩,.string ⟨#[]⟩,.string ⟨#[]⟩,.int .i64 0,.int .i64 0,.slice none 0 0,.slice none 0 0,.slice none 0 0,.slice none 0 0,.slice none 0 0])(hk:Kp (Zaf b) w w5)(hM:MaxAt n0 w5)(h1:tag.size≤200000)(h2:par.size≤200000):
  (Zada 5).wp prog (bodyPost prog Tryz.f58 (Zng b E w (let t:=tItems E (q1.l.length+1) (lc0 tag par) q1;(t.1,t.2.mark E [125])))) ⟨#[.pointer (some ⟨b,0,none⟩),u1,.pointer (some ⟨n0,0,none⟩),.pointer (some ⟨L,0,none⟩),u4,u5,u6,u7,u8,u9,u10,u11,u12,u13,u14,u15,u16,u17,u18,u19,u20,u21,u22,u23,u24,u25,u26,u27,u28,u29,u30],[]⟩ w5:=by
 have Ao:Hid (∀n y q,tItems E (n+1) y q=if q.e=0∧q.is E 3 [125]=false then tItems E n (tItem E y q).1 (tItem E y q).2 else(y,q)):=fun _ _ _=>rfl;have Yq:Hid (∀y q,tItems E 0 y q=(y,q)):=fun _ _=>rfl;have C4:=Hd (LcSz.new h1 h2);have Uy:=Hd (LcFew.new tag par);have HX:=Hd hx;have HN:=Hd hN;have HK:=Hd hk;have HR:=Hd hr;have HM:=Hd hM;have J6:n0≠b:=by omega
 have sE:L≠b:=by omega
 clear hr hx hN hk hM h1 h2;dsimp only;obtain⟨y0,dF⟩:∃y,lc0 tag par=y:=⟨_,rfl⟩;have HT:Hid (tItems E (q1.l.length+1) y0 q1=tItems E (q1.l.length+1) (lc0 tag par) q1):=by rw[dF];rfl
 rw[dF]at C4 Uy;generalize tItems E (q1.l.length+1) (lc0 tag par) q1=T at *;have Bb:=Hd (fun q y W u1 u4 u5 u6 u7 u8 u9 u10 u11 u12 u13 u14 u15 u16 u17 u18 u19 u20 u21 u22 u23 u24 u25 u26 u27 u28 u29 u30 g gl gN gk gs gf (gT:T.1=y) (gT2:T.2.mark E [125]=q)=>(show(Zaef 9).wp prog (bodyPost prog Tryz.f58 (Zng b E w (T.1,T.2.mark E [125]))) ⟨#[.pointer (some ⟨b,0,none⟩),u1,.pointer (some ⟨n0,0,none⟩),.pointer (some ⟨L,0,none⟩),u4,u5,u6,u7,u8,u9,u10,u11,u12,u13,u14,u15,u16,u17,u18,u19,u20,u21,u22,u23,u24,u25,u26,u27,u28,u29,u30],[]⟩ W by rw[gT,gT2];exact Zalh b E q y w W n0 L u1 u4 u5 u6 u7 u8 u9 u10 u11 u12 u13 u14 u15 u16 u17 u18 u19 u20 u21 u22 u23 u24 u25 u26 u27 u28 u29 u30 E6 hb hL g gl gN gk gs gf));unfold Zada
 try dsimp only
 conv=>arg 2;whnf
 obtain⟨w6,dG⟩:∃W,W=w5:=⟨_,rfl⟩;have G3:Kp (Zaf b) w5 w6:=by rw[dG];exact Kp.refl _ _
 have Rs:Rd w6 b E q1:=by rw[dG];exact HR.out
 rw[←dG];clear dG;have Cr:=Hd Rs;have nU:Hid (LocAt L w6 L y0):=⟨_,_,_,_,_,_,_,dF▸LocV.new (HX.out.kp G3 (Za1 sE))⟩;have Nq:=Hd (HN.out.kp G3 (Za1 J6));have By:=Hd (HK.out.trans G3);have iE:=HM.out.kp HR.out (G3.item (base:=n0));have sF:Hid (MaxAt L w6):=⟨iE.1,by have:=iE.2;omega⟩;have nW:w.heap.size≤w6.heap.size:=By.out.size;have wB:L<w6.heap.size:=nU.out.lt.2;clear Rs G3 iE HX HN HK HM HR dF
 go_wp2_with fail
 go_loopw [] (fun wr=>∃n y q,tItems E n y q=T∧(q.e=0→q.l.length<n)∧LocAt L wr L y∧Rd wr b E q∧Kp (Zcj b L) w6 wr∧LcSz y∧LcFew 1 y∧(q.e=0→LcFew 0 y)) (fun wr=>Zj6 b wr)
 case atStart=>exact⟨q1.l.length+1,y0,q1,HT.out,(fun _=>by omega),nU.out,Cr.out,Kp.refl _ _,C4.out,Uy.out.mono (by decide),fun _=>Uy.out⟩
 case round=>
  obtain⟨n,y,q,Ff,Gx,hl,hr,hk,hs,hf,Ej⟩:=hrel;have HQ:=Hd hr;have iF:=Hd hl;have iG:=Hd hs;have nX:=Hd hf;have iH:=Hd (Nq.out.kp hk (Znq J6 hL));have nY:=Hd hk;have iI:Hid (Kp (Zaf b) w wr):=By.out.then hk (fun i hi e=>by
   unfold Zcj at e;rw[Bool.or_eq_true,decide_eq_true_eq,decide_eq_true_eq]at e;rcases e with e|e
   ·rw[e];exact Za8 b
   ·omega)
  obtain⟨c2,c3,_,_,_⟩:=hr.cells;have I3:=hr.lt;have Et:=Hd Ff;clear Ff hl hr hk hs hf;have G5:=Hd (Zhh b E 3 [125] q wr HQ.out)
  by_cases he:q.e=0
  ·have I7:=Hd (Ej he);have Hb:=Hd (Gx he);have iJ:=Hd (Zmj HQ.out he);have nZ:=Hd he;rw[he]at c3;clear Ej Gx he
   go_wp2_with fail
   refine G5.out.mono ?_;rintro _ w7 ⟨rfl,P2⟩;have dH:=Hd (HQ.out.below P2);have oC:=Hd (iF.out.below P2);have G4:=Hd (nY.out.trans (Za4 P2));have gZ:=Hd (iH.out.below P2);have iK:=Hd (iI.out.trans (Za4 P2));clear P2 HQ iF nY iH iI G5;cases hq:q.is E 3 [125]with
   |false=>
    obtain⟨m,rfl⟩:∃m,n=m+1:=⟨n - 1,by have:=Hb.out;omega⟩;have Ff:=Et.out;rw[Ao.out,if_pos ⟨nZ.out,hq⟩]at Ff;have J0:=Hd Ff;have Q7:=Hd (Zaaz b E L L y q w7 dH.out (by omega) oC.out (sF.out.kp Cr.out G4.out) I7.out);have Kw:=Hd (fun(g:(tItem E y q).2.e=0)=>Zadt nZ.out g);have Uz:=Hd (LcFew.tItem (E:=E) (r:=q) I7.out);have Dy:=Hd (LcSz.tItem (E:=E) iG.out dH.out.ok);unfold Zd5 at Q7;clear Ff Et;generalize tItem E y q=yq at *;obtain⟨y',q'⟩:=yq;simp only at Q7 J0 Kw Uz Dy
    go_wp2_with fail
    refine Q7.out.mono ?_;rintro _ w8 ⟨rfl,R2,Mp,O5⟩;have U0:Hid (Zj6 b w8<Zj6 b wr):=by
     unfold Hid;rw[iJ.out]
     by_cases h:q'.e=0
     ·rw[Zmj Mp h];have:=Kw.out h;omega
     ·rw[Zw9 Mp h];omega
    have O6:=Hd R2;have Il:=Hd Mp;have Cw:=Hd (G4.out.trans O5);clear R2 Mp O5
    go_wp2_with fail
    go_roundw
    case rel=>exact⟨m,y',q',J0.out,(fun h=>by have:=Kw.out h;have:=Hb.out;omega),O6.out,Il.out,Cw.out,Dy.out,Uz.out.1,Uz.out.2⟩
    case measure=>exact U0.out
   |true=>
    have P3:Hid (T=(y,q)):=by
     have Ff:=Et.out;unfold Hid;rw[←Ff];cases n with
     |zero=>exact Yq.out y q
     |succ m=>rw[Ao.out,hq,if_neg (by simp)]
    go_upto_region 8 with(fail)
    rename_i K8 Eg;have Cw:=Hd Eg;clear Eg;have Ny:=Hd (Zcs b E [125] q w7 dH.out);unfold RdP at Ny
    go_wp2_with fail
    refine Ny.out.mono ?_;rintro _ w9 ⟨rfl,Jn,Ee⟩
    go_wp2_with fail
    refine Cw.out _ _ ?_;exact Bb.out (q.mark E [125]) y _ _ _ _ _ _ _ _ _ _ _ _ _ _ _ _ _ _ _ _ _ _ _ _ _ _ _ _ _ Jn (oC.out.rd dH.out Ee) (gZ.out.kp Ee (Za1 J6)) (iK.out.trans Ee) iG.out nX.out (by rw[P3.out]) (by rw[P3.out])
  ·have hz:(q.e==0)=false:=by simpa using he
   have P3:Hid (T=(y,q)):=by
    have Ff:=Et.out;unfold Hid;rw[←Ff];cases n with
    |zero=>exact Yq.out y q
    |succ m=>rw[Ao.out,if_neg (fun h=>he h.1)]
   clear he Ej Gx
   go_upto_region 8 with(fail)
   rename_i K8 Eg;have Cw:=Hd Eg;clear Eg;have Ny:=Hd (Zcs b E [125] q wr HQ.out);unfold RdP at Ny
   go_wp2_with fail
   refine Ny.out.mono ?_;rintro _ w9 ⟨rfl,Jn,Ee⟩
   go_wp2_with fail
   refine Cw.out _ _ ?_;exact Bb.out (q.mark E [125]) y _ _ _ _ _ _ _ _ _ _ _ _ _ _ _ _ _ _ _ _ _ _ _ _ _ _ _ _ _ Jn (iF.out.rd HQ.out Ee) (iH.out.kp Ee (Za1 J6)) (iI.out.trans Ee) iG.out nX.out (by rw[P3.out]) (by rw[P3.out])
theorem Zv2 (b:Nat)(E:Int)(r:RS)(w:World)(h:Rd w b E r)(hM:MaxLen w):Calls prog 58 #[.pointer (some ⟨b,0,none⟩)] w (Zng b E w (tLocale E r)):=by
 have Dx:=Hd (fun q W (g:Rd W b E q)=>Zdr b E q W g);have G5:=Hd (fun q W (g:Rd W b E q)=>Zhh b E 1 [112,97,114,101,110,116] q W g);have HV:Hid (tLocale E r=(let hd:=r.head E;let q:=hd.2.mark E [123];let t:=tItems E (q.l.length+1) (lc0 hd.1.1 hd.1.2) q;(t.1,t.2.mark E [125]))):=rfl;have HH:Hid (r.head E=if(r.word E).2.is E 1 [112,97,114,101,110,116]then((bs (r.word E).1,bs (((r.word E).2.word E).2.word E).1),(((r.word E).2.word E).2.word E).2)else((bs (r.word E).1,.empty),(r.word E).2)):=rfl;have Ba:(bs (r.word E).1).size≤200000:=by rw[Za5];exact(h.ok.take (E:=E) (k:=1)).1
 have A7:(bs (((r.word E).2.word E).2.word E).1).size≤200000:=by rw[Za5];exact((h.ok.take (E:=E) (k:=1)).2.take (E:=E) (k:=1)).2.take.1
 have Ii:=h.lt;have hg:1<w.heap.size:=by
  obtain⟨m,hm⟩:=hM;exact World.block_lt_of_cell? w _ hm
 obtain⟨n0,E6⟩:∃n,w.heap.size=n:=⟨_,rfl⟩;have HM:Hid (∀W,Kp (Zaf b) w W→MaxAt n0 W):=fun W k=>⟨hM.rd h k,E6▸hg⟩;have HR:=Hd h;unfold RdP at Dx;clear h hM hg;generalize r.head E=hd at *;have Dq:=Hd (Dx.out r);generalize r.word E=r1 at *;obtain⟨k,q1⟩:=r1;simp only at Dq HH Ba A7;have Hr:=Hd (Dx.out q1);have Yr:=Hd (G5.out q1);generalize q1.is E 1 [112,97,114,101,110,116]=isq at *;generalize q1.word E=r2 at *;obtain⟨k2,q2⟩:=r2;simp only at Hr HH A7;have Hs:=Hd (Dx.out q2);generalize q2.word E=r3 at *;obtain⟨k3,q3⟩:=r3;simp only at Hs HH A7;generalize bs k=K at *;generalize bs k3=K3 at *;have Jy:=Hd Ba;have Oy:=Hd A7;clear Dx G5 Ba A7;have Bb:=Hd (fun(tag par:ByteArray) (q0:RS) L W u1 u4 u5 u6 u7 u8 u9 u10 u11 u12 u13 u14 u15 u16 u17 u18 u19 u20 u21 u22 u23 u24 u25 u26 u27 u28 u29 u30 (hL:n0<L) g gx gN gk gM g1 g2 (gV:tLocale E r=(let t:=tItems E (q0.l.length+1) (lc0 tag par) q0;(t.1,t.2.mark E [125])))=>(show(Zada 5).wp prog (bodyPost prog Tryz.f58 (Zng b E w (tLocale E r))) ⟨#[.pointer (some ⟨b,0,none⟩),u1,.pointer (some ⟨n0,0,none⟩),.pointer (some ⟨L,0,none⟩),u4,u5,u6,u7,u8,u9,u10,u11,u12,u13,u14,u15,u16,u17,u18,u19,u20,u21,u22,u23,u24,u25,u26,u27,u28,u29,u30],[]⟩ W by rw[gV];exact Zakx b E q0 tag par w W n0 L u1 u4 u5 u6 u7 u8 u9 u10 u11 u12 u13 u14 u15 u16 u17 u18 u19 u20 u21 u22 u23 u24 u25 u26 u27 u28 u29 u30 E6 (by omega) hL g gx gN gk gM g1 g2));generalize tLocale E r=res at *;have Br:=Hd (HR.out.below (Bel.alloc (Bel.refl w) (.cells #[.string ⟨#[]⟩,.string ⟨#[]⟩,.string ⟨#[]⟩,.slice none 0 0,.slice none 0 0,.string ⟨#[]⟩,.string ⟨#[]⟩,.string ⟨#[]⟩,.string ⟨#[]⟩,.int .i64 0,.int .i64 0,.slice none 0 0,.slice none 0 0,.slice none 0 0,.slice none 0 0,.slice none 0 0] 46)));have Bp:=Hd ((Kp.refl (Zaf b) w).alloc (.cells #[.string ⟨#[]⟩,.string ⟨#[]⟩,.string ⟨#[]⟩,.slice none 0 0,.slice none 0 0,.string ⟨#[]⟩,.string ⟨#[]⟩,.string ⟨#[]⟩,.string ⟨#[]⟩,.int .i64 0,.int .i64 0,.slice none 0 0,.slice none 0 0,.slice none 0 0,.slice none 0 0,.slice none 0 0] 46));have E7:=Hd (Cel.new w [.string ⟨#[]⟩,.string ⟨#[]⟩,.string ⟨#[]⟩,.slice none 0 0,.slice none 0 0,.string ⟨#[]⟩,.string ⟨#[]⟩,.string ⟨#[]⟩,.string ⟨#[]⟩,.int .i64 0,.int .i64 0,.slice none 0 0,.slice none 0 0,.slice none 0 0,.slice none 0 0,.slice none 0 0] 46);have Ho:(w.alloc (.cells #[.string ⟨#[]⟩,.string ⟨#[]⟩,.string ⟨#[]⟩,.slice none 0 0,.slice none 0 0,.string ⟨#[]⟩,.string ⟨#[]⟩,.string ⟨#[]⟩,.string ⟨#[]⟩,.int .i64 0,.int .i64 0,.slice none 0 0,.slice none 0 0,.slice none 0 0,.slice none 0 0,.slice none 0 0] 46)).heap.size=n0+1:=by rw[←E6];simp
 have C4:=Hd Ho;rw[E6]at E7 Ii;have F9:n0≠b:=by omega
 clear Ho HR
 go_enter func58,ntmps58
 go_wp2_with fail
 generalize w.alloc (.cells #[.string ⟨#[]⟩,.string ⟨#[]⟩,.string ⟨#[]⟩,.slice none 0 0,.slice none 0 0,.string ⟨#[]⟩,.string ⟨#[]⟩,.string ⟨#[]⟩,.string ⟨#[]⟩,.int .i64 0,.int .i64 0,.slice none 0 0,.slice none 0 0,.slice none 0 0,.slice none 0 0,.slice none 0 0] 46)=w0 at *;refine(Dq.out _ Br.out).mono ?_;rintro _ w1 ⟨rfl,Cp,Cd⟩;have As:=Hd (Cp.below (Bel.alloc (Bel.refl w1) (.cells #[.string K,.string ⟨#[]⟩,.string ⟨#[]⟩,.slice none 0 0,.slice none 0 0,.string ⟨#[]⟩,.string ⟨#[]⟩,.string ⟨#[]⟩,.string ⟨#[]⟩,.int .i64 0,.int .i64 0,.slice none 0 0,.slice none 0 0,.slice none 0 0,.slice none 0 0,.slice none 0 0] 46)));have Bf:=Hd ((Bp.out.trans Cd).alloc (.cells #[.string K,.string ⟨#[]⟩,.string ⟨#[]⟩,.slice none 0 0,.slice none 0 0,.string ⟨#[]⟩,.string ⟨#[]⟩,.string ⟨#[]⟩,.string ⟨#[]⟩,.int .i64 0,.int .i64 0,.slice none 0 0,.slice none 0 0,.slice none 0 0,.slice none 0 0,.slice none 0 0] 46));have Ec:=Hd ((E7.out.kp Cd (Za1 F9)).below (Bel.alloc (Bel.refl w1) (.cells #[.string K,.string ⟨#[]⟩,.string ⟨#[]⟩,.slice none 0 0,.slice none 0 0,.string ⟨#[]⟩,.string ⟨#[]⟩,.string ⟨#[]⟩,.string ⟨#[]⟩,.int .i64 0,.int .i64 0,.slice none 0 0,.slice none 0 0,.slice none 0 0,.slice none 0 0,.slice none 0 0] 46)));have Ih:=Hd (Cel.new w1 [.string K,.string ⟨#[]⟩,.string ⟨#[]⟩,.slice none 0 0,.slice none 0 0,.string ⟨#[]⟩,.string ⟨#[]⟩,.string ⟨#[]⟩,.string ⟨#[]⟩,.int .i64 0,.int .i64 0,.slice none 0 0,.slice none 0 0,.slice none 0 0,.slice none 0 0,.slice none 0 0] 46);have iL:n0<w1.heap.size:=by have:=Cd.size;have:=C4.out;omega
 obtain⟨L,hL⟩:∃L,w1.heap.size=L:=⟨_,rfl⟩;rw[hL]at Ih iL;have dI:L≠b:=by omega
 clear Cp Cd Br Bp E7 C4 Dq
 go_upto_region 2 with(fail)
 generalize w1.alloc (.cells #[.string K,.string ⟨#[]⟩,.string ⟨#[]⟩,.slice none 0 0,.slice none 0 0,.string ⟨#[]⟩,.string ⟨#[]⟩,.string ⟨#[]⟩,.string ⟨#[]⟩,.int .i64 0,.int .i64 0,.slice none 0 0,.slice none 0 0,.slice none 0 0,.slice none 0 0,.slice none 0 0] 46)=w2 at *;have Ys:=Hd (Yr.out _ As.out)
 go_wp2_with fail
 refine Ys.out.mono ?_;rintro _ w3 ⟨rfl,Ax⟩;have Aq:=Hd (As.out.below Ax);have An:=Hd (Bf.out.trans (Za4 Ax));have J7:=Hd (Ec.out.below Ax);have Bg:=Hd (Ih.out.below Ax);clear Ax As Bf Ec Ih Yr Ys;cases isq with
 |false=>
  rw[if_neg (by simp)]at HH;obtain rfl:=HH.out
  go_upto_region 5 with(fail)
  rename_i K8 Eg;have Cw:=Hd Eg;clear Eg;have Ny:=Hd (Zcs b E [123] q1 w3 Aq.out);unfold RdP at Ny
  go_wp2_with fail
  refine Ny.out.mono ?_;rintro _ w9 ⟨rfl,Jn,Ee⟩
  go_wp2_with fail
  refine Cw.out _ _ ?_;have Ev:=Hd (An.out.trans Ee);exact Bb.out K .empty (q1.mark E [123]) L _ _ _ _ _ _ _ _ _ _ _ _ _ _ _ _ _ _ _ _ _ _ _ _ _ _ _ _ _ iL Jn (Bg.out.kp Ee (Za1 dI)) (J7.out.kp Ee (Za1 F9)) Ev.out (HM.out _ Ev.out) Jy.out (zero_le _) HV.out
 |true=>
  rw[if_pos rfl]at HH;obtain rfl:=HH.out;have L4:=Hd (Hr.out _ Aq.out)
  go_wp2_with fail
  refine L4.out.mono ?_;rintro _ w4 ⟨rfl,B4,A8⟩;have Bk:=Hd B4;have Bh:=Hd (An.out.trans A8);have O3:=Hd (J7.out.kp A8 (Za1 F9));have Cl:=Hd (Bg.out.kp A8 (Za1 dI));clear B4 A8 Aq An J7 Bg Hr L4;have L5:=Hd (Hs.out _ Bk.out)
  go_wp2_with fail
  refine L5.out.mono ?_;rintro _ w5 ⟨rfl,Bw,A9⟩;have Cg:=Hd Bw;have Bv:=Hd (Bh.out.trans A9);have Yi:=Hd (O3.out.kp A9 (Za1 F9));have Dh:=Hd (Cl.out.kp A9 (Za1 dI));clear Bw A9 Bk Bh O3 Cl Hs L5;have x1:=Dh.out.cell 1;simp only[Le0,Le1]at x1;have xf1:=Dh.out.frz 1;have Bx:=Dh.out.lt;have Do:=Hd (Dh.out.set 1 (.string K3));have Cr:=Hd (Cg.out.other (a:=⟨L,1,none⟩) (by show b<L;omega) (.string K3));have Nq:=Hd (Yi.out.other (a:=⟨L,1,none⟩) (by show L≠n0;omega) (.string K3));have By:=Hd (Bv.out.setN (p:=⟨L,1,none⟩) (by show w.heap.size≤L;omega) (.string K3));simp only[List.set_cons_zero,List.set_cons_succ]at Do;clear Cg Bv Yi Dh
  go_upto_region 5 with(fail)
  rename_i K8 Eg;have Cw:=Hd Eg;clear Eg x1 xf1 Bx;generalize w5.setCell ⟨L,1,none⟩ (.string K3)=w6 at *;have Ny:=Hd (Zcs b E [123] q3 w6 Cr.out);unfold RdP at Ny
  go_wp2_with fail
  refine Ny.out.mono ?_;rintro _ w9 ⟨rfl,Jn,Ee⟩
  go_wp2_with fail
  refine Cw.out _ _ ?_;have Ev:=Hd (By.out.trans Ee);exact Bb.out K K3 (q3.mark E [123]) L _ _ _ _ _ _ _ _ _ _ _ _ _ _ _ _ _ _ _ _ _ _ _ _ _ _ _ _ _ iL Jn (Do.out.kp Ee (Za1 dI)) (Nq.out.kp Ee (Za1 F9)) Ev.out (HM.out _ Ev.out) Jy.out Oy.out HV.out
theorem Zie:∀(a b:World) x y,Sub a b→LcC a x y→LcC b x y:=fun _ _ _ _ h g=>g.sub h
theorem Zkn:∀(a b:World) x y,Sub a b→AlC a x y→AlC b x y:=fun _ _ _ _ _ g=>g.at
theorem Zl1:∀(a b:World) x y,Sub a b→NeC a x y→NeC b x y:=fun _ _ _ _ _ g=>g.at
structure TabV (base:Nat) (w:World) (T:Nat) (t:Tb) (v0 v1 v2:Value):Prop where
 cel:Cel w T 27 [v0,v1,v2]
 low:base≤T
 g0:Grow 46 16 LcC base Zfv w v0 t.locs
 g1:Grow 61 2 AlC base ([]:List TypeId) w v1 t.als
 g2:Grow 58 3 NeC base ([]:List TypeId) w v2 t.near
def Zwh:List TypeId:=[27,46,61,58]++Zfv
section
variable {base : Nat} {w w' : World} {T : Nat} {t : Tb} {v0 v1 v2 : Value} {b : Nat} {E : Int} {r : RS}
theorem TabV.ty (h:TabV base w T t v0 v1 v2):Zcg w T=some 27:=Zk5 h.cel
theorem TabV.kp (h:TabV base w T t v0 v1 v2) {P:Nat→Bool} (k:Kp P w w')(hP:∀i U,P i=true→Zcg w i=some U→U∉Zwh):TabV base w' T t v0 v1 v2:=by
 have hL:P T=false:=by
  cases hp:P T with
  |false=>rfl
  |true=>exact absurd (show 27∈Zwh by decide) (hP T _ hp h.ty)
 have kk:∀ts,(∀U,U∈ts→U∈Zwh)→KpT base ts w w':=fun ts hs=>k.kpt fun i U _ hp ht hm=>hP i U hp ht (hs U hm);exact⟨h.cel.kp k hL,h.low,h.g0.keep Zie (kk _ (by decide)),h.g1.keep Zkn (kk _ (by decide)),h.g2.keep Zl1 (kk _ (by decide))⟩
theorem TabV.below (h:TabV base w T t v0 v1 v2)(k:Below w.heap.size w w'):TabV base w' T t v0 v1 v2:=h.kp (P:=fun _=>false) (Za4 k) (fun _ _ h=>by cases h)
theorem TabV.rd (h:TabV base w T t v0 v1 v2)(hr:Rd w b E r)(k:Kp (Zaf b) w w'):TabV base w' T t v0 v1 v2:=h.kp k fun i U hp ht=>by
 obtain rfl:i=b:=of_decide_eq_true hp;rw[hr.ty]at ht;injection ht with ht;subst ht;decide
theorem TabV.celG (h:TabV base w T t v0 v1 v2)(hr:Rd w b E r) {α:Type} {U:TypeId} {k0:Nat} {C:World→(Nat→Value)→α→Prop} {ts:List TypeId} {v:Value} {l:List α} (g:Grow U k0 C base ts w v l)(k:Kp (Za7 b v) w w')(hT:27≠U):Cel w' T 27 [v0,v1,v2]:=h.cel.kp k (by
 cases hq:Za7 b v T with
 |false=>rfl
 |true=>
  unfold Za7 at hq;rw[Bool.or_eq_true,decide_eq_true_eq,decide_eq_true_eq]at hq;rcases hq with e|e
  ·have h1:=h.ty;rw[e,hr.ty]at h1;exact absurd h1 (by decide)
  ·have h1:=h.ty;rw[g.ty e]at h1;injection h1 with h1;exact absurd h1.symm hT)
theorem TabV.locs (h:TabV base w T t v0 v1 v2)(hr:Rd w b E r)(k:Kp (Za7 b v0) w w') {v':Value} {l':List Lc} (g:Grow 46 16 LcC base Zfv w' v' l'):TabV base (w'.setCell ⟨T,0,none⟩ v') T { t with locs:=l' } v' v1 v2:=by
 have hc:=h.celG hr h.g0 k (by decide);have kk:∀ts,67∉ts→46∉ts→KpT base ts w w':=fun ts h1 h2=>k.kpt fun i U _ hq ht=>by
  unfold Za7 at hq;rw[Bool.or_eq_true,decide_eq_true_eq,decide_eq_true_eq]at hq;rcases hq with e|e
  ·rw[e,hr.ty]at ht;injection ht with ht;rw[←ht];exact h1
  ·rw[h.g0.ty e]at ht;injection ht with ht;rw[←ht];exact h2
 have ks:∀ts,27∉ts→KpT base ts w' (w'.setCell ⟨T,0,none⟩ v'):=fun ts ht=>Zcd (a:=⟨T,0,none⟩) hc base ht _;exact⟨hc.set 0 _,h.low,g.keep Zie (ks _ (by decide)),(h.g1.keep Zkn (kk _ (by decide) (by decide))).keep Zkn (ks _ (by decide)),(h.g2.keep Zl1 (kk _ (by decide) (by decide))).keep Zl1 (ks _ (by decide))⟩
theorem TabV.als (h:TabV base w T t v0 v1 v2)(hr:Rd w b E r)(k:Kp (Za7 b v1) w w') {v':Value} {l':List Al} (g:Grow 61 2 AlC base ([]:List TypeId) w' v' l'):TabV base (w'.setCell ⟨T,1,none⟩ v') T { t with als:=l' } v0 v' v2:=by
 have hc:=h.celG hr h.g1 k (by decide);have kk:∀ts,67∉ts→61∉ts→KpT base ts w w':=fun ts h1 h2=>k.kpt fun i U _ hq ht=>by
  unfold Za7 at hq;rw[Bool.or_eq_true,decide_eq_true_eq,decide_eq_true_eq]at hq;rcases hq with e|e
  ·rw[e,hr.ty]at ht;injection ht with ht;rw[←ht];exact h1
  ·rw[h.g1.ty e]at ht;injection ht with ht;rw[←ht];exact h2
 have ks:∀ts,27∉ts→KpT base ts w' (w'.setCell ⟨T,1,none⟩ v'):=fun ts ht=>Zcd (a:=⟨T,1,none⟩) hc base ht _;exact⟨hc.set 1 _,h.low,(h.g0.keep Zie (kk _ (by decide) (by decide))).keep Zie (ks _ (by decide)),g.keep Zkn (ks _ (by decide)),(h.g2.keep Zl1 (kk _ (by decide) (by decide))).keep Zl1 (ks _ (by decide))⟩
theorem TabV.near (h:TabV base w T t v0 v1 v2)(hr:Rd w b E r)(k:Kp (Za7 b v2) w w') {v':Value} {l':List Ne} (g:Grow 58 3 NeC base ([]:List TypeId) w' v' l'):TabV base (w'.setCell ⟨T,2,none⟩ v') T { t with near:=l' } v0 v1 v':=by
 have hc:=h.celG hr h.g2 k (by decide);have kk:∀ts,67∉ts→58∉ts→KpT base ts w w':=fun ts h1 h2=>k.kpt fun i U _ hq ht=>by
  unfold Za7 at hq;rw[Bool.or_eq_true,decide_eq_true_eq,decide_eq_true_eq]at hq;rcases hq with e|e
  ·rw[e,hr.ty]at ht;injection ht with ht;rw[←ht];exact h1
  ·rw[h.g2.ty e]at ht;injection ht with ht;rw[←ht];exact h2
 have ks:∀ts,27∉ts→KpT base ts w' (w'.setCell ⟨T,2,none⟩ v'):=fun ts ht=>Zcd (a:=⟨T,2,none⟩) hc base ht _;exact⟨hc.set 2 _,h.low,(h.g0.keep Zie (kk _ (by decide) (by decide))).keep Zie (ks _ (by decide)),(h.g1.keep Zkn (kk _ (by decide) (by decide))).keep Zkn (ks _ (by decide)),g.keep Zl1 (ks _ (by decide))⟩
end
def Zj2 (base:Nat)(w:World)(T:Nat)(t:Tb):Prop:=∃v0 v1 v2,TabV base w T t v0 v1 v2
def Zim (b:Nat)(E:Int)(base T:Nat)(w:World)(q:Tb×RS)(e:Ending)(w':World):Prop:=e= .returned (.tuple #[])∧Zj2 base w' T q.1∧Rd w' b E q.2∧Kp (Zcj b base) w w'
theorem LcC.one {w:World} {f:Nat→Value} {y:Lc} (h:LcC w f y):∀j,j<16→(f j).oneCell'=true:=by
 have hs:∀ {k:Nat} {α:Type} {C:World→(Nat→Value)→α→Prop} {v:Value} {l:List α},RowsOf k C w v l→v.oneCell'=true:=by
  rintro k α C v l ⟨ad,c,f,b,off,rfl,_⟩;rfl
 intro j hj
 match j,hj with
 |0,_=>rw[h.c0.1];rfl
 |1,_=>rw[h.c1.1];rfl
 |2,_=>rw[h.c2.1];rfl
 |3,_=>exact hs h.c3
 |4,_=>exact hs h.c4
 |5,_=>rw[h.c5.1];rfl
 |6,_=>rw[h.c6.1];rfl
 |7,_=>rw[h.c7.1];rfl
 |8,_=>rw[h.c8.1];rfl
 |9,_=>rw[h.c9.1];rfl
 |10,_=>rw[h.c10.1];rfl
 |11,_=>exact hs h.c11
 |12,_=>exact hs h.c12
 |13,_=>exact hs h.c13
 |14,_=>exact hs h.c14
 |15,_=>exact hs h.c15
 |n+16,hj=>omega
end Go.Proofs.YtmleeodfmmpdgaaGreatDoor
