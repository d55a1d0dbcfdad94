/- Walks: the size of a table, by the reference, whole. -/
import Derived.Test.YtmleeodfmmpdgaaGreatDoorQ30
set_option maxRecDepth 100000
set_option maxHeartbeats 16000000
namespace Go.Proofs.YtmleeodfmmpdgaaGreatDoor
open Go.RowKit
attribute [local go_sem] Ext.cell Ext.frozen
attribute [local go_sem ↓] Go.wp_at_zero Go.wp_at_succ
open _root_.List (getElem_mem getElem_of_mem)
open _root_.Nat (le_refl le_trans mul_le_mul_right zero_le)
open _root_.Go.Proofs.Tryz
structure CntL (y:Lc):Prop where
 card:y.card.length≤12
 ord:y.ord.length≤12
 lists:y.lists.length≤12
 units:y.units.length≤110
 dates:y.dates.length≤40
 months:y.months.length≤20
 days:y.days.length≤20
theorem Zvv {w:World} {x:Nat→Value} {y:Lc} (h:LcC w x y)(hc:CntL y):Zg6 y≤520 *140737488351262:=by
 have h7:Zbc [y.tag,y.par,y.dir,y.dec,y.grp,y.mi,y.pct]≤7 *140737488351262:=Ze2 (by
  intro s hs;simp only[List.mem_cons,List.not_mem_nil,or_false]at hs;rcases hs with rfl|rfl|rfl|rfl|rfl|rfl|rfl
  ·exact h.c0.2
  ·exact h.c1.2
  ·exact h.c2.2
  ·exact h.c5.2
  ·exact h.c6.2
  ·exact h.c7.2
  ·exact h.c8.2)
 have hm:=Ze2 (OneS.szs h.c14);have hd:=Ze2 (OneS.szs h.c15);have hL:∀ {α:Type} {k m:Nat} {C:World→(Nat→Value)→α→Prop} {v:Value} {l:List α} {g:α→Nat},RowsOf k C w v l→(∀x a,C w x a→g a≤m)→Zao g l≤l.length *m:=fun hr hg=>by
  obtain⟨_,_,f,_,_,_,_,_,_,_,h6⟩:=hr.opn;exact Zmc _ _ _ (fun x hx=>by obtain⟨i,hi,rfl⟩:=getElem_of_mem hx;exact hg _ _ (h6 i hi))
 have h1:Zao Zgp y.lists≤y.lists.length *(5 *140737488351262):=hL h.c11 (fun x a hx=>LpC.sz hx);have h2:Zao Zgv y.units≤y.units.length *(3 *140737488351262):=hL h.c12 (fun x a hx=>UpC.sz hx);have h3:Zao Zhm y.dates≤y.dates.length *(2 *140737488351262):=hL h.c13 (fun x a hx=>DpC.sz hx);obtain⟨k1,k2,k3,k4,k5,k6,k7⟩:=hc;unfold Zg6;have:=mul_le_mul_right 140737488351262 k6;have:=mul_le_mul_right 140737488351262 k7;have:=mul_le_mul_right (5 *140737488351262) k3;have:=mul_le_mul_right (3 *140737488351262) k4;have:=mul_le_mul_right (2 *140737488351262) k5;omega
def Zse:Code→Nat
 | .region k _ _=>k
 | .seq a _=>Zse a
 |_=>0
def Zhg (n:Nat):Code→Option Code
 | .loop b=>if Zse b=n then some (.loop b)else Zhg n b
 | .seq a b=>match Zhg n a with
  |some c=>some c
  |none=>Zhg n b
 | .cond _ a b=>match Zhg n a with
  |some c=>some c
  |none=>Zhg n b
 | .block _ b=>Zhg n b
 | .scope b=>Zhg n b
 |_=>none
def Zp1 (Q:Exit→Act→World→Prop):Exit→Act→World→Prop
 | .normal,a,w=>Q .normal a w
 |_,_,_=>False
theorem Zn5 {P:Program} {c:Code} {Q:Exit→Act→World→Prop} {k:Nat} {a:Act} {w:World} (h:c.wp P (Exit.inBlock k (Zp1 Q)) a w):c.wp P (Exit.inBlock k Q) a w:=
 Code.wp_mono (fun e a w h=>by
  cases e with
  |normal=>exact h
  |exit j=>
   replace h:if j=k then Zp1 Q .normal a w else Zp1 Q (.exit j) a w:=h;show if j=k then Q .normal a w else Q (.exit j) a w
   by_cases hj:j=k
   ·rw[if_pos hj]at h⊢;exact h
   ·rw[if_neg hj]at h;exact(h:False).elim
  |_=>exact(h:False).elim) h
noncomputable def Zpe (n:Nat):Code:=(Zhg n ((Tryz.f31.body).getD .skip)).getD .skip
theorem Zaep (z0 B:Nat)(llists:List Lp)(x:Value)(w:World)(Q:Exit→Act→World→Prop) {v0 v1 v4 u2 u7 u8 u9 u10 u11 u12 u13 u14 u15 u16 u17 u18 u19 u20 u21 u22 u23 u24 u25 u26 u27 u28 u29 u30 u31 u32 u33 u34 u35 u36 u37 u38 u39 u40 u41 u42 u43 u44 u45 u46 u47 u48 u49 u50 u51 u52 u53 u54 u55 u56 u57 u58 u59 u60 u61 u62 u63 u64 u65 u66 u67 u68 u69 u70 u71 u72 u73 u74 u75 u76 u77 u78 u79 u80 u81 u82 u83 u84 u85 u86 u87 u88 u89 u90 u91 u92 u93 u94 u95 u96 u97 u98 u99 u100 u101 u102 u103 u104 u105 u106 u107 u108 u109 u110 u111 u112 u113 u114 u115 u116 u117 u118 u119 u120 u121 u122 u123 u124 u125 u126 u127 u128 u129 u130 u131 u132 u133 u134 u135 u136 u137 u138 u139 u140 u141 u142 u143 u144 u145 u146 u147 u148 u149 u150 u151 u152 u153 u154 u155 u156 u157 u158 u159 u160 u161 u162 u163 u164 u165 u166 u167 u168 u169 u170 u171 u172 u173 u174 u175 u176 u177 u178 u179 u180 u181 u182 u183 u184 u185 u186 u187 u188 u189 u190 u191 u192 u193 u194 u195 u196 u197 u198 u199 u200 u201:Value} (Cc:z0≤64 *(520 *140737488351262))(h1:RowsOf 5 LpC w x llists)(Qq:llists.length≤12)
  (Hc:w.cell? ⟨B,11,none⟩=some x) (Dr:∀(u6 u62 u63 u64 u65 u66 u67 u68 u69 u70 u71 u72 u73 u74 u75 u76 u77 u78 u79 u80 u81 u82 u83 u84 u85 u86 u87 u88 u89 u90 u91 u92 u93 u94 u95 u96 u97 u98 u99 u100 u101 u102:Value) w',Below w.heap.size w w'→Q .normal ⟨#[v0,v1,u2,.int .i64 ((z0+Zao Zgp llists:Nat):Int),v4,.pointer (some ⟨B,0,none⟩),u6,u7,u8,u9,u10,u11,u12,u13,u14,u15,u16,u17,u18,u19,u20,u21,u22,u23,u24,u25,u26,u27,u28,u29,u30,u31,u32,u33,u34,u35,u36,u37,u38,u39,u40,u41,u42,u43,u44,u45,u46,u47,u48,u49,u50,u51,u52,u53,u54,u55,u56,u57,u58,u59,u60,u61,u62,u63,u64,u65,u66,u67,u68,u69,u70,u71,u72,u73,u74,u75,u76,u77,u78,u79,u80,u81,u82,u83,u84,u85,u86,u87,u88,u89,u90,u91,u92,u93,u94,u95,u96,u97,u98,u99,u100,u101,u102,u103,u104,u105,u106,u107,u108,u109,u110,u111,u112,u113,u114,u115,u116,u117,u118,u119,u120,u121,u122,u123,u124,u125,u126,u127,u128,u129,u130,u131,u132,u133,u134,u135,u136,u137,u138,u139,u140,u141,u142,u143,u144,u145,u146,u147,u148,u149,u150,u151,u152,u153,u154,u155,u156,u157,u158,u159,u160,u161,u162,u163,u164,u165,u166,u167,u168,u169,u170,u171,u172,u173,u174,u175,u176,u177,u178,u179,u180,u181,u182,u183,u184,u185,u186,u187,u188,u189,u190,u191,u192,u193,u194,u195,u196,u197,u198,u199,u200,u201],[]⟩ w'):
  (Zpe 8).wp prog (Exit.inBlock 2 Q) ⟨#[v0,v1,u2,.int .i64 (z0:Int),v4,.pointer (some ⟨B,0,none⟩),.int .i64 0,u7,u8,u9,u10,u11,u12,u13,u14,u15,u16,u17,u18,u19,u20,u21,u22,u23,u24,u25,u26,u27,u28,u29,u30,u31,u32,u33,u34,u35,u36,u37,u38,u39,u40,u41,u42,u43,u44,u45,u46,u47,u48,u49,u50,u51,u52,u53,u54,u55,u56,u57,u58,u59,u60,u61,u62,u63,u64,u65,u66,u67,u68,u69,u70,u71,u72,u73,u74,u75,u76,u77,u78,u79,u80,u81,u82,u83,u84,u85,u86,u87,u88,u89,u90,u91,u92,u93,u94,u95,u96,u97,u98,u99,u100,u101,u102,u103,u104,u105,u106,u107,u108,u109,u110,u111,u112,u113,u114,u115,u116,u117,u118,u119,u120,u121,u122,u123,u124,u125,u126,u127,u128,u129,u130,u131,u132,u133,u134,u135,u136,u137,u138,u139,u140,u141,u142,u143,u144,u145,u146,u147,u148,u149,u150,u151,u152,u153,u154,u155,u156,u157,u158,u159,u160,u161,u162,u163,u164,u165,u166,u167,u168,u169,u170,u171,u172,u173,u174,u175,u176,u177,u178,u179,u180,u181,u182,u183,u184,u185,u186,u187,u188,u189,u190,u191,u192,u193,u194,u195,u196,u197,u198,u199,u200,u201],[]⟩ w:=by
 have Dy:=Hd Zjv;have Bb:=Hd Dr;have Aw:B<w.heap.size:=World.block_lt_of_cell? w _ Hc;obtain⟨alists,clists,flists,blists,olists,elists,rlists,_,_,_,Hv⟩:=h1.opn;have Hw:∀i,i≤llists.length→Zao Zgp (llists.take i)≤i *(5 *140737488351262):=fun i hi=>Ze8 _ _ _ i (fun x hx=>by obtain⟨j,hj,rfl⟩:=getElem_of_mem hx;exact(Hv j hj).sz) hi;obtain⟨nlists,Hx⟩:∃n,llists.length=n:=⟨_,rfl⟩;have Ll:=Hd Hx;rw[Hx]at elists rlists Hw Qq;have Qr:=Hd Hv;have Qs:=Hd Hw;have eF:=rlists.max;clear Hv Hw Hx;subst elists;have Hy:=Hd rlists;have ylists:=Hc;have B8:Hid (Below w.heap.size w w):=Below.refl _ _;clear rlists h1 Hc Dr;refine Zn5 ?_;unfold Zpe;dsimp only
 conv=>arg 2;whnf
 go_loopw [3,6] (fun u v wr=>∃(q:Nat),v= .int .i64 (q:Int)∧q≤nlists∧u= .int .i64 ((z0+Zao Zgp (llists.take q):Nat):Int)∧Below w.heap.size w wr) (fun _ v _=>nlists -(intOf v).toNat)
 case atStart=>exact⟨0,rfl,zero_le _,rfl,B8.out⟩
 case round=>
  obtain⟨q,rfl,Mq,rfl,Fe⟩:=hrel;have C8:=Hd Fe;have O8:=Fe.size;clear Fe;have yl:wr.cell? ⟨B,11,none⟩=some (.slice alists nlists clists):=(C8.out.cell (p:=⟨B,11,none⟩) Aw).trans ylists;have U5:B<wr.heap.size:=by omega
  have P5:=Qs.out q Mq
  by_cases Bi:q<nlists
  ·have HQ:=Hd (Hy.out.below C8.out);have P6:=fun W=>HQ.out.ix 41 130 underlying41 cLp (by omega) Bi clists W;have dK:blists<wr.heap.size:=HQ.out.block (by omega) (by omega);have K0:(q:Int)<(nlists:Int):=by omega
   have I3:q<llists.length:=by rw[Ll.out];exact Bi
   have Av:=Qr.out q I3;have P7:=Hd (Zfg Zgp llists q I3);have P8:=Hd Av.szs;have dM:=Av.sz;have x0:wr.cell? ⟨blists,olists+q *5,none⟩=some (flists q 0):=HQ.out.cell q 0 Bi (by omega);rw[Av.c0.1]at x0;have x1:wr.cell? ⟨blists,olists+q *5+1,none⟩=some (flists q 1):=HQ.out.cell q 1 Bi (by omega);rw[Av.c1.1]at x1;have x2:wr.cell? ⟨blists,olists+q *5+2,none⟩=some (flists q 2):=HQ.out.cell q 2 Bi (by omega);rw[Av.c2.1]at x2;have x3:wr.cell? ⟨blists,olists+q *5+3,none⟩=some (flists q 3):=HQ.out.cell q 3 Bi (by omega);rw[Av.c3.1]at x3;have x4:wr.cell? ⟨blists,olists+q *5+4,none⟩=some (flists q 4):=HQ.out.cell q 4 Bi (by omega);rw[Av.c4.1]at x4;have P9:Hid (Zgp llists[q]=Zbc [llists[q].style,llists[q].two,llists[q].start,llists[q].mid,llists[q].fin]):=rfl;clear Av;generalize Zao Zgp (llists.take q)=zp at *;generalize Zgp llists[q]=zq at *;generalize llists[q].style=y0 at *;generalize llists[q].two=y1 at *;generalize llists[q].start=y2 at *;generalize llists[q].mid=y3 at *;generalize llists[q].fin=y4 at *
   go_upto_region 10 with(fail)
   refine Zcw ?_;intro W2 Lg;rw[Lg];clear Lg;have Ky:Hid (∀W,Bel (wr.alloc (.cells #[.string y0,.string y1,.string y2,.string y3,.string y4] 9)) W→Calls prog 78 #[.slice (some ⟨wr.heap.size,0,none⟩) 5 5] W fun e w'=>e= .returned (.int .i64 (zq:Int))∧W=w'):=fun W hW=>by
    rw[P9.out];exact Dy.out _ [y0,y1,y2,y3,y4] W ((Ze3 wr [y0,y1,y2,y3,y4] _ 9 rfl (by simp) P8.out _ rfl).map hW (fun _ _ h=>h)) (by simp)
   go_region_held (fun w'=>w'.cell? ⟨B,11,none⟩=some (.slice alists nlists clists)∧w'.cell? ⟨blists,olists+q *5,none⟩=some (.string y0)∧w'.cell? ⟨blists,olists+q *5+1,none⟩=some (.string y1)∧w'.cell? ⟨blists,olists+q *5+2,none⟩=some (.string y2)∧w'.cell? ⟨blists,olists+q *5+3,none⟩=some (.string y3)∧w'.cell? ⟨blists,olists+q *5+4,none⟩=some (.string y4)) (go_keep)
    (first
     |(go_at_call 78;refine(Ky.out _ ?_).mono ?_;(show Bel (wr.alloc _) _;repeat (first|exact Bel.refl _|refine Bel.drew ?_));rintro e _ ⟨rfl,rfl⟩))
   all_goals
    go_wp2_with fail
    go_roundw
    case rel=>exact⟨q+1,by go_num,by omega,by rw[P7.out];refine congrArg _ ?_;rw[IntKind.wrap_i64];omega,by(show Bel w _;repeat (first|exact C8.out|refine Bel.alloc ?_ _|refine Bel.drew ?_))⟩
    case measure=>simp[intOf];omega
  ·obtain rfl:q=nlists:=by omega
   have B8:=Hd C8.out;clear C8;rw[List.take_of_length_le (by rw[Ll.out];exact le_refl _)]at P5⊢
   go_wp2_with fail
   exact Bb.out _ _ _ _ _ _ _ _ _ _ _ _ _ _ _ _ _ _ _ _ _ _ _ _ _ _ _ _ _ _ _ _ _ _ _ _ _ _ _ _ _ _ _ B8.out
theorem Zaeh (z0 B:Nat)(lunits:List Up)(x:Value)(w:World)(Q:Exit→Act→World→Prop) {v0 v1 v4 u2 u6 u8 u9 u10 u11 u12 u13 u14 u15 u16 u17 u18 u19 u20 u21 u22 u23 u24 u25 u26 u27 u28 u29 u30 u31 u32 u33 u34 u35 u36 u37 u38 u39 u40 u41 u42 u43 u44 u45 u46 u47 u48 u49 u50 u51 u52 u53 u54 u55 u56 u57 u58 u59 u60 u61 u62 u63 u64 u65 u66 u67 u68 u69 u70 u71 u72 u73 u74 u75 u76 u77 u78 u79 u80 u81 u82 u83 u84 u85 u86 u87 u88 u89 u90 u91 u92 u93 u94 u95 u96 u97 u98 u99 u100 u101 u102 u103 u104 u105 u106 u107 u108 u109 u110 u111 u112 u113 u114 u115 u116 u117 u118 u119 u120 u121 u122 u123 u124 u125 u126 u127 u128 u129 u130 u131 u132 u133 u134 u135 u136 u137 u138 u139 u140 u141 u142 u143 u144 u145 u146 u147 u148 u149 u150 u151 u152 u153 u154 u155 u156 u157 u158 u159 u160 u161 u162 u163 u164 u165 u166 u167 u168 u169 u170 u171 u172 u173 u174 u175 u176 u177 u178 u179 u180 u181 u182 u183 u184 u185 u186 u187 u188 u189 u190 u191 u192 u193 u194 u195 u196 u197 u198 u199 u200 u201:Value} (Cc:z0≤64 *(520 *140737488351262))(h1:RowsOf 3 UpC w x lunits)(Qt:lunits.length≤110)
  (Hc:w.cell? ⟨B,12,none⟩=some x) (Dr:∀(u7 u103 u104 u105 u106 u107 u108 u109 u110 u111 u112 u113 u114 u115 u116 u117 u118 u119 u120 u121 u122 u123 u124 u125 u126 u127 u128 u129 u130 u131:Value) w',Below w.heap.size w w'→Q .normal ⟨#[v0,v1,u2,.int .i64 ((z0+Zao Zgv lunits:Nat):Int),v4,.pointer (some ⟨B,0,none⟩),u6,u7,u8,u9,u10,u11,u12,u13,u14,u15,u16,u17,u18,u19,u20,u21,u22,u23,u24,u25,u26,u27,u28,u29,u30,u31,u32,u33,u34,u35,u36,u37,u38,u39,u40,u41,u42,u43,u44,u45,u46,u47,u48,u49,u50,u51,u52,u53,u54,u55,u56,u57,u58,u59,u60,u61,u62,u63,u64,u65,u66,u67,u68,u69,u70,u71,u72,u73,u74,u75,u76,u77,u78,u79,u80,u81,u82,u83,u84,u85,u86,u87,u88,u89,u90,u91,u92,u93,u94,u95,u96,u97,u98,u99,u100,u101,u102,u103,u104,u105,u106,u107,u108,u109,u110,u111,u112,u113,u114,u115,u116,u117,u118,u119,u120,u121,u122,u123,u124,u125,u126,u127,u128,u129,u130,u131,u132,u133,u134,u135,u136,u137,u138,u139,u140,u141,u142,u143,u144,u145,u146,u147,u148,u149,u150,u151,u152,u153,u154,u155,u156,u157,u158,u159,u160,u161,u162,u163,u164,u165,u166,u167,u168,u169,u170,u171,u172,u173,u174,u175,u176,u177,u178,u179,u180,u181,u182,u183,u184,u185,u186,u187,u188,u189,u190,u191,u192,u193,u194,u195,u196,u197,u198,u199,u200,u201],[]⟩ w'):
  (Zpe 12).wp prog (Exit.inBlock 4 Q) ⟨#[v0,v1,u2,.int .i64 (z0:Int),v4,.pointer (some ⟨B,0,none⟩),u6,.int .i64 0,u8,u9,u10,u11,u12,u13,u14,u15,u16,u17,u18,u19,u20,u21,u22,u23,u24,u25,u26,u27,u28,u29,u30,u31,u32,u33,u34,u35,u36,u37,u38,u39,u40,u41,u42,u43,u44,u45,u46,u47,u48,u49,u50,u51,u52,u53,u54,u55,u56,u57,u58,u59,u60,u61,u62,u63,u64,u65,u66,u67,u68,u69,u70,u71,u72,u73,u74,u75,u76,u77,u78,u79,u80,u81,u82,u83,u84,u85,u86,u87,u88,u89,u90,u91,u92,u93,u94,u95,u96,u97,u98,u99,u100,u101,u102,u103,u104,u105,u106,u107,u108,u109,u110,u111,u112,u113,u114,u115,u116,u117,u118,u119,u120,u121,u122,u123,u124,u125,u126,u127,u128,u129,u130,u131,u132,u133,u134,u135,u136,u137,u138,u139,u140,u141,u142,u143,u144,u145,u146,u147,u148,u149,u150,u151,u152,u153,u154,u155,u156,u157,u158,u159,u160,u161,u162,u163,u164,u165,u166,u167,u168,u169,u170,u171,u172,u173,u174,u175,u176,u177,u178,u179,u180,u181,u182,u183,u184,u185,u186,u187,u188,u189,u190,u191,u192,u193,u194,u195,u196,u197,u198,u199,u200,u201],[]⟩ w:=by
 have Dy:=Hd Zjv;have Bb:=Hd Dr;have Aw:B<w.heap.size:=World.block_lt_of_cell? w _ Hc;obtain⟨aunits,cunits,funits,bunits,ounits,eunits,runits,_,_,_,Hz⟩:=h1.opn;have H5:∀i,i≤lunits.length→Zao Zgv (lunits.take i)≤i *(3 *140737488351262):=fun i hi=>Ze8 _ _ _ i (fun x hx=>by obtain⟨j,hj,rfl⟩:=getElem_of_mem hx;exact(Hz j hj).sz) hi;obtain⟨nunits,H6⟩:∃n,lunits.length=n:=⟨_,rfl⟩;have Lm:=Hd H6;rw[H6]at eunits runits H5 Qt;have Qu:=Hd Hz;have Qv:=Hd H5;have eG:=runits.max;clear Hz H5 H6;subst eunits;have H7:=Hd runits;have yunits:=Hc;have B8:Hid (Below w.heap.size w w):=Below.refl _ _;clear runits h1 Hc Dr;refine Zn5 ?_;unfold Zpe;dsimp only
 conv=>arg 2;whnf
 go_loopw [3,7] (fun u v wr=>∃(q:Nat),v= .int .i64 (q:Int)∧q≤nunits∧u= .int .i64 ((z0+Zao Zgv (lunits.take q):Nat):Int)∧Below w.heap.size w wr) (fun _ v _=>nunits -(intOf v).toNat)
 case atStart=>exact⟨0,rfl,zero_le _,rfl,B8.out⟩
 case round=>
  obtain⟨q,rfl,Mq,rfl,Fe⟩:=hrel;have C8:=Hd Fe;have O8:=Fe.size;clear Fe;have yl:wr.cell? ⟨B,12,none⟩=some (.slice aunits nunits cunits):=(C8.out.cell (p:=⟨B,12,none⟩) Aw).trans yunits;have U5:B<wr.heap.size:=by omega
  have P5:=Qv.out q Mq
  by_cases Bi:q<nunits
  ·have HQ:=Hd (H7.out.below C8.out);have P6:=fun W=>HQ.out.ix 42 132 underlying42 cUp (by omega) Bi cunits W;have dK:bunits<wr.heap.size:=HQ.out.block (by omega) (by omega);have K0:(q:Int)<(nunits:Int):=by omega
   have I3:q<lunits.length:=by rw[Lm.out];exact Bi
   have Av:=Qu.out q I3;have P7:=Hd (Zfg Zgv lunits q I3);have P8:=Hd Av.szs;have dM:=Av.sz;have x0:wr.cell? ⟨bunits,ounits+q *3,none⟩=some (funits q 0):=HQ.out.cell q 0 Bi (by omega);rw[Av.c0.1]at x0;have x1:wr.cell? ⟨bunits,ounits+q *3+1,none⟩=some (funits q 1):=HQ.out.cell q 1 Bi (by omega);rw[Av.c1.1]at x1;have x2:wr.cell? ⟨bunits,ounits+q *3+2,none⟩=some (funits q 2):=HQ.out.cell q 2 Bi (by omega);rw[Av.c2.1]at x2;have P9:Hid (Zgv lunits[q]=Zbc [lunits[q].unit,lunits[q].cls,lunits[q].pat]):=rfl;clear Av;generalize Zao Zgv (lunits.take q)=zp at *;generalize Zgv lunits[q]=zq at *;generalize lunits[q].unit=y0 at *;generalize lunits[q].cls=y1 at *;generalize lunits[q].pat=y2 at *
   go_upto_region 14 with(fail)
   refine Zcw ?_;intro W2 Lg;rw[Lg];clear Lg;have Ky:Hid (∀W,Bel (wr.alloc (.cells #[.string y0,.string y1,.string y2] 9)) W→Calls prog 78 #[.slice (some ⟨wr.heap.size,0,none⟩) 3 3] W fun e w'=>e= .returned (.int .i64 (zq:Int))∧W=w'):=fun W hW=>by
    rw[P9.out];exact Dy.out _ [y0,y1,y2] W ((Ze3 wr [y0,y1,y2] _ 9 rfl (by simp) P8.out _ rfl).map hW (fun _ _ h=>h)) (by simp)
   go_region_held (fun w'=>w'.cell? ⟨B,12,none⟩=some (.slice aunits nunits cunits)∧w'.cell? ⟨bunits,ounits+q *3,none⟩=some (.string y0)∧w'.cell? ⟨bunits,ounits+q *3+1,none⟩=some (.string y1)∧w'.cell? ⟨bunits,ounits+q *3+2,none⟩=some (.string y2)) (go_keep)
    (first
     |(go_at_call 78;refine(Ky.out _ ?_).mono ?_;(show Bel (wr.alloc _) _;repeat (first|exact Bel.refl _|refine Bel.drew ?_));rintro e _ ⟨rfl,rfl⟩))
   all_goals
    go_wp2_with fail
    go_roundw
    case rel=>exact⟨q+1,by go_num,by omega,by rw[P7.out];refine congrArg _ ?_;rw[IntKind.wrap_i64];omega,by(show Bel w _;repeat (first|exact C8.out|refine Bel.alloc ?_ _|refine Bel.drew ?_))⟩
    case measure=>simp[intOf];omega
  ·obtain rfl:q=nunits:=by omega
   have B8:=Hd C8.out;clear C8;rw[List.take_of_length_le (by rw[Lm.out];exact le_refl _)]at P5⊢
   go_wp2_with fail
   exact Bb.out _ _ _ _ _ _ _ _ _ _ _ _ _ _ _ _ _ _ _ _ _ _ _ _ _ _ _ _ _ _ _ B8.out
theorem Zadh (z0 B:Nat)(ldates:List Dp)(x:Value)(w:World)(Q:Exit→Act→World→Prop) {v0 v1 v4 u2 u6 u7 u9 u10 u11 u12 u13 u14 u15 u16 u17 u18 u19 u20 u21 u22 u23 u24 u25 u26 u27 u28 u29 u30 u31 u32 u33 u34 u35 u36 u37 u38 u39 u40 u41 u42 u43 u44 u45 u46 u47 u48 u49 u50 u51 u52 u53 u54 u55 u56 u57 u58 u59 u60 u61 u62 u63 u64 u65 u66 u67 u68 u69 u70 u71 u72 u73 u74 u75 u76 u77 u78 u79 u80 u81 u82 u83 u84 u85 u86 u87 u88 u89 u90 u91 u92 u93 u94 u95 u96 u97 u98 u99 u100 u101 u102 u103 u104 u105 u106 u107 u108 u109 u110 u111 u112 u113 u114 u115 u116 u117 u118 u119 u120 u121 u122 u123 u124 u125 u126 u127 u128 u129 u130 u131 u132 u133 u134 u135 u136 u137 u138 u139 u140 u141 u142 u143 u144 u145 u146 u147 u148 u149 u150 u151 u152 u153 u154 u155 u156 u157 u158 u159 u160 u161 u162 u163 u164 u165 u166 u167 u168 u169 u170 u171 u172 u173 u174 u175 u176 u177 u178 u179 u180 u181 u182 u183 u184 u185 u186 u187 u188 u189 u190 u191 u192 u193 u194 u195 u196 u197 u198 u199 u200 u201:Value} (Cc:z0≤64 *(520 *140737488351262))(h1:RowsOf 2 DpC w x ldates)(Qw:ldates.length≤40)
  (Hc:w.cell? ⟨B,13,none⟩=some x) (Dr:∀(u8 u132 u133 u134 u135 u136 u137 u138 u139 u140 u141 u142 u143 u144 u145 u146 u147 u148 u149 u150 u151 u152 u153 u154:Value) w',Below w.heap.size w w'→Q .normal ⟨#[v0,v1,u2,.int .i64 ((z0+Zao Zhm ldates:Nat):Int),v4,.pointer (some ⟨B,0,none⟩),u6,u7,u8,u9,u10,u11,u12,u13,u14,u15,u16,u17,u18,u19,u20,u21,u22,u23,u24,u25,u26,u27,u28,u29,u30,u31,u32,u33,u34,u35,u36,u37,u38,u39,u40,u41,u42,u43,u44,u45,u46,u47,u48,u49,u50,u51,u52,u53,u54,u55,u56,u57,u58,u59,u60,u61,u62,u63,u64,u65,u66,u67,u68,u69,u70,u71,u72,u73,u74,u75,u76,u77,u78,u79,u80,u81,u82,u83,u84,u85,u86,u87,u88,u89,u90,u91,u92,u93,u94,u95,u96,u97,u98,u99,u100,u101,u102,u103,u104,u105,u106,u107,u108,u109,u110,u111,u112,u113,u114,u115,u116,u117,u118,u119,u120,u121,u122,u123,u124,u125,u126,u127,u128,u129,u130,u131,u132,u133,u134,u135,u136,u137,u138,u139,u140,u141,u142,u143,u144,u145,u146,u147,u148,u149,u150,u151,u152,u153,u154,u155,u156,u157,u158,u159,u160,u161,u162,u163,u164,u165,u166,u167,u168,u169,u170,u171,u172,u173,u174,u175,u176,u177,u178,u179,u180,u181,u182,u183,u184,u185,u186,u187,u188,u189,u190,u191,u192,u193,u194,u195,u196,u197,u198,u199,u200,u201],[]⟩ w'):
  (Zpe 16).wp prog (Exit.inBlock 6 Q) ⟨#[v0,v1,u2,.int .i64 (z0:Int),v4,.pointer (some ⟨B,0,none⟩),u6,u7,.int .i64 0,u9,u10,u11,u12,u13,u14,u15,u16,u17,u18,u19,u20,u21,u22,u23,u24,u25,u26,u27,u28,u29,u30,u31,u32,u33,u34,u35,u36,u37,u38,u39,u40,u41,u42,u43,u44,u45,u46,u47,u48,u49,u50,u51,u52,u53,u54,u55,u56,u57,u58,u59,u60,u61,u62,u63,u64,u65,u66,u67,u68,u69,u70,u71,u72,u73,u74,u75,u76,u77,u78,u79,u80,u81,u82,u83,u84,u85,u86,u87,u88,u89,u90,u91,u92,u93,u94,u95,u96,u97,u98,u99,u100,u101,u102,u103,u104,u105,u106,u107,u108,u109,u110,u111,u112,u113,u114,u115,u116,u117,u118,u119,u120,u121,u122,u123,u124,u125,u126,u127,u128,u129,u130,u131,u132,u133,u134,u135,u136,u137,u138,u139,u140,u141,u142,u143,u144,u145,u146,u147,u148,u149,u150,u151,u152,u153,u154,u155,u156,u157,u158,u159,u160,u161,u162,u163,u164,u165,u166,u167,u168,u169,u170,u171,u172,u173,u174,u175,u176,u177,u178,u179,u180,u181,u182,u183,u184,u185,u186,u187,u188,u189,u190,u191,u192,u193,u194,u195,u196,u197,u198,u199,u200,u201],[]⟩ w:=by
 have Dy:=Hd Zjv;have Bb:=Hd Dr;have Aw:B<w.heap.size:=World.block_lt_of_cell? w _ Hc;obtain⟨adates,cdates,fdates,bdates,odates,edates,rdates,_,_,_,H8⟩:=h1.opn;have H9:∀i,i≤ldates.length→Zao Zhm (ldates.take i)≤i *(2 *140737488351262):=fun i hi=>Ze8 _ _ _ i (fun x hx=>by obtain⟨j,hj,rfl⟩:=getElem_of_mem hx;exact(H8 j hj).sz) hi;obtain⟨ndates,Ia⟩:∃n,ldates.length=n:=⟨_,rfl⟩;have Ln:=Hd Ia;rw[Ia]at edates rdates H9 Qw;have Qx:=Hd H8;have Qy:=Hd H9;have eH:=rdates.max;clear H8 H9 Ia;subst edates;have Ib:=Hd rdates;have ydates:=Hc;have B8:Hid (Below w.heap.size w w):=Below.refl _ _;clear rdates h1 Hc Dr;refine Zn5 ?_;unfold Zpe;dsimp only
 conv=>arg 2;whnf
 go_loopw [3,8] (fun u v wr=>∃(q:Nat),v= .int .i64 (q:Int)∧q≤ndates∧u= .int .i64 ((z0+Zao Zhm (ldates.take q):Nat):Int)∧Below w.heap.size w wr) (fun _ v _=>ndates -(intOf v).toNat)
 case atStart=>exact⟨0,rfl,zero_le _,rfl,B8.out⟩
 case round=>
  obtain⟨q,rfl,Mq,rfl,Fe⟩:=hrel;have C8:=Hd Fe;have O8:=Fe.size;clear Fe;have yl:wr.cell? ⟨B,13,none⟩=some (.slice adates ndates cdates):=(C8.out.cell (p:=⟨B,13,none⟩) Aw).trans ydates;have U5:B<wr.heap.size:=by omega
  have P5:=Qy.out q Mq
  by_cases Bi:q<ndates
  ·have HQ:=Hd (Ib.out.below C8.out);have P6:=fun W=>HQ.out.ix 43 134 underlying43 cDp (by omega) Bi cdates W;have dK:bdates<wr.heap.size:=HQ.out.block (by omega) (by omega);have K0:(q:Int)<(ndates:Int):=by omega
   have I3:q<ldates.length:=by rw[Ln.out];exact Bi
   have Av:=Qx.out q I3;have P7:=Hd (Zfg Zhm ldates q I3);have P8:=Hd Av.szs;have dM:=Av.sz;have x0:wr.cell? ⟨bdates,odates+q *2,none⟩=some (fdates q 0):=HQ.out.cell q 0 Bi (by omega);rw[Av.c0.1]at x0;have x1:wr.cell? ⟨bdates,odates+q *2+1,none⟩=some (fdates q 1):=HQ.out.cell q 1 Bi (by omega);rw[Av.c1.1]at x1;have P9:Hid (Zhm ldates[q]=Zbc [ldates[q].skel,ldates[q].pat]):=rfl;clear Av;generalize Zao Zhm (ldates.take q)=zp at *;generalize Zhm ldates[q]=zq at *;generalize ldates[q].skel=y0 at *;generalize ldates[q].pat=y1 at *
   go_upto_region 18 with(fail)
   refine Zcw ?_;intro W2 Lg;rw[Lg];clear Lg;have Ky:Hid (∀W,Bel (wr.alloc (.cells #[.string y0,.string y1] 9)) W→Calls prog 78 #[.slice (some ⟨wr.heap.size,0,none⟩) 2 2] W fun e w'=>e= .returned (.int .i64 (zq:Int))∧W=w'):=fun W hW=>by
    rw[P9.out];exact Dy.out _ [y0,y1] W ((Ze3 wr [y0,y1] _ 9 rfl (by simp) P8.out _ rfl).map hW (fun _ _ h=>h)) (by simp)
   go_region_held (fun w'=>w'.cell? ⟨B,13,none⟩=some (.slice adates ndates cdates)∧w'.cell? ⟨bdates,odates+q *2,none⟩=some (.string y0)∧w'.cell? ⟨bdates,odates+q *2+1,none⟩=some (.string y1)) (go_keep)
    (first
     |(go_at_call 78;refine(Ky.out _ ?_).mono ?_;(show Bel (wr.alloc _) _;repeat (first|exact Bel.refl _|refine Bel.drew ?_));rintro e _ ⟨rfl,rfl⟩))
   all_goals
    go_wp2_with fail
    go_roundw
    case rel=>exact⟨q+1,by go_num,by omega,by rw[P7.out];refine congrArg _ ?_;rw[IntKind.wrap_i64];omega,by(show Bel w _;repeat (first|exact C8.out|refine Bel.alloc ?_ _|refine Bel.drew ?_))⟩
    case measure=>simp[intOf];omega
  ·obtain rfl:q=ndates:=by omega
   have B8:=Hd C8.out;clear C8;rw[List.take_of_length_le (by rw[Ln.out];exact le_refl _)]at P5⊢
   go_wp2_with fail
   exact Bb.out _ _ _ _ _ _ _ _ _ _ _ _ _ _ _ _ _ _ _ _ _ _ _ _ _ B8.out
def Ziv (n:Nat):Code→Option Code
 | .region k o d=>if k=n then some (.region k o d)else none
 | .loop b=>Ziv n b
 | .seq a b=>match Ziv n a with
  |some c=>some c
  |none=>Ziv n b
 | .cond _ a b=>match Ziv n a with
  |some c=>some c
  |none=>Ziv n b
 | .block _ b=>Ziv n b
 | .scope b=>Ziv n b
 |_=>none
noncomputable def Zajd (n:Nat):Code:=(Ziv n ((Tryz.f31.body).getD .skip)).getD .skip
theorem Zafw {P:Program} {c:Code} {Q:Exit→Act→World→Prop} {a:Act} {w:World} (h:c.wp P (Zp1 Q) a w):c.wp P Q a w:=
 Code.wp_mono (fun e a w h=>by
  cases e with
  |normal=>exact h
  |_=>exact(h:False).elim) h
theorem Zaet (z0 B:Nat)(s0 s1 s2 s5 s6 s7 s8:ByteArray)(a3 a4:Option Addr)(n3 c3 n4 c4:Nat)(x14 x15:Value)(lm ld:List ByteArray)(W1:World)(Q:Exit→Act→World→Prop) {v0 v1 v4 u2 u6 u7 u8 u9 u10 u11 u12 u13 u14 u15 u16 u17 u18 u19 u20 u21 u22 u23 u24 u25 u26 u27 u28 u29 u30 u31 u32 u33 u34 u35 u36 u37 u38 u39 u40 u41 u42 u43 u44 u45 u46 u47 u48 u49 u50 u51 u52 u53 u54 u55 u56 u57 u58 u59 u60 u61 u62 u63 u64 u65 u66 u67 u68 u69 u70 u71 u72 u73 u74 u75 u76 u77 u78 u79 u80 u81 u82 u83 u84 u85 u86 u87 u88 u89 u90 u91 u92 u93 u94 u95 u96 u97 u98 u99 u100 u101 u102 u103 u104 u105 u106 u107 u108 u109 u110 u111 u112 u113 u114 u115 u116 u117 u118 u119 u120 u121 u122 u123 u124 u125 u126 u127 u128 u129 u130 u131 u132 u133 u134 u135 u136 u137 u138 u139 u140 u141 u142 u143 u144 u145 u146 u147 u148 u149 u150 u151 u152 u153 u154 u155 u156 u157 u158 u159 u160 u161 u162 u163 u164 u165 u166 u167 u168 u169 u170 u171 u172 u173 u174 u175 u176 u177 u178 u179 u180 u181 u182 u183 u184 u185 u186 u187 u188 u189 u190 u191 u192 u193 u194 u195 u196 u197 u198 u199 u200 u201:Value} (Cc:z0≤64 *(520 *140737488351262))
  (hB:B+1=W1.heap.size) (uB:n3≤12) (cF:n4≤12) (hm:lm.length≤20) (hd:ld.length≤20) (Wz:RowsOf 1 OneS W1 x14 lm) (W4:RowsOf 1 OneS W1 x15 ld) (lG:∀s∈[s0,s1,s2,s5,s6,s7,s8],s.size≤140737488351232) (za:Nat) (eI:Zbc [s0,s1,s2,s5,s6,s7,s8]+Zbc lm+Zbc ld+100 *(n3+n4)=za)
  (y0:W1.cell? ⟨B,0,none⟩=some (.string s0)) (y1:W1.cell? ⟨B,1,none⟩=some (.string s1)) (y2:W1.cell? ⟨B,2,none⟩=some (.string s2)) (y3:W1.cell? ⟨B,3,none⟩=some (.slice a3 n3 c3)) (y4:W1.cell? ⟨B,4,none⟩=some (.slice a4 n4 c4)) (y5:W1.cell? ⟨B,5,none⟩=some (.string s5)) (y6:W1.cell? ⟨B,6,none⟩=some (.string s6)) (y7:W1.cell? ⟨B,7,none⟩=some (.string s7)) (y8:W1.cell? ⟨B,8,none⟩=some (.string s8)) (y14:W1.cell? ⟨B,14,none⟩=some x14) (y15:W1.cell? ⟨B,15,none⟩=some x15)
  (Dr:∀(u23 u24 u25 u26 u27 u28 u29 u30 u31 u32 u33 u34 u35 u36 u37 u38 u39 u40 u41 u42 u43 u44 u45 u46 u47 u48 u49 u50 u51 u52 u53 u54 u55 u56 u57 u58 u59 u60 u61:Value) w',Below W1.heap.size W1 w'→Q .normal ⟨#[v0,v1,u2,.int .i64 ((z0+za:Nat):Int),v4,.pointer (some ⟨B,0,none⟩),u6,u7,u8,u9,u10,u11,u12,u13,u14,u15,u16,u17,u18,u19,u20,u21,u22,u23,u24,u25,u26,u27,u28,u29,u30,u31,u32,u33,u34,u35,u36,u37,u38,u39,u40,u41,u42,u43,u44,u45,u46,u47,u48,u49,u50,u51,u52,u53,u54,u55,u56,u57,u58,u59,u60,u61,u62,u63,u64,u65,u66,u67,u68,u69,u70,u71,u72,u73,u74,u75,u76,u77,u78,u79,u80,u81,u82,u83,u84,u85,u86,u87,u88,u89,u90,u91,u92,u93,u94,u95,u96,u97,u98,u99,u100,u101,u102,u103,u104,u105,u106,u107,u108,u109,u110,u111,u112,u113,u114,u115,u116,u117,u118,u119,u120,u121,u122,u123,u124,u125,u126,u127,u128,u129,u130,u131,u132,u133,u134,u135,u136,u137,u138,u139,u140,u141,u142,u143,u144,u145,u146,u147,u148,u149,u150,u151,u152,u153,u154,u155,u156,u157,u158,u159,u160,u161,u162,u163,u164,u165,u166,u167,u168,u169,u170,u171,u172,u173,u174,u175,u176,u177,u178,u179,u180,u181,u182,u183,u184,u185,u186,u187,u188,u189,u190,u191,u192,u193,u194,u195,u196,u197,u198,u199,u200,u201],[]⟩ w'):
  (Zajd 6).wp prog Q ⟨#[v0,v1,u2,.int .i64 (z0:Int),v4,.pointer (some ⟨B,0,none⟩),u6,u7,u8,u9,u10,u11,u12,u13,u14,u15,u16,u17,u18,u19,u20,u21,u22,u23,u24,u25,u26,u27,u28,u29,u30,u31,u32,u33,u34,u35,u36,u37,u38,u39,u40,u41,u42,u43,u44,u45,u46,u47,u48,u49,u50,u51,u52,u53,u54,u55,u56,u57,u58,u59,u60,u61,u62,u63,u64,u65,u66,u67,u68,u69,u70,u71,u72,u73,u74,u75,u76,u77,u78,u79,u80,u81,u82,u83,u84,u85,u86,u87,u88,u89,u90,u91,u92,u93,u94,u95,u96,u97,u98,u99,u100,u101,u102,u103,u104,u105,u106,u107,u108,u109,u110,u111,u112,u113,u114,u115,u116,u117,u118,u119,u120,u121,u122,u123,u124,u125,u126,u127,u128,u129,u130,u131,u132,u133,u134,u135,u136,u137,u138,u139,u140,u141,u142,u143,u144,u145,u146,u147,u148,u149,u150,u151,u152,u153,u154,u155,u156,u157,u158,u159,u160,u161,u162,u163,u164,u165,u166,u167,u168,u169,u170,u171,u172,u173,u174,u175,u176,u177,u178,u179,u180,u181,u182,u183,u184,u185,u186,u187,u188,u189,u190,u191,u192,u193,u194,u195,u196,u197,u198,u199,u200,u201],[]⟩ W1:=by
 subst eI;have Dy:=Hd Zjv;have Bb:=Hd Dr;have bN:=Ze2 (OneS.szs Wz);have bO:=Ze2 (OneS.szs W4);have Xb:=Ze2 lG;have lH:=Hd lG;obtain⟨a14,c14,_,_,_,e14,_⟩:=Wz.opn;obtain⟨a15,c15,_,_,_,e15,_⟩:=W4.opn;subst e14;subst e15;have Vu:=Hd Wz;have Vv:=Hd W4;have pH:Zbc lm≤20 *140737488351262:=le_trans bN (mul_le_mul_right _ hm);have pI:Zbc ld≤20 *140737488351262:=le_trans bO (mul_le_mul_right _ hd);have uG:Zbc [s0,s1,s2,s5,s6,s7,s8]≤7 *140737488351262:=Xb;have lI:Hid (∀W,Bel W1 W→Calls prog 78 #[.slice a14 lm.length c14] W fun e w'=>e= .returned (.int .i64 (Zbc lm:Int))∧W=w'):=fun W hW=>Dy.out _ lm W (Vu.out.map hW (fun _ _ h=>h)) (by omega);have lJ:Hid (∀W,Bel W1 W→Calls prog 78 #[.slice a15 ld.length c15] W fun e w'=>e= .returned (.int .i64 (Zbc ld:Int))∧W=w'):=fun W hW=>Dy.out _ ld W (Vv.out.map hW (fun _ _ h=>h)) (by omega);have uH:Hid (∀W0 W:World,W0.heap.size=B+1→Bel (W0.alloc (.cells #[.string s0,.string s1,.string s2,.string s5,.string s6,.string s7,.string s8] 9)) W→Calls prog 78 #[.slice (some ⟨B+1,0,none⟩) 7 7] W fun e w'=>e= .returned (.int .i64 (Zbc [s0,s1,s2,s5,s6,s7,s8]:Int))∧W=w'):=fun W0 W h0 hW=>
  Dy.out _ [s0,s1,s2,s5,s6,s7,s8] W ((Ze3 W0 [s0,s1,s2,s5,s6,s7,s8] _ 9 rfl (by simp) lH.out _ h0).map hW (fun _ _ h=>h)) (by simp)
 have Ba:W1.heap.size=B+1:=hB.symm;have Aw:B<W1.heap.size:=by omega
 generalize Zbc [s0,s1,s2,s5,s6,s7,s8]=z7 at *;generalize Zbc lm=zm at *;generalize Zbc ld=zd at *;have Jh:∀(z:Int) (u23 u24 u25 u26 u27 u28 u29 u30 u31 u32 u33 u34 u35 u36 u37 u38 u39 u40 u41 u42 u43 u44 u45 u46 u47 u48 u49 u50 u51 u52 u53 u54 u55 u56 u57 u58 u59 u60 u61:Value) w',z=((z0+(z7+zm+zd+100 *(n3+n4)):Nat):Int)→Below W1.heap.size W1 w'→Zp1 Q .normal ⟨#[v0,v1,u2,.int .i64 z,v4,.pointer (some ⟨B,0,none⟩),u6,u7,u8,u9,u10,u11,u12,u13,u14,u15,u16,u17,u18,u19,u20,u21,u22,u23,u24,u25,u26,u27,u28,u29,u30,u31,u32,u33,u34,u35,u36,u37,u38,u39,u40,u41,u42,u43,u44,u45,u46,u47,u48,u49,u50,u51,u52,u53,u54,u55,u56,u57,u58,u59,u60,u61,u62,u63,u64,u65,u66,u67,u68,u69,u70,u71,u72,u73,u74,u75,u76,u77,u78,u79,u80,u81,u82,u83,u84,u85,u86,u87,u88,u89,u90,u91,u92,u93,u94,u95,u96,u97,u98,u99,u100,u101,u102,u103,u104,u105,u106,u107,u108,u109,u110,u111,u112,u113,u114,u115,u116,u117,u118,u119,u120,u121,u122,u123,u124,u125,u126,u127,u128,u129,u130,u131,u132,u133,u134,u135,u136,u137,u138,u139,u140,u141,u142,u143,u144,u145,u146,u147,u148,u149,u150,u151,u152,u153,u154,u155,u156,u157,u158,u159,u160,u161,u162,u163,u164,u165,u166,u167,u168,u169,u170,u171,u172,u173,u174,u175,u176,u177,u178,u179,u180,u181,u182,u183,u184,u185,u186,u187,u188,u189,u190,u191,u192,u193,u194,u195,u196,u197,u198,u199,u200,u201],[]⟩ w':=fun z u23 u24 u25 u26 u27 u28 u29 u30 u31 u32 u33 u34 u35 u36 u37 u38 u39 u40 u41 u42 u43 u44 u45 u46 u47 u48 u49 u50 u51 u52 u53 u54 u55 u56 u57 u58 u59 u60 u61 w' hz hb=>by
  subst hz;exact Bb.out u23 u24 u25 u26 u27 u28 u29 u30 u31 u32 u33 u34 u35 u36 u37 u38 u39 u40 u41 u42 u43 u44 u45 u46 u47 u48 u49 u50 u51 u52 u53 u54 u55 u56 u57 u58 u59 u60 u61 w' hb
 have Jh:=Hd Jh;clear Wz W4 lG bN bO Xb Dr hB Dy Bb;refine Zafw ?_;unfold Zajd;dsimp only
 conv=>arg 2;whnf
 go_region_held (fun w'=>w'.cell? ⟨B,0,none⟩=some (.string s0)∧w'.cell? ⟨B,1,none⟩=some (.string s1)∧w'.cell? ⟨B,2,none⟩=some (.string s2)∧w'.cell? ⟨B,5,none⟩=some (.string s5)∧w'.cell? ⟨B,6,none⟩=some (.string s6)∧w'.cell? ⟨B,7,none⟩=some (.string s7)∧w'.cell? ⟨B,8,none⟩=some (.string s8)∧w'.cell? ⟨B,14,none⟩=some (.slice a14 lm.length c14)∧w'.cell? ⟨B,15,none⟩=some (.slice a15 ld.length c15)∧w'.cell? ⟨B,3,none⟩=some (.slice a3 n3 c3)∧w'.cell? ⟨B,4,none⟩=some (.slice a4 n4 c4)) (go_keep)
  (first
   |(go_at_call_of 78 (Value.slice a14 lm.length c14);refine(lI.out _ ?_).mono ?_;(show Bel W1 _;repeat (first|exact Bel.refl _|refine Bel.alloc ?_ _|refine Bel.drew ?_));rintro e _ ⟨rfl,rfl⟩)
   |(go_at_call_of 78 (Value.slice a15 ld.length c15);refine(lJ.out _ ?_).mono ?_;(show Bel W1 _;repeat (first|exact Bel.refl _|refine Bel.alloc ?_ _|refine Bel.drew ?_));rintro e _ ⟨rfl,rfl⟩)
   |(go_at_call 78;refine(uH.out W1 _ Ba ?_).mono ?_;(show Bel (W1.alloc _) _;repeat (first|exact Bel.refl _|refine Bel.drew ?_));rintro e _ ⟨rfl,rfl⟩))
 all_goals
  go_wp2_with fail
  exact Jh.out _ _ _ _ _ _ _ _ _ _ _ _ _ _ _ _ _ _ _ _ _ _ _ _ _ _ _ _ _ _ _ _ _ _ _ _ _ _ _ _ _ (by simp(disch:=omega) only[IntWalk.i64_in];omega) (by(show Bel W1 _;repeat (first|exact Bel.refl _|refine Bel.alloc ?_ _|refine Bel.drew ?_)))
theorem Zafo (t:Tb)(v0 v1 v2:Value)(w:World)(h0:RowsOf 16 LcC w v0 t.locs)(h1:RowsOf 2 AlC w v1 t.als)(h2:RowsOf 3 NeC w v2 t.near)(hc:∀y∈t.locs,CntL y)(E6:t.locs.length≤62)(J6:t.als.length≤205)(Ko:t.near.length≤205):
  Calls prog 31 #[.agg #[v0,v1,v2]] w fun e w'=>e= .returned (.int .i64 (Zno t:Int))∧Below w.heap.size w w':=by
 have Am:Hid (∀i,i≤t.locs.length→Zao Zg6 (t.locs.take i)≤i *(520 *140737488351262)):=fun i hi=>Ze8 _ _ _ i (fun x hx=>by
  obtain⟨_,_,f,_,_,_,_,_,_,_,h6⟩:=h0.opn;obtain⟨j,hj,rfl⟩:=getElem_of_mem hx;exact Zvv (h6 j hj) (hc _ (getElem_mem hj))) hi
 have Dy:=Hd Zjv;have lK:=Hd (Zfg Zg6 t.locs);have pJ:=Hd hc;have pK:Hid (Zno t=Zao Zg6 t.locs+Zao Zhl t.als+Zao Zik t.near):=rfl;have eJ:=Hd h1;have Ew:=Hd h2;obtain⟨a1,cc1,_,_,_,ev1,_,_⟩:=h1.opn;obtain⟨a2,cc2,_,_,_,ev2,_,_⟩:=h2.opn;have Ec:=Hd J6;have Hm:=Hd Ko;obtain⟨ad,c,f,b,off,rfl,hr,_,_,_,hf⟩:=h0.opn;obtain⟨n,hn⟩:∃n,t.locs.length=n:=⟨_,rfl⟩;have HN:=Hd hn;rw[hn]at hr E6 Am⊢;have HR:=Hd hr;have HF:=Hd hf;have Df:=hr.max;have Dm:n≠0→b<w.heap.size:=fun h=>hr.block h (by omega);have uI:=Hd Am.out;clear hr hf h0 h1 h2 hc hn Am J6 Ko;rw[pK.out];clear pK;have uJ:=Hd ev1;have uK:=Hd ev2;clear ev1 ev2;generalize t.locs=tl at *;generalize t.als=tal at *;generalize t.near=tne at *
 go_enter func31,ntmps31
 go_wp2_with fail
 rename_i K9 Ni;have Ev:=Hd Ni;clear Ni;refine Zcw ?_;intro W hW;have uL:W.heap.size=w.heap.size+1:=by rw[hW];simp
 have L6:Hid (Below w.heap.size w W):=by rw[hW];exact(Below.refl _ _).alloc (le_refl _) _
 have t0:W.cell? ⟨w.heap.size,0,none⟩=some (.slice ad n c):=by rw[hW];simp[go_sem]
 have t1:W.cell? ⟨w.heap.size,1,none⟩=some v1:=by rw[hW];simp[go_sem]
 have t2:W.cell? ⟨w.heap.size,2,none⟩=some v2:=by rw[hW];simp[go_sem]
 have T0:=Hd t0;have T1:=Hd t1;have T2:=Hd t2;clear t0 t1 t2 hW
 go_loopw [3,4] (fun u v wr=>∃(k:Nat),v= .int .i64 (k:Int)∧k≤n∧u= .int .i64 (Zao Zg6 (tl.take k):Int)∧Below W.heap.size W wr) (fun _ v _=>n -(intOf v).toNat)
 case atStart=>exact⟨0,rfl,zero_le _,rfl,Below.refl _ _⟩
 case round=>
  obtain⟨wo,rfl⟩:∃wo:World,wo=wr:=⟨_,rfl⟩;obtain⟨k,rfl,Co,rfl,Ak⟩:=hrel;have Ac:=Hd Ak;have Bl:=Ak.size;clear Ak;have lL:=uI.out k Co;have l0:wo.cell? ⟨w.heap.size,0,none⟩=some (.slice ad n c):=(Ac.out.cell (p:=⟨w.heap.size,0,none⟩) (by show w.heap.size<_;omega)).trans T0.out
  by_cases Aa:k<n
  ·have Ok:=Hd (L6.out.trans (Ac.out.mono (by omega)));have D7:=Hd (HR.out.below Ok.out);have Ci:=fun W=>D7.out.ix 23 46 underlying23 cLc (by omega) Aa c W;have Ii:b<wo.heap.size:=by have:=Dm (by omega);omega
   have Gr:k<tl.length:=by rw[HN.out];exact Aa
   have hl:=HF.out k Gr;have Gm:=Hd (lK.out k Gr);have uM:=Zvv hl (pJ.out _ (getElem_mem Gr));have Kq:Zg6 tl[k]=(Zbc [tl[k].tag,tl[k].par,tl[k].dir,tl[k].dec,tl[k].grp,tl[k].mi,tl[k].pct]+Zbc tl[k].months+Zbc tl[k].days+100 *(tl[k].card.length+tl[k].ord.length))+Zao Zgp tl[k].lists+Zao Zgv tl[k].units+Zao Zhm tl[k].dates:=rfl;obtain⟨q3,q4,qlists,qunits,qdates,q14,q15⟩:=pJ.out _ (getElem_mem Gr);generalize tl[k]=y at *;generalize Zao Zg6 (tl.take k)=zk at *;obtain⟨a3,c3,xf3,xb3,xo3,e3,r3,xh3,xi3,xj3,xk3⟩:=hl.c3.opn;obtain⟨a4,c4,xf4,xb4,xo4,e4,r4,xh4,xi4,xj4,xk4⟩:=hl.c4.opn;clear xk3 xk4;have Ic:=Hd (hl.c11.map Ok.out (fun _ _ h=>LpC.at h));obtain⟨a11,c11,_,_,_,e11,_⟩:=hl.c11.opn;rw[e11]at Ic;generalize Ol:y.lists=llists at *;clear Ol;have Id:=Hd (hl.c12.map Ok.out (fun _ _ h=>UpC.at h));obtain⟨a12,c12,_,_,_,e12,_⟩:=hl.c12.opn;rw[e12]at Id;generalize Om:y.units=lunits at *;clear Om;have Ie:=Hd (hl.c13.map Ok.out (fun _ _ h=>DpC.at h));obtain⟨a13,c13,_,_,_,e13,_⟩:=hl.c13.opn;rw[e13]at Ie;generalize On:y.dates=ldates at *;clear On;generalize y.card.length=n3 at *;generalize y.ord.length=n4 at *;have Oo:=Hd (hl.c14.map Ok.out (fun _ _ h=>h));have Qz:=Hd (hl.c15.map Ok.out (fun _ _ h=>h));have lH:Hid (∀s∈[y.tag,y.par,y.dir,y.dec,y.grp,y.mi,y.pct],s.size≤140737488351232):=by
    intro s hs;simp only[List.mem_cons,List.not_mem_nil,or_false]at hs;rcases hs with rfl|rfl|rfl|rfl|rfl|rfl|rfl
    ·exact hl.c0.2
    ·exact hl.c1.2
    ·exact hl.c2.2
    ·exact hl.c5.2
    ·exact hl.c6.2
    ·exact hl.c7.2
    ·exact hl.c8.2
   have e0:=hl.c0.1;have e1:=hl.c1.1;have e2:=hl.c2.1;have e5:=hl.c5.1;have e6:=hl.c6.1;have e7:=hl.c7.1;have e8:=hl.c8.1;have e9:=hl.c9.1;have e10:=hl.c10.1;obtain⟨a14,c14,xf14,xb14,xo14,e14,r14,xh14,xi14,xj14,xk14⟩:=hl.c14.opn;obtain⟨a15,c15,xf15,xb15,xo15,e15,r15,xh15,xi15,xj15,xk15⟩:=hl.c15.opn;clear xk14 xk15;rw[e14]at Oo;rw[e15]at Qz;obtain⟨n14,Kr⟩:∃n,y.months.length=n:=⟨_,rfl⟩;obtain⟨n15,Ks⟩:∃n,y.days.length=n:=⟨_,rfl⟩;have Vw:=Hd Kr;have Vx:=Hd Ks;rw[Kr]at e14 Oo q14 r14;rw[Ks]at e15 Qz q15 r15;have lA:=r14.max;have lB:=r15.max;clear Kr Ks;have k0:wo.cell? ⟨b,off+k *16,none⟩=some (f k 0):=D7.out.cell k 0 Aa (by omega);rw[e0]at k0;have k1:wo.cell? ⟨b,off+k *16+1,none⟩=some (f k 1):=D7.out.cell k 1 Aa (by omega);rw[e1]at k1;have k2:wo.cell? ⟨b,off+k *16+2,none⟩=some (f k 2):=D7.out.cell k 2 Aa (by omega);rw[e2]at k2;have k3:wo.cell? ⟨b,off+k *16+3,none⟩=some (f k 3):=D7.out.cell k 3 Aa (by omega);rw[e3]at k3;have k4:wo.cell? ⟨b,off+k *16+4,none⟩=some (f k 4):=D7.out.cell k 4 Aa (by omega);rw[e4]at k4;have k5:wo.cell? ⟨b,off+k *16+5,none⟩=some (f k 5):=D7.out.cell k 5 Aa (by omega);rw[e5]at k5;have k6:wo.cell? ⟨b,off+k *16+6,none⟩=some (f k 6):=D7.out.cell k 6 Aa (by omega);rw[e6]at k6;have k7:wo.cell? ⟨b,off+k *16+7,none⟩=some (f k 7):=D7.out.cell k 7 Aa (by omega);rw[e7]at k7;have k8:wo.cell? ⟨b,off+k *16+8,none⟩=some (f k 8):=D7.out.cell k 8 Aa (by omega);rw[e8]at k8;have k9:wo.cell? ⟨b,off+k *16+9,none⟩=some (f k 9):=D7.out.cell k 9 Aa (by omega);rw[e9]at k9;have k10:wo.cell? ⟨b,off+k *16+10,none⟩=some (f k 10):=D7.out.cell k 10 Aa (by omega);rw[e10]at k10;have k11:wo.cell? ⟨b,off+k *16+11,none⟩=some (f k 11):=D7.out.cell k 11 Aa (by omega);rw[e11]at k11;have k12:wo.cell? ⟨b,off+k *16+12,none⟩=some (f k 12):=D7.out.cell k 12 Aa (by omega);rw[e12]at k12;have k13:wo.cell? ⟨b,off+k *16+13,none⟩=some (f k 13):=D7.out.cell k 13 Aa (by omega);rw[e13]at k13;have k14:wo.cell? ⟨b,off+k *16+14,none⟩=some (f k 14):=D7.out.cell k 14 Aa (by omega);rw[e14]at k14;have k15:wo.cell? ⟨b,off+k *16+15,none⟩=some (f k 15):=D7.out.cell k 15 Aa (by omega);rw[e15]at k15;clear hl e3 e4 e11 e12 e13 r3 r4 e14 e15 r14 r15 e0 e1 e2 e5 e6 e7 e8 e9 e10;have lM:=Oo;generalize eI:Zbc [y.tag,y.par,y.dir,y.dec,y.grp,y.mi,y.pct]+Zbc y.months+Zbc y.days+100 *(n3+n4)=za at *;generalize y.tag=s0 at *;generalize y.par=s1 at *;generalize y.dir=s2 at *;generalize y.dec=s5 at *;generalize y.grp=s6 at *;generalize y.mi=s7 at *;generalize y.pct=s8 at *;generalize y.pri=z9 at *;generalize y.sec=z10 at *;generalize y.months=lm at *;generalize y.days=ld at *;have He:=Hd Kq;have uN:=Hd eI;generalize Zg6 y=zy at *;clear eI Kq
   go_upto_region 6 with(fail)
   refine Zcw ?_;intro W1 Fb;have Ba:W1.heap.size=wo.heap.size+1:=by rw[Fb];simp
   have Cs:Hid (Below wo.heap.size wo W1):=by rw[Fb];exact(Below.refl _ _).alloc (le_refl _) _
   have y0:W1.cell? ⟨wo.heap.size,0,none⟩=some (.string s0):=by rw[Fb];simp[go_sem]
   have y1:W1.cell? ⟨wo.heap.size,1,none⟩=some (.string s1):=by rw[Fb];simp[go_sem]
   have y2:W1.cell? ⟨wo.heap.size,2,none⟩=some (.string s2):=by rw[Fb];simp[go_sem]
   have y3:W1.cell? ⟨wo.heap.size,3,none⟩=some (.slice a3 n3 c3):=by rw[Fb];simp[go_sem]
   have y4:W1.cell? ⟨wo.heap.size,4,none⟩=some (.slice a4 n4 c4):=by rw[Fb];simp[go_sem]
   have y5:W1.cell? ⟨wo.heap.size,5,none⟩=some (.string s5):=by rw[Fb];simp[go_sem]
   have y6:W1.cell? ⟨wo.heap.size,6,none⟩=some (.string s6):=by rw[Fb];simp[go_sem]
   have y7:W1.cell? ⟨wo.heap.size,7,none⟩=some (.string s7):=by rw[Fb];simp[go_sem]
   have y8:W1.cell? ⟨wo.heap.size,8,none⟩=some (.string s8):=by rw[Fb];simp[go_sem]
   have ylists:W1.cell? ⟨wo.heap.size,11,none⟩=some (.slice a11 llists.length c11):=by rw[Fb];simp[go_sem]
   have yunits:W1.cell? ⟨wo.heap.size,12,none⟩=some (.slice a12 lunits.length c12):=by rw[Fb];simp[go_sem]
   have ydates:W1.cell? ⟨wo.heap.size,13,none⟩=some (.slice a13 ldates.length c13):=by rw[Fb];simp[go_sem]
   have y14:W1.cell? ⟨wo.heap.size,14,none⟩=some (.slice a14 n14 c14):=by rw[Fb];simp[go_sem]
   have y15:W1.cell? ⟨wo.heap.size,15,none⟩=some (.slice a15 n15 c15):=by rw[Fb];simp[go_sem]
   have Vu:=Hd (Oo.out.map Cs.out (fun _ _ h=>h));have Vv:=Hd (Qz.out.map Cs.out (fun _ _ h=>h));have Hy:=Hd (Ic.out.map Cs.out (fun _ _ h=>LpC.at h));have H7:=Hd (Id.out.map Cs.out (fun _ _ h=>UpC.at h));have Ib:=Hd (Ie.out.map Cs.out (fun _ _ h=>DpC.at h));have Aw:wo.heap.size<W1.heap.size:=by omega
   clear Fb Oo Qz lM Ic Id Ie k0 k1 k2 k3 k4 k5 k6 k7 k8 k9 k10 k11 k12 k13 k14 k15;have bP:zk≤64 *(520 *140737488351262):=le_trans lL (mul_le_mul_right _ (le_trans Co (le_trans E6 (by decide))));refine Zaet zk wo.heap.size s0 s1 s2 s5 s6 s7 s8 a3 a4 n3 c3 n4 c4 _ _ lm ld _ _ bP Ba.symm q3 q4 (by rw[Vw.out];exact q14) (by rw[Vx.out];exact q15) Vu.out Vv.out lH.out za uN.out y0 y1 y2 y3 y4 y5 y6 y7 y8 y14 y15 ?_;intro u23 u24 u25 u26 u27 u28 u29 u30 u31 u32 u33 u34 u35 u36 u37 u38 u39 u40 u41 u42 u43 u44 u45 u46 u47 u48 u49 u50 u51 u52 u53 u54 u55 u56 u57 u58 u59 u60 u61 wz U5;have B8:=Hd U5;clear U5;rename_i K9a bQ;refine bQ _ _ ?_;clear bQ
   go_wp2_with fail
   refine Zaep (zk+za) wo.heap.size llists _ _ _ (by have:=He.out;omega) (Hy.out.map B8.out (fun _ _ h=>LpC.at h)) qlists ((B8.out.cell (p:=⟨wo.heap.size,11,none⟩) Aw).trans ylists) ?_;intro u6 u62 u63 u64 u65 u66 u67 u68 u69 u70 u71 u72 u73 u74 u75 u76 u77 u78 u79 u80 u81 u82 u83 u84 u85 u86 u87 u88 u89 u90 u91 u92 u93 u94 u95 u96 u97 u98 u99 u100 u101 u102 wa bR;have S6:=Hd (B8.out.trans (bR.mono B8.out.size));clear bR B8;have B8:=S6;clear S6;rename_i K8 Eg;refine Eg _ _ ?_;clear Eg
   go_wp2_with fail
   refine Zaeh (zk+za+Zao Zgp llists) wo.heap.size lunits _ _ _ (by have:=He.out;omega) (H7.out.map B8.out (fun _ _ h=>UpC.at h)) qunits ((B8.out.cell (p:=⟨wo.heap.size,12,none⟩) Aw).trans yunits) ?_;intro u7 u103 u104 u105 u106 u107 u108 u109 u110 u111 u112 u113 u114 u115 u116 u117 u118 u119 u120 u121 u122 u123 u124 u125 u126 u127 u128 u129 u130 u131 wb bS;have S6:=Hd (B8.out.trans (bS.mono B8.out.size));clear bS B8;have B8:=S6;clear S6;rename_i K7 pL;refine pL _ _ ?_;clear pL
   go_wp2_with fail
   refine Zadh (zk+za+Zao Zgp llists+Zao Zgv lunits) wo.heap.size ldates _ _ _ (by have:=He.out;omega) (Ib.out.map B8.out (fun _ _ h=>DpC.at h)) qdates ((B8.out.cell (p:=⟨wo.heap.size,13,none⟩) Aw).trans ydates) ?_;intro u8 u132 u133 u134 u135 u136 u137 u138 u139 u140 u141 u142 u143 u144 u145 u146 u147 u148 u149 u150 u151 u152 u153 u154 wc bT;have S6:=Hd (B8.out.trans (bT.mono B8.out.size));clear bT B8;have B8:=S6;clear S6
   go_wp2_with fail
   go_roundw
   case rel=>
    refine⟨k+1,by go_num,by omega,?_,Ac.out.trans ((Cs.out.trans (B8.out.mono (by omega))).mono Bl)⟩;rw[Gm.out,He.out];refine congrArg _ ?_
    push_cast
    omega
   case measure=>simp[intOf];omega
  ·obtain rfl:k=n:=by omega
   have Jg:=HN.out;rw[List.take_of_length_le (by rw[HN.out];exact le_refl _)]at lL⊢;have u1:wo.cell? ⟨w.heap.size,1,none⟩=some v1:=(Ac.out.cell (p:=⟨w.heap.size,1,none⟩) (by show w.heap.size<_;omega)).trans T1.out;have u2:wo.cell? ⟨w.heap.size,2,none⟩=some v2:=(Ac.out.cell (p:=⟨w.heap.size,2,none⟩) (by show w.heap.size<_;omega)).trans T2.out;have F7:=Hd (L6.out.trans (Ac.out.mono (by omega)))
   go_wp2_with fail
   have uO:Zao Zg6 tl≤62 *(520 *140737488351262):=le_trans lL (mul_le_mul_right _ E6);refine Ev.out _ _ ?_;exact Zahw (Zao Zg6 tl) w.heap.size tal tne v1 v2 wo _ uO (eJ.out.map F7.out fun _ _ h=>h.at) (Ew.out.map F7.out fun _ _ h=>h.at) Ec.out Hm.out u1 u2 (fun w' hb=>⟨rfl,F7.out.trans (hb.mono F7.out.size)⟩)
end Go.Proofs.YtmleeodfmmpdgaaGreatDoor
