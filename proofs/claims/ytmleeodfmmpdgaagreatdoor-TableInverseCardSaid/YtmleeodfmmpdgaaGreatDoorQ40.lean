/- part -/
import Derived.Test.YtmleeodfmmpdgaaGreatDoorQ38
set_option maxRecDepth 20000
set_option maxHeartbeats 8000000
namespace Go.Proofs.YtmleeodfmmpdgaaGreatDoor
open Go.RowKit
attribute [local go_sem] Ext.cell Ext.frozen
attribute [local go_sem ↓] Go.wp_at_zero Go.wp_at_succ
open _root_.List (getElem_mem)
open _root_.Nat (le_refl)
open _root_.Go.Proofs.Tryz
theorem Zagy (s:ByteArray)(W0:World)(b:Nat)(hb:W0.heap.size=b):
  Calls prog 95 #[.slice (some ⟨b,0,none⟩) 3 3,.string s] (W0.alloc (.cells #[.string ⟨#[]⟩,.string ⟨#[108,116,114]⟩,.string ⟨#[114,116,108]⟩] 9)) fun e w'=>e= .returned (.bool (dirU.contains s))∧Below W0.heap.size W0 w':=by
 subst hb;refine(Zfs _ 3 3 dirU s _ (Zjh W0 (Zae dirU) 9 (by decide))).mono ?_;rintro e _ ⟨rfl,rfl⟩;exact⟨rfl,(Below.refl _ _).alloc (le_refl _) _⟩
theorem Zv1 (x:Nat→Value)(y:Lc)(w:World)(h:LcC w x y)(hs:SmL y)(hU:TabU w):Calls prog 42 #[.agg #[x 0,x 1,x 2,x 3,x 4,x 5,x 6,x 7,x 8,x 9,x 10,x 11,x 12,x 13,x 14,x 15]] w fun e w'=>e= .returned (.bool (Zdo y))∧Below w.heap.size w w':=by
 have Vs:Hid (∀W0,Below w.heap.size w W0→∀b,W0.heap.size=b→Calls prog 45 #[.slice (some ⟨b,0,none⟩) 1 1] (W0.alloc (.cells #[.string (y.tag)] 9)) fun e w'=>e= .returned (.bool (Zb6 [y.tag]))∧Below W0.heap.size W0 w'):=fun W0 _ b hb=>Zfi 9 [y.tag] _ rfl (by simp) (fun s kZ=>hs.s7 s (by rw[List.mem_singleton.1 kZ];simp)) W0 b hb;have tX:Hid (∀W0,Below w.heap.size w W0→∀b,W0.heap.size=b→Calls prog 45 #[.slice (some ⟨b,0,none⟩) 1 1] (W0.alloc (.cells #[.string (y.par)] 9)) fun e w'=>e= .returned (.bool (Zb6 [y.par]))∧Below W0.heap.size W0 w'):=fun W0 _ b hb=>Zfi 9 [y.par] _ rfl (by simp) (fun s kZ=>hs.s7 s (by rw[List.mem_singleton.1 kZ];simp)) W0 b hb;have HD:=Hd (fun(W0:World) (b:Nat) (hb:W0.heap.size=b)=>Zagy y.dir W0 b hb);have Ms:Hid (∀W,Below w.heap.size w W→Calls prog 96 #[x 14] W fun e w'=>e= .returned (.bool (Zb2 y.months))∧Below W.heap.size W w'):=fun W hb=>Zkc (x 14) y.months W (h.c14.map hb fun _ _ h=>h) hs.mo.2 (hU.below hb);have Mt:Hid (∀W,Below w.heap.size w W→Calls prog 96 #[x 15] W fun e w'=>e= .returned (.bool (Zb2 y.days))∧Below W.heap.size W w'):=fun W hb=>Zkc (x 15) y.days W (h.c15.map hb fun _ _ h=>h) hs.da.2 (hU.below hb);have Dv:Hid (∀W,Below w.heap.size w W→Calls prog 97 #[x 3] W fun e w'=>e= .returned (.bool (Ze1 y.card))∧Below W.heap.size W w'):=fun W hb=>Zod (x 3) y.card W (h.c3.below hb) hs.ca.1 hs.ca.2;have kO:Hid (∀W,Below w.heap.size w W→Calls prog 97 #[x 4] W fun e w'=>e= .returned (.bool (Ze1 y.ord))∧Below W.heap.size W w'):=fun W hb=>Zod (x 4) y.ord W (h.c4.below hb) hs.od.1 hs.od.2;have R1:Hid (∀W,Below w.heap.size w W→Calls prog 98 #[.agg #[.string y.dec,.string y.grp,.string y.mi,.string y.pct,.int .i64 y.pri,.int .i64 y.sec]] W fun e w'=>e= .returned (.bool (Zg2 y))∧Below W.heap.size W w'):=fun W hb=>Zuf y W hs (Zha h.c9.2.1 h.c9.2.2) (Zha h.c10.2.1 h.c10.2.2) (hU.below hb);have F6:Hid (∀W,Below w.heap.size w W→Calls prog 99 #[.agg #[x 0,x 1,x 2,x 3,x 4,x 5,x 6,x 7,x 8,x 9,x 10,x 11,x 12,x 13,x 14,x 15]] W fun e w'=>e= .returned (.bool (Zhx y))∧Below W.heap.size W w'):=fun W hb=>Zre x y W (h.below hb) hs (hU.below hb);have HO:Hid (Zdo y=((Zb6 [y.tag]&&((decide (y.par= .empty)||Zb6 [y.par])&&dirU.contains y.dir))&&(((decide (y.months.length=0)||decide (y.months.length=12))&&((decide (y.days.length=0)||decide (y.days.length=7))&&(Zb2 y.months&&Zb2 y.days)))&&(Ze1 y.card&&(Ze1 y.ord&&(Zg2 y&&Zhx y)))))):=rfl;rw[HO.out];obtain⟨ad14,k14,Jd⟩:=RowsOf.shape h.c14;obtain⟨ad15,k15,Je⟩:=RowsOf.shape h.c15;have lA:y.months.length≤1000:=hs.mo.1;have lB:y.days.length≤1000:=hs.da.1;rw[Hid,Jd]at Ms;rw[Hid,Je]at Mt;replace Ms:=Hd Ms;replace Mt:=Hd Mt;rw[Hid,h.c0.1,h.c1.1,h.c2.1,h.c5.1,h.c6.1,h.c7.1,h.c8.1,h.c9.1,h.c10.1,Jd,Je]at F6;replace F6:=Hd F6;rw[h.c0.1,h.c1.1,h.c2.1,h.c5.1,h.c6.1,h.c7.1,h.c8.1,h.c9.1,h.c10.1,Jd,Je];clear h hs hU HO Jd Je;generalize Zb6 [y.tag]=p1 at *;generalize Zb6 [y.par]=p2 at *;generalize dirU.contains y.dir=p3 at *;generalize Zb2 y.months=p4 at *;generalize Zb2 y.days=p5 at *;generalize Ze1 y.card=p6 at *;generalize Ze1 y.ord=p7 at *;generalize Zg2 y=p8 at *;generalize Zhx y=p9 at *;generalize y.months.length=n14 at *;generalize y.days.length=n15 at *;generalize y.tag=a0 at *;generalize y.par=a1 at *;generalize y.dir=a2 at *;generalize y.dec=a5 at *;generalize y.grp=a6 at *;generalize y.mi=a7 at *;generalize y.pct=a8 at *;generalize y.pri=z9 at *;generalize y.sec=z10 at *;generalize x 3=y3 at *;generalize x 4=y4 at *;generalize x 11=y11 at *;generalize x 12=y12 at *;generalize x 13=y13 at *
 go_enter func42,ntmps42
 go_upto_region 1 with(fail)
 refine Zb5 ?_;intro wa B2;have HX:Hid (Cel wa w.heap.size 46 [.string a0,.string a1,.string a2,y3,y4,.string a5,.string a6,.string a7,.string a8,.int .i64 z9,.int .i64 z10,y11,y12,y13,.slice ad14 n14 k14,.slice ad15 n15 k15]):=by rw[B2];exact Cel.new w [.string a0,.string a1,.string a2,y3,y4,.string a5,.string a6,.string a7,.string a8,.int .i64 z9,.int .i64 z10,y11,y12,y13,.slice ad14 n14 k14,.slice ad15 n15 k15] 46
 have HB:Hid (Below w.heap.size w wa):=by rw[B2];exact(Below.refl _ _).alloc (le_refl _) _
 have hz:=HB.out.size;clear B2;have x0:=HX.out.cell 0;have x1:=HX.out.cell 1;have x2:=HX.out.cell 2;have Ap:=HX.out.lt;simp only[Le0,Le1]at x0 x1 x2
 go_cut [27] (fun p wx=>p= .bool (!(p1&&((decide (a1= .empty)||p2)&&p3)))∧Cel wx w.heap.size 46 [.string a0,.string a1,.string a2,y3,y4,.string a5,.string a6,.string a7,.string a8,.int .i64 z9,.int .i64 z10,y11,y12,y13,.slice ad14 n14 k14,.slice ad15 n15 k15]∧Below w.heap.size w wx)
 case first=>
  go_wp2_with fail
  refine(Vs.out _ HB.out _ (by first|rfl|simp)).mono ?_;rintro e w2 ⟨rfl,hb⟩;replace HX:=Hd (HX.out.below hb);replace HB:=Hd (HB.out.trans (hb.mono HB.out.size));clear hb Ap x0 x1 x2;have x0:=HX.out.cell 0;have x1:=HX.out.cell 1;have x2:=HX.out.cell 2;have Ap:=HX.out.lt;simp only[Le0,Le1]at x0 x1 x2;cases p1 with
  |false=>
   go_wp2_with fail
   go_meet
   exact⟨rfl,HX.out,HB.out⟩
  |true=>
   by_cases e0:a1= .empty
   ·have d_e0:=Zdk e0;have i_e0:=Zct e0;have l_e0:=List.isEmpty_iff.1 i_e0;have Md:=Hd e0;clear e0
    go_wp2_with fail
    refine(HD.out _ _ (by first|rfl|simp)).mono ?_;rintro e w4 ⟨rfl,hb⟩;replace HX:=Hd (HX.out.below hb);replace HB:=Hd (HB.out.trans (hb.mono HB.out.size));clear hb Ap x0 x1 x2;have x0:=HX.out.cell 0;have x1:=HX.out.cell 1;have x2:=HX.out.cell 2;have Ap:=HX.out.lt;simp only[Le0,Le1]at x0 x1 x2;cases p3 with
    |false=>
     go_wp2_with fail
     go_meet
     exact⟨by first|rfl|(simp[Md.out]),HX.out,HB.out⟩
    |true=>
     go_wp2_with fail
     go_meet
     exact⟨by first|rfl|(simp[Md.out]),HX.out,HB.out⟩
   ·have d_e0:=Zeb e0;have i_e0:=Zd4 e0;have l_e0:=List.isEmpty_eq_false_iff.1 i_e0;have Md:=Hd e0;clear e0
    go_wp2_with fail
    refine(tX.out _ HB.out _ (by first|rfl|simp)).mono ?_;rintro e w3 ⟨rfl,hb⟩;replace HX:=Hd (HX.out.below hb);replace HB:=Hd (HB.out.trans (hb.mono HB.out.size));clear hb Ap x0 x1 x2;have x0:=HX.out.cell 0;have x1:=HX.out.cell 1;have x2:=HX.out.cell 2;have Ap:=HX.out.lt;simp only[Le0,Le1]at x0 x1 x2;cases p2 with
    |false=>
     go_wp2_with fail
     go_meet
     exact⟨by first|rfl|(simp[Md.out]),HX.out,HB.out⟩
    |true=>
     go_wp2_with fail
     refine(HD.out _ _ (by first|rfl|simp)).mono ?_;rintro e w4 ⟨rfl,hb⟩;replace HX:=Hd (HX.out.below hb);replace HB:=Hd (HB.out.trans (hb.mono HB.out.size));clear hb Ap x0 x1 x2;have x0:=HX.out.cell 0;have x1:=HX.out.cell 1;have x2:=HX.out.cell 2;have Ap:=HX.out.lt;simp only[Le0,Le1]at x0 x1 x2;cases p3 with
     |false=>
      go_wp2_with fail
      go_meet
      exact⟨by first|rfl|(simp[Md.out]),HX.out,HB.out⟩
     |true=>
      go_wp2_with fail
      go_meet
      exact⟨by first|rfl|(simp[Md.out]),HX.out,HB.out⟩
 case rest=>
  clear Ap x0 x1 x2;obtain⟨rfl,hX,hB⟩:=hcut;replace HX:=Hd hX;replace HB:=Hd hB;have hz:=hB.size;clear hX hB;generalize hh:(p1&&((decide (a1= .empty)||p2)&&p3))=hd at *;have HH:=Hd hh;clear hh;cases hd with
  |false=>
   go_wp2_with fail
   go_ret;exact⟨by rw[HH.out];rfl,HB.out⟩
  |true=>
   go_upto_region 3 with(fail)
   have x14:=HX.out.cell 14;have x15:=HX.out.cell 15;have Ap:=HX.out.lt;simp only[Le0,Le1]at x14 x15
   go_cut [3] (fun p wx=>p= .bool (((decide (n14=0)||decide (n14=12))&&((decide (n15=0)||decide (n15=7))&&(p4&&p5))))∧Cel wx w.heap.size 46 [.string a0,.string a1,.string a2,y3,y4,.string a5,.string a6,.string a7,.string a8,.int .i64 z9,.int .i64 z10,y11,y12,y13,.slice ad14 n14 k14,.slice ad15 n15 k15]∧Below w.heap.size w wx)
   case first=>
    by_cases m0:n14=0
    ·have z1_m0:((n14:Int)==0)=true:=by rw[m0];rfl
     have z2_m0:decide ((n14:Int)=0)=true:=by rw[m0];rfl
     have Js:=Hd m0;clear m0
     by_cases s0:n15=0
     ·have z1_s0:((n15:Int)==0)=true:=by rw[s0];rfl
      have z2_s0:decide ((n15:Int)=0)=true:=by rw[s0];rfl
      have Fk:=Hd s0;clear s0
      go_wp2_with fail
      refine(Ms.out _ HB.out).mono ?_;rintro e w2 ⟨rfl,hb⟩;replace HX:=Hd (HX.out.below hb);replace HB:=Hd (HB.out.trans (hb.mono HB.out.size));clear hb Ap x14 x15;have x14:=HX.out.cell 14;have x15:=HX.out.cell 15;have Ap:=HX.out.lt;simp only[Le0,Le1]at x14 x15;cases p4 with
      |false=>
       go_wp2_with fail
       go_meet
       exact⟨by first|rfl|(simp[Js.out,Fk.out]),HX.out,HB.out⟩
      |true=>
       go_wp2_with fail
       refine(Mt.out _ HB.out).mono ?_;rintro e w3 ⟨rfl,hb⟩;replace HX:=Hd (HX.out.below hb);replace HB:=Hd (HB.out.trans (hb.mono HB.out.size));clear hb Ap x14 x15;have x14:=HX.out.cell 14;have x15:=HX.out.cell 15;have Ap:=HX.out.lt;simp only[Le0,Le1]at x14 x15;cases p5 with
       |false=>
        go_wp2_with fail
        go_meet
        exact⟨by first|rfl|(simp[Js.out,Fk.out]),HX.out,HB.out⟩
       |true=>
        go_wp2_with fail
        go_meet
        exact⟨by first|rfl|(simp[Js.out,Fk.out]),HX.out,HB.out⟩
     ·have z3_s0: ¬(n15:Int)=0:=by omega
      have z1_s0:((n15:Int)==0)=false:=beq_eq_false_iff_ne.2 z3_s0;have z2_s0:decide ((n15:Int)=0)=false:=decide_eq_false z3_s0;have Fk:=Hd s0;clear s0 z3_s0
      by_cases s7:n15=7
      ·have z1_s7:((n15:Int)==7)=true:=by rw[s7];rfl
       have z2_s7:decide ((n15:Int)=7)=true:=by rw[s7];rfl
       have Oj:=Hd s7;clear s7
       go_wp2_with fail
       refine(Ms.out _ HB.out).mono ?_;rintro e w2 ⟨rfl,hb⟩;replace HX:=Hd (HX.out.below hb);replace HB:=Hd (HB.out.trans (hb.mono HB.out.size));clear hb Ap x14 x15;have x14:=HX.out.cell 14;have x15:=HX.out.cell 15;have Ap:=HX.out.lt;simp only[Le0,Le1]at x14 x15;cases p4 with
       |false=>
        go_wp2_with fail
        go_meet
        exact⟨by first|rfl|(simp[Js.out,Oj.out]),HX.out,HB.out⟩
       |true=>
        go_wp2_with fail
        refine(Mt.out _ HB.out).mono ?_;rintro e w3 ⟨rfl,hb⟩;replace HX:=Hd (HX.out.below hb);replace HB:=Hd (HB.out.trans (hb.mono HB.out.size));clear hb Ap x14 x15;have x14:=HX.out.cell 14;have x15:=HX.out.cell 15;have Ap:=HX.out.lt;simp only[Le0,Le1]at x14 x15;cases p5 with
        |false=>
         go_wp2_with fail
         go_meet
         exact⟨by first|rfl|(simp[Js.out,Oj.out]),HX.out,HB.out⟩
        |true=>
         go_wp2_with fail
         go_meet
         exact⟨by first|rfl|(simp[Js.out,Oj.out]),HX.out,HB.out⟩
      ·have z3_s7: ¬(n15:Int)=7:=by omega
       have z1_s7:((n15:Int)==7)=false:=beq_eq_false_iff_ne.2 z3_s7;have z2_s7:decide ((n15:Int)=7)=false:=decide_eq_false z3_s7;have Oj:=Hd s7;clear s7 z3_s7
       go_wp2_with fail
       go_meet
       exact⟨by first|rfl|(simp[Js.out,Fk.out,Oj.out]),HX.out,HB.out⟩
    ·have z3_m0: ¬(n14:Int)=0:=by omega
     have z1_m0:((n14:Int)==0)=false:=beq_eq_false_iff_ne.2 z3_m0;have z2_m0:decide ((n14:Int)=0)=false:=decide_eq_false z3_m0;have Js:=Hd m0;clear m0 z3_m0
     by_cases m12:n14=12
     ·have z1_m12:((n14:Int)==12)=true:=by rw[m12];rfl
      have z2_m12:decide ((n14:Int)=12)=true:=by rw[m12];rfl
      have Hu:=Hd m12;clear m12
      by_cases s0:n15=0
      ·have z1_s0:((n15:Int)==0)=true:=by rw[s0];rfl
       have z2_s0:decide ((n15:Int)=0)=true:=by rw[s0];rfl
       have Fk:=Hd s0;clear s0
       go_wp2_with fail
       refine(Ms.out _ HB.out).mono ?_;rintro e w2 ⟨rfl,hb⟩;replace HX:=Hd (HX.out.below hb);replace HB:=Hd (HB.out.trans (hb.mono HB.out.size));clear hb Ap x14 x15;have x14:=HX.out.cell 14;have x15:=HX.out.cell 15;have Ap:=HX.out.lt;simp only[Le0,Le1]at x14 x15;cases p4 with
       |false=>
        go_wp2_with fail
        go_meet
        exact⟨by first|rfl|(simp[Hu.out,Fk.out]),HX.out,HB.out⟩
       |true=>
        go_wp2_with fail
        refine(Mt.out _ HB.out).mono ?_;rintro e w3 ⟨rfl,hb⟩;replace HX:=Hd (HX.out.below hb);replace HB:=Hd (HB.out.trans (hb.mono HB.out.size));clear hb Ap x14 x15;have x14:=HX.out.cell 14;have x15:=HX.out.cell 15;have Ap:=HX.out.lt;simp only[Le0,Le1]at x14 x15;cases p5 with
        |false=>
         go_wp2_with fail
         go_meet
         exact⟨by first|rfl|(simp[Hu.out,Fk.out]),HX.out,HB.out⟩
        |true=>
         go_wp2_with fail
         go_meet
         exact⟨by first|rfl|(simp[Hu.out,Fk.out]),HX.out,HB.out⟩
      ·have z3_s0: ¬(n15:Int)=0:=by omega
       have z1_s0:((n15:Int)==0)=false:=beq_eq_false_iff_ne.2 z3_s0;have z2_s0:decide ((n15:Int)=0)=false:=decide_eq_false z3_s0;have Fk:=Hd s0;clear s0 z3_s0
       by_cases s7:n15=7
       ·have z1_s7:((n15:Int)==7)=true:=by rw[s7];rfl
        have z2_s7:decide ((n15:Int)=7)=true:=by rw[s7];rfl
        have Oj:=Hd s7;clear s7
        go_wp2_with fail
        refine(Ms.out _ HB.out).mono ?_;rintro e w2 ⟨rfl,hb⟩;replace HX:=Hd (HX.out.below hb);replace HB:=Hd (HB.out.trans (hb.mono HB.out.size));clear hb Ap x14 x15;have x14:=HX.out.cell 14;have x15:=HX.out.cell 15;have Ap:=HX.out.lt;simp only[Le0,Le1]at x14 x15;cases p4 with
        |false=>
         go_wp2_with fail
         go_meet
         exact⟨by first|rfl|(simp[Hu.out,Oj.out]),HX.out,HB.out⟩
        |true=>
         go_wp2_with fail
         refine(Mt.out _ HB.out).mono ?_;rintro e w3 ⟨rfl,hb⟩;replace HX:=Hd (HX.out.below hb);replace HB:=Hd (HB.out.trans (hb.mono HB.out.size));clear hb Ap x14 x15;have x14:=HX.out.cell 14;have x15:=HX.out.cell 15;have Ap:=HX.out.lt;simp only[Le0,Le1]at x14 x15;cases p5 with
         |false=>
          go_wp2_with fail
          go_meet
          exact⟨by first|rfl|(simp[Hu.out,Oj.out]),HX.out,HB.out⟩
         |true=>
          go_wp2_with fail
          go_meet
          exact⟨by first|rfl|(simp[Hu.out,Oj.out]),HX.out,HB.out⟩
       ·have z3_s7: ¬(n15:Int)=7:=by omega
        have z1_s7:((n15:Int)==7)=false:=beq_eq_false_iff_ne.2 z3_s7;have z2_s7:decide ((n15:Int)=7)=false:=decide_eq_false z3_s7;have Oj:=Hd s7;clear s7 z3_s7
        go_wp2_with fail
        go_meet
        exact⟨by first|rfl|(simp[Hu.out,Fk.out,Oj.out]),HX.out,HB.out⟩
     ·have z3_m12: ¬(n14:Int)=12:=by omega
      have z1_m12:((n14:Int)==12)=false:=beq_eq_false_iff_ne.2 z3_m12;have z2_m12:decide ((n14:Int)=12)=false:=decide_eq_false z3_m12;have Hu:=Hd m12;clear m12 z3_m12
      go_wp2_with fail
      go_meet
      exact⟨by first|rfl|(simp[Js.out,Hu.out]),HX.out,HB.out⟩
   case rest=>
    clear Ap x14 x15;obtain⟨rfl,hX,hB⟩:=hcut;replace HX:=Hd hX;replace HB:=Hd hB;have hz:=hB.size;clear hX hB;generalize hn:((decide (n14=0)||decide (n14=12))&&((decide (n15=0)||decide (n15=7))&&(p4&&p5)))=nv at *;have HN:=Hd hn;clear hn;have x0:=HX.out.cell 0;have x1:=HX.out.cell 1;have x2:=HX.out.cell 2;have x3:=HX.out.cell 3;have x4:=HX.out.cell 4;have x5:=HX.out.cell 5;have x6:=HX.out.cell 6;have x7:=HX.out.cell 7;have x8:=HX.out.cell 8;have x9:=HX.out.cell 9;have x10:=HX.out.cell 10;have x11:=HX.out.cell 11;have x12:=HX.out.cell 12;have x13:=HX.out.cell 13;have x14:=HX.out.cell 14;have x15:=HX.out.cell 15;have Ap:=HX.out.lt;simp only[Le0,Le1]at x0 x1 x2 x3 x4 x5 x6 x7 x8 x9 x10 x11 x12 x13 x14 x15;cases nv with
    |false=>
     go_wp2_with fail
     go_ret;exact⟨by rw[HH.out,HN.out];rfl,HB.out⟩
    |true=>
     go_wp2_with fail
     refine(Dv.out _ HB.out).mono ?_;rintro e w2 ⟨rfl,hb⟩;replace HX:=Hd (HX.out.below hb);replace HB:=Hd (HB.out.trans (hb.mono HB.out.size));clear hb Ap x0 x1 x2 x3 x4 x5 x6 x7 x8 x9 x10 x11 x12 x13 x14 x15;have x0:=HX.out.cell 0;have x1:=HX.out.cell 1;have x2:=HX.out.cell 2;have x3:=HX.out.cell 3;have x4:=HX.out.cell 4;have x5:=HX.out.cell 5;have x6:=HX.out.cell 6;have x7:=HX.out.cell 7;have x8:=HX.out.cell 8;have x9:=HX.out.cell 9;have x10:=HX.out.cell 10;have x11:=HX.out.cell 11;have x12:=HX.out.cell 12;have x13:=HX.out.cell 13;have x14:=HX.out.cell 14;have x15:=HX.out.cell 15;have Ap:=HX.out.lt;simp only[Le0,Le1]at x0 x1 x2 x3 x4 x5 x6 x7 x8 x9 x10 x11 x12 x13 x14 x15;cases p6 with
     |false=>
      go_wp2_with fail
      go_ret;exact⟨by rw[HH.out,HN.out];first|rfl|simp,HB.out⟩
     |true=>
      go_wp2_with fail
      refine(kO.out _ HB.out).mono ?_;rintro e w3 ⟨rfl,hb⟩;replace HX:=Hd (HX.out.below hb);replace HB:=Hd (HB.out.trans (hb.mono HB.out.size));clear hb Ap x0 x1 x2 x3 x4 x5 x6 x7 x8 x9 x10 x11 x12 x13 x14 x15;have x0:=HX.out.cell 0;have x1:=HX.out.cell 1;have x2:=HX.out.cell 2;have x3:=HX.out.cell 3;have x4:=HX.out.cell 4;have x5:=HX.out.cell 5;have x6:=HX.out.cell 6;have x7:=HX.out.cell 7;have x8:=HX.out.cell 8;have x9:=HX.out.cell 9;have x10:=HX.out.cell 10;have x11:=HX.out.cell 11;have x12:=HX.out.cell 12;have x13:=HX.out.cell 13;have x14:=HX.out.cell 14;have x15:=HX.out.cell 15;have Ap:=HX.out.lt;simp only[Le0,Le1]at x0 x1 x2 x3 x4 x5 x6 x7 x8 x9 x10 x11 x12 x13 x14 x15;cases p7 with
      |false=>
       go_wp2_with fail
       go_ret;exact⟨by rw[HH.out,HN.out];first|rfl|simp,HB.out⟩
      |true=>
       go_wp2_with fail
       refine(R1.out _ HB.out).mono ?_;rintro e w4 ⟨rfl,hb⟩;replace HX:=Hd (HX.out.below hb);replace HB:=Hd (HB.out.trans (hb.mono HB.out.size));clear hb Ap x0 x1 x2 x3 x4 x5 x6 x7 x8 x9 x10 x11 x12 x13 x14 x15;have x0:=HX.out.cell 0;have x1:=HX.out.cell 1;have x2:=HX.out.cell 2;have x3:=HX.out.cell 3;have x4:=HX.out.cell 4;have x5:=HX.out.cell 5;have x6:=HX.out.cell 6;have x7:=HX.out.cell 7;have x8:=HX.out.cell 8;have x9:=HX.out.cell 9;have x10:=HX.out.cell 10;have x11:=HX.out.cell 11;have x12:=HX.out.cell 12;have x13:=HX.out.cell 13;have x14:=HX.out.cell 14;have x15:=HX.out.cell 15;have Ap:=HX.out.lt;simp only[Le0,Le1]at x0 x1 x2 x3 x4 x5 x6 x7 x8 x9 x10 x11 x12 x13 x14 x15;cases p8 with
       |false=>
        go_wp2_with fail
        go_ret;exact⟨by rw[HH.out,HN.out];first|rfl|simp,HB.out⟩
       |true=>
        go_wp2_with fail
        refine(F6.out _ HB.out).mono ?_;rintro e w5 ⟨rfl,hb⟩;replace HX:=Hd (HX.out.below hb);replace HB:=Hd (HB.out.trans (hb.mono HB.out.size));clear hb Ap x0 x1 x2 x3 x4 x5 x6 x7 x8 x9 x10 x11 x12 x13 x14 x15;have x0:=HX.out.cell 0;have x1:=HX.out.cell 1;have x2:=HX.out.cell 2;have x3:=HX.out.cell 3;have x4:=HX.out.cell 4;have x5:=HX.out.cell 5;have x6:=HX.out.cell 6;have x7:=HX.out.cell 7;have x8:=HX.out.cell 8;have x9:=HX.out.cell 9;have x10:=HX.out.cell 10;have x11:=HX.out.cell 11;have x12:=HX.out.cell 12;have x13:=HX.out.cell 13;have x14:=HX.out.cell 14;have x15:=HX.out.cell 15;have Ap:=HX.out.lt;simp only[Le0,Le1]at x0 x1 x2 x3 x4 x5 x6 x7 x8 x9 x10 x11 x12 x13 x14 x15;cases p9 with
        |false=>
         go_wp2_with fail
         go_ret;exact⟨by rw[HH.out,HN.out];first|rfl|simp,HB.out⟩
        |true=>
         go_wp2_with fail
         go_ret;exact⟨by rw[HH.out,HN.out];first|rfl|simp,HB.out⟩
structure SmT (t:Tb):Prop where
 lo:t.locs.length≤1000∧∀y∈t.locs,SmL y
 al:t.als.length≤1000∧∀x∈t.als,∀s∈[x.fro,x.dst],s.size≤200000
 ne:t.near.length≤1000∧∀x∈t.near,∀s∈[x.fro,x.dst],s.size≤200000
theorem Zabr (x:Nat→Value)(y:Al)(w:World)(h:AlC w x y)(hz:∀s∈[y.fro,y.dst],s.size≤200000):Calls prog 44 #[.agg #[x 0,x 1]] w fun e w'=>e= .returned (.bool (Zfy y))∧Below w.heap.size w w':=by
 have HO:Hid (Zfy y=Zb6 [y.fro,y.dst]):=rfl;have HW:Hid (∀W0,Below w.heap.size w W0→∀b,W0.heap.size=b→Calls prog 45 #[.slice (some ⟨b,0,none⟩) 2 2] (W0.alloc (.cells #[.string (y.fro),.string (y.dst)] 9)) fun e w'=>e= .returned (.bool (Zb6 [y.fro,y.dst]))∧Below W0.heap.size W0 w'):=fun W0 _ b hb=>Zfi 9 [y.fro,y.dst] _ rfl (by simp) hz W0 b hb;rw[HO.out,h.c0.1,h.c1.1];clear h hz HO;generalize Zb6 [y.fro,y.dst]=p at *;generalize y.fro=a0 at *;generalize y.dst=a1 at *
 go_enter func44,ntmps44
 go_upto_region 1 with(fail)
 refine Zb5 ?_;intro wa B2;have HX:Hid (Cel wa w.heap.size 61 [.string a0,.string a1]):=by rw[B2];exact Cel.new w [.string a0,.string a1] 61
 have HB:Hid (Below w.heap.size w wa):=by rw[B2];exact(Below.refl _ _).alloc (le_refl _) _
 have hz:=HB.out.size;clear B2;have x0:=HX.out.cell 0;have x1:=HX.out.cell 1;have Ap:=HX.out.lt;simp only[Le0,Le1]at x0 x1
 go_wp2_with fail
 refine(HW.out _ HB.out _ (by first|rfl|simp)).mono ?_;rintro e w2 ⟨rfl,hb⟩;replace HX:=Hd (HX.out.below hb);replace HB:=Hd (HB.out.trans (hb.mono HB.out.size));clear hb Ap x0 x1;have x0:=HX.out.cell 0;have x1:=HX.out.cell 1;have Ap:=HX.out.lt;simp only[Le0,Le1]at x0 x1;cases p with
 |false=>
  go_wp2_with fail
  go_ret;exact⟨by first|rfl|(simp[];done)|(simp[];intros;omega),HB.out⟩
 |true=>
  go_wp2_with fail
  go_ret;exact⟨by first|rfl|(simp[];done)|(simp[];intros;omega),HB.out⟩
theorem Zaes (x:Nat→Value)(y:Ne)(w:World)(h:NeC w x y)(hz:∀s∈[y.fro,y.dst],s.size≤200000):Calls prog 47 #[.agg #[x 0,x 1,x 2]] w fun e w'=>e= .returned (.bool (Zee y))∧Below w.heap.size w w':=by
 have HO:Hid (Zee y=(Zb6 [y.fro,y.dst]&&(decide (0≤y.cost)&&decide (y.cost≤1000)))):=rfl;have HW:Hid (∀W0,Below w.heap.size w W0→∀b,W0.heap.size=b→Calls prog 45 #[.slice (some ⟨b,0,none⟩) 2 2] (W0.alloc (.cells #[.string (y.fro),.string (y.dst)] 9)) fun e w'=>e= .returned (.bool (Zb6 [y.fro,y.dst]))∧Below W0.heap.size W0 w'):=fun W0 _ b hb=>Zfi 9 [y.fro,y.dst] _ rfl (by simp) hz W0 b hb;rw[HO.out,h.c0.1,h.c1.1,h.c2.1];clear h hz HO;generalize Zb6 [y.fro,y.dst]=p at *;generalize y.fro=a0 at *;generalize y.dst=a1 at *;generalize y.cost=z at *
 go_enter func47,ntmps47
 go_upto_region 1 with(fail)
 refine Zb5 ?_;intro wa B2;have HX:Hid (Cel wa w.heap.size 58 [.string a0,.string a1,.int .i64 z]):=by rw[B2];exact Cel.new w [.string a0,.string a1,.int .i64 z] 58
 have HB:Hid (Below w.heap.size w wa):=by rw[B2];exact(Below.refl _ _).alloc (le_refl _) _
 have hz:=HB.out.size;clear B2;have x0:=HX.out.cell 0;have x1:=HX.out.cell 1;have x2:=HX.out.cell 2;have Ap:=HX.out.lt;simp only[Le0,Le1]at x0 x1 x2
 go_wp2_with fail
 refine(HW.out _ HB.out _ (by first|rfl|simp)).mono ?_;rintro e w2 ⟨rfl,hb⟩;replace HX:=Hd (HX.out.below hb);replace HB:=Hd (HB.out.trans (hb.mono HB.out.size));clear hb Ap x0 x1 x2;have x0:=HX.out.cell 0;have x1:=HX.out.cell 1;have x2:=HX.out.cell 2;have Ap:=HX.out.lt;simp only[Le0,Le1]at x0 x1 x2;cases p with
 |false=>
  go_wp2_with fail
  go_ret;exact⟨by first|rfl|(simp[];done)|(simp[];intros;omega),HB.out⟩
 |true=>
  by_cases g1:0≤z
  ·have d_g1:=decide_eq_true g1
   by_cases g2:z≤1000
   ·have d_g2:=decide_eq_true g2
    go_wp2_with fail
    go_ret;exact⟨by first|rfl|(simp[g1,g2];done)|(simp[g1,g2];intros;omega),HB.out⟩
   ·have d_g2:=decide_eq_false g2
    go_wp2_with fail
    go_ret;exact⟨by first|rfl|(simp[g1,g2];done)|(simp[g1,g2];intros;omega),HB.out⟩
  ·have d_g1:=decide_eq_false g1
   go_wp2_with fail
   go_ret;exact⟨by first|rfl|(simp;done)|(simp;intros;omega),HB.out⟩
theorem Zakb (v:Value)(l:List Al)(w:World)(h:RowsOf 2 AlC w v l)(hz:∀x∈l,∀s∈[x.fro,x.dst],s.size≤200000):
  Calls prog 43 #[v,.func (.func 44) #[] #[]] w fun e w'=>e= .returned (.bool (l.all Zfy))∧Below w.heap.size w w':=by
 obtain⟨ad,c,f,b,off,rfl,hr,_,_,_,hf⟩:=h.opn;rw[←Zf0 Zfy l default];refine Zacr (fun i=>Zfy (l.getD i default)) 44 (enters_of func44 (by kernel_rfl) rfl) ad l.length c f b off w hr (fun W i hi hb=>?_)
 ·rw[Zde l i _ hi];exact Zabr (f i) l[i] W (hf i hi).at (hz _ (getElem_mem hi))
theorem Zais (v:Value)(l:List Ne)(w:World)(h:RowsOf 3 NeC w v l)(hz:∀x∈l,∀s∈[x.fro,x.dst],s.size≤200000):
  Calls prog 46 #[v,.func (.func 47) #[] #[]] w fun e w'=>e= .returned (.bool (l.all Zee))∧Below w.heap.size w w':=by
 obtain⟨ad,c,f,b,off,rfl,hr,_,_,_,hf⟩:=h.opn;rw[←Zf0 Zee l default];refine Zaed (fun i=>Zee (l.getD i default)) 47 (enters_of func47 (by kernel_rfl) rfl) ad l.length c f b off w hr (fun W i hi hb=>?_)
 ·rw[Zde l i _ hi];exact Zaes (f i) l[i] W (hf i hi).at (hz _ (getElem_mem hi))
theorem Zajl (v:Value)(l:List Lc)(w:World)(h:RowsOf 16 LcC w v l)(hz:∀y∈l,SmL y)(hU:TabU w):
  Calls prog 41 #[v,.func (.func 42) #[] #[]] w fun e w'=>e= .returned (.bool (l.all Zdo))∧Below w.heap.size w w':=by
 obtain⟨ad,c,f,b,off,rfl,hr,_,_,_,hf⟩:=h.opn;rw[←Zf0 Zdo l default];refine Zade (fun i=>Zdo (l.getD i default)) 42 (enters_of func42 (by kernel_rfl) rfl) ad l.length c f b off w hr (fun W i hi hb=>?_)
 ·rw[Zde l i _ hi];exact Zv1 (f i) l[i] W ((hf i hi).below hb) (hz _ (getElem_mem hi)) (hU.below hb)
theorem Zwf (x:Nat→Value)(t:Tb)(w:World)(h:TbC w x t)(hs:SmT t)(hU:TabU w):Calls prog 20 #[.agg #[x 0,x 1,x 2]] w fun e w'=>e= .returned (.bool (Zec t))∧Below w.heap.size w w':=by
 have Md:Hid (∀W,Below w.heap.size w W→Calls prog 41 #[x 0,.func (.func 42) #[] #[]] W fun e w'=>e= .returned (.bool (t.locs.all Zdo))∧Below W.heap.size W w'):=fun W hb=>Zajl (x 0) t.locs W (h.below hb).c0 hs.lo.2 (hU.below hb);have W7:Hid (∀W,Below w.heap.size w W→Calls prog 43 #[x 1,.func (.func 44) #[] #[]] W fun e w'=>e= .returned (.bool (t.als.all Zfy))∧Below W.heap.size W w'):=fun W hb=>Zakb (x 1) t.als W (h.below hb).c1 hs.al.2;have Jh:Hid (∀W,Below w.heap.size w W→Calls prog 46 #[x 2,.func (.func 47) #[] #[]] W fun e w'=>e= .returned (.bool (t.near.all Zee))∧Below W.heap.size W w'):=fun W hb=>Zais (x 2) t.near W (h.below hb).c2 hs.ne.2;have HO:Hid (Zec t=(!decide ((60:Int)<(t.locs.length:Int))&&(!decide ((200:Int)<(t.als.length:Int))&&(!decide ((200:Int)<(t.near.length:Int))&&(t.locs.all Zdo&&(t.als.all Zfy&&t.near.all Zee)))))):=by
  rw[←Zi6 t.locs.length 60 60 rfl,←Zi6 t.als.length 200 200 rfl,←Zi6 t.near.length 200 200 rfl];rfl
 rw[HO.out];obtain⟨ad0,k0,F5⟩:=RowsOf.shape h.c0;obtain⟨ad1,k1,Pa⟩:=RowsOf.shape h.c1;obtain⟨ad2,k2,Gt⟩:=RowsOf.shape h.c2;have Df:t.locs.length≤1000:=hs.lo.1;have pF:t.als.length≤1000:=hs.al.1;have Tj:t.near.length≤1000:=hs.ne.1;rw[Hid,F5]at Md;rw[Hid,Pa]at W7;rw[Hid,Gt]at Jh;replace Md:=Hd Md;replace W7:=Hd W7;replace Jh:=Hd Jh;rw[F5,Pa,Gt];clear h hs hU HO F5 Pa Gt;generalize t.locs.all Zdo=q0 at *;generalize t.als.all Zfy=q1 at *;generalize t.near.all Zee=q2 at *;generalize t.locs.length=n0 at *;generalize t.als.length=n1 at *;generalize t.near.length=n2 at *
 go_enter func20,ntmps20
 go_upto_region 1 with(fail)
 refine Zb5 ?_;intro wa B2;have HX:Hid (Cel wa w.heap.size 27 [.slice ad0 n0 k0,.slice ad1 n1 k1,.slice ad2 n2 k2]):=by rw[B2];exact Cel.new w [.slice ad0 n0 k0,.slice ad1 n1 k1,.slice ad2 n2 k2] 27
 have HB:Hid (Below w.heap.size w wa):=by rw[B2];exact(Below.refl _ _).alloc (le_refl _) _
 have hz:=HB.out.size;clear B2;have x0:=HX.out.cell 0;have x1:=HX.out.cell 1;have x2:=HX.out.cell 2;have Ap:=HX.out.lt;simp only[Le0,Le1]at x0 x1 x2
 by_cases g1:(60:Int)<(n0:Int)
 ·have d_g1:=decide_eq_true g1
  go_wp2_with fail
  go_ret;exact⟨by first|rfl|(simp[g1];done)|(simp[g1];intros;omega),HB.out⟩
 ·have d_g1:=decide_eq_false g1
  by_cases g2:(200:Int)<(n1:Int)
  ·have d_g2:=decide_eq_true g2
   go_wp2_with fail
   go_ret;exact⟨by first|rfl|(simp[g1,g2];done)|(simp[g1,g2];intros;omega),HB.out⟩
  ·have d_g2:=decide_eq_false g2
   by_cases g3:(200:Int)<(n2:Int)
   ·have d_g3:=decide_eq_true g3
    go_wp2_with fail
    go_ret;exact⟨by first|rfl|(simp[g1,g2,g3];done)|(simp[g1,g2,g3];intros;omega),HB.out⟩
   ·have d_g3:=decide_eq_false g3
    go_wp2_with fail
    refine(Md.out _ HB.out).mono ?_;rintro e w2 ⟨rfl,hb⟩;replace HX:=Hd (HX.out.below hb);replace HB:=Hd (HB.out.trans (hb.mono HB.out.size));clear hb Ap x0 x1 x2;have x0:=HX.out.cell 0;have x1:=HX.out.cell 1;have x2:=HX.out.cell 2;have Ap:=HX.out.lt;simp only[Le0,Le1]at x0 x1 x2;cases q0 with
    |false=>
     go_wp2_with fail
     go_ret;exact⟨by first|rfl|(simp;done)|(simp[g1,g2,g3];intros;omega),HB.out⟩
    |true=>
     go_wp2_with fail
     refine(W7.out _ HB.out).mono ?_;rintro e w3 ⟨rfl,hb⟩;replace HX:=Hd (HX.out.below hb);replace HB:=Hd (HB.out.trans (hb.mono HB.out.size));clear hb Ap x0 x1 x2;have x0:=HX.out.cell 0;have x1:=HX.out.cell 1;have x2:=HX.out.cell 2;have Ap:=HX.out.lt;simp only[Le0,Le1]at x0 x1 x2;cases q1 with
     |false=>
      go_wp2_with fail
      go_ret;exact⟨by first|rfl|(simp;done)|(simp[g1,g2,g3];intros;omega),HB.out⟩
     |true=>
      go_wp2_with fail
      refine(Jh.out _ HB.out).mono ?_;rintro e w4 ⟨rfl,hb⟩;replace HX:=Hd (HX.out.below hb);replace HB:=Hd (HB.out.trans (hb.mono HB.out.size));clear hb Ap x0 x1 x2;have x0:=HX.out.cell 0;have x1:=HX.out.cell 1;have x2:=HX.out.cell 2;have Ap:=HX.out.lt;simp only[Le0,Le1]at x0 x1 x2;cases q2 with
      |false=>
       go_wp2_with fail
       go_ret;exact⟨by first|rfl|(simp;done)|(simp[g1,g2,g3];intros;omega),HB.out⟩
      |true=>
       go_wp2_with fail
       go_ret;exact⟨by first|rfl|(simp[g1,g2,g3];done)|(simp[g1,g2,g3];intros;omega),HB.out⟩
end Go.Proofs.YtmleeodfmmpdgaaGreatDoor
