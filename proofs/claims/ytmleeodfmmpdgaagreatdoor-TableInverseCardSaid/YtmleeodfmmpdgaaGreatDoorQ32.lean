/- part -/
import Derived.Test.YtmleeodfmmpdgaaGreatDoorQ24
set_option maxRecDepth 20000
set_option maxHeartbeats 8000000
namespace Go.Proofs.YtmleeodfmmpdgaaGreatDoor
open Go.RowKit
attribute [local go_sem] Ext.cell Ext.frozen
attribute [local go_sem ↓] Go.wp_at_zero Go.wp_at_succ
open _root_.List (length_map length_range)
open _root_.Nat (le_refl zero_le)
open _root_.Go.Proofs.Tryz
theorem Zh8 {r:Rel} (h: ¬(1≤r.sp.length∧r.sp.length≤4)):Zac r=false:=by
 rw[←Bool.not_eq_true];unfold Zac;simp only[Bool.and_eq_true,decide_eq_true_eq];omega
theorem Zny {r:Rel} (h: ¬(1≤r.op∧r.op≤6)):Zac r=false:=by
 rw[←Bool.not_eq_true];unfold Zac;simp only[Bool.and_eq_true,decide_eq_true_eq];omega
theorem Zwy {r:Rel} (h:r.md≠0)(h2:Zdf r.op r.md=false):Zac r=false:=by
 rw[←Bool.not_eq_true];unfold Zac;simp[h,h2]
theorem Zo3 {r:Rel} {k:Nat} (hk:k<r.sp.length)(h:Zaz r.op (r.sp.getD k (0,0))=false):Zac r=false:=by
 unfold Zac;rw[Zw6 (0,0) hk h,Bool.and_false]
theorem Zmv {r:Rel} (h1:1≤r.op∧r.op≤6)(h2:r.md=0∨Zdf r.op r.md=true)(h3:1≤r.sp.length∧r.sp.length≤4)(h:∀i,i<r.sp.length→Zaz r.op (r.sp.getD i (0,0))=true):Zac r=true:=by
 unfold Zac;rw[Zsi (0,0) h];simp[h1,h2,h3]
theorem Zor {op a b:Int} (h:a<0):Zaz op (a,b)=false:=by
 rw[←Bool.not_eq_true];unfold Zaz;simp only[Bool.and_eq_true,decide_eq_true_eq];omega
theorem Zp4 {op a b:Int} (h:b<a):Zaz op (a,b)=false:=by
 rw[←Bool.not_eq_true];unfold Zaz;simp only[Bool.and_eq_true,decide_eq_true_eq];omega
theorem Znr {op a b:Int} (h:Zbe op<b):Zaz op (a,b)=false:=by
 rw[←Bool.not_eq_true];unfold Zaz;simp only[Bool.and_eq_true,decide_eq_true_eq];omega
theorem Zox {op a b:Int} (h1: ¬a<0)(h2: ¬b<a)(h3: ¬Zbe op<b):Zaz op (a,b)=true:=by
 unfold Zaz;simp only[Bool.and_eq_true,decide_eq_true_eq];omega
theorem Zxb (x:Nat→Value)(r:Rel)(w:World)(h:RelC w x r):Calls prog 202 #[.agg #[x 0,x 1,x 2,x 3]] w fun e w'=>e= .returned (.bool (Zac r))∧Below w.heap.size w w':=by
 obtain⟨x0,x1,x2,ad,c,f,b,off,x3,hr,_,_,Ah,hf⟩:=h;rw[x0,x1,x2,x3];clear x0 x1 x2 x3;obtain⟨op,md,neg,sp⟩:=r;simp only at hr hf Ah⊢;obtain⟨n,hn⟩:∃n,sp.length=n:=⟨_,rfl⟩;rw[hn]at hr Ah⊢;have HN:=Hd hn;have HR:=Hd hr;have HF:=Hd hf;have HP:=Hd (fun w1=>Zs0 op md w1);have HG:Hid (∀(w1:World) (m1:Nat),Calls prog 253 #[.int .i64 op] (w1.drewN m1) fun e w2=>e= .returned (.int .i64 (Zbe op))∧∃m,w2=w1.drewN m):=fun w1 m1=>Calls.quiet_of_same ((Zlk op _).mono fun _ _ h=>⟨h.1,h.2.symm⟩);clear hr hf hn
 by_cases h1:op<1
 ·have HO:Hid (Zac ⟨op,md,neg,sp⟩=false):=Zny (by simp only;omega);generalize Zac ⟨op,md,neg,sp⟩=q at *
  go_enter func202,ntmps202
  go_wp2_with fail
  all_goals
   go_wp2_with fail
   go_ret;exact⟨by rw[HO.out];rfl,(Below.refl _ _).alloc (le_refl _) _⟩
 by_cases h2:6<op
 ·have HO:Hid (Zac ⟨op,md,neg,sp⟩=false):=Zny (by simp only;omega);generalize Zac ⟨op,md,neg,sp⟩=q at *
  go_enter func202,ntmps202
  go_wp2_with fail
  all_goals
   go_wp2_with fail
   go_ret;exact⟨by rw[HO.out];rfl,(Below.refl _ _).alloc (le_refl _) _⟩
 have cZ:Hid (1≤op∧op≤6):=⟨by omega,by omega⟩
 by_cases h3:md=0
 ·subst h3
  by_cases h4:n<1
  ·have HO:Hid (Zac ⟨op,0,neg,sp⟩=false):=Zh8 (by simp only;rw[HN.out];omega);generalize Zac ⟨op,0,neg,sp⟩=q at *;have h5:(n:Int)<1:=by omega
   go_enter func202,ntmps202
   go_wp2_with fail
   all_goals
    go_wp2_with fail
    go_ret;exact⟨by rw[HO.out];rfl,(Below.refl _ _).alloc (le_refl _) _⟩
  by_cases h6:4<n
  ·have HO:Hid (Zac ⟨op,0,neg,sp⟩=false):=Zh8 (by simp only;rw[HN.out];omega);generalize Zac ⟨op,0,neg,sp⟩=q at *;have h5: ¬(n:Int)<1:=by omega
   have h7:4<(n:Int):=by omega
   go_enter func202,ntmps202
   go_wp2_with fail
   all_goals
    go_wp2_with fail
    go_ret;exact⟨by rw[HO.out];rfl,(Below.refl _ _).alloc (le_refl _) _⟩
  have h5: ¬(n:Int)<1:=by omega
  have h7: ¬4<(n:Int):=by omega
  obtain⟨q,hq⟩:∃q,Zac ⟨op,0,neg,sp⟩=q:=⟨_,rfl⟩;rw[hq];have Y5:=Hd hq;clear hq
  go_enter func202,ntmps202
  go_wp2_with fail
  all_goals
   refine Zm7 ?_;intro wb Jw;have Fp:wb.cell? ⟨w.heap.size,0,none⟩=some (.int .i64 op):=by rw[Jw];simp[go_sem]
   have Ax:wb.cell? ⟨w.heap.size,3,none⟩=some (.slice ad n c):=by rw[Jw];simp[go_sem]
   have L6:Hid (Below w.heap.size w wb):=by rw[Jw];exact(Below.refl _ _).alloc (le_refl _) _
   have G6:w.heap.size<wb.heap.size:=World.block_lt_of_cell? _ _ Fp;clear Jw;have B0:=Hd Fp;have B3:=Hd Ax;have Hi:=Hd (HR.out.below L6.out)
   go_wp2_with fail
   go_loopw [41] (fun v wr=>∃k:Nat,v= .int .i64 (k:Int)∧k≤n∧(∀i,i<k→Zaz op (sp.getD i (0,0))=true)∧Below wb.heap.size wb wr) (fun v _=>n -(intOf v).toNat)
   case atStart=>exact⟨0,rfl,zero_le _,fun i hi=>absurd hi (Nat.not_lt_zero _),Below.refl _ _⟩
   case round=>
    obtain⟨k,rfl,Co,Cn,Ak⟩:=hrel;have B9:=Hd Cn;have Ac:=Hd Ak;have Bl:=Ak.size;have sL:w.heap.size<wr.heap.size:=by omega
    have Qa:=Hd (L6.out.trans (Ak.mono L6.out.size));have r0:wr.cell? ⟨w.heap.size,0,none⟩=some (.int .i64 op):=(Ak.cell (p:=⟨w.heap.size,0,none⟩) G6).trans B0.out;clear Cn Ak
    by_cases Aa:k<n
    ·have A4:=Hi.out.below Ac.out;have Ci:=fun W=>A4.ix 92 152 underlying92 (by kernel_rfl) (by omega) Aa c W;have c0:wr.cell? ⟨b,off+k *2,none⟩=some (f k 0):=A4.cell k 0 Aa (by omega);have c1:wr.cell? ⟨b,off+k *2+1,none⟩=some (f k 1):=A4.cell k 1 Aa (by omega);obtain⟨f0,f1⟩:=RowsOf.get HF.out (i:=k) (by rw[HN.out];exact Aa) (0,0);rw[f0]at c0;rw[f1]at c1;have Cj:Hid (Zaz op (sp.getD k (0,0))=false→q=false):=fun h=>Y5.out.symm.trans (Zo3 (by simp only;rw[HN.out];exact Aa) h);have Cm:Hid (Zaz op (sp.getD k (0,0))=true→∀i,i<k+1→Zaz op (sp.getD i (0,0))=true):=fun h i hi=>by
      by_cases e:i=k
      ·subst e;exact h
      ·exact B9.out i (by omega)
     clear A4 f0 f1;generalize sp.getD k (0,0)=s at *;obtain⟨a,z⟩:=s;simp only at c0 c1
     by_cases q1:a<0
     ·have HQ:=Hd (Cj.out (Zor (by assumption)));clear Cj Cm;generalize Zbe op=g at *;have d1:=decide_eq_true q1
      go_wp2_with fail
      go_quiet ((go_at_call 253;exact HG.out _ _))
      all_goals
       go_wp2_with fail
       go_ret;exact⟨by rw[HQ.out];rfl,by show Bel w _;repeat (first|exact Bel.refl _|exact Qa.out|refine Bel.drew ?_|refine Bel.drewN ?_ _|refine Bel.alloc ?_ _|refine Bel.ext ?_ _)⟩
     by_cases q2:z<a
     ·have HQ:=Hd (Cj.out (Zp4 (by assumption)));clear Cj Cm;generalize Zbe op=g at *;have d1:=decide_eq_false q1;have d2:=decide_eq_true q2
      go_wp2_with fail
      go_quiet ((go_at_call 253;exact HG.out _ _))
      all_goals
       go_wp2_with fail
       go_ret;exact⟨by rw[HQ.out];rfl,by show Bel w _;repeat (first|exact Bel.refl _|exact Qa.out|refine Bel.drew ?_|refine Bel.drewN ?_ _|refine Bel.alloc ?_ _|refine Bel.ext ?_ _)⟩
     by_cases q3:Zbe op<z
     ·have HQ:=Hd (Cj.out (Znr (by assumption)));clear Cj Cm;generalize Zbe op=g at *;have d1:=decide_eq_false q1;have d2:=decide_eq_false q2;have d3:=decide_eq_true q3
      go_wp2_with fail
      go_quiet ((go_at_call 253;exact HG.out _ _))
      all_goals
       go_wp2_with fail
       go_ret;exact⟨by rw[HQ.out];rfl,by show Bel w _;repeat (first|exact Bel.refl _|exact Qa.out|refine Bel.drew ?_|refine Bel.drewN ?_ _|refine Bel.alloc ?_ _|refine Bel.ext ?_ _)⟩
     have HQ:=Hd (Cm.out (Zox q1 q2 q3));clear Cj Cm;generalize Zbe op=g at *;have d1:=decide_eq_false q1;have d2:=decide_eq_false q2;have d3:=decide_eq_false q3
     go_wp2_with fail
     go_quiet ((go_at_call 253;exact HG.out _ _))
     all_goals
      go_wp2_with fail
      go_roundw
      case rel=>exact⟨k+1,by go_num,by omega,HQ.out,Ac.out.trans (Below.mono (w:=wr) (by show Bel wr _;repeat (first|exact Bel.refl _|refine Bel.drew ?_|refine Bel.drewN ?_ _|refine Bel.alloc ?_ _|refine Bel.ext ?_ _)) Bl)⟩
      case measure=>simp[intOf];omega
    ·obtain rfl:k=n:=by omega
     have HO:Hid (q=true):=Y5.out.symm.trans (Zmv cZ.out (.inl rfl) (by simp only;rw[HN.out];omega) (by simp only;rw[HN.out];exact B9.out))
     go_wp2_with fail
     go_ret;exact⟨by rw[HO.out];rfl,Qa.out⟩
 ·have wE:(md !=0)=true:=by simpa using h3
  have sM:=Hd h3;clear h3;cases hp:Zdf op md with
  |false=>
   have HO:Hid (Zac ⟨op,md,neg,sp⟩=false):=Zwy sM.out hp;generalize Zac ⟨op,md,neg,sp⟩=q at *;rw[hp]at HP;clear hp
   go_enter func202,ntmps202
   go_wp2_with (go_at_call 252;refine(HP.out _).mono ?_;rintro e w2 ⟨rfl,Ag⟩;have k0:w2.cell? ⟨w.heap.size,0,none⟩=some (.int .i64 op):=(by rw[Ag.cell (p:=⟨w.heap.size,0,none⟩) (by simp)];simp[go_sem]);have k3:w2.cell? ⟨w.heap.size,3,none⟩=some (.slice ad n c):=(by rw[Ag.cell (p:=⟨w.heap.size,3,none⟩) (by simp)];simp[go_sem]);have Ai:Hid (Below w.heap.size w w2):=((Below.refl _ _).alloc (le_refl _) _).trans (Ag.mono (by simp));clear Ag)
   all_goals
    go_wp2_with fail
    go_ret;exact⟨by rw[HO.out];rfl,Ai.out⟩
  |true=>
   have Pe:=Hd hp;rw[hp]at HP;clear hp
   by_cases h4:n<1
   ·have HO:Hid (Zac ⟨op,md,neg,sp⟩=false):=Zh8 (by simp only;rw[HN.out];omega);generalize Zac ⟨op,md,neg,sp⟩=q at *;have h5:(n:Int)<1:=by omega
    go_enter func202,ntmps202
    go_wp2_with (go_at_call 252;refine(HP.out _).mono ?_;rintro e w2 ⟨rfl,Ag⟩;have k0:w2.cell? ⟨w.heap.size,0,none⟩=some (.int .i64 op):=(by rw[Ag.cell (p:=⟨w.heap.size,0,none⟩) (by simp)];simp[go_sem]);have k3:w2.cell? ⟨w.heap.size,3,none⟩=some (.slice ad n c):=(by rw[Ag.cell (p:=⟨w.heap.size,3,none⟩) (by simp)];simp[go_sem]);have Ai:Hid (Below w.heap.size w w2):=((Below.refl _ _).alloc (le_refl _) _).trans (Ag.mono (by simp));clear Ag)
    all_goals
     go_wp2_with fail
     go_ret;exact⟨by rw[HO.out];rfl,Ai.out⟩
   by_cases h6:4<n
   ·have HO:Hid (Zac ⟨op,md,neg,sp⟩=false):=Zh8 (by simp only;rw[HN.out];omega);generalize Zac ⟨op,md,neg,sp⟩=q at *;have h5: ¬(n:Int)<1:=by omega
    have h7:4<(n:Int):=by omega
    go_enter func202,ntmps202
    go_wp2_with (go_at_call 252;refine(HP.out _).mono ?_;rintro e w2 ⟨rfl,Ag⟩;have k0:w2.cell? ⟨w.heap.size,0,none⟩=some (.int .i64 op):=(by rw[Ag.cell (p:=⟨w.heap.size,0,none⟩) (by simp)];simp[go_sem]);have k3:w2.cell? ⟨w.heap.size,3,none⟩=some (.slice ad n c):=(by rw[Ag.cell (p:=⟨w.heap.size,3,none⟩) (by simp)];simp[go_sem]);have Ai:Hid (Below w.heap.size w w2):=((Below.refl _ _).alloc (le_refl _) _).trans (Ag.mono (by simp));clear Ag)
    all_goals
     go_wp2_with fail
     go_ret;exact⟨by rw[HO.out];rfl,Ai.out⟩
   have h5: ¬(n:Int)<1:=by omega
   have h7: ¬4<(n:Int):=by omega
   obtain⟨q,hq⟩:∃q,Zac ⟨op,md,neg,sp⟩=q:=⟨_,rfl⟩;rw[hq];have Y5:=Hd hq;clear hq
   go_enter func202,ntmps202
   go_wp2_with (go_at_call 252;refine(HP.out _).mono ?_;rintro e w2 ⟨rfl,Ag⟩;have k0:w2.cell? ⟨w.heap.size,0,none⟩=some (.int .i64 op):=(by rw[Ag.cell (p:=⟨w.heap.size,0,none⟩) (by simp)];simp[go_sem]);have k3:w2.cell? ⟨w.heap.size,3,none⟩=some (.slice ad n c):=(by rw[Ag.cell (p:=⟨w.heap.size,3,none⟩) (by simp)];simp[go_sem]);have Ai:Hid (Below w.heap.size w w2):=((Below.refl _ _).alloc (le_refl _) _).trans (Ag.mono (by simp));clear Ag)
   all_goals
    refine Zm7 ?_;intro wb Jw;have Fp:wb.cell? ⟨w.heap.size,0,none⟩=some (.int .i64 op):=by rw[Jw];exact k0
    have Ax:wb.cell? ⟨w.heap.size,3,none⟩=some (.slice ad n c):=by rw[Jw];exact k3
    have L6:Hid (Below w.heap.size w wb):=by rw[Jw];exact Ai.out
    have G6:w.heap.size<wb.heap.size:=World.block_lt_of_cell? _ _ Fp;clear Jw;have B0:=Hd Fp;have B3:=Hd Ax;have Hi:=Hd (HR.out.below L6.out)
    go_wp2_with fail
    go_loopw [41] (fun v wr=>∃k:Nat,v= .int .i64 (k:Int)∧k≤n∧(∀i,i<k→Zaz op (sp.getD i (0,0))=true)∧Below wb.heap.size wb wr) (fun v _=>n -(intOf v).toNat)
    case atStart=>exact⟨0,rfl,zero_le _,fun i hi=>absurd hi (Nat.not_lt_zero _),Below.refl _ _⟩
    case round=>
     obtain⟨k,rfl,Co,Cn,Ak⟩:=hrel;have B9:=Hd Cn;have Ac:=Hd Ak;have Bl:=Ak.size;have sL:w.heap.size<wr.heap.size:=by omega
     have Qa:=Hd (L6.out.trans (Ak.mono L6.out.size));have r0:wr.cell? ⟨w.heap.size,0,none⟩=some (.int .i64 op):=(Ak.cell (p:=⟨w.heap.size,0,none⟩) G6).trans B0.out;clear Cn Ak
     by_cases Aa:k<n
     ·have A4:=Hi.out.below Ac.out;have Ci:=fun W=>A4.ix 92 152 underlying92 (by kernel_rfl) (by omega) Aa c W;have c0:wr.cell? ⟨b,off+k *2,none⟩=some (f k 0):=A4.cell k 0 Aa (by omega);have c1:wr.cell? ⟨b,off+k *2+1,none⟩=some (f k 1):=A4.cell k 1 Aa (by omega);obtain⟨f0,f1⟩:=RowsOf.get HF.out (i:=k) (by rw[HN.out];exact Aa) (0,0);rw[f0]at c0;rw[f1]at c1;have Cj:Hid (Zaz op (sp.getD k (0,0))=false→q=false):=fun h=>Y5.out.symm.trans (Zo3 (by simp only;rw[HN.out];exact Aa) h);have Cm:Hid (Zaz op (sp.getD k (0,0))=true→∀i,i<k+1→Zaz op (sp.getD i (0,0))=true):=fun h i hi=>by
       by_cases e:i=k
       ·subst e;exact h
       ·exact B9.out i (by omega)
      clear A4 f0 f1;generalize sp.getD k (0,0)=s at *;obtain⟨a,z⟩:=s;simp only at c0 c1
      by_cases q1:a<0
      ·have HQ:=Hd (Cj.out (Zor (by assumption)));clear Cj Cm;generalize Zbe op=g at *;have d1:=decide_eq_true q1
       go_wp2_with fail
       go_quiet ((go_at_call 253;exact HG.out _ _))
       all_goals
        go_wp2_with fail
        go_ret;exact⟨by rw[HQ.out];rfl,by show Bel w _;repeat (first|exact Bel.refl _|exact Qa.out|refine Bel.drew ?_|refine Bel.drewN ?_ _|refine Bel.alloc ?_ _|refine Bel.ext ?_ _)⟩
      by_cases q2:z<a
      ·have HQ:=Hd (Cj.out (Zp4 (by assumption)));clear Cj Cm;generalize Zbe op=g at *;have d1:=decide_eq_false q1;have d2:=decide_eq_true q2
       go_wp2_with fail
       go_quiet ((go_at_call 253;exact HG.out _ _))
       all_goals
        go_wp2_with fail
        go_ret;exact⟨by rw[HQ.out];rfl,by show Bel w _;repeat (first|exact Bel.refl _|exact Qa.out|refine Bel.drew ?_|refine Bel.drewN ?_ _|refine Bel.alloc ?_ _|refine Bel.ext ?_ _)⟩
      by_cases q3:Zbe op<z
      ·have HQ:=Hd (Cj.out (Znr (by assumption)));clear Cj Cm;generalize Zbe op=g at *;have d1:=decide_eq_false q1;have d2:=decide_eq_false q2;have d3:=decide_eq_true q3
       go_wp2_with fail
       go_quiet ((go_at_call 253;exact HG.out _ _))
       all_goals
        go_wp2_with fail
        go_ret;exact⟨by rw[HQ.out];rfl,by show Bel w _;repeat (first|exact Bel.refl _|exact Qa.out|refine Bel.drew ?_|refine Bel.drewN ?_ _|refine Bel.alloc ?_ _|refine Bel.ext ?_ _)⟩
      have HQ:=Hd (Cm.out (Zox q1 q2 q3));clear Cj Cm;generalize Zbe op=g at *;have d1:=decide_eq_false q1;have d2:=decide_eq_false q2;have d3:=decide_eq_false q3
      go_wp2_with fail
      go_quiet ((go_at_call 253;exact HG.out _ _))
      all_goals
       go_wp2_with fail
       go_roundw
       case rel=>exact⟨k+1,by go_num,by omega,HQ.out,Ac.out.trans (Below.mono (w:=wr) (by show Bel wr _;repeat (first|exact Bel.refl _|refine Bel.drew ?_|refine Bel.drewN ?_ _|refine Bel.alloc ?_ _|refine Bel.ext ?_ _)) Bl)⟩
       case measure=>simp[intOf];omega
     ·obtain rfl:k=n:=by omega
      have HO:Hid (q=true):=Y5.out.symm.trans (Zmv cZ.out (.inr Pe.out) (by simp only;rw[HN.out];omega) (by simp only;rw[HN.out];exact B9.out))
      go_wp2_with fail
      go_ret;exact⟨by rw[HO.out];rfl,Qa.out⟩
theorem Zuz (x:Nat→Value)(r:Rel)(w:World)(h:RelC w x r):Calls prog 201 #[.agg #[x 0,x 1,x 2,x 3]] w fun e w'=>e= .returned (.bool (!Zac r))∧Below w.heap.size w w':=by
 have HP:Hid (∀W,Below w.heap.size w W→Calls prog 202 #[.agg #[x 0,x 1,x 2,x 3]] W fun e w'=>e= .returned (.bool (Zac r))∧Below W.heap.size W w'):=fun W hb=>Zxb x r W (h.below hb);clear h;generalize Zac r=q at *;generalize x 0=x0 at *;generalize x 1=x1 at *;generalize x 2=x2 at *;generalize x 3=x3 at *
 go_enter func201,ntmps201
 go_wp2_with fail
 refine(HP.out _ ((Below.refl _ _).alloc (le_refl _) _)).mono ?_;rintro e w' ⟨rfl,hb⟩;have HB:Hid (Below w.heap.size w w'):=((Below.refl _ _).alloc (le_refl _) _).trans (hb.mono (by simp));clear hb
 go_wp2_with fail
 go_ret;exact⟨by cases q <;> rfl,HB.out⟩
theorem Zmk {α:Type} (q:α→Bool)(l:List α):(l.any fun r=> !q r)= !l.all q:=by
 induction l with
 |nil=>rfl
 |cons a l ih=>simp only[List.any_cons,List.all_cons,ih,Bool.not_and]
theorem Zaer (v:Value)(l:List Rel)(w:World)(h:RowsOf 4 RelC w v l):Calls prog 200 #[v,.func (.func 201) #[] #[]] w fun e w'=>e= .returned (.bool (!l.all Zac))∧Below w.heap.size w w':=by
 obtain⟨ad,c,f,b,off,rfl,hr,_,_,_,hf⟩:=h;have:=Zabs (fun i=> !Zac (l.getD i ⟨0,0,false,[]⟩)) 201 #[] (enters_of func201 (by kernel_rfl) rfl) ad l.length c f b off w hr (fun W i hi hb=>by
  have h1:=RowsOf.get hf hi ⟨0,0,false,[]⟩;exact Zuz (f i) _ W (h1.below hb))
 rw[Zhf (fun r=> !Zac r),Zmk]at this;exact this
theorem Zafr {c:List (List Rel)} {M:Nat} (h:∀l∈c,l.length≤M):Zbf c≤c.length *M:=by
 induction c with
 |nil=>exact zero_le _
 |cons a c ih=>
  have h1:=h a (List.mem_cons_self ..);have h2:=ih fun l hl=>h l (List.mem_cons_of_mem _ hl);have:Zbf (a::c)=a.length+Zbf c:=by simp[Zbf]
  rw[this,List.length_cons,Nat.succ_mul];omega
theorem Zow (v:Value)(l:List (List Rel))(w:World)(h:CondAt w v l)(hl:l.length≤30):Calls prog 152 #[v] w fun e w'=>e= .returned (.bool (Zbw l))∧Below w.heap.size w w':=by
 obtain⟨ad,c,f,b,off,rfl,hr,_,_,_,hf⟩:=h;obtain⟨n,hn⟩:∃n,l.length=n:=⟨_,rfl⟩;rw[hn]at hr hl⊢;have Ki:∀k,k≤n→Zbf (l.take k)≤30 *140737488351232:=fun k hk=>by
  have h1:=Zafr (c:=l.take k) (M:=140737488351232) fun x hx=>by
   obtain⟨i,hi⟩:=List.getElem?_of_mem (List.mem_of_mem_take hx);obtain⟨_,_,_,_,_,_,_,_,_,h5,_⟩:=hf i x hi;exact h5
  rw[List.length_take]at h1;exact Nat.le_trans h1 (Nat.mul_le_mul_right _ (by omega))
 have HN:=Hd hn;have HR:=Hd hr;have HF:=Hd hf;have sN:=Hd Ki;clear hr hf hn Ki;obtain⟨q,hq⟩:∃q,Zbw l=q:=⟨_,rfl⟩;rw[hq];have HQ:=Hd hq;clear hq
 go_enter func152,ntmps152
 go_wp2_with fail
 go_loopw [3,8] (fun u v wr=>∃k:Nat,v= .int .i64 (k:Int)∧k≤n∧u= .int .i64 (Zbf (l.take k):Nat)∧(∀i,i<k→Zc0 (l.getD i [])=true)∧Below w.heap.size w wr) (fun _ v _=>n -(intOf v).toNat)
 case atStart=>exact⟨0,rfl,zero_le _,rfl,fun i hi=>absurd hi (Nat.not_lt_zero _),Below.refl _ _⟩
 case round=>
  obtain⟨k,rfl,Co,rfl,Cn,Ak⟩:=hrel;have B9:=Hd Cn;have Ac:=Hd Ak;clear Cn Ak
  by_cases Aa:k<n
  ·have A4:=HR.out.below Ac.out;have Ci:=fun W=>A4.ix 48 91 underlying48 (by kernel_rfl) (by omega) Aa c W;rw[Nat.mul_one]at Ci;have c0:wr.cell? ⟨b,off+k *1,none⟩=some (f k 0):=A4.cell k 0 Aa (by omega);rw[Nat.mul_one]at c0;have Pc:k<l.length:=by rw[HN.out];exact Aa
   have HL:Hid (RowsOf 4 RelC wr (f k 0) (l.getD k [])):=(RowsOf.get HF.out Pc []).below Ac.out;have iR:=sN.out (k+1) Aa;rw[Zqk Pc]at iR;have D5:Hid (Zbf (l.take (k+1))=Zbf (l.take k)+(l.getD k []).length):=Zqk Pc;have Cj:Hid (Zc0 (l.getD k [])=false→q=false):=fun h=>HQ.out.symm.trans (Zzc Pc h);have Cm:Hid (Zc0 (l.getD k [])=true→∀i,i<k+1→Zc0 (l.getD i [])=true):=fun h i hi=>by
    by_cases e:i=k
    ·subst e;exact h
    ·exact B9.out i (by omega)
   clear A4 Pc;generalize l.getD k []=ls at *;have HC:=Hd (Zaer (f k 0) ls wr HL.out);obtain⟨ad2,c2,f2,b2,off2,Gt,_,_,_,_,_⟩:=HL.out;rw[Gt]at c0;rw[Hid,Gt]at HC;have HC:=Hd HC;clear Gt HL;generalize Zbf (l.take k)=s at *
   by_cases h0:ls.length=0
   ·have HO:=Hd (Cj.out (by unfold Zc0;rw[List.length_eq_zero_iff.1 h0];rfl));rw[h0]at c0;clear Cj Cm
    go_wp2_with fail
    go_ret;exact⟨by rw[HO.out];rfl,Ac.out⟩
   ·have h1: ¬((ls.length:Int)=0):=by omega
    have HE:Hid (Zc0 ls=ls.all Zac):=by
     unfold Hid Zc0;cases ls with
     |nil=>exact absurd rfl h0
     |cons a r=>rfl
    rw[Hid,HE.out]at Cj Cm;have Cj:=Hd Cj;have Cm:=Hd Cm;generalize ls.length=m at *;cases hp:ls.all Zac with
    |false=>
     have HO:=Hd (Cj.out hp);rw[Hid,hp]at HC;have HC:=Hd HC;clear Cj Cm HE hp
     go_wp2_with fail
     refine HC.out.mono ?_;rintro e w' ⟨rfl,hb⟩;have Ai:=Hd (Ac.out.trans (hb.mono Ac.out.size));clear hb
     go_wp2_with fail
     go_ret;exact⟨by rw[HO.out];rfl,Ai.out⟩
    |true=>
     have HO:=Hd (Cm.out hp);rw[Hid,hp]at HC;have HC:=Hd HC;clear Cj Cm HE hp
     go_wp2_with fail
     refine HC.out.mono ?_;rintro e w' ⟨rfl,hb⟩;have Ai:=Hd (Ac.out.trans (hb.mono Ac.out.size));clear hb
     go_wp2_with fail
     go_roundw
     case rel=>exact⟨k+1,by go_num,by omega,by rw[D5.out];go_num,HO.out,Ai.out⟩
     case measure=>simp[intOf];omega
  ·obtain rfl:k=n:=by omega
   have HE:Hid (q=(decide (0<k)&&decide (Zbf l≤6))):=HQ.out.symm.trans (by rw[←HN.out];exact Zx6 (by rw[HN.out];exact B9.out));have HT:Hid (Zbf (l.take k)=Zbf l):=by unfold Hid;rw[←HN.out,List.take_length]
   rw[HT.out];generalize Zbf l=s at *
   by_cases p1:0<k
   ·have p2:0<(k:Int):=by omega
    go_wp2_with fail
    go_ret;exact⟨by rw[HE.out,decide_eq_true p1];simp;omega,Ac.out⟩
   ·have p2: ¬0<(k:Int):=by omega
    go_wp2_with fail
    go_ret;exact⟨by rw[HE.out,decide_eq_false p1];rfl,Ac.out⟩
open Go.RowKit Go.Maps
def Zjz {α:Type} [DecidableEq α]:List α→Nat
 |[]=>0
 |a::l=>Zjz l+if a∈l then 0 else 1
def Zf2 {α:Type} [DecidableEq α] (l:List α):Nat:=Zjz l.reverse
theorem Zwj {α:Type} [DecidableEq α] (l:List α)(a:α):Zf2 (l++[a])=Zf2 l+if a∈l then 0 else 1:=by
 simp[Zf2,Zjz]
theorem Zn3 {α:Type} [DecidableEq α]:∀l:List α,Zjz l≤l.length∧(Zjz l=l.length↔l.Nodup)
 |[]=>⟨le_refl _,by simp[Zjz]⟩
 |a::l=>by
  obtain⟨h1,h2⟩:=Zn3 l;rw[List.nodup_cons,List.length_cons];unfold Zjz
  by_cases h:a∈l
  ·rw[if_pos h];exact⟨by omega,fun e=>by omega,fun e=>absurd h e.1⟩
  ·rw[if_neg h];exact⟨by omega,fun e=>⟨h,h2.1 (by omega)⟩,fun e=>by rw[h2.2 e.2]⟩
theorem Zhc {α:Type} [DecidableEq α] (l:List α):Zf2 l=l.length↔l.Nodup:=by
 have:=(Zn3 l.reverse).2;rw[List.length_reverse]at this;refine this.trans ?_;unfold List.Nodup;rw[List.pairwise_reverse];exact⟨fun h=>h.imp Ne.symm,fun h=>h.imp Ne.symm⟩
theorem Zkf {α:Type} [DecidableEq α] (l:List α):Zf2 l≤l.length:=by
 have:=(Zn3 l.reverse).1
 rwa [List.length_reverse]at this
theorem Zs6:Keyed prog 9:=string_keyed underlying9
theorem Zsy {s:ByteArray} (hs:s.size≤maxLen):keyOf prog 9 (.string s)=some (.string s.data.toList):=WideMaps.keyOf_string_mk underlying9 hs
theorem Zxk:prog.cellsOf 193=2:=by kernel_rfl
theorem arrPair:WideMaps.ArrKey prog 193 9 2:=⟨underlying193,by kernel_rfl,by kernel_rfl,Zxk⟩
theorem Zacu:laidOutB prog=true:=by kernel_rfl
theorem Zagm:Keyed prog 193:=Keyed.of_law (deep_law_laid Zacu (m:=2) (by omega) (of_decide_eq_true (by kernel_rfl)) (by kernel_rfl) (by rw[underlying193]))
theorem Zpy:∃m,prog.types.size=m+1:=⟨prog.types.size - 1,by kernel_rfl⟩
theorem Zagx {a b:ByteArray} (ha:a.size≤maxLen)(hb:b.size≤maxLen):keyOf prog 193 (.agg #[.string a,.string b])=some (.string (keyBytes [.string a.data.toList,.string b.data.toList])):=by
 have sO:=arrPair.keyType Zpy;obtain⟨m,hm⟩:=Zpy;unfold keyOf;simp only[arrPair.hu];rw[if_pos (by simp[sO,Value.formed,arrPair.hu,arrPair.size]),hm];unfold Program.keyLits;simp only[arrPair.hu,Value.cells];rw[if_pos (by rw[arrPair.size];rfl),show List.range 2=[0,1]from rfl,List.mapM_cons,List.mapM_cons,List.mapM_nil];simp[arrPair.one,Program.keyLits,underlying9,ha,hb]
def SetK (T:TypeId) {α:Type} [DecidableEq α] (kv:α→Value)(w:World)(M n:Nat)(ks:List α):Prop:=
 ∃D:DataW Unit,w.ownsMap prog T (plainElem prog 4) M n D∧(∀a kl,keyOf prog T (kv a)=some kl→has D kl=decide (a∈ks))∧Maps.size D=Zf2 ks
section
variable {T : TypeId} {α : Type} [DecidableEq α] {kv : α → Value} {w w' : World} {M n : Nat} {ks : List α}
theorem SetK.made (T:TypeId)(kv:α→Value)(w:World):SetK T kv (w.alloc (.map #[] 0)) w.heap.size 0 []:=
 ⟨.map [],World.ownsMap_made _ _ _ _,fun a kl _=>by simp[has],rfl⟩
theorem SetK.lt (h:SetK T kv w M n ks):M<w.heap.size:=by obtain⟨D,h,_⟩:=h;exact h.lt
theorem SetK.same (h:SetK T kv w M n ks)(hb:w'.heap[M]? =w.heap[M]?):SetK T kv w' M n ks:=by
 obtain⟨D,⟨es,clock,h1,h2⟩,h3⟩:=h;exact⟨D,⟨es,clock,hb.trans h1,h2⟩,h3⟩
theorem SetK.below (h:SetK T kv w M n ks)(hb:Below w.heap.size w w'):SetK T kv w' M n ks:=h.same (hb.block _ h.lt)
theorem SetK.len (h:SetK T kv w M n ks) {MT:TypeId} (ht:prog.underlying MT=some (.map T 4))(ty:TypeId):(Builtin.len_ #[MT] ty #[.map (some M)]).run prog w= .ok (.int .i64 (Zf2 ks:Nat)) w:=by
 obtain⟨D,h1,_,h4⟩:=h;rw[←h4];exact h1.len ht ty
theorem SetK.put (h:SetK T kv w M n ks) {MT:TypeId} (ht:prog.underlying MT=some (.map T 4))(K:Keyed prog T)(iS:∀a b,kv a=kv b→a=b)(a:α) {kl:Lit} (hk:keyOf prog T (kv a)=some kl)(hn:n<maxLen):
  ∃w',(Instr.mapUpdate MT (.map (some M)) (kv a) (.bool true)).run prog w= .ok () w'∧SetK T kv w' M (n+1) (ks++[a])∧w.grownBy w' (some M):=by
 obtain⟨D,h1,h3,h4⟩:=h;have oE:=h1.tidy K;obtain⟨w',Dz,Ab,hg⟩:=h1.update K ht hn hk (plainElem_bool underlying4 true);refine⟨w',Dz,⟨_,Ab,fun b kl' hb=>?_,?_⟩,hg⟩
 ·by_cases e:b=a
  ·subst e;obtain rfl:=Option.some.inj (hb.symm.trans hk);rw[has_put_same oE.isMap (K.key hk),decide_eq_true (List.mem_append_right _ (List.mem_singleton.2 rfl))]
  ·rw[has_put_other (fun e'=>by rw[e']at hb;exact e (iS _ _ (K.inj hb hk))),h3 b kl' hb];simp[e]
 ·rw[size_put oE,h3 a kl hk,Zwj,h4]
  by_cases e:a∈ks <;> simp[e]
end
def kvP (p:ByteArray×ByteArray):Value:= .agg #[.string p.1,.string p.2]
theorem Zafm (a b:ByteArray×ByteArray)(h:kvP a=kvP b):a=b:=by
 simp only[kvP,Value.agg.injEq,Array.mk.injEq,List.cons.injEq,Value.string.injEq,and_true]at h;exact Prod.ext h.1 h.2
theorem Zpd (a b:ByteArray)(h:Value.string a=Value.string b):a=b:=by injection h
theorem Zhq {α:Type} (ks:Nat→α)(k:Nat):(List.range (k+1)).map ks=(List.range k).map ks++[ks k]:=by simp[List.range_succ]
theorem Zv5 (a0:Nat→ByteArray)(ad:Option Addr)(n c:Nat)(f:Nat→Nat→Value)(b off:Nat)(w:World)(hr:Rw w ad n 2 f b off)(hn:n≤1000000)
  (hv:∀i,i<n→f i 0= .string (a0 i)∧∃r0 r1 r2,f i 1= .slice r0 r1 r2) (B6:∀i,i<n→(a0 i).size≤140737488351232):
  Calls prog 147 #[.slice ad n c,.func (.func 148) #[] #[]] w fun e w'=>e= .returned (.bool (decide (((List.range n).map a0).Nodup)))∧Below w.heap.size w w':=by
 have HR:=Hd hr;have HV:=Hd hv;have C6:=Hd B6;have HP:=Hd @Zn8;have HE:Hid (decide (((List.range n).map a0).Nodup)=(((Zf2 ((List.range n).map a0):Nat):Int)==(n:Int))):=by
  have:=Zhc ((List.range n).map a0);rw[length_map,length_range]at this;rw[Hid,Bool.eq_iff_iff,decide_eq_true_eq,beq_iff_eq,←this];omega
 rw[HE.out];clear hr hv B6 HE;have eg:=enters_of func148 (by kernel_rfl) rfl;have Ou:= @run_makeMap prog
 go_enter func147,ntmps147
 go_wp2_with fail
 have C4:=Hd (SetK.made 9 Value.string w);have Ay:Hid (Below w.heap.size w (w.alloc (.map #[] 0))):=(Below.refl _ _).alloc (le_refl _) _;generalize w.alloc (.map #[] 0)=w1 at *
 go_loopw [11] (fun u wr=>∃k:Nat,u= .int .i64 (k:Int)∧k≤n∧SetK 9 Value.string wr w.heap.size k ((List.range k).map a0)∧Below w.heap.size w wr) (fun u _=>n -(intOf u).toNat)
 case atStart=>exact⟨0,rfl,zero_le _,C4.out,Ay.out⟩
 case round=>
  obtain⟨k,rfl,Co,N6,Ak⟩:=hrel;have He:=Hd N6;have Ac:=Hd Ak;clear N6 Ak C4 Ay
  by_cases Aa:k<n
  ·have Au:=Hd (HR.out.below Ac.out);obtain⟨v0,r0,r1,r2,v1⟩:=HV.out k Aa;have Ci:=fun W=>Au.out.ix 38 51 underlying38 (by kernel_rfl) (by omega) Aa c W;have c0:wr.cell? ⟨b,off+k *2,none⟩=some (f k 0):=Au.out.cell k 0 Aa (by omega);rw[v0]at c0;have c1:wr.cell? ⟨b,off+k *2+1,none⟩=some (f k 1):=Au.out.cell k 1 Aa (by omega);rw[v1]at c1;have Af:=Hd (HP.out (a0 k) r0 r1 r2);have Fc:=Hd (Zsy (s:=a0 k) (by have:=C6.out k Aa;unfold maxLen;omega));have N7:=Hd (Zhq a0 k);have dN:=Ac.out.size;clear Au v0 v1
   go_wp2_with fail
   refine(Af.out _).mono ?_;rintro e w2 ⟨rfl,Ag⟩;replace Ag:=((Below.refl wr.heap.size wr).alloc (le_refl _) _).trans (Ag.mono (by simp));have Ai:=Hd (Ac.out.trans (Ag.mono Ac.out.size));obtain⟨w5,Qb,Er,hg⟩:=(He.out.below Ag).put underlying234 Zs6 Zpd (a0 k) Fc.out (by unfold maxLen;omega);have Kj:=N7.out
   try simp only at Kj
   rw[←Kj]at Er;have Kl:=Hd Er;have L7:Hid (Below w.heap.size w w5):=Ai.out.grown hg Ai.out.size (fun j hj=>by injection hj with hj;omega);clear Er hg Ag He N7 Kj Fc Af
   go_wp2_with fail
   go_roundw
   case rel=>exact⟨k+1,by go_num,by omega,Kl.out,L7.out⟩
   case measure=>simp[intOf];omega
  ·obtain rfl:k=n:=by omega
   have Ah:=fun ty=>He.out.len underlying234 ty;have F1:=Zkf ((List.range k).map a0);rw[length_map,length_range]at F1;generalize hd:Zf2 ((List.range k).map a0)=d at *;have HD:=Hd hd;clear hd
   go_wp2_with fail
   go_ret;exact⟨by rw[HD.out];rfl,Ac.out⟩
theorem Zzv (a0 a1 a2 a3 a4:Nat→ByteArray)(ad:Option Addr)(n c:Nat)(f:Nat→Nat→Value)(b off:Nat)(w:World)(hr:Rw w ad n 5 f b off)(hn:n≤1000000)
  (hv:∀i,i<n→f i 0= .string (a0 i)∧f i 1= .string (a1 i)∧f i 2= .string (a2 i)∧f i 3= .string (a3 i)∧f i 4= .string (a4 i)) (B6:∀i,i<n→(a0 i).size≤1000000):
  Calls prog 153 #[.slice ad n c,.func (.func 154) #[] #[]] w fun e w'=>e= .returned (.bool (decide (((List.range n).map a0).Nodup)))∧Below w.heap.size w w':=by
 have HR:=Hd hr;have HV:=Hd hv;have C6:=Hd B6;have HP:=Hd @Zsa;have HE:Hid (decide (((List.range n).map a0).Nodup)=(((Zf2 ((List.range n).map a0):Nat):Int)==(n:Int))):=by
  have:=Zhc ((List.range n).map a0);rw[length_map,length_range]at this;rw[Hid,Bool.eq_iff_iff,decide_eq_true_eq,beq_iff_eq,←this];omega
 rw[HE.out];clear hr hv B6 HE;have eg:=enters_of func154 (by kernel_rfl) rfl;have Ou:= @run_makeMap prog
 go_enter func153,ntmps153
 go_wp2_with fail
 have C4:=Hd (SetK.made 9 Value.string w);have Ay:Hid (Below w.heap.size w (w.alloc (.map #[] 0))):=(Below.refl _ _).alloc (le_refl _) _;generalize w.alloc (.map #[] 0)=w1 at *
 go_loopw [11] (fun u wr=>∃k:Nat,u= .int .i64 (k:Int)∧k≤n∧SetK 9 Value.string wr w.heap.size k ((List.range k).map a0)∧Below w.heap.size w wr) (fun u _=>n -(intOf u).toNat)
 case atStart=>exact⟨0,rfl,zero_le _,C4.out,Ay.out⟩
 case round=>
  obtain⟨k,rfl,Co,N6,Ak⟩:=hrel;have He:=Hd N6;have Ac:=Hd Ak;clear N6 Ak C4 Ay
  by_cases Aa:k<n
  ·have Au:=Hd (HR.out.below Ac.out);obtain⟨v0,v1,v2,v3,v4⟩:=HV.out k Aa;have Ci:=fun W=>Au.out.ix 41 130 underlying41 (by kernel_rfl) (by omega) Aa c W;have c0:wr.cell? ⟨b,off+k *5,none⟩=some (f k 0):=Au.out.cell k 0 Aa (by omega);rw[v0]at c0;have c1:wr.cell? ⟨b,off+k *5+1,none⟩=some (f k 1):=Au.out.cell k 1 Aa (by omega);rw[v1]at c1;have c2:wr.cell? ⟨b,off+k *5+2,none⟩=some (f k 2):=Au.out.cell k 2 Aa (by omega);rw[v2]at c2;have c3:wr.cell? ⟨b,off+k *5+3,none⟩=some (f k 3):=Au.out.cell k 3 Aa (by omega);rw[v3]at c3;have c4:wr.cell? ⟨b,off+k *5+4,none⟩=some (f k 4):=Au.out.cell k 4 Aa (by omega);rw[v4]at c4;have Af:=Hd (HP.out (a0 k) (a1 k) (a2 k) (a3 k) (a4 k));have Fc:=Hd (Zsy (s:=a0 k) (by have:=C6.out k Aa;unfold maxLen;omega));have N7:=Hd (Zhq a0 k);have dN:=Ac.out.size;clear Au v0 v1 v2 v3 v4
   go_wp2_with fail
   refine(Af.out _).mono ?_;rintro e w2 ⟨rfl,Ag⟩;replace Ag:=((Below.refl wr.heap.size wr).alloc (le_refl _) _).trans (Ag.mono (by simp));have Ai:=Hd (Ac.out.trans (Ag.mono Ac.out.size));obtain⟨w5,Qb,Er,hg⟩:=(He.out.below Ag).put underlying234 Zs6 Zpd (a0 k) Fc.out (by unfold maxLen;omega);have Kj:=N7.out
   try simp only at Kj
   rw[←Kj]at Er;have Kl:=Hd Er;have L7:Hid (Below w.heap.size w w5):=Ai.out.grown hg Ai.out.size (fun j hj=>by injection hj with hj;omega);clear Er hg Ag He N7 Kj Fc Af
   go_wp2_with fail
   go_roundw
   case rel=>exact⟨k+1,by go_num,by omega,Kl.out,L7.out⟩
   case measure=>simp[intOf];omega
  ·obtain rfl:k=n:=by omega
   have Ah:=fun ty=>He.out.len underlying234 ty;have F1:=Zkf ((List.range k).map a0);rw[length_map,length_range]at F1;generalize hd:Zf2 ((List.range k).map a0)=d at *;have HD:=Hd hd;clear hd
   go_wp2_with fail
   go_ret;exact⟨by rw[HD.out];rfl,Ac.out⟩
theorem Zaaf (a0 a1 a2:Nat→ByteArray)(ad:Option Addr)(n c:Nat)(f:Nat→Nat→Value)(b off:Nat)(w:World)(hr:Rw w ad n 3 f b off)(hn:n≤1000000)
  (hv:∀i,i<n→f i 0= .string (a0 i)∧f i 1= .string (a1 i)∧f i 2= .string (a2 i)) (B6:∀i,i<n→(a0 i).size≤1000000∧(a1 i).size≤1000000):
  Calls prog 155 #[.slice ad n c,.func (.func 156) #[] #[]] w fun e w'=>e= .returned (.bool (decide (((List.range n).map (fun i=>(a0 i,a1 i))).Nodup)))∧Below w.heap.size w w':=by
 have HR:=Hd hr;have HV:=Hd hv;have C6:=Hd B6;have HP:=Hd @Zuh;have HE:Hid (decide (((List.range n).map (fun i=>(a0 i,a1 i))).Nodup)=(((Zf2 ((List.range n).map (fun i=>(a0 i,a1 i))):Nat):Int)==(n:Int))):=by
  have:=Zhc ((List.range n).map (fun i=>(a0 i,a1 i)));rw[length_map,length_range]at this;rw[Hid,Bool.eq_iff_iff,decide_eq_true_eq,beq_iff_eq,←this];omega
 rw[HE.out];clear hr hv B6 HE;have eg:=enters_of func156 (by kernel_rfl) rfl;have Ou:= @run_makeMap prog
 go_enter func155,ntmps155
 go_wp2_with fail
 have C4:=Hd (SetK.made 193 kvP w);have Ay:Hid (Below w.heap.size w (w.alloc (.map #[] 0))):=(Below.refl _ _).alloc (le_refl _) _;generalize w.alloc (.map #[] 0)=w1 at *
 go_loopw [11] (fun u wr=>∃k:Nat,u= .int .i64 (k:Int)∧k≤n∧SetK 193 kvP wr w.heap.size k ((List.range k).map (fun i=>(a0 i,a1 i)))∧Below w.heap.size w wr) (fun u _=>n -(intOf u).toNat)
 case atStart=>exact⟨0,rfl,zero_le _,C4.out,Ay.out⟩
 case round=>
  obtain⟨k,rfl,Co,N6,Ak⟩:=hrel;have He:=Hd N6;have Ac:=Hd Ak;clear N6 Ak C4 Ay
  by_cases Aa:k<n
  ·have Au:=Hd (HR.out.below Ac.out);obtain⟨v0,v1,v2⟩:=HV.out k Aa;have Ci:=fun W=>Au.out.ix 42 132 underlying42 (by kernel_rfl) (by omega) Aa c W;have c0:wr.cell? ⟨b,off+k *3,none⟩=some (f k 0):=Au.out.cell k 0 Aa (by omega);rw[v0]at c0;have c1:wr.cell? ⟨b,off+k *3+1,none⟩=some (f k 1):=Au.out.cell k 1 Aa (by omega);rw[v1]at c1;have c2:wr.cell? ⟨b,off+k *3+2,none⟩=some (f k 2):=Au.out.cell k 2 Aa (by omega);rw[v2]at c2;have Af:=Hd (HP.out (a0 k) (a1 k) (a2 k));have Fc:=Hd (Zagx (a:=a0 k) (b:=a1 k) (by have:=(C6.out k Aa).1;unfold maxLen;omega) (by have:=(C6.out k Aa).2;unfold maxLen;omega));have N7:=Hd (Zhq (fun i=>(a0 i,a1 i)) k);have dN:=Ac.out.size;clear Au v0 v1 v2
   go_wp2_with fail
   refine(Af.out _).mono ?_;rintro e w2 ⟨rfl,Ag⟩;replace Ag:=((Below.refl wr.heap.size wr).alloc (le_refl _) _).trans (Ag.mono (by simp));have Ai:=Hd (Ac.out.trans (Ag.mono Ac.out.size));obtain⟨w5,Qb,Er,hg⟩:=(He.out.below Ag).put underlying236 Zagm Zafm (a0 k,a1 k) Fc.out (by unfold maxLen;omega);have Kj:=N7.out
   try simp only at Kj
   rw[←Kj]at Er;have Kl:=Hd Er;have L7:Hid (Below w.heap.size w w5):=Ai.out.grown hg Ai.out.size (fun j hj=>by injection hj with hj;omega);clear Er hg Ag He N7 Kj Fc Af;simp only[kvP]at Qb
   go_wp2_with fail
   go_roundw
   case rel=>exact⟨k+1,by go_num,by omega,Kl.out,L7.out⟩
   case measure=>simp[intOf];omega
  ·obtain rfl:k=n:=by omega
   have Ah:=fun ty=>He.out.len underlying236 ty;have F1:=Zkf ((List.range k).map (fun i=>(a0 i,a1 i)));rw[length_map,length_range]at F1;generalize hd:Zf2 ((List.range k).map (fun i=>(a0 i,a1 i)))=d at *;have HD:=Hd hd;clear hd
   go_wp2_with fail
   go_ret;exact⟨by rw[HD.out];rfl,Ac.out⟩
theorem Zzz (a0 a1:Nat→ByteArray)(ad:Option Addr)(n c:Nat)(f:Nat→Nat→Value)(b off:Nat)(w:World)(hr:Rw w ad n 2 f b off)(hn:n≤1000000)
  (hv:∀i,i<n→f i 0= .string (a0 i)∧f i 1= .string (a1 i)) (B6:∀i,i<n→(a0 i).size≤1000000):
  Calls prog 157 #[.slice ad n c,.func (.func 158) #[] #[]] w fun e w'=>e= .returned (.bool (decide (((List.range n).map a0).Nodup)))∧Below w.heap.size w w':=by
 have HR:=Hd hr;have HV:=Hd hv;have C6:=Hd B6;have HP:=Hd @Zs2;have HE:Hid (decide (((List.range n).map a0).Nodup)=(((Zf2 ((List.range n).map a0):Nat):Int)==(n:Int))):=by
  have:=Zhc ((List.range n).map a0);rw[length_map,length_range]at this;rw[Hid,Bool.eq_iff_iff,decide_eq_true_eq,beq_iff_eq,←this];omega
 rw[HE.out];clear hr hv B6 HE;have eg:=enters_of func158 (by kernel_rfl) rfl;have Ou:= @run_makeMap prog
 go_enter func157,ntmps157
 go_wp2_with fail
 have C4:=Hd (SetK.made 9 Value.string w);have Ay:Hid (Below w.heap.size w (w.alloc (.map #[] 0))):=(Below.refl _ _).alloc (le_refl _) _;generalize w.alloc (.map #[] 0)=w1 at *
 go_loopw [11] (fun u wr=>∃k:Nat,u= .int .i64 (k:Int)∧k≤n∧SetK 9 Value.string wr w.heap.size k ((List.range k).map a0)∧Below w.heap.size w wr) (fun u _=>n -(intOf u).toNat)
 case atStart=>exact⟨0,rfl,zero_le _,C4.out,Ay.out⟩
 case round=>
  obtain⟨k,rfl,Co,N6,Ak⟩:=hrel;have He:=Hd N6;have Ac:=Hd Ak;clear N6 Ak C4 Ay
  by_cases Aa:k<n
  ·have Au:=Hd (HR.out.below Ac.out);obtain⟨v0,v1⟩:=HV.out k Aa;have Ci:=fun W=>Au.out.ix 43 134 underlying43 (by kernel_rfl) (by omega) Aa c W;have c0:wr.cell? ⟨b,off+k *2,none⟩=some (f k 0):=Au.out.cell k 0 Aa (by omega);rw[v0]at c0;have c1:wr.cell? ⟨b,off+k *2+1,none⟩=some (f k 1):=Au.out.cell k 1 Aa (by omega);rw[v1]at c1;have Af:=Hd (HP.out (a0 k) (a1 k));have Fc:=Hd (Zsy (s:=a0 k) (by have:=C6.out k Aa;unfold maxLen;omega));have N7:=Hd (Zhq a0 k);have dN:=Ac.out.size;clear Au v0 v1
   go_wp2_with fail
   refine(Af.out _).mono ?_;rintro e w2 ⟨rfl,Ag⟩;replace Ag:=((Below.refl wr.heap.size wr).alloc (le_refl _) _).trans (Ag.mono (by simp));have Ai:=Hd (Ac.out.trans (Ag.mono Ac.out.size));obtain⟨w5,Qb,Er,hg⟩:=(He.out.below Ag).put underlying234 Zs6 Zpd (a0 k) Fc.out (by unfold maxLen;omega);have Kj:=N7.out
   try simp only at Kj
   rw[←Kj]at Er;have Kl:=Hd Er;have L7:Hid (Below w.heap.size w w5):=Ai.out.grown hg Ai.out.size (fun j hj=>by injection hj with hj;omega);clear Er hg Ag He N7 Kj Fc Af
   go_wp2_with fail
   go_roundw
   case rel=>exact⟨k+1,by go_num,by omega,Kl.out,L7.out⟩
   case measure=>simp[intOf];omega
  ·obtain rfl:k=n:=by omega
   have Ah:=fun ty=>He.out.len underlying234 ty;have F1:=Zkf ((List.range k).map a0);rw[length_map,length_range]at F1;generalize hd:Zf2 ((List.range k).map a0)=d at *;have HD:=Hd hd;clear hd
   go_wp2_with fail
   go_ret;exact⟨by rw[HD.out];rfl,Ac.out⟩
end Go.Proofs.YtmleeodfmmpdgaaGreatDoor
