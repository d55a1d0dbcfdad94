/- part -/
import Derived.Test.YtmleeodfmmpdgaaGreatDoorQ33
set_option maxRecDepth 20000
set_option maxHeartbeats 4000000
namespace Go.Proofs.YtmleeodfmmpdgaaGreatDoor
open _root_.List (getElem_mem)
open _root_.Nat (add_zero lt_or_ge mul_one not_lt_zero zero_le)
open _root_.Go.Proofs.Tryz
def ktL (l:List Tz):List (Int×List UInt8):=l.map fun t=>(t.1,t.2.1)
def Sm (m:List Tz)(r r':RS):Prop:=r'.e=0∧∃l',r'.l=l'++m∧ktL l'=ktL r.l
def OkF {α:Type} (F F':RS→α×RS):Prop:=∀r,(F r).2.e=0→r.e=0∧∀m r',Sm m r r'→(F' r').1=(F r).1∧Sm m (F r).2 (F' r').2
def OkR (F F':RS→RS):Prop:=∀r,(F r).e=0→r.e=0∧∀m r',Sm m r r'→Sm m (F r) (F' r')
theorem Sm.cons {m:List Tz} {r r':RS} {t:Tz} {l:List Tz} (h:Sm m r r')(hl:r.l=t::l):∃t' l',r'.l=t'::(l'++m)∧t'.1=t.1∧t'.2.1=t.2.1∧ktL l'=ktL l:=by
 obtain⟨_,l',h1,h2⟩:=h;rw[hl]at h2;cases l' with
 |nil=>cases h2
 |cons t' l'=>
  simp only[ktL,List.map_cons,List.cons.injEq,Prod.mk.injEq]at h2;exact⟨t',l',h1,h2.1.1,h2.1.2,h2.2⟩
theorem Zzn {p e:Int} (he:e≠0) {r:RS} (h:(r.failAt p e).e=0):False:=RS.failAt_e p he r h
theorem Zb8 {E:Int} {r:RS} {t:Tz} {l:List Tz} (h:r.l=t::l):r.peek E=t:=by unfold RS.peek;rw[h];rfl
theorem Zas {E k:Int} (hk:k≠0) {r:RS} (h:(r.take E k).2.e=0):r.e=0∧∃t l,r.l=t::l∧t.1=k∧r.take E k=(t.2.1,r.drop):=by
 by_cases hp:(r.peek E).1=k
 ·by_cases he:r.e=0
  ·rw[RS.take_ok hp he];cases hl:r.l with
   |nil=>unfold RS.peek at hp;rw[hl]at hp;exact absurd hp.symm hk
   |cons t l=>rw[Zb8 hl]at hp;exact⟨he,t,l,rfl,hp,by rw[Zb8 hl]⟩
  ·rw[RS.take_err hp he]at h;exact absurd h he
 ·rw[RS.take_no hp]at h;exact(RS.fail_e E (by decide) r h).elim
theorem Zn9 (E E':Int) {k:Int} (hk:k≠0):OkF (RS.take E k) (RS.take E' k):=fun r h=>by
 obtain⟨he,t,l,hl,ht,e⟩:=Zas hk h;refine⟨he,fun m r' hs=>?_⟩;obtain⟨t',l',h1,h2,h3,h4⟩:=hs.cons hl;have hp:(r'.peek E').1=k:=by rw[Zb8 h1,h2,ht]
 rw[RS.take_ok hp hs.1,e,Zb8 h1];exact⟨h3,hs.1,l',by simp[RS.drop,h1],by simp[RS.drop,hl,h4]⟩
theorem Zdd (E E':Int):OkF (RS.word E) (RS.word E'):=Zn9 E E' (by decide)
theorem Zfm (E E':Int):OkF (RS.text E) (RS.text E'):=Zn9 E E' (by decide)
theorem Zajj {E E' k:Int} {s:List UInt8} {m:List Tz} {r r':RS} (h:Sm m r r')(he:r.e=0)(Az:r.l≠[]):r'.is E' k s=r.is E k s:=by
 cases hl:r.l with
 |nil=>exact absurd hl Az
 |cons t l=>
  obtain⟨t',l',h1,h2,h3,h4⟩:=h.cons hl;unfold RS.is;rw[Zb8 hl,Zb8 h1,h2,h3,h.1,he]
theorem Zaka {E k:Int} {s:List UInt8} {r:RS} (hk:k≠0)(h:r.l=[]):r.is E k s=false:=by
 unfold RS.is RS.peek;rw[h];simp[Ne.symm hk]
theorem Zaj (E E':Int)(s:List UInt8):OkR (RS.mark E s) (RS.mark E' s):=fun r h=>by
 unfold RS.mark at h⊢;cases hi:r.is E 3 s with
 |false=>
  rw[hi,if_neg (by decide)]at h;exact absurd (Zas (by decide) h).1 (RS.fail_e E (by decide) r)
 |true=>
  rw[hi,if_pos rfl]at h;obtain⟨he,k⟩:=Zn9 E E' (by decide) r h;refine⟨he,fun m r' hs=>?_⟩;have Az:r.l≠[]:=fun e=>by rw[Zaka (by decide) e]at hi;cases hi
  rw[Zajj (E:=E) hs he Az,hi,if_pos rfl,if_pos rfl];exact(k m r' hs).2
theorem Zdj (E E':Int):∀(n:Nat) (out:List ByteArray),OkF (RS.texts E n out) (RS.texts E' n out)
 |0,out=>fun r h=>⟨h,fun m r' hs=>⟨rfl,hs⟩⟩
 |n+1,out=>fun r h=>by
  obtain⟨h1,k1⟩:=Zdj E E' n _ _ h;obtain⟨h2,k2⟩:=Zfm E E' r h1;refine⟨h2,fun m r' hs=>?_⟩;obtain⟨a,b⟩:=k2 m r' hs;show(RS.texts E' n (out++[bs (r'.text E').1]) (r'.text E').2).1=_∧Sm m _ (RS.texts E' n (out++[bs (r'.text E').1]) (r'.text E').2).2;rw[a];exact k1 m _ b
theorem Zi0 (E E':Int)(l:List ByteArray):OkF (RS.one E l) (RS.one E' l):=fun r h=>by
 unfold RS.one at h⊢;cases hc:(decide ((r.peek E).1=1)&& !l.contains (bs (r.peek E).2.1))with
 |true=>
  rw[hc,if_pos rfl]at h;exact absurd (Zas (by decide) h).1 (RS.fail_e E (by decide) r)
 |false=>
  rw[hc,if_neg (by decide)]at h;obtain⟨he,t,q,hl,ht,e⟩:=Zas (by decide) h;obtain⟨_,k⟩:=Zdd E E' r h;refine⟨he,fun m r' hs=>?_⟩;obtain⟨t',l',h1,h2,h3,h4⟩:=hs.cons hl;have:(decide ((r'.peek E').1=1)&& !l.contains (bs (r'.peek E').2.1))=false:=by
   rw[Zb8 h1,h2,h3];rw[Zb8 hl]at hc;exact hc
  rw[this,if_neg (by decide),if_neg (by decide)];exact k m r' hs
theorem Zdw (E E' mx:Int):OkF (RS.number E mx) (RS.number E' mx):=fun r h=>by
 unfold RS.number at h⊢
 by_cases h1:(r.peek E).1=1∧(Zcn (r.peek E).2.1).2=true
 ·rw[if_pos h1]at h
  by_cases h2:mx<((Zcn (r.peek E).2.1).1:Int)
  ·rw[if_pos h2]at h;exact absurd (Zas (by decide) h).1 (RS.fail_e E (by decide) r)
  ·rw[if_neg h2]at h;obtain⟨he,t,q,hl,ht,e⟩:=Zas (by decide) h;obtain⟨_,k⟩:=Zdd E E' r h;refine⟨he,fun m r' hs=>?_⟩;obtain⟨t',l',g1,g2,g3,g4⟩:=hs.cons hl;rw[Zb8 hl]at h1 h2;rw[Zb8 g1,Zb8 hl,g2,g3,if_pos h1,if_pos h1,if_neg h2,if_neg h2];exact⟨rfl,(k m r' hs).2⟩
 ·rw[if_neg h1]at h;exact absurd (Zas (by decide) h).1 (RS.fail_e E (by decide) r)
theorem Zkk (E E':Int):OkF (RS.cond E) (RS.cond E'):=fun r h=>by
 unfold RS.cond at h⊢
 by_cases h1:(r.peek E).1=2
 ·rw[if_pos h1]at h
  by_cases h2:(Zb3 (r.peek E).2.1).2.2=0
  ·rw[if_pos h2]at h;obtain⟨he,t,q,hl,ht,e⟩:=Zas (by decide) h;obtain⟨_,k⟩:=Zfm E E' r h;refine⟨he,fun m r' hs=>?_⟩;obtain⟨t',l',g1,g2,g3,g4⟩:=hs.cons hl;rw[Zb8 hl]at h1 h2;rw[Zb8 g1,Zb8 hl,g2,g3,if_pos h1,if_pos h1,if_pos h2,if_pos h2];exact⟨rfl,(k m r' hs).2⟩
  ·rw[if_neg h2]at h;exact absurd (Zas (by decide) h).1 (RS.fail_e E h2 r)
 ·rw[if_neg h1]at h;obtain⟨_,t,q,hl,ht,_⟩:=Zas (by decide) h;rw[Zb8 hl]at h1;exact absurd ht h1
theorem Zs1 (E E':Int):OkF (RS.rule E) (RS.rule E'):=fun r h=>by
 obtain⟨h3,k3⟩:=Zaj E E' [59] _ h;obtain⟨h2,k2⟩:=Zkk E E' _ h3;obtain⟨h1,k1⟩:=Zi0 E E' classL _ h2;refine⟨h1,fun m r' hs=>?_⟩;obtain⟨a1,b1⟩:=k1 m r' hs;obtain⟨a2,b2⟩:=k2 m _ b1;refine⟨?_,k3 m _ b2⟩;show((bs (r'.one E' classL).1,((r'.one E' classL).2.cond E').1))=_;rw[a1,a2];rfl
open Go.RowKit Go.Maps Go.Sort
attribute [local go_sem] Ext.cell Ext.frozen
attribute [local go_sem ↓] Go.wp_at_zero Go.wp_at_succ
theorem Zge:prog.cellsOf 9=1:=by kernel_rfl
theorem Zma:prog.cellsOf 3=1:=by kernel_rfl
theorem Zh0 (a b:ByteArray):a.data=b.data↔a=b:=⟨fun h=>ByteArray.ext h,fun h=>by rw[h]⟩
abbrev W6i (x:Int):Prop:=(Lit.int IntKind.i64 x).wf=true
theorem Zha {a:Int} (h1: -9223372036854775808≤a)(h2:a≤9223372036854775807):W6i a:=WalkArith.wf_i64 (by omega)
noncomputable def eqB {α:Type} (a b:α):Bool:= @decide (a=b) (Classical.propDecidable _)
theorem Zca {α:Type} {a b:α} (h:a=b):eqB a b=true:=by unfold eqB;exact @decide_eq_true _ (Classical.propDecidable _) h
theorem Zbz {α:Type} {a b:α} (h:a≠b):eqB a b=false:=by unfold eqB;exact @decide_eq_false _ (Classical.propDecidable _) h
theorem eqB_iff {α:Type} {a b:α} :eqB a b=true↔a=b:=⟨fun h=>Classical.byContradiction (fun g=>by rw[Zbz g]at h;cases h),Zca⟩
theorem Zhv:prog.cellsOf 152=2:=by kernel_rfl
theorem Zadc (x0:Int)(x1:Int)(y0:Int)(y1:Int)(w:World)(h0:W6i x0)(h1:W6i x1)(g0:W6i y0)(g1:W6i y1):(Op.equalIn 10000 152 (.agg #[.int .i64 x0,.int .i64 x1]) (.agg #[.int .i64 y0,.int .i64 y1])).run prog w= .ok (decide (x0=y0∧x1=y1)) w:=by
 have hf:∀(x0:Int) (x1:Int),(Value.agg #[.int .i64 x0,.int .i64 x1]).formed prog 152=true:=fun x0 x1=>by simp[Value.formed,underlying152,Zhv]
 have hl:∀(x0:Int) (x1:Int),W6i x0→W6i x1→prog.keyLits 2 152 [.int .i64 x0,.int .i64 x1]=some [.int .i64 x0,.int .i64 x1]:=fun x0 x1 h0 h1=>by unfold W6i at h0 h1;simp[h0,h1,Program.keyLits,underlying152,underlying3,Zhv,Zma]
 obtain⟨r,e1,e2⟩:=run_equalIn_deep 9998 2 152 (by kernel_rfl) w 2 2 (.agg #[.int .i64 x0,.int .i64 x1]) (.agg #[.int .i64 y0,.int .i64 y1]) _ _ (hf x0 x1) (hf y0 y1) (hl x0 x1 h0 h1) (hl y0 y1 g0 g1);have:r=decide (x0=y0∧x1=y1):=by
  rw[Bool.eq_iff_iff,e2,decide_eq_true_eq];simp
 rw[←this];exact e1
theorem Zt5:prog.cellsOf 130=5:=by kernel_rfl
theorem Zaiw (x0:ByteArray)(x1:ByteArray)(x2:ByteArray)(x3:ByteArray)(x4:ByteArray)(y0:ByteArray)(y1:ByteArray)(y2:ByteArray)(y3:ByteArray)(y4:ByteArray)(w:World)(h0:x0.size≤maxLen)(h1:x1.size≤maxLen)(h2:x2.size≤maxLen)(h3:x3.size≤maxLen)(h4:x4.size≤maxLen)(g0:y0.size≤maxLen)(g1:y1.size≤maxLen)(g2:y2.size≤maxLen)(g3:y3.size≤maxLen)(g4:y4.size≤maxLen):(Op.equalIn 10000 130 (.agg #[.string x0,.string x1,.string x2,.string x3,.string x4]) (.agg #[.string y0,.string y1,.string y2,.string y3,.string y4])).run prog w= .ok (decide (x0=y0∧x1=y1∧x2=y2∧x3=y3∧x4=y4)) w:=by
 have hf:∀(x0:ByteArray) (x1:ByteArray) (x2:ByteArray) (x3:ByteArray) (x4:ByteArray),(Value.agg #[.string x0,.string x1,.string x2,.string x3,.string x4]).formed prog 130=true:=fun x0 x1 x2 x3 x4=>by simp[Value.formed,underlying130,Zt5]
 have hl:∀(x0:ByteArray) (x1:ByteArray) (x2:ByteArray) (x3:ByteArray) (x4:ByteArray),x0.size≤maxLen→x1.size≤maxLen→x2.size≤maxLen→x3.size≤maxLen→x4.size≤maxLen→prog.keyLits 2 130 [.string x0,.string x1,.string x2,.string x3,.string x4]=some [.string x0.data.toList,.string x1.data.toList,.string x2.data.toList,.string x3.data.toList,.string x4.data.toList]:=fun x0 x1 x2 x3 x4 h0 h1 h2 h3 h4=>by simp[h0,h1,h2,h3,h4,Program.keyLits,underlying130,underlying9,Zt5,Zge]
 obtain⟨r,e1,e2⟩:=run_equalIn_deep 9998 2 130 (by kernel_rfl) w 2 2 (.agg #[.string x0,.string x1,.string x2,.string x3,.string x4]) (.agg #[.string y0,.string y1,.string y2,.string y3,.string y4]) _ _ (hf x0 x1 x2 x3 x4) (hf y0 y1 y2 y3 y4) (hl x0 x1 x2 x3 x4 h0 h1 h2 h3 h4) (hl y0 y1 y2 y3 y4 g0 g1 g2 g3 g4);have:r=decide (x0=y0∧x1=y1∧x2=y2∧x3=y3∧x4=y4):=by
  rw[Bool.eq_iff_iff,e2,decide_eq_true_eq];simp[Zh0]
 rw[←this];exact e1
theorem Zt8:prog.cellsOf 132=3:=by kernel_rfl
theorem Zakr (x0:ByteArray)(x1:ByteArray)(x2:ByteArray)(y0:ByteArray)(y1:ByteArray)(y2:ByteArray)(w:World)(h0:x0.size≤maxLen)(h1:x1.size≤maxLen)(h2:x2.size≤maxLen)(g0:y0.size≤maxLen)(g1:y1.size≤maxLen)(g2:y2.size≤maxLen):(Op.equalIn 10000 132 (.agg #[.string x0,.string x1,.string x2]) (.agg #[.string y0,.string y1,.string y2])).run prog w= .ok (decide (x0=y0∧x1=y1∧x2=y2)) w:=by
 have hf:∀(x0:ByteArray) (x1:ByteArray) (x2:ByteArray),(Value.agg #[.string x0,.string x1,.string x2]).formed prog 132=true:=fun x0 x1 x2=>by simp[Value.formed,underlying132,Zt8]
 have hl:∀(x0:ByteArray) (x1:ByteArray) (x2:ByteArray),x0.size≤maxLen→x1.size≤maxLen→x2.size≤maxLen→prog.keyLits 2 132 [.string x0,.string x1,.string x2]=some [.string x0.data.toList,.string x1.data.toList,.string x2.data.toList]:=fun x0 x1 x2 h0 h1 h2=>by simp[h0,h1,h2,Program.keyLits,underlying132,underlying9,Zt8,Zge]
 obtain⟨r,e1,e2⟩:=run_equalIn_deep 9998 2 132 (by kernel_rfl) w 2 2 (.agg #[.string x0,.string x1,.string x2]) (.agg #[.string y0,.string y1,.string y2]) _ _ (hf x0 x1 x2) (hf y0 y1 y2) (hl x0 x1 x2 h0 h1 h2) (hl y0 y1 y2 g0 g1 g2);have:r=decide (x0=y0∧x1=y1∧x2=y2):=by
  rw[Bool.eq_iff_iff,e2,decide_eq_true_eq];simp[Zh0]
 rw[←this];exact e1
theorem Zu2:prog.cellsOf 134=2:=by kernel_rfl
theorem Zajx (x0:ByteArray)(x1:ByteArray)(y0:ByteArray)(y1:ByteArray)(w:World)(h0:x0.size≤maxLen)(h1:x1.size≤maxLen)(g0:y0.size≤maxLen)(g1:y1.size≤maxLen):(Op.equalIn 10000 134 (.agg #[.string x0,.string x1]) (.agg #[.string y0,.string y1])).run prog w= .ok (decide (x0=y0∧x1=y1)) w:=by
 have hf:∀(x0:ByteArray) (x1:ByteArray),(Value.agg #[.string x0,.string x1]).formed prog 134=true:=fun x0 x1=>by simp[Value.formed,underlying134,Zu2]
 have hl:∀(x0:ByteArray) (x1:ByteArray),x0.size≤maxLen→x1.size≤maxLen→prog.keyLits 2 134 [.string x0,.string x1]=some [.string x0.data.toList,.string x1.data.toList]:=fun x0 x1 h0 h1=>by simp[h0,h1,Program.keyLits,underlying134,underlying9,Zu2,Zge]
 obtain⟨r,e1,e2⟩:=run_equalIn_deep 9998 2 134 (by kernel_rfl) w 2 2 (.agg #[.string x0,.string x1]) (.agg #[.string y0,.string y1]) _ _ (hf x0 x1) (hf y0 y1) (hl x0 x1 h0 h1) (hl y0 y1 g0 g1);have:r=decide (x0=y0∧x1=y1):=by
  rw[Bool.eq_iff_iff,e2,decide_eq_true_eq];simp[Zh0]
 rw[←this];exact e1
theorem Zsj:prog.cellsOf 61=2:=by kernel_rfl
theorem Zzt (x0:ByteArray)(x1:ByteArray)(y0:ByteArray)(y1:ByteArray)(w:World)(h0:x0.size≤maxLen)(h1:x1.size≤maxLen)(g0:y0.size≤maxLen)(g1:y1.size≤maxLen):(Op.equalIn 10000 61 (.agg #[.string x0,.string x1]) (.agg #[.string y0,.string y1])).run prog w= .ok (decide (x0=y0∧x1=y1)) w:=by
 have hf:∀(x0:ByteArray) (x1:ByteArray),(Value.agg #[.string x0,.string x1]).formed prog 61=true:=fun x0 x1=>by simp[Value.formed,underlying61,Zsj]
 have hl:∀(x0:ByteArray) (x1:ByteArray),x0.size≤maxLen→x1.size≤maxLen→prog.keyLits 2 61 [.string x0,.string x1]=some [.string x0.data.toList,.string x1.data.toList]:=fun x0 x1 h0 h1=>by simp[h0,h1,Program.keyLits,underlying61,underlying9,Zsj,Zge]
 obtain⟨r,e1,e2⟩:=run_equalIn_deep 9998 2 61 (by kernel_rfl) w 2 2 (.agg #[.string x0,.string x1]) (.agg #[.string y0,.string y1]) _ _ (hf x0 x1) (hf y0 y1) (hl x0 x1 h0 h1) (hl y0 y1 g0 g1);have:r=decide (x0=y0∧x1=y1):=by
  rw[Bool.eq_iff_iff,e2,decide_eq_true_eq];simp[Zh0]
 rw[←this];exact e1
theorem Zs7:prog.cellsOf 58=3:=by kernel_rfl
theorem Zakq (x0:ByteArray)(x1:ByteArray)(x2:Int)(y0:ByteArray)(y1:ByteArray)(y2:Int)(w:World)(h0:x0.size≤maxLen)(h1:x1.size≤maxLen)(h2:W6i x2)(g0:y0.size≤maxLen)(g1:y1.size≤maxLen)(g2:W6i y2):(Op.equalIn 10000 58 (.agg #[.string x0,.string x1,.int .i64 x2]) (.agg #[.string y0,.string y1,.int .i64 y2])).run prog w= .ok (decide (x0=y0∧x1=y1∧x2=y2)) w:=by
 have hf:∀(x0:ByteArray) (x1:ByteArray) (x2:Int),(Value.agg #[.string x0,.string x1,.int .i64 x2]).formed prog 58=true:=fun x0 x1 x2=>by simp[Value.formed,underlying58,Zs7]
 have hl:∀(x0:ByteArray) (x1:ByteArray) (x2:Int),x0.size≤maxLen→x1.size≤maxLen→W6i x2→prog.keyLits 2 58 [.string x0,.string x1,.int .i64 x2]=some [.string x0.data.toList,.string x1.data.toList,.int .i64 x2]:=fun x0 x1 x2 h0 h1 h2=>by unfold W6i at h2;simp[h0,h1,h2,Program.keyLits,underlying58,underlying9,underlying3,Zs7,Zge,Zma]
 obtain⟨r,e1,e2⟩:=run_equalIn_deep 9998 2 58 (by kernel_rfl) w 2 2 (.agg #[.string x0,.string x1,.int .i64 x2]) (.agg #[.string y0,.string y1,.int .i64 y2]) _ _ (hf x0 x1 x2) (hf y0 y1 y2) (hl x0 x1 x2 h0 h1 h2) (hl y0 y1 y2 g0 g1 g2);have:r=decide (x0=y0∧x1=y1∧x2=y2):=by
  rw[Bool.eq_iff_iff,e2,decide_eq_true_eq];simp[Zh0]
 rw[←this];exact e1
theorem Zqz:prog.cellsOf 40=6:=by kernel_rfl
theorem Zafu (x0:ByteArray)(x1:ByteArray)(x2:ByteArray)(x3:ByteArray)(x4:Int)(x5:Int)(y0:ByteArray)(y1:ByteArray)(y2:ByteArray)(y3:ByteArray)(y4:Int)(y5:Int)(w:World)(h0:x0.size≤maxLen)(h1:x1.size≤maxLen)(h2:x2.size≤maxLen)(h3:x3.size≤maxLen)(h4:W6i x4)(h5:W6i x5)(g0:y0.size≤maxLen)(g1:y1.size≤maxLen)(g2:y2.size≤maxLen)(g3:y3.size≤maxLen)(g4:W6i y4)(g5:W6i y5):(Op.equalIn 10000 40 (.agg #[.string x0,.string x1,.string x2,.string x3,.int .i64 x4,.int .i64 x5]) (.agg #[.string y0,.string y1,.string y2,.string y3,.int .i64 y4,.int .i64 y5])).run prog w= .ok (decide (x0=y0∧x1=y1∧x2=y2∧x3=y3∧x4=y4∧x5=y5)) w:=by
 have hf:∀(x0:ByteArray) (x1:ByteArray) (x2:ByteArray) (x3:ByteArray) (x4:Int) (x5:Int),(Value.agg #[.string x0,.string x1,.string x2,.string x3,.int .i64 x4,.int .i64 x5]).formed prog 40=true:=fun x0 x1 x2 x3 x4 x5=>by simp[Value.formed,underlying40,Zqz]
 have hl:∀(x0:ByteArray) (x1:ByteArray) (x2:ByteArray) (x3:ByteArray) (x4:Int) (x5:Int),x0.size≤maxLen→x1.size≤maxLen→x2.size≤maxLen→x3.size≤maxLen→W6i x4→W6i x5→prog.keyLits 2 40 [.string x0,.string x1,.string x2,.string x3,.int .i64 x4,.int .i64 x5]=some [.string x0.data.toList,.string x1.data.toList,.string x2.data.toList,.string x3.data.toList,.int .i64 x4,.int .i64 x5]:=fun x0 x1 x2 x3 x4 x5 h0 h1 h2 h3 h4 h5=>by unfold W6i at h4 h5;simp[h0,h1,h2,h3,h4,h5,Program.keyLits,underlying40,underlying9,underlying3,Zqz,Zge,Zma]
 obtain⟨r,e1,e2⟩:=run_equalIn_deep 9998 2 40 (by kernel_rfl) w 2 2 (.agg #[.string x0,.string x1,.string x2,.string x3,.int .i64 x4,.int .i64 x5]) (.agg #[.string y0,.string y1,.string y2,.string y3,.int .i64 y4,.int .i64 y5]) _ _ (hf x0 x1 x2 x3 x4 x5) (hf y0 y1 y2 y3 y4 y5) (hl x0 x1 x2 x3 x4 x5 h0 h1 h2 h3 h4 h5) (hl y0 y1 y2 y3 y4 y5 g0 g1 g2 g3 g4 g5);have:r=decide (x0=y0∧x1=y1∧x2=y2∧x3=y3∧x4=y4∧x5=y5):=by
  rw[Bool.eq_iff_iff,e2,decide_eq_true_eq];simp[Zh0]
 rw[←this];exact e1
open Go.RowKit
theorem Zd3 {α:Type} {d:α} :∀ {l m:List α},l.length=m.length→(∀j,j<l.length→l.getD j d=m.getD j d)→l=m
 |[],[],_,_=>rfl
 |[],_::_,h,_=>by cases h
 |_::_,[],h,_=>by cases h
 |a::l,b::m,h,k=>by
  have h0:=k 0 (by simp);simp only[List.getD_cons_zero]at h0;rw[h0,Zd3 (l:=l) (m:=m) (by simpa using h) (fun j hj=>by have:=k (j+1) (by simp;omega);simpa using this)]
theorem Zer {α:Type} {d:α} {l m:List α} {k:Nat} (h:l.getD k d≠m.getD k d):l≠m:=fun e=>h (by rw[e])
theorem Zb0 {α:Type} (l:List α)(d:α) {k:Nat} (h:k<l.length):l[k]=l.getD k d:=by rw[List.getD_eq_getElem?_getD,List.getElem?_eq_getElem h];rfl
theorem Zql:prog.cellsOf 9=1:=by kernel_rfl
theorem Zjl (l m:List ByteArray)(v u:Value)(w:World)(hv:RowsOf 1 OneS w v l)(hu:RowsOf 1 OneS w u m):Calls prog 77 #[v,u] w fun e w'=>e= .returned (.bool (eqB l m))∧Below w.heap.size w w':=by
 obtain⟨adA,cA,fA,bA,offA,rfl,N9,U8,U9,Va,Mr⟩:=hv.opn;obtain⟨adB,cB,fB,bB,offB,rfl,Oa,Vb,Vc,Vd,Ob⟩:=hu.opn;have Km:=Hd N9;have Hi:=Hd Oa;have Dv:=Hd Mr;have R9:=Hd Ob;have D5:Hid ((∀j,j<l.length→l.getD j ByteArray.empty=m.getD j ByteArray.empty)→l.length=m.length→l=m):=fun k h=>Zd3 h k;have In:Hid (l.length≠m.length→l≠m):=fun h e=>h (by rw[e]);obtain⟨n,hn⟩:∃n,l.length=n:=⟨_,rfl⟩;obtain⟨n',Kn⟩:∃n,m.length=n:=⟨_,rfl⟩;clear N9 Oa U8 Vb Mr Ob hv hu;have Db:=Hd hn;have Pb:=Hd Kn;rw[hn]at Km U9 Va D5 In⊢;rw[Kn]at Hi Vc Vd D5 In⊢;clear hn Kn
 by_cases hn:n=n'
 ·subst hn
  go_enter func77,ntmps77
  go_wp2_with fail
  go_loopw [5] (fun i wr=>∃k:Nat,i= .int .i64 (k:Int)∧k≤n∧(∀j,j<k→l.getD j .empty=m.getD j .empty)∧Below w.heap.size w wr) (fun i _=>n -(intOf i).toNat)
  case atStart=>exact⟨0,rfl,zero_le _,fun i hi=>absurd hi (not_lt_zero _),Below.refl _ _⟩
  case round=>
   obtain⟨k,rfl,Co,Cn,Ak⟩:=hrel;have B9:=Hd Cn;have Ac:=Hd Ak;have Bl:=Ak.size;clear Cn Ak
   by_cases Aa:k<n
   ·have Jb:=Aa;have Jc:=Aa;have gA:=Km.out.below Ac.out;have ixA:=fun W=>gA.ix (P:=prog) 44 9 underlying44 Zql (by decide) Jb cA W;have eA0:=gA.cell k 0 Jb (by decide);clear gA;have gB:=Hi.out.below Ac.out;have ixB:=fun W=>gB.ix (P:=prog) 44 9 underlying44 Zql (by decide) Jc cB W;have eB0:=gB.cell k 0 Jc (by decide);clear gB;have Cy:k<l.length:=by rw[Db.out];exact Aa
    have Cz:k<m.length:=by rw[Pb.out];exact Aa
    rw[(Dv.out k Cy).1,Zb0 l .empty Cy]at eA0;rw[(R9.out k Cz).1,Zb0 m .empty Cz]at eB0;simp only[mul_one,add_zero]at eA0 eB0 ixA ixB;have Ao:Hid (l.getD k .empty=m.getD k .empty→∀j,j<k+1→l.getD j .empty=m.getD j .empty):=fun h j hj=>by
     rcases lt_or_ge j k with h'|h'
     ·exact B9.out j h'
     ·rw[show j=k by omega];exact h
    have Bj:Hid (l.getD k .empty≠m.getD k .empty→eqB l m=false):=fun h=>Zbz (Zer h);generalize l.getD k .empty=x at *;generalize m.getD k .empty=y at *;clear Jb Jc Cy Cz
    by_cases Cu:x=y
    ·subst Cu;have m1:(x.toList !=x.toList)=false:=by simp
     have HN:=Hd (Ao.out rfl);clear Ao Bj
     go_wp2_with fail
     go_quiet (fail)
     go_wp2_with fail
     go_roundw
     case rel=>exact⟨k+1,by go_num,by omega,HN.out,Ac.out.trans ((Zat _ _).mono Bl)⟩
     case measure=>simp[intOf];omega
    ·have Qe:(x.toList==y.toList)=false:=by rw[Zdy,decide_eq_false Cu]
     have Q3:(x.toList !=y.toList)=true:=by unfold bne;rw[Qe];rfl
     have HN:=Hd (Bj.out Cu);clear Ao Bj
     go_wp2_with fail
     go_quiet (fail)
     go_wp2_with fail
     go_ret;exact⟨by rw[HN.out];rfl,Ac.out.trans ((Zat _ _).mono Bl)⟩
   ·obtain rfl:k=n:=by omega
    have HS:Hid (eqB l m=true):=Zca (D5.out B9.out (by first|rfl|trivial))
    go_wp2_with fail
    go_ret;exact⟨by rw[HS.out];rfl,Ac.out⟩
 ·have HN:Hid (eqB l m=false):=Zbz (In.out hn);have J6:((n:Int) !=(n':Int))=true:=by simp only[bne_iff_ne];omega
  go_enter func77,ntmps77
  go_wp2_with fail
  go_ret;exact⟨by rw[HN.out];rfl,Below.refl _ _⟩
def RelWf (r:Rel):Prop:=∀p∈r.sp,W6i p.1∧W6i p.2
theorem RelWf.at {r:Rel} (h:RelWf r) {k:Nat} (hk:k<r.sp.length):W6i (r.sp.getD k (0,0)).1∧W6i (r.sp.getD k (0,0)).2:=by
 rw[←Zb0 r.sp (0,0) hk];exact h _ (getElem_mem hk)
theorem Zxg (oA mA:Int)(nA:Bool)(l:List (Int×Int))(oB mB:Int)(nB:Bool)(m:List (Int×Int))(v u:Value)(w:World)(hv:RowsOf 2 Znw w v l)(hu:RowsOf 2 Znw w u m)(Jq:RelWf ⟨oA,mA,nA,l⟩)(Im:RelWf ⟨oB,mB,nB,m⟩):
  Calls prog 186 #[.agg #[.int .i64 oA,.int .i64 mA,.bool nA,v],.agg #[.int .i64 oB,.int .i64 mB,.bool nB,u]] w fun e w'=>e= .returned (.bool (eqB (⟨oA,mA,nA,l⟩:Rel) ⟨oB,mB,nB,m⟩))∧Below w.heap.size w w':=by
 obtain⟨adA,cA,fA,bA,offA,rfl,N9,U8,U9,Va,Mr⟩:=hv.opn;obtain⟨adB,cB,fB,bB,offB,rfl,Oa,Vb,Vc,Vd,Ob⟩:=hu.opn;have Ip:Hid (∀k,k<l.length→W6i (l.getD k (0,0)).1∧W6i (l.getD k (0,0)).2):=fun k hk=>Jq.at hk;have My:Hid (∀k,k<m.length→W6i (m.getD k (0,0)).1∧W6i (m.getD k (0,0)).2):=fun k hk=>Im.at hk;clear Jq Im;have In:Hid (l.length≠m.length→eqB (⟨oA,mA,nA,l⟩:Rel) ⟨oB,mB,nB,m⟩=false):=fun h=>Zbz (fun e=>h (by injection e with _ _ _ e;rw[e]));have oK:Hid (oA≠oB→eqB (⟨oA,mA,nA,l⟩:Rel) ⟨oB,mB,nB,m⟩=false):=fun h=>Zbz (fun e=>h (by injection e));have cN:Hid (mA≠mB→eqB (⟨oA,mA,nA,l⟩:Rel) ⟨oB,mB,nB,m⟩=false):=fun h=>Zbz (fun e=>h (by injection e));have L8:Hid (nA≠nB→eqB (⟨oA,mA,nA,l⟩:Rel) ⟨oB,mB,nB,m⟩=false):=fun h=>Zbz (fun e=>h (by injection e));have Cj:Hid (l≠m→eqB (⟨oA,mA,nA,l⟩:Rel) ⟨oB,mB,nB,m⟩=false):=fun h=>Zbz (fun e=>h (by injection e));have Jr:Hid ((oA=oB∧mA=mB∧nA=nB)→l.length=m.length→(∀j,j<l.length→l.getD j (0,0)=m.getD j (0,0))→eqB (⟨oA,mA,nA,l⟩:Rel) ⟨oB,mB,nB,m⟩=true):=fun h1 h2 h3=>Zca (by rw[h1.1,h1.2.1,h1.2.2,Zd3 h2 h3]);generalize eqB (⟨oA,mA,nA,l⟩:Rel) ⟨oB,mB,nB,m⟩=res at *;have Km:=Hd N9;have Hi:=Hd Oa;have Dv:=Hd Mr;have R9:=Hd Ob;obtain⟨n,hn⟩:∃n,l.length=n:=⟨_,rfl⟩;obtain⟨n',Kn⟩:∃n,m.length=n:=⟨_,rfl⟩;clear N9 Oa U8 Vb Mr Ob hv hu;have Db:=Hd hn;have Pb:=Hd Kn;rw[hn]at Km U9 Va⊢;rw[Kn]at Hi Vc Vd⊢;clear hn Kn;rw[Db.out,Pb.out]at In Jr;have Ai:Hid (Below w.heap.size w ((w.alloc (.cells #[.int .i64 oA,.int .i64 mA,.bool nA,.slice adA n cA] 94)).alloc (.cells #[.int .i64 oB,.int .i64 mB,.bool nB,.slice adB n' cB] 94))):=Bel.alloc (Bel.alloc (Bel.refl w) _) _;have HX:Hid (Cel ((w.alloc (.cells #[.int .i64 oA,.int .i64 mA,.bool nA,.slice adA n cA] 94)).alloc (.cells #[.int .i64 oB,.int .i64 mB,.bool nB,.slice adB n' cB] 94)) w.heap.size 94 [.int .i64 oA,.int .i64 mA,.bool nA,.slice adA n cA]):=(Cel.new w [.int .i64 oA,.int .i64 mA,.bool nA,.slice adA n cA] 94).below (Bel.alloc (Bel.refl _) _);have HY:Hid (Cel ((w.alloc (.cells #[.int .i64 oA,.int .i64 mA,.bool nA,.slice adA n cA] 94)).alloc (.cells #[.int .i64 oB,.int .i64 mB,.bool nB,.slice adB n' cB] 94)) (w.heap.size+1) 94 [.int .i64 oB,.int .i64 mB,.bool nB,.slice adB n' cB]):=by
  have:=Cel.new (w.alloc (.cells #[.int .i64 oA,.int .i64 mA,.bool nA,.slice adA n cA] 94)) [.int .i64 oB,.int .i64 mB,.bool nB,.slice adB n' cB] 94
  rwa [show(w.alloc (.cells #[.int .i64 oA,.int .i64 mA,.bool nA,.slice adA n cA] 94)).heap.size=w.heap.size+1 by simp]at this
 go_enter func186,ntmps186
 go_upto_region 1 with(fail)
 generalize (w.alloc (.cells #[.int .i64 oA,.int .i64 mA,.bool nA,.slice adA n cA] 94)).alloc (.cells #[.int .i64 oB,.int .i64 mB,.bool nB,.slice adB n' cB] 94)=w2 at *;have x0:=HX.out.cell 0;have x1:=HX.out.cell 1;have x2:=HX.out.cell 2;have x3:=HX.out.cell 3;have y0:=HY.out.cell 0;have y1:=HY.out.cell 1;have y2:=HY.out.cell 2;have y3:=HY.out.cell 3;simp only[Le0,Le1]at x0 x1 x2 x3 y0 y1 y2 y3
 by_cases ho:oA=oB
 ·by_cases hm:mA=mB
  ·by_cases hb:nA=nB
   ·by_cases hn:n=n'
    ·subst hn;have Cm:Hid ((∀j,j<n→l.getD j (0,0)=m.getD j (0,0))→res=true):=Jr.out ⟨ho,hm,hb⟩ rfl;subst ho hm hb;have q0:(oA !=oA)=false:=by simp
     have q1:(mA !=mA)=false:=by simp
     have q2:(nA !=nA)=false:=by simp
     have q3:((n:Int) !=(n:Int))=false:=by simp
     clear Jr In oK cN L8
     go_wp2_with fail
     go_loopw [5] (fun i wr=>∃k:Nat,i= .int .i64 (k:Int)∧k≤n∧(∀j,j<k→l.getD j (0,0)=m.getD j (0,0))∧Below w2.heap.size w2 wr) (fun i _=>n -(intOf i).toNat)
     case atStart=>exact⟨0,rfl,zero_le _,fun i hi=>absurd hi (not_lt_zero _),Below.refl _ _⟩
     case round=>
      obtain⟨k,rfl,Co,Cn,Ak⟩:=hrel;have B9:=Hd Cn;have Ac:=Hd Ak;have Bl:=Ak.size;have D6:=Hd (Ai.out.trans (Ak.mono Ai.out.size));clear Cn Ak;have X3:=(HX.out.below Ac.out).cell 3;have Y3:=(HY.out.below Ac.out).cell 3;simp only[Le0,Le1]at X3 Y3
      by_cases Aa:k<n
      ·have Jb:=Aa;have Jc:=Aa;have gA:=Km.out.below D6.out;have ixA:=fun W=>gA.ix (P:=prog) 92 152 underlying92 Zhv (by decide) Jb cA W;have eA0:=gA.cell k 0 Jb (by decide);have eA1:=gA.cell k 1 Jb (by decide);clear gA;have gB:=Hi.out.below D6.out;have ixB:=fun W=>gB.ix (P:=prog) 92 152 underlying92 Zhv (by decide) Jc cB W;have eB0:=gB.cell k 0 Jc (by decide);have eB1:=gB.cell k 1 Jc (by decide);clear gB;have Cy:k<l.length:=by rw[Db.out];exact Aa
       have Cz:k<m.length:=by rw[Pb.out];exact Aa
       have Ao:Hid (l.getD k (0,0)=m.getD k (0,0)→∀j,j<k+1→l.getD j (0,0)=m.getD j (0,0)):=fun h j hj=>by
        rcases lt_or_ge j k with h'|h'
        ·exact B9.out j h'
        ·rw[show j=k by omega];exact h
       have Bj:Hid (l.getD k (0,0)≠m.getD k (0,0)→res=false):=fun h=>Cj.out (Zer h);rw[(Dv.out k Cy).1,Zb0 l (0,0) Cy]at eA0;rw[(Dv.out k Cy).2,Zb0 l (0,0) Cy]at eA1;rw[(R9.out k Cz).1,Zb0 m (0,0) Cz]at eB0;rw[(R9.out k Cz).2,Zb0 m (0,0) Cz]at eB1;have Jq:=Ip.out k Cy;have Im:=My.out k Cz;simp only[add_zero]at eA0 eB0;generalize l.getD k (0,0)=x at *;generalize m.getD k (0,0)=y at *;obtain⟨xa,xb⟩:=x;obtain⟨ya,yb⟩:=y;simp only at eA0 eA1 eB0 eB1 Jq Im;have hq:=fun W=>Zadc xa xb ya yb W Jq.1 Jq.2 Im.1 Im.2;clear Jb Jc Cy Cz Jq Im
       by_cases Cu:xa=ya∧xb=yb
       ·rw[decide_eq_true Cu]at hq;have HN:=Hd (Ao.out (by rw[Cu.1,Cu.2]));clear Ao Bj Cu
        go_wp2_with fail
        go_quiet (fail)
        go_wp2_with fail
        go_roundw
        case rel=>exact⟨k+1,by go_num,by omega,HN.out,Ac.out.trans ((Zat _ _).mono Bl)⟩
        case measure=>simp[intOf];omega
       ·rw[decide_eq_false Cu]at hq;have HN:=Hd (Bj.out (fun e=>Cu (by injection e with e1 e2;exact⟨e1,e2⟩)));clear Ao Bj Cu
        go_wp2_with fail
        go_quiet (fail)
        go_wp2_with fail
        go_ret;exact⟨by rw[HN.out];rfl,D6.out.trans ((Zat _ _).mono (Nat.le_trans Ai.out.size Bl))⟩
      ·obtain rfl:k=n:=by omega
       have HS:=Hd (Cm.out B9.out)
       go_wp2_with fail
       go_ret;exact⟨by rw[HS.out];rfl,D6.out⟩
    ·have HN:=Hd (In.out hn);have q3:((n:Int) !=(n':Int))=true:=by simp only[bne_iff_ne];omega
     have q3': ¬((n:Int)=(n':Int)):=by omega
     subst ho hm hb;have q0:(oA !=oA)=false:=by simp
     have q1:(mA !=mA)=false:=by simp
     have q2:(nA !=nA)=false:=by simp
     go_wp2_with fail
     go_ret;exact⟨by rw[HN.out];rfl,Ai.out⟩
   ·have HN:=Hd (L8.out hb);have q2:(nA !=nB)=true:=by simpa using hb
    subst ho hm;have q0:(oA !=oA)=false:=by simp
    have q1:(mA !=mA)=false:=by simp
    go_wp2_with fail
    go_ret;exact⟨by rw[HN.out];rfl,Ai.out⟩
  ·have HN:=Hd (cN.out hm);have q1:(mA !=mB)=true:=by simpa using hm
   subst ho;have q0:(oA !=oA)=false:=by simp
   go_wp2_with fail
   go_ret;exact⟨by rw[HN.out];rfl,Ai.out⟩
 ·have HN:=Hd (oK.out ho);have q0:(oA !=oB)=true:=by simpa using ho
  go_wp2_with fail
  go_ret;exact⟨by rw[HN.out];rfl,Ai.out⟩
instance:Inhabited Rel:=⟨⟨0,0,false,[]⟩⟩
def CondWf (c:List (List Rel)):Prop:=∀l∈c,∀r∈l,RelWf r
theorem CondWf.at {c:List (List Rel)} (h:CondWf c) {k:Nat} (hk:k<c.length):∀r∈c.getD k [],RelWf r:=by
 rw[←Zb0 c [] hk];exact h _ (getElem_mem hk)
theorem Zwa {l:List Rel} (h:∀r∈l,RelWf r) {k:Nat} (hk:k<l.length):RelWf (l.getD k default):=by
 rw[←Zb0 l default hk];exact h _ (getElem_mem hk)
theorem Zps:prog.cellsOf 94=4:=by kernel_rfl
theorem Zho:prog.cellsOf 91=1:=by kernel_rfl
theorem Znv:prog.cellsOf 51=2:=by kernel_rfl
theorem Zsk (l m:List (List Rel))(v u:Value)(w:World)(hv:CondAt w v l)(hu:CondAt w u m)(Jq:CondWf l)(Im:CondWf m):
  Calls prog 133 #[v,u] w fun e w'=>e= .returned (.bool (eqB l m))∧Below w.heap.size w w':=by
 unfold CondAt at hv hu;obtain⟨adA,cA,fA,bA,offA,rfl,N9,U8,U9,Va,Mr⟩:=hv.opn;obtain⟨adB,cB,fB,bB,offB,rfl,Oa,Vb,Vc,Vd,Ob⟩:=hu.opn;have Ip:=Hd (fun k (hk:k<l.length)=>Jq.at hk);have My:=Hd (fun k (hk:k<m.length)=>Im.at hk);clear Jq Im;have In:Hid (l.length≠m.length→eqB l m=false):=fun h=>Zbz (fun e=>h (by rw[e]));have Cj:Hid (l≠m→eqB l m=false):=fun h=>Zbz h;have Jr:Hid (l.length=m.length→(∀j,j<l.length→l.getD j []=m.getD j [])→eqB l m=true):=fun h2 h3=>Zca (Zd3 h2 h3);generalize eqB l m=res at *;have Km:=Hd N9;have Hi:=Hd Oa;have Dv:=Hd Mr;have R9:=Hd Ob;obtain⟨n,hn⟩:∃n,l.length=n:=⟨_,rfl⟩;obtain⟨n',Kn⟩:∃n,m.length=n:=⟨_,rfl⟩;clear N9 Oa U8 Vb Mr Ob hv hu;have Db:=Hd hn;have Pb:=Hd Kn;rw[hn]at Km U9 Va⊢;rw[Kn]at Hi Vc Vd⊢;clear hn Kn;rw[Db.out,Pb.out]at In Jr
 by_cases hn:n=n'
 ·subst hn;have Cm:Hid ((∀j,j<n→l.getD j []=m.getD j [])→res=true):=Jr.out rfl;clear Jr In
  go_enter func133,ntmps133
  go_wp2_with fail
  go_loopw [5] (fun i wr=>∃k:Nat,i= .int .i64 (k:Int)∧k≤n∧(∀j,j<k→l.getD j []=m.getD j [])∧Below w.heap.size w wr) (fun i _=>n -(intOf i).toNat)
  case atStart=>exact⟨0,rfl,zero_le _,fun i hi=>absurd hi (not_lt_zero _),Below.refl _ _⟩
  case round=>
   obtain⟨k,rfl,Co,Cn,Ak⟩:=hrel;have B9:=Hd Cn;have Ac:=Hd Ak;have Bl:=Ak.size;clear Cn Ak
   by_cases Aa:k<n
   ·have Cy:k<l.length:=by rw[Db.out];exact Aa
    have Cz:k<m.length:=by rw[Pb.out];exact Aa
    have Ao:Hid (l.getD k []=m.getD k []→∀j,j<k+1→l.getD j []=m.getD j []):=fun h j hj=>by
     rcases lt_or_ge j k with h'|h'
     ·exact B9.out j h'
     ·rw[show j=k by omega];exact h
    have Bj:Hid (l.getD k []≠m.getD k []→res=false):=fun h=>Cj.out (Zer h);have hA:=Dv.out k Cy;have hB:=R9.out k Cz;have sZ:=Hd (Ip.out k Cy);have tA:=Hd (My.out k Cz);rw[Zb0 l [] Cy]at hA;rw[Zb0 m [] Cz]at hB;generalize l.getD k []=lk at *;generalize m.getD k []=mk at *;clear Cy Cz;unfold RelsC at hA hB;obtain⟨adI,cI,fI,bI,offI,Ow,oL,_,dP,tB,oM⟩:=hA.opn;obtain⟨adJ,cJ,fJ,bJ,offJ,Y8,oN,_,dQ,tC,oO⟩:=hB.opn;have tD:=Hd oM;have Ws:=Hd oO;have oP:=Hd oL;have oQ:=Hd oN;obtain⟨p,hp⟩:∃p,lk.length=p:=⟨_,rfl⟩;obtain⟨p',Y6⟩:∃p,mk.length=p:=⟨_,rfl⟩;have F6:=Hd hp;have Sa:=Hd Y6;rw[hp]at Ow oP dP tB;rw[Y6]at Y8 oQ dQ tC;have Ow:=Hd Ow;have Y8:=Hd Y8;clear hp Y6 hA hB oL oN oM oO;have gA:=Km.out.below Ac.out;have ixA:=fun W=>gA.ix (P:=prog) 48 91 underlying48 Zho (by decide) Aa cA W;have blA:=gA.block (by omega) (by decide);have eA0:=gA.cell k 0 Aa (by decide);clear gA;have gB:=Hi.out.below Ac.out;have ixB:=fun W=>gB.ix (P:=prog) 48 91 underlying48 Zho (by decide) Aa cB W;have blB:=gB.block (by omega) (by decide);have eB0:=gB.cell k 0 Aa (by decide);clear gB;rw[Ow.out]at eA0;rw[Y8.out]at eB0;simp only[mul_one,add_zero]at eA0 eB0 ixA ixB
    by_cases oR:p=p'
    ·subst oR;have q3:((p:Int) !=(p:Int))=false:=by simp
     have Y9:Hid ((∀j,j<p→lk.getD j default=mk.getD j default)→lk=mk):=fun h=>Zd3 (by rw[F6.out,Sa.out]) (fun j hj=>h j (by rw[F6.out]at hj;exact hj))
     go_wp2_with fail
     go_quiet (fail)
     have Cs:Hid (∀n,Below w.heap.size w (wr.drewN n)):=fun n=>Ac.out.trans ((Zat _ _).mono Bl);clear eA0 eB0 ixA ixB blA blB
     go_wp2_with fail
     go_loopw [6] (fun i wx=>∃q:Nat,i= .int .i64 (q:Int)∧q≤p∧(∀j,j<q→lk.getD j default=mk.getD j default)∧Below w.heap.size w wx) (fun i _=>p -(intOf i).toNat)
     case atStart=>exact⟨0,rfl,zero_le _,fun i hi=>absurd hi (not_lt_zero _),Cs.out _⟩
     case round=>
      obtain⟨q,rfl,Mq,Za,Hh⟩:=hrel;have Zb:=Hd Za;have B8:=Hd Hh;have Q4:=Hh.size;clear Za Hh;have gA:=Km.out.below B8.out;have ixA:=fun W=>gA.ix (P:=prog) 48 91 underlying48 Zho (by decide) Aa cA W;have blA:=gA.block (by omega) (by decide);have eA0:=gA.cell k 0 Aa (by decide);clear gA;have gB:=Hi.out.below B8.out;have ixB:=fun W=>gB.ix (P:=prog) 48 91 underlying48 Zho (by decide) Aa cB W;have blB:=gB.block (by omega) (by decide);have eB0:=gB.cell k 0 Aa (by decide);clear gB;rw[Ow.out]at eA0;rw[Y8.out]at eB0;simp only[mul_one,add_zero]at eA0 eB0 ixA ixB
      by_cases hq:q<p
      ·have dR:q<lk.length:=by rw[F6.out];exact hq
       have dS:q<mk.length:=by rw[Sa.out];exact hq
       have gI:=oP.out.below B8.out;have gJ:=oQ.out.below B8.out;have ixI:=fun W=>gI.ix (P:=prog) 91 94 underlying91 Zps (by decide) hq cI W;have ixJ:=fun W=>gJ.ix (P:=prog) 91 94 underlying91 Zps (by decide) hq cJ W;have blI:=gI.block (by omega) (by decide);have blJ:=gJ.block (by omega) (by decide);have i0:=gI.cell q 0 hq (by decide);have i1:=gI.cell q 1 hq (by decide);have i2:=gI.cell q 2 hq (by decide);have i3:=gI.cell q 3 hq (by decide);have j0:=gJ.cell q 0 hq (by decide);have j1:=gJ.cell q 1 hq (by decide);have j2:=gJ.cell q 2 hq (by decide);have j3:=gJ.cell q 3 hq (by decide);clear gI gJ;have dP:=tD.out q dR;have dQ:=Ws.out q dS;have W5:=Zwa (sZ.out) dR;have W6:=Zwa (tA.out) dS;rw[Zb0 lk default dR]at dP;rw[Zb0 mk default dS]at dQ;have M0:Hid (lk.getD q default=mk.getD q default→∀j,j<q+1→lk.getD j default=mk.getD j default):=fun h j hj=>by
        rcases lt_or_ge j q with h'|h'
        ·exact Zb.out j h'
        ·rw[show j=q by omega];exact h
       have Zc:Hid (lk.getD q default≠mk.getD q default→res=false):=fun h=>Bj.out (Zer h);generalize lk.getD q default=x at *;generalize mk.getD q default=y at *;obtain⟨xo,xm,xn,xs⟩:=x;obtain⟨yo,ym,yn,ys⟩:=y;obtain⟨a0,a1,a2,a3⟩:=dP;obtain⟨b0,b1,b2,b3⟩:=dQ;simp only at a0 a1 a2 a3 b0 b1 b2 b3;rw[a0]at i0;rw[a1]at i1;rw[a2]at i2;rw[b0]at j0;rw[b1]at j1;rw[b2]at j2;have Af:Hid (∀W,Below wr.heap.size wr W→Calls prog 186 #[.agg #[.int .i64 xo,.int .i64 xm,.bool xn,fI q 3],.agg #[.int .i64 yo,.int .i64 ym,.bool yn,fJ q 3]] W fun e w'=>e= .returned (.bool (eqB (⟨xo,xm,xn,xs⟩:Rel) ⟨yo,ym,yn,ys⟩))∧Below W.heap.size W w'):=fun W hW=>
        Zxg xo xm xn xs yo ym yn ys _ _ W (a3.map (B8.out.trans (hW.mono Q4)) fun _ _ h=>h) (b3.map (B8.out.trans (hW.mono Q4)) fun _ _ h=>h) W5 W6
       generalize fI q 3=VI at *;generalize fJ q 3=VJ at *;simp only[add_zero]at i0 j0;clear a0 a1 a2 a3 b0 b1 b2 b3 W5 W6 dR dS;have Ec:Hid (eqB (⟨xo,xm,xn,xs⟩:Rel) ⟨yo,ym,yn,ys⟩=true→∀j,j<q+1→lk.getD j default=mk.getD j default):=fun h=>M0.out (eqB_iff.1 h);have E7:Hid (eqB (⟨xo,xm,xn,xs⟩:Rel) ⟨yo,ym,yn,ys⟩=false→res=false):=fun h=>Zc.out (fun e=>by rw[Zca e]at h;cases h);generalize eqB (⟨xo,xm,xn,xs⟩:Rel) ⟨yo,ym,yn,ys⟩=ans at *;clear M0 Zc
       go_wp2_with fail
       refine Zaq (by kernel_rfl) (by kernel_rfl) ?_
       repeat (go_big_quiet_step ((go_at_call 186;refine Calls.ext (Af.out _ ?_);exact Subtype.property _)))
       refine wpQuiet_nil ?_;intro _ Eb;obtain⟨X9,Bo⟩:=Eb;subst Bo;have L8:=Hd (B8.out.trans (X9.2.mono Q4));cases ans with
       |true=>
        have HN:=Hd (Ec.out rfl)
        go_wp2_with fail
        go_roundw
        case rel=>exact⟨q+1,by go_num,by omega,HN.out,L8.out⟩
        case measure=>simp[intOf];omega
       |false=>
        have HN:=Hd (E7.out rfl)
        go_wp2_with fail
        go_ret;exact⟨by rw[HN.out];rfl,L8.out⟩
      ·obtain rfl:q=p:=by omega
       have HN:=Hd (Ao.out (Y9.out Zb.out))
       go_wp2_with fail
       go_roundw
       case rel=>exact⟨k+1,by go_num,by omega,HN.out,B8.out⟩
       case measure=>simp[intOf];omega
    ·have HN:=Hd (Bj.out (fun e=>oR (by rw[←F6.out,←Sa.out,e])));have q3:((p:Int) !=(p':Int))=true:=by simp only[bne_iff_ne];omega
     go_wp2_with fail
     go_quiet (fail)
     go_wp2_with fail
     go_ret;exact⟨by rw[HN.out];rfl,Ac.out.trans ((Zat _ _).mono Bl)⟩
   ·obtain rfl:k=n:=by omega
    have HS:=Hd (Cm.out B9.out)
    go_wp2_with fail
    go_ret;exact⟨by rw[HS.out];rfl,Ac.out⟩
 ·have HN:=Hd (In.out hn);have q3:((n:Int) !=(n':Int))=true:=by simp only[bne_iff_ne];omega
  go_enter func133,ntmps133
  go_wp2_with fail
  go_ret;exact⟨by rw[HN.out];rfl,Below.refl _ _⟩
def RulesWf (l:List (ByteArray×List (List Rel))):Prop:=∀r∈l,CondWf r.2
theorem RulesWf.at {l:List (ByteArray×List (List Rel))} (h:RulesWf l) {k:Nat} (hk:k<l.length):CondWf (l.getD k (.empty,[])).2:=by
 rw[←Zb0 l (.empty,[]) hk];exact h _ (getElem_mem hk)
theorem Zjt (l m:List (ByteArray×List (List Rel)))(v u:Value)(w:World)(hv:RulesAt w v l)(hu:RulesAt w u m)(Jq:RulesWf l)(Im:RulesWf m):
  Calls prog 76 #[v,u] w fun e w'=>e= .returned (.bool (eqB l m))∧Below w.heap.size w w':=by
 unfold RulesAt at hv hu;obtain⟨adA,cA,fA,bA,offA,rfl,N9,U8,U9,Va,Mr⟩:=hv.opn;obtain⟨adB,cB,fB,bB,offB,rfl,Oa,Vb,Vc,Vd,Ob⟩:=hu.opn;have Ip:=Hd (fun k (hk:k<l.length)=>Jq.at hk);have My:=Hd (fun k (hk:k<m.length)=>Im.at hk);clear Jq Im;have In:Hid (l.length≠m.length→eqB l m=false):=fun h=>Zbz (fun e=>h (by rw[e]));have Cj:Hid (l≠m→eqB l m=false):=fun h=>Zbz h;have Jr:Hid (l.length=m.length→(∀j,j<l.length→l.getD j (.empty,[])=m.getD j (.empty,[]))→eqB l m=true):=fun h2 h3=>Zca (Zd3 h2 h3);generalize eqB l m=res at *;have Km:=Hd N9;have Hi:=Hd Oa;have Dv:=Hd Mr;have R9:=Hd Ob;obtain⟨n,hn⟩:∃n,l.length=n:=⟨_,rfl⟩;obtain⟨n',Kn⟩:∃n,m.length=n:=⟨_,rfl⟩;clear N9 Oa U8 Vb Mr Ob hv hu;have Db:=Hd hn;have Pb:=Hd Kn;rw[hn]at Km U9 Va⊢;rw[Kn]at Hi Vc Vd⊢;clear hn Kn;rw[Db.out,Pb.out]at In Jr
 by_cases hn:n=n'
 ·subst hn;have Cm:Hid ((∀j,j<n→l.getD j (.empty,[])=m.getD j (.empty,[]))→res=true):=Jr.out rfl;clear Jr In
  go_enter func76,ntmps76
  go_wp2_with fail
  go_loopw [5] (fun i wr=>∃k:Nat,i= .int .i64 (k:Int)∧k≤n∧(∀j,j<k→l.getD j (.empty,[])=m.getD j (.empty,[]))∧Below w.heap.size w wr) (fun i _=>n -(intOf i).toNat)
  case atStart=>exact⟨0,rfl,zero_le _,fun i hi=>absurd hi (not_lt_zero _),Below.refl _ _⟩
  case round=>
   obtain⟨k,rfl,Co,Cn,Ak⟩:=hrel;have B9:=Hd Cn;have Ac:=Hd Ak;have Bl:=Ak.size;clear Cn Ak
   by_cases Aa:k<n
   ·have Cy:k<l.length:=by rw[Db.out];exact Aa
    have Cz:k<m.length:=by rw[Pb.out];exact Aa
    have Ao:Hid (l.getD k (.empty,[])=m.getD k (.empty,[])→∀j,j<k+1→l.getD j (.empty,[])=m.getD j (.empty,[])):=fun h j hj=>by
     rcases lt_or_ge j k with h'|h'
     ·exact B9.out j h'
     ·rw[show j=k by omega];exact h
    have Bj:Hid (l.getD k (.empty,[])≠m.getD k (.empty,[])→res=false):=fun h=>Cj.out (Zer h);have hA:=Dv.out k Cy;have hB:=R9.out k Cz;have W5:=Ip.out k Cy;have W6:=My.out k Cz;rw[Zb0 l (.empty,[]) Cy]at hA;rw[Zb0 m (.empty,[]) Cz]at hB;generalize l.getD k (.empty,[])=x at *;generalize m.getD k (.empty,[])=y at *;obtain⟨xs,xc⟩:=x;obtain⟨ys,yc⟩:=y;obtain⟨Ek,Fv⟩:=hA;obtain⟨E5,Fj⟩:=hB;simp only at Ek Fv E5 Fj W5 W6;clear Cy Cz;have gA:=Km.out.below Ac.out;have ixA:=fun W=>gA.ix (P:=prog) 38 51 underlying38 Znv (by decide) Aa cA W;have blA:=gA.block (by omega) (by decide);have eA0:=gA.cell k 0 Aa (by decide);have eA1:=gA.cell k 1 Aa (by decide);clear gA;have gB:=Hi.out.below Ac.out;have ixB:=fun W=>gB.ix (P:=prog) 38 51 underlying38 Znv (by decide) Aa cB W;have blB:=gB.block (by omega) (by decide);have eB0:=gB.cell k 0 Aa (by decide);have eB1:=gB.cell k 1 Aa (by decide);clear gB;rw[Ek]at eA0;rw[E5]at eB0;have Af:Hid (∀W,Below wr.heap.size wr W→Calls prog 133 #[fA k 1,fB k 1] W fun e w'=>e= .returned (.bool (eqB xc yc))∧Below W.heap.size W w'):=fun W hW=>
     Zsk xc yc _ _ W (CondAt.below Fv (Ac.out.trans (hW.mono Bl))) (CondAt.below Fj (Ac.out.trans (hW.mono Bl))) W5 W6
    generalize fA k 1=VI at *;generalize fB k 1=VJ at *;simp only[add_zero]at eA0 eB0;clear Ek Fv E5 Fj W5 W6
    by_cases hs:xs=ys
    ·subst hs;have m1:(xs.toList !=xs.toList)=false:=by simp
     have Ec:Hid (eqB xc yc=true→∀j,j<k+1→l.getD j (.empty,[])=m.getD j (.empty,[])):=fun h=>Ao.out (by rw[eqB_iff.1 h]);have E7:Hid (eqB xc yc=false→res=false):=fun h=>Bj.out (fun e=>by
      injection e with _ e;rw[Zca e]at h;cases h)
     generalize eqB xc yc=ans at *;clear Ao Bj
     go_wp2_with fail
     refine Zaq (by kernel_rfl) (by kernel_rfl) ?_
     repeat (go_big_quiet_step ((go_at_call 133;refine Calls.ext (Af.out _ ?_);exact Subtype.property _)))
     refine wpQuiet_nil ?_;intro _ Eb;obtain⟨X9,Bo⟩:=Eb;subst Bo;have L8:=Hd (Ac.out.trans (X9.2.mono Bl));cases ans with
     |true=>
      have HN:=Hd (Ec.out rfl)
      go_wp2_with fail
      go_roundw
      case rel=>exact⟨k+1,by go_num,by omega,HN.out,L8.out⟩
      case measure=>simp[intOf];omega
     |false=>
      have HN:=Hd (E7.out rfl)
      go_wp2_with fail
      go_ret;exact⟨by rw[HN.out];rfl,L8.out⟩
    ·have HN:=Hd (Bj.out (fun e=>hs (by injection e)));have Qe:(xs.toList==ys.toList)=false:=by rw[Zdy,decide_eq_false hs]
     have Q3:(xs.toList !=ys.toList)=true:=by unfold bne;rw[Qe];rfl
     clear Ao Bj Af
     go_wp2_with fail
     refine Zaq (by kernel_rfl) (by kernel_rfl) ?_
     repeat (go_big_quiet_step (fail))
     refine wpQuiet_nil ?_;intro _ Eb;obtain⟨X9,Bo⟩:=Eb;subst Bo;have L8:=Hd (Ac.out.trans (X9.2.mono Bl))
     go_wp2_with fail
     go_ret;exact⟨by rw[HN.out];rfl,L8.out⟩
   ·obtain rfl:k=n:=by omega
    have HS:=Hd (Cm.out B9.out)
    go_wp2_with fail
    go_ret;exact⟨by rw[HS.out];rfl,Ac.out⟩
 ·have HN:=Hd (In.out hn);have q3:((n:Int) !=(n':Int))=true:=by simp only[bne_iff_ne];omega
  go_enter func76,ntmps76
  go_wp2_with fail
  go_ret;exact⟨by rw[HN.out];rfl,Below.refl _ _⟩
end Go.Proofs.YtmleeodfmmpdgaaGreatDoor
