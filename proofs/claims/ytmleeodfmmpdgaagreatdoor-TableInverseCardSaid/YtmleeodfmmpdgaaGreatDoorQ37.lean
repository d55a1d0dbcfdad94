/- part -/
import Derived.Test.YtmleeodfmmpdgaaGreatDoorQ36
set_option maxRecDepth 20000
set_option maxHeartbeats 8000000
namespace Go.Proofs.YtmleeodfmmpdgaaGreatDoor
open Go.RowKit
attribute [local go_sem] Ext.cell Ext.frozen
attribute [local go_sem ↓] Go.wp_at_zero Go.wp_at_succ
open _root_.List (getElem_mem map_append map_map)
open _root_.Nat (add_zero le_refl le_trans zero_le)
open _root_.ByteArray (size_append)
open World (ownsRow_nil)
open _root_.Go.Proofs.Tryz
theorem Zb5 {P:Program} {c:Code} {Q:Exit→Act→World→Prop} {a:Act} {w:World} (h:∀W,W=w→c.wp P Q a W):c.wp P Q a w:=h w rfl
theorem Zfi (T:TypeId)(l:List ByteArray)(cs:Array Value)(Dc:cs=(l.map Value.string).toArray)(h0:l.length≤1000)(hz:∀s∈l,s.size≤200000)(W0:World)(b:Nat)(hb:W0.heap.size=b):
  Calls prog 45 #[.slice (some ⟨b,0,none⟩) l.length l.length] (W0.alloc (.cells cs T)) fun e w'=>e= .returned (.bool (Zb6 l))∧Below W0.heap.size W0 w':=
 (Zwk _ l _ (Ze3 W0 l cs T Dc h0 (fun s hs=>le_trans (hz s hs) (by omega)) b hb) hz).mono fun _ _ h=>⟨h.1,((Below.refl _ _).alloc (le_refl _) _).trans (h.2.mono (by simp))⟩
theorem Zis (T:TypeId)(l:List ByteArray)(cs:Array Value)(Dc:cs=(l.map Value.string).toArray)(h0:l.length≤1000)(hz:∀s∈l,s.size≤200000)(W0:World)(hU:TabU W0)(b:Nat)(hb:W0.heap.size=b):
  Calls prog 96 #[.slice (some ⟨b,0,none⟩) l.length l.length] (W0.alloc (.cells cs T)) fun e w'=>e= .returned (.bool (Zb2 l))∧Below W0.heap.size W0 w':=
 (Zkc _ l _ (Ze3 W0 l cs T Dc h0 (fun s hs=>le_trans (hz s hs) (by omega)) b hb) hz (hU.below ((Below.refl _ _).alloc (le_refl _) _))).mono fun _ _ h=>⟨h.1,((Below.refl _ _).alloc (le_refl _) _).trans (h.2.mono (by simp))⟩
theorem Zwg (x:Nat→Value)(r:ByteArray×List (List Rel))(w:World)(h:RuleC w x r)(hl:r.2.length≤30):Calls prog 150 #[.agg #[x 0,x 1]] w fun e w'=>e= .returned (.bool (Zb7 r))∧Below w.heap.size w w':=by
 obtain⟨h0,h1⟩:=h;have HT:=Hd Zgt;have Hg:=Hd (fun ad n c W (g:Sl W ad n (Zae classL))=>Zfs ad n c classL r.1 W g);have HV:Hid (∀W,Below w.heap.size w W→Calls prog 152 #[x 1] W fun e w'=>e= .returned (.bool (Zbw r.2))∧Below W.heap.size W w'):=fun W hb=>Zow (x 1) r.2 W (h1.below hb) hl;have HO:Hid (Zb7 r=(classL.contains r.1&&Zbw r.2)):=rfl;obtain⟨ad,c,hv⟩:=RowsOf.shape h1;rw[HO.out,h0];rw[hv]at HV⊢;clear h1 h0 hv HO hl;generalize classL.contains r.1=p at *;generalize Zbw r.2=q at *;generalize r.1=s at *;generalize r.2.length=n at *;obtain⟨A,hA⟩:∃A,w.heap.size=A:=⟨_,rfl⟩
 go_enter func150,ntmps150
 go_wp2_with fail
 refine Zb5 ?_;intro wa B2;have a0:wa.cell? ⟨A,0,none⟩=some (.string s):=by rw[B2,←hA];simp[go_sem]
 have a1:wa.cell? ⟨A,1,none⟩=some (.slice ad n c):=by rw[B2,←hA];simp[go_sem]
 have oT:Hid (Below w.heap.size w wa):=by rw[B2];exact(Below.refl _ _).alloc (le_refl _) _
 have Fa:A<wa.heap.size:=World.block_lt_of_cell? _ _ a0;clear B2;refine wp_region_held_drew (S:=(fun w'=>w'.cell? ⟨A,0,none⟩=some (.string s)∧w'.cell? ⟨A,1,none⟩=some (.slice ad n c))) (by kernel_rfl) ?_ (fun hHeld=>?_)
 ·go_keep
 refine Tk 1 ?_;refine Tk 2 ?_;refine Rx 0 fun K hK=>?_
 go_simp
 refine(HT.out _).mono ?_;rintro e w2 ⟨ad2,n2,c2,rfl,Eu,Ag⟩;have Ag:Below wa.heap.size wa w2:=(Below.refl _ _).drew.trans Ag;have k0:=(Ag.cell (p:=⟨A,0,none⟩) Fa).trans a0;have k1:=(Ag.cell (p:=⟨A,1,none⟩) Fa).trans a1;have Ai:Hid (Below w.heap.size w w2):=oT.out.trans (Ag.mono oT.out.size);have aQ:A<w2.heap.size:=Nat.lt_of_lt_of_le Fa Ag.size;have Ji:=Hd Eu;clear Eu Ag
 go_simp
 clear hHeld;refine hK.out _ _ (⟨k0,k1⟩) fun hHeld=>?_;clear hK K;refine Rx 3 fun K hK=>?_
 go_simp
 refine(Hg.out _ _ _ _ Ji.out).mono ?_;rintro e _ ⟨rfl,rfl⟩
 go_simp
 clear hHeld;refine hK.out _ _ (⟨k0,k1⟩) fun hHeld=>?_;clear hK K;cases p with
 |false=>
  refine Tk 4 ?_;refine Sk 5 ?_;refine Sk 6 ?_;refine Sk 7 ?_;refine Tk 8 ?_;refine Tk 9 ?_;refine Dn ?_;clear hHeld
  go_wp2_with fail
  go_ret;exact⟨rfl,Ai.out⟩
 |true=>
  refine Tk 4 ?_;refine Tk 5 ?_;refine Tk 6 ?_;refine Rx 7 fun K hK=>?_
  go_simp
  refine(HV.out _ Ai.out).mono ?_;rintro e w3 ⟨rfl,Ax⟩;have m0:=(Ax.cell (p:=⟨A,0,none⟩) aQ).trans k0;have m1:=(Ax.cell (p:=⟨A,1,none⟩) aQ).trans k1;have C3:Hid (Below w.heap.size w w3):=Ai.out.trans (Ax.mono Ai.out.size);clear Ax
  go_simp
  clear hHeld;refine hK.out _ _ (⟨m0,m1⟩) fun hHeld=>?_;clear hK K;refine Tk 8 ?_;refine Tk 9 ?_;refine Dn ?_;clear hHeld
  go_wp2_with fail
  go_ret;exact⟨by cases q <;> rfl,C3.out⟩
theorem Zadk (x:Nat→Value)(y:Lp)(w:World)(h:LpC w x y)(hz:∀s∈[y.style,y.two,y.start,y.mid,y.fin],s.size≤200000)(hU:TabU w):Calls prog 160 #[.agg #[x 0,x 1,x 2,x 3,x 4]] w fun e w'=>e= .returned (.bool (Zes y))∧Below w.heap.size w w':=by
 have HO:Hid (Zes y=(Zb6 [y.style]&&Zb2 [y.two,y.start,y.mid,y.fin])):=rfl;have HW:Hid (∀W0,Below w.heap.size w W0→∀b,W0.heap.size=b→Calls prog 45 #[.slice (some ⟨b,0,none⟩) 1 1] (W0.alloc (.cells #[.string (y.style)] 9)) fun e w'=>e= .returned (.bool (Zb6 [y.style]))∧Below W0.heap.size W0 w'):=fun W0 _ b hb=>Zfi 9 [y.style] _ rfl (by simp) (fun s hs=>hz s (List.mem_append_left [y.two,y.start,y.mid,y.fin] hs)) W0 b hb;have HT:Hid (∀W0,Below w.heap.size w W0→∀b,W0.heap.size=b→Calls prog 96 #[.slice (some ⟨b,0,none⟩) 4 4] (W0.alloc (.cells #[.string (y.two),.string (y.start),.string (y.mid),.string (y.fin)] 9)) fun e w'=>e= .returned (.bool (Zb2 [y.two,y.start,y.mid,y.fin]))∧Below W0.heap.size W0 w'):=fun W0 Fp b hb=>Zis 9 [y.two,y.start,y.mid,y.fin] _ rfl (by simp) (fun s hs=>hz s (List.mem_append_right [y.style] hs)) W0 (hU.below Fp) b hb;rw[HO.out,h.c0.1,h.c1.1,h.c2.1,h.c3.1,h.c4.1];clear h hz hU HO;generalize Zb6 [y.style]=p at *;generalize Zb2 [y.two,y.start,y.mid,y.fin]=q at *;generalize y.style=a0 at *;generalize y.two=a1 at *;generalize y.start=a2 at *;generalize y.mid=a3 at *;generalize y.fin=a4 at *
 go_enter func160,ntmps160
 go_upto_region 1 with(fail)
 refine Zb5 ?_;intro wa B2;have HX:Hid (Cel wa w.heap.size 130 [.string a0,.string a1,.string a2,.string a3,.string a4]):=by rw[B2];exact Cel.new w [.string a0,.string a1,.string a2,.string a3,.string a4] 130
 have HB:Hid (Below w.heap.size w wa):=by rw[B2];exact(Below.refl _ _).alloc (le_refl _) _
 have hz:=HB.out.size;clear B2;have x0:=HX.out.cell 0;have x1:=HX.out.cell 1;have x2:=HX.out.cell 2;have x3:=HX.out.cell 3;have x4:=HX.out.cell 4;have Ap:=HX.out.lt;simp only[Le0,Le1]at x0 x1 x2 x3 x4
 go_wp2_with fail
 refine(HW.out _ HB.out _ (by first|rfl|simp)).mono ?_;rintro e w2 ⟨rfl,hb⟩;replace HX:=Hd (HX.out.below hb);replace HB:=Hd (HB.out.trans (hb.mono HB.out.size));clear hb Ap x0 x1 x2 x3 x4;have x0:=HX.out.cell 0;have x1:=HX.out.cell 1;have x2:=HX.out.cell 2;have x3:=HX.out.cell 3;have x4:=HX.out.cell 4;have Ap:=HX.out.lt;simp only[Le0,Le1]at x0 x1 x2 x3 x4;cases p with
 |false=>
  go_wp2_with fail
  go_ret;exact⟨rfl,HB.out⟩
 |true=>
  go_wp2_with fail
  refine(HT.out _ HB.out _ (by first|rfl|simp)).mono ?_;rintro e w3 ⟨rfl,hb⟩;replace HX:=Hd (HX.out.below hb);replace HB:=Hd (HB.out.trans (hb.mono HB.out.size));clear hb Ap x0 x1 x2 x3 x4;have x0:=HX.out.cell 0;have x1:=HX.out.cell 1;have x2:=HX.out.cell 2;have x3:=HX.out.cell 3;have x4:=HX.out.cell 4;have Ap:=HX.out.lt;simp only[Le0,Le1]at x0 x1 x2 x3 x4;cases q with
  |false=>
   go_wp2_with fail
   go_ret;exact⟨rfl,HB.out⟩
  |true=>
   go_wp2_with fail
   go_ret;exact⟨rfl,HB.out⟩
theorem Zabh (x:Nat→Value)(y:Dp)(w:World)(h:DpC w x y)(hz:∀s∈[y.skel,y.pat],s.size≤200000)(hU:TabU w):Calls prog 165 #[.agg #[x 0,x 1]] w fun e w'=>e= .returned (.bool (Zev y))∧Below w.heap.size w w':=by
 have HO:Hid (Zev y=(Zb6 [y.skel]&&Zb2 [y.pat])):=rfl;have HW:Hid (∀W0,Below w.heap.size w W0→∀b,W0.heap.size=b→Calls prog 45 #[.slice (some ⟨b,0,none⟩) 1 1] (W0.alloc (.cells #[.string (y.skel)] 9)) fun e w'=>e= .returned (.bool (Zb6 [y.skel]))∧Below W0.heap.size W0 w'):=fun W0 _ b hb=>Zfi 9 [y.skel] _ rfl (by simp) (fun s hs=>hz s (List.mem_append_left [y.pat] hs)) W0 b hb;have HT:Hid (∀W0,Below w.heap.size w W0→∀b,W0.heap.size=b→Calls prog 96 #[.slice (some ⟨b,0,none⟩) 1 1] (W0.alloc (.cells #[.string (y.pat)] 9)) fun e w'=>e= .returned (.bool (Zb2 [y.pat]))∧Below W0.heap.size W0 w'):=fun W0 Fp b hb=>Zis 9 [y.pat] _ rfl (by simp) (fun s hs=>hz s (List.mem_append_right [y.skel] hs)) W0 (hU.below Fp) b hb;rw[HO.out,h.c0.1,h.c1.1];clear h hz hU HO;generalize Zb6 [y.skel]=p at *;generalize Zb2 [y.pat]=q at *;generalize y.skel=a0 at *;generalize y.pat=a1 at *
 go_enter func165,ntmps165
 go_upto_region 1 with(fail)
 refine Zb5 ?_;intro wa B2;have HX:Hid (Cel wa w.heap.size 134 [.string a0,.string a1]):=by rw[B2];exact Cel.new w [.string a0,.string a1] 134
 have HB:Hid (Below w.heap.size w wa):=by rw[B2];exact(Below.refl _ _).alloc (le_refl _) _
 have hz:=HB.out.size;clear B2;have x0:=HX.out.cell 0;have x1:=HX.out.cell 1;have Ap:=HX.out.lt;simp only[Le0,Le1]at x0 x1
 go_wp2_with fail
 refine(HW.out _ HB.out _ (by first|rfl|simp)).mono ?_;rintro e w2 ⟨rfl,hb⟩;replace HX:=Hd (HX.out.below hb);replace HB:=Hd (HB.out.trans (hb.mono HB.out.size));clear hb Ap x0 x1;have x0:=HX.out.cell 0;have x1:=HX.out.cell 1;have Ap:=HX.out.lt;simp only[Le0,Le1]at x0 x1;cases p with
 |false=>
  go_wp2_with fail
  go_ret;exact⟨rfl,HB.out⟩
 |true=>
  go_wp2_with fail
  refine(HT.out _ HB.out _ (by first|rfl|simp)).mono ?_;rintro e w3 ⟨rfl,hb⟩;replace HX:=Hd (HX.out.below hb);replace HB:=Hd (HB.out.trans (hb.mono HB.out.size));clear hb Ap x0 x1;have x0:=HX.out.cell 0;have x1:=HX.out.cell 1;have Ap:=HX.out.lt;simp only[Le0,Le1]at x0 x1;cases q with
  |false=>
   go_wp2_with fail
   go_ret;exact⟨rfl,HB.out⟩
  |true=>
   go_wp2_with fail
   go_ret;exact⟨rfl,HB.out⟩
theorem Zzj:unitL=classU:=rfl
theorem Zdc {w:World} {o:Obj} {p:Addr} {v:Value} (h:w.cell? p=some v):(w.alloc o).cell? p=some v:=by
 have Aa:=World.block_lt_of_cell? _ _ h;exact(((Below.refl w.heap.size w).alloc (le_refl _) o).cell Aa).trans h
theorem Zadw (x:Nat→Value)(y:Up)(w:World)(h:UpC w x y)(hz:∀s∈[y.unit,y.cls,y.pat],s.size≤200000)(hU:TabU w):Calls prog 162 #[.agg #[x 0,x 1,x 2]] w fun e w'=>e= .returned (.bool (Zed y))∧Below w.heap.size w w':=by
 have HO:Hid (Zed y=(Zb6 [y.unit]&&(classU.contains y.cls&&Zb2 [y.pat]))):=rfl;have dT:=Hd Zlj;have Hg:=Hd (fun ad n c W (g:Sl W ad n (Zae unitL))=>Zfs ad n c unitL y.cls W g);rw[Hid,Zzj]at dT Hg;have dT:=Hd dT;have Hg:=Hd Hg;have HW:Hid (∀W0,Below w.heap.size w W0→∀b,W0.heap.size=b→Calls prog 45 #[.slice (some ⟨b,0,none⟩) 1 1] (W0.alloc (.cells #[.string (y.unit)] 9)) fun e w'=>e= .returned (.bool (Zb6 [y.unit]))∧Below W0.heap.size W0 w'):=fun W0 _ b hb=>Zfi 9 [y.unit] _ rfl (by simp) (fun s hs=>hz s (List.mem_append_left [y.cls,y.pat] hs)) W0 b hb;have HT:Hid (∀W0,Below w.heap.size w W0→∀b,W0.heap.size=b→Calls prog 96 #[.slice (some ⟨b,0,none⟩) 1 1] (W0.alloc (.cells #[.string (y.pat)] 9)) fun e w'=>e= .returned (.bool (Zb2 [y.pat]))∧Below W0.heap.size W0 w'):=fun W0 Fp b hb=>Zis 9 [y.pat] _ rfl (by simp) (fun s hs=>hz s (List.mem_append_right [y.unit,y.cls] hs)) W0 (hU.below Fp) b hb;rw[HO.out,h.c0.1,h.c1.1,h.c2.1];clear h hz hU HO;generalize Zb6 [y.unit]=p at *;generalize classU.contains y.cls=q at *;generalize Zb2 [y.pat]=r at *;generalize y.unit=a0 at *;generalize y.cls=a1 at *;generalize y.pat=a2 at *;obtain⟨A,hA⟩:∃A,w.heap.size=A:=⟨_,rfl⟩
 go_enter func162,ntmps162
 go_wp2_with fail
 refine Zb5 ?_;intro wa B2;have k0:wa.cell? ⟨A,0,none⟩=some (.string a0):=by rw[B2,←hA];simp[go_sem]
 have k1:wa.cell? ⟨A,1,none⟩=some (.string a1):=by rw[B2,←hA];simp[go_sem]
 have k2:wa.cell? ⟨A,2,none⟩=some (.string a2):=by rw[B2,←hA];simp[go_sem]
 have HB:Hid (Below w.heap.size w wa):=by rw[B2];exact(Below.refl _ _).alloc (le_refl _) _
 have Fa:A<wa.heap.size:=World.block_lt_of_cell? _ _ k0;clear B2;refine wp_region_held_drew (S:=(fun w'=>w'.cell? ⟨A,0,none⟩=some (.string a0)∧w'.cell? ⟨A,1,none⟩=some (.string a1)∧w'.cell? ⟨A,2,none⟩=some (.string a2))) (by kernel_rfl) ?_ (fun hHeld=>?_)
 ·go_keep
 refine Tk 0 ?_;refine Tk 1 ?_;replace HB:Hid (Below w.heap.size w wa.drew):=HB.out.drew;replace k0:wa.drew.cell? ⟨A,0,none⟩=some (.string a0):=k0;replace k1:wa.drew.cell? ⟨A,1,none⟩=some (.string a1):=k1;replace k2:wa.drew.cell? ⟨A,2,none⟩=some (.string a2):=k2;replace Fa:A<wa.drew.heap.size:=Fa;generalize wa.drew=wd at *;refine Rx 2 fun K hK=>?_
 go_simp
 clear hHeld;refine hK.out _ _ (⟨Zdc k0,Zdc k1,Zdc k2⟩) fun hHeld=>?_;clear hK K;refine Rx 3 fun K hK=>?_
 go_simp
 refine(HW.out _ HB.out _ (by first|rfl|simp)).mono ?_;rintro e w2 ⟨rfl,hb⟩;replace k0:=(Below.cell hb (p:=⟨A,0,none⟩) Fa).trans k0;replace k1:=(Below.cell hb (p:=⟨A,1,none⟩) Fa).trans k1;replace k2:=(Below.cell hb (p:=⟨A,2,none⟩) Fa).trans k2;replace HB:Hid (Below w.heap.size w w2):=HB.out.trans (hb.mono HB.out.size);replace Fa:A<w2.heap.size:=Nat.lt_of_lt_of_le Fa hb.size;clear hb
 go_simp
 clear hHeld;refine hK.out _ _ (⟨k0,k1,k2⟩) fun hHeld=>?_;clear hK K;cases p with
 |false=>
  refine Tk 4 ?_;refine Sk 5 ?_;refine Sk 6 ?_;refine Sk 7 ?_;refine Sk 8 ?_;refine Tk 9 ?_;refine Tk 10 ?_;refine Sk 11 ?_;refine Sk 12 ?_;refine Sk 13 ?_;refine Sk 14 ?_;refine Tk 15 ?_;refine Tk 16 ?_;refine Dn ?_;clear hHeld
  go_wp2_with fail
  go_ret;exact⟨rfl,HB.out⟩
 |true=>
  refine Tk 4 ?_;refine Tk 6 ?_;refine Tk 7 ?_;refine Rx 5 fun K hK=>?_
  go_simp
  refine(dT.out _).mono ?_;rintro e w3 ⟨ad2,n2,c2,rfl,Eu,hb⟩;replace k0:=(Below.cell hb (p:=⟨A,0,none⟩) Fa).trans k0;replace k1:=(Below.cell hb (p:=⟨A,1,none⟩) Fa).trans k1;replace k2:=(Below.cell hb (p:=⟨A,2,none⟩) Fa).trans k2;replace HB:Hid (Below w.heap.size w w3):=HB.out.trans (hb.mono HB.out.size);replace Fa:A<w3.heap.size:=Nat.lt_of_lt_of_le Fa hb.size;have Ji:=Hd Eu;clear Eu hb
  go_simp
  clear hHeld;refine hK.out _ _ (⟨k0,k1,k2⟩) fun hHeld=>?_;clear hK K;refine Rx 8 fun K hK=>?_
  go_simp
  refine(Hg.out _ _ _ _ Ji.out).mono ?_;rintro e _ ⟨rfl,rfl⟩
  go_simp
  clear hHeld;refine hK.out _ _ (⟨k0,k1,k2⟩) fun hHeld=>?_;clear hK K;cases q with
  |false=>
   refine Tk 9 ?_;refine Tk 10 ?_;refine Sk 11 ?_;refine Sk 12 ?_;refine Sk 13 ?_;refine Sk 14 ?_;refine Tk 15 ?_;refine Tk 16 ?_;refine Dn ?_;clear hHeld
   go_wp2_with fail
   go_ret;exact⟨rfl,HB.out⟩
  |true=>
   refine Tk 9 ?_;refine Tk 10 ?_;refine Tk 11 ?_;refine Tk 12 ?_;refine Rx 13 fun K hK=>?_
   go_simp
   clear hHeld;refine hK.out _ _ (⟨Zdc k0,Zdc k1,Zdc k2⟩) fun hHeld=>?_;clear hK K;refine Rx 14 fun K hK=>?_
   go_simp
   refine(HT.out _ HB.out _ (by first|rfl|simp)).mono ?_;rintro e w5 ⟨rfl,hb⟩;replace k0:=(Below.cell hb (p:=⟨A,0,none⟩) Fa).trans k0;replace k1:=(Below.cell hb (p:=⟨A,1,none⟩) Fa).trans k1;replace k2:=(Below.cell hb (p:=⟨A,2,none⟩) Fa).trans k2;replace HB:Hid (Below w.heap.size w w5):=HB.out.trans (hb.mono HB.out.size);replace Fa:A<w5.heap.size:=Nat.lt_of_lt_of_le Fa hb.size;clear hb
   go_simp
   clear hHeld;refine hK.out _ _ (⟨k0,k1,k2⟩) fun hHeld=>?_;clear hK K;refine Tk 15 ?_;refine Tk 16 ?_;refine Dn ?_;clear hHeld
   go_wp2_with fail
   go_ret;exact⟨by cases r <;> rfl,HB.out⟩
theorem Zgd (n:Int)(h0:0≤n)(h1:n≤1000)(w:World)(ht:TabTen w):Calls prog 34 #[.int .i64 n] w fun e w'=>e= .returned (.string (bs (Lib.itoa n)))∧Below w.heap.size w w':=
 (ItoaOk.any (n:=n) (by omega) (by omega) ht).2 w (Below.refl _ _)
theorem Zye (s:Int×Int)(w:World)(h:0≤s.1∧s.1≤s.2∧s.2≤100)(hT:TabTen w):Calls prog 240 #[.agg #[.int .i64 s.1,.int .i64 s.2]] w fun e w'=>e= .returned (.string (bs (Zak s)))∧Below w.heap.size w w':=by
 obtain⟨a,b⟩:=s;simp only at h⊢;have HA:Hid (∀W,Below w.heap.size w W→Calls prog 34 #[.int .i64 a] W fun e w'=>e= .returned (.string (bs (Lib.itoa a)))∧Below W.heap.size W w'):=fun W hb=>Zgd a (by omega) (by omega) W (hT.below hb);have HC:Hid (∀W,Below w.heap.size w W→Calls prog 34 #[.int .i64 b] W fun e w'=>e= .returned (.string (bs (Lib.itoa b)))∧Below W.heap.size W w'):=fun W hb=>Zgd b (by omega) (by omega) W (hT.below hb);have za:(bs (Lib.itoa a)).size≤21:=by rw[Za5];exact Zd8 (by omega) (by omega)
 have zb:(bs (Lib.itoa b)).size≤21:=by rw[Za5];exact Zd8 (by omega) (by omega)
 have D5:Hid (a=b→Zak (a,b)=Lib.itoa a):=fun e=>by unfold Zak;rw[if_pos e]
 have Bj:Hid (¬a=b→bs (Zak (a,b))=bs (Lib.itoa a)++⟨#[46,46]⟩++bs (Lib.itoa b)):=fun e=>by
  unfold Zak;rw[if_neg e,show(⟨#[46,46]⟩:ByteArray)=bs [46,46]from rfl,Zd0,Zd0]
 clear h hT;generalize Zak (a,b)=T at *;generalize Lib.itoa a=A at *;generalize Lib.itoa b=C at *;have zd:(⟨#[46,46]⟩:ByteArray).size=2:=rfl;have a1:=fun w=>run_string_add_sum (P:=prog) (w:=w) (bs A) ⟨#[46,46]⟩ (by omega);have a2:=fun w=>run_string_add_sum (P:=prog) (w:=w) (bs A++⟨#[46,46]⟩) (bs C) (by rw[size_append];omega);clear za zb zd
 by_cases e:a=b
 ·have HT:=Hd (D5.out e);have b1:(a==b)=true:=beq_iff_eq.2 e;have b2:=decide_eq_true e;clear D5 Bj e
  go_enter func240,ntmps240
  go_wp2_with fail
  refine(HA.out _ ((Below.refl _ _).alloc (le_refl _) _)).mono ?_;rintro e w' ⟨rfl,hb⟩
  go_wp2_with fail
  go_ret;exact⟨by rw[HT.out];rfl,((Below.refl _ _).alloc (le_refl _) _).trans (hb.mono (by simp))⟩
 ·have HT:=Hd (Bj.out e);have b1:(a==b)=false:=beq_eq_false_iff_ne.2 e;have b2:=decide_eq_false e;clear D5 Bj e
  go_enter func240,ntmps240
  go_upto_region 3 with(fail)
  refine Zb5 ?_;intro wa B2;have HX:Hid (Cel wa w.heap.size 152 [.int .i64 a,.int .i64 b]):=by rw[B2];exact Cel.new w [.int .i64 a,.int .i64 b] 152
  have HB:Hid (Below w.heap.size w wa):=by rw[B2];exact(Below.refl _ _).alloc (le_refl _) _
  have hz:=HB.out.size;clear B2;have x0:=HX.out.cell 0;have x1:=HX.out.cell 1;have Ap:=HX.out.lt;simp only[Le0,Le1]at x0 x1;replace HA:Hid (∀W,Below wa.heap.size wa W→Calls prog 34 #[.int .i64 a] W fun e w'=>e= .returned (.string (bs A))∧Below W.heap.size W w'):=fun W g=>HA.out W (HB.out.trans (g.mono hz));replace HC:Hid (∀W,Below wa.heap.size wa W→Calls prog 34 #[.int .i64 b] W fun e w'=>e= .returned (.string (bs C))∧Below W.heap.size W w'):=fun W g=>HC.out W (HB.out.trans (g.mono hz));refine Zaq (by kernel_rfl) (by kernel_rfl) ?_
  repeat (go_big_quiet_step (first|exact Calls.ext (HA.out _ (Subtype.property _))|exact Calls.ext (HC.out _ (Subtype.property _))))
  refine wpQuiet_nil ?_;intro _ Eb;obtain⟨X9,Bo⟩:=Eb;subst Bo
  go_wp2_with fail
  go_ret;exact⟨by rw[HT.out];rfl,HB.out.trans (X9.2.mono hz)⟩
theorem Zlq {w:World} {base:Nat} {E:TypeId} {ad:Option Addr} {n c:Nat} {xs:List Value} (h:w.ownsRow base E 1 (.slice ad n c) n xs):n≤c:=by
 rcases h.2 with⟨h1,h0⟩|⟨g,cap,cur,h1,_,_,h4,_⟩
 ·omega
 ·injection h1 with _ _ h3;omega
theorem Zaeu (x:Nat→Value)(r:Rel)(w:World)(h:RelC w x r)(hp:RelF r)(hT:TabTen w):Calls prog 188 #[.agg #[x 0,x 1,x 2,x 3]] w fun e w'=>e= .returned (.string (bs (Zc9 r)))∧Below w.heap.size w w':=by
 obtain⟨h0,h1,h2,h3⟩:=h;obtain⟨op,md,neg,sp⟩:=r;simp only at h0 h1 h2 h3;obtain⟨ad,c,f,b,off,hv,hr,_,_,_,hf⟩:=h3.opn;obtain⟨n,Io⟩:∃n,sp.length=n:=⟨_,rfl⟩;have oU:1≤op∧op≤6:=hp.op;have Wu:0≤md∧md≤100:=hp.md;have Ah:1≤sp.length∧sp.length≤4:=hp.len;have aR:∀s∈sp,0≤s.1∧s.1≤s.2∧s.2≤100:=hp.sp;have U7:=Zqf hp;rw[Io]at hr Ah hv;have Hb:=Hd Io;have HR:=Hd hr;have HF:=Hd hf;obtain⟨i0,R8,Cc,Ba,A7⟩:=info_parts Zrp;have HI:=Hd R8;have Ox:=Hd Cc;have Jy:=Hd Ba;have Oy:=Hd A7;have Rc:Hid (∀s∈sp,∀W,Below w.heap.size w W→Calls prog 240 #[.agg #[.int .i64 s.1,.int .i64 s.2]] W fun e w'=>e= .returned (.string (bs (Zak s)))∧Below W.heap.size W w'):=fun s hs W hb=>Zye s W (aR s hs) (hT.below hb);have HM:Hid (∀W,Below w.heap.size w W→Calls prog 34 #[.int .i64 md] W fun e w'=>e= .returned (.string (bs (Lib.itoa md)))∧Below W.heap.size W w'):=fun W hb=>Zgd md (by omega) (by omega) W (hT.below hb);have zm:(bs (Lib.itoa md)).size≤21:=by rw[Za5];exact Zd8 (by omega) (by omega)
 have dU:Hid (Zc9 ⟨op,md,neg,sp⟩=Zkv op++(if md≠0 then [32,37,32]++Lib.itoa md else [])++(if neg then [32,33,61,32]else [32,61,32])++Lib.join (sp.map Zak) [44]):=rfl;have Vj:Hid ((sp.map Zak)=(sp.map (fun s=>bs (Zak s))).map (·.data.toList)):=by rw[Hid,map_map];rfl
 have HJ:Hid (∀W ad n c,Sl W ad n (Zae (sp.map (fun s=>bs (Zak s))))→n≤1000→n≤c→Calls prog 83 #[.slice ad n c,.string ⟨#[44]⟩] W fun e w'=>e= .returned (.string (bs (Lib.join (sp.map Zak) [44])))∧Below W.heap.size W w'):=fun W ad n c hs h1 h2=>by
  rw[Vj.out];exact Zml ad n c _ W hs (fun e=>by rw[List.map_eq_nil_iff]at e;rw[e]at Io;simp at Io;omega) (by omega) h2 ⟨#[44]⟩ (by rw[←Vj.out];exact le_trans U7 (by omega))
 have zj:(bs (Lib.join (sp.map Zak) [44])).size≤180:=by rw[Za5];exact U7
 have Gk:(Zkv op++(if md≠0 then [32,37,32]++Lib.itoa md else [])++(if neg then [32,33,61,32]else [32,61,32])).length≤60:=by
  have:=Zd8 (n:=md) (by omega) (by omega);have:(Zkv op).length=1:=rfl;simp only[List.length_append];split <;> split <;> simp only[List.length_append,List.length_cons,List.length_nil]<;> omega
 rw[h0,h1,h2,hv];generalize Zc9 ⟨op,md,neg,sp⟩=RT at *;clear h0 h1 h2 h3 hv hp hT hr hf Io R8 Cc Ba A7 Vj aR U7;generalize Lib.join (sp.map Zak) [44]=J at *;generalize Lib.itoa md=M at *;have zl:(bs (Zkv op)).size=1:=rfl;have Ky:Hid (∀W,(Instr.slice 9 (.string ⟨#[32,110,105,118,119,102,116]⟩) (some (.int .i64 op)) (some (.int .i64 (op+1))) none).run prog W= .ok (.string (bs (Zkv op))) W):=by
  intro W;obtain rfl|rfl|rfl|rfl|rfl|rfl:op=1∨op=2∨op=3∨op=4∨op=5∨op=6:=by omega
  all_goals kernel_rfl
 have F0:=Ky.out;generalize Zkv op=L at *;obtain⟨P1,dV⟩:∃P1,L++(if md≠0 then [32,37,32]++M else [])=P1:=⟨_,rfl⟩;obtain⟨P,hP⟩:∃P,P1++(if neg then [32,33,61,32]else [32,61,32])=P:=⟨_,rfl⟩;rw[Hid,dV,hP]at dU;replace dU:=Hd dU;rw[dV,hP]at Gk;have X8:(bs P1).size≤60:=by rw[Za5];rw[←hP,List.length_append]at Gk;omega
 have G8:=Hd dV;have HP:=Hd hP;clear dV hP;obtain⟨A,hA⟩:∃A,w.heap.size=A:=⟨_,rfl⟩
 go_enter func188,ntmps188
 go_upto_if 15 with(fail)
 refine Zb5 ?_;intro wa B2;have HB:Hid (Below w.heap.size w wa):=by rw[B2];exact(Below.refl _ _).alloc (le_refl _) _
 have HX:Hid (Cel wa A 94 [.int .i64 op,.int .i64 md,.bool neg,.slice ad n c]):=by rw[B2,←hA];exact Cel.new w [.int .i64 op,.int .i64 md,.bool neg,.slice ad n c] 94
 clear B2;have x1:=HX.out.cell 1;simp only[Le0,Le1]at x1;have Ap:=HX.out.lt
 go_cut [3] (fun u wx=>u= .string (bs P1)∧Cel wx A 94 [.int .i64 op,.int .i64 md,.bool neg,.slice ad n c]∧Below w.heap.size w wx)
 case first=>
  by_cases e:md=0
  ·have hp:=G8.out;rw[if_neg (show¬md≠0 from fun g=>g e),List.append_nil]at hp;have b1:(md !=0)=false:=by rw[bne,beq_iff_eq.2 e];rfl
   have HQ:=Hd hp;clear e hp HM;rw[b1]
   go_wp2_with fail
   go_meet
   exact⟨by rw[HQ.out],HX.out,HB.out⟩
  ·have hp:=G8.out;rw[if_pos e]at hp;have b1:(md !=0)=true:=by rw[bne,beq_eq_false_iff_ne.2 e];rfl
   have zp:(⟨#[32,37,32]⟩:ByteArray).size=3:=rfl;have a1:=fun w=>run_string_add_sum (P:=prog) (w:=w) ⟨#[32,37,32]⟩ (bs M) (by omega);have a2:=fun w=>run_string_add_sum (P:=prog) (w:=w) (bs L) (⟨#[32,37,32]⟩++bs M) (by rw[size_append];omega);have HQ:Hid (bs L++(⟨#[32,37,32]⟩++bs M)=bs P1):=by rw[Hid,←hp,show(⟨#[32,37,32]⟩:ByteArray)=bs [32,37,32]from rfl,Zd0,Zd0]
   rw[HQ.out]at a2;clear e hp zp HQ;rw[b1]
   go_wp2_with fail
   refine(HM.out _ HB.out).mono ?_;rintro e wb ⟨rfl,hb⟩;replace HX:=Hd (HX.out.below hb);replace HB:=Hd (HB.out.trans (hb.mono HB.out.size));clear hb
   go_wp2_with fail
   go_meet
   exact⟨rfl,HX.out,HB.out⟩
 case rest=>
  obtain⟨rfl,hx,hb⟩:=hcut;replace HX:=Hd hx;replace HB:=Hd hb;clear hx hb x1 Ap HM;have x2:=HX.out.cell 2;simp only[Le0,Le1]at x2;have Ap:=HX.out.lt
  go_upto_if 23 with(fail)
  go_cut [3] (fun u wx=>u= .string (bs P)∧Cel wx A 94 [.int .i64 op,.int .i64 md,.bool neg,.slice ad n c]∧Below w.heap.size w wx)
  case first=>
   cases neg with
   |true=>
    have zn:(⟨#[32,33,61,32]⟩:ByteArray).size=4:=rfl;have a3:=fun w=>run_string_add_sum (P:=prog) (w:=w) (bs P1) ⟨#[32,33,61,32]⟩ (by omega);have HQ:Hid (bs P1++⟨#[32,33,61,32]⟩=bs P):=by rw[Hid,←HP.out,if_pos rfl,show(⟨#[32,33,61,32]⟩:ByteArray)=bs [32,33,61,32]from rfl,Zd0]
    rw[HQ.out]at a3;clear zn HQ
    go_wp2_with fail
    go_meet
    exact⟨rfl,HX.out,HB.out⟩
   |false=>
    have zn:(⟨#[32,61,32]⟩:ByteArray).size=3:=rfl;have a3:=fun w=>run_string_add_sum (P:=prog) (w:=w) (bs P1) ⟨#[32,61,32]⟩ (by omega);have HQ:Hid (bs P1++⟨#[32,61,32]⟩=bs P):=by rw[Hid,←HP.out,if_neg (show¬(false=true) by simp),show(⟨#[32,61,32]⟩:ByteArray)=bs [32,61,32]from rfl,Zd0]
    rw[HQ.out]at a3;clear zn HQ
    go_wp2_with fail
    go_meet
    exact⟨rfl,HX.out,HB.out⟩
  case rest=>
   obtain⟨rfl,hx,hb⟩:=hcut;replace HX:=Hd hx;replace HB:=Hd hb;clear hx hb x2 Ap G8 HP X8 zl zm;have zs:(bs P).size≤60:=by rw[Za5];exact Gk
   have a4:=fun w=>run_string_add_sum (P:=prog) (w:=w) (bs P) (bs J) (by omega);clear zj zs;have hz:=HB.out.size;have aT:=HX.out.cell 3;simp only[Le0,Le1]at aT;have Ap:=HX.out.lt
   go_wp2_with fail
   go_loopw [4,31] (fun u i wr=>∃(k:Nat) (ad':Option Addr) (c':Nat),i= .int .i64 (k:Int)∧k≤n∧u= .slice ad' k c'∧wr.ownsRow w.heap.size 9 1 (.slice ad' k c') k (Zae ((sp.take k).map (fun s=>bs (Zak s))))∧Below w.heap.size w wr) (fun _ i _=>n -(intOf i).toNat)
   case atStart=>exact⟨0,none,0,rfl,zero_le _,rfl,ownsRow_nil _ _ _ _,HB.out⟩
   case round=>
    obtain⟨k,ad',c',rfl,Co,rfl,Ab,Ak⟩:=hrel;have Ad:=Hd Ab;have Ac:=Hd Ak;have Bl:=Ak.size;clear Ab Ak
    by_cases Aa:k<n
    ·have A4:=HR.out.below Ac.out;have Ci:=fun W=>A4.ix 92 152 underlying92 (by kernel_rfl) (by omega) Aa c W;have c0:=A4.cell k 0 Aa (by omega);have c1:=A4.cell k 1 Aa (by omega);have F8:k<sp.length:=by rw[Hb.out];exact Aa
     obtain⟨e0,e1⟩:=HF.out k F8;rw[e0,add_zero]at c0;rw[e1]at c1;have Ds:Hid ((sp.take (k+1)).map (fun s=>bs (Zak s))=(sp.take k).map (fun s=>bs (Zak s))++[bs (Zak sp[k])]):=by
      unfold Hid;rw[List.take_succ_eq_append_getElem F8,map_append];rfl
     have O9:=Hd (Rc.out sp[k] (getElem_mem F8));clear A4 e0 e1;generalize bs (Zak sp[k])=q at *;generalize sp[k]=s at *;obtain⟨s1,s2⟩:=s;simp only at c0 c1;replace O9:Hid (∀W,Below w.heap.size w W→Calls prog 240 #[.agg #[.int .i64 s1,.int .i64 s2]] W fun e w'=>e= .returned (.string q)∧Below W.heap.size W w'):=O9.out
     go_wp2_with fail
     refine(O9.out _ (Ac.out.alloc Bl _)).mono ?_;rintro e w2 ⟨rfl,Ag⟩;replace Ag:=((Below.refl wr.heap.size wr).alloc (le_refl _) _).trans (Ag.mono (by simp));have U6:=Hd (Zci Ad.out Ag);have N4:=Hd (Ac.out.trans (Ag.mono Bl));have Q9:=N4.out.size;clear Ag Ad O9
     go_wp2_with (at_builtin;refine Zgj 44 9 16 underlying44 i0 _ HI.out Ox.out Jy.out Oy.out rfl rfl _ _ rfl w.heap.size ad' k c' _ rfl U6.out _ _ rfl rfl (by unfold maxLen;omega) (by omega) Q9 ?_;intro ad6 c6 w3 Ae Ax A5 Rb;have N5:=Hd Ae;have C3:=Hd Ax;clear Ae Ax A5 Rb)
     go_roundw
     case rel=>exact⟨k+1,ad6,c6,by go_num,by omega,rfl,by rw[Ds.out,Zkx];exact N5.out,N4.out.trans C3.out⟩
     case measure=>simp[intOf];omega
    ·obtain rfl:k=n:=by omega
     have HE:Hid (wr.ownsRow w.heap.size 9 1 (.slice ad' k c') k (Zae (sp.map (fun s=>bs (Zak s))))):=by
      have:=Ad.out
      rwa [List.take_of_length_le (by rw[Hb.out];exact le_refl _)]at this
     have W8:=Hd (HJ.out wr ad' k c' (Own.sl HE.out) (by omega) (Zlq HE.out))
     go_wp2_with fail
     refine W8.out.mono ?_;rintro e w5 ⟨rfl,Ig⟩;have L7:Hid (Below w.heap.size w w5):=Ac.out.trans (Ig.mono Bl);clear Ig
     go_wp2_with fail
     go_ret;exact⟨by rw[dU.out,←Zd0];rfl,L7.out⟩
def Zj5 (c:List (List Rel)):List UInt8×Nat:=if Zbw c then(Zad c,0)else([],1)
theorem Zup (v:Value)(cs:List (List Rel))(w:World)(h:CondAt w v cs)(hl:cs.length≤30)(hT:TabTen w):Calls prog 135 #[v] w fun e w'=>e= .returned (.tuple #[.string (bs (Zj5 cs).1),.int .i64 ((Zj5 cs).2:Nat)])∧Below w.heap.size w w':=by
 have HV:=Hd (Zow v cs w h hl);obtain⟨ad,c,f,b,off,rfl,hr,_,_,_,hf⟩:=h.opn;obtain⟨n,Io⟩:∃n,cs.length=n:=⟨_,rfl⟩;rw[Io]at hr hl HV⊢;cases hv:Zbw cs with
 |false=>
  have HO:Hid (Zj5 cs=([],1)):=by unfold Hid Zj5;rw[hv];rfl
  rw[Hid,hv]at HV;replace HV:=Hd HV;rw[HO.out];simp only;clear hr hf h Io hT
  go_enter func135,ntmps135
  go_wp2_with fail
  refine HV.out.mono ?_;rintro e w2 ⟨rfl,hb⟩;have HB:=Hd hb;clear hb
  go_wp2_with fail
  go_ret2
  exact⟨rfl,HB.out⟩
 |true=>
  have HO:Hid (Zj5 cs=(Zad cs,0)):=by unfold Hid Zj5;rw[hv];rfl
  have Wv:=Zko hv;rw[Hid,hv]at HV;replace HV:=Hd HV;rw[HO.out];simp only;have Hb:=Hd Io;have HR:=Hd hr;have HF:=Hd hf;have kC:=Hd Wv.each;have HT:=Hd hT;obtain⟨i0,R8,Cc,Ba,A7⟩:=info_parts Zrp;have HI:=Hd R8;have Ox:=Hd Cc;have Jy:=Hd Ba;have Oy:=Hd A7;have Vj:Hid ((cs.map Zce)=(cs.map (fun l=>bs (Zce l))).map (·.data.toList)):=by rw[Hid,map_map];rfl
  have Hg:Hid (Lib.join (cs.map Zce) [32,111,114,32]=Zad cs):=rfl;have Ij:=Znd Wv;have HJ:Hid (∀W ad n c,Sl W ad n (Zae (cs.map (fun l=>bs (Zce l))))→n≤1000→n≤c→Calls prog 83 #[.slice ad n c,.string ⟨#[32,111,114,32]⟩] W fun e w'=>e= .returned (.string (bs (Zad cs)))∧Below W.heap.size W w'):=fun W ad n c hs h1 h2=>by
   rw[←Hg.out,Vj.out];exact Zml ad n c _ W hs (fun e=>by rw[List.map_eq_nil_iff]at e;exact Wv.pos e) (by omega) h2 ⟨#[32,111,114,32]⟩ (by rw[←Vj.out];exact le_trans Ij (by omega))
  clear h hr hf Io hT R8 Cc Ba A7 Vj Hg Ij Wv HO
  go_enter func135,ntmps135
  go_wp2_with fail
  refine HV.out.mono ?_;rintro e w2 ⟨rfl,hb⟩;have HB:=Hd hb;have dN:=hb.size;clear hb HV
  go_wp2_with fail
  go_loopw [4,15] (fun u i wr=>∃(k:Nat) (ad':Option Addr) (c':Nat),i= .int .i64 (k:Int)∧k≤n∧u= .slice ad' k c'∧wr.ownsRow w.heap.size 9 1 (.slice ad' k c') k (Zae ((cs.take k).map (fun l=>bs (Zce l))))∧Below w.heap.size w wr) (fun _ i _=>n -(intOf i).toNat)
  case atStart=>exact⟨0,none,0,rfl,zero_le _,rfl,ownsRow_nil _ _ _ _,HB.out⟩
  case round=>
   obtain⟨k,ad',c',rfl,Co,rfl,Ab,Ak⟩:=hrel;have Ad:=Hd Ab;have Ac:=Hd Ak;have Bl:=Ak.size;clear Ab Ak
   by_cases Aa:k<n
   ·have A4:=HR.out.below Ac.out;have Ci:=fun W=>A4.ix 48 91 underlying48 (by kernel_rfl) (by omega) Aa c W;rw[Nat.mul_one]at Ci;have c0:wr.cell? ⟨b,off+k,none⟩=some (f k 0):=by have:=A4.cell k 0 Aa (by omega);rwa [Nat.mul_one,add_zero]at this
    have F8:k<cs.length:=by rw[Hb.out];exact Aa
    have Ez:RowsOf 4 RelC wr (f k 0) cs[k]:=RowsOf.map (HF.out k F8) Ac.out fun _ _ h=>h.below Ac.out;obtain⟨ad2,c2,f2,b2,off2,Gt,Eo,_,_,_,Fw⟩:=Ez.opn;rw[Gt]at c0;have Ds:Hid ((cs.take (k+1)).map (fun l=>bs (Zce l))=(cs.take k).map (fun l=>bs (Zce l))++[bs (Zce cs[k])]):=by
     unfold Hid;rw[List.take_succ_eq_append_getElem F8,map_append];rfl
    obtain⟨Az,cD,kD⟩:=kC.out cs[k] (getElem_mem F8);have tE:=Hd kD;have oV:=Zvd cD kD;have Vk:Hid ((cs[k].map Zc9)=(cs[k].map (fun r=>bs (Zc9 r))).map (·.data.toList)):=by rw[Hid,map_map];rfl
    have W8:Hid (∀W ad n c,Sl W ad n (Zae (cs[k].map (fun r=>bs (Zc9 r))))→n≤1000→n≤c→Calls prog 83 #[.slice ad n c,.string ⟨#[32,97,110,100,32]⟩] W fun e w'=>e= .returned (.string (bs (Zce cs[k])))∧Below W.heap.size W w'):=fun W ad n c hs h1 h2=>by
     rw[show Zce cs[k]=Lib.join (cs[k].map Zc9) [32,97,110,100,32]from rfl,Vk.out];exact Zml ad n c _ W hs (fun e=>by rw[List.map_eq_nil_iff]at e;exact Az e) (by omega) h2 ⟨#[32,97,110,100,32]⟩ (by rw[←Vk.out];exact le_trans oV (by omega))
    have Ar:=Hd Eo;have G0:=Hd Fw;have Tv:Hid (TabTen wr):=HT.out.below Ac.out;clear A4 Ez Gt Eo Fw Az kD oV Vk;generalize bs (Zce cs[k])=q at *;generalize cs[k]=ls at *;obtain⟨m,Ou⟩:∃m,ls.length=m:=⟨_,rfl⟩;rw[Ou]at cD c0;rw[Hid,Ou]at Ar;replace Ar:=Hd Ar;have oW:=Hd Ou;clear Ou
    rename World=>wo
    go_wp2_with fail
    go_loopw [7,21] (fun u i wi=>∃(j:Nat) (ad3:Option Addr) (c3:Nat),i= .int .i64 (j:Int)∧j≤m∧u= .slice ad3 j c3∧wi.ownsRow wo.heap.size 9 1 (.slice ad3 j c3) j (Zae ((ls.take j).map (fun r=>bs (Zc9 r))))∧Below wo.heap.size wo wi) (fun _ i _=>m -(intOf i).toNat)
    case atStart=>exact⟨0,none,0,rfl,zero_le _,rfl,ownsRow_nil _ _ _ _,Below.refl _ _⟩
    case round=>
     obtain⟨j,ad3,c3,rfl,Wm,rfl,S3,Fe⟩:=hrel;have dW:=Hd S3;have C8:=Hd Fe;have O8:=Fe.size;clear S3 Fe
     by_cases W9:j<m
     ·have A4:=Ar.out.below C8.out;have Ci:=fun W=>A4.ix 91 94 underlying91 (by kernel_rfl) (by omega) W9 c2 W;have r0:=A4.cell j 0 W9 (by omega);have r1:=A4.cell j 1 W9 (by omega);have r2:=A4.cell j 2 W9 (by omega);have r3:=A4.cell j 3 W9 (by omega);have Wy:j<ls.length:=by rw[oW.out];exact W9
      have kE:=G0.out j Wy;have kF:=kE;obtain⟨e0,e1,e2,e3⟩:=kF;obtain⟨ad4,c4,Vm⟩:=RowsOf.shape e3;rw[e0,add_zero]at r0;rw[e1]at r1;rw[e2]at r2;rw[Vm]at r3;have kG:Hid ((ls.take (j+1)).map (fun r=>bs (Zc9 r))=(ls.take j).map (fun r=>bs (Zc9 r))++[bs (Zc9 ls[j])]):=by
       unfold Hid;rw[List.take_succ_eq_append_getElem Wy,map_append];rfl
      have O9:Hid (∀W,Below wo.heap.size wo W→Calls prog 188 #[.agg #[.int .i64 ls[j].op,.int .i64 ls[j].md,.bool ls[j].neg,.slice ad4 ls[j].sp.length c4]] W fun e w'=>e= .returned (.string (bs (Zc9 ls[j])))∧Below W.heap.size W w'):=fun W g=>by
       have:=Zaeu (f2 j) ls[j] W (kE.below g) (tE.out _ (getElem_mem Wy)) (Tv.out.below g)
       rwa [e0,e1,e2,Vm]at this
      clear A4 kE e0 e1 e2 e3 Vm;generalize bs (Zc9 ls[j])=q2 at *;generalize ls[j].op=o1 at *;generalize ls[j].md=o2 at *;generalize ls[j].neg=o3 at *;generalize ls[j].sp.length=o4 at *
      go_wp2_with fail
      refine(O9.out _ (C8.out.alloc O8 _)).mono ?_;rintro e w5 ⟨rfl,Ig⟩;replace Ig:=((Below.refl wr.heap.size wr).alloc (le_refl _) _).trans (Ig.mono (by simp));have U6:=Hd (Zci dW.out Ig);have N4:=Hd (C8.out.trans (Ig.mono O8));have Q9:=N4.out.size;clear Ig dW O9
      go_wp2_with (at_builtin;refine Zgj 44 9 16 underlying44 i0 _ HI.out Ox.out Jy.out Oy.out rfl rfl _ _ rfl wo.heap.size ad3 j c3 _ rfl U6.out _ _ rfl rfl (by unfold maxLen;omega) (by omega) Q9 ?_;intro ad6 c6 w6 El Iu Ql nW;have aU:=Hd El;have Ju:=Hd Iu;clear El Iu Ql nW)
      go_roundw
      case rel=>exact⟨j+1,ad6,c6,by go_num,by omega,rfl,by rw[kG.out,Zkx];exact aU.out,N4.out.trans Ju.out⟩
      case measure=>simp[intOf];omega
     ·obtain rfl:j=m:=by omega
      have HE:Hid (wr.ownsRow wo.heap.size 9 1 (.slice ad3 j c3) j (Zae (ls.map (fun r=>bs (Zc9 r))))):=by
       have:=dW.out
       rwa [List.take_of_length_le (by rw[oW.out];exact le_refl _)]at this
      have Xq:=Hd (W8.out wr ad3 j c3 (Own.sl HE.out) (by omega) (Zlq HE.out));clear W8 HE dW
      go_wp2_with fail
      refine Xq.out.mono ?_;rintro e w7 ⟨rfl,P2⟩;have kH:Below wo.heap.size wo w7:=C8.out.trans (P2.mono O8);have U6:=Hd (Zci Ad.out kH);have N4:=Hd (Ac.out.trans (kH.mono Bl));have Q9:=N4.out.size;clear P2 kH Ad Xq
      go_wp2_with (at_builtin;refine Zgj 44 9 16 underlying44 i0 _ HI.out Ox.out Jy.out Oy.out rfl rfl _ _ rfl w.heap.size ad' k c' _ rfl U6.out _ _ rfl rfl (by unfold maxLen;omega) (by omega) Q9 ?_;intro ad9 c9 w9 S4 Oh tF tG;have aV:=Hd S4;have kI:=Hd Oh;clear S4 Oh tF tG)
      go_roundw
      case rel=>exact⟨k+1,ad9,c9,by go_num,by omega,rfl,by rw[Ds.out,Zkx];exact aV.out,N4.out.trans kI.out⟩
      case measure=>simp[intOf];omega
   ·obtain rfl:k=n:=by omega
    have HE:Hid (wr.ownsRow w.heap.size 9 1 (.slice ad' k c') k (Zae (cs.map (fun l=>bs (Zce l))))):=by
     have:=Ad.out
     rwa [List.take_of_length_le (by rw[Hb.out];exact le_refl _)]at this
    have W8:=Hd (HJ.out wr ad' k c' (Own.sl HE.out) (by omega) (Zlq HE.out))
    go_wp2_with fail
    refine W8.out.mono ?_;rintro e w5 ⟨rfl,Ig⟩;have L7:Hid (Below w.heap.size w w5):=Ac.out.trans (Ig.mono Bl);clear Ig
    go_wp2_with fail
    go_ret2
    exact⟨rfl,L7.out⟩
end Go.Proofs.YtmleeodfmmpdgaaGreatDoor
