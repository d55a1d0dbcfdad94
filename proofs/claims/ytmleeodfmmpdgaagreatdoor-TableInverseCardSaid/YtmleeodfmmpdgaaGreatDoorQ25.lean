/- The box of a locale that is read: its cells, and its rows, which are of one's own. -/
import Derived.Test.YtmleeodfmmpdgaaGreatDoorQ24
set_option maxRecDepth 20000
set_option maxHeartbeats 2000000
namespace Go.Proofs.YtmleeodfmmpdgaaGreatDoor
open Go.RowKit
open _root_.Nat (le_refl le_trans zero_le)
theorem Zbp:∀a b x y,Sub a b→RuleC a x y→RuleC b x y:=fun _ _ _ _ h g=>g.sub h
theorem Zel:∀(a b:World) x y,Sub a b→LpC a x y→LpC b x y:=fun _ _ _ _ _ g=>g.at
theorem Zek:∀(a b:World) x y,Sub a b→UpC a x y→UpC b x y:=fun _ _ _ _ _ g=>g.at
theorem Zen:∀(a b:World) x y,Sub a b→DpC a x y→DpC b x y:=fun _ _ _ _ _ g=>g.at
theorem Zbd:∀(a b:World) x y,Sub a b→OneS a x y→OneS b x y:=fun _ _ _ _ _ g=>g
def Apart (v u:Value):Prop:=∀k,v.ownBlock=some k→u.ownBlock=some k→False
theorem Apart.none (u:Value)(n c:Nat):Apart (.slice none n c) u:=fun _ h=>by cases h
theorem Apart.swap {v u:Value} (h:Apart v u):Apart u v:=fun k h1 h2=>h k h2 h1
theorem Grow.keep2 {α:Type} {E:TypeId} {k:Nat} {C:World→(Nat→Value)→α→Prop} {base:Nat} {ts:List TypeId} {w w':World} {v:Value} {l:List α} (h:Grow E k C base ts w v l)(hC:∀a b x y,Sub a b→C a x y→C b x y)
  (hr:∀i,i<w.heap.size→v.ownBlock=some i→w'.heap[i]? =w.heap[i]?) (hk:KpT base ts w w'):Grow E k C base ts w' v l:=by
 obtain⟨f,h1,h2⟩:=h;refine⟨f,⟨h1.1,?_⟩,fun i x hx=>hC _ _ _ _ (Zf8 hk) (h2 i x hx)⟩;rcases h1.2 with g|⟨g,cap,cur,g1,g2,g3,g4⟩
 ·exact .inl g
 ·exact .inr ⟨g,cap,cur,g1,g2,(hr g (Array.getElem?_eq_some_iff.1 g3).1 (by rw[g1];rfl)).trans g3,g4⟩
theorem Grow.lt {α:Type} {E:TypeId} {k:Nat} {C:World→(Nat→Value)→α→Prop} {base:Nat} {ts:List TypeId} {w:World} {v:Value} {l:List α} (h:Grow E k C base ts w v l) {i:Nat} (hi:v.ownBlock=some i):base≤i∧i<w.heap.size:=by
 obtain⟨f,h1,_⟩:=h;exact World.ownsRow.lt h1 i hi
theorem Grow.ty {α:Type} {E:TypeId} {k:Nat} {C:World→(Nat→Value)→α→Prop} {base:Nat} {ts:List TypeId} {w:World} {v:Value} {l:List α} (h:Grow E k C base ts w v l) {i:Nat} (hi:v.ownBlock=some i):Zcg w i=some E:=by
 obtain⟨f,h1,_⟩:=h;exact Zej h1 hi
theorem Rd.ty {w:World} {b:Nat} {E:Int} {r:RS} (h:Rd w b E r):Zcg w b=some 67:=by
 obtain⟨_,_,_,_,h1,_⟩:=h;exact Zk5 h1
structure LocV (base:Nat) (w:World) (L:Nat) (y:Lc) (v3 v4 v11 v12 v13 v14 v15:Value):Prop where
 cel:Cel w L 46 [.string y.tag,.string y.par,.string y.dir,v3,v4,.string y.dec,.string y.grp,.string y.mi,.string y.pct,.int .i64 y.pri,.int .i64 y.sec,v11,v12,v13,v14,v15]
 low:base≤L
 g3:Grow 51 2 RuleC base [91,94,152] w v3 y.card
 g4:Grow 51 2 RuleC base [91,94,152] w v4 y.ord
 g11:Grow 130 5 LpC base ([]:List TypeId) w v11 y.lists
 g12:Grow 132 3 UpC base ([]:List TypeId) w v12 y.units
 g13:Grow 134 2 DpC base ([]:List TypeId) w v13 y.dates
 g14:Grow 9 1 OneS base ([]:List TypeId) w v14 y.months
 g15:Grow 9 1 OneS base ([]:List TypeId) w v15 y.days
 ap:Apart v3 v4
def Zrj:List TypeId:=[46,51,91,94,152,130,132,134,9]
section
variable {base : Nat} {w w' : World} {L : Nat} {y : Lc} {v3 v4 v11 v12 v13 v14 v15 : Value} {b : Nat} {E : Int} {r : RS}
theorem LocV.ty (h:LocV base w L y v3 v4 v11 v12 v13 v14 v15):Zcg w L=some 46:=Zk5 h.cel
theorem LocV.kp (h:LocV base w L y v3 v4 v11 v12 v13 v14 v15) {P:Nat→Bool} (k:Kp P w w')(hP:∀i T,P i=true→Zcg w i=some T→T∉Zrj):LocV base w' L y v3 v4 v11 v12 v13 v14 v15:=by
 have hL:P L=false:=by
  cases hp:P L with
  |false=>rfl
  |true=>exact absurd (show 46∈Zrj by decide) (hP L _ hp h.ty)
 have kk:∀ts,(∀T,T∈ts→T∈Zrj)→KpT base ts w w':=fun ts hs=>k.kpt fun i T _ hp ht hm=>hP i T hp ht (hs T hm);exact⟨h.cel.kp k hL,h.low,h.g3.keep Zbp (kk _ (by decide)),h.g4.keep Zbp (kk _ (by decide)),h.g11.keep Zel (kk _ (by decide)),h.g12.keep Zek (kk _ (by decide)),h.g13.keep Zen (kk _ (by decide)),h.g14.keep Zbd (kk _ (by decide)),h.g15.keep Zbd (kk _ (by decide)),h.ap⟩
theorem LocV.below (h:LocV base w L y v3 v4 v11 v12 v13 v14 v15)(k:Below w.heap.size w w'):LocV base w' L y v3 v4 v11 v12 v13 v14 v15:=h.kp (P:=fun _=>false) (Za4 k) (fun _ _ h=>by cases h)
theorem LocV.rd (h:LocV base w L y v3 v4 v11 v12 v13 v14 v15)(hr:Rd w b E r)(k:Kp (Zaf b) w w'):LocV base w' L y v3 v4 v11 v12 v13 v14 v15:=h.kp k fun i T hp ht=>by
 obtain rfl:i=b:=of_decide_eq_true hp;rw[hr.ty]at ht;injection ht with ht;subst ht;decide
theorem LocV.celG (h:LocV base w L y v3 v4 v11 v12 v13 v14 v15)(hr:Rd w b E r) {α:Type} {T:TypeId} {k0:Nat} {C:World→(Nat→Value)→α→Prop} {ts:List TypeId} {v:Value} {l:List α} (g:Grow T k0 C base ts w v l)(k:Kp (Za7 b v) w w')(hT:46≠T):Cel w' L 46 [.string y.tag,.string y.par,.string y.dir,v3,v4,.string y.dec,.string y.grp,.string y.mi,.string y.pct,.int .i64 y.pri,.int .i64 y.sec,v11,v12,v13,v14,v15]:=h.cel.kp k (by
 cases hq:Za7 b v L with
 |false=>rfl
 |true=>
  unfold Za7 at hq;rw[Bool.or_eq_true,decide_eq_true_eq,decide_eq_true_eq]at hq;rcases hq with e|e
  ·have h1:=h.ty;rw[e,hr.ty]at h1;exact absurd h1 (by decide)
  ·have h1:=h.ty;rw[g.ty e]at h1;injection h1 with h1;exact absurd h1.symm hT)
theorem LocV.dir (h:LocV base w L y v3 v4 v11 v12 v13 v14 v15)(s:ByteArray):LocV base (w.setCell ⟨L,2,none⟩ (.string s)) L { y with dir:=s } v3 v4 v11 v12 v13 v14 v15:=by
 have ks:∀ts,46∉ts→KpT base ts w (w.setCell ⟨L,2,none⟩ (.string s)):=fun ts ht=>Zcd (a:=⟨L,2,none⟩) h.cel base ht _;exact⟨h.cel.set 2 _,h.low,h.g3.keep Zbp (ks _ (by decide)),h.g4.keep Zbp (ks _ (by decide)),h.g11.keep Zel (ks _ (by decide)),h.g12.keep Zek (ks _ (by decide)),h.g13.keep Zen (ks _ (by decide)),h.g14.keep Zbd (ks _ (by decide)),h.g15.keep Zbd (ks _ (by decide)),h.ap⟩
theorem LocV.dec (h:LocV base w L y v3 v4 v11 v12 v13 v14 v15)(s:ByteArray):LocV base (w.setCell ⟨L,5,none⟩ (.string s)) L { y with dec:=s } v3 v4 v11 v12 v13 v14 v15:=by
 have ks:∀ts,46∉ts→KpT base ts w (w.setCell ⟨L,5,none⟩ (.string s)):=fun ts ht=>Zcd (a:=⟨L,5,none⟩) h.cel base ht _;exact⟨h.cel.set 5 _,h.low,h.g3.keep Zbp (ks _ (by decide)),h.g4.keep Zbp (ks _ (by decide)),h.g11.keep Zel (ks _ (by decide)),h.g12.keep Zek (ks _ (by decide)),h.g13.keep Zen (ks _ (by decide)),h.g14.keep Zbd (ks _ (by decide)),h.g15.keep Zbd (ks _ (by decide)),h.ap⟩
theorem LocV.grp (h:LocV base w L y v3 v4 v11 v12 v13 v14 v15)(s:ByteArray):LocV base (w.setCell ⟨L,6,none⟩ (.string s)) L { y with grp:=s } v3 v4 v11 v12 v13 v14 v15:=by
 have ks:∀ts,46∉ts→KpT base ts w (w.setCell ⟨L,6,none⟩ (.string s)):=fun ts ht=>Zcd (a:=⟨L,6,none⟩) h.cel base ht _;exact⟨h.cel.set 6 _,h.low,h.g3.keep Zbp (ks _ (by decide)),h.g4.keep Zbp (ks _ (by decide)),h.g11.keep Zel (ks _ (by decide)),h.g12.keep Zek (ks _ (by decide)),h.g13.keep Zen (ks _ (by decide)),h.g14.keep Zbd (ks _ (by decide)),h.g15.keep Zbd (ks _ (by decide)),h.ap⟩
theorem LocV.mi (h:LocV base w L y v3 v4 v11 v12 v13 v14 v15)(s:ByteArray):LocV base (w.setCell ⟨L,7,none⟩ (.string s)) L { y with mi:=s } v3 v4 v11 v12 v13 v14 v15:=by
 have ks:∀ts,46∉ts→KpT base ts w (w.setCell ⟨L,7,none⟩ (.string s)):=fun ts ht=>Zcd (a:=⟨L,7,none⟩) h.cel base ht _;exact⟨h.cel.set 7 _,h.low,h.g3.keep Zbp (ks _ (by decide)),h.g4.keep Zbp (ks _ (by decide)),h.g11.keep Zel (ks _ (by decide)),h.g12.keep Zek (ks _ (by decide)),h.g13.keep Zen (ks _ (by decide)),h.g14.keep Zbd (ks _ (by decide)),h.g15.keep Zbd (ks _ (by decide)),h.ap⟩
theorem LocV.pct (h:LocV base w L y v3 v4 v11 v12 v13 v14 v15)(s:ByteArray):LocV base (w.setCell ⟨L,8,none⟩ (.string s)) L { y with pct:=s } v3 v4 v11 v12 v13 v14 v15:=by
 have ks:∀ts,46∉ts→KpT base ts w (w.setCell ⟨L,8,none⟩ (.string s)):=fun ts ht=>Zcd (a:=⟨L,8,none⟩) h.cel base ht _;exact⟨h.cel.set 8 _,h.low,h.g3.keep Zbp (ks _ (by decide)),h.g4.keep Zbp (ks _ (by decide)),h.g11.keep Zel (ks _ (by decide)),h.g12.keep Zek (ks _ (by decide)),h.g13.keep Zen (ks _ (by decide)),h.g14.keep Zbd (ks _ (by decide)),h.g15.keep Zbd (ks _ (by decide)),h.ap⟩
theorem LocV.pri (h:LocV base w L y v3 v4 v11 v12 v13 v14 v15)(s:Int):LocV base (w.setCell ⟨L,9,none⟩ (.int .i64 s)) L { y with pri:=s } v3 v4 v11 v12 v13 v14 v15:=by
 have ks:∀ts,46∉ts→KpT base ts w (w.setCell ⟨L,9,none⟩ (.int .i64 s)):=fun ts ht=>Zcd (a:=⟨L,9,none⟩) h.cel base ht _;exact⟨h.cel.set 9 _,h.low,h.g3.keep Zbp (ks _ (by decide)),h.g4.keep Zbp (ks _ (by decide)),h.g11.keep Zel (ks _ (by decide)),h.g12.keep Zek (ks _ (by decide)),h.g13.keep Zen (ks _ (by decide)),h.g14.keep Zbd (ks _ (by decide)),h.g15.keep Zbd (ks _ (by decide)),h.ap⟩
theorem LocV.sec (h:LocV base w L y v3 v4 v11 v12 v13 v14 v15)(s:Int):LocV base (w.setCell ⟨L,10,none⟩ (.int .i64 s)) L { y with sec:=s } v3 v4 v11 v12 v13 v14 v15:=by
 have ks:∀ts,46∉ts→KpT base ts w (w.setCell ⟨L,10,none⟩ (.int .i64 s)):=fun ts ht=>Zcd (a:=⟨L,10,none⟩) h.cel base ht _;exact⟨h.cel.set 10 _,h.low,h.g3.keep Zbp (ks _ (by decide)),h.g4.keep Zbp (ks _ (by decide)),h.g11.keep Zel (ks _ (by decide)),h.g12.keep Zek (ks _ (by decide)),h.g13.keep Zen (ks _ (by decide)),h.g14.keep Zbd (ks _ (by decide)),h.g15.keep Zbd (ks _ (by decide)),h.ap⟩
theorem LocV.card (h:LocV base w L y v3 v4 v11 v12 v13 v14 v15)(hr:Rd w b E r)(k:Kp (Za7 b v3) w w') {v':Value} {l':List (ByteArray×List (List Rel))} (g:Grow 51 2 RuleC base [91,94,152] w' v' l')(hp:v'.ownBlock=v3.ownBlock∨∃q,v'.ownBlock=some q∧w.heap.size≤q):LocV base (w'.setCell ⟨L,3,none⟩ v') L { y with card:=l' } v' v4 v11 v12 v13 v14 v15:=by
 have hT:∀i U,Za7 b v3 i=true→Zcg w i=some U→U=67∨U=51:=fun i U hq ht=>by
  unfold Za7 at hq;rw[Bool.or_eq_true,decide_eq_true_eq,decide_eq_true_eq]at hq;rcases hq with e|e
  ·rw[e,hr.ty]at ht;injection ht with ht;exact .inl ht.symm
  ·rw[h.g3.ty e]at ht;injection ht with ht;exact .inr ht.symm
 have hc:Cel w' L 46 [.string y.tag,.string y.par,.string y.dir,v3,v4,.string y.dec,.string y.grp,.string y.mi,.string y.pct,.int .i64 y.pri,.int .i64 y.sec,v11,v12,v13,v14,v15]:=h.cel.kp k (by
  cases hp:Za7 b v3 L with
  |false=>rfl
  |true=>rcases hT L _ hp h.ty with e|e <;> exact absurd e (by decide))
 have kk:∀ts,67∉ts→51∉ts→KpT base ts w w':=fun ts h1 h2=>k.kpt fun i U _ hq ht=>by
  rcases hT i U hq ht with e|e <;> rw[e]<;> assumption
 have ks:∀ts,46∉ts→KpT base ts w' (w'.setCell ⟨L,3,none⟩ v'):=fun ts ht=>Zcd (a:=⟨L,3,none⟩) hc base ht _;have Yj:Apart v3 v4:=h.ap;have Uq:∀i,i<w.heap.size→v4.ownBlock=some i→w'.heap[i]? =w.heap[i]? :=fun i hi hv=>k.block i hi (by
  cases hq:Za7 b v3 i with
  |false=>rfl
  |true=>
   unfold Za7 at hq;rw[Bool.or_eq_true,decide_eq_true_eq,decide_eq_true_eq]at hq;rcases hq with e|e
   ·have h1:=h.g4.ty hv;rw[e,hr.ty]at h1;exact absurd h1 (by decide)
   ·exact(Yj i e hv).elim)
 have Ur:Apart v' v4:=fun i h1 h2=>by
  rcases hp with e|⟨q,e,hq⟩
  ·exact Yj i (e▸h1) h2
  ·rw[e]at h1;injection h1 with h1;have:=(h.g4.lt h2).2;omega
 exact⟨hc.set 3 _,h.low,g.keep Zbp (ks _ (by decide)),(h.g4.keep2 Zbp Uq (kk _ (by decide) (by decide))).keep Zbp (ks _ (by decide)),(h.g11.keep Zel (kk _ (by decide) (by decide))).keep Zel (ks _ (by decide)),(h.g12.keep Zek (kk _ (by decide) (by decide))).keep Zek (ks _ (by decide)),(h.g13.keep Zen (kk _ (by decide) (by decide))).keep Zen (ks _ (by decide)),(h.g14.keep Zbd (kk _ (by decide) (by decide))).keep Zbd (ks _ (by decide)),(h.g15.keep Zbd (kk _ (by decide) (by decide))).keep Zbd (ks _ (by decide)),Ur⟩
theorem LocV.ord (h:LocV base w L y v3 v4 v11 v12 v13 v14 v15)(hr:Rd w b E r)(k:Kp (Za7 b v4) w w') {v':Value} {l':List (ByteArray×List (List Rel))} (g:Grow 51 2 RuleC base [91,94,152] w' v' l')(hp:v'.ownBlock=v4.ownBlock∨∃q,v'.ownBlock=some q∧w.heap.size≤q):LocV base (w'.setCell ⟨L,4,none⟩ v') L { y with ord:=l' } v3 v' v11 v12 v13 v14 v15:=by
 have hT:∀i U,Za7 b v4 i=true→Zcg w i=some U→U=67∨U=51:=fun i U hq ht=>by
  unfold Za7 at hq;rw[Bool.or_eq_true,decide_eq_true_eq,decide_eq_true_eq]at hq;rcases hq with e|e
  ·rw[e,hr.ty]at ht;injection ht with ht;exact .inl ht.symm
  ·rw[h.g4.ty e]at ht;injection ht with ht;exact .inr ht.symm
 have hc:Cel w' L 46 [.string y.tag,.string y.par,.string y.dir,v3,v4,.string y.dec,.string y.grp,.string y.mi,.string y.pct,.int .i64 y.pri,.int .i64 y.sec,v11,v12,v13,v14,v15]:=h.cel.kp k (by
  cases hp:Za7 b v4 L with
  |false=>rfl
  |true=>rcases hT L _ hp h.ty with e|e <;> exact absurd e (by decide))
 have kk:∀ts,67∉ts→51∉ts→KpT base ts w w':=fun ts h1 h2=>k.kpt fun i U _ hq ht=>by
  rcases hT i U hq ht with e|e <;> rw[e]<;> assumption
 have ks:∀ts,46∉ts→KpT base ts w' (w'.setCell ⟨L,4,none⟩ v'):=fun ts ht=>Zcd (a:=⟨L,4,none⟩) hc base ht _;have Yj:Apart v4 v3:=h.ap.swap;have Uq:∀i,i<w.heap.size→v3.ownBlock=some i→w'.heap[i]? =w.heap[i]? :=fun i hi hv=>k.block i hi (by
  cases hq:Za7 b v4 i with
  |false=>rfl
  |true=>
   unfold Za7 at hq;rw[Bool.or_eq_true,decide_eq_true_eq,decide_eq_true_eq]at hq;rcases hq with e|e
   ·have h1:=h.g3.ty hv;rw[e,hr.ty]at h1;exact absurd h1 (by decide)
   ·exact(Yj i e hv).elim)
 have Ur:Apart v' v3:=fun i h1 h2=>by
  rcases hp with e|⟨q,e,hq⟩
  ·exact Yj i (e▸h1) h2
  ·rw[e]at h1;injection h1 with h1;have:=(h.g3.lt h2).2;omega
 exact⟨hc.set 4 _,h.low,(h.g3.keep2 Zbp Uq (kk _ (by decide) (by decide))).keep Zbp (ks _ (by decide)),g.keep Zbp (ks _ (by decide)),(h.g11.keep Zel (kk _ (by decide) (by decide))).keep Zel (ks _ (by decide)),(h.g12.keep Zek (kk _ (by decide) (by decide))).keep Zek (ks _ (by decide)),(h.g13.keep Zen (kk _ (by decide) (by decide))).keep Zen (ks _ (by decide)),(h.g14.keep Zbd (kk _ (by decide) (by decide))).keep Zbd (ks _ (by decide)),(h.g15.keep Zbd (kk _ (by decide) (by decide))).keep Zbd (ks _ (by decide)),Ur.swap⟩
theorem LocV.lists (h:LocV base w L y v3 v4 v11 v12 v13 v14 v15)(hr:Rd w b E r)(k:Kp (Za7 b v11) w w') {v':Value} {l':List Lp} (g:Grow 130 5 LpC base ([]:List TypeId) w' v' l'):LocV base (w'.setCell ⟨L,11,none⟩ v') L { y with lists:=l' } v3 v4 v' v12 v13 v14 v15:=by
 have hT:∀i U,Za7 b v11 i=true→Zcg w i=some U→U=67∨U=130:=fun i U hq ht=>by
  unfold Za7 at hq;rw[Bool.or_eq_true,decide_eq_true_eq,decide_eq_true_eq]at hq;rcases hq with e|e
  ·rw[e,hr.ty]at ht;injection ht with ht;exact .inl ht.symm
  ·rw[h.g11.ty e]at ht;injection ht with ht;exact .inr ht.symm
 have hc:Cel w' L 46 [.string y.tag,.string y.par,.string y.dir,v3,v4,.string y.dec,.string y.grp,.string y.mi,.string y.pct,.int .i64 y.pri,.int .i64 y.sec,v11,v12,v13,v14,v15]:=h.cel.kp k (by
  cases hp:Za7 b v11 L with
  |false=>rfl
  |true=>rcases hT L _ hp h.ty with e|e <;> exact absurd e (by decide))
 have kk:∀ts,67∉ts→130∉ts→KpT base ts w w':=fun ts h1 h2=>k.kpt fun i U _ hq ht=>by
  rcases hT i U hq ht with e|e <;> rw[e]<;> assumption
 have ks:∀ts,46∉ts→KpT base ts w' (w'.setCell ⟨L,11,none⟩ v'):=fun ts ht=>Zcd (a:=⟨L,11,none⟩) hc base ht _;exact⟨hc.set 11 _,h.low,(h.g3.keep Zbp (kk _ (by decide) (by decide))).keep Zbp (ks _ (by decide)),(h.g4.keep Zbp (kk _ (by decide) (by decide))).keep Zbp (ks _ (by decide)),g.keep Zel (ks _ (by decide)),(h.g12.keep Zek (kk _ (by decide) (by decide))).keep Zek (ks _ (by decide)),(h.g13.keep Zen (kk _ (by decide) (by decide))).keep Zen (ks _ (by decide)),(h.g14.keep Zbd (kk _ (by decide) (by decide))).keep Zbd (ks _ (by decide)),(h.g15.keep Zbd (kk _ (by decide) (by decide))).keep Zbd (ks _ (by decide)),h.ap⟩
theorem LocV.units (h:LocV base w L y v3 v4 v11 v12 v13 v14 v15)(hr:Rd w b E r)(k:Kp (Za7 b v12) w w') {v':Value} {l':List Up} (g:Grow 132 3 UpC base ([]:List TypeId) w' v' l'):LocV base (w'.setCell ⟨L,12,none⟩ v') L { y with units:=l' } v3 v4 v11 v' v13 v14 v15:=by
 have hT:∀i U,Za7 b v12 i=true→Zcg w i=some U→U=67∨U=132:=fun i U hq ht=>by
  unfold Za7 at hq;rw[Bool.or_eq_true,decide_eq_true_eq,decide_eq_true_eq]at hq;rcases hq with e|e
  ·rw[e,hr.ty]at ht;injection ht with ht;exact .inl ht.symm
  ·rw[h.g12.ty e]at ht;injection ht with ht;exact .inr ht.symm
 have hc:Cel w' L 46 [.string y.tag,.string y.par,.string y.dir,v3,v4,.string y.dec,.string y.grp,.string y.mi,.string y.pct,.int .i64 y.pri,.int .i64 y.sec,v11,v12,v13,v14,v15]:=h.cel.kp k (by
  cases hp:Za7 b v12 L with
  |false=>rfl
  |true=>rcases hT L _ hp h.ty with e|e <;> exact absurd e (by decide))
 have kk:∀ts,67∉ts→132∉ts→KpT base ts w w':=fun ts h1 h2=>k.kpt fun i U _ hq ht=>by
  rcases hT i U hq ht with e|e <;> rw[e]<;> assumption
 have ks:∀ts,46∉ts→KpT base ts w' (w'.setCell ⟨L,12,none⟩ v'):=fun ts ht=>Zcd (a:=⟨L,12,none⟩) hc base ht _;exact⟨hc.set 12 _,h.low,(h.g3.keep Zbp (kk _ (by decide) (by decide))).keep Zbp (ks _ (by decide)),(h.g4.keep Zbp (kk _ (by decide) (by decide))).keep Zbp (ks _ (by decide)),(h.g11.keep Zel (kk _ (by decide) (by decide))).keep Zel (ks _ (by decide)),g.keep Zek (ks _ (by decide)),(h.g13.keep Zen (kk _ (by decide) (by decide))).keep Zen (ks _ (by decide)),(h.g14.keep Zbd (kk _ (by decide) (by decide))).keep Zbd (ks _ (by decide)),(h.g15.keep Zbd (kk _ (by decide) (by decide))).keep Zbd (ks _ (by decide)),h.ap⟩
theorem LocV.dates (h:LocV base w L y v3 v4 v11 v12 v13 v14 v15)(hr:Rd w b E r)(k:Kp (Za7 b v13) w w') {v':Value} {l':List Dp} (g:Grow 134 2 DpC base ([]:List TypeId) w' v' l'):LocV base (w'.setCell ⟨L,13,none⟩ v') L { y with dates:=l' } v3 v4 v11 v12 v' v14 v15:=by
 have hT:∀i U,Za7 b v13 i=true→Zcg w i=some U→U=67∨U=134:=fun i U hq ht=>by
  unfold Za7 at hq;rw[Bool.or_eq_true,decide_eq_true_eq,decide_eq_true_eq]at hq;rcases hq with e|e
  ·rw[e,hr.ty]at ht;injection ht with ht;exact .inl ht.symm
  ·rw[h.g13.ty e]at ht;injection ht with ht;exact .inr ht.symm
 have hc:Cel w' L 46 [.string y.tag,.string y.par,.string y.dir,v3,v4,.string y.dec,.string y.grp,.string y.mi,.string y.pct,.int .i64 y.pri,.int .i64 y.sec,v11,v12,v13,v14,v15]:=h.cel.kp k (by
  cases hp:Za7 b v13 L with
  |false=>rfl
  |true=>rcases hT L _ hp h.ty with e|e <;> exact absurd e (by decide))
 have kk:∀ts,67∉ts→134∉ts→KpT base ts w w':=fun ts h1 h2=>k.kpt fun i U _ hq ht=>by
  rcases hT i U hq ht with e|e <;> rw[e]<;> assumption
 have ks:∀ts,46∉ts→KpT base ts w' (w'.setCell ⟨L,13,none⟩ v'):=fun ts ht=>Zcd (a:=⟨L,13,none⟩) hc base ht _;exact⟨hc.set 13 _,h.low,(h.g3.keep Zbp (kk _ (by decide) (by decide))).keep Zbp (ks _ (by decide)),(h.g4.keep Zbp (kk _ (by decide) (by decide))).keep Zbp (ks _ (by decide)),(h.g11.keep Zel (kk _ (by decide) (by decide))).keep Zel (ks _ (by decide)),(h.g12.keep Zek (kk _ (by decide) (by decide))).keep Zek (ks _ (by decide)),g.keep Zen (ks _ (by decide)),(h.g14.keep Zbd (kk _ (by decide) (by decide))).keep Zbd (ks _ (by decide)),(h.g15.keep Zbd (kk _ (by decide) (by decide))).keep Zbd (ks _ (by decide)),h.ap⟩
theorem LocV.months (h:LocV base w L y v3 v4 v11 v12 v13 v14 v15) {v':Value} {l':List ByteArray} (g:Grow 9 1 OneS base ([]:List TypeId) w v' l'):LocV base (w.setCell ⟨L,14,none⟩ v') L { y with months:=l' } v3 v4 v11 v12 v13 v' v15:=by
 have ks:∀ts,46∉ts→KpT base ts w (w.setCell ⟨L,14,none⟩ v'):=fun ts ht=>Zcd (a:=⟨L,14,none⟩) h.cel base ht _;exact⟨h.cel.set 14 _,h.low,h.g3.keep Zbp (ks _ (by decide)),h.g4.keep Zbp (ks _ (by decide)),h.g11.keep Zel (ks _ (by decide)),h.g12.keep Zek (ks _ (by decide)),h.g13.keep Zen (ks _ (by decide)),g.keep Zbd (ks _ (by decide)),h.g15.keep Zbd (ks _ (by decide)),h.ap⟩
theorem LocV.days (h:LocV base w L y v3 v4 v11 v12 v13 v14 v15) {v':Value} {l':List ByteArray} (g:Grow 9 1 OneS base ([]:List TypeId) w v' l'):LocV base (w.setCell ⟨L,15,none⟩ v') L { y with days:=l' } v3 v4 v11 v12 v13 v14 v':=by
 have ks:∀ts,46∉ts→KpT base ts w (w.setCell ⟨L,15,none⟩ v'):=fun ts ht=>Zcd (a:=⟨L,15,none⟩) h.cel base ht _;exact⟨h.cel.set 15 _,h.low,h.g3.keep Zbp (ks _ (by decide)),h.g4.keep Zbp (ks _ (by decide)),h.g11.keep Zel (ks _ (by decide)),h.g12.keep Zek (ks _ (by decide)),h.g13.keep Zen (ks _ (by decide)),h.g14.keep Zbd (ks _ (by decide)),g.keep Zbd (ks _ (by decide)),h.ap⟩
end
def Zcj (b base k:Nat):Bool:=decide (k=b)||decide (base≤k)
theorem Zq8 {b base k:Nat} (h:Zaf b k=true):Zcj b base k=true:=by unfold Zcj;rw[show decide (k=b)=true from h];rfl
theorem Zug {b base k:Nat} (h:base≤k):Zcj b base k=true:=by unfold Zcj;rw[decide_eq_true h,Bool.or_true]
theorem Znq {b base k:Nat} (h1:k≠b)(h2:k<base):Zcj b base k=false:=by unfold Zcj;rw[decide_eq_false h1,decide_eq_false (by omega)];rfl
theorem Kp.item {b base:Nat} {w w':World} (h:Kp (Zaf b) w w'):Kp (Zcj b base) w w':=h.le fun _ _ g=>Zq8 g
theorem Kp.itemG {b base:Nat} {w w':World} {α:Type} {E:TypeId} {k:Nat} {C:World→(Nat→Value)→α→Prop} {base':Nat} {ts:List TypeId} {v:Value} {l:List α} (h:Kp (Za7 b v) w w')(g:Grow E k C base' ts w v l)(hb:base≤base'):Kp (Zcj b base) w w':=
 h.le fun i _ hq=>by
  unfold Za7 at hq;rw[Bool.or_eq_true,decide_eq_true_eq,decide_eq_true_eq]at hq;rcases hq with e|e
  ·rw[e];exact Zq8 (Za8 b)
  ·exact Zug (le_trans hb (g.lt e).1)
theorem Kp.itemS {b base:Nat} {a w:World} (h:Kp (Zcj b base) a w) {p:Addr} (hp:base≤p.block)(u:Value):Kp (Zcj b base) a (w.setCell p u):=h.set (Zug hp) u
def LocAt (base:Nat)(w:World)(L:Nat)(y:Lc):Prop:=∃v3 v4 v11 v12 v13 v14 v15,LocV base w L y v3 v4 v11 v12 v13 v14 v15
theorem LocAt.kp {base:Nat} {w w':World} {L:Nat} {y:Lc} (h:LocAt base w L y) {P:Nat→Bool} (k:Kp P w w')(hP:∀i T,P i=true→Zcg w i=some T→T∉Zrj):LocAt base w' L y:=by
 obtain⟨_,_,_,_,_,_,_,h⟩:=h;exact⟨_,_,_,_,_,_,_,h.kp k hP⟩
theorem LocAt.below {base:Nat} {w w':World} {L:Nat} {y:Lc} (h:LocAt base w L y)(k:Below w.heap.size w w'):LocAt base w' L y:=h.kp (P:=fun _=>false) (Za4 k) (fun _ _ h=>by cases h)
theorem LocAt.rd {base:Nat} {w w':World} {L:Nat} {y:Lc} {b:Nat} {E:Int} {r:RS} (h:LocAt base w L y)(hr:Rd w b E r)(k:Kp (Zaf b) w w'):LocAt base w' L y:=by
 obtain⟨_,_,_,_,_,_,_,h⟩:=h;exact⟨_,_,_,_,_,_,_,h.rd hr k⟩
theorem LocAt.lt {base:Nat} {w:World} {L:Nat} {y:Lc} (h:LocAt base w L y):base≤L∧L<w.heap.size:=by
 obtain⟨_,_,_,_,_,_,_,h⟩:=h;exact⟨h.low,h.cel.lt⟩
def Zd5 (b:Nat)(E:Int)(base L:Nat)(w:World)(q:Lc×RS)(e:Ending)(w':World):Prop:=e= .returned (.tuple #[])∧LocAt base w' L q.1∧Rd w' b E q.2∧Kp (Zcj b base) w w'
def MaxAt (base:Nat)(w:World):Prop:=MaxLen w∧1<base
theorem MaxAt.kp {b base:Nat} {E:Int} {r:RS} {w w':World} (h:MaxAt base w)(hr:Rd w b E r)(k:Kp (Zcj b base) w w'):MaxAt base w':=by
 obtain⟨⟨m,hm⟩,hg⟩:=h;refine⟨⟨m,k.cell (Znq ?_ hg) hm⟩,hg⟩;intro e;have e:1=b:=e;obtain⟨_,_,_,_,h1,_⟩:=hr;rw[e,h1.cell 0]at hm;simp at hm
attribute [local go_sem] Ext.cell Ext.frozen
attribute [local go_sem ↓] Go.wp_at_zero Go.wp_at_succ
def RS.number (E max:Int)(r:RS):Int×RS:=
 (((Zcn (r.peek E).2.1).1:Int),((if(r.peek E).1=1∧(Zcn (r.peek E).2.1).2=true then(if max<((Zcn (r.peek E).2.1).1:Int)then r.fail E 2 else r)else r.fail E 3).word E).2)
theorem Znp (b:Nat)(E max:Int)(r:RS)(w:World)(h:Rd w b E r):Calls Tryz.prog 61 #[.pointer (some ⟨b,0,none⟩),.int .i64 max] w (RdP b E (.int .i64 (r.number E max).1) (r.number E max).2 w):=by
 have HP:=Hd (Ze7 b E r w h);have HF:=Hd (fun e W (g:Rd W b E r)=>Zfo b E r e W g);have HT:=Hd (fun r W (g:Rd W b E r)=>Zdr b E r W g);have HR:=Hd h;have Ah:=h.peek_len;have HV:Hid (r.number E max=(((Zcn (r.peek E).2.1).1:Int),((if(r.peek E).1=1∧(Zcn (r.peek E).2.1).2=true then(if max<((Zcn (r.peek E).2.1).1:Int)then r.fail E 2 else r)else r.fail E 3).word E).2)):=rfl;unfold RdP at HF HT⊢;unfold Zgr at HP;clear h;generalize r.number E max=res at *;generalize r.peek E=t at *;obtain⟨k',s',f⟩:=t;simp only at HP HV Ah;have I0:=Hd (Zxa s' Ah);unfold Zla at I0;generalize Zcn s'=nw at *;obtain⟨nv,ok⟩:=nw;simp only at I0 HV;obtain⟨z,hz⟩:∃z:Int,(nv:Int)=z:=⟨_,rfl⟩;rw[hz]at I0 HV;clear hz nv Ah;generalize bs s'=S at *
 go_enter Tryz.func61,Tryz.ntmps61
 go_wp2_with fail
 refine HP.out.mono ?_;rintro _ w1 ⟨rfl,hb⟩;have HB:=Hd hb;have As:=Hd (HR.out.below hb);clear hb HR HP
 go_upto_region 2 with(fail)
 have Ai:Hid (Below w.heap.size w (w1.alloc (.cells #[.int .i64 k',.string S,.int .i64 f] 109))):=HB.out.alloc HB.out.size _;have Ar:=Hd (As.out.below (Bel.alloc (Bel.refl w1) (.cells #[.int .i64 k',.string S,.int .i64 f] 109)));have HX:Hid (Cel (w1.alloc (.cells #[.int .i64 k',.string S,.int .i64 f] 109)) w1.heap.size 109 [.int .i64 k',.string S,.int .i64 f]):=Cel.new w1 _ _;have Po:b<w1.heap.size:=As.out.lt;generalize w1.alloc (.cells #[.int .i64 k',.string S,.int .i64 f] 109)=w2 at *;obtain⟨B,hB⟩:∃B,w1.heap.size=B:=⟨_,rfl⟩;rw[hB]at HX Po⊢;clear hB HB As;have x0:=HX.out.cell 0;have x1:=HX.out.cell 1;have x2:=HX.out.cell 2;simp only[Le0,Le1]at x0 x1 x2;obtain⟨c2,c3,f2,f3,f0⟩:=Ar.out.cells
 go_wp2_with fail
 refine(I0.out _).mono ?_;rintro _ w3 ⟨rfl,Ax⟩;have Aq:=Hd (Ar.out.below Ax);have An:=Hd ((Za4 Ai.out).trans (Za4 Ax):Kp (Zaf b) w w3);have Bg:=Hd (HX.out.below Ax);have y0:=Bg.out.cell 0;simp only[Le0]at y0;have cX:=Bg.out.lt;clear Ax Ar HX Ai x0 x1 x2 c2 c3 f2 f3 f0
 by_cases hk:k'=1
 ·subst hk;cases ok with
  |true=>
   simp only[and_self,if_true]at HV
   by_cases hm:max<z
   ·rw[if_pos hm]at HV;have Wu:decide (max<z)=true:=decide_eq_true hm;have Du:=Hd (HF.out 2 _ Aq.out)
    go_wp2_with fail
    refine Du.out.mono ?_;rintro _ w4 ⟨rfl,B4,A8⟩;have Bk:=Hd B4;have Bh:=Hd (An.out.trans A8);clear B4 A8;have Fu:=Hd (HT.out (r.fail E 2) _ Bk.out)
    go_wp2_with fail
    refine Fu.out.mono ?_;rintro _ w5 ⟨rfl,Bw,A9⟩;have Cg:=Hd Bw;have Bv:=Hd (Bh.out.trans A9);clear Bw A9
    go_wp2_with fail
    go_ret;exact⟨by rw[HV.out];rfl,by rw[HV.out];exact Cg.out,Bv.out⟩
   ·rw[if_neg hm]at HV;have Wu:decide (max<z)=false:=decide_eq_false hm;have Fu:=Hd (HT.out r _ Aq.out)
    go_wp2_with fail
    refine Fu.out.mono ?_;rintro _ w5 ⟨rfl,Bw,A9⟩;have Cg:=Hd Bw;have Bv:=Hd (An.out.trans A9);clear Bw A9
    go_wp2_with fail
    go_ret;exact⟨by rw[HV.out];rfl,by rw[HV.out];exact Cg.out,Bv.out⟩
  |false=>
   rw[if_neg (by simp)]at HV;have Du:=Hd (HF.out 3 _ Aq.out)
   go_wp2_with fail
   refine Du.out.mono ?_;rintro _ w4 ⟨rfl,B4,A8⟩;have Bk:=Hd B4;have Bh:=Hd (An.out.trans A8);clear B4 A8;have Fu:=Hd (HT.out (r.fail E 3) _ Bk.out)
   go_wp2_with fail
   refine Fu.out.mono ?_;rintro _ w5 ⟨rfl,Bw,A9⟩;have Cg:=Hd Bw;have Bv:=Hd (Bh.out.trans A9);clear Bw A9
   go_wp2_with fail
   go_ret;exact⟨by rw[HV.out];rfl,by rw[HV.out];exact Cg.out,Bv.out⟩
 ·rw[if_neg (fun h=>hk h.1)]at HV;have hy:(k'==1)=false:=by simpa using hk
  have M5:(k' !=1)=true:=by rw[bne,hy];rfl
  cases ok
  ·have Du:=Hd (HF.out 3 _ Aq.out)
   go_wp2_with fail
   refine Du.out.mono ?_;rintro _ w4 ⟨rfl,B4,A8⟩;have Bk:=Hd B4;have Bh:=Hd (An.out.trans A8);clear B4 A8;have Fu:=Hd (HT.out (r.fail E 3) _ Bk.out)
   go_wp2_with fail
   refine Fu.out.mono ?_;rintro _ w5 ⟨rfl,Bw,A9⟩;have Cg:=Hd Bw;have Bv:=Hd (Bh.out.trans A9);clear Bw A9
   go_wp2_with fail
   go_ret;exact⟨by rw[HV.out];rfl,by rw[HV.out];exact Cg.out,Bv.out⟩
  ·have Du:=Hd (HF.out 3 _ Aq.out)
   go_wp2_with fail
   refine Du.out.mono ?_;rintro _ w4 ⟨rfl,B4,A8⟩;have Bk:=Hd B4;have Bh:=Hd (An.out.trans A8);clear B4 A8;have Fu:=Hd (HT.out (r.fail E 3) _ Bk.out)
   go_wp2_with fail
   refine Fu.out.mono ?_;rintro _ w5 ⟨rfl,Bw,A9⟩;have Cg:=Hd Bw;have Bv:=Hd (Bh.out.trans A9);clear Bw A9
   go_wp2_with fail
   go_ret;exact⟨by rw[HV.out];rfl,by rw[HV.out];exact Cg.out,Bv.out⟩
def dirL:List ByteArray:=[bs [108,116,114],bs [114,116,108]]
def unitL:List ByteArray:=classL++[bs [111,116,104,101,114]]
def gS (l:List ByteArray)(i:Nat):ByteArray:=l.getD i .empty
def Zhr (l:List (ByteArray×List (List Rel)))(x:ByteArray):Bool:=Zai (fun i=>decide ((l.getD i (.empty,[])).1=x)) l.length
def Zoi (l:List Lp)(x:ByteArray):Bool:=Zai (fun i=>decide ((l.getD i default).style=x)) l.length
def Zmp (l:List Up)(x z:ByteArray):Bool:=Zai (fun i=>decide ((l.getD i default).unit=x∧(l.getD i default).cls=z)) l.length
def Zof (l:List Dp)(x:ByteArray):Bool:=Zai (fun i=>decide ((l.getD i default).skel=x)) l.length
def Zcc (lim:Int)(n:Nat):Bool:=decide (lim≤(n:Int))
def Zh1 (s:ByteArray):Bool:= !decide (s.size=0)
def Zrk (E p:Int)(y:Lc)(r:RS):Lc×RS:=
 ({ y with dir:=bs (r.one E dirL).1 },((r.one E dirL).2.mark E [59]).once p (Zh1 y.dir))
def Zp3 (E p:Int)(y:Lc)(r:RS):Lc×RS:=
 ({ y with card:=y.card++[(r.rule E).1] },(r.rule E).2.add p (Zhr y.card (r.rule E).1.1) (Zcc 5 y.card.length))
def Zro (E p:Int)(y:Lc)(r:RS):Lc×RS:=
 ({ y with ord:=y.ord++[(r.rule E).1] },(r.rule E).2.add p (Zhr y.ord (r.rule E).1.1) (Zcc 5 y.ord.length))
def RS.sym0 (E:Int)(r:RS):RS:=if r.is E 2 []then r.fail E 3 else r
def RS.sym (E:Int)(r:RS):(List ByteArray×Int×Int)×RS:=
 let t:=RS.texts0 E 4 (r.sym0 E)
 let a:=t.2.number E 9
 let c:=a.2.number E 9
 ((t.1,a.1,c.1),c.2.mark E [59])
def Zrr (E p:Int)(y:Lc)(r:RS):Lc×RS:=
 ({ y with dec:=gS (r.sym E).1.1 0,grp:=gS (r.sym E).1.1 1,mi:=gS (r.sym E).1.1 2,pct:=gS (r.sym E).1.1 3,pri:=(r.sym E).1.2.1,sec:=(r.sym E).1.2.2 },(r.sym E).2.once p (Zh1 y.dec))
def RS.lp (E:Int)(r:RS):Lp×RS:=
 let k:=r.word E
 let t:=RS.texts0 E 4 k.2
 (⟨bs k.1,gS t.1 0,gS t.1 1,gS t.1 2,gS t.1 3⟩,t.2.mark E [59])
def Zo8 (E p:Int)(y:Lc)(r:RS):Lc×RS:=
 ({ y with lists:=y.lists++[(r.lp E).1] },(r.lp E).2.add p (Zoi y.lists (r.lp E).1.style) (Zcc 10 y.lists.length))
def RS.up (E:Int)(r:RS):Up×RS:=
 let k:=r.word E
 let c:=k.2.one E unitL
 let t:=c.2.text E
 (⟨bs k.1,bs c.1,bs t.1⟩,t.2.mark E [59])
def Zoz (E p:Int)(y:Lc)(r:RS):Lc×RS:=
 ({ y with units:=y.units++[(r.up E).1] },(r.up E).2.add p (Zmp y.units (r.up E).1.unit (r.up E).1.cls) (Zcc 100 y.units.length))
def RS.dp (E:Int)(r:RS):Dp×RS:=
 let k:=r.word E
 let t:=k.2.text E
 (⟨bs k.1,bs t.1⟩,t.2.mark E [59])
def Zo9 (E p:Int)(y:Lc)(r:RS):Lc×RS:=
 ({ y with dates:=y.dates++[(r.dp E).1] },(r.dp E).2.add p (Zof y.dates (r.dp E).1.skel) (Zcc 30 y.dates.length))
def Zkh (E p:Int)(y:Lc)(r:RS):Lc×RS:=
 ({ y with months:=(RS.texts0 E 12 r).1 },((RS.texts0 E 12 r).2.mark E [59]).once p (!decide (y.months.length=0)))
def Zo1 (E p:Int)(y:Lc)(r:RS):Lc×RS:=
 ({ y with days:=(RS.texts0 E 7 r).1 },((RS.texts0 E 7 r).2.mark E [59]).once p (!decide (y.days.length=0)))
def itN:Nat→Int→Int→Lc→RS→Lc×RS
 |0=>Zrk
 |1=>Zp3
 |2=>Zro
 |3=>Zrr
 |4=>Zo8
 |5=>Zoz
 |6=>Zo9
 |7=>Zkh
 |_=>Zo1
def keyL:List (List UInt8):=[[100,105,114,101,99,116,105,111,110],[99,97,114,100,105,110,97,108],[111,114,100,105,110,97,108],[115,121,109,98,111,108,115],[108,105,115,116],[117,110,105,116],[100,97,116,101],[109,111,110,116,104,115],[100,97,121,115]]
def Zgy (t:Tz)(i:Nat):Bool:=decide (t.1=1)&&decide (bs (keyL.getD i [])=bs t.2.1)
def tItem (E:Int)(y:Lc)(r:RS):Lc×RS:=
 if Zc2 (Zgy (r.peek E)) 9<0 then(y,r.fail E 3)else itN (Zc2 (Zgy (r.peek E)) 9).toNat E (r.peek E).2.2 y (r.word E).2
def tItems (E:Int):Nat→Lc→RS→Lc×RS
 |0,y,r=>(y,r)
 |n+1,y,r=>if r.e=0∧r.is E 3 [125]=false then tItems E n (tItem E y r).1 (tItem E y r).2 else(y,r)
def lc0 (tag par:ByteArray):Lc:=⟨tag,par,.empty,[],[],.empty,.empty,.empty,.empty,0,0,[],[],[],[],[]⟩
def RS.head (E:Int)(r:RS):(ByteArray×ByteArray)×RS:=
 let k:=r.word E
 if k.2.is E 1 [112,97,114,101,110,116]then((bs k.1,bs ((k.2.word E).2.word E).1),((k.2.word E).2.word E).2)else((bs k.1,.empty),k.2)
def tLocale (E:Int)(r:RS):Lc×RS:=
 let h:=r.head E
 let q:=h.2.mark E [123]
 let t:=tItems E (q.l.length+1) (lc0 h.1.1 h.1.2) q
 (t.1,t.2.mark E [125])
def tLim (p:Int)(full:Bool)(r:RS):RS:=if full then r.failAt p 6 else r
def RS.al (E:Int)(r:RS):Al×RS:=
 let k:=r.word E
 let t:=k.2.word E
 (⟨bs k.1,bs t.1⟩,t.2.mark E [59])
def RS.ne (E:Int)(r:RS):Ne×RS:=
 let k:=r.word E
 let t:=k.2.word E
 let c:=t.2.number E 1000
 (⟨bs k.1,bs t.1,c.1⟩,c.2.mark E [59])
def Zax (E:Int)(t:Tb)(r:RS):Tb×RS:=
 let at_:=(r.peek E).2.2
 if r.is E 1 [108,111,99,97,108,101]then
  (let q:=tLocale E (r.word E).2;({ t with locs:=t.locs++[q.1] },tLim at_ (decide (60<t.locs.length+1)) q.2))
 else if r.is E 1 [97,108,105,97,115]then
  (let q:=RS.al E (r.word E).2;({ t with als:=t.als++[q.1] },tLim at_ (decide (200<t.als.length+1)) q.2))
 else if r.is E 1 [110,101,97,114]then
  (let q:=RS.ne E (r.word E).2;({ t with near:=t.near++[q.1] },tLim at_ (decide (200<t.near.length+1)) q.2))
 else(t,r.fail E 3)
def Zbn (E:Int):Nat→Tb→RS→Tb×RS
 |0,t,r=>(t,r)
 |n+1,t,r=>if r.e=0∧r.l≠[]then Zbn E n (Zax E t r).1 (Zax E t r).2 else(t,r)
def RsOk (r:RS):Prop:=∀t∈r.l,t.2.1.length≤200000
theorem RS.failAt_l (p e:Int)(r:RS):(r.failAt p e).l=r.l:=by
 unfold RS.failAt;split <;> rfl
theorem RS.fail_l (E e:Int)(r:RS):(r.fail E e).l=r.l:=RS.failAt_l _ _ _
theorem RsOk.fail {E e:Int} {r:RS} (h:RsOk r):RsOk (r.fail E e):=by unfold RsOk;rw[RS.fail_l];exact h
theorem RsOk.peek {E:Int} {r:RS} (h:RsOk r):(r.peek E).2.1.length≤200000:=by
 unfold RS.peek;cases hl:r.l with
 |nil=>simp
 |cons t l=>exact h t (by rw[hl];exact List.mem_cons_self)
theorem RsOk.drop {r:RS} (h:RsOk r):RsOk r.drop:=fun t ht=>h t (List.mem_of_mem_tail ht)
theorem RsOk.take {E k:Int} {r:RS} (h:RsOk r):(r.take E k).1.length≤200000∧RsOk (r.take E k).2:=by
 unfold RS.take;have hq:RsOk (if(r.peek E).1=k then r else r.fail E 3):=by split;exact h;exact h.fail
 generalize (if(r.peek E).1=k then r else r.fail E 3)=q at *;dsimp only;split
 ·exact⟨h.peek,hq.drop⟩
 ·exact⟨zero_le _,hq⟩
theorem RsOk.texts {E:Int} :∀(n:Nat) (out:List ByteArray) {r:RS},RsOk r→(∀s∈out,s.size≤200000)→(∀s∈(RS.texts E n out r).1,s.size≤200000)∧RsOk (RS.texts E n out r).2
 |0,out,r,h,ho=>⟨ho,h⟩
 |n+1,out,r,h,ho=>by
  have h1:=h.take (E:=E) (k:=2);refine RsOk.texts n (out++[bs (r.text E).1]) h1.2 fun s hs=>?_;rcases List.mem_append.1 hs with g|g
  ·exact ho s g
  ·rw[List.mem_singleton.1 g,Za5];exact h1.1
theorem RsOk.texts0 {E:Int} (n:Nat) {r:RS} (h:RsOk r):(∀s∈(RS.texts0 E n r).1,s.size≤200000)∧RsOk (RS.texts0 E n r).2:=RsOk.texts n [] h fun s hs=>by cases hs
theorem Ziu {l:List ByteArray} {m:Nat} (h:∀s∈l,s.size≤m)(i:Nat):(gS l i).size≤m:=by
 unfold gS;rw[List.getD_eq_getElem?_getD];cases e:l[i]? with
 |none=>exact zero_le _
 |some s=>exact h s (List.mem_of_getElem? e)
theorem RsOk.one {E:Int} {l:List ByteArray} {r:RS} (h:RsOk r):(r.one E l).1.length≤200000∧RsOk (r.one E l).2:=by
 unfold RS.one;refine RsOk.take ?_;split
 ·exact h.fail
 ·exact h
theorem Zage (l:List UInt8):(Zcn l).1≤1000000:=by
 unfold Zcn
 by_cases h:Zhy l=true
 ·rw[if_pos h];unfold Zhy at h;rw[Bool.and_eq_true,Bool.and_eq_true,Bool.and_eq_true,decide_eq_true_eq,decide_eq_true_eq,decide_eq_true_eq]at h;cases hd:Lib.decFrom 0 l with
  |none=>exact absurd hd h.1.2
  |some n=>
   have:=Zhw l 0 n hd;have h6:10^l.length≤10^6:=Nat.pow_le_pow_right (by decide) h.1.1.2;show n≤1000000;simp only[Nat.zero_add,Nat.one_mul]at this;omega
 ·rw[if_neg h];exact zero_le _
theorem RsOk.number {E m:Int} {r:RS} (h:RsOk r):(0≤(r.number E m).1∧(r.number E m).1≤1000000)∧RsOk (r.number E m).2:=by
 refine⟨⟨Int.natCast_nonneg _,Int.ofNat_le.2 (Zage _)⟩,?_⟩;unfold RS.number;refine(RsOk.take ?_).2;split
 ·split
  ·exact h.fail
  ·exact h
 ·exact h.fail
theorem RsOk.sym0 {E:Int} {r:RS} (h:RsOk r):RsOk (r.sym0 E):=by
 unfold RS.sym0;split
 ·exact h.fail
 ·exact h
structure LcSz (y:Lc):Prop where
 tag:y.tag.size≤200000
 par:y.par.size≤200000
 dir:y.dir.size≤200000
 dec:y.dec.size≤200000
 grp:y.grp.size≤200000
 mi:y.mi.size≤200000
 pct:y.pct.size≤200000
 pri:0≤y.pri∧y.pri≤1000000
 sec:0≤y.sec∧y.sec≤1000000
theorem LcSz.item {E p:Int} {y:Lc} {r:RS} (h:LcSz y)(hr:RsOk r):∀i,LcSz (itN i E p y r).1
 |0=>⟨h.tag,h.par,by show(bs _).size≤_;rw[Za5];exact hr.one.1,h.dec,h.grp,h.mi,h.pct,h.pri,h.sec⟩
 |1=>⟨h.tag,h.par,h.dir,h.dec,h.grp,h.mi,h.pct,h.pri,h.sec⟩
 |2=>⟨h.tag,h.par,h.dir,h.dec,h.grp,h.mi,h.pct,h.pri,h.sec⟩
 |3=>by
  have ht:=(hr.sym0 (E:=E)).texts0 (E:=E) 4;have ha:=ht.2.number (E:=E) (m:=9);exact⟨h.tag,h.par,h.dir,Ziu ht.1 0,Ziu ht.1 1,Ziu ht.1 2,Ziu ht.1 3,ha.1,(ha.2.number (E:=E) (m:=9)).1⟩
 |4=>⟨h.tag,h.par,h.dir,h.dec,h.grp,h.mi,h.pct,h.pri,h.sec⟩
 |5=>⟨h.tag,h.par,h.dir,h.dec,h.grp,h.mi,h.pct,h.pri,h.sec⟩
 |6=>⟨h.tag,h.par,h.dir,h.dec,h.grp,h.mi,h.pct,h.pri,h.sec⟩
 |7=>⟨h.tag,h.par,h.dir,h.dec,h.grp,h.mi,h.pct,h.pri,h.sec⟩
 |_+8=>⟨h.tag,h.par,h.dir,h.dec,h.grp,h.mi,h.pct,h.pri,h.sec⟩
def RS.Le (r' r:RS):Prop:=r'.l.length≤r.l.length
theorem RS.Le.refl (r:RS):RS.Le r r:=le_refl _
theorem RS.Le.trans {a b c:RS} (h:RS.Le a b)(k:RS.Le b c):RS.Le a c:=le_trans h k
theorem RS.Le.failAt (p e:Int)(r:RS):RS.Le (r.failAt p e) r:=by unfold RS.Le;rw[RS.failAt_l];exact le_refl _
theorem RS.Le.fail (E e:Int)(r:RS):RS.Le (r.fail E e) r:=RS.Le.failAt _ _ _
theorem RS.Le.drop (r:RS):RS.Le r.drop r:=by
 show r.l.tail.length≤_;rw[List.length_tail];exact Nat.sub_le _ _
theorem RS.Le.ite {c:Prop} [Decidable c] {a b r:RS} (h:RS.Le a r)(k:RS.Le b r):RS.Le (if c then a else b) r:=by
 split
 ·exact h
 ·exact k
theorem RS.Le.take (E k:Int)(r:RS):RS.Le (r.take E k).2 r:=by
 unfold RS.take;have hq:RS.Le (if(r.peek E).1=k then r else r.fail E 3) r:= .ite (.refl r) (.fail _ _ r);generalize (if(r.peek E).1=k then r else r.fail E 3)=q at *;dsimp only;split
 ·exact(RS.Le.drop q).trans hq
 ·exact hq
theorem RS.Le.mark (E:Int)(s:List UInt8)(r:RS):RS.Le (r.mark E s) r:=(RS.Le.take E 3 _).trans (.ite (.refl r) (.fail _ _ r))
theorem RS.Le.word (E:Int)(r:RS):RS.Le (r.word E).2 r:= .take E 1 r
theorem RS.Le.text (E:Int)(r:RS):RS.Le (r.text E).2 r:= .take E 2 r
theorem RS.Le.texts (E:Int):∀(n:Nat) (out:List ByteArray) (r:RS),RS.Le (RS.texts E n out r).2 r
 |0,_,r=> .refl r
 |n+1,_out,r=>(RS.Le.texts E n _ _).trans (.text E r)
theorem RS.Le.one (E:Int)(l:List ByteArray)(r:RS):RS.Le (r.one E l).2 r:=(RS.Le.word E _).trans (.ite (.fail _ _ r) (.refl r))
theorem RS.Le.once (p:Int)(b:Bool)(r:RS):RS.Le (r.once p b) r:= .ite (.failAt _ _ r) (.refl r)
theorem RS.Le.add (p:Int)(d f:Bool)(r:RS):RS.Le (r.add p d f) r:= .ite (.failAt _ _ r) (.ite (.failAt _ _ r) (.refl r))
theorem RS.Le.tLim (p:Int)(f:Bool)(r:RS):RS.Le (tLim p f r) r:= .ite (.failAt _ _ r) (.refl r)
theorem RS.Le.cond (E:Int)(r:RS):RS.Le (r.cond E).2 r:=by
 unfold RS.cond;split
 ·exact(RS.Le.text E _).trans (.ite (.refl r) (.fail _ _ r))
 ·exact .text E r
theorem RS.Le.rule (E:Int)(r:RS):RS.Le (r.rule E).2 r:=(RS.Le.mark E _ _).trans ((RS.Le.cond E _).trans (.one E _ r))
theorem RS.Le.number (E m:Int)(r:RS):RS.Le (r.number E m).2 r:=(RS.Le.word E _).trans (.ite (.ite (.fail _ _ r) (.refl r)) (.fail _ _ r))
theorem RS.Le.sym0 (E:Int)(r:RS):RS.Le (r.sym0 E) r:= .ite (.fail _ _ r) (.refl r)
theorem RS.Le.sym (E:Int)(r:RS):RS.Le (r.sym E).2 r:=(RS.Le.mark E _ _).trans ((RS.Le.number E 9 _).trans ((RS.Le.number E 9 _).trans ((RS.Le.texts E 4 [] _).trans (.sym0 E r))))
theorem RS.Le.lp (E:Int)(r:RS):RS.Le (r.lp E).2 r:=(RS.Le.mark E _ _).trans ((RS.Le.texts E 4 [] _).trans (.word E r))
theorem RS.Le.up (E:Int)(r:RS):RS.Le (r.up E).2 r:=(RS.Le.mark E _ _).trans ((RS.Le.text E _).trans ((RS.Le.one E _ _).trans (.word E r)))
theorem RS.Le.dp (E:Int)(r:RS):RS.Le (r.dp E).2 r:=(RS.Le.mark E _ _).trans ((RS.Le.text E _).trans (.word E r))
theorem RS.Le.itN (E p:Int)(y:Lc)(r:RS):∀i,RS.Le (itN i E p y r).2 r
 |0=>(RS.Le.once _ _ _).trans ((RS.Le.mark E _ _).trans (.one E _ r))
 |1=>(RS.Le.add _ _ _ _).trans (.rule E r)
 |2=>(RS.Le.add _ _ _ _).trans (.rule E r)
 |3=>(RS.Le.once _ _ _).trans (.sym E r)
 |4=>(RS.Le.add _ _ _ _).trans (.lp E r)
 |5=>(RS.Le.add _ _ _ _).trans (.up E r)
 |6=>(RS.Le.add _ _ _ _).trans (.dp E r)
 |7=>(RS.Le.once _ _ _).trans ((RS.Le.mark E _ _).trans (.texts E 12 [] r))
 |_+8=>(RS.Le.once _ _ _).trans ((RS.Le.mark E _ _).trans (.texts E 7 [] r))
theorem RS.word_lt {E:Int} {r:RS} (hk:(r.peek E).1=1)(he:r.e=0):(r.word E).2.l.length<r.l.length:=by
 unfold RS.word;rw[RS.take_ok hk he];unfold RS.peek at hk;cases hl:r.l with
 |nil=>rw[hl]at hk;exact absurd hk (by simp)
 |cons t l=>simp[RS.drop,hl]
theorem Zadt {E:Int} {y:Lc} {r:RS} (he:r.e=0)(h:(tItem E y r).2.e=0):(tItem E y r).2.l.length<r.l.length:=by
 unfold tItem at h⊢;rcases Zl3 (Zgy (r.peek E)) 9 with⟨k,hk,hp,_,e⟩|⟨_,e⟩
 ·rw[e,if_neg (by omega)];unfold Zgy at hp;rw[Bool.and_eq_true,decide_eq_true_eq]at hp;exact Nat.lt_of_le_of_lt (RS.Le.itN E _ y _ _) (RS.word_lt hp.1 he)
 ·rw[e,if_pos (by decide)]at h;exact absurd h (RS.fail_e E (by decide) r)
structure LcFew (m:Nat) (y:Lc):Prop where
 card:y.card.length≤5+m
 ord:y.ord.length≤5+m
 lists:y.lists.length≤10+m
 units:y.units.length≤100+m
 dates:y.dates.length≤30+m
 months:y.months.length≤12
 days:y.days.length≤7
theorem LcFew.mono {m k:Nat} {y:Lc} (h:LcFew m y)(hk:m≤k):LcFew k y:=
 ⟨le_trans h.card (by omega),le_trans h.ord (by omega),le_trans h.lists (by omega),le_trans h.units (by omega),le_trans h.dates (by omega),h.months,h.days⟩
theorem RS.failAt_e (p:Int) {e:Int} (he:e≠0)(r:RS):(r.failAt p e).e≠0:=by
 unfold RS.failAt
 by_cases h:r.e=0
 ·rw[if_pos h];exact he
 ·rw[if_neg h];exact h
theorem RS.add_full {p:Int} {d f:Bool} {r:RS} (h:(r.add p d f).e=0):d=false∧f=false∧r.e=0:=by
 unfold RS.add at h;cases d with
 |true=>exact absurd h (RS.failAt_e p (by decide) r)
 |false=>
  cases f with
  |true=>exact absurd h (RS.failAt_e p (by decide) r)
  |false=>exact⟨rfl,rfl,h⟩
theorem Zia {lim:Int} {n:Nat} {m:Nat} (hm:lim=(m:Int))(h:Zcc lim n=false):n+1≤m:=by
 unfold Zcc at h;rw[decide_eq_false_iff_not]at h;omega
theorem RS.texts_len0 (E:Int)(n:Nat)(r:RS):(RS.texts0 E n r).1.length=n:=by
 unfold RS.texts0;rw[RS.texts_len];simp
theorem LcFew.item {E p:Int} {y:Lc} {r:RS} (h:LcFew 0 y):∀i,LcFew 1 (itN i E p y r).1∧((itN i E p y r).2.e=0→LcFew 0 (itN i E p y r).1):=by
 have h1:=h.mono (k:=1) (by decide);intro i
 match i with
 |0=>exact⟨⟨h1.card,h1.ord,h1.lists,h1.units,h1.dates,h1.months,h1.days⟩,fun _=>⟨h.card,h.ord,h.lists,h.units,h.dates,h.months,h.days⟩⟩
 |1=>exact⟨⟨by show(y.card++[_]).length≤_;have:=h.card;simp;omega,h1.ord,h1.lists,h1.units,h1.dates,h1.months,h1.days⟩,fun g=>⟨by show(y.card++[_]).length≤_;have:=Zia (m:=5) rfl (RS.add_full g).2.1;simp;omega,h.ord,h.lists,h.units,h.dates,h.months,h.days⟩⟩
 |2=>exact⟨⟨h1.card,by show(y.ord++[_]).length≤_;have:=h.ord;simp;omega,h1.lists,h1.units,h1.dates,h1.months,h1.days⟩,fun g=>⟨h.card,by show(y.ord++[_]).length≤_;have:=Zia (m:=5) rfl (RS.add_full g).2.1;simp;omega,h.lists,h.units,h.dates,h.months,h.days⟩⟩
 |3=>exact⟨⟨h1.card,h1.ord,h1.lists,h1.units,h1.dates,h1.months,h1.days⟩,fun _=>⟨h.card,h.ord,h.lists,h.units,h.dates,h.months,h.days⟩⟩
 |4=>exact⟨⟨h1.card,h1.ord,by show(y.lists++[_]).length≤_;have:=h.lists;simp;omega,h1.units,h1.dates,h1.months,h1.days⟩,fun g=>⟨h.card,h.ord,by show(y.lists++[_]).length≤_;have:=Zia (m:=10) rfl (RS.add_full g).2.1;simp;omega,h.units,h.dates,h.months,h.days⟩⟩
 |5=>exact⟨⟨h1.card,h1.ord,h1.lists,by show(y.units++[_]).length≤_;have:=h.units;simp;omega,h1.dates,h1.months,h1.days⟩,fun g=>⟨h.card,h.ord,h.lists,by show(y.units++[_]).length≤_;have:=Zia (m:=100) rfl (RS.add_full g).2.1;simp;omega,h.dates,h.months,h.days⟩⟩
 |6=>exact⟨⟨h1.card,h1.ord,h1.lists,h1.units,by show(y.dates++[_]).length≤_;have:=h.dates;simp;omega,h1.months,h1.days⟩,fun g=>⟨h.card,h.ord,h.lists,h.units,by show(y.dates++[_]).length≤_;have:=Zia (m:=30) rfl (RS.add_full g).2.1;simp;omega,h.months,h.days⟩⟩
 |7=>exact⟨⟨h1.card,h1.ord,h1.lists,h1.units,h1.dates,by show(RS.texts0 E 12 r).1.length≤_;rw[RS.texts_len0];exact le_refl _,h1.days⟩,fun _=>⟨h.card,h.ord,h.lists,h.units,h.dates,by show(RS.texts0 E 12 r).1.length≤_;rw[RS.texts_len0];exact le_refl _,h.days⟩⟩
 |k+8=>exact⟨⟨h1.card,h1.ord,h1.lists,h1.units,h1.dates,h1.months,by show(RS.texts0 E 7 r).1.length≤_;rw[RS.texts_len0];exact le_refl _⟩,fun _=>⟨h.card,h.ord,h.lists,h.units,h.dates,h.months,by show(RS.texts0 E 7 r).1.length≤_;rw[RS.texts_len0];exact le_refl _⟩⟩
theorem LcFew.tItem {E:Int} {y:Lc} {r:RS} (h:LcFew 0 y):LcFew 1 (tItem E y r).1∧((tItem E y r).2.e=0→LcFew 0 (tItem E y r).1):=by
 unfold Go.Proofs.YtmleeodfmmpdgaaGreatDoor.tItem;split
 ·exact⟨h.mono (by decide),fun _=>h⟩
 ·exact h.item _
theorem LcSz.tItem {E:Int} {y:Lc} {r:RS} (h:LcSz y)(hr:RsOk r):LcSz (tItem E y r).1:=by
 unfold Go.Proofs.YtmleeodfmmpdgaaGreatDoor.tItem;split
 ·exact h
 ·exact h.item hr.take.2 _
end Go.Proofs.YtmleeodfmmpdgaaGreatDoor
