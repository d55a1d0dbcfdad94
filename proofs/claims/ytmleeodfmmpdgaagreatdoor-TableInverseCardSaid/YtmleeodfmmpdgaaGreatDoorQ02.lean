/- part -/
import Derived.Test.YtmleeodfmmpdgaaGreatDoorQ00
import Derived.StillTail
import Derived.Deep.AppendLies
import Derived.Deep.DrawnRows
import Derived.Laws.AppendOwnNone
namespace Go.Proofs.YtmleeodfmmpdgaaGreatDoor
open _root_.Go.Proofs.Tryz
open Go.RowKit
section
variable {P : Program} {ops : Array Oper} {md : Region.Mode} {C : World → Prop}
end
theorem Zbs {P:Program} {c:Code} {Q:Exit→Act→World→Prop} {a:Act} {w:World} (h:∀W,W=w→c.wp P Q a W):c.wp P Q a w:=h w rfl
theorem Zrp:(prog.info? 9).map (fun i=>(i.zero,i.size,i.bytes))=some (some (.string .empty),1,16):=by kernel_rfl
theorem Zkx (l m:List ByteArray):Zae (l++m)=Zae l++Zae m:=by simp[Zae]
theorem Zaey (l:List ByteArray):∀u∈Zae l,u.oneCell'=true:=by
 intro u hu;obtain⟨s,_,rfl⟩:=List.mem_map.1 hu;rfl
theorem Zaew (b off j:Nat):(⟨b,off,none⟩:Addr).add j=⟨b,off+j,none⟩:=by
 unfold Addr.add;split
 ·rename_i h;subst h;rfl
 ·rfl
theorem Zsb {w:World} (ty:TypeId)(base:Nat)(ad:Option Addr)(k c:Nat)(ys:List Value)(Ab:w.ownsRow base 9 1 (.slice ad k c) k ys)(ad2:Option Addr)(n c2:Nat)(xs:List ByteArray)
  (hx:Sl w ad2 n (Zae xs)) (hc:ad2=none→c2=0) (hr:(k+n)*16≤140737488355328) (hb:base≤w.heap.size):
  ∃ad' c' w',(Builtin.append_ #[44,44] ty #[.slice ad k c,.slice ad2 n c2]).run prog w= .ok (.slice ad' (k+n) c') w'∧
   w'.ownsRow base 9 1 (.slice ad' (k+n) c') (k+n) (ys++Zae xs)∧w.grownBy w' (Value.ownBlock (.slice ad k c))∧(ad'=none→ad=none):=by
 obtain⟨i0,hi,Cc,Ba,A7⟩:=info_parts Zrp;obtain⟨b,off,hs⟩:=hx;have hl:xs.length=n:=by have:=hs.len;rw[Zco]at this;exact this
 cases ad2 with
 |none=>
  have h0:n=0:=by
   rcases Nat.eq_zero_or_pos n with h|h
   ·exact h
   ·have:=hs.adr (by omega);cases this
  obtain rfl:=hc rfl;subst h0;have pT:xs=[]:=List.eq_nil_of_length_eq_zero hl;subst pT;refine⟨ad,c,w,run_append_owned_none w base 44 ty 9 i0 1 underlying44 hi (.slice ad k c) k ys Ab,by simpa [Zae]using Ab,World.grownBy.refl _ _,fun h=>h⟩
 |some A2=>
  have news:∀j u,(Zae xs)[j]? =some u→w.cell? (A2.add j)=some u:=by
   intro j u hu;have hj:j<(Zae xs).length:=(List.getElem?_eq_some_iff.1 hu).1;rw[Zco,hl]at hj;have ha:A2=⟨b,off,none⟩:=by have:=hs.adr (by omega);injection this
   rw[ha,Zaew,hs.cell j hj,List.getD,hu];rfl
  obtain⟨v',w',h1,h2,h3,h4⟩:=run_append_own (P:=prog) (w:=w) base 44 ty 9 i0 (.string .empty) 1 16 underlying44 hi Cc Ba A7 rfl (by omega) (.slice ad k c) k ys Ab A2 n c2 (Zae xs)
   (by rw[Zco,hl];omega) news (Zaey xs) (by unfold maxLen;omega) hr hb
  obtain⟨ad',c',rfl⟩:=Zsh h2;refine⟨ad',c',w',h1,h2,h3,fun h=>?_⟩;subst h;rcases h2.2 with⟨e,_⟩|⟨g,cap,cur,e,_⟩
  ·exact(Value.slice.inj (h4.1 e).1).1
  ·cases(Value.slice.inj e).1
theorem Zmu {o:Oper} {a:Act} {w:World} {K:Act→World→Prop} {Q:Exit→Act→World→Prop} (s x:Operand)
  (ho:o.op= .call { callee:= .builtin .append,args:= #[s,x],argTypes:= #[44,44] })
  (base:Nat) (ad:Option Addr) (k c:Nat) (ys:List Value) (hs:a.eval s= .slice ad k c) (Ab:w.ownsRow base 9 1 (.slice ad k c) k ys) (ad2:Option Addr) (n c2:Nat) (xs:List ByteArray)
  (Lr:a.eval x= .slice ad2 n c2) (hx:Sl w ad2 n (Zae xs)) (hc:ad2=none→c2=0) (hr:(k+n)*16≤140737488355328) (hb:base≤w.heap.size)
  (h:∀ad' c' w',w'.ownsRow base 9 1 (.slice ad' (k+n) c') (k+n) (ys++Zae xs)→w.grownBy w' (Value.ownBlock (.slice ad k c))→(ad'=none→ad=none)→K (a.put o.dst (.slice ad' (k+n) c')) w'):o.wp prog a w K Q:=by
 obtain⟨ad',c',w',h1,h2,h3,h4⟩:=Zsb o.type base ad k c ys Ab ad2 n c2 xs hx hc hr hb;unfold Oper.wp execOp;simp only[ho,resolve,invoke,builtin,Sem.run_bind,Sem.run_pure,Result.andThen_ok,List.map_toArray,List.map_cons,List.map_nil,hs,Lr,h1];exact h ad' c' w' h2 h3 h4
theorem Zj4 {ops:Array Oper} {rest:List Oper} {o:Oper} {a:Act} {w:World} {Q:Exit→Act→World→Prop} (Lq:o.guard=none)(s x:Operand)
  (ho:o.op= .call { callee:= .builtin .append,args:= #[s,x],argTypes:= #[44,44] })
  (base:Nat) (ad:Option Addr) (k c:Nat) (ys:List Value) (hs:a.eval s= .slice ad k c) (Ab:w.ownsRow base 9 1 (.slice ad k c) k ys) (ad2:Option Addr) (n c2:Nat) (xs:List ByteArray)
  (Lr:a.eval x= .slice ad2 n c2) (hx:Sl w ad2 n (Zae xs)) (hc:ad2=none→c2=0) (hr:(k+n)*16≤140737488355328) (hb:base≤w.heap.size)
  (h:∀ad' c' w',w'.ownsRow base 9 1 (.slice ad' (k+n) c') (k+n) (ys++Zae xs)→w.grownBy w' (Value.ownBlock (.slice ad k c))→(ad'=none→ad=none)→wpList prog ops Q rest (a.put o.dst (.slice ad' (k+n) c')) w'):wpList prog ops Q (o::rest) a w:=
 wpList_plain Lq fun _ hK=>Zmu s x ho base ad k c ys hs Ab ad2 n c2 xs Lr hx hc hr hb fun ad' c' w' h2 h3 h4=>hK _ _ (h ad' c' w' h2 h3 h4)
theorem Za2 {w:World} {B:Nat} {cs:Array Value} {t:TypeId} (hb:w.heap[B]? =some (.cells cs t (0,0)))(j:Nat):w.cell? ⟨B,j,none⟩=cs[j]? :=by
 simp[World.cell?,hb]
theorem Za6 {w:World} {B:Nat} {cs:Array Value} {t:TypeId} (hb:w.heap[B]? =some (.cells cs t (0,0)))(j:Nat):w.frozen? ⟨B,j,none⟩=false:=by
 simp[World.frozen?,hb]
theorem Zc1 (w:World)(cs:Array Value)(t:TypeId):(w.alloc (.cells cs t)).heap[w.heap.size]? =some (.cells cs t (0,0)):=by show(w.heap.push _)[w.heap.size]? =_;simp
theorem Zdp (w:World)(o:Obj)(cs:Array Value)(t:TypeId):((w.alloc o).alloc (.cells cs t)).heap[w.heap.size+1]? =some (.cells cs t (0,0)):=by
 have:=Zc1 (w.alloc o) cs t
 rwa [World.size_alloc]at this
theorem Zjj {w:World} {B:Nat} {cs:Array Value} {t:TypeId} (hb:w.heap[B]? =some (.cells cs t (0,0)))(j:Nat)(v:Value):(w.setCell ⟨B,j,none⟩ v).heap[B]? =some (.cells (cs.setIfInBounds j v) t (0,0)):=by
 simp[World.setCell,Array.getElem?_modify,hb]
theorem Zzp {w:World} {base:Nat} {E T:TypeId} {size:Nat} {v:Value} {n:Nat} {xs:List Value} {b:Nat} {cs:Array Value} {fr:Nat×Nat} (Ab:w.ownsRow base E size v n xs)(hb:w.heap[b]? =some (.cells cs T fr))(eP:T≠E):v.ownBlock≠some b:=by
 rcases Ab.2 with⟨rfl,_⟩|⟨g,cap,cur,rfl,_,hg,_⟩
 ·simp[Value.ownBlock]
 ·intro h;simp only[Value.ownBlock,Option.some.injEq]at h;subst h;rw[hg]at hb;simp only[Option.some.injEq,Obj.cells.injEq]at hb;exact eP hb.2.1.symm
theorem Zpc {w:World} {base:Nat} {E T:TypeId} {size:Nat} {v:Value} {n:Nat} {xs:List Value} {b:Nat} {cs:Array Value} {fr:Nat×Nat} (Ab:w.ownsRow base E size v n xs)(hb:w.heap[b]? =some (.cells cs T fr))(eP:T≠E)(j:Nat)(u:Value):(w.setCell ⟨b,j,none⟩ u).ownsRow base E size v n xs:=
 Ab.kept (row:=some b) ⟨rfl,rfl,rfl,by simp[World.setCell],fun k _ hk=>Below.heap_setCell _ _ _ _ (fun e=>hk (by simp[e]))⟩ (Or.inr (Zzp Ab hb eP))
attribute [local go_sem] Ext.cell Ext.frozen
attribute [local go_sem ↓] Go.wp_at_zero Go.wp_at_succ
theorem Zob {w:World} {base:Nat} {E:TypeId} {size:Nat} {v:Value} {n:Nat} {xs:List Value} (h:w.ownsRow base E size v n xs):∃ad c,v= .slice ad n c:=by
 obtain⟨_,⟨rfl,rfl⟩|⟨g,cap,cur,rfl,_⟩⟩:=h
 ·exact⟨_,_,rfl⟩
 ·exact⟨_,_,rfl⟩
theorem Zci {w w':World} {base:Nat} {E:TypeId} {size:Nat} {v:Value} {n:Nat} {xs:List Value} (h:w.ownsRow base E size v n xs)(hb:Below w.heap.size w w'):w'.ownsRow base E size v n xs:=by
 refine⟨h.1,?_⟩;rcases h.2 with h2|⟨g,cap,cur,h1,h2,h3,h4,h5,h6,h7⟩
 ·exact .inl h2
 ·exact .inr ⟨g,cap,cur,h1,h2,(hb.block g (Array.getElem?_eq_some_iff.1 h3).1).trans h3,h4,h5,h6,h7⟩
theorem Zat (w:World)(n:Nat):Below w.heap.size w (w.drewN n):=⟨rfl,rfl,rfl,Nat.le_refl _,fun _ _=>rfl⟩
end Go.Proofs.YtmleeodfmmpdgaaGreatDoor
