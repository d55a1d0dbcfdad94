/- part -/
import Derived.Deep.RegionHeld3
import Derived.WalkSpells
import Derived.WalkLawsBesides
import Derived.Lib.Hide
import Derived.BigQuiet
import Derived.Test.YtmleeodfmmpdgaaGreatDoorCards
import Derived.Test.YtmleeodfmmpdgaaGreatDoorTie
import Derived.Lib.SmallJoins
import Derived.LaidMore
import Derived.Lay
import Derived.Lib.SlTrimSet
import Derived.Lib.Repeat
import Derived.Lib.Atoi
namespace Go.Proofs.YtmleeodfmmpdgaaGreatDoor
open Go.RowKit
open _root_.Nat (not_lt_zero zero_le)
open _root_.Go.Proofs.Tryz
theorem Hd {p:Prop} (h:p):Hid p:=h
theorem Le0 {α:Type} {a:α} {l:List α} :(a::l)[0]? =some a:=rfl
theorem Le1 {α:Type} {a:α} {l:List α} {i:Nat} :(a::l)[i+1]? =l[i]? :=rfl
section
variable {P : Program} {ops : Array Oper} {Q : Exit → Act → World → Prop} {md : Region.Mode} {S : World → Prop}
theorem Tk (i:Nat) {o:Oper} {v:Value} {g:Nat} {L:Array Bool} {a b:Act} {w:World} (h:wpAnyH P md ops Q S g (L.setIfInBounds i true) b w)
  (hi:ops[i]? =some o:=by exact rfl) (hs:Region.noSelect ops=true:=by kernel_rfl) (hf:Region.free md ops L i=true:=by kernel_rfl)
  (hr:(Region.ready md ops L).contains i=true:=by kernel_rfl) (hw:Region.wanted o (yielded ops a.tmps)=true:=by kernel_rfl)
  (hy:∀w,S w→(execOp a.eval o).run P w= .ok (.value v) w:=by intro wx A3;(try dsimp only at A3);go_simp;try with_reducible rfl)
  (hb:a.put o.dst v=b:=by
   conv=>lhs;simp only[Act.put,List.getElem_toArray,List.getElem_cons_succ,List.getElem_cons_zero,List.setIfInBounds_toArray,List.set_cons_zero,List.set_cons_succ]
   try exact rfl)
  (hQ:∀c a w,Q (.panic c) (a.put o.dst v) w→Q (.panic c) a w:=by exact fun _ _ _ h=>h) (hS:S w:=by exact hHeld):wpAnyH P md ops Q S (g+1) L a w:=
 wpAnyH_take hi hs hf hr hQ (Or.inl ⟨hw,hy⟩) hS (by rw[hb];exact h)
theorem Sk (i:Nat) {o:Oper} {g:Nat} {L:Array Bool} {a b:Act} {w:World} (h:wpAnyH P md ops Q S g (L.setIfInBounds i true) b w)
  (hi:ops[i]? =some o:=by exact rfl) (hs:Region.noSelect ops=true:=by kernel_rfl) (hf:Region.free md ops L i=true:=by kernel_rfl)
  (hr:(Region.ready md ops L).contains i=true:=by kernel_rfl) (hw:Region.wanted o (yielded ops a.tmps)=false:=by kernel_rfl)
  (hb:a.put o.dst undef=b:=by
   conv=>lhs;simp only[Act.put,List.getElem_toArray,List.getElem_cons_succ,List.getElem_cons_zero,List.setIfInBounds_toArray,List.set_cons_zero,List.set_cons_succ]
   try exact rfl)
  (hQ:∀c a w,Q (.panic c) (a.put o.dst undef) w→Q (.panic c) a w:=by exact fun _ _ _ h=>h) (hS:S w:=by exact hHeld):wpAnyH P md ops Q S (g+1) L a w:=
 wpAnyH_take hi hs hf hr hQ (Or.inr ⟨hw,rfl⟩) hS (by rw[hb];exact h)
theorem Rx (i:Nat) {o:Oper} {g:Nat} {L:Array Bool} {a:Act} {w:World}
  (h:∀K':Act→World→Prop,Shut (∀a w,S w→(S w→wpAnyH P md ops Q S g (L.setIfInBounds i true) a w)→K' a w)→if Region.wanted o (yielded ops a.tmps)=true then Oper.wp P o a w K' Q else K' (a.put o.dst undef) w)
  (ho:ops[i]? =some o:=by exact rfl) (hr:Region.ready md ops L=[i]:=by kernel_rfl):wpAnyH P md ops Q S (g+1) L a w:=
 wpAnyH_ready hr (List.cons_ne_nil _ _) (AllReadyH.cons ho h AllReadyH.nil)
theorem Dn {L:Array Bool} {a:Act} {w:World} {g:Nat} (h:Q .normal a w)(hr:Region.ready md ops L=[]:=by kernel_rfl):wpAnyH P md ops Q S g L a w:=wpAnyH_done hr h g
end
structure SlAt (w:World) (ad:Option Addr) (n:Nat) (xs:List Value) (b off:Nat):Prop where
 len:xs.length=n
 max:n≤9223372036854775807
 adr:n≠0→ad=some ⟨b,off,none⟩
 cell:∀i (_h:i<n),w.cell? ⟨b,off+i,none⟩=some (xs.getD i undef)
def Sl (w:World)(ad:Option Addr)(n:Nat)(xs:List Value):Prop:=∃b off,SlAt w ad n xs b off
theorem SlAt.ix {P:Program} {w:World} {ad:Option Addr} {n c:Nat} {xs:List Value} {b off k:Nat} (h:SlAt w ad n xs b off)(T E:TypeId)
  (hT:P.underlying T=some (.slice E)) (hE:P.cellsOf E=1) (hk:k<n) (W:World):
  (Instr.indexAt T (.slice ad n c) (.int .i64 (k:Int))).run P W= .ok (.pointer (some ⟨b,off+k,none⟩)) W:=by
 rw[h.adr (by omega)];have Q2:P.elem T=E:=by simp[Program.elem,hT]
 rw[run_indexAt_slice W T _ n c .i64 k (by rw[Q2];exact hT),Q2,if_pos (by omega)];have hs:(sizeOf E).run P W= .ok 1 W:=by
  unfold Program.cellsOf at hE;cases hi:P.info? E with
  |none=>simp[hi]at hE
  |some i=>simp[hi]at hE;simp[sizeOf,typeInfo,hi,hE]
 rw[hs];simp[Result.andThen,Addr.add]
theorem SlAt.block {w:World} {ad:Option Addr} {n:Nat} {xs:List Value} {b off:Nat} (h:SlAt w ad n xs b off)(hn:n≠0):b<w.heap.size:=by
 have:=h.cell 0 (by omega);exact World.block_lt_of_cell? w _ this
theorem SlAt.below {w w':World} {ad:Option Addr} {n:Nat} {xs:List Value} {b off:Nat} (h:SlAt w ad n xs b off)(hb:Below w.heap.size w w'):SlAt w' ad n xs b off:=
 ⟨h.len,h.max,h.adr,fun i hi=>by rw[hb.cell (p:=⟨b,off+i,none⟩) (h.block (by omega))];exact h.cell i hi⟩
def Znh (zs:List Int):List Value:=zs.map (.int .i64)
theorem Zut (zs:List Int):(Znh zs).length=zs.length:=by simp[Znh]
theorem Zyw (zs:List Int)(k:Nat)(h:k<zs.length):(Znh zs).getD k undef= .int .i64 (zs.getD k 0):=by
 simp[Znh,List.getD,List.getElem?_map,List.getElem?_eq_getElem h]
def Zae (ss:List ByteArray):List Value:=ss.map .string
theorem Zco (ss:List ByteArray):(Zae ss).length=ss.length:=by simp[Zae]
theorem Zlu (ss:List ByteArray)(k:Nat)(h:k<ss.length):(Zae ss).getD k undef= .string (ss.getD k .empty):=by
 simp[Zae,List.getD,List.getElem?_map,List.getElem?_eq_getElem h]
theorem Znl {α:Type} (l:List α)(k:Nat)(d:α)(h:k<l.length):l.getD k d∈l:=by
 simp[List.getD,List.getElem?_eq_getElem h]
theorem Zbi {k:IntKind} {a b:Int} (h:a=b):Ending.returned (.int k a)= .returned (.int k b):=by rw[h]
theorem Sl.below {w w':World} {ad:Option Addr} {n:Nat} {xs:List Value} (h:Sl w ad n xs)(hb:Below w.heap.size w w'):Sl w' ad n xs:=by
 obtain⟨b,off,h⟩:=h;exact⟨b,off,h.below hb⟩
theorem Zmz (w:World)(e:TypeId)(s:ByteArray):Below w.heap.size w (Lib.bytesWorld w e s):=
 ⟨rfl,rfl,rfl,by rw[Lib.bytesWorld_size];omega,fun k hk=>Lib.bytesWorld_at_old w e s k hk⟩
theorem Zbm (s:ByteArray):s.data.toList.length=s.size:=by rw[Array.length_toList];rfl
def Ext (w:World):= { x:World // Below w.heap.size w x }
instance (w:World):Nonempty (Ext w):=⟨⟨w,Below.refl _ _⟩⟩
theorem Ext.cell {w:World} (e:Ext w)(a:Addr)(h:a.block<w.heap.size):e.1.cell? a=w.cell? a:=e.2.cell h
theorem Ext.frozen {w:World} (e:Ext w)(a:Addr)(h:a.block<w.heap.size):e.1.frozen? a=w.frozen? a:=e.2.frozen h
theorem Calls.ext {P:Program} {f:FuncId} {args:Array Value} {w:World} {e:Ext w} {v:Value}
  (h:Calls P f args e.1 fun e' w'=>e'= .returned v∧Below e.1.heap.size e.1 w'):Calls P f args e.1 fun e' w''=>e'= .returned v∧∃e2:Ext w,w''=e2.1:=
 h.mono fun _ w' ⟨he,hb⟩=>⟨he,⟨w',e.2.trans (hb.mono e.2.size)⟩,rfl⟩
theorem Calls.ext_same {P:Program} {f:FuncId} {args:Array Value} {w:World} {e:Ext w} {v:Value}
  (h:Calls P f args e.1 fun e' w'=>e'= .returned v∧e.1=w'):Calls P f args e.1 fun e' w''=>e'= .returned v∧∃e2:Ext w,w''=e2.1:=
 h.mono fun _ _w' ⟨he,hb⟩=>⟨he,e,hb.symm⟩
theorem Zaq {P:Program} {id:Nat} {Q:Exit→Act→World→Prop} {a:Act} {w:World} {l:List Oper} (hm:P.follows .mixedOrders=true)(hB:Region.lexB .any l.toArray=true)
  (h:wpQuiet P l.toArray (fun w'=>∃e:Ext w,w'=e.1) (fun a'=>∀w',(∃e:Ext w,w'=e.1)→Q .normal a' w') l a):(Code.region id l.toArray true).wp P Q a w:=
 wp_region_quiet (C:=fun w'=>∃e:Ext w,w'=e.1) hm hB ⟨⟨_,(Below.refl _ w).drew⟩,rfl⟩ (by simpa using h)
theorem Zsh {w:World} {base:Nat} {E:TypeId} {v:Value} {n:Nat} {xs:List Value} (h:w.ownsRow base E 1 v n xs):∃ad c,v= .slice ad n c:=by
 obtain⟨_,⟨rfl,rfl⟩|⟨g,cap,cur,rfl,_⟩⟩:=h
 ·exact⟨_,_,rfl⟩
 ·exact⟨_,_,rfl⟩
theorem Own.sl {w:World} {base:Nat} {E:TypeId} {ad:Option Addr} {n c:Nat} {xs:List Value} (h:w.ownsRow base E 1 (.slice ad n c) n xs):Sl w ad n xs:=by
 have hl:xs.length=n:=by have:=h.1;omega
 obtain⟨_,⟨h1,h2⟩|⟨g,cap,cur,h1,h2,h3,h4,h5,h6,h7⟩⟩:=h
 ·subst h2;exact⟨0,0,hl,by omega,fun h=>absurd rfl h,fun i hi=>absurd hi (not_lt_zero _)⟩
 ·injection h1 with e1 e2 e3;subst e1;refine⟨g,0,hl,by unfold maxLen at h5;omega,fun _=>rfl,fun i hi=>?_⟩;have Lo:i<cur.size:=by omega
  have hx:xs.getD i undef=cur[i]:=by
   rw[←h7];simp only[List.getD,Nat.mul_one];rw[List.getElem?_take,if_pos hi];simp[Lo]
  rw[hx];simp[World.cell?,h3,Lo]
theorem Own.lt {w:World} {base:Nat} {E:TypeId} {ad:Option Addr} {n c:Nat} {xs:List Value} (h:w.ownsRow base E 1 (.slice ad n c) n xs):
  ∀k,Value.ownBlock (.slice ad n c)=some k→base≤k∧k<w.heap.size:=World.ownsRow.lt h
theorem Own.below {w w':World} {base:Nat} {E:TypeId} {v:Value} {n:Nat} {xs:List Value} (h:w.ownsRow base E 1 v n xs)(hb:Below w.heap.size w w'):w'.ownsRow base E 1 v n xs:=by
 refine⟨h.1,?_⟩;rcases h.2 with h2|⟨g,cap,cur,h1,h2,h3,h4,h5,h6,h7⟩
 ·exact .inl h2
 ·have hg:g<w.heap.size:=by
   rcases Nat.lt_or_ge g w.heap.size with h'|h'
   ·exact h'
   ·simp[Array.getElem?_eq_none h']at h3
  exact .inr ⟨g,cap,cur,h1,h2,(hb.block g hg).trans h3,h4,h5,h6,h7⟩
theorem Own.rebase {w:World} {base base':Nat} {E:TypeId} {v:Value} {n:Nat} {xs:List Value} (h:w.ownsRow base E 1 v n xs)(hb:base'≤base):w.ownsRow base' E 1 v n xs:=by
 refine⟨h.1,?_⟩;rcases h.2 with h2|⟨g,cap,cur,h1,h2,h3⟩
 ·exact .inl h2
 ·exact .inr ⟨g,cap,cur,h1,by omega,h3⟩
theorem Zgj {P:Program} {ops:Array Oper} {rest:List Oper} {o:Oper} {a:Act} {Q:Exit→Act→World→Prop} {w:World} (t E:TypeId)(bytes:Nat)
  (ht:P.underlying t=some (.slice E)) (i:TypeInfo) (z:Value) (hi:P.info? E=some i) (hz:i.zero=some z) (Mu:i.size=1) (eL:i.bytes=bytes) (Fl:z.cells.size=1)
  (Lq:o.guard=none) (s x:Operand) (ho:o.op= .call { callee:= .builtin .append,args:= #[s,x],argTypes:= #[t,t] })
  (base:Nat) (ad:Option Addr) (n c:Nat) (xs:List Value) (hs:a.eval s= .slice ad n c) (Ab:w.ownsRow base E 1 (.slice ad n c) n xs)
  (y:Value) (E':TypeId) (hx:a.eval x= .slice (some ⟨w.heap.size,0,none⟩) 1 1) (hy:y.oneCell'=true)
  (Iq:n+1≤maxLen) (Jt:(n+1)*bytes≤140737488355328) (Bn:base≤w.heap.size)
  (h:∀ad' c' w',w'.ownsRow base E 1 (.slice ad' (n+1) c') (n+1) (xs++[y])→Below base w w'→w.grownBy w' (Value.ownBlock (.slice ad n c))→w.heap.size<w'.heap.size→
   wpList P ops Q rest (a.put o.dst (.slice ad' (n+1) c')) w'):wpList P ops Q (o::rest) a (w.alloc (.cells #[y] E')):=by
 refine wpList_append_own _ Lq s x t ho base E i z 1 bytes ht hi hz Mu eL Fl (by omega) (.slice ad n c) n xs hs (World.ownsRow.alloc Ab _) ⟨w.heap.size,0,none⟩ 1 1 [y] hx rfl (cell_one_new _ _ _)
  (by simpa using hy) Iq Jt (by simp;omega) ?_
 intro v' w' h1 h2 _;obtain⟨ad',c',rfl⟩:=Zsh h1;have Aa:=Own.lt Ab;refine h ad' c' w' h1 ?_ ?_ (by have:=h2.size;simp at this;omega)
 ·exact((Below.refl base w).alloc Bn _).grown h2 (by simp;omega) (fun k hk=>(Aa k hk).1)
 ·exact⟨h2.os,h2.tape,h2.output,by have:=h2.size;simp at this;omega,fun k hk Az=>(h2.block k (by simp;omega) Az).trans (Below.heap_alloc _ _ _ hk)⟩
theorem Calls.toExt {P:Program} {f:FuncId} {args:Array Value} {w:World} {v:Value}
  (h:Calls P f args w fun e w'=>e= .returned v∧Below w.heap.size w w'):Calls P f args w fun e w'=>e= .returned v∧∃x:Ext w,w'=x.1:=
 h.mono fun _ w' ⟨he,hb⟩=>⟨he,⟨w',hb⟩,rfl⟩
def Bel (w X:World):Prop:=Below w.heap.size w X
theorem Bel.refl (w:World):Bel w w:=Below.refl _ _
theorem Bel.alloc {w X:World} (h:Bel w X)(o:Obj):Bel w (X.alloc o):=Below.alloc h h.size _
theorem Bel.ext {w X:World} (h:Bel w X)(x:Ext X):Bel w x.1:=Below.trans h (x.2.mono h.size)
theorem Bel.drewN {w X:World} (h:Bel w X)(n:Nat):Bel w (X.drewN n):=Below.trans h ⟨rfl,rfl,rfl,Nat.le_refl _,fun _ _=>rfl⟩
theorem Bel.drew {w X:World} (h:Bel w X):Bel w X.drew:=Below.drew h
open Go.ChangeShapes Go.WideShapes Go.ChangeAt Go.RowKit Go.Joins
theorem own:ownKnob prog.godebug=none:=by kernel_rfl
theorem Zvr:laidOutB prog=true:=by kernel_rfl
def bs (l:List UInt8):ByteArray:=⟨l.toArray⟩
theorem Zcz (l:List UInt8):(bs l).data.toList=l:=rfl
theorem Za5 (l:List UInt8):(bs l).size=l.length:=by simp[bs,ByteArray.size]
theorem Zd1 (l:List UInt8):(bs l).toList=l:=by rw[ByteArray.toList_eq];rfl
theorem Zd0 (a b:List UInt8):bs a++bs b=bs (a++b):=by
 apply ByteArray.ext
 simp[bs]
theorem Zdz (l:List UInt8)(i j:Nat):(bs l).extract i j=bs ((l.take j).drop i):=by
 apply ByteArray.ext
 have e:List.drop i (List.take (i+(j - i)) l)=List.drop i (List.take j l):=by
  by_cases h:i≤j
  ·rw[show i+(j - i)=j by omega]
  ·rw[List.drop_eq_nil_of_le (by rw[List.length_take];omega),List.drop_eq_nil_of_le (by rw[List.length_take];omega)]
 simp[bs,ByteArray.data_extract,List.take_drop,e]
def isD (c:UInt8):Bool:=decide (48≤c.toNat)&&decide (c.toNat≤57)
def Zajo (l:List UInt8):Bool:=l.all isD
def Zake (l:List UInt8):Bool:=l.all (· ==48)
def Zaks (l:List UInt8):Bool:=l.head? ==some 45
def Zxi (l:List UInt8):List UInt8:=if Zaks l then l.tail else l
def Zoq (l:List UInt8):List UInt8:=(Zxi l).takeWhile (· !=46)
def Zakn (l:List UInt8):Bool:=decide ((Zoq l).length<(Zxi l).length)
def Zafc (l:List UInt8):List UInt8:=(Zxi l).drop ((Zoq l).length+1)
def okW (w:List UInt8):Bool:=decide (1≤w.length)&&decide (w.length≤15)&&Zajo w&& !(decide (1<w.length)&&w.head? ==some 48)
def okF (p:Bool)(f:List UInt8):Bool:= !(p&&f.isEmpty)&&decide (f.length≤6)&&Zajo f
def dOk (l:List UInt8):Bool:=okW (Zoq l)&&okF (Zakn l) (Zafc l)&& !(Zaks l&&(Zake (Zoq l)&&Zake (Zafc l)))
theorem Zjm (s:ByteArray):bs s.data.toList=s:=rfl
structure Rw (w:World) (ad:Option Addr) (n k:Nat) (f:Nat→Nat→Value) (b off:Nat):Prop where
 max:n≤9223372036854775807
 adr:n≠0→ad=some ⟨b,off,none⟩
 cell:∀i j,i<n→j<k→w.cell? ⟨b,off+i *k+j,none⟩=some (f i j)
theorem Rw.block {w:World} {ad:Option Addr} {n k:Nat} {f b off} (h:Rw w ad n k f b off)(hn:n≠0)(hk:k≠0):b<w.heap.size:=
 World.block_lt_of_cell? w _ (h.cell 0 0 (by omega) (by omega))
theorem Rw.below {w w':World} {ad:Option Addr} {n k:Nat} {f b off} (h:Rw w ad n k f b off)(hb:Below w.heap.size w w'):Rw w' ad n k f b off:=
 ⟨h.max,h.adr,fun i j hi hj=>by rw[hb.cell (p:=⟨b,off+i *k+j,none⟩) (h.block (by omega) (by omega))];exact h.cell i j hi hj⟩
theorem Rw.ix {P:Program} {w:World} {ad:Option Addr} {n k:Nat} {f b off} (h:Rw w ad n k f b off)(T E:TypeId)(hT:P.underlying T=some (.slice E))(hE:P.cellsOf E=k)(hk:0<k) {i:Nat} (hi:i<n)(c:Nat)(W:World):
  (Instr.indexAt T (.slice ad n c) (.int .i64 (i:Int))).run P W= .ok (.pointer (some ⟨b,off+i *k,none⟩)) W:=by
 rw[h.adr (by omega)];have Q2:P.elem T=E:=by simp[Program.elem,hT]
 rw[run_indexAt_slice W T _ n c .i64 i (by rw[Q2];exact hT),Q2,if_pos (by omega)];have hs:(sizeOf E).run P W= .ok k W:=by
  unfold Program.cellsOf at hE;cases Lo:P.info? E with
  |none=>simp[Lo]at hE;omega
  |some q=>simp[Lo]at hE;simp[sizeOf,typeInfo,Lo,hE]
 rw[hs];simp only[Result.andThen,Addr.add]
 by_cases h0:i *k=0
 ·simp[h0]
 ·simp[h0]
def Zaig (w:World)(v:Value):Prop:=∃ad n c f b off,v= .slice ad n c∧Rw w ad n 4 f b off∧∀i,i<n→∃a m c',f i 3= .slice a m c'∧m≤9223372036854775807
open Go.ChangeShapes Go.WideShapes Go.RowKit
section
variable {H : Type} {enc : TypeId × Value → H} {w : World} {base : Nat} {spare : Nat → Bool} {held : Bool}
abbrev Rz (enc:TypeId×Value→H)(w:World)(base:Nat)(spare:Nat→Bool)(held:Bool)(t:TypeId)(cs:List Value):Prop:=
 ∃n x,DataW.trod enc prog w base spare held n t cs=some x∧∀m∈x.1.weights prog t,m≤reachBytes
theorem Zu1 {ts:List TypeId} {ds:List (DataW H)} {n:Nat} {t:TypeId} {cs:List Value} {x:DataW H×List MemPlace} (h:DataW.trod enc prog w base spare held n t cs=some x)
  (Am:(DataW.weightsEach prog ts ds).all (·≤reachBytes)=true) (j:Nat) (ht:ts[j]? =some t) (hd:ds[j]? =some x.1):Rz enc w base spare held t cs:=
 ⟨n,x,h,fun m hm=>by simpa using List.all_eq_true.1 Am _ (DataW.weights_mem_each ht hd m hm)⟩
theorem Zrd {W:World} {a:Addr} {v:Value} (h:W.cell? (a.add 0)=some v):a=⟨a.block,a.off,none⟩:=by
 have hs:a.spot=none:=by simpa [Addr.add]using World.cell?_spot h
 cases a;simp at hs;simp[hs]
theorem Zjo {P:Program} {e:TypeId} :∀ {l:List (DataW H)} {d:DataW H},d∈l→∀m∈d.weights P e,m∈DataW.weightsAll P e l
 |d0::r,d,h,m,hm=>by
  simp only[DataW.weightsAll,List.mem_append];rcases List.mem_cons.1 h with h|h
  ·subst h;exact .inl hm
  ·exact .inr (Zjo h m hm)
theorem Zafg {t e:TypeId} {k:Nat} {v:Value} (ht:prog.underlying t=some (.slice e))(hk:prog.cellsOf e=k)(Pc:0<k)(h:Rz enc w base spare held t [v]):
  ∃ad n c,∃f:Nat→Nat→Value,∃b off,v= .slice ad n c∧Rw w ad n k f b off∧(ad=none→c=0)∧n *prog.bytesOf e≤reachBytes∧∀i,i<n→Rz enc w base spare held e ((List.range k).map (f i)):=by
 obtain⟨fu,x,h,hz⟩:=h;rcases Go.Deep.open_slice ht h with⟨Dc,_⟩|⟨a,len,cap,m,n,D,Pl,Dc,_,hl,hm,Ou,Lr,hf⟩
 ·injection Dc with Dc;subst Dc;exact⟨none,0,0,fun _ _=>undef,0,0,rfl,⟨zero_le _,fun h=>absurd rfl h,fun i j hi=>absurd hi (not_lt_zero _)⟩,fun _=>rfl,by rw[Nat.zero_mul];exact zero_le _,fun i hi=>absurd hi (not_lt_zero _)⟩
 ·injection Dc with Dc;subst Dc;subst Lr;simp only[DataW.weights,ht,List.mem_cons,List.mem_append]at hz;have vJ:len≤m:=by rw[Ou];split <;> omega
  have mE:len *prog.bytesOf e≤reachBytes:=by
   have:=hz _ (.inl rfl);simp only[List.length_map,List.length_range]at this;exact Nat.le_trans (Nat.mul_le_mul_right _ (by omega)) this
  have pS:∀i,i<len→∀q∈(D i).weights prog e,q≤reachBytes:=fun i hi q hq=>hz q (.inr (.inl (Zjo (List.mem_map.2 ⟨i,List.mem_range.2 hi,rfl⟩) q hq)));rw[hk]at hf;have each:∀i,i<len→∃g:Nat→Value,(∀j,j<k→w.cell? (a.add (i *k+j))=some (g j))∧Rz enc w base spare held e ((List.range k).map g):=fun i hi=>by
   obtain⟨cs',h1,h2⟩:=hf i (by omega);obtain⟨_,Ah,Xd⟩:=World.cells?_some h1;have hc:(List.range k).map (fun j=>cs'.getD j undef)=cs':=by
    apply List.ext_getElem
    ·simp[Ah]
    ·intro j h1 h2;simp[List.getD,List.getElem?_eq_getElem h2]
   refine⟨fun j=>cs'.getD j undef,fun j hj=>?_,_,_,by rw[hc];exact h2,pS i hi⟩;have:=Xd j hj;rw[Go.Deep.add_add]at this;rw[this];simp[List.getD,List.getElem?_eq_getElem (show j<cs'.length by omega)]
  obtain⟨f,Fw⟩:=Go.Deep.choose_lt each
  by_cases h0:len=0
  ·subst h0;exact⟨some a,0,cap,f,0,0,rfl,⟨zero_le _,fun h=>absurd rfl h,fun i j hi=>absurd hi (not_lt_zero _)⟩,fun h=>(by cases h),mE,fun i hi=>absurd hi (not_lt_zero _)⟩
  ·have ha:=Zrd (by have:=(Fw 0 (by omega)).1 0 Pc;rwa [Nat.zero_mul,Nat.zero_add]at this);have eM:∀j,a.add j=⟨a.block,a.off+j,none⟩:=fun j=>by
    conv=>lhs;rw[ha]
    unfold Addr.add;split
    ·rename_i h;subst h;rfl
    ·rfl
   refine⟨some a,len,cap,f,a.block,a.off,rfl,⟨by unfold maxLen at hm;omega,fun _=>by rw[←ha],fun i j hi hj=>?_⟩,fun h=>(by cases h),mE,fun i hi=>(Fw i hi).2⟩;have:=(Fw i hi).1 j hj;rw[eM]at this;rw[Nat.add_assoc];exact this
theorem Zln {v:Value} (h:Rz enc w base spare held 9 [v]):∃s,v= .string s∧s.size≤reachBytes:=by
 obtain⟨n,x,h,hz⟩:=h;obtain⟨s,e,hx,_⟩:=DataW.trod_string underlying9 h;injection e with e;refine⟨s,e,?_⟩;rw[hx]at hz;simp only[DataW.weights,List.mem_singleton]at hz;have:=hz _ rfl
 simpa using this
theorem Zlg {v:Value} (h:Rz enc w base spare held 3 [v]):∃z:Int,v= .int .i64 z∧-9223372036854775808≤z∧z≤9223372036854775807:=by
 obtain⟨n,x,h,_⟩:=h;obtain⟨z,e,_,hz⟩:=DataW.trod_int underlying3 h;injection e with e;simp[Lit.wf,IntKind.min,IntKind.max,IntKind.signed,IntKind.bits]at hz;exact⟨z,e,by omega,by omega⟩
theorem Zaa {t:TypeId} {fs:Array Field} {cs:List Value} (ht:prog.underlying t=some (.struct fs))(h:Rz enc w base spare held t cs)(i:Nat)(f:Field)(hi:fs[i]? =some f):cs.length=prog.cellsOf t∧Rz enc w base spare held f.type ((cs.drop f.offset).take (prog.cellsOf f.type)):=by
 obtain⟨n,x,h,hz⟩:=h;obtain⟨xs,m,_,Xe,hl,hx,hf⟩:=DataW.trod_struct ht h;have h1:=hf i f hi;have Aa:i<xs.length:=by rw[hx];exact(Array.getElem?_eq_some_iff.1 hi).1
 rw[List.getElem?_eq_getElem Aa]at h1;refine⟨hl,m,_,h1,fun q hq=>?_⟩;subst Xe;simp only[DataW.weights,ht]at hz;exact hz q (DataW.weights_mem_each (j:=i) (by simp[hi]) (by simp[List.getElem?_eq_getElem Aa]) q hq)
end
end Go.Proofs.YtmleeodfmmpdgaaGreatDoor
