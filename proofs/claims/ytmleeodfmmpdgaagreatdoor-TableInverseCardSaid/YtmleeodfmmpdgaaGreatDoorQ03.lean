/- part -/
import Derived.Test.YtmleeodfmmpdgaaGreatDoorQ02
import Derived.RangeFuncNested
import Derived.RangeFuncBound
import Derived.Shelf.RegionOpen
import Derived.OwnWalkIn
import Derived.LoopNIn
import Derived.LoopIn
namespace Go.Proofs.YtmleeodfmmpdgaaGreatDoor
open Go.RowKit
attribute [local go_sem] Ext.cell Ext.frozen
attribute [local go_sem ↓] Go.wp_at_zero Go.wp_at_succ
open Go.RowKit Go.Shelf
attribute [local go_sem] Oper.semAt_some
def Zda {α:Type} (f:Nat→α)(k:Nat):List α:=(List.range k).map f
theorem Zlo {α:Type} (f:Nat→α)(k:Nat):Zda f (k+1)=Zda f k++[f k]:=by simp[Zda,List.range_succ]
theorem Ze0 {α:Type} (f:Nat→α)(k:Nat):(Zda f k).length=k:=by simp[Zda]
def KeepS (S:Nat→Prop)(W W':World):Prop:=∀k,S k→W'.heap[k]? =W.heap[k]?
theorem KeepS.refl (S:Nat→Prop)(W:World):KeepS S W W:=fun _ _=>rfl
theorem KeepS.trans {S:Nat→Prop} {A B C:World} (h:KeepS S A B)(k:KeepS S B C):KeepS S A C:=fun i hi=>(k i hi).trans (h i hi)
theorem KeepS.put {S:Nat→Prop} {B:Nat} (hS:∀k,S k→k<B)(W:World)(l:Nat)(_o o':Obj)(hl:B≤l)(_h:W.heap[l]? =some _o)(_hc:_o.isCells=false)(_hw:_o.isWalk=false):KeepS S W (W.putObj l o'):=
 fun k hk=>World.putObj_heap_other (fun e=>by have:=hS k hk;omega)
theorem KeepS.cell {S:Nat→Prop} {W W':World} (h:KeepS S W W') {b:Nat} (hb:S b)(o:Nat):W'.cell? ⟨b,o,none⟩=W.cell? ⟨b,o,none⟩:=World.cell?_of_block (h b hb)
end Go.Proofs.YtmleeodfmmpdgaaGreatDoor
