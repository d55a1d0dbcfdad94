/- part -/
import Derived.Test.YtmleeodfmmpdgaaGreatDoorQ11
import Derived.Test.YtmleeodfmmpdgaaGreatDoorQ17
namespace Go.Proofs.YtmleeodfmmpdgaaGreatDoor
open Go.RowKit
attribute [local go_sem] Ext.cell Ext.frozen
attribute [local go_sem ↓] Go.wp_at_zero Go.wp_at_succ
def Zfb (l:List UInt8):Bool:=decide (l.length=1)&&decide (l.getD 0 0∈Zet)
def okZ (t:Tz):Bool:=(decide (t.1=1)&&Zam t.2.1)||(decide (t.1=3)&&Zfb t.2.1)||(decide (t.1=2)&&Zbk t.2.1)
def Zbl (t:Tz):List UInt8:=if t.1=2 then 34::(Zah t.2.1++[34])else t.2.1
theorem Zwr (l:List UInt8)(p:Int):okZ (1,l,p)=Zam l:=by simp[okZ]
theorem Zafd (l:List UInt8)(p:Int):okZ (2,l,p)=Zbk l:=by simp[okZ]
theorem Zafa (l:List UInt8)(p:Int):okZ (3,l,p)=Zfb l:=by simp[okZ]
end Go.Proofs.YtmleeodfmmpdgaaGreatDoor
