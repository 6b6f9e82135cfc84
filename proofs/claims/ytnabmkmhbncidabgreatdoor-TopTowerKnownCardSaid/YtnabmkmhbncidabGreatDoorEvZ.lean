
/-
 What slices.Clone gives of a row.
-/
import Derived.Test.YtnabmkmhbncidabGreatDoorEvSyn
namespace Go.Evl
def cloneX (sz:Nat):List V->Mem->Option (V×Mem)
 | [.ref o 0 len top],m=>
  match look m o with
  | some (.row _ _ sz' n xs)=>if sz'=sz/\len=n/\top=n/\n<=1000000 then some (.d (.list n xs),m) else none
  | _=>none
 | _,_=>none
end Go.Evl
