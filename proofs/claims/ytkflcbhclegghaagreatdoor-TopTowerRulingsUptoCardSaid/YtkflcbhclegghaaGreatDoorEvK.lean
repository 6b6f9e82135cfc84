
/-
 What strings.Compare gives.
-/
import Derived.Test.YtkflcbhclegghaaGreatDoorEvSyn
import Derived.Lib.Bytealg
namespace Go.Evl
def compareX:List V->Mem->Option (V×Mem)
 |[.d (.str a),.d (.str b)],m=>some (.d (.int .i64 (Lib.compareBytes a b)),m)
 |_,_=>none
theorem zt4:∀a b:List UInt8,Lib.compareBytes a b=if zal a b=true then -1 else if a=b then 0 else 1
 |[],[]=>rfl
 |[],_::_=>rfl
 |_::_,[]=>rfl
 |x::a,y::b=>by
  have ih:=zt4 a b
  by_cases e:x=y
  ·subst e;have h:¬x<x:=UInt8.lt_irrefl x;simp only[Lib.compareBytes,zal,h,if_false,ih];simp
  by_cases h:x<y
  ·simp[Lib.compareBytes,zal,h]
  have h2:y<x:=(UInt8.lt_or_lt_of_ne e).resolve_left h;simp[Lib.compareBytes,zal,h,h2,e]
end Go.Evl
