
/-
 What functions of Go's library give, as the evaluator says it: strconv.Itoa, Atoi; slices.Sort at integers; strings.Builder's copyCheck and String; strings.Trim, Repeat, Split, Contains, Join, HasSuffix, IndexByte.
-/
import Derived.Test.YtkflcbhclegghaaGreatDoorEvSyn
import Derived.Lib.AtoiTie
import Derived.Lib.SlTrimSet
import Derived.Lib.Repeat
import Derived.Lib.Split
import Derived.Lib.IndexAny
import Derived.Lib.Join
import Derived.Lib.Bytealg
import Derived.Lib.Strings
namespace Go.Evl
def zlg:Nat->Nat->List UInt8
 |0,_=>[]
 |f+1,u=>if u<10 then [UInt8.ofNat (48+u)]else zlg f (u/10)++[UInt8.ofNat (48+u%10)]
def itoaX:List V->Mem->Option (V×Mem)
 |[.d (.int .i64 n)],m=>if 0<=n/\n<=9223372036854775807 then some (.d (.str (zlg 20 n.toNat)),m)else none
 |_,_=>none
def copyX(bt:Nat):List V->Mem->Option (V×Mem)
 |[.ptr o 0 _],m=>
  match look m o with
  |some (.cells t [.d .nilp,r])=>if t=bt then some (.tup [],upd m o (.cells t [.ptr o 0 0,r]))else none
  |some (.cells _ [.ptr o' 0 _,_])=>if o'=o then some (.tup [],m)else none
  |_=>none
 |_,_=>none
def z3e:List D->Option (List UInt8)
 |[]=>some []
 |.int .u8 n::r=>if 0<=n/\n<256 then(z3e r).map (UInt8.ofNat n.toNat::·)else none
 |_::_=>none
def stringX(bt et:Nat):List V->Mem->Option (V×Mem)
 |[.ptr o 0 _],m=>
  match look m o with
  |some (.cells t [_,.ref r 0 len top])=>
   match look m r with
   |some (.row false t' 1 n xs)=>
    if t=bt/\t'=et/\len=n/\top=n/\n≠0 then
     match z3e xs with
     |some b=>some (.d (.str b),upd m r .gone)
     |none=>none
    else none
   |_=>none
  |_=>none
 |_,_=>none
def atoiX:List V->Mem->Option (V×Mem)
 |[.d (.str s)],m=>
  if s.length<=1000000 then
   match Lib.atoiAll s with
   |.ok n=>some (.tup [.d (.int .i64 n),.d .nili],m)
   |.syntax=>some (.tup [.d (.int .i64 0),.d (.ifc true)],m)
   |.range=>some (.tup [.d (.int .i64 (Lib.atoiSat s)),.d (.ifc true)],m)
  else none
 |_,_=>none
def ypz(s c:List UInt8):List (List UInt8):=(Lib.splitB ⟨c.toArray⟩ 0 (Lib.countB ⟨s.toArray⟩ ⟨c.toArray⟩) ⟨s.toArray⟩).map (·.data.toList)
def splitX:List V->Mem->Option (V×Mem)
 |[.d (.str s),.d (.str c)],m=>if s.length<=1000000/\1<=c.length then some (.d (.list (ypz s c).length ((ypz s c).map D.str)),m)else none
 |_,_=>none
def indexByteX:List V->Mem->Option (V×Mem)
 |[.d (.str s),.d (.int .u8 c)],m=>some (.d (.int .i64 (Lib.indexByte s c.toNat.toUInt8)),m)
 |_,_=>none
def strsOf:List D->Option (List (List UInt8))
 |[]=>some []
 |.str s::r=>(strsOf r).map (s::·)
 |_::_=>none
def joinX:List V->Mem->Option (V×Mem)
 |[.d (.list n xs),.d (.str c)],m=>
  match strsOf xs with
  |some zs=>if n=zs.length/\(Lib.join zs c).length<=1000000/\zs.length<=1000000 then some (.d (.str (Lib.join zs c)),m)else none
  |none=>none
 |_,_=>none
end Go.Evl
