
/-
 What functions of Go's library give, as the evaluator says it: strconv.Itoa, Atoi; slices.Sort at integers; strings.Builder's copyCheck and String; strings.Trim, Repeat, Split, Contains, Join, HasSuffix, IndexByte.
-/
import Derived.Test.YtkgcnknhkobmjaaGreatDoorEvSyn
import Derived.Lib.AtoiTie
import Derived.Lib.SlTrimSet
import Derived.Lib.Repeat
import Derived.Lib.Split
import Derived.Lib.IndexAny
import Derived.Lib.Join
import Derived.Lib.Bytealg
import Derived.Lib.Strings
namespace Go.Evl
def z1y:Nat->Nat->List UInt8
 | 0,_=>[]
 | f+1,u=>if u<10 then [UInt8.ofNat (48+u)] else z1y f (u/10)++[UInt8.ofNat (48+u%10)]
def itoaX:List V->Mem->Option (V×Mem)
 | [.d (.int .i64 n)],m=>if 0<=n/\n<=9223372036854775807 then some (.d (.str (z1y 20 n.toNat)),m) else none
 | _,_=>none
def copyX (bt:Nat):List V->Mem->Option (V×Mem)
 | [.ptr o 0 _],m=>
  match look m o with
  | some (.cells t [.d .nilp,r])=>if t=bt then some (.tup [],upd m o (.cells t [.ptr o 0 0,r])) else none
  | some (.cells _ [.ptr o' 0 _,_])=>if o'=o then some (.tup [],m) else none
  | _=>none
 | _,_=>none
def z09:List D->Option (List UInt8)
 | []=>some []
 | .int .u8 n::r=>if 0<=n/\n<256 then(z09 r).map (UInt8.ofNat n.toNat::·) else none
 | _::_=>none
def stringX (bt et:Nat):List V->Mem->Option (V×Mem)
 | [.ptr o 0 _],m=>
  match look m o with
  | some (.cells t [_,.ref r 0 len top])=>
   match look m r with
   | some (.row false t' 1 n xs)=>
    if t=bt/\t'=et/\len=n/\top=n/\n≠0 then
     match z09 xs with
     | some b=>some (.d (.str b),upd m r .gone)
     | none=>none
    else none
   | _=>none
  | _=>none
 | _,_=>none
def repeatX:List V->Mem->Option (V×Mem)
 | [.d (.str s),.d (.int .i64 c)],m=>if 0<=c/\c<=1000000/\s.length<=1000000 then some (.d (.str (Lib.repeatL s c.toNat)),m) else none
 | _,_=>none
end Go.Evl
