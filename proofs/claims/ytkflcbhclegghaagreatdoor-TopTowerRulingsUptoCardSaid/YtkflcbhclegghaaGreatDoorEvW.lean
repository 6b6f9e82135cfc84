
/-
 Records in order: what slices.SortFunc gives at records of plain cells.
-/
import Derived.Test.YtkflcbhclegghaaGreatDoorEvSyn
namespace Go.Evl
section
variable{α:Type}(lt:α ->α ->Bool)
def yw2(x:α):List α->List α
 |[]=>[x]
 |y::r=>if lt y x=true then y::yw2 x r else x::y::r
def yp1:List α->List α
 |[]=>[]
 |x::r=>yw2 lt x (yp1 r)
theorem z4k(x:α):∀l:List α,(yw2 lt x l).Perm (x::l)
 |[]=>List.Perm.refl _
 |y::r=>by
  unfold yw2
  split
  ·exact((z4k x r).cons y).trans (List.Perm.swap x y r)
  exact List.Perm.refl _
theorem zup:∀l:List α,(yp1 lt l).Perm l
 |[]=>List.Perm.refl _
 |x::r=>(z4k lt x _).trans ((zup r).cons x)
def yyt [DecidableEq α](l:List α):Bool:=l.all λa=>l.all λb=>lt a b||lt b a||decide (a=b)
def yj5 [DecidableEq α](cell:α->List D)(dec:List D->Option (List α))(k f:Nat):List V->Mem->Option (V×Mem)
 |[.d .nil,.fn g [] []],m=>if g=f then some (.tup [],m)else none
 |[.ref o 0 len top,.fn g [] []],m=>
  match look m o with
  |some (.row true t sz n xs)=>
   if g=f/\sz=k/\len=n/\top=n/\n<4611686018427387904 then
    if n=0 then some (.tup [],m)else
    match dec xs with
    |some l=>if yyt lt l=true/\l.length=n then some (.tup [],upd m o (.row true t k n ((yp1 lt l).flatMap cell)))else none
    |none=>none
   else none
  |_=>none
 |_,_=>none
end
def ye5(a b:Int):Int:=if a<b then -1 else if b<a then 1 else 0
end Go.Evl
