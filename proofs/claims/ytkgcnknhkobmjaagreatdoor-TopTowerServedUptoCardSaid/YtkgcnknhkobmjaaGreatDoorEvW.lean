
/-
 Records in order: what slices.SortFunc gives at records of plain cells.
-/
import Derived.Test.YtkgcnknhkobmjaaGreatDoorEvSyn
namespace Go.Evl
section
variable {α : Type} (lt : α -> α -> Bool)
def ysx (x:α):List α->List α
 | []=>[x]
 | y::r=>if lt y x=true then y::ysx x r else x::y::r
def ymj:List α->List α
 | []=>[]
 | x::r=>ysx lt x (ymj r)
theorem z2e (x:α):∀l:List α,(ysx lt x l).Perm (x::l)
 | []=>List.Perm.refl _
 | y::r=>by
  unfold ysx
  split
  ·exact((z2e x r).cons y).trans (List.Perm.swap x y r)
  ·exact List.Perm.refl _
theorem zse:∀l:List α,(ymj lt l).Perm l
 | []=>List.Perm.refl _
 | x::r=>(z2e lt x _).trans ((zse r).cons x)
def yuc [DecidableEq α] (l:List α):Bool:=l.all fun a=>l.all fun b=>lt a b||lt b a||decide (a=b)
def ygq [DecidableEq α] (cell:α->List D) (dec:List D->Option (List α)) (k f:Nat):List V->Mem->Option (V×Mem)
 | [.d .nil,.fn g [] []],m=>if g=f then some (.tup [],m) else none
 | [.ref o 0 len top,.fn g [] []],m=>
  match look m o with
  | some (.row true t sz n xs)=>
   if g=f/\sz=k/\len=n/\top=n/\n<4611686018427387904 then
    if n=0 then some (.tup [],m) else
    match dec xs with
    | some l=>if yuc lt l=true/\l.length=n then some (.tup [],upd m o (.row true t k n ((ymj lt l).flatMap cell))) else none
    | none=>none
   else none
  | _=>none
 | _,_=>none
end
def yb7 (a b:Int):Int:=if a<b then -1 else if b<a then 1 else 0
end Go.Evl
