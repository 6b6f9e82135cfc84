
/-
 Records in order: what slices.SortFunc gives at records of plain cells.
-/
import Derived.Test.YtmbofbehkalgkaaGreatDoorEvSyn
namespace Go.Evl
section
variable {α : Type} (lt : α -> α -> Bool)
def yiw (x:α):List α->List α
 | []=>[x]
 | y::r=>if lt y x=true then y::yiw x r else x::y::r
def yie:List α->List α
 | []=>[]
 | x::r=>yiw lt x (yie r)
theorem zw5 (x:α):∀l:List α,(yiw lt x l).Perm (x::l)
 | []=>List.Perm.refl _
 | y::r=>by
  unfold yiw
  split
  ·exact((zw5 x r).cons y).trans (List.Perm.swap x y r)
  ·exact List.Perm.refl _
theorem zxy:∀l:List α,(yie lt l).Perm l
 | []=>List.Perm.refl _
 | x::r=>(zw5 lt x _).trans ((zxy r).cons x)
def ymp [DecidableEq α] (l:List α):Bool:=l.all fun a=>l.all fun b=>lt a b||lt b a||decide (a=b)
def yaq [DecidableEq α] (cell:α->List D) (dec:List D->Option (List α)) (k f:Nat):List V->Mem->Option (V×Mem)
 | [.d .nil,.fn g [] []],m=>if g=f then some (.tup [],m) else none
 | [.ref o 0 len top,.fn g [] []],m=>
  match look m o with
  | some (.row true t sz n xs)=>
   if g=f/\sz=k/\len=n/\top=n/\n<4611686018427387904 then
    if n=0 then some (.tup [],m) else
    match dec xs with
    | some l=>if ymp lt l=true/\l.length=n then some (.tup [],upd m o (.row true t k n ((yie lt l).flatMap cell))) else none
    | none=>none
   else none
  | _=>none
 | _,_=>none
end
end Go.Evl
