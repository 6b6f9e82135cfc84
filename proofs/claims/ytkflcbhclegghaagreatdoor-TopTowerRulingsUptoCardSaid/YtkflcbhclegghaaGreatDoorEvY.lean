
/-
 Texts in order: what slices.Sort gives at texts.
-/
import Derived.Test.YtkflcbhclegghaaGreatDoorEvX
namespace Go.Evl
def yve(x:List UInt8):List (List UInt8)->List (List UInt8)
 |[]=>[x]
 |y::r=>if zal y x then y::yve x r else x::y::r
def zof:List (List UInt8)->List (List UInt8)
 |[]=>[]
 |x::r=>yve x (zof r)
theorem z4l(x:List UInt8):∀l:List (List UInt8),(yve x l).Perm (x::l)
 |[]=>List.Perm.refl _
 |y::r=>by
  simp only[yve]
  split
  ·exact((z4l x r).cons y).trans (List.Perm.swap x y r)
  exact List.Perm.refl _
theorem zjj:∀l:List (List UInt8),(zof l).Perm l
 |[]=>List.Perm.refl _
 |x::r=>(z4l x _).trans ((zjj r).cons x)
theorem zk0:∀a:List UInt8,zal a a=false
 |[]=>rfl
 |a::x=>by simp[zal,zk0 x]
theorem zlv:∀a b c:List UInt8,zal b a=false->zal c b=false->zal c a=false
 |[],b,c,_,_=>by cases c<;>rfl
 |a::x,[],c,h,_=>by simp[zal]at h
 |a::x,b::y,[],_,h=>by simp[zal]at h
 |a::x,b::y,c::z,h1,h2=>by
  simp only[zal,Bool.or_eq_false_iff,decide_eq_false_iff_not,Bool.and_eq_false_iff,beq_eq_false_iff_ne,ne_eq,UInt8.not_lt]at h1 h2⊢;refine⟨UInt8.le_trans h1.1 h2.1,?_⟩
  by_cases e:c=a
  ·right;have e1:b=a:=UInt8.le_antisymm (by rw[<-e];exact h2.1) h1.1;have e2:c=b:=e.trans e1.symm;refine zlv x y z (h1.2.resolve_left (λh=>h e1)) (h2.2.resolve_left (λh=>h e2))
  exact .inl e
theorem zog:∀a b:List UInt8,zal a b=true->zal b a=false
 |a,[],h=>by cases a<;>simp[zal]at h
 |[],b::y,_=>rfl
 |a::x,b::y,h=>by
  simp only[zal,Bool.or_eq_true,decide_eq_true_eq,Bool.and_eq_true,beq_iff_eq]at h;simp only[zal,Bool.or_eq_false_iff,decide_eq_false_iff_not,Bool.and_eq_false_iff,beq_eq_false_iff_ne,ne_eq,UInt8.not_lt]
  rcases h with h|⟨h,h'⟩
  ·exact⟨UInt8.le_of_lt h,.inl λe=>UInt8.ne_of_lt h e.symm⟩
  exact⟨by rw[h];exact UInt8.le_refl _,.inr (zog x y h')⟩
theorem z4m(x:List UInt8):∀l:List (List UInt8),l.Pairwise (λa b=>zal b a=false)->(yve x l).Pairwise (λa b=>zal b a=false)
 |[],_=>by simp[yve]
 |y::r,h=>by
  simp only[yve];rw[List.pairwise_cons]at h
  split
  ·rename_i hxy;refine List.pairwise_cons.2 ⟨λz hz=>?_,z4m x r h.2⟩
   rcases List.mem_cons.1 ((z4l x r).mem_iff.1 hz)with rfl|hz
   ·exact zog _ _ hxy
   exact h.1 z hz
  rename_i hxy;have hxy:zal y x=false:=by cases hh:zal y x with|true=>exact absurd hh hxy|false=>rfl
  refine List.pairwise_cons.2 ⟨λz hz=>?_,List.pairwise_cons.2 h⟩
  rcases List.mem_cons.1 hz with rfl|hz
  ·exact hxy
  exact zlv _ _ _ hxy (h.1 z hz)
theorem zm4:∀l:List (List UInt8),(zof l).Pairwise (λa b=>zal b a=false)
 |[]=>List.Pairwise.nil
 |x::r=>z4m x _ (zm4 r)
def sortXS:List V->Mem->Option (V×Mem)
 |[.d .nil],m=>some (.tup [],m)
 |[.ref o 0 len top],m=>
  match look m o with
  |some (.row true t 1 n xs)=>
   if len=0/\top=0/\n=0 then some (.tup [],m)
   else if len=n/\top=n/\n≠0/\n<4611686018427387904 then
    match strsOf xs with
    |some zs=>some (.tup [],upd m o (.row true t 1 n ((zof zs).map D.str)))
    |none=>none
   else none
  |_=>none
 |_,_=>none
end Go.Evl
