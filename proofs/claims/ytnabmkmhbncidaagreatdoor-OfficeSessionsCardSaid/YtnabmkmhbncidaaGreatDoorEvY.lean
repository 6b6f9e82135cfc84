
/-
 Texts in order: what slices.Sort gives at texts.
-/
import Derived.Test.YtnabmkmhbncidaaGreatDoorEvX
namespace Go.Evl
def yf1 (x:List UInt8):List (List UInt8)->List (List UInt8)
 | []=>[x]
 | y::r=>if zax y x then y::yf1 x r else x::y::r
def zi7:List (List UInt8)->List (List UInt8)
 | []=>[]
 | x::r=>yf1 x (zi7 r)
theorem z0w (x:List UInt8):∀l:List (List UInt8),(yf1 x l).Perm (x::l)
 | []=>List.Perm.refl _
 | y::r=>by
  simp only [yf1]
  split
  ·exact((z0w x r).cons y).trans (List.Perm.swap x y r)
  ·exact List.Perm.refl _
theorem zex:∀l:List (List UInt8),(zi7 l).Perm l
 | []=>List.Perm.refl _
 | x::r=>(z0w x _).trans ((zex r).cons x)
theorem zpz:∀a b c:List UInt8,zax b a=false->zax c b=false->zax c a=false
 | [],b,c,_,_=>by cases c<;>rfl
 | a::x,[],c,h,_=>by simp [zax] at h
 | a::x,b::y,[],_,h=>by simp [zax] at h
 | a::x,b::y,c::z,h1,h2=>by
  simp only [zax,Bool.or_eq_false_iff,decide_eq_false_iff_not,Bool.and_eq_false_iff,beq_eq_false_iff_ne,ne_eq,UInt8.not_lt] at h1 h2 ⊢
  refine⟨UInt8.le_trans h1.1 h2.1,?_⟩
  by_cases e:c=a
  ·right
   have e1:b=a:=UInt8.le_antisymm (by rw [<-e];exact h2.1) h1.1
   have e2:c=b:=e.trans e1.symm
   refine zpz x y z (h1.2.resolve_left (fun h=>h e1)) (h2.2.resolve_left (fun h=>h e2))
  ·exact .inl e
theorem zh3:∀a b:List UInt8,zax a b=true->zax b a=false
 | a,[],h=>by cases a<;>simp [zax] at h
 | [],b::y,_=>rfl
 | a::x,b::y,h=>by
  simp only [zax,Bool.or_eq_true,decide_eq_true_eq,Bool.and_eq_true,beq_iff_eq] at h
  simp only [zax,Bool.or_eq_false_iff,decide_eq_false_iff_not,Bool.and_eq_false_iff,beq_eq_false_iff_ne,ne_eq,UInt8.not_lt]
  rcases h with h|⟨h,h'⟩
  ·exact⟨UInt8.le_of_lt h,.inl fun e=>UInt8.ne_of_lt h e.symm⟩
  ·exact⟨by rw [h];exact UInt8.le_refl _,.inr (zh3 x y h')⟩
theorem z0x (x:List UInt8):∀l:List (List UInt8),l.Pairwise (fun a b=>zax b a=false)->(yf1 x l).Pairwise (fun a b=>zax b a=false)
 | [],_=>by simp [yf1]
 | y::r,h=>by
  simp only [yf1]
  rw [List.pairwise_cons] at h
  split
  ·rename_i hxy
   refine List.pairwise_cons.2 ⟨fun z hz=> ?_,z0x x r h.2⟩
   rcases List.mem_cons.1 ((z0w x r).mem_iff.1 hz) with rfl|hz
   ·exact zh3 _ _ hxy
   ·exact h.1 z hz
  ·rename_i hxy
   have hxy:zax y x=false:=by cases hh:zax y x with|true=>exact absurd hh hxy|false=>rfl
   refine List.pairwise_cons.2 ⟨fun z hz=> ?_,List.pairwise_cons.2 h⟩
   rcases List.mem_cons.1 hz with rfl|hz
   ·exact hxy
   ·exact zpz _ _ _ hxy (h.1 z hz)
theorem zlj:∀l:List (List UInt8),(zi7 l).Pairwise (fun a b=>zax b a=false)
 | []=>List.Pairwise.nil
 | x::r=>z0x x _ (zlj r)
def sortXS:List V->Mem->Option (V×Mem)
 | [.d .nil],m=>some (.tup [],m)
 | [.ref o 0 len top],m=>
  match look m o with
  | some (.row true t 1 n xs)=>
   if len=0/\top=0/\n=0 then some (.tup [],m)
   else if len=n/\top=n/\n≠0/\n<4611686018427387904 then
    match strsOf xs with
    | some zs=>some (.tup [],upd m o (.row true t 1 n ((zi7 zs).map D.str)))
    | none=>none
   else none
  | _=>none
 | _,_=>none
end Go.Evl
