
/-
 Texts in order: what slices.Sort gives at texts.
-/
import Derived.Test.YtnabmkmhbncidabGreatDoorEvX
namespace Go.Evl
def yky (x:List UInt8):List (List UInt8)->List (List UInt8)
 | []=>[x]
 | y::r=>if zbs y x then y::yky x r else x::y::r
def zmz:List (List UInt8)->List (List UInt8)
 | []=>[]
 | x::r=>yky x (zmz r)
theorem z3s (x:List UInt8):∀l:List (List UInt8),(yky x l).Perm (x::l)
 | []=>List.Perm.refl _
 | y::r=>by
  simp only [yky]
  split
  ·exact((z3s x r).cons y).trans (List.Perm.swap x y r)
  ·exact List.Perm.refl _
theorem zjd:∀l:List (List UInt8),(zmz l).Perm l
 | []=>List.Perm.refl _
 | x::r=>(z3s x _).trans ((zjd r).cons x)
theorem zy2:∀a b c:List UInt8,zbs b a=false->zbs c b=false->zbs c a=false
 | [],b,c,_,_=>by cases c<;>rfl
 | a::x,[],c,h,_=>by simp [zbs] at h
 | a::x,b::y,[],_,h=>by simp [zbs] at h
 | a::x,b::y,c::z,h1,h2=>by
  simp only [zbs,Bool.or_eq_false_iff,decide_eq_false_iff_not,Bool.and_eq_false_iff,beq_eq_false_iff_ne,ne_eq,UInt8.not_lt] at h1 h2 ⊢
  refine⟨UInt8.le_trans h1.1 h2.1,?_⟩
  by_cases e:c=a
  ·right
   have e1:b=a:=UInt8.le_antisymm (by rw [<-e];exact h2.1) h1.1
   have e2:c=b:=e.trans e1.symm
   refine zy2 x y z (h1.2.resolve_left (fun h=>h e1)) (h2.2.resolve_left (fun h=>h e2))
  ·exact .inl e
theorem zy1:∀a b:List UInt8,zbs a b=true->zbs b a=false
 | a,[],h=>by cases a<;>simp [zbs] at h
 | [],b::y,_=>rfl
 | a::x,b::y,h=>by
  simp only [zbs,Bool.or_eq_true,decide_eq_true_eq,Bool.and_eq_true,beq_iff_eq] at h
  simp only [zbs,Bool.or_eq_false_iff,decide_eq_false_iff_not,Bool.and_eq_false_iff,beq_eq_false_iff_ne,ne_eq,UInt8.not_lt]
  rcases h with h|⟨h,h'⟩
  ·exact⟨UInt8.le_of_lt h,.inl fun e=>UInt8.ne_of_lt h e.symm⟩
  ·exact⟨by rw [h];exact UInt8.le_refl _,.inr (zy1 x y h')⟩
theorem z3t (x:List UInt8):∀l:List (List UInt8),l.Pairwise (fun a b=>zbs b a=false)->(yky x l).Pairwise (fun a b=>zbs b a=false)
 | [],_=>by simp [yky]
 | y::r,h=>by
  simp only [yky]
  rw [List.pairwise_cons] at h
  split
  ·rename_i hxy
   refine List.pairwise_cons.2 ⟨fun z hz=> ?_,z3t x r h.2⟩
   rcases List.mem_cons.1 ((z3s x r).mem_iff.1 hz) with rfl|hz
   ·exact zy1 _ _ hxy
   ·exact h.1 z hz
  ·rename_i hxy
   have hxy:zbs y x=false:=by cases hh:zbs y x with|true=>exact absurd hh hxy|false=>rfl
   refine List.pairwise_cons.2 ⟨fun z hz=> ?_,List.pairwise_cons.2 h⟩
   rcases List.mem_cons.1 hz with rfl|hz
   ·exact hxy
   ·exact zy2 _ _ _ hxy (h.1 z hz)
theorem zqi:∀l:List (List UInt8),(zmz l).Pairwise (fun a b=>zbs b a=false)
 | []=>List.Pairwise.nil
 | x::r=>z3t x _ (zqi r)
def sortXS:List V->Mem->Option (V×Mem)
 | [.d .nil],m=>some (.tup [],m)
 | [.ref o 0 len top],m=>
  match look m o with
  | some (.row true t 1 n xs)=>
   if len=0/\top=0/\n=0 then some (.tup [],m)
   else if len=n/\top=n/\n≠0/\n<4611686018427387904 then
    match strsOf xs with
    | some zs=>some (.tup [],upd m o (.row true t 1 n ((zmz zs).map D.str)))
    | none=>none
   else none
  | _=>none
 | _,_=>none
end Go.Evl
