
/-
 Texts in order: what slices.Sort gives at texts.
-/
import Derived.Test.YtnabmkmhbncidabGreatDoorEvX
namespace Go.Evl
def yfm (x:List UInt8):List (List UInt8)->List (List UInt8)
 | []=>[x]
 | y::r=>if zap y x then y::yfm x r else x::y::r
def zju:List (List UInt8)->List (List UInt8)
 | []=>[]
 | x::r=>yfm x (zju r)
theorem z1l (x:List UInt8):∀l:List (List UInt8),(yfm x l).Perm (x::l)
 | []=>List.Perm.refl _
 | y::r=>by
  simp only [yfm]
  split
  ·exact((z1l x r).cons y).trans (List.Perm.swap x y r)
  ·exact List.Perm.refl _
theorem zdh:∀l:List (List UInt8),(zju l).Perm l
 | []=>List.Perm.refl _
 | x::r=>(z1l x _).trans ((zdh r).cons x)
theorem zrd:∀a b c:List UInt8,zap b a=false->zap c b=false->zap c a=false
 | [],b,c,_,_=>by cases c<;>rfl
 | a::x,[],c,h,_=>by simp [zap] at h
 | a::x,b::y,[],_,h=>by simp [zap] at h
 | a::x,b::y,c::z,h1,h2=>by
  simp only [zap,Bool.or_eq_false_iff,decide_eq_false_iff_not,Bool.and_eq_false_iff,beq_eq_false_iff_ne,ne_eq,UInt8.not_lt] at h1 h2 ⊢
  refine⟨UInt8.le_trans h1.1 h2.1,?_⟩
  by_cases e:c=a
  ·right
   have e1:b=a:=UInt8.le_antisymm (by rw [<-e];exact h2.1) h1.1
   have e2:c=b:=e.trans e1.symm
   refine zrd x y z (h1.2.resolve_left (fun h=>h e1)) (h2.2.resolve_left (fun h=>h e2))
  ·exact .inl e
theorem zik:∀a b:List UInt8,zap a b=true->zap b a=false
 | a,[],h=>by cases a<;>simp [zap] at h
 | [],b::y,_=>rfl
 | a::x,b::y,h=>by
  simp only [zap,Bool.or_eq_true,decide_eq_true_eq,Bool.and_eq_true,beq_iff_eq] at h
  simp only [zap,Bool.or_eq_false_iff,decide_eq_false_iff_not,Bool.and_eq_false_iff,beq_eq_false_iff_ne,ne_eq,UInt8.not_lt]
  rcases h with h|⟨h,h'⟩
  ·exact⟨UInt8.le_of_lt h,.inl fun e=>UInt8.ne_of_lt h e.symm⟩
  ·exact⟨by rw [h];exact UInt8.le_refl _,.inr (zik x y h')⟩
theorem z1m (x:List UInt8):∀l:List (List UInt8),l.Pairwise (fun a b=>zap b a=false)->(yfm x l).Pairwise (fun a b=>zap b a=false)
 | [],_=>by simp [yfm]
 | y::r,h=>by
  simp only [yfm]
  rw [List.pairwise_cons] at h
  split
  ·rename_i hxy
   refine List.pairwise_cons.2 ⟨fun z hz=> ?_,z1m x r h.2⟩
   rcases List.mem_cons.1 ((z1l x r).mem_iff.1 hz) with rfl|hz
   ·exact zik _ _ hxy
   ·exact h.1 z hz
  ·rename_i hxy
   have hxy:zap y x=false:=by cases hh:zap y x with|true=>exact absurd hh hxy|false=>rfl
   refine List.pairwise_cons.2 ⟨fun z hz=> ?_,List.pairwise_cons.2 h⟩
   rcases List.mem_cons.1 hz with rfl|hz
   ·exact hxy
   ·exact zrd _ _ _ hxy (h.1 z hz)
theorem zlt:∀l:List (List UInt8),(zju l).Pairwise (fun a b=>zap b a=false)
 | []=>List.Pairwise.nil
 | x::r=>z1m x _ (zlt r)
def sortXS:List V->Mem->Option (V×Mem)
 | [.d .nil],m=>some (.tup [],m)
 | [.ref o 0 len top],m=>
  match look m o with
  | some (.row true t 1 n xs)=>
   if len=0/\top=0/\n=0 then some (.tup [],m)
   else if len=n/\top=n/\n≠0/\n<4611686018427387904 then
    match strsOf xs with
    | some zs=>some (.tup [],upd m o (.row true t 1 n ((zju zs).map D.str)))
    | none=>none
   else none
  | _=>none
 | _,_=>none
end Go.Evl
