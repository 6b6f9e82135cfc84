
/-
 Texts in order: what slices.Sort gives at texts.
-/
import Derived.Test.YtmbofbehkalgkaaGreatDoorEvX
namespace Go.Evl
def yik (x:List UInt8):List (List UInt8)->List (List UInt8)
 | []=>[x]
 | y::r=>if zaq y x then y::yik x r else x::y::r
def zj7:List (List UInt8)->List (List UInt8)
 | []=>[]
 | x::r=>yik x (zj7 r)
theorem zxv (x:List UInt8):∀l:List (List UInt8),(yik x l).Perm (x::l)
 | []=>List.Perm.refl _
 | y::r=>by
  simp only [yik]
  split
  ·exact((zxv x r).cons y).trans (List.Perm.swap x y r)
  ·exact List.Perm.refl _
theorem zfv:∀l:List (List UInt8),(zj7 l).Perm l
 | []=>List.Perm.refl _
 | x::r=>(zxv x _).trans ((zfv r).cons x)
theorem zes:∀a:List UInt8,zaq a a=false
 | []=>rfl
 | a::x=>by simp [zaq,zes x]
theorem zix:∀a b c:List UInt8,zaq b a=false->zaq c b=false->zaq c a=false
 | [],b,c,_,_=>by cases c<;>rfl
 | a::x,[],c,h,_=>by simp [zaq] at h
 | a::x,b::y,[],_,h=>by simp [zaq] at h
 | a::x,b::y,c::z,h1,h2=>by
  simp only [zaq,Bool.or_eq_false_iff,decide_eq_false_iff_not,Bool.and_eq_false_iff,beq_eq_false_iff_ne,ne_eq,UInt8.not_lt] at h1 h2 ⊢
  refine⟨UInt8.le_trans h1.1 h2.1,?_⟩
  by_cases e:c=a
  ·right
   have e1:b=a:=UInt8.le_antisymm (by rw [<-e];exact h2.1) h1.1
   have e2:c=b:=e.trans e1.symm
   refine zix x y z (h1.2.resolve_left (fun h=>h e1)) (h2.2.resolve_left (fun h=>h e2))
  ·exact .inl e
theorem zn7:∀a b:List UInt8,zaq a b=true->zaq b a=false
 | a,[],h=>by cases a<;>simp [zaq] at h
 | [],b::y,_=>rfl
 | a::x,b::y,h=>by
  simp only [zaq,Bool.or_eq_true,decide_eq_true_eq,Bool.and_eq_true,beq_iff_eq] at h
  simp only [zaq,Bool.or_eq_false_iff,decide_eq_false_iff_not,Bool.and_eq_false_iff,beq_eq_false_iff_ne,ne_eq,UInt8.not_lt]
  rcases h with h|⟨h,h'⟩
  ·exact⟨UInt8.le_of_lt h,.inl fun e=>UInt8.ne_of_lt h e.symm⟩
  ·exact⟨by rw [h];exact UInt8.le_refl _,.inr (zn7 x y h')⟩
theorem zxw (x:List UInt8):∀l:List (List UInt8),l.Pairwise (fun a b=>zaq b a=false)->(yik x l).Pairwise (fun a b=>zaq b a=false)
 | [],_=>by simp [yik]
 | y::r,h=>by
  simp only [yik]
  rw [List.pairwise_cons] at h
  split
  ·rename_i hxy
   refine List.pairwise_cons.2 ⟨fun z hz=> ?_,zxw x r h.2⟩
   rcases List.mem_cons.1 ((zxv x r).mem_iff.1 hz) with rfl|hz
   ·exact zn7 _ _ hxy
   ·exact h.1 z hz
  ·rename_i hxy
   have hxy:zaq y x=false:=by cases hh:zaq y x with|true=>exact absurd hh hxy|false=>rfl
   refine List.pairwise_cons.2 ⟨fun z hz=> ?_,List.pairwise_cons.2 h⟩
   rcases List.mem_cons.1 hz with rfl|hz
   ·exact hxy
   ·exact zix _ _ _ hxy (h.1 z hz)
theorem zmf:∀l:List (List UInt8),(zj7 l).Pairwise (fun a b=>zaq b a=false)
 | []=>List.Pairwise.nil
 | x::r=>zxw x _ (zmf r)
def sortXS:List V->Mem->Option (V×Mem)
 | [.d .nil],m=>some (.tup [],m)
 | [.ref o 0 len top],m=>
  match look m o with
  | some (.row true t 1 n xs)=>
   if len=0/\top=0/\n=0 then some (.tup [],m)
   else if len=n/\top=n/\n≠0/\n<4611686018427387904 then
    match strsOf xs with
    | some zs=>some (.tup [],upd m o (.row true t 1 n ((zj7 zs).map D.str)))
    | none=>none
   else none
  | _=>none
 | _,_=>none
end Go.Evl
