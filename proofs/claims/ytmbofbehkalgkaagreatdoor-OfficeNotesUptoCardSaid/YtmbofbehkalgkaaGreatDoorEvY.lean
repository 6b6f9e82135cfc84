
/-
 Texts in order: what slices.Sort gives at texts.
-/
import Derived.Test.YtmbofbehkalgkaaGreatDoorEvX
namespace Go.Evl
def ycr (x:List UInt8):List (List UInt8)->List (List UInt8)
 | []=>[x]
 | y::r=>if zag y x then y::ycr x r else x::y::r
def zfg:List (List UInt8)->List (List UInt8)
 | []=>[]
 | x::r=>ycr x (zfg r)
theorem zw6 (x:List UInt8):∀l:List (List UInt8),(ycr x l).Perm (x::l)
 | []=>List.Perm.refl _
 | y::r=>by
  simp only [ycr]
  split
  ·exact((zw6 x r).cons y).trans (List.Perm.swap x y r)
  ·exact List.Perm.refl _
theorem zc7:∀l:List (List UInt8),(zfg l).Perm l
 | []=>List.Perm.refl _
 | x::r=>(zw6 x _).trans ((zc7 r).cons x)
theorem strLess_irr:∀a:List UInt8,zag a a=false
 | []=>rfl
 | a::x=>by simp [zag,strLess_irr x]
theorem strLess_trans:∀a b c:List UInt8,zag b a=false->zag c b=false->zag c a=false
 | [],b,c,_,_=>by cases c<;>rfl
 | a::x,[],c,h,_=>by simp [zag] at h
 | a::x,b::y,[],_,h=>by simp [zag] at h
 | a::x,b::y,c::z,h1,h2=>by
  simp only [zag,Bool.or_eq_false_iff,decide_eq_false_iff_not,Bool.and_eq_false_iff,beq_eq_false_iff_ne,ne_eq,UInt8.not_lt] at h1 h2 ⊢
  refine⟨UInt8.le_trans h1.1 h2.1,?_⟩
  by_cases e:c=a
  ·right
   have e1:b=a:=UInt8.le_antisymm (by rw [<-e];exact h2.1) h1.1
   have e2:c=b:=e.trans e1.symm
   refine strLess_trans x y z (h1.2.resolve_left (fun h=>h e1)) (h2.2.resolve_left (fun h=>h e2))
  ·exact .inl e
theorem strLess_asymm:∀a b:List UInt8,zag a b=true->zag b a=false
 | a,[],h=>by cases a<;>simp [zag] at h
 | [],b::y,_=>rfl
 | a::x,b::y,h=>by
  simp only [zag,Bool.or_eq_true,decide_eq_true_eq,Bool.and_eq_true,beq_iff_eq] at h
  simp only [zag,Bool.or_eq_false_iff,decide_eq_false_iff_not,Bool.and_eq_false_iff,beq_eq_false_iff_ne,ne_eq,UInt8.not_lt]
  rcases h with h|⟨h,h'⟩
  ·exact⟨UInt8.le_of_lt h,.inl fun e=>UInt8.ne_of_lt h e.symm⟩
  ·exact⟨by rw [h];exact UInt8.le_refl _,.inr (strLess_asymm x y h')⟩
theorem zw7 (x:List UInt8):∀l:List (List UInt8),l.Pairwise (fun a b=>zag b a=false)->(ycr x l).Pairwise (fun a b=>zag b a=false)
 | [],_=>by simp [ycr]
 | y::r,h=>by
  simp only [ycr]
  rw [List.pairwise_cons] at h
  split
  ·rename_i hxy
   refine List.pairwise_cons.2 ⟨fun z hz=> ?_,zw7 x r h.2⟩
   rcases List.mem_cons.1 ((zw6 x r).mem_iff.1 hz) with rfl|hz
   ·exact strLess_asymm _ _ hxy
   ·exact h.1 z hz
  ·rename_i hxy
   have hxy:zag y x=false:=by cases hh:zag y x with|true=>exact absurd hh hxy|false=>rfl
   refine List.pairwise_cons.2 ⟨fun z hz=> ?_,List.pairwise_cons.2 h⟩
   rcases List.mem_cons.1 hz with rfl|hz
   ·exact hxy
   ·exact strLess_trans _ _ _ hxy (h.1 z hz)
theorem ziq:∀l:List (List UInt8),(zfg l).Pairwise (fun a b=>zag b a=false)
 | []=>List.Pairwise.nil
 | x::r=>zw7 x _ (ziq r)
def sortXS:List V->Mem->Option (V×Mem)
 | [.d .nil],m=>some (.tup [],m)
 | [.ref o 0 len top],m=>
  match look m o with
  | some (.row true t 1 n xs)=>
   if len=0/\top=0/\n=0 then some (.tup [],m)
   else if len=n/\top=n/\n≠0/\n<4611686018427387904 then
    match strsOf xs with
    | some zs=>some (.tup [],upd m o (.row true t 1 n ((zfg zs).map D.str)))
    | none=>none
   else none
  | _=>none
 | _,_=>none
end Go.Evl
