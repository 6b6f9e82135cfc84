
/-
 Texts in order: what slices.Sort gives at texts.
-/
import Derived.Test.YtcbddkeiohdocaaGreatDoorEvX
namespace Go.Evl
def insS (x:List UInt8):List (List UInt8)→List (List UInt8)
 | []=>[x]
 | y::r=>if strLess y x then y::insS x r else x::y::r
def sortS:List (List UInt8)→List (List UInt8)
 | []=>[]
 | x::r=>insS x (sortS r)
theorem insS_perm (x:List UInt8):∀l:List (List UInt8),(insS x l).Perm (x::l)
 | []=>List.Perm.refl _
 | y::r=>by
  simp only [insS]
  split
  ·exact((insS_perm x r).cons y).trans (List.Perm.swap x y r)
  ·exact List.Perm.refl _
theorem sortS_perm:∀l:List (List UInt8),(sortS l).Perm l
 | []=>List.Perm.refl _
 | x::r=>(insS_perm x _).trans ((sortS_perm r).cons x)
theorem strLess_irr:∀a:List UInt8,strLess a a=false
 | []=>rfl
 | a::x=>by simp [strLess,strLess_irr x]
theorem strLess_trans:∀a b c:List UInt8,strLess b a=false→strLess c b=false→strLess c a=false
 | [],b,c,_,_=>by cases c<;>rfl
 | a::x,[],c,h,_=>by simp [strLess] at h
 | a::x,b::y,[],_,h=>by simp [strLess] at h
 | a::x,b::y,c::z,h1,h2=>by
  simp only [strLess,Bool.or_eq_false_iff,decide_eq_false_iff_not,Bool.and_eq_false_iff,beq_eq_false_iff_ne,ne_eq,UInt8.not_lt] at h1 h2 ⊢
  refine⟨UInt8.le_trans h1.1 h2.1,?_⟩
  by_cases e:c=a
  ·right
   have e1:b=a:=UInt8.le_antisymm (by rw [←e];exact h2.1) h1.1
   have e2:c=b:=e.trans e1.symm
   refine strLess_trans x y z (h1.2.resolve_left (fun h=>h e1)) (h2.2.resolve_left (fun h=>h e2))
  ·exact .inl e
theorem strLess_asymm:∀a b:List UInt8,strLess a b=true→strLess b a=false
 | a,[],h=>by cases a<;>simp [strLess] at h
 | [],b::y,_=>rfl
 | a::x,b::y,h=>by
  simp only [strLess,Bool.or_eq_true,decide_eq_true_eq,Bool.and_eq_true,beq_iff_eq] at h
  simp only [strLess,Bool.or_eq_false_iff,decide_eq_false_iff_not,Bool.and_eq_false_iff,beq_eq_false_iff_ne,ne_eq,UInt8.not_lt]
  rcases h with h|⟨h,h'⟩
  ·exact⟨UInt8.le_of_lt h,.inl fun e=>UInt8.ne_of_lt h e.symm⟩
  ·exact⟨by rw [h];exact UInt8.le_refl _,.inr (strLess_asymm x y h')⟩
theorem insS_sorted (x:List UInt8):∀l:List (List UInt8),l.Pairwise (fun a b=>strLess b a=false)→(insS x l).Pairwise (fun a b=>strLess b a=false)
 | [],_=>by simp [insS]
 | y::r,h=>by
  simp only [insS]
  rw [List.pairwise_cons] at h
  split
  ·rename_i hxy
   refine List.pairwise_cons.2 ⟨fun z hz=> ?_,insS_sorted x r h.2⟩
   rcases List.mem_cons.1 ((insS_perm x r).mem_iff.1 hz) with rfl|hz
   ·exact strLess_asymm _ _ hxy
   ·exact h.1 z hz
  ·rename_i hxy
   have hxy:strLess y x=false:=by cases hh:strLess y x with|true=>exact absurd hh hxy|false=>rfl
   refine List.pairwise_cons.2 ⟨fun z hz=> ?_,List.pairwise_cons.2 h⟩
   rcases List.mem_cons.1 hz with rfl|hz
   ·exact hxy
   ·exact strLess_trans _ _ _ hxy (h.1 z hz)
theorem sortS_sorted:∀l:List (List UInt8),(sortS l).Pairwise (fun a b=>strLess b a=false)
 | []=>List.Pairwise.nil
 | x::r=>insS_sorted x _ (sortS_sorted r)
def sortXS:List V→Mem→Option (V×Mem)
 | [.d .nil],m=>some (.tup [],m)
 | [.ref o 0 len top],m=>
  match look m o with
  | some (.row true t 1 n xs)=>
   if len=0∧top=0∧n=0 then some (.tup [],m)
   else if len=n∧top=n∧n≠0∧n<4611686018427387904 then
    match strsOf xs with
    | some zs=>some (.tup [],upd m o (.row true t 1 n ((sortS zs).map D.str)))
    | none=>none
   else none
  | _=>none
 | _,_=>none
end Go.Evl
