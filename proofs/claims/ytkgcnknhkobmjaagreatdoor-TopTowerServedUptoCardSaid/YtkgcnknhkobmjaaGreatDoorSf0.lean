
/-
 Integers compared, by an oracle zdb functions that are given whole.
-/
import Derived.Sort.Statements
import Derived.Test.YtkgcnknhkobmjaaGreatDoorSpBase
import Derived.Test.YtkgcnknhkobmjaaGreatDoorEvW
namespace Go.Proofs.YtkgcnknhkobmjaaGreatDoor.Co
open Go Go.Evl
structure yi6 (E:Oracle):Prop where
 lim:Lim code (fun _=>none) E
theorem yi6.fn {E:Oracle} (g:yi6 E) {f:Nat} {args:List V} {r:V} {cf:CF} (hc:code f=some cf) (hX:(fun _=>none:Extern) f=none) (h:yjl E 0 cf args [] fun v m'=>yit m' v fun d=>Ret d r):Fc E f args r:=Fc.enter g.lim hX hc h
theorem z9n:∃E,yi6 E:=(exists_lim code fun _=>none).imp fun _ h=>⟨h⟩
section
variable {E : Oracle} (g : yi6 E)
include g
theorem ygx (a:Int):Fc E zhf [I a] (B false):=by
 refine g.fn rfl rfl ?_
 repeat' ((conv=>whnf);first
 | refine Yz ?_
  | (refine Cmp.tt rfl ?_)
  | (refine Ret.mk rfl))
theorem yqr (a b:Int):Fc E zbf [I a,I b] (I (yb6 a b)):=by
 have h1:=ygx g a
 have h2:=ygx g b
 refine g.fn rfl rfl ?_
 unfold yb6
 rcases Int.lt_trichotomy a b with h|h|h
 ·rw [if_pos h]
  repeat' ((conv=>whnf);first
  | refine Yz ?_
   | (apply zae.of;assumption)
   | (refine Ret.mk rfl))
 ·rw [if_neg (by omega),if_neg (by omega)]
  repeat' ((conv=>whnf);first
  | refine Yz ?_
   | (apply zae.of;assumption)
   | (refine Ret.mk rfl))
 ·rw [if_neg (by omega),if_pos h]
  repeat' ((conv=>whnf);first
  | refine Yz ?_
   | (apply zae.of;assumption)
   | (refine Ret.mk rfl))
end
theorem yjt (a b:Int):yb6 a b<0↔a<b:=by
 unfold yb6
 repeat' split
 all_goals omega
theorem z9c (a b:Int):yb6 a b=0↔a=b:=by
 unfold yb6
 repeat' split
 all_goals omega
end Go.Proofs.YtkgcnknhkobmjaaGreatDoor.Co
