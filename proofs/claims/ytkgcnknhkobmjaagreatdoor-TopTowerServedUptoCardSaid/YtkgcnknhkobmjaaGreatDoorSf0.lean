
/-
 Integers compared, by an oracle zdb functions that are given whole.
-/
import Derived.Sort.Statements
import Derived.Test.YtkgcnknhkobmjaaGreatDoorSpBase
import Derived.Test.YtkgcnknhkobmjaaGreatDoorEvW
namespace Go.Proofs.YtkgcnknhkobmjaaGreatDoor.Co
open Go Go.Evl
structure yi7 (E:Oracle):Prop where
 lim:Lim code (fun _=>none) E
theorem yi7.fn {E:Oracle} (g:yi7 E) {f:Nat} {args:List V} {r:V} {cf:CF} (hc:code f=some cf) (hX:(fun _=>none:Extern) f=none) (h:yjm E 0 cf args [] fun v m'=>yiu m' v fun d=>Ret d r):Fc E f args r:=Fc.enter g.lim hX hc h
theorem z9n:∃E,yi7 E:=(exists_lim code fun _=>none).imp fun _ h=>⟨h⟩
section
variable {E : Oracle} (g : yi7 E)
include g
theorem ygy (a:Int):Fc E zhf [I a] (B false):=by
 refine g.fn rfl rfl ?_
 repeat' ((conv=>whnf);first
 | refine Yz ?_
  | (refine Cmp.tt rfl ?_)
  | (refine Ret.mk rfl))
theorem yqs (a b:Int):Fc E zbf [I a,I b] (I (yb7 a b)):=by
 have h1:=ygy g a
 have h2:=ygy g b
 refine g.fn rfl rfl ?_
 unfold yb7
 rcases Int.lt_trichotomy a b with h|h|h
 ·rw [if_pos h]
  repeat' ((conv=>whnf);first
  | refine Yz ?_
   | (apply zae.of;assumption)
   | (refine Ret.mk rfl))
 ·rw [if_neg (by omega),if_neg (by omega)]
  repeat' ((conv=>whnf);first
  | refine Yz ?_
   | (apply zae.of;assumption)
   | (refine Ret.mk rfl))
 ·rw [if_neg (by omega),if_pos h]
  repeat' ((conv=>whnf);first
  | refine Yz ?_
   | (apply zae.of;assumption)
   | (refine Ret.mk rfl))
end
theorem yju (a b:Int):yb7 a b<0↔a<b:=by
 unfold yb7
 repeat' split
 all_goals omega
theorem z9c (a b:Int):yb7 a b=0↔a=b:=by
 unfold yb7
 repeat' split
 all_goals omega
end Go.Proofs.YtkgcnknhkobmjaaGreatDoor.Co
