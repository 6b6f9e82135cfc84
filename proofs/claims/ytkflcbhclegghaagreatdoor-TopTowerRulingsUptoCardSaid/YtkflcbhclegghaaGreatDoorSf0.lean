
/-
 Integers compared, by an oracle zdk functions that are given whole.
-/
import Derived.Sort.Statements
import Derived.Test.YtkflcbhclegghaaGreatDoorSpBase
import Derived.Test.YtkflcbhclegghaaGreatDoorEvW
namespace Go.Proofs.YtkflcbhclegghaaGreatDoor.Co
open Go Go.Evl
structure ymm(E:Oracle):Prop where
 lim:Lim code (λ_=>none) E
theorem ymm.fn{E:Oracle}(g:ymm E){f:Nat}{args:List V}{r:V}{cf:CF}(hc:code f=some cf)(hX:(λ_=>none:Extern) f=none)(h:ym1 E 0 cf args [] λv m'=>yqa m' v λd=>Ret d r):Fc E f args r:=Fc.enter g.lim hX hc h
theorem ycc:∃E,ymm E:=(exists_lim code λ_=>none).imp λ_ h=>⟨h⟩
section
variable{E:Oracle}(g:ymm E)
include g
theorem ykc(a:Int):Fc E zi0 [I a] (B false):=by
 refine g.fn rfl rfl ?_
 repeat'((conv=>whnf);first|refine Yz ?_|refine Cmp.tt rfl ?_|(refine Ret.mk rfl))
theorem yum(a b:Int):Fc E zbx [I a,I b] (I (ye5 a b)):=by
 have h1:=ykc g a;have h2:=ykc g b;refine g.fn rfl rfl ?_;unfold ye5
 rcases Int.lt_trichotomy a b with h|h|h
 ·rw[if_pos h]
  repeat'((conv=>whnf);first|refine Yz ?_|(apply zaf.of;assumption)|(refine Ret.mk rfl))
 ·rw[if_neg (by omega),if_neg (by omega)]
  repeat'((conv=>whnf);first|refine Yz ?_|(apply zaf.of;assumption)|(refine Ret.mk rfl))
 rw[if_neg (by omega),if_pos h]
 repeat'((conv=>whnf);first|refine Yz ?_|(apply zaf.of;assumption)|(refine Ret.mk rfl))
end
theorem ym9(a b:Int):ye5 a b<0↔a<b:=by
 unfold ye5
 repeat' split
 all_goals omega
theorem yb0(a b:Int):ye5 a b=0↔a=b:=by
 unfold ye5
 repeat' split
 all_goals omega
end Go.Proofs.YtkflcbhclegghaaGreatDoor.Co
