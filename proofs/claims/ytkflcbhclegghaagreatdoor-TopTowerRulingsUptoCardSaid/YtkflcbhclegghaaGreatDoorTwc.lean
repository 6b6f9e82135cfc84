/-
  TopTowerRulings: what its law leans on, part 3.
-/
import Derived.Laws.RangeAny
import Derived.Lib.SplitLaws
import Derived.Test.YtkflcbhclegghaaGreatDoorEvX
import Derived.Test.YtkflcbhclegghaaGreatDoorEvY
import Derived.Test.YtkflcbhclegghaaGreatDoorRead
import Derived.Test.YtkflcbhclegghaaGreatDoorSpBase
import Derived.Test.YtkflcbhclegghaaGreatDoorTwb
namespace Go.Proofs.YtkflcbhclegghaaGreatDoor.Co
open Go Go.Evl
set_option maxHeartbeats 32000000
set_option maxRecDepth 100000
structure Wsh where
 r:Rqt
 (ea la:Int)
 deriving DecidableEq
def Wsh.cells(w:Wsh):List D:=[.str w.r.nm,.str w.r.ca,.str w.r.ki,.str w.r.te,.str w.r.pa,.str w.r.li,DI w.r.fr,DI w.r.to,DI w.r.da,DI w.r.mi,DI w.r.se,DI w.r.si,DI w.r.no,DI w.ea,DI w.la,DI 20,DI 0,DI 0]
theorem Wsh.cells_length(w:Wsh):w.cells.length=18:=rfl
abbrev Wsv(w:Wsh):V:=.d (.agg w.cells)
abbrev LWi(l:List Wsh):V:=.d (.list l.length (l.flatMap Wsh.cells))
def yzb(m:Int):Nat->Nat->List Int
 |0,0=>[m]
 |0,1=>[m,m+20]
 |0,_=>[m,m+20,m+40]
 |1,0=>[m,m-20]
 |1,_=>[m,m-20,m+20]
 |_,_=>[m,m-20,m-40]
theorem L1{a a':Int}(h:a=a'):V.d (.list 1 [DI a])=LI [a']:=by rw[h];rfl
theorem L2{a a' b b':Int}(h:a=a')(h2:b=b'):V.d (.list 2 [DI a,DI b])=LI [a',b']:=by rw[h,h2];rfl
theorem L3{a a' b b' c c':Int}(h:a=a')(h2:b=b')(h3:c=c'):V.d (.list 3 [DI a,DI b,DI c])=LI [a',b',c']:=by rw[h,h2,h3];rfl
section
variable{E:Oracle}(g:Good E)
include g
theorem yyl(x:Int)(h:0<=x/\x<=1000000):Fc E zgk [I x] (I x):=by
 refine g.fn rfl rfl ?_
 repeat'((conv=>whnf);first|refine Yz ?_|(refine Ret.mk ?_))
 all_goals simp only[I];congr;split<;>omega
theorem yyk(x:Int)(h:x<=0/\ -1000000<=x):Fc E zgk [I x] (I (-x)):=by
 refine g.fn rfl rfl ?_
 repeat'((conv=>whnf);first|refine Yz ?_|(refine Ret.mk ?_))
 all_goals simp only[I];congr;split<;>omega
theorem yv6{a b:Int}(h:a<b):Fc E zbx [I a,I b] (I (-1)):=by
 have:=yjr g a b
 rwa[ywy,if_pos h]at this
theorem yv4{a b:Int}(h:a=b):Fc E zbx [I a,I b] (I 0):=by
 have:=yjr g a b
 rwa[ywy,if_neg (by omega),if_neg (by omega)]at this
theorem yv5{a b:Int}(h:b<a):Fc E zbx [I a,I b] (I 1):=by
 have:=yjr g a b
 rwa[ywy,if_neg (by omega),if_pos h]at this
theorem yyi(a b:Int)(h:a≠0):Fc E zha [.d (.list 2 [DI a,DI b])] (I a):=by
 refine g.fn rfl rfl ?_
 repeat'((conv=>whnf);first|refine Yz ?_|refine Cmp.tt h ?_|refine zab.step g.lim ?_|(refine Ret.mk rfl))
theorem yyj(b:Int):Fc E zha [.d (.list 2 [DI 0,DI b])] (I b):=by
 refine g.fn rfl rfl ?_
 by_cases h:b=0
 ·subst h
  repeat'((conv=>whnf);first|refine Yz ?_|refine zab.step g.lim ?_|(refine Ret.mk rfl))
 ·repeat'((conv=>whnf);first|refine Yz ?_|refine Cmp.tt h ?_|refine zab.step g.lim ?_|(refine Ret.mk rfl))
theorem yv7(w:Wsh)(p q:Nat)(h:p+q<=2)(he:0<=w.ea/\w.ea<=w.r.mi)(hl:w.r.mi<=w.la/\w.la<=1439)(hp:(w.r.mi-w.ea)/20=p)(hq:(w.la-w.r.mi)/20=q):Fc E zbl [Wsv w] (LI (yzb w.r.mi p q)):=by
 refine g.fn rfl rfl ?_;obtain⟨b,hb⟩:=yyh g (p+q+1) (by omega);have hc:(p=0/\q=0)\/(p=0/\q=1)\/(p=0/\q=2)\/(p=1/\q=0)\/(p=1/\q=1)\/(p=2/\q=0):=by omega
 rcases hc with⟨rfl,rfl⟩|⟨rfl,rfl⟩|⟨rfl,rfl⟩|⟨rfl,rfl⟩|⟨rfl,rfl⟩|⟨rfl,rfl⟩
 all_goals repeat'((conv=>whnf);first|refine Yz ?_|refine zaf.of hb ?_|refine zaf.of (yyl g _ (by omega)) ?_|refine zaf.of (yyk g _ (by omega)) ?_|refine zaf.of (yv6 g (by omega)) ?_|refine zaf.of (yv4 g (by omega)) ?_|refine zaf.of (yv5 g (by omega)) ?_|refine zaf.of (yyi g _ _ (by decide)) ?_|refine zaf.of (yyj g _) ?_|refine Wr.u64 ?_|refine In.enter (f:=zf4) g.lim rfl rfl ?_|refine In.enter (f:=zc3) g.lim rfl rfl ?_|refine In.enter (f:=zdy) g.lim rfl rfl ?_|refine In.enter (f:=ze3) g.lim rfl rfl ?_|refine zab.step g.lim ?_|refine zem.mk ⟨rfl,Nat.le_of_ble_eq_true rfl,rfl⟩ ?_|refine Ret.mk ?_|fail)
 all_goals first|exact L1 (by omega)|(refine L2 ?_ ?_<;>omega)|(refine L3 ?_ ?_ ?_<;>omega)
end
end Go.Proofs.YtkflcbhclegghaaGreatDoor.Co
