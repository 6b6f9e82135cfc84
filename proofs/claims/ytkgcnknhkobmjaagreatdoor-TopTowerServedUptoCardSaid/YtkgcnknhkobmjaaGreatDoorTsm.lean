/-
  TopTowerServed: what its law leans on, part 13.
-/
import Derived.Laws.RangeAny
import Derived.Lib.SplitLaws
import Derived.Test.YtkgcnknhkobmjaaGreatDoorEvX
import Derived.Test.YtkgcnknhkobmjaaGreatDoorRead
import Derived.Test.YtkgcnknhkobmjaaGreatDoorSpBase
import Derived.Test.YtkgcnknhkobmjaaGreatDoorTsl
namespace Go.Proofs.YtkgcnknhkobmjaaGreatDoor.Co
open Go Go.Evl
set_option maxHeartbeats 32000000
set_option maxRecDepth 100000
section
variable {E : Oracle} (g : Good E)
include g
theorem yib:Fc E zgo [] (B true):=by
 refine g.fn rfl rfl ?_
 repeat' ((conv=>whnf);first
 | refine Yz ?_
  | (apply zae.of;first |exact td1 g|exact td2 g|exact td3 g|exact td4 g|exact td5 g|exact td6 g|exact td7 g|exact td8 g|exact td9 g|exact yvx g|exact yvy g|exact yvz g|exact yv0 g)
  | (refine zal.now (Nat.le_of_ble_eq_true rfl) rfl ?_)
  | (exact Ret.mk rfl))
end
theorem zyy {k:Nat}:∀(m:Nat) {ds:List D},zpe (fit Tryz.prog (k+3)) (List.replicate m 36) ds->∃l:List Rqt,ds=l.flatMap Rqt.cells/\l.length=m
 | 0,ds,h=>⟨[],h,rfl⟩
 | m+1,ds,h=>by
  obtain⟨a,b,rfl,h1,h2⟩:=h
  obtain⟨x,rfl⟩:=ycj h1
  obtain⟨l,rfl,h3⟩:=zyy m h2
  exact⟨x::l,rfl,by simp [h3]⟩
theorem z80 {x:D} (h:zpf Tryz.prog 22 x):∃l:List Rqt,x= .list l.length (l.flatMap Rqt.cells):=by
 obtain⟨m,cs,rfl,_,h6⟩:=ys9 Tryz.underlying22 h
 obtain⟨l,rfl,rfl⟩:=zyy m h6
 exact⟨l,rfl⟩
theorem zye {k:Nat} {ds:List D} (h:fit Tryz.prog (k+1) 9 ds):∃s,ds=[.str s]:=by
 obtain⟨s,rfl,_⟩:=ytg Tryz.underlying9 h
 exact⟨s,rfl⟩
theorem yn0 {k:Nat} {ds:List D} (h:fit Tryz.prog (k+2) 34 ds):∃f t d,ds=[DI f,DI t,DI d]:=by
 obtain⟨_,_,rfl,h1,_,_,rfl,h2,_,_,rfl,h3,rfl⟩:=z9t Tryz.underlying34 h
 obtain⟨a,rfl,_⟩:=zin h1
 obtain⟨b,rfl,_⟩:=zin h2
 obtain⟨c,rfl,_⟩:=zin h3
 exact⟨a,b,c,rfl⟩
theorem yhe {k:Nat} {ds:List D} (h:fit Tryz.prog (k+3) 66 ds):∃l:Lmt,ds=l.cells:=by
 obtain⟨_,_,rfl,h1,_,_,rfl,h2,_,_,rfl,h3,_,_,rfl,h4,_,_,rfl,h5,_,_,rfl,h6,_,_,rfl,h7,_,_,rfl,h8,_,_,rfl,h9,rfl⟩:=z9t Tryz.underlying66 h
 obtain⟨s1,rfl⟩:=zye h1
 obtain⟨s2,rfl⟩:=zye h2
 obtain⟨s3,rfl⟩:=zye h3
 obtain⟨a4,rfl,_⟩:=zin h4
 obtain⟨a5,rfl,_⟩:=zin h5
 obtain⟨a6,rfl,_⟩:=zin h6
 obtain⟨a7,rfl,_⟩:=zin h7
 obtain⟨f,t,d,rfl⟩:=yn0 h8
 obtain⟨a9,rfl,_⟩:=zin h9
 exact⟨⟨s1,s2,s3,a4,a5,a6,a7,f,t,d,a9⟩,rfl⟩
theorem z15 {k:Nat}:∀(m:Nat) {ds:List D},zpe (fit Tryz.prog (k+3)) (List.replicate m 66) ds->∃l:List Lmt,ds=l.flatMap Lmt.cells/\l.length=m
 | 0,ds,h=>⟨[],h,rfl⟩
 | m+1,ds,h=>by
  obtain⟨a,b,rfl,h1,h2⟩:=h
  obtain⟨x,rfl⟩:=yhe h1
  obtain⟨l,rfl,h3⟩:=z15 m h2
  exact⟨x::l,rfl,by simp [h3]⟩
theorem ybr {x:D} (h:zpf Tryz.prog 23 x):∃l:List Lmt,x= .list l.length (l.flatMap Lmt.cells):=by
 obtain⟨m,cs,rfl,_,h6⟩:=ys9 Tryz.underlying23 h
 obtain⟨l,rfl,rfl⟩:=z15 m h6
 exact⟨l,rfl⟩
end Go.Proofs.YtkgcnknhkobmjaaGreatDoor.Co
