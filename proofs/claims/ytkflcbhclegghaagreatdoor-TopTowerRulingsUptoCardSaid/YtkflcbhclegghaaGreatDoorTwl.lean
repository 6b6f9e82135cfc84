/-
  TopTowerRulings: what its law leans on, part 12.
-/
import Derived.Laws.RangeAny
import Derived.Lib.SplitLaws
import Derived.Test.YtkflcbhclegghaaGreatDoorEvX
import Derived.Test.YtkflcbhclegghaaGreatDoorEvY
import Derived.Test.YtkflcbhclegghaaGreatDoorRead
import Derived.Test.YtkflcbhclegghaaGreatDoorSpBase
import Derived.Test.YtkflcbhclegghaaGreatDoorTwk
namespace Go.Proofs.YtkflcbhclegghaaGreatDoor.Co
open Go Go.Evl
set_option maxHeartbeats 32000000
set_option maxRecDepth 100000
section
variable{E:Oracle}(g:Good E)
include g
theorem ywd:Fc E zfc [] (B true):=by
 refine g.fn rfl rfl ?_
 repeat'((conv=>whnf);first|refine Yz ?_|(apply zaf.of;first|exact at1 g|exact at2 g|exact at3 g|exact at4 g|exact at6 g)|refine is0 g ?_|(first|refine is1 g ?_|refine is2 g ?_|refine is3 g ?_|refine is4 g ?_|refine is5 g ?_|refine is6 g ?_)|refine zem.mk (by simp only[z4t,List.length_cons,List.length_nil];omega) ?_|refine zab.step g.lim ?_|(exact Ret.mk rfl))
end
theorem z06{k:Nat}:∀(m:Nat){ds:List D},zs1 (fit Tryz.prog (k+3)) (List.replicate m 33) ds->∃l:List Rqt,ds=l.flatMap Rqt.cells/\l.length=m
 |0,ds,h=>⟨[],h,rfl⟩
 |m+1,ds,h=>by
  obtain⟨a,b,rfl,h1,h2⟩:=h;obtain⟨x,rfl⟩:=yfl h1;obtain⟨l,rfl,h3⟩:=z06 m h2;exact⟨x::l,rfl,by simp[h3]⟩
theorem ybi{x:D}(h:zyq Tryz.prog 22 x):∃l:List Rqt,x=.list l.length (l.flatMap Rqt.cells):=by
 obtain⟨m,cs,rfl,_,h6⟩:=yxe Tryz.underlying22 h;obtain⟨l,rfl,rfl⟩:=z06 m h6;exact⟨l,rfl⟩
theorem z0g{k:Nat}{ds:List D}(h:fit Tryz.prog (k+1) 9 ds):∃s,ds=[.str s]:=by
 obtain⟨s,rfl,_⟩:=yxm Tryz.underlying9 h;exact⟨s,rfl⟩
theorem yrk{k:Nat}{ds:List D}(h:fit Tryz.prog (k+2) 31 ds):∃f t d,ds=[DI f,DI t,DI d]:=by
 obtain⟨_,_,rfl,h1,_,_,rfl,h2,_,_,rfl,h3,rfl⟩:=yic Tryz.underlying31 h;obtain⟨a,rfl,_⟩:=zku h1;obtain⟨b,rfl,_⟩:=zku h2;obtain⟨c,rfl,_⟩:=zku h3;exact⟨a,b,c,rfl⟩
theorem yks{k:Nat}{ds:List D}(h:fit Tryz.prog (k+3) 59 ds):∃l:Lmt,ds=l.cells:=by
 obtain⟨_,_,rfl,h1,_,_,rfl,h2,_,_,rfl,h3,_,_,rfl,h4,_,_,rfl,h5,_,_,rfl,h6,_,_,rfl,h7,_,_,rfl,h8,_,_,rfl,h9,rfl⟩:=yic Tryz.underlying59 h;obtain⟨s1,rfl⟩:=z0g h1;obtain⟨s2,rfl⟩:=z0g h2;obtain⟨s3,rfl⟩:=z0g h3;obtain⟨a4,rfl,_⟩:=zku h4;obtain⟨a5,rfl,_⟩:=zku h5;obtain⟨a6,rfl,_⟩:=zku h6;obtain⟨a7,rfl,_⟩:=zku h7;obtain⟨f,t,d,rfl⟩:=yrk h8;obtain⟨a9,rfl,_⟩:=zku h9;exact⟨⟨s1,s2,s3,a4,a5,a6,a7,f,t,d,a9⟩,rfl⟩
theorem z4b{k:Nat}:∀(m:Nat){ds:List D},zs1 (fit Tryz.prog (k+3)) (List.replicate m 59) ds->∃l:List Lmt,ds=l.flatMap Lmt.cells/\l.length=m
 |0,ds,h=>⟨[],h,rfl⟩
 |m+1,ds,h=>by
  obtain⟨a,b,rfl,h1,h2⟩:=h;obtain⟨x,rfl⟩:=yks h1;obtain⟨l,rfl,h3⟩:=z4b m h2;exact⟨x::l,rfl,by simp[h3]⟩
theorem yeq{x:D}(h:zyq Tryz.prog 23 x):∃l:List Lmt,x=.list l.length (l.flatMap Lmt.cells):=by
 obtain⟨m,cs,rfl,_,h6⟩:=yxe Tryz.underlying23 h;obtain⟨l,rfl,rfl⟩:=z4b m h6;exact⟨l,rfl⟩
end Go.Proofs.YtkflcbhclegghaaGreatDoor.Co
