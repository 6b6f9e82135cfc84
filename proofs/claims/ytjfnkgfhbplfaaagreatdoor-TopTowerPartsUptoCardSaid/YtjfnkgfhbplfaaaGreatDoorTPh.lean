/-
  TopTowerParts: what its law leans on, part 8.
-/
import Derived.Laws.RangeAny
import Derived.Test.YtjfnkgfhbplfaaaGreatDoorRead
import Derived.Test.YtjfnkgfhbplfaaaGreatDoorSpBase
import Derived.Test.YtjfnkgfhbplfaaaGreatDoorTPg
namespace Go.Proofs.YtjfnkgfhbplfaaaGreatDoor.Co
open Go Go.Evl
set_option maxHeartbeats 32000000
set_option maxRecDepth 100000
section
variable {E : Oracle} (g : Good E)
include g
theorem ygh:Fc E ziw [] (B true):=by
 refine g.fn rfl rfl ?_
 repeat' ((conv=>whnf);first
 | refine Yz ?_
  | (apply zae.of;first |exact td1 g|exact td2 g|exact td3 g|exact td4 g|exact td5 g|exact td6 g|exact td7 g|exact td8 g|exact td9 g|exact yq4 g|exact yq5 g|exact yq6 g|exact yq7 g)
  | (refine zcz.now (Nat.le_of_ble_eq_true rfl) rfl ?_)
  | (exact Ret.mk rfl))
end
def i64 (n:Int):Prop:= -9223372036854775808<=n/\n<=9223372036854775807
theorem ypr {n:Int} (h:(Lit.int .i64 n).wf=true):i64 n:=by
 simp only [Lit.wf,Bool.and_eq_true,decide_eq_true_eq] at h
 exact h
section
variable {P : Program} {n : Nat} {t : Nat} {ds : List D} {x : D}
theorem yqh {k:IntKind} (ht:P.underlying t=some (.int k)) (h:fit P (n+1) t ds):∃i,ds=[.int k i]/\(Lit.int k i).wf=true:=by
 simp only [fit,ht] at h;exact h
theorem yqj (ht:P.underlying t=some .string) (h:fit P (n+1) t ds):∃s,ds=[.str s]/\s.length<=maxLen:=by
 simp only [fit,ht] at h;exact h
theorem yqi {e:Nat} (ht:P.underlying t=some (.slice e)) (h:fit P (n+1) t ds):∃m cs,ds=[.list m cs]/\m<=maxLen/\zqa (fit P n) (List.replicate m e) cs:=by
 simp only [fit,ht] at h;exact h
theorem ydt {fs:Array Field} (ht:P.underlying t=some (.struct fs)) (h:fit P (n+1) t ds):zqa (fit P n) (fs.toList.map (·.type)) ds:=by
 simp only [fit,ht] at h;exact h
theorem yor {e:Nat} (ht:P.underlying t=some (.slice e)) (h:zqb P t x):∃m cs,x= .list m cs/\m<=maxLen/\zqa (fit P 7) (List.replicate m e) cs:=by
 simp only [zqb,ht] at h
 obtain⟨m,cs,e,h1,h2⟩:=yqi (n:=7) ht h
 exact⟨m,cs,by simpa using e,h1,h2⟩
theorem yot {fs:Array Field} (ht:P.underlying t=some (.struct fs)) (h:zqb P t x):∃ds,x= .agg ds/\zqa (fit P 7) (fs.toList.map (·.type)) ds:=by
 simp only [zqb,ht] at h
 obtain⟨ds,rfl,h⟩:=h
 exact⟨ds,rfl,ydt ht h⟩
end
theorem zig {k:Nat} {ds:List D} (h:fit Tryz.prog (k+1) 3 ds):∃n,ds=[DI n]/\i64 n:=by
 obtain⟨n,rfl,hw⟩:=yqh Tryz.underlying3 h
 exact⟨n,rfl,ypr hw⟩
theorem yp7 {P:Program} {t u v:Nat} {xs:List D} (h:z66 P [t,u,v] xs):∃x y z,xs=[x,y,z]/\zqb P t x/\zqb P u y/\zqb P v z:=by
 obtain⟨x,_,rfl,h1,y,_,rfl,h2,z,_,rfl,h3,rfl⟩:=h
 exact⟨x,y,z,rfl,h1,h2,h3⟩
theorem zeg {k:Nat} {ds:List D} (h:fit Tryz.prog (k+1) 9 ds):∃s,ds=[.str s]:=by
 obtain⟨s,rfl,_⟩:=yqj Tryz.underlying9 h
 exact⟨s,rfl⟩
theorem yds {k:Nat} {ds:List D} (h:fit Tryz.prog (k+2) 25 ds):∃f t d,ds=[DI f,DI t,DI d]:=by
 obtain⟨_,_,rfl,h1,_,_,rfl,h2,_,_,rfl,h3,rfl⟩:=ydt Tryz.underlying25 h
 obtain⟨a,rfl,_⟩:=zig h1
 obtain⟨b,rfl,_⟩:=zig h2
 obtain⟨c,rfl,_⟩:=zig h3
 exact⟨a,b,c,rfl⟩
theorem yfr {k:Nat} {ds:List D} (h:fit Tryz.prog (k+3) 48 ds):∃l:Lmt,ds=l.cells:=by
 obtain⟨_,_,rfl,h1,_,_,rfl,h2,_,_,rfl,h3,_,_,rfl,h4,_,_,rfl,h5,_,_,rfl,h6,_,_,rfl,h7,_,_,rfl,h8,_,_,rfl,h9,rfl⟩:=ydt Tryz.underlying48 h
 obtain⟨s1,rfl⟩:=zeg h1
 obtain⟨s2,rfl⟩:=zeg h2
 obtain⟨s3,rfl⟩:=zeg h3
 obtain⟨a4,rfl,_⟩:=zig h4
 obtain⟨a5,rfl,_⟩:=zig h5
 obtain⟨a6,rfl,_⟩:=zig h6
 obtain⟨a7,rfl,_⟩:=zig h7
 obtain⟨f,t,d,rfl⟩:=yds h8
 obtain⟨a9,rfl,_⟩:=zig h9
 exact⟨⟨s1,s2,s3,a4,a5,a6,a7,f,t,d,a9⟩,rfl⟩
theorem z28 {k:Nat}:∀(m:Nat) {ds:List D},zqa (fit Tryz.prog (k+3)) (List.replicate m 48) ds->∃l:List Lmt,ds=l.flatMap Lmt.cells/\l.length=m
 | 0,ds,h=>⟨[],h,rfl⟩
 | m+1,ds,h=>by
  obtain⟨a,b,rfl,h1,h2⟩:=h
  obtain⟨x,rfl⟩:=yfr h1
  obtain⟨l,rfl,h3⟩:=z28 m h2
  exact⟨x::l,rfl,by simp [h3]⟩
theorem ya2 {x:D} (h:zqb Tryz.prog 22 x):∃l:List Lmt,x= .list l.length (l.flatMap Lmt.cells):=by
 obtain⟨m,cs,rfl,_,h6⟩:=yor Tryz.underlying22 h
 obtain⟨l,rfl,rfl⟩:=z28 m h6
 exact⟨l,rfl⟩
theorem z9j {k:Nat} {ds:List D} (h:fit Tryz.prog (k+2) 117 ds):∃m:Mvt,ds=m.cells:=by
 obtain⟨_,_,rfl,h1,_,_,rfl,h2,_,_,rfl,h3,_,_,rfl,h4,_,_,rfl,h5,_,_,rfl,h6,_,_,rfl,h7,rfl⟩:=ydt Tryz.underlying117 h
 obtain⟨a1,rfl,_⟩:=zig h1
 obtain⟨s2,rfl⟩:=zeg h2
 obtain⟨s3,rfl⟩:=zeg h3
 obtain⟨a4,rfl,_⟩:=zig h4
 obtain⟨a5,rfl,_⟩:=zig h5
 obtain⟨a6,rfl,_⟩:=zig h6
 obtain⟨s7,rfl⟩:=zeg h7
 exact⟨⟨a1,s2,s3,a4,a5,a6,s7⟩,rfl⟩
theorem zxe {k:Nat}:∀(m:Nat) {ds:List D},zqa (fit Tryz.prog (k+2)) (List.replicate m 117) ds->∃l:List Mvt,ds=l.flatMap Mvt.cells/\l.length=m
 | 0,ds,h=>⟨[],h,rfl⟩
 | m+1,ds,h=>by
  obtain⟨a,b,rfl,h1,h2⟩:=h
  obtain⟨x,rfl⟩:=z9j h1
  obtain⟨l,rfl,h3⟩:=zxe m h2
  exact⟨x::l,rfl,by simp [h3]⟩
theorem z6t {x:D} (h:zqb Tryz.prog 23 x):∃l:List Mvt,x= .list l.length (l.flatMap Mvt.cells):=by
 obtain⟨m,cs,rfl,_,h6⟩:=yor Tryz.underlying23 h
 obtain⟨l,rfl,rfl⟩:=zxe m h6
 exact⟨l,rfl⟩
theorem z8r {x:D} (h:zqb Tryz.prog 27 x):∃q:Rqt,x= .agg q.cells:=by
 obtain⟨ds,rfl,_,_,rfl,h1,_,_,rfl,h2,_,_,rfl,h3,_,_,rfl,h4,_,_,rfl,h5,_,_,rfl,h6,_,_,rfl,h7,_,_,rfl,h8,_,_,rfl,h9,_,_,rfl,h10,_,_,rfl,h11,rfl⟩:=yot Tryz.underlying27 h
 obtain⟨s1,rfl⟩:=zeg h1
 obtain⟨s2,rfl⟩:=zeg h2
 obtain⟨s3,rfl⟩:=zeg h3
 obtain⟨s4,rfl⟩:=zeg h4
 obtain⟨s5,rfl⟩:=zeg h5
 obtain⟨s6,rfl⟩:=zeg h6
 obtain⟨f,t,d,rfl⟩:=yds h7
 obtain⟨a,rfl,_⟩:=zig h8
 obtain⟨b,rfl,_⟩:=zig h9
 obtain⟨c,rfl,_⟩:=zig h10
 obtain⟨e,rfl,_⟩:=zig h11
 exact⟨⟨s1,s2,s3,s4,s5,s6,f,t,d,a,b,c,e⟩,rfl⟩
end Go.Proofs.YtjfnkgfhbplfaaaGreatDoor.Co
