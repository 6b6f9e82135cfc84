/-
  TopTowerParts: what its law leans on, part 3.
-/
import Derived.Laws.RangeAny
import Derived.Test.YtjfnkgfhbplfaaaGreatDoorRead
import Derived.Test.YtjfnkgfhbplfaaaGreatDoorSpBase
import Derived.Test.YtjfnkgfhbplfaaaGreatDoorTPb
namespace Go.Proofs.YtjfnkgfhbplfaaaGreatDoor.Co
open Go Go.Evl
set_option maxHeartbeats 32000000
set_option maxRecDepth 100000
def ltN (l:List Int) (x:Int):Nat:=(l.filter fun y=>decide (y<x)).length
theorem yo9 {l:List Int} {x:Int} {i:Nat} (h:i<=l.length) (h1:∀p,(hp:p<l.length)->p<i->l[p]<x) (h2:∀p,(hp:p<l.length)->i<=p->x<=l[p]):ltN l x=i:=by
 unfold ltN
 have e:l=l.take i++l.drop i:=(List.take_append_drop i l).symm
 rw [e,List.filter_append,List.filter_eq_self.2,List.filter_eq_nil_iff.2,List.append_nil,List.length_take]
 ·omega
 ·intro y hy
  obtain⟨j,hj,rfl⟩:=List.getElem_of_mem hy
  rw [List.getElem_drop]
  have:=h2 (i+j) (by rw [List.length_drop] at hj;omega) (by omega)
  simp only [decide_eq_true_eq];omega
 ·intro y hy
  obtain⟨j,hj,rfl⟩:=List.getElem_of_mem hy
  rw [List.getElem_take]
  rw [List.length_take] at hj
  simp only [decide_eq_true_eq]
  exact h1 j (by omega) (by omega)
theorem yl9 {x:Int} (h:0<=x/\x<18446744073709551616):IntKind.u64.wrap x=x:=by
 have hb:IntKind.u64.wrap x=x%18446744073709551616:=by simp [IntKind.wrap,IntKind.signed,IntKind.bits]
 rw [hb];omega
theorem Wr.u64 {x:Int} {K:Int->Prop} (h:0<=x/\x<18446744073709551616) (k:K x):Wr .u64 x K:=⟨by rw [yl9 h];exact k⟩
section
variable {E : Oracle} (g : Good E)
include g
theorem yn2 (a:Int):Fc E zha [I a] (B false):=by
 refine g.fn rfl rfl ?_
 repeat' ((conv=>whnf);first
 | refine Yz ?_
  | (refine Cmp.ff (by simp) ?_)
  | (refine Ret.mk rfl))
theorem ypk (l:List Int) (hl:l.length<=1000000) (hs:l.Pairwise (·<=·)) (x:Int):∃b,Fc E zbh [LI l,I x] (.tup [I (ltN l x),B b]):=by
 refine⟨decide (∃h:ltN l x<l.length,l[ltN l x]=x),?_⟩
 refine g.fn rfl rfl ?_
 repeat' ((conv=>whnf);first
 | refine Yz ?_
  | fail)
 refine zad.to (zad.by (σ:=Nat×Nat) g (fun u=>u.1<=u.2/\u.2<=l.length/\(∀p,(hp:p<l.length)->p<u.1->l[p]<x)/\(∀p,(hp:p<l.length)->u.2<=p->x<=l[p]))
  (fun u=>[(0,LI l),(1,I x),(6,I l.length),(7,I u.1),(8,I u.2)]) (fun _=>[]) (fun u=>u.2-u.1) ?_ (0,l.length) ⟨Nat.zero_le _,Nat.le_refl _,fun p _ h=>absurd h (Nat.not_lt_zero _),fun p h1 h2=>absurd h1 (by omega)⟩) rfl rfl
 rintro⟨i,j⟩ ⟨h1,h2,h3,h4⟩ ih
 dsimp only at h1 h2 h3 h4 ih ⊢
 by_cases hlt:i<j
 ·have hm:(i+j:Int).fdiv (2^(min (1:Int).toNat IntKind.u64.bits))=((i+j)/2:Nat):=by
   have:(2:Int)^(min (1:Int).toNat IntKind.u64.bits)=2:=by decide
   rw [this,Int.fdiv_eq_ediv_of_nonneg _ (by omega)]
   omega
  have hi1:=ih ((i+j)/2+1,j)
  have hi2:=ih (i,(i+j)/2)
  dsimp only at hi1 hi2
  have hq1:i<=(i+j)/2:=by omega
  have hq2:(i+j)/2<j:=by omega
  generalize (i+j)/2=q at *
  have hqc:((q+1:Nat):Int)=(q:Int)+1:=by omega
  have hless:=yny g l[q] x
  by_cases hc:l[q]<x
  ·rw [decide_eq_true hc] at hless
   have hi1:=hi1 ⟨by omega,h2,fun p hp hpq=>by
    have:=List.pairwise_iff_getElem.1 hs p q hp (by omega)
    by_cases e:p=q
    ·subst e;exact hc
    ·have:=this (by omega);omega,h4⟩ (by omega)
   rw [hqc] at hi1
   repeat' ((conv=>whnf);first
   | refine Yz ?_
    | (refine Wr.u64 (by omega) ?_)
    | (rw [hm])
    | (refine zou.intI q rfl (by omega) ?_)
    | (refine zae.of hless ?_)
    | (refine zad.to hi1 rfl rfl)
    | fail)
  ·rw [decide_eq_false hc] at hless
   have hi2:=hi2 ⟨by omega,by omega,h3,fun p hp hpq=>by
    have:=List.pairwise_iff_getElem.1 hs q p (by omega) hp
    by_cases e:p=q
    ·subst e;omega
    ·have:=this (by omega);omega⟩ (by omega)
   repeat' ((conv=>whnf);first
   | refine Yz ?_
    | (refine Wr.u64 (by omega) ?_)
    | (rw [hm])
    | (refine zou.intI q rfl (by omega) ?_)
    | (refine zae.of hless ?_)
    | (refine zad.to hi2 rfl rfl)
    | fail)
 ·have hij:i=j:=by omega
  subst hij
  have e:=yo9 h2 h3 h4
  rw [e]
  by_cases hlt2:i<l.length
  ·by_cases he:l[i]=x
   ·rw [decide_eq_true ⟨hlt2,he⟩]
    repeat' ((conv=>whnf);first
    | refine Yz ?_
     | (refine zou.intI i rfl hlt2 ?_)
     | (refine Cmp.tt he ?_)
     | (refine Ret.mk rfl)
     | fail)
   ·rw [decide_eq_false (fun⟨_,h⟩=>he h)]
    have hn:=yn2 g l[i]
    repeat' ((conv=>whnf);first
    | refine Yz ?_
     | (refine zou.intI i rfl hlt2 ?_)
     | (refine Cmp.ff he ?_)
     | (refine zae.of hn ?_)
     | (refine Ret.mk rfl)
     | fail)
  ·rw [decide_eq_false (fun⟨h,_⟩=>hlt2 h)]
   repeat' ((conv=>whnf);first
   | refine Yz ?_
    | (refine Ret.mk rfl)
    | fail)
theorem yev (l:List Int) (hl:l.length<=1000000) (hs:l.Pairwise (·<=·)) (x:Int):Fc E zcx [LI l,I x] (I (ltN l x)):=by
 refine g.fn rfl rfl ?_
 obtain⟨b,h⟩:=ypk g l hl hs x
 repeat' ((conv=>whnf);first
 | refine Yz ?_
  | (apply zae.of;assumption)
  | (refine Ret.mk rfl))
omit g in
theorem yml (l:List Int) (x:Int):ltN l x<=l.length:=List.length_filter_le _ _
omit g in
theorem ynh (l:List Int) (b n:Int) (hn:0<=n):(ltN l (b+n):Int)-ltN l b=(l.filter fun x=>decide (b<=x/\x<b+n)).length:=by
 unfold ltN
 induction l with
 | nil=>rfl
 | cons y l ih=>
  simp only [List.filter_cons]
  by_cases h1:y<b
  ·rw [if_pos (decide_eq_true (show y<b+n by omega)),if_pos (decide_eq_true h1),if_neg (by rw [decide_eq_true_eq];omega),List.length_cons,List.length_cons]
   omega
  ·by_cases h2:y<b+n
   ·rw [if_pos (decide_eq_true h2),if_neg (by rw [decide_eq_true_eq];exact h1),if_pos (decide_eq_true (show b<=y/\y<b+n from ⟨by omega,h2⟩)),List.length_cons,List.length_cons]
    omega
   ·rw [if_neg (by rw [decide_eq_true_eq];exact h2),if_neg (by rw [decide_eq_true_eq];exact h1),if_neg (by rw [decide_eq_true_eq];omega)]
    exact ih
omit g in
theorem zzu:∀(m:List Mvt) (a:Int),zw6 a m=0->(m.map (·.mo)).Pairwise (·<=·)/\(∀x∈m,a<=x.mo/\0<=x.mo/\x.mo<=143999999)
 | [],_,_=>⟨List.Pairwise.nil,fun _ h=>absurd h List.not_mem_nil⟩
 | x::r,a,h=>by
  rw [zw6] at h
  split at h
  ·rename_i hx
   obtain⟨h1,h2⟩:=zzu r x.mo h
   have hx2:=(zbn _).1 hx
   simp only [List.mem_cons,List.not_mem_nil,or_false,forall_eq_or_imp,forall_eq] at hx2
   have ha:a<=x.mo:=by
    have:=hx2.2
    split at this<;>omega
   have hr:=(zbn _).1 hx2.1
   simp only [List.mem_cons,List.not_mem_nil,or_false,forall_eq_or_imp,forall_eq,zfc] at hr
   refine⟨?_,fun y hy=> ?_⟩
   ·rw [List.map_cons,List.pairwise_cons]
    refine⟨fun z hz=> ?_,h1⟩
    obtain⟨y,hy,rfl⟩:=List.mem_map.1 hz
    exact(h2 y hy).1
   ·rcases List.mem_cons.1 hy with rfl|hy
    ·exact⟨ha,hr.1⟩
    ·have:=h2 y hy
     omega
  ·rename_i hx
   exact absurd h hx
omit g in
theorem ybx (l:Lmt) {m:List Mvt} (h:zju m=0):(z1l l m).Pairwise (·<=·)/\(z1l l m).length<=30000/\∀x∈z1l l m,0<=x/\x<=143999999:=by
 unfold zju at h
 split at h
 ·cases h
 ·rename_i hl
  obtain⟨h1,h2⟩:=zzu m 0 h
  unfold z1l
  refine⟨h1.sublist (List.filter_sublist.map _),?_,fun x hx=> ?_⟩
  ·rw [List.length_map]
   refine Nat.le_trans (List.length_filter_le _ _) (by omega)
  ·obtain⟨y,hy,rfl⟩:=List.mem_map.1 hx
   exact(h2 y (List.mem_filter.1 hy).1).2
theorem yew (l:Lmt) (m:List Mvt) (hm:zju m=0) (b:Int) (hb:0<=b/\b<=1000000000) (hl:0<=l.le/\l.le<=1440):Fc E zc6 [LI (z1l l m),I b,I l.le] (I (z5d l m b)):=by
 refine g.fn rfl rfl ?_
 obtain⟨h1,h2,_⟩:=ybx l hm
 have c1:=yev g (z1l l m) (by omega) h1 (b+l.le)
 have c2:=yev g (z1l l m) (by omega) h1 b
 have e:=ynh (z1l l m) b l.le hl.1
 have l1:=yml (z1l l m) (b+l.le)
 have l2:=yml (z1l l m) b
 unfold z5d
 rw [<-e]
 repeat' ((conv=>whnf);first
 | refine Yz ?_
  | (apply zae.of;assumption)
  | (refine Ret.mk rfl))
end
def yo0 (l:Lmt):Int:=(l.fr+l.st-1)/l.st
def z16 (l:Lmt) (d:Int) (n:Nat):List Int:=(List.range n).map fun(k:Nat)=>1440*d+l.st*(yo0 l+k)
def inP (l:Lmt) (d:Int):Bool:=decide (l.pf<=d/\d<=l.pt)&&yg3 l.pf l.pt l.pd d
def z44 (l:Lmt) (d:Int):List Int:=if inP l d=true then z16 l d (zce l).toNat else []
def z09 (l:Lmt) (j:Nat):List Int:=(List.range j).flatMap fun(k:Nat)=>z44 l (l.pf+k)
def z08 (l:Lmt):List Int:=z09 l (l.pt-l.pf+1).toNat
abbrev Wdw:=Int×Int×Int
def Wdw.cells (w:Wdw):List D:=[DI w.1,DI w.2.1,DI w.2.2]
theorem Wdw.cells_length (w:Wdw):w.cells.length=3:=rfl
abbrev LWd (l:List Wdw):V:= .d (.list l.length (l.flatMap Wdw.cells))
def z5l (l:Lmt) (m:List Mvt) (i:Int) (bs:List Int):List Wdw:=bs.flatMap fun b=>if l.mo<z5d l m b then [(i,b,z5d l m b)] else []
def z8l (ls:List Lmt) (m:List Mvt) (i:Nat):List Wdw:=(List.range i).flatMap fun(k:Nat)=>z5l (ls.getD k default) m k (z08 (ls.getD k default))
def zvi (ls:List Lmt) (m:List Mvt):List Wdw:=z8l ls m ls.length
abbrev exM (ls:List Lmt) (m:List Mvt) (out:List Wdw):Mem:=[(⟨0,4,0⟩,.row false zbc 3 0 []),(⟨0,4,1⟩,.cells zgb [.ref ⟨0,4,0⟩ 0 0 0]),(⟨0,5,0⟩,.cells zz9 [I 0]),(⟨0,7,0⟩,.row false zbc 3 out.length (out.flatMap Wdw.cells)),(⟨0,7,1⟩,.cells zgb [.ref ⟨0,7,0⟩ 0 out.length out.length]),(⟨0,17,0⟩,.cells zot [LLm ls]),(⟨0,17,1⟩,.cells zl2 [LMv m])]
abbrev exO:Ob:= .loop [(4,.ptr ⟨0,4,1⟩ 0 0),(5,.ptr ⟨0,5,0⟩ 0 0),(6,I 0),(13,B false),(7,.ptr ⟨0,7,1⟩ 0 0),(17,.fn zc0 [] [.ptr ⟨0,17,0⟩ 0 0,.ptr ⟨0,17,1⟩ 0 0])] [18] zmw zmx 0 false false none
abbrev yqe (ls:List Lmt) (m:List Mvt) (out:List Wdw):Mem:=exM ls m out++[(⟨0,28,0⟩,exO),(⟨1,3,0⟩,.cells zhc [.yld ⟨0,28,0⟩])]
abbrev lmC (l:Lmt):List V:=[S l.nm,S l.ki,S l.te,I l.le,I l.st,I l.fr,I l.to,I l.pf,I l.pt,I l.pd,I l.mo]
abbrev yqf (ls:List Lmt) (m:List Mvt) (l:Lmt) (i:Int) (out:List Wdw):Mem:=yqe ls m out++[(⟨1,4,0⟩,.cells za4 [I i]),(⟨1,5,0⟩,.cells zab (lmC l)),(⟨1,6,0⟩,.cells zgd [LI (z1l l m)]),(⟨1,20,0⟩,.cells zab (lmC l))]
abbrev yq1 (ls:List Lmt) (i:Int):Ob:= .loop [(2,.ptr ⟨0,17,1⟩ 0 0),(3,.ptr ⟨1,3,0⟩ 0 0),(7,.undef),(9,LLm ls),(10,I ls.length),(11,I i),(12,B true),(4,.ptr ⟨1,4,0⟩ 0 0),(5,.ptr ⟨1,5,0⟩ 0 0),(6,.ptr ⟨1,6,0⟩ 0 0),(20,.fn zbv [] [.ptr ⟨1,20,0⟩ 0 0])] [21] zjq zjr 1 false false none
abbrev yqg (ls:List Lmt) (m:List Mvt) (l:Lmt) (i:Int) (out:List Wdw):Mem:=yqf ls m l i out++[(⟨1,42,0⟩,yq1 ls i),(⟨2,2,0⟩,.cells zi4 [.yld ⟨1,42,0⟩])]
abbrev ypz (ls:List Lmt) (m:List Mvt) (l:Lmt) (i d:Int) (out:List Wdw):Mem:=yqg ls m l i out++[(⟨2,17,0⟩,.cells za4 [I d]),(⟨2,17,1⟩,.cells zab (lmC l))]
theorem zkh (l:Lmt) (j:Nat):z09 l (j+1)=z09 l j++z44 l (l.pf+j):=by
 unfold z09
 rw [List.range_succ,List.flatMap_append]
 simp
theorem zvh (l:Lmt) (m:List Mvt) (i:Int) (a b:List Int):z5l l m i (a++b)=z5l l m i a++z5l l m i b:=List.flatMap_append
theorem z9b (ls:List Lmt) (m:List Mvt) (i:Nat) (h:i<ls.length):z8l ls m (i+1)=z8l ls m i++z5l ls[i] m i (z08 ls[i]):=by
 unfold z8l
 rw [List.range_succ,List.flatMap_append]
 simp [h]
theorem z17 (l:Lmt) (d:Int) (n:Nat):z16 l d (n+1)=z16 l d n++[1440*d+l.st*(yo0 l+n)]:=by
 unfold z16
 rw [List.range_succ,List.map_append]
 rfl
theorem yfd (l:Lmt):∀(J j:Nat),j<=J->∃Y,z09 l J=z09 l j++Y
 | 0,j,h=>⟨[],by rw [Nat.le_zero.1 h,List.append_nil]⟩
 | J+1,j,h=>by
  by_cases e:j=J+1
  ·exact⟨[],by rw [e,List.append_nil]⟩
  ·obtain⟨Y,hY⟩:=yfd l J j (by omega)
   exact⟨Y++z44 l (l.pf+J),by rw [zkh,hY,List.append_assoc]⟩
theorem ydc (l:Lmt) (d:Int):∀(J j:Nat),j<=J->∃Y,z16 l d J=z16 l d j++Y
 | 0,j,h=>⟨[],by rw [Nat.le_zero.1 h,List.append_nil]⟩
 | J+1,j,h=>by
  by_cases e:j=J+1
  ·exact⟨[],by rw [e,List.append_nil]⟩
  ·obtain⟨Y,hY⟩:=ydc l d J j (by omega)
   exact⟨Y++[1440*d+l.st*(yo0 l+J)],by rw [z17,hY,List.append_assoc]⟩
theorem z9a (ls:List Lmt) (m:List Mvt):∀(J j:Nat),j<=J->(z8l ls m j).length<=(z8l ls m J).length
 | 0,j,h=>by rw [Nat.le_zero.1 h];exact Nat.le_refl _
 | J+1,j,h=>by
  by_cases e:j=J+1
  ·rw [e];exact Nat.le_refl _
  ·refine Nat.le_trans (z9a ls m J j (by omega)) ?_
   unfold z8l
   rw [List.range_succ,List.flatMap_append,List.length_append]
   omega
theorem yoy (ls:List Lmt) (m:List Mvt) (i:Nat) (hi:i<ls.length) (X:List Int) (hX:∃Y,z08 ls[i]=X++Y):(z8l ls m i++z5l ls[i] m i X).length<=(zvi ls m).length:=by
 obtain⟨Y,hY⟩:=hX
 refine Nat.le_trans ?_ (z9a ls m ls.length (i+1) (by omega))
 rw [z9b ls m i hi,hY,zvh,List.length_append,List.length_append,List.length_append]
 omega
abbrev yq2 (d:Int):Ob:= .loop [(1,.ptr ⟨1,20,0⟩ 0 0),(2,.ptr ⟨2,2,0⟩ 0 0),(3,I d),(4,.undef),(12,B true),(17,.fn zaf [] [.ptr ⟨2,17,0⟩ 0 0,.ptr ⟨2,17,1⟩ 0 0])] [18] zg4 zg5 2 false false none
section
variable {E : Oracle} (g : Good E)
include g
theorem ycd (l:Lmt) (h:ze5 l.pf l.pt l.pd=0) (d:Int) (hd:0<=d/\d<=99999):Fc E zfb [Lmv l,I d] (B (yg3 l.pf l.pt l.pd d)):=by
 refine g.fn rfl rfl ?_
 have h1:=ylr g l.pf l.pt l.pd d h (zfc.2 hd)
 repeat' ((conv=>whnf);first
 | refine Yz ?_
  | (apply zae.of;assumption)
  | (refine Ret.mk rfl))
theorem z74 (ls:List Lmt) (m:List Mvt) (hl:zko ls=0) (hv:∀l∈ls,zi8 l=0) (hm:zju m=0) (hn:(zvi ls m).length<=900):Fc E zct [LLm ls,LMv m] (.tup [LWd (zvi ls m),I 0]):=by
 have hlen:ls.length<=32:=by
  unfold zko at hl
  split at hl
  ·cases hl
  ·omega
 have hml:m.length<=30000:=by
  unfold zju at hm
  split at hm
  ·cases hm
  ·omega
 refine g.fn rfl rfl ?_
 have hb:=zz4 g ls m (by omega) (by omega)
 rw [hl,hm] at hb
 change Fc E zcl _ (I 0) at hb
 repeat' ((conv=>whnf);first
 | refine Yz ?_
  | (refine zae.of hb ?_)
  | (refine zgx.of (In.enter (f:=zja) g.lim rfl rfl ?_))
  | (refine⟨(.fn zc0 [] [.ptr ⟨0,17,0⟩ 0 0,.ptr ⟨0,17,1⟩ 0 0],exM ls m []),rfl,?_⟩)
  | (refine In.enter (f:=zc0) g.lim rfl rfl ?_)
  | fail)
 refine zad.to (zad.up g (fun i=>[(2,.ptr ⟨0,17,1⟩ 0 0),(3,.ptr ⟨1,3,0⟩ 0 0),(7,.undef),(9,LLm ls),(10,I ls.length),(11,I i)])
  (fun i=>yqe ls m (z8l ls m i)) ls.length (fun i h1 ih=> ?_) 0 (Nat.zero_le _)) rfl rfl
 by_cases hlt:i<ls.length
 ·have hvl:=hv ls[i] (List.getElem_mem hlt)
  have hvz:=zfi.1 hvl
  have hpz:=zay.1 hvz.2.2.2.2.2.2.2.2.1
  have hof:=yqx g ls[i] hvz.2.1 m (by omega)
  have ih:=ih hlt
  repeat' ((conv=>whnf);first
  | refine Yz ?_
   | (refine zcz.rec Lmt.cells_length i rfl hlt ?_)
   | (refine zae.of hof ?_)
   | (refine zgx.of (In.enter (f:=zfm) g.lim rfl rfl ?_))
   | (refine⟨(.fn zbv [] [.ptr ⟨1,20,0⟩ 0 0],yqf ls m ls[i] i (z8l ls m i)),rfl,?_⟩)
   | (refine In.enter (f:=zbv) g.lim rfl rfl ?_)
   | fail)
  generalize hl:ls[i]=l at *
  refine zad.to (zad.up g (fun j=>[(1,.ptr ⟨1,20,0⟩ 0 0),(2,.ptr ⟨2,2,0⟩ 0 0),(3,I (l.pf+j)),(4,.undef)])
   (fun j=>yqg ls m l i (z8l ls m i++z5l l m i (z09 l j))) (l.pt-l.pf+1).toNat (fun j h1 ihj=> ?_) 0 (Nat.zero_le _)) (by rw [Int.natCast_zero,Int.add_zero];rfl) (by simp [z09,z5l])
  by_cases hlj:j<(l.pt-l.pf+1).toNat
  ·have ihj:=ihj hlj
   have hhas:=ycd g l hvz.2.2.2.2.2.2.2.2.1 (l.pf+j) (by omega)
   have a1:l.to/l.st<=l.to:=Int.ediv_le_self _ hvz.2.2.2.2.2.2.1.1
   have a2:0<=(l.fr+l.st-1)/l.st:=Int.ediv_nonneg (by omega) (by omega)
   have a3:(l.fr+l.st-1)/l.st<=l.fr+l.st-1:=Int.ediv_le_self _ (by omega)
   have a4:0<=l.to/l.st:=Int.ediv_nonneg (by omega) (by omega)
   cases hin:yg3 l.pf l.pt l.pd (l.pf+j) with
   | false=>
    rw [hin] at hhas
    repeat' ((conv=>whnf);first
    | refine Yz ?_
     | (refine zgx.of (In.enter (f:=za0) g.lim rfl rfl ?_))
     | (refine⟨(.fn zaf [] [.ptr ⟨2,17,0⟩ 0 0,.ptr ⟨2,17,1⟩ 0 0],ypz ls m l i (l.pf+j) (z8l ls m i++z5l l m i (z09 l j))),rfl,?_⟩)
     | (refine In.enter (f:=zaf) g.lim rfl rfl ?_)
     | (refine zae.of hhas ?_)
     | (refine zad.to ihj ?_ ?_)
     | fail)
    ·rw [show ((j+1:Nat):Int)=(j:Int)+1 from by omega,<-Int.add_assoc]
    ·rw [zkh,z44,if_neg (by simp [inP,hin]),List.append_nil]
     rfl
   | true=>
    rw [hin] at hhas
    repeat' ((conv=>whnf);first
    | refine Yz ?_
     | (refine zgx.of (In.enter (f:=za0) g.lim rfl rfl ?_))
     | (refine⟨(.fn zaf [] [.ptr ⟨2,17,0⟩ 0 0,.ptr ⟨2,17,1⟩ 0 0],ypz ls m l i (l.pf+j) (z8l ls m i++z5l l m i (z09 l j))),rfl,?_⟩)
     | (refine In.enter (f:=zaf) g.lim rfl rfl ?_)
     | (refine zae.of hhas ?_)
     | fail)
    have hst0:=zjm hvl
    have hN:(if l.to/l.st-(l.fr+l.st-1)/l.st+1>0 then l.to/l.st-(l.fr+l.st-1)/l.st+1 else 0)=(((zce l).toNat:Nat):Int):=by
     unfold zce at hst0 ⊢
     split<;>omega
    refine zad.to (zad.up g (fun n=>[(0,.yld ⟨2,24,0⟩),(1,.ptr ⟨2,17,0⟩ 0 0),(2,.ptr ⟨2,17,1⟩ 0 0),(4,I ((l.fr+l.st-1)/l.st)),(41,I (zce l).toNat),(42,I n)])
     (fun n=>ypz ls m l i (l.pf+j) (z8l ls m i++z5l l m i (z09 l j++z16 l (l.pf+j) n))++[(⟨2,24,0⟩,yq2 (l.pf+j))]) (zce l).toNat (fun n h2 ihn=> ?_) 0 (Nat.zero_le _)) (by rw [hN];rfl) (by rw [show z16 l (l.pf+j) 0=[] from rfl,List.append_nil];rfl)
    by_cases hln:n<(zce l).toNat
    ·have ihn:=ihn hln
     have hb:0<=l.st*((l.fr+l.st-1)/l.st+n)/\l.st*((l.fr+l.st-1)/l.st+n)<=1439:=by
      constructor
      ·exact Int.mul_nonneg (by omega) (by omega)
      ·have e1:(l.fr+l.st-1)/l.st+n<=l.to/l.st:=by unfold zce at hln;omega
       have e2:l.st*((l.fr+l.st-1)/l.st+n)<=l.st*(l.to/l.st):=Int.mul_le_mul_of_nonneg_left e1 (by omega)
       have e3:l.st*(l.to/l.st)<=l.to:=Int.mul_ediv_self_le (by omega)
       omega
     rw [z17,<-List.append_assoc,zvh,<-List.append_assoc] at ihn
     have hq:yo0 l=(l.fr+l.st-1)/l.st:=rfl
     rw [hq] at ihn
     have hcw:=yew g l m hm (1440*(l.pf+j)+l.st*((l.fr+l.st-1)/l.st+n)) (by omega) (by omega)
     have hol:(z8l ls m i++z5l l m i (z09 l j++z16 l (l.pf+j) n)).length<=900:=by
      refine Nat.le_trans ?_ hn
      obtain⟨Y1,e1⟩:=ydc l (l.pf+j) (zce l).toNat n (by omega)
      obtain⟨Y2,e2⟩:=yfd l (l.pt-l.pf+1).toNat (j+1) (by omega)
      have e3:z44 l (l.pf+j)=z16 l (l.pf+j) (zce l).toNat:=if_pos (by simp [inP,hin];omega)
      have:=yoy ls m i hlt (z09 l j++z16 l (l.pf+j) n) ⟨Y1++Y2,by rw [hl,z08,e2,zkh,e3,e1];simp only [List.append_assoc]⟩
      rw [hl] at this
      exact this
     generalize z8l ls m i++z5l l m i (z09 l j++z16 l (l.pf+j) n)=out at *
     by_cases hc:l.mo<z5d l m (1440*(l.pf+j)+l.st*((l.fr+l.st-1)/l.st+n))
     ·rw [show z5l l m i [1440*(l.pf+j)+l.st*((l.fr+l.st-1)/l.st+n)]=[((i:Int),1440*(l.pf+j)+l.st*((l.fr+l.st-1)/l.st+n),z5d l m (1440*(l.pf+j)+l.st*((l.fr+l.st-1)/l.st+n)))] from by simp [z5l,hc]] at ihn
      have hfo:=zbd Wdw.cells 3 Wdw.cells_length out
      generalize z5d l m (1440*(l.pf+j)+l.st*((l.fr+l.st-1)/l.st+n))=c at *
      repeat' ((conv=>whnf);first
      | refine Yz ?_
       | (refine Rnd.enter g.lim ?_)
       | (refine zae.of hcw ?_)
       | (refine zad.to ihn ?_ ?_)
       | fail)
      ·rw [show ((n+1:Nat):Int)=(n:Int)+1 from by omega]
      ·simp only [ypz,yqg,yqf,yqe,exM,List.length_append,List.length_singleton,List.flatMap_append]
       rfl
     ·rw [show z5l l m i [1440*(l.pf+j)+l.st*((l.fr+l.st-1)/l.st+n)]=[] from by simp [z5l,hc],List.append_nil] at ihn
      repeat' ((conv=>whnf);first
      | refine Yz ?_
       | (refine Rnd.enter g.lim ?_)
       | (refine zae.of hcw ?_)
       | (refine zad.to ihn ?_ ?_)
       | fail)
      ·rw [show ((n+1:Nat):Int)=(n:Int)+1 from by omega]
      ·rfl
    ·have hnN:n=(zce l).toNat:=by omega
     subst hnN
     have e3:z44 l (l.pf+j)=z16 l (l.pf+j) (zce l).toNat:=if_pos (by simp [inP,hin];omega)
     rw [zkh,e3] at ihj
     repeat' ((conv=>whnf);first
     | refine Yz ?_
      | (refine zad.to ihj ?_ ?_)
      | fail)
     ·rw [show ((j+1:Nat):Int)=(j:Int)+1 from by omega,<-Int.add_assoc]
     ·rfl
  ·have hj:j=(l.pt-l.pf+1).toNat:=by omega
   subst hj
   rw [z9b ls m i hlt,hl] at ih
   repeat' ((conv=>whnf);first
   | refine Yz ?_
    | (refine zad.to ih ?_ ?_)
    | fail)
   ·rw [show ((i+1:Nat):Int)=(i:Int)+1 from by omega]
   ·rfl
 ·have hi:i=ls.length:=by omega
  subst hi
  have hfo:=zbd Wdw.cells 3 Wdw.cells_length (z8l ls m ls.length)
  unfold zvi
  repeat' ((conv=>whnf);first
  | refine Yz ?_
   | (refine Ret.mk ?_)
   | fail)
  all_goals simp
end
end Go.Proofs.YtjfnkgfhbplfaaaGreatDoor.Co
