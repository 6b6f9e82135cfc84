/-
  TopTowerServed: what its law leans on, part 2.
-/
import Derived.Laws.RangeAny
import Derived.Lib.SplitLaws
import Derived.Test.YtkgcnknhkobmjaaGreatDoorEvX
import Derived.Test.YtkgcnknhkobmjaaGreatDoorRead
import Derived.Test.YtkgcnknhkobmjaaGreatDoorSpBase
import Derived.Test.YtkgcnknhkobmjaaGreatDoorTsa
namespace Go.Proofs.YtkgcnknhkobmjaaGreatDoor.Co
open Go Go.Evl
set_option maxRecDepth 100000
def ym5 (q:Rqt) (d:Int):Mvt:=⟨1440*d+q.mi,q.ki,q.te,q.se,q.si,q.no,q.nm⟩
def z6x (q:Rqt):List Int:=zku q.fr q.da (q.to-q.fr+1).toNat
def ycx (q:Rqt):List Mvt:=(z6x q).map (ym5 q)
theorem z2k {f d x:Int}:∀k:Nat,x∈zku f d k↔f<=x/\x<f+k/\inM d ((x+5)%7)=true
 | 0=>by simp [zku];omega
 | k+1=>by
  rw [zku,List.mem_append,z2k k]
  by_cases h:inM d ((f+k+5)%7)=true
  ·rw [if_pos h]
   simp only [List.mem_singleton]
   constructor
   ·rintro(⟨h1,h2,h3⟩|rfl)
    ·exact⟨h1,by omega,h3⟩
    ·exact⟨by omega,by omega,h⟩
   ·rintro⟨h1,h2,h3⟩
    by_cases e:x=f+k
    ·exact .inr e
    ·exact .inl ⟨h1,by omega,h3⟩
  ·rw [if_neg h]
   simp only [List.not_mem_nil,or_false]
   constructor
   ·rintro⟨h1,h2,h3⟩
    exact⟨h1,by omega,h3⟩
   ·rintro⟨h1,h2,h3⟩
    by_cases e:x=f+k
    ·subst e;exact absurd h3 h
    ·exact⟨h1,by omega,h3⟩
section
variable {E : Oracle} (g : Good E)
include g
theorem ydp (q:Rqt) (h:zwk q=0):Fc E zh3 [Rqv q] (LMv (ycx q)):=by
 refine g.fn rfl rfl ?_
 unfold zwk at h
 rw [za5] at h
 simp only [List.mem_cons,List.not_mem_nil,or_false,forall_eq_or_imp,forall_eq,zfe] at h
 obtain⟨_,_,_,hp,hm,_⟩:=h
 have hpz:=zf0.1 hp
 have hd:=ydk g q.fr q.to q.da hp
 change Fc E zfm _ (.tup [LI (z6x q),I 0]) at hd
 have hmem:∀x∈z6x q,0<=x/\x<=99999:=fun x hx=>by
  have:=(z2k _).1 hx
  omega
 have hlen:(z6x q).length<=401:=by
  have:=zhc q.fr q.da (q.to-q.fr+1).toNat
  unfold z6x;omega
 unfold ycx
 generalize z6x q=ds at *
 repeat' ((conv=>whnf);first
 | refine Yz ?_
  | (refine zae.of hd ?_))
 refine zaf.to (zaf.up g (fun k=>[(1,.ptr ⟨0,1,0⟩ 0 0),(5,.ref ⟨0,5,0⟩ 0 ((ds.take k).map (ym5 q)).length ((ds.take k).map (ym5 q)).length),(14,LI ds),(15,I ds.length),(16,I k)])
  (fun k=>[(⟨0,1,0⟩,.cells zag [S q.nm,S q.ca,S q.ki,S q.te,S q.pa,S q.li,I q.fr,I q.to,I q.da,I q.mi,I q.se,I q.si,I q.no]),(⟨0,2,0⟩,.row false zao 7 0 []),(⟨0,5,0⟩,.row false zao 7 ((ds.take k).map (ym5 q)).length (((ds.take k).map (ym5 q)).flatMap Mvt.cells))]) ds.length (fun k hk ih=> ?_) 0 (Nat.zero_le _)) rfl rfl
 by_cases hlt:k<ds.length
 ·have ih:=ih hlt
  have e:(ds.take (k+1)).map (ym5 q)=(ds.take k).map (ym5 q)++[ym5 q ds[k]]:=by
   rw [List.take_add_one,List.getElem?_eq_getElem hlt,List.map_append];rfl
  rw [e] at ih
  have hx:=hmem ds[k] (List.getElem_mem hlt)
  have hl:((ds.take k).map (ym5 q)).length=k:=by rw [List.length_map,List.length_take];omega
  generalize (ds.take k).map (ym5 q)=A at *
  have hfl:=zah Mvt.cells 7 Mvt.cells_length A
  repeat' ((conv=>whnf);first
  | refine Yz ?_
   | (refine zg4.intI k rfl hlt ?_)
   | (refine ze8.mk (by simp;omega) ?_)
   | (refine zaf.to ih ?_ ?_))
  ·simp only [List.length_append,List.length_singleton];rfl
  ·simp only [List.length_append,List.length_singleton,List.flatMap_append];rfl
 ·have hk':k=ds.length:=by omega
  subst hk'
  rw [List.take_length]
  repeat' ((conv=>whnf);first
  | refine Yz ?_
   | (refine Ret.mk ?_))
  simp
theorem z3d (q:Rqt) (h:zwk q=0):Fc E zfc [Rqv q] (.tup [LMv (ycx q),I 0]):=by
 refine g.fn rfl rfl ?_
 have h1:=ysc g q
 rw [h] at h1
 have h2:=ydp g q h
 repeat' ((conv=>whnf);first
 | refine Yz ?_
  | (apply zae.of;assumption)
  | (refine Ret.mk rfl))
end
section
variable {E : Oracle} (g : Good E)
include g
theorem ygk (a:Int):Fc E zhf [I a] (B false):=by
 refine g.fn rfl rfl ?_
 repeat' ((conv=>whnf);first
 | refine Yz ?_
  | (refine Cmp.tt rfl ?_)
  | (refine Ret.mk rfl))
end
def idL (n:Nat):List Int:=(List.range n).map fun(i:Nat)=>(i:Int)
theorem z5i (n:Nat):(idL n).length=n:=by simp [idL]
structure Ord (n:Nat) (l:List Int):Prop where
 len:l.length=n
 rng:∀k,k<n->0<=l.getD k 0/\l.getD k 0<n
 inj:∀i j,i<n->j<n->l.getD i 0=l.getD j 0->i=j
theorem Ord.id (n:Nat):Ord n (idL n):=by
 have e:∀k,k<n->(idL n).getD k 0=k:=fun k hk=>by simp [idL,List.getD,hk]
 refine⟨z5i n,fun k hk=> ?_,fun i j hi hj h=> ?_⟩
 ·rw [e k hk];omega
 ·rw [e i hi,e j hj] at h;omega
structure Tot (n:Nat) (lt:Int->Int->Bool):Prop where
 irr:∀a:Int,lt a a=false
 tr:∀a b c:Int,a∈idL n->b∈idL n->c∈idL n->lt a b=true->lt b c=true->lt a c=true
 tot:∀a b:Int,a∈idL n->b∈idL n->a≠b->lt a b=false->lt b a=true
structure Srt (n:Nat) (lt:Int->Int->Bool) (l:List Int):Prop where
 pm:l.Perm (idL n)
 up:l.Pairwise fun a b=>lt a b=true
theorem Srt.len {n:Nat} {lt:Int->Int->Bool} {l:List Int} (h:Srt n lt l):l.length=n:=by
 rw [h.pm.length_eq,z5i]
structure Ins (lt:Int->Int->Bool) (s:List Int) (x:Int) (p q:List Int):Prop where
 eq:p++q=s
 lo:∀y∈q,lt x y=true
theorem Ins.start {lt:Int->Int->Bool} (s:List Int) (x:Int):Ins lt s x s []:=⟨by simp,by simp⟩
theorem Ins.step {lt:Int->Int->Bool} {s p q:List Int} {x y:Int} (h:Ins lt s x (p++[y]) q) (hy:lt x y=true):Ins lt s x p (y::q):=by
 refine⟨by rw [<-h.eq];simp,fun z hz=> ?_⟩
 rcases List.mem_cons.1 hz with rfl|hz
 ·exact hy
 ·exact h.lo z hz
theorem Ins.done {n:Nat} {lt:Int->Int->Bool} {s p q:List Int} {x:Int} (t:Tot n lt) (hs:s.Pairwise fun a b=>lt a b=true) (hm:∀y∈s,y∈idL n) (hx:x∈idL n) (hn:x∉s) (h:Ins lt s x p q)
  (he:p=[]\/∃p' y,p=p'++[y]/\lt x y=false):(p++x::q).Pairwise fun a b=>lt a b=true:=by
 obtain⟨rfl,lo⟩:=h
 have h0:=List.pairwise_append.1 hs
 refine List.pairwise_append.2 ⟨h0.1,List.pairwise_cons.2 ⟨lo,h0.2.1⟩,fun a ha b hb=> ?_⟩
 rcases List.mem_cons.1 hb with rfl|hb
 ·rcases he with rfl|⟨p',y,rfl,hy⟩
  ·cases ha
  ·have hym:y∈idL n:=hm y (by simp)
   have hyx:lt y b=true:=t.tot b y hx hym (fun e=>hn (by subst e;simp)) hy
   rcases List.mem_append.1 ha with ha|ha
   ·have hay:lt a y=true:=(List.pairwise_append.1 h0.1).2.2 a ha y (by simp)
    exact t.tr a y b (hm a (by simp [ha])) hym hx hay hyx
   ·rw [List.mem_singleton.1 ha]
    exact hyx
 ·exact h0.2.2 a ha b hb
def ytf (a b:Int):Int:=if a<b then -1 else if b<a then 1 else 0
theorem Wr.u64 {x:Int} {K:Int->Prop} (k:K x) (h:0<=x/\x<=1000000:=by omega):Wr .u64 x K:=⟨by
 have:IntKind.u64.wrap x=x:=by
  simp only [IntKind.wrap,IntKind.signed,IntKind.bits]
  simp
  omega
 rw [this]
 exact k⟩
section
variable {E : Oracle} (g : Good E)
include g
theorem ylt (a b:Int):Fc E zbf [I a,I b] (I (ytf a b)):=by
 have h1:=ygk g a
 have h2:=ygk g b
 refine g.fn rfl rfl ?_
 unfold ytf
 rcases Int.lt_trichotomy a b with h|h|h
 ·rw [if_pos h]
  repeat' ((conv=>whnf);first
  | refine Yz ?_
   | (apply zae.of;assumption)
   | (refine Ret.mk rfl))
 ·rw [if_neg (by omega),if_neg (by omega)]
  repeat' ((conv=>whnf);first
  | refine Yz ?_
   | (apply zae.of;assumption)
   | (refine Ret.mk rfl))
 ·rw [if_neg (by omega),if_pos h]
  repeat' ((conv=>whnf);first
  | refine Yz ?_
   | (apply zae.of;assumption)
   | (refine Ret.mk rfl))
theorem yvh:∀n:Nat,n<=12->∃r,Fc E zms [.d (.int .u64 n)] (I r)
 | 0,_=>⟨0,g.compR 100 (by decide+kernel)⟩
 | 1,_=>⟨1,g.compR 100 (by decide+kernel)⟩
 | 2,_=>⟨2,g.compR 100 (by decide+kernel)⟩
 | 3,_=>⟨2,g.compR 100 (by decide+kernel)⟩
 | 4,_=>⟨3,g.compR 100 (by decide+kernel)⟩
 | 5,_=>⟨3,g.compR 100 (by decide+kernel)⟩
 | 6,_=>⟨3,g.compR 100 (by decide+kernel)⟩
 | 7,_=>⟨3,g.compR 100 (by decide+kernel)⟩
 | 8,_=>⟨4,g.compR 100 (by decide+kernel)⟩
 | 9,_=>⟨4,g.compR 100 (by decide+kernel)⟩
 | 10,_=>⟨4,g.compR 100 (by decide+kernel)⟩
 | 11,_=>⟨4,g.compR 100 (by decide+kernel)⟩
 | 12,_=>⟨4,g.compR 100 (by decide+kernel)⟩
 | n+13,h=>absurd h (by omega)
end
end Go.Proofs.YtkgcnknhkobmjaaGreatDoor.Co
