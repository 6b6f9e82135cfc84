/-
  TopChockOrder: what its law leans on, part 3.
-/
import Derived.KernelRfl
import Derived.Laws.RangeAny
import Derived.Lib.SplitLaws
import Derived.Test.YthmfkkpmjcbgeabGreatDoorEvE
import Derived.Test.YthmfkkpmjcbgeabGreatDoorEvRun
import Derived.Test.YthmfkkpmjcbgeabGreatDoorEvX
import Derived.Test.YthmfkkpmjcbgeabGreatDoorGood
import Derived.Test.YthmfkkpmjcbgeabGreatDoorRead
import Derived.Test.YthmfkkpmjcbgeabGreatDoorTob
namespace Go.Proofs.YthmfkkpmjcbgeabGreatDoor.Co
open Go Go.Evl
set_option maxHeartbeats 32000000
set_option maxRecDepth 100000
theorem zcj.nat {l:List Int} {k:Nat} {K:D->Prop} (h:k<l.length) (hk:K (DI (l.getD k 0))):zcj (l.map DI) ((k:Int).toNat*1) K:=by
 refine⟨⟨_,?_,hk⟩⟩
 simp [List.getD,h]
def zp2 (x:Int):Int:=48271*x%2147483647
def z6y (l:List Int) (i j:Nat):List Int:=(l.set i (l.getD j 0)).set j (l.getD i 0)
def ydn:Nat->Int->List Int->List Int
 | 0,_,l=>l
 | i+1,x,l=>ydn i (zp2 x) (z6y l (i+1) (zp2 x%(i+2)).toNat)
def idL (n:Nat):List Int:=(List.range n).map fun(i:Nat)=>(i:Int)
def zhq (key:Int) (n:Nat):List Int:=ydn (n-1) key (idL n)
theorem yfx (n:Nat):idL (n+1)=idL n++[(n:Int)]:=by simp [idL,List.range_succ]
theorem zbx (n:Nat):(idL n).length=n:=by simp [idL]
theorem zpj (l:List Int) (i j:Nat):(z6y l i j).length=l.length:=by simp [z6y]
theorem zxe:∀(i:Nat) (x:Int) (l:List Int),(ydn i x l).length=l.length
 | 0,_,_=>rfl
 | i+1,x,l=>by simp only [ydn];rw [zxe i,zpj]
theorem zlz (l:List Int) (i:Nat) (v:Int) (h:i<l.length):patch (l.map DI) i [DI v]=(l.set i v).map DI:=by
 unfold patch
 rw [List.set_eq_take_append_cons_drop,if_pos h]
 simp
theorem zzy (l:List Int) (o:Nat) (v:Int) (h:o<l.length):(patch (l.map DI) o [DI v]).length=l.length:=by
 rw [zlz l o v h];simp
theorem yl5 (l:List Int) (x:Int) (i k:Nat) (h1:i+1<k) (h2:l.length=k):
  (z6y l (i+1) (zp2 x%((i:Int)+2)).toNat).map DI=patch (patch (l.map DI) ((0+((i+1:Nat):Int).toNat)*1) [DI (l.getD (48271*x%2147483647%(((i+1:Nat):Int)+1)).toNat 0)])
   ((0+(48271*x%2147483647%(((i+1:Nat):Int)+1)).toNat)*1) [DI (l.getD ((i+1:Nat):Int).toNat 0)]:=by
 have e0:((i+1:Nat):Int)+1=(i:Int)+2:=by omega
 have hm1:=Int.emod_nonneg (zp2 x) (show (i:Int)+2≠0 by omega)
 have hm2:=Int.emod_lt_of_pos (zp2 x) (show (0:Int)<(i:Int)+2 by omega)
 rw [e0]
 show _=patch (patch (l.map DI) ((0+((i+1:Nat):Int).toNat)*1) [DI (l.getD (zp2 x%((i:Int)+2)).toNat 0)]) ((0+(zp2 x%((i:Int)+2)).toNat)*1) [DI (l.getD ((i+1:Nat):Int).toNat 0)]
 generalize zp2 x%((i:Int)+2)=m at hm1 hm2 ⊢
 have e1:(0+((i+1:Nat):Int).toNat)*1=i+1:=by omega
 have e2:(0+m.toNat)*1=m.toNat:=by omega
 have e3:((i+1:Nat):Int).toNat=i+1:=by omega
 rw [e1,e2,e3,zlz _ _ _ (by omega),zlz _ _ _ (by simp;omega)]
 rfl
theorem zzi (n:Nat):(List.replicate n [DI 0]).flatten=(List.replicate n (0:Int)).map DI:=by
 induction n with
 | zero=>rfl
 | succ n ih=>simp [List.replicate_succ,ih]
section
variable {E : Oracle} (g : Good E)
include g
theorem z5p (a b:List Int) (ha:a.length<=140737488355328):Fc E zed [LI a,LI b] (B (decide (a=b))):=by
 refine g.fn rfl rfl ?_
 by_cases hl:a.length=b.length
 ·repeat' ((conv=>whnf);first
 | refine Yz ?_)
  refine zad.upP g (fun k=>[(0,LI a),(1,LI b),(5,I k)]) (fun _=>[]) (fun k=>a.take k=b.take k) a.length (fun k hk hp ih=> ?_) 0 (Nat.zero_le _) (by simp)
  by_cases hlt:k<a.length
  ·have hs:a.take (k+1)=b.take (k+1)↔a.getD k 0=b.getD k 0:=by
    have hlb:k<b.length:=by omega
    have e1:a.take (k+1)=b.take k++[a.getD k 0]:=by rw [List.take_add_one,hp];simp [List.getD,hlt]
    have e2:b.take (k+1)=b.take k++[b.getD k 0]:=by rw [List.take_add_one];simp [List.getD,hlb]
    rw [e1,e2]
    simp
   repeat' ((conv=>whnf);first
   | refine Yz ?_
    | (refine zcj.int (by omega) ?_)
    | (refine Cmp.mk (fun h=> ?_) (fun h=> ?_))
    | (refine zad.to (ih hlt ?_) ?_ rfl)
    | (refine Ret.mk ?_))
   ·exact hs.2 (by simpa using h)
   ·simp
   ·have:¬a=b:=fun e=>by subst e;exact h rfl
    simp [this]
  ·have hk':k=a.length:=by omega
   subst hk'
   repeat' ((conv=>whnf);first
   | refine Yz ?_
    | (refine Ret.mk ?_))
   rw [List.take_of_length_le (Nat.le_refl _),List.take_of_length_le (by omega)] at hp
   simp [hp]
 ·have:¬a=b:=fun e=>hl (by rw [e])
  repeat' ((conv=>whnf);first
  | refine Yz ?_
   | (refine Ret.mk ?_))
  simp [this]
theorem ywz (key:Int) (n:Nat) (hk:1<=key/\key<=2147483646) (hn:n<=256):Fc E zl0 [I key,I n] (.tup [LI (zhq key n),I 0]):=by
 refine g.fn rfl rfl ?_
 have k1:zap [rng key 1 2147483646,rng n 0 256]=0:=by
  have h1:=(@zcw key 1 2147483646).2 hk
  have h2:=(@zcw n 0 256).2 (by omega)
  simp [zap,h1,h2]
 repeat' ((conv=>whnf);first
 | refine Yz ?_
  | (refine zaf.of (zy4 g _ _ _) ?_)
  | (refine zaf.of (yfn g _ _) ?_))
 refine zad.to (zad.up g (fun k=>[(0,I key),(1,I n),(7,.ref ⟨0,7,0⟩ 0 k k),(22,I n),(23,I k)]) (fun k=>[(⟨0,4,0⟩,.row true zam 1 0 []),(⟨0,7,0⟩,.row false zam 1 k ((idL k).map DI))]) n (fun k hk ih=> ?_) 0 (Nat.zero_le _)) rfl rfl
 by_cases hlt:k<n
 ·repeat' ((conv=>whnf);first
 | refine Yz ?_
   | (refine zad.to (ih hlt) rfl ?_))
  simp [yfx]
 ·have hk':k=n:=by omega
  subst hk'
  have hl:=zbx k
  have hrow:patch ((List.replicate k [DI 0]).flatten) (0*1) (List.take (min k k*1) (if 0=0/\k=k then(idL k).map DI else win ((idL k).map DI) (0*1) (k*1)))=(idL k).map DI:=by
   rw [zzi]
   simp only [patch]
   simp [hl,List.take_of_length_le]
  repeat' ((conv=>whnf);first
  | refine Yz ?_
   | (refine zbk.mk (by simp [hl]) ?_))
  by_cases h0:k=0
  ·subst h0
   refine zad.step g.lim ?_
   repeat' ((conv=>whnf);first
   | refine Yz ?_
    | (refine Ret.mk rfl))
  ·refine zad.to (zad.by g (fun(s:Nat×Int×List Int)=>s.1<k/\s.2.2.length=k/\0<=s.2.1/\s.2.1<=2147483646/\ydn s.1 s.2.1 s.2.2=zhq key k)
    (fun s=>[(9,.ref ⟨0,32,0⟩ 0 k k),(10,I s.2.1),(11,I s.1)])
    (fun s=>[(⟨0,4,0⟩,.row true zam 1 0 []),(⟨0,7,0⟩,.row false zam 1 k ((idL k).map DI)),(⟨0,32,0⟩,.row true zam 1 k (s.2.2.map DI))])
    (fun s=>s.1) (fun s hs ih=> ?_) (k-1,key,idL k) ⟨by show k-1<k;omega,hl,by show 0<=key;omega,by show key<=_;omega,rfl⟩) ?_ ?_
   ·obtain⟨i,x,l⟩:=s
    obtain⟨h1,h2,h3,h4,h5⟩:=hs
    simp only at h1 h2 h3 h4 h5 ih ⊢
    cases i with
    | zero=>
     simp only [ydn] at h5
     subst h5
     repeat' ((conv=>whnf);first
     | refine Yz ?_
      | (refine Ret.mk ?_))
     simp [h2]
    | succ i=>
     have hx:0<=zp2 x/\zp2 x<=2147483646:=by unfold zp2;omega
     have hm1:=Int.emod_nonneg (48271*x%2147483647) (show ((i+1:Nat):Int)+1≠0 by omega)
     have hm2:=Int.emod_lt_of_pos (48271*x%2147483647) (show (0:Int)<((i+1:Nat):Int)+1 by omega)
     repeat' ((conv=>whnf);first
     | refine Yz ?_
      | (refine zbk.mk (by simp;omega) ?_)
      | (refine zbk.mk ⟨rfl,by rw [zzy _ _ _ (by omega)];omega,rfl⟩ ?_)
      | (refine zcj.int0 (by omega) ?_)
      | (refine zad.to (ih (i,zp2 x,z6y l (i+1) (zp2 x%(i+2)).toNat) ⟨by show i<k;omega,by rw [zpj];exact h2,hx.1,hx.2,h5⟩ (by show i<i+1;omega)) ?_ ?_))
     ·simp [zp2]
     ·exact congrArg (fun z=>[((⟨0,4,0⟩:Evl.Id),Ob.row true zam 1 0 []),(⟨0,7,0⟩,Ob.row false zam 1 k ((idL k).map DI)),(⟨0,32,0⟩,Ob.row true zam 1 k z)]) (yl5 l x i k h1 h2)
   ·simp;omega
   ·exact congrArg (fun z=>[((⟨0,4,0⟩:Evl.Id),Ob.row true zam 1 0 []),(⟨0,7,0⟩,Ob.row false zam 1 k ((idL k).map DI)),(⟨0,32,0⟩,Ob.row true zam 1 k z)]) hrow.symm
end
theorem zj6 (l:List Int) (i k:Nat) (v:Int) (h:i<l.length):(l.set i v).getD k 0=if i=k then v else l.getD k 0:=by
 simp only [List.getD,List.getElem?_set]
 split
 ·subst_vars;simp
 ·rfl
theorem ygu (l:List Int) (i j k:Nat) (hi:i<l.length) (hj:j<l.length):(z6y l i j).getD k 0=if j=k then l.getD i 0 else if i=k then l.getD j 0 else l.getD k 0:=by
 unfold z6y
 rw [zj6 _ _ _ _ (by simpa using hj),zj6 _ _ _ _ hi]
structure Ord (n:Nat) (l:List Int):Prop where
 len:l.length=n
 rng:∀k,k<n->0<=l.getD k 0/\l.getD k 0<n
 inj:∀i j,i<n->j<n->l.getD i 0=l.getD j 0->i=j
theorem Ord.swap {n:Nat} {l:List Int} (h:Ord n l) {i j:Nat} (hi:i<n) (hj:j<n):Ord n (z6y l i j):=by
 have hl:=h.len
 have e:∀k,(z6y l i j).getD k 0=l.getD (if j=k then i else if i=k then j else k) 0:=fun k=>by
  rw [ygu l i j k (by omega) (by omega)]
  split
  ·rfl
  ·split<;>rfl
 refine⟨by rw [zpj];exact hl,fun k hk=> ?_,fun a b ha hb hab=> ?_⟩
 ·rw [e]
  refine h.rng _ ?_
  split
  ·exact hi
  ·split
   ·exact hj
   ·exact hk
 ·rw [e,e] at hab
  have:=h.inj _ _ (by split;exact hi;split;exact hj;exact ha) (by split;exact hi;split;exact hj;exact hb) hab
  split at this<;>split at this<;>(try split at this)<;>(try split at this)<;>omega
theorem yuz (x:Int) (i:Nat):(zp2 x%((i:Int)+2)).toNat<i+2:=by
 have h1:=Int.emod_nonneg (zp2 x) (show (i:Int)+2≠0 by omega)
 have h2:=Int.emod_lt_of_pos (zp2 x) (show (0:Int)<(i:Int)+2 by omega)
 omega
theorem Ord.draw {n:Nat}:∀(i:Nat) (x:Int) (l:List Int),i<n->Ord n l->Ord n (ydn i x l)
 | 0,_,_,_,h=>h
 | i+1,x,l,hi,h=>by
  have:=yuz x i
  exact Ord.draw i _ _ (by omega) (h.swap hi (by omega))
theorem Ord.id (n:Nat):Ord n (idL n):=by
 have e:∀k,k<n->(idL n).getD k 0=k:=fun k hk=>by simp [idL,List.getD,hk]
 refine⟨zbx n,fun k hk=> ?_,fun i j hi hj h=> ?_⟩
 ·rw [e k hk];omega
 ·rw [e i hi,e j hj] at h;omega
section
variable {E : Oracle} (g : Good E)
include g
theorem yas (n:Nat) (l:List Int) (h:Ord n l) (hn:n<=256):Fc E zi0 [LI l] (B true):=by
 have hl:=h.len
 refine g.fn rfl rfl ?_
 repeat' ((conv=>whnf);first
 | refine Yz ?_)
 refine zad.up g (fun k=>[(0,LI l),(3,I k)]) (fun _=>[]) n (fun k hk ih=> ?_) 0 (Nat.zero_le _)
 by_cases hlt:k<n
 ·have hr:=h.rng k hlt
  repeat' ((conv=>whnf);first
  | refine Yz ?_
   | (refine zcj.nat (by omega) ?_))
  refine zad.up g (fun j=>[(0,LI l),(3,I k),(4,I j)]) (fun _=>[]) k (fun j hj ih'=> ?_) 0 (Nat.zero_le _)
  by_cases hlt':j<k
  ·have hne:¬l.getD j 0=l.getD k 0:=fun e=>by have:=h.inj j k (by omega) hlt e;omega
   repeat' ((conv=>whnf);first
   | refine Yz ?_
    | (refine zcj.nat (by omega) ?_)
    | (refine Cmp.ff hne ?_)
    | (refine zad.to (ih' hlt') ?_ rfl))
   simp
  ·repeat' ((conv=>whnf);first
  | refine Yz ?_
    | (refine zad.to (ih hlt) ?_ rfl))
   simp
 ·repeat' ((conv=>whnf);first
 | refine Yz ?_
   | (refine Ret.mk rfl))
end
structure Tot (n:Nat) (lt:Int->Int->Bool):Prop where
 irr:∀a:Int,lt a a=false
 tr:∀a b c:Int,a∈idL n->b∈idL n->c∈idL n->lt a b=true->lt b c=true->lt a c=true
 tot:∀a b:Int,a∈idL n->b∈idL n->a≠b->lt a b=false->lt b a=true
def zqc (n:Nat) (lt:Int->Int->Bool) (x:Int):Nat:=(idL n).countP fun y=>lt y x
structure Srt (n:Nat) (lt:Int->Int->Bool) (l:List Int):Prop where
 pm:l.Perm (idL n)
 up:l.Pairwise fun a b=>lt a b=true
theorem zhw {n:Nat} {x:Int}:x∈idL n↔0<=x/\x<n:=by
 unfold idL
 rw [List.mem_map]
 constructor
 ·rintro⟨i,h,rfl⟩
  have:=List.mem_range.1 h
  omega
 ·intro h
  exact⟨x.toNat,List.mem_range.2 (by omega),by omega⟩
theorem z02 {n k:Nat} (h:k<n):(idL n)[k]? =some (k:Int):=by
 simp [idL,h]
theorem Srt.len {n:Nat} {lt:Int->Int->Bool} {l:List Int} (h:Srt n lt l):l.length=n:=by
 rw [h.pm.length_eq,zbx]
theorem Srt.mem {n:Nat} {lt:Int->Int->Bool} {l:List Int} (h:Srt n lt l) {k:Nat} (hk:k<l.length):l[k]∈idL n:=h.pm.mem_iff.1 (List.getElem_mem hk)
theorem Srt.asym {n:Nat} {lt:Int->Int->Bool} (t:Tot n lt) {a b:Int} (ha:a∈idL n) (hb:b∈idL n) (h:lt a b=true):lt b a=false:=by
 cases hc:lt b a with
 | false=>rfl
 | true=>
  have:=t.tr a b a ha hb ha h hc
  rw [t.irr a] at this
  cases this
theorem Srt.place {n:Nat} {lt:Int->Int->Bool} {l:List Int} (t:Tot n lt) (h:Srt n lt l) {k:Nat} (hk:k<l.length):zqc n lt l[k]=k:=by
 unfold zqc
 rw [<-h.pm.countP_eq]
 have e:l=l.take k++l[k]::l.drop (k+1):=by
  rw [<-List.drop_eq_getElem_cons hk,List.take_append_drop]
 have hm:=fun {j:Nat} (hj:j<l.length)=>h.mem hj
 have hp:=List.pairwise_iff_getElem.1 h.up
 generalize hx:l[k]=x at *
 have h1:(l.take k).countP (fun y=>lt y x)=k:=by
  have:(l.take k).countP (fun y=>lt y x)=(l.take k).length:=by
   rw [List.countP_eq_length]
   intro a ha
   rw [List.mem_take_iff_getElem] at ha
   obtain⟨i,hi,rfl⟩:=ha
   rw [<-hx]
   exact hp i k (by omega) hk (by omega)
  rw [this,List.length_take]
  omega
 have h2:(l.drop (k+1)).countP (fun y=>lt y x)=0:=by
  rw [List.countP_eq_zero]
  intro a ha
  rw [List.mem_drop_iff_getElem] at ha
  obtain⟨i,hi,rfl⟩:=ha
  have:=hp k (k+1+i) hk (by omega) (by omega)
  rw [hx] at this
  rw [Srt.asym t (hx▸hm hk) (hm (by omega)) this]
  simp
 rw [e,List.countP_append,List.countP_cons,h1,h2,t.irr]
 simp
theorem Srt.uniq {n:Nat} {lt:Int->Int->Bool} {l:List Int} (t:Tot n lt) (h:Srt n lt l) {x:Int} (hx:x∈idL n):l[zqc n lt x]? =some x:=by
 obtain⟨k,hk,rfl⟩:=List.getElem_of_mem (h.pm.mem_iff.2 hx)
 rw [h.place t hk]
 exact List.getElem?_eq_getElem hk
structure Ins (lt:Int->Int->Bool) (s:List Int) (x:Int) (p q:List Int):Prop where
 eq:p++q=s
 lo:∀y∈q,lt x y=true
theorem Ins.start {lt:Int->Int->Bool} (s:List Int) (x:Int):Ins lt s x s []:=⟨by simp,by simp⟩
theorem Ins.step {lt:Int->Int->Bool} {s p q:List Int} {x y:Int} (h:Ins lt s x (p++[y]) q) (hy:lt x y=true):Ins lt s x p (y::q):=by
 refine⟨by rw [<-h.eq];simp,fun z hz=> ?_⟩
 rcases List.mem_cons.1 hz with rfl|hz
 ·exact hy
 ·exact h.lo z hz
theorem Ins.done {n:Nat} {lt:Int->Int->Bool} {s p q:List Int} {x:Int} (t:Tot n lt) (hs:s.Pairwise fun a b=>lt a b=true) (hm:∀y∈s,y∈idL n) (hx:x∈idL n) (hn:x∉s) (h:Ins lt s x p q)
  (he:p=[]\/∃p' y,p=p'++[y]/\lt x y=false):(p++x::q).Pairwise fun a b=>lt a b=true:=by
 obtain⟨rfl,lo⟩:=h
 have h0:=List.pairwise_append.1 hs
 refine List.pairwise_append.2 ⟨h0.1,List.pairwise_cons.2 ⟨lo,h0.2.1⟩,fun a ha b hb=> ?_⟩
 rcases List.mem_cons.1 hb with rfl|hb
 ·rcases he with rfl|⟨p',y,rfl,hy⟩
  ·cases ha
  ·have hym:y∈idL n:=hm y (by simp)
   have hyx:lt y b=true:=t.tot b y hx hym (fun e=>hn (by subst e;simp)) hy
   rcases List.mem_append.1 ha with ha|ha
   ·have hay:lt a y=true:=(List.pairwise_append.1 h0.1).2.2 a ha y (by simp)
    exact t.tr a y b (hm a (by simp [ha])) hym hx hay hyx
   ·rw [List.mem_singleton.1 ha]
    exact hyx
 ·exact h0.2.2 a ha b hb
theorem zn9:∀s:List UInt8,zcp s s=false
 | []=>rfl
 | a::r=>by simp [zcp,zn9 r]
theorem zpz {a b:UInt8} {x y:List UInt8}:zcp (a::x) (b::y)=true↔a<b\/(a=b/\zcp x y=true):=by
 simp [zcp]
theorem zu4:∀ {a b c:List UInt8},zcp a b=true->zcp b c=true->zcp a c=true
 | _,_,[],_,h=>by simp [zcp] at h
 | _,[],_::_,h,_=>by simp [zcp] at h
 | [],_::_,_::_,_,_=>rfl
 | x::a,y::b,z::c,h1,h2=>by
  rw [zpz] at h1 h2 ⊢
  rcases h1 with h1|⟨rfl,h1⟩
  ·rcases h2 with h2|⟨rfl,_⟩
   ·exact .inl (UInt8.lt_trans h1 h2)
   ·exact .inl h1
  ·rcases h2 with h2|⟨rfl,h2⟩
   ·exact .inl h2
   ·exact .inr ⟨rfl,zu4 h1 h2⟩
theorem z0i:∀ {a b:List UInt8},a≠b->zcp a b=false->zcp b a=true
 | [],[],h,_=>absurd rfl h
 | [],_::_,_,h=>by simp [zcp] at h
 | _::_,[],_,_=>rfl
 | x::a,y::b,h,h2=>by
  rw [zpz]
  have hn:¬(x<y\/(x=y/\zcp a b=true)):=fun hc=>by rw [zpz.2 hc] at h2;cases h2
  by_cases e:x=y
  ·subst e
   refine .inr ⟨rfl,z0i (fun hc=>h (by rw [hc])) ?_⟩
   cases hc:zcp a b with
   | false=>rfl
   | true=>exact absurd (.inr ⟨rfl,hc⟩) hn
  ·left
   have h3:¬x<y:=fun hc=>hn (.inl hc)
   rcases UInt8.lt_or_lt_of_ne e with h4|h4
   ·exact absurd h4 h3
   ·exact h4
def ywq (a b:List UInt8):Int:=if zcp a b=true then -1 else if a=b then 0 else 1
theorem yru (a b:List UInt8):ywq a b<0↔zcp a b=true:=by
 unfold ywq
 split
 ·simp [*]
 ·split<;>simp [*,zn9]
def ywf (a b:Int):Int:=if a<b then -1 else if b<a then 1 else 0
theorem yf5 (p r:List Int) (x y:Int) {i j:Nat} (hi:i=p.length+1) (hj:j=p.length):patch (patch ((p++y::x::r).map DI) i [DI y]) j [DI x]=(p++x::y::r).map DI:=by
 subst hi hj
 rw [zlz _ _ _ (by simp),zlz _ _ _ (by simp)]
 congr 1
 rw [List.set_append_right _ _ (by simp),List.set_append_right _ _ (by simp)]
 simp
theorem Wr.u64 {x:Int} {K:Int->Prop} (k:K x) (h:0<=x/\x<=1000000:=by omega):Wr .u64 x K:=⟨by
 have:IntKind.u64.wrap x=x:=by
  simp only [IntKind.wrap,IntKind.signed,IntKind.bits]
  simp
  omega
 rw [this]
 exact k⟩
theorem ygg {l p r:List Int} {x:Int} {k:Nat} (h:l=p++x::r) (hk:k=p.length) (hl:k<l.length):l[k]=x:=by
 subst h hk
 simp
structure InO where
 i:Nat
 (s r:List Int)
structure InI where
 j:Nat
 (p q:List Int)
section
variable {E : Oracle} (g : Good E)
include g
theorem yf0 (a:List UInt8):Fc E zg0 [S a] (B false):=by
 refine g.fn rfl rfl ?_
 repeat' ((conv=>whnf);first
 | refine Yz ?_
  | (refine Cmp.tt rfl ?_)
  | (refine Ret.mk rfl))
theorem yd0 (a:Int):Fc E zit [I a] (B false):=by
 refine g.fn rfl rfl ?_
 repeat' ((conv=>whnf);first
 | refine Yz ?_
  | (refine Cmp.tt rfl ?_)
  | (refine Ret.mk rfl))
theorem yvw (a b:List UInt8):Fc E zht [S a,S b] (I (ywq a b)):=by
 have h1:=yf0 g a
 have h2:=yf0 g b
 refine g.fn rfl rfl ?_
 unfold ywq
 by_cases h:a=b
 ·subst h
  have hu:=zn9 a
  have he:(a==a)=true:=beq_self_eq_true a
  rw [hu,if_neg (by decide),if_pos rfl]
  repeat' ((conv=>whnf);first
  | refine Yz ?_
   | (apply zaf.of;assumption)
   | (rw [hu])
   | (rw [he])
   | (refine Ret.mk rfl))
 ·have he:(a==b)=false:=beq_eq_false_iff_ne.2 h
  rw [if_neg h]
  cases hu:zcp a b
  ·rw [if_neg (by decide)]
   repeat' ((conv=>whnf);first
   | refine Yz ?_
    | (apply zaf.of;assumption)
    | (rw [hu])
    | (rw [he])
    | (refine Ret.mk rfl))
  ·rw [if_pos rfl]
   repeat' ((conv=>whnf);first
   | refine Yz ?_
    | (apply zaf.of;assumption)
    | (rw [hu])
    | (refine Ret.mk rfl))
theorem ywv (a b:Int):Fc E zj1 [I a,I b] (I (ywf a b)):=by
 have h1:=yd0 g a
 have h2:=yd0 g b
 refine g.fn rfl rfl ?_
 unfold ywf
 rcases Int.lt_trichotomy a b with h|h|h
 ·rw [if_pos h]
  repeat' ((conv=>whnf);first
  | refine Yz ?_
   | (apply zaf.of;assumption)
   | (refine Ret.mk rfl))
 ·rw [if_neg (by omega),if_neg (by omega)]
  repeat' ((conv=>whnf);first
  | refine Yz ?_
   | (apply zaf.of;assumption)
   | (refine Ret.mk rfl))
 ·rw [if_neg (by omega),if_pos h]
  repeat' ((conv=>whnf);first
  | refine Yz ?_
   | (apply zaf.of;assumption)
   | (refine Ret.mk rfl))
theorem yvh:∀n:Nat,n<=12->∃r,Fc E zlj [.d (.int .u64 n)] (I r)
 | 0,_=>⟨0,g.compR 100 (by decide+kernel)⟩
 | 1,_=>⟨1,g.compR 100 (by decide+kernel)⟩
 | 2,_=>⟨2,g.compR 100 (by decide+kernel)⟩
 | 3,_=>⟨2,g.compR 100 (by decide+kernel)⟩
 | 4,_=>⟨3,g.compR 100 (by decide+kernel)⟩
 | 5,_=>⟨3,g.compR 100 (by decide+kernel)⟩
 | 6,_=>⟨3,g.compR 100 (by decide+kernel)⟩
 | 7,_=>⟨3,g.compR 100 (by decide+kernel)⟩
 | 8,_=>⟨4,g.compR 100 (by decide+kernel)⟩
 | 9,_=>⟨4,g.compR 100 (by decide+kernel)⟩
 | 10,_=>⟨4,g.compR 100 (by decide+kernel)⟩
 | 11,_=>⟨4,g.compR 100 (by decide+kernel)⟩
 | 12,_=>⟨4,g.compR 100 (by decide+kernel)⟩
 | n+13,h=>absurd h (by omega)
theorem z47 (n:Nat) (hn:n<=1000):In E 0 zdg [I n] [] fun v m'=>v= .ref ⟨0,3,0⟩ 0 n n/\m'=[(⟨0,2,0⟩,.row true zam 1 0 []),(⟨0,3,0⟩,.row true zam 1 n ((idL n).map DI))]:=by
 refine In.enter (f:=zdg) g.lim rfl rfl ?_
 repeat' ((conv=>whnf);first
 | refine Yz ?_)
 refine zad.to (zad.up g (fun k=>[(3,.ref ⟨0,3,0⟩ 0 k k),(5,I n),(6,I k)]) (fun k=>[(⟨0,2,0⟩,.row true zam 1 0 []),(⟨0,3,0⟩,.row true zam 1 k ((idL k).map DI))]) n (fun k hk ih=> ?_) 0 (Nat.zero_le _)) rfl rfl
 have hl:=zbx k
 by_cases hlt:k<n
 ·have ih:=ih hlt
  rw [yfx] at ih
  simp only [List.map_append,List.map_cons,List.map_nil] at ih
  repeat' ((conv=>whnf);first
  | refine Yz ?_
   | (refine zbk.mk (by simp only [List.length_cons,List.length_nil];omega) ?_)
   | (refine zad.to ih rfl rfl))
 ·obtain rfl:k=n:=by omega
  repeat' ((conv=>whnf);first
  | refine Yz ?_
   | (exact⟨rfl,rfl⟩))
theorem yl9 (n:Nat) (hn:n<=1000):Fc E zdg [I n] (LI (idL n)):=by
 obtain⟨v,m',h,rfl,rfl⟩:=(z47 g n hn).got
 refine⟨_,_,h,?_⟩
 have hl:=zbx n
 show (Go.Evl.freeze true _ (V.ref ⟨0,3,0⟩ 0 n n)).map V.d=_
 simp [Go.Evl.freeze,Go.Evl.look,hl]
theorem yt2 {n:Nat} {lt:Int->Int->Bool} (t:Tot n lt) (hn:n<=12) (f:Nat) (a0:D) (hcmp:∀(x y:Int) (l:List Int) {K:V->Mem->Prop},x∈idL n->y∈idL n->(∀c:Int,(c<0↔lt x y=true)->K (I c) [(⟨0,3,0⟩,.cells zbh [.d a0]),(⟨0,4,0⟩,.row true zam 1 0 []),(⟨0,13,0⟩,.row true zam 1 n (l.map DI))])->In E 4 f [I x,I y,.ptr ⟨0,3,0⟩ 0 0] [(⟨0,3,0⟩,.cells zbh [.d a0]),(⟨0,4,0⟩,.row true zam 1 0 []),(⟨0,13,0⟩,.row true zam 1 n (l.map DI))] K) {K:V->Mem->Prop} (hK:∀l,Srt n lt l->K (.tup []) [(⟨0,3,0⟩,.cells zbh [.d a0]),(⟨0,4,0⟩,.row true zam 1 0 []),(⟨0,13,0⟩,.row true zam 1 n (l.map DI))]):
  In E 3 zbn [.ref ⟨0,13,0⟩ 0 n n,I 0,I n,.fn f [] [.ptr ⟨0,3,0⟩ 0 0]] [(⟨0,3,0⟩,.cells zbh [.d a0]),(⟨0,4,0⟩,.row true zam 1 0 []),(⟨0,13,0⟩,.row true zam 1 n ((idL n).map DI))] K:=by
 refine In.enter (f:=zbn) g.lim rfl rfl ?_
 rcases Nat.eq_zero_or_pos n with h0|h0
 ·subst h0
  have hs:=hK [] ⟨List.Perm.nil,.nil⟩
  repeat' ((conv=>whnf);first
  | refine Yz ?_
   | (refine zad.step g.lim ?_)
   | (exact hs))
 ·obtain⟨x0,r0,hi⟩:∃x r,idL n=x::r:=by
   cases h:idL n with
   | nil=>have:=zbx n;rw [h] at this;simp at this;omega
   | cons x r=>exact⟨x,r,rfl⟩
  have hpm:(x0::r0).Perm (idL n):=by rw [hi]
  rw [hi]
  repeat' ((conv=>whnf);first
  | refine Yz ?_)
  refine zad.to (zad.by g (fun s:InO=>s.s.length=s.i/\s.s.Pairwise (fun a b=>lt a b=true)/\(s.s++s.r).Perm (idL n))
   (fun s=>[(0,.ref ⟨0,13,0⟩ 0 n n),(1,I 0),(2,I n),(3,.fn f [] [.ptr ⟨0,3,0⟩ 0 0]),(8,I s.i)])
   (fun s=>[(⟨0,3,0⟩,.cells zbh [.d a0]),(⟨0,4,0⟩,.row true zam 1 0 []),(⟨0,13,0⟩,.row true zam 1 n ((s.s++s.r).map DI))])
   (fun s=>n-s.i) (fun s hs ih=> ?_) ⟨1,[x0],r0⟩ ⟨rfl,List.pairwise_singleton ..,hpm⟩) rfl rfl
  obtain⟨i,s,r⟩:=s
  obtain⟨h1,h2,h3⟩:=hs
  dsimp only at h1 h2 h3 ih ⊢
  have hlen:=h3.length_eq
  rw [zbx,List.length_append] at hlen
  by_cases hlt:i<n
  ·cases r with
   | nil=>simp at hlen;omega
   | cons x r=>
    have hx:x∈idL n:=h3.mem_iff.1 (by simp)
    have hsm:∀y∈s,y∈idL n:=fun y hy=>h3.mem_iff.1 (by simp [hy])
    have hnd:(s++x::r).Nodup:=by
     rw [h3.nodup_iff]
     refine List.pairwise_iff_getElem.2 fun a b ha hb hab=> ?_
     rw [zbx] at ha hb
     have e1:=List.getElem?_eq_getElem (l:=idL n) (i:=a) (by rw [zbx];exact ha)
     have e2:=List.getElem?_eq_getElem (l:=idL n) (i:=b) (by rw [zbx];exact hb)
     rw [z02 ha] at e1
     rw [z02 hb] at e2
     rw [<-Option.some.inj e1,<-Option.some.inj e2]
     omega
    have hxs:x∉s:=fun hc=>(List.nodup_append.1 hnd).2.2 x hc x (by simp) rfl
    rw [List.length_cons] at hlen
    repeat' ((conv=>whnf);first
    | refine Yz ?_)
    refine zad.to (zad.by g (fun u:InI=>u.p.length=u.j/\Ins lt s x u.p u.q)
     (fun u=>[(0,.ref ⟨0,13,0⟩ 0 n n),(1,I 0),(2,I n),(3,.fn f [] [.ptr ⟨0,3,0⟩ 0 0]),(8,I i),(9,I u.j)])
     (fun u=>[(⟨0,3,0⟩,.cells zbh [.d a0]),(⟨0,4,0⟩,.row true zam 1 0 []),(⟨0,13,0⟩,.row true zam 1 n ((u.p++x::(u.q++r)).map DI))])
     (fun u=>u.j) (fun u hu jh=> ?_) ⟨i,s,[]⟩ ⟨h1,Ins.start s x⟩) rfl rfl
    obtain⟨j,p,q⟩:=u
    obtain⟨k1,k2⟩:=hu
    dsimp only at k1 k2 jh ⊢
    have hpq:=k2.eq
    have hpl:p.length+q.length=s.length:=by rw [<-hpq,List.length_append]
    have out:(p=[]\/∃p' y,p=p'++[y]/\lt x y=false)->(p++x::q).Pairwise (fun a b=>lt a b=true):=fun he=>k2.done t h2 hsm hx hxs he
    have hperm:(p++x::q++r).Perm (idL n):=by
     refine List.Perm.trans ?_ h3
     rw [<-hpq]
     simp only [List.append_assoc,List.cons_append]
     exact List.Perm.append_left p List.perm_middle.symm
    have ih:=ih ⟨i+1,p++x::q,r⟩
    dsimp only at ih
    rcases List.eq_nil_or_concat p with rfl|⟨p',y,rfl⟩
    ·have ih:=ih ⟨by simp at hpl ⊢;omega,out (.inl rfl),hperm⟩ (by omega)
     have hj0:j=0:=k1.symm
     subst hj0
     repeat' ((conv=>whnf);first
     | refine Yz ?_
      | (refine zad.to ih rfl rfl))
    ·rw [List.concat_eq_append] at *
     obtain⟨j,rfl⟩:∃m,j=m+1:=⟨j-1,by simp at k1;omega⟩
     have k3:p'.length=j:=by simpa using k1
     have hy:y∈idL n:=hsm y (by rw [<-hpq];simp)
     have jh:=jh ⟨j,p',y::q⟩
     dsimp only at jh
     obtain⟨L,hL⟩:∃L,L=(p'++[y])++x::(q++r):=⟨_,rfl⟩
     have hll:L.length=n:=by
      rw [hL]
      simp only [List.length_append,List.length_cons,List.length_nil] at hpl hlen ⊢
      omega
     have g1:=ygg (l:=L) (p:=p'++[y]) (x:=x) (r:=q++r) (k:=j+1) hL (by simp [k3]) (by omega)
     have g2:=ygg (l:=L) (p:=p') (x:=y) (r:=x::(q++r)) (k:=j) (by rw [hL];simp) (by simp [k3]) (by omega)
     have hsw:=yf5 p' (q++r) x y (i:=(0+((j+1:Nat):Int).toNat)*1) (j:=(0+(((j+1:Nat):Int)-1).toNat)*1) (by omega) (by omega)
     rw [show p'++y::x::(q++r)=L by rw [hL];simp] at hsw
     rw [<-hL]
     by_cases hc0:lt x y=true
     ·have jh:=jh ⟨k3,k2.step hc0⟩ (by omega)
      have e1:((j+1:Nat):Int)-1=(j:Int):=by omega
      repeat' ((conv=>whnf);first
      | refine Yz ?_
       | (refine zcj.intI0 (j+1) rfl (by omega) ?_;rw [g1])
       | (refine zcj.intI0 j (by omega) (by omega) ?_;rw [g2])
       | (refine hcmp x y L hx hy (fun c hc=> ?_))
       | (refine Cmp.tt (hc.2 hc0) ?_)
       | (refine zbk.mk ⟨rfl,by rw [zzy _ _ _ (by omega)];omega,rfl⟩ ?_)
       | (refine zad.to jh (by first |(rw [e1];done)|(rw [e1];rfl)) ?_))
      rw [hsw]
      rfl
     ·have hcf:lt x y=false:=by simpa using hc0
      have ih:=ih ⟨by simp only [List.length_append,List.length_cons,List.length_nil] at hpl ⊢;omega,out (.inr ⟨p',y,rfl,hcf⟩),hperm⟩ (by omega)
      rw [show (p'++[y])++x::q++r=L by rw [hL];simp] at ih
      repeat' ((conv=>whnf);first
      | refine Yz ?_
       | (refine zcj.intI0 (j+1) rfl (by omega) ?_;rw [g1])
       | (refine zcj.intI0 j (by omega) (by omega) ?_;rw [g2])
       | (refine hcmp x y L hx hy (fun c hc=> ?_))
       | (refine Cmp.ff (fun h=>hc0 (hc.1 h)) ?_)
       | (refine zad.to ih rfl rfl))
  ·have hr:r=[]:=List.length_eq_zero_iff.1 (by omega)
   subst hr
   rw [List.append_nil] at *
   have hs:=hK s ⟨h3,h2⟩
   repeat' ((conv=>whnf);first
   | refine Yz ?_
    | (exact hs))
theorem yqc {n:Nat} {lt:Int->Int->Bool} (t:Tot n lt) (hn:n<=12) (f:Nat) (a0:D) (hcmp:∀(x y:Int) (l:List Int) {K:V->Mem->Prop},x∈idL n->y∈idL n->(∀c:Int,(c<0↔lt x y=true)->K (I c) [(⟨0,3,0⟩,.cells zbh [.d a0]),(⟨0,4,0⟩,.row true zam 1 0 []),(⟨0,13,0⟩,.row true zam 1 n (l.map DI))])->In E 4 f [I x,I y,.ptr ⟨0,3,0⟩ 0 0] [(⟨0,3,0⟩,.cells zbh [.d a0]),(⟨0,4,0⟩,.row true zam 1 0 []),(⟨0,13,0⟩,.row true zam 1 n (l.map DI))] K) {K:V->Mem->Prop} (hK:∀l,Srt n lt l->K (.tup []) [(⟨0,3,0⟩,.cells zbh [.d a0]),(⟨0,4,0⟩,.row true zam 1 0 []),(⟨0,13,0⟩,.row true zam 1 n (l.map DI))]):
  In E 1 zbp [.ref ⟨0,13,0⟩ 0 n n,.fn f [] [.ptr ⟨0,3,0⟩ 0 0]] [(⟨0,3,0⟩,.cells zbh [.d a0]),(⟨0,4,0⟩,.row true zam 1 0 []),(⟨0,13,0⟩,.row true zam 1 n ((idL n).map DI))] K:=by
 obtain⟨b,hb⟩:=yvh g n hn
 refine In.enter (f:=zbp) g.lim rfl rfl ?_
 repeat' ((conv=>whnf);first
 | refine Yz ?_
  | (apply zaf.of;assumption)
  | (refine Wr.u64 ?_)
  | (refine In.enter (f:=zb5) g.lim rfl rfl ?_)
  | (refine zad.step g.lim ?_)
  | (refine yt2 g t hn f a0 hcmp (fun l hl=> ?_))
  | (exact hK _ (by assumption)))
theorem ytw {n:Nat} {lt:Int->Int->Bool} (t:Tot n lt) (hn:n<=12) (f:Nat) (a0 a1 a2 a3 a4 a5:D) (hcmp:∀(x y:Int) (l:List Int) {K:V->Mem->Prop},x∈idL n->y∈idL n->(∀c:Int,(c<0↔lt x y=true)->K (I c) [(⟨0,1,0⟩,.cells za6 [.d a0,.d a1,.d a2,.d a3,.d a4,.d a5]),(⟨0,2,0⟩,.row true zam 1 0 []),(⟨0,14,0⟩,.row true zam 1 n (l.map DI))])->In E 4 f [I x,I y,.ptr ⟨0,1,0⟩ 0 0] [(⟨0,1,0⟩,.cells za6 [.d a0,.d a1,.d a2,.d a3,.d a4,.d a5]),(⟨0,2,0⟩,.row true zam 1 0 []),(⟨0,14,0⟩,.row true zam 1 n (l.map DI))] K) {K:V->Mem->Prop} (hK:∀l,Srt n lt l->K (.tup []) [(⟨0,1,0⟩,.cells za6 [.d a0,.d a1,.d a2,.d a3,.d a4,.d a5]),(⟨0,2,0⟩,.row true zam 1 0 []),(⟨0,14,0⟩,.row true zam 1 n (l.map DI))]):
  In E 3 zbn [.ref ⟨0,14,0⟩ 0 n n,I 0,I n,.fn f [] [.ptr ⟨0,1,0⟩ 0 0]] [(⟨0,1,0⟩,.cells za6 [.d a0,.d a1,.d a2,.d a3,.d a4,.d a5]),(⟨0,2,0⟩,.row true zam 1 0 []),(⟨0,14,0⟩,.row true zam 1 n ((idL n).map DI))] K:=by
 refine In.enter (f:=zbn) g.lim rfl rfl ?_
 rcases Nat.eq_zero_or_pos n with h0|h0
 ·subst h0
  have hs:=hK [] ⟨List.Perm.nil,.nil⟩
  repeat' ((conv=>whnf);first
  | refine Yz ?_
   | (refine zad.step g.lim ?_)
   | (exact hs))
 ·obtain⟨x0,r0,hi⟩:∃x r,idL n=x::r:=by
   cases h:idL n with
   | nil=>have:=zbx n;rw [h] at this;simp at this;omega
   | cons x r=>exact⟨x,r,rfl⟩
  have hpm:(x0::r0).Perm (idL n):=by rw [hi]
  rw [hi]
  repeat' ((conv=>whnf);first
  | refine Yz ?_)
  refine zad.to (zad.by g (fun s:InO=>s.s.length=s.i/\s.s.Pairwise (fun a b=>lt a b=true)/\(s.s++s.r).Perm (idL n))
   (fun s=>[(0,.ref ⟨0,14,0⟩ 0 n n),(1,I 0),(2,I n),(3,.fn f [] [.ptr ⟨0,1,0⟩ 0 0]),(8,I s.i)])
   (fun s=>[(⟨0,1,0⟩,.cells za6 [.d a0,.d a1,.d a2,.d a3,.d a4,.d a5]),(⟨0,2,0⟩,.row true zam 1 0 []),(⟨0,14,0⟩,.row true zam 1 n ((s.s++s.r).map DI))])
   (fun s=>n-s.i) (fun s hs ih=> ?_) ⟨1,[x0],r0⟩ ⟨rfl,List.pairwise_singleton ..,hpm⟩) rfl rfl
  obtain⟨i,s,r⟩:=s
  obtain⟨h1,h2,h3⟩:=hs
  dsimp only at h1 h2 h3 ih ⊢
  have hlen:=h3.length_eq
  rw [zbx,List.length_append] at hlen
  by_cases hlt:i<n
  ·cases r with
   | nil=>simp at hlen;omega
   | cons x r=>
    have hx:x∈idL n:=h3.mem_iff.1 (by simp)
    have hsm:∀y∈s,y∈idL n:=fun y hy=>h3.mem_iff.1 (by simp [hy])
    have hnd:(s++x::r).Nodup:=by
     rw [h3.nodup_iff]
     refine List.pairwise_iff_getElem.2 fun a b ha hb hab=> ?_
     rw [zbx] at ha hb
     have e1:=List.getElem?_eq_getElem (l:=idL n) (i:=a) (by rw [zbx];exact ha)
     have e2:=List.getElem?_eq_getElem (l:=idL n) (i:=b) (by rw [zbx];exact hb)
     rw [z02 ha] at e1
     rw [z02 hb] at e2
     rw [<-Option.some.inj e1,<-Option.some.inj e2]
     omega
    have hxs:x∉s:=fun hc=>(List.nodup_append.1 hnd).2.2 x hc x (by simp) rfl
    rw [List.length_cons] at hlen
    repeat' ((conv=>whnf);first
    | refine Yz ?_)
    refine zad.to (zad.by g (fun u:InI=>u.p.length=u.j/\Ins lt s x u.p u.q)
     (fun u=>[(0,.ref ⟨0,14,0⟩ 0 n n),(1,I 0),(2,I n),(3,.fn f [] [.ptr ⟨0,1,0⟩ 0 0]),(8,I i),(9,I u.j)])
     (fun u=>[(⟨0,1,0⟩,.cells za6 [.d a0,.d a1,.d a2,.d a3,.d a4,.d a5]),(⟨0,2,0⟩,.row true zam 1 0 []),(⟨0,14,0⟩,.row true zam 1 n ((u.p++x::(u.q++r)).map DI))])
     (fun u=>u.j) (fun u hu jh=> ?_) ⟨i,s,[]⟩ ⟨h1,Ins.start s x⟩) rfl rfl
    obtain⟨j,p,q⟩:=u
    obtain⟨k1,k2⟩:=hu
    dsimp only at k1 k2 jh ⊢
    have hpq:=k2.eq
    have hpl:p.length+q.length=s.length:=by rw [<-hpq,List.length_append]
    have out:(p=[]\/∃p' y,p=p'++[y]/\lt x y=false)->(p++x::q).Pairwise (fun a b=>lt a b=true):=fun he=>k2.done t h2 hsm hx hxs he
    have hperm:(p++x::q++r).Perm (idL n):=by
     refine List.Perm.trans ?_ h3
     rw [<-hpq]
     simp only [List.append_assoc,List.cons_append]
     exact List.Perm.append_left p List.perm_middle.symm
    have ih:=ih ⟨i+1,p++x::q,r⟩
    dsimp only at ih
    rcases List.eq_nil_or_concat p with rfl|⟨p',y,rfl⟩
    ·have ih:=ih ⟨by simp at hpl ⊢;omega,out (.inl rfl),hperm⟩ (by omega)
     have hj0:j=0:=k1.symm
     subst hj0
     repeat' ((conv=>whnf);first
     | refine Yz ?_
      | (refine zad.to ih rfl rfl))
    ·rw [List.concat_eq_append] at *
     obtain⟨j,rfl⟩:∃m,j=m+1:=⟨j-1,by simp at k1;omega⟩
     have k3:p'.length=j:=by simpa using k1
     have hy:y∈idL n:=hsm y (by rw [<-hpq];simp)
     have jh:=jh ⟨j,p',y::q⟩
     dsimp only at jh
     obtain⟨L,hL⟩:∃L,L=(p'++[y])++x::(q++r):=⟨_,rfl⟩
     have hll:L.length=n:=by
      rw [hL]
      simp only [List.length_append,List.length_cons,List.length_nil] at hpl hlen ⊢
      omega
     have g1:=ygg (l:=L) (p:=p'++[y]) (x:=x) (r:=q++r) (k:=j+1) hL (by simp [k3]) (by omega)
     have g2:=ygg (l:=L) (p:=p') (x:=y) (r:=x::(q++r)) (k:=j) (by rw [hL];simp) (by simp [k3]) (by omega)
     have hsw:=yf5 p' (q++r) x y (i:=(0+((j+1:Nat):Int).toNat)*1) (j:=(0+(((j+1:Nat):Int)-1).toNat)*1) (by omega) (by omega)
     rw [show p'++y::x::(q++r)=L by rw [hL];simp] at hsw
     rw [<-hL]
     by_cases hc0:lt x y=true
     ·have jh:=jh ⟨k3,k2.step hc0⟩ (by omega)
      have e1:((j+1:Nat):Int)-1=(j:Int):=by omega
      repeat' ((conv=>whnf);first
      | refine Yz ?_
       | (refine zcj.intI0 (j+1) rfl (by omega) ?_;rw [g1])
       | (refine zcj.intI0 j (by omega) (by omega) ?_;rw [g2])
       | (refine hcmp x y L hx hy (fun c hc=> ?_))
       | (refine Cmp.tt (hc.2 hc0) ?_)
       | (refine zbk.mk ⟨rfl,by rw [zzy _ _ _ (by omega)];omega,rfl⟩ ?_)
       | (refine zad.to jh (by first |(rw [e1];done)|(rw [e1];rfl)) ?_))
      rw [hsw]
      rfl
     ·have hcf:lt x y=false:=by simpa using hc0
      have ih:=ih ⟨by simp only [List.length_append,List.length_cons,List.length_nil] at hpl ⊢;omega,out (.inr ⟨p',y,rfl,hcf⟩),hperm⟩ (by omega)
      rw [show (p'++[y])++x::q++r=L by rw [hL];simp] at ih
      repeat' ((conv=>whnf);first
      | refine Yz ?_
       | (refine zcj.intI0 (j+1) rfl (by omega) ?_;rw [g1])
       | (refine zcj.intI0 j (by omega) (by omega) ?_;rw [g2])
       | (refine hcmp x y L hx hy (fun c hc=> ?_))
       | (refine Cmp.ff (fun h=>hc0 (hc.1 h)) ?_)
       | (refine zad.to ih rfl rfl))
  ·have hr:r=[]:=List.length_eq_zero_iff.1 (by omega)
   subst hr
   rw [List.append_nil] at *
   have hs:=hK s ⟨h3,h2⟩
   repeat' ((conv=>whnf);first
   | refine Yz ?_
    | (exact hs))
theorem ynq {n:Nat} {lt:Int->Int->Bool} (t:Tot n lt) (hn:n<=12) (f:Nat) (a0 a1 a2 a3 a4 a5:D) (hcmp:∀(x y:Int) (l:List Int) {K:V->Mem->Prop},x∈idL n->y∈idL n->(∀c:Int,(c<0↔lt x y=true)->K (I c) [(⟨0,1,0⟩,.cells za6 [.d a0,.d a1,.d a2,.d a3,.d a4,.d a5]),(⟨0,2,0⟩,.row true zam 1 0 []),(⟨0,14,0⟩,.row true zam 1 n (l.map DI))])->In E 4 f [I x,I y,.ptr ⟨0,1,0⟩ 0 0] [(⟨0,1,0⟩,.cells za6 [.d a0,.d a1,.d a2,.d a3,.d a4,.d a5]),(⟨0,2,0⟩,.row true zam 1 0 []),(⟨0,14,0⟩,.row true zam 1 n (l.map DI))] K) {K:V->Mem->Prop} (hK:∀l,Srt n lt l->K (.tup []) [(⟨0,1,0⟩,.cells za6 [.d a0,.d a1,.d a2,.d a3,.d a4,.d a5]),(⟨0,2,0⟩,.row true zam 1 0 []),(⟨0,14,0⟩,.row true zam 1 n (l.map DI))]):
  In E 1 zbp [.ref ⟨0,14,0⟩ 0 n n,.fn f [] [.ptr ⟨0,1,0⟩ 0 0]] [(⟨0,1,0⟩,.cells za6 [.d a0,.d a1,.d a2,.d a3,.d a4,.d a5]),(⟨0,2,0⟩,.row true zam 1 0 []),(⟨0,14,0⟩,.row true zam 1 n ((idL n).map DI))] K:=by
 obtain⟨b,hb⟩:=yvh g n hn
 refine In.enter (f:=zbp) g.lim rfl rfl ?_
 repeat' ((conv=>whnf);first
 | refine Yz ?_
  | (apply zaf.of;assumption)
  | (refine Wr.u64 ?_)
  | (refine In.enter (f:=zb5) g.lim rfl rfl ?_)
  | (refine zad.step g.lim ?_)
  | (refine ytw g t hn f a0 a1 a2 a3 a4 a5 hcmp (fun l hl=> ?_))
  | (exact hK _ (by assumption)))
end
def yxd (l:List Clm) (i:Int):List UInt8:=((l[i.toNat]?).map (·.rq.nm)).getD []
def ltN (l:List Clm) (a b:Int):Bool:=zcp (yxd l a) (yxd l b)
theorem zzh {l:List Clm} {i:Int} (h:i.toNat<l.length):yxd l i=l[i.toNat].rq.nm:=by
 unfold yxd
 rw [List.getElem?_eq_getElem h]
 rfl
theorem ydv {l:List Clm} (h:(znr l).Nodup):Tot l.length (ltN l):=by
 refine⟨fun a=>zn9 _,fun a b c _ _ _=>zu4,fun a b ha hb hab=>z0i fun e=> ?_⟩
 have h1:=zhw.1 ha
 have h2:=zhw.1 hb
 have ha':a.toNat<l.length:=by omega
 have hb':b.toNat<l.length:=by omega
 rw [zzh ha',zzh hb'] at e
 have hw:=List.pairwise_iff_getElem.1 h
 have hla:a.toNat<(znr l).length:=by simp [znr];omega
 have hlb:b.toNat<(znr l).length:=by simp [znr];omega
 rcases Nat.lt_trichotomy a.toNat b.toNat with hh|hh|hh
 ·exact hw _ _ hla hlb hh (by simp [znr,e])
 ·omega
 ·exact hw _ _ hlb hla hh (by simp [znr,e])
def z3m (key:Int) (l:List Clm):List Int:=(idL l.length).map fun i=>(zhq key l.length).getD (zqc l.length (ltN l) i) 0
theorem zrv (key:Int) (l:List Clm):(z3m key l).length=l.length:=by simp [z3m,zbx]
theorem z3s (key:Int) (n:Nat):(zhq key n).length=n:=by
 unfold zhq
 rw [zxe,zbx]
structure Lts (n:Nat) (s d:List Int) (k:Nat) (T:List Int):Prop where
 len:T.length=n
 got:∀j,j<k->T.getD (s.getD j 0).toNat 0=d.getD j 0
theorem Lts.step {n:Nat} {lt:Int->Int->Bool} {s d T:List Int} {k:Nat} (t:Tot n lt) (hs:Srt n lt s) (h:Lts n s d k T) (hk:k<n):Lts n s d (k+1) (T.set (s.getD k 0).toNat (d.getD k 0)):=by
 have hl:=hs.len
 have hg:∀j (hj:j<n),s.getD j 0=s[j]'(by omega):=fun j hj=>by simp [List.getD,show j<s.length by omega]
 have hm:∀j,j<n->0<=s.getD j 0/\s.getD j 0<n:=fun j hj=>by
  rw [hg j hj]
  exact zhw.1 (hs.mem (by omega))
 refine⟨by rw [List.length_set];exact h.len,fun j hj=> ?_⟩
 have h1:=hm k hk
 have h2:=hm j (by omega)
 rw [zj6 _ _ _ _ (by rw [h.len];omega)]
 by_cases e:j=k
 ·subst e
  rw [if_pos rfl]
 ·have hne:s.getD j 0≠s.getD k 0:=fun hc=>by
   rw [hg j (by omega),hg k hk] at hc
   have:=List.pairwise_iff_getElem.1 hs.up j k (by omega) (by omega) (by omega)
   rw [hc,t.irr] at this
   cases this
  rw [if_neg (by omega)]
  exact h.got j (by omega)
theorem Lts.done {key:Int} {l:List Clm} {s T:List Int} (hn:(znr l).Nodup) (hs:Srt l.length (ltN l) s) (h:Lts l.length s (zhq key l.length) l.length T):T=z3m key l:=by
 have t:=ydv hn
 refine List.ext_getElem (by rw [h.len,zrv]) fun i h1 h2=> ?_
 have hi:i<l.length:=by rw [h.len] at h1;exact h1
 have hmem:(i:Int)∈idL l.length:=zhw.2 (by omega)
 have hu:=hs.uniq t hmem
 have hp:=(List.getElem?_eq_some_iff.1 hu).1
 rw [hs.len] at hp
 have hg:=h.got _ hp
 have e0:s.getD (zqc l.length (ltN l) i) 0=i:=by rw [List.getD,hu];rfl
 rw [e0,Int.toNat_natCast,List.getD,List.getElem?_eq_getElem h1] at hg
 refine Eq.trans hg ?_
 simp [z3m,idL]
section
variable {E : Oracle} (g : Good E)
include g
theorem zdo.indices {n:Nat} {cx:Cx} {slot:Nat} {m:Mem} {K:V->Mem->Prop} (hn:n<=1000) (hf:Go.Evl.freeK cx.lv slot m=0) (h:K (.ref ⟨cx.lv,slot,0⟩ 0 n n) (m++[(⟨cx.lv,slot,0⟩,.row true zam 1 n ((idL n).map DI))])):zdo E zdg [I n] cx slot m K:=by
 obtain⟨v,m',h1,rfl,rfl⟩:=(z47 g n hn).got
 refine⟨_,_,(.ref ⟨cx.lv,slot,0⟩ 0 n n,m++[(⟨cx.lv,slot,0⟩,.row true zam 1 n ((idL n).map DI))]),h1,?_,h⟩
 have:=z4z (cx:=cx) (slot:=slot) (lo:=0) (old:=m) (o:=⟨0,3,0⟩) (off:=0) (l:=n) (top:=n) (m:=[(⟨0,2,0⟩,.row true zam 1 0 []),(⟨0,3,0⟩,.row true zam 1 n ((idL n).map DI))]) (Nat.zero_le _) rfl
 rw [hf] at this
 exact this
theorem ypw (l:List Clm) (x y:Int) (s:List Int) {K:V->Mem->Prop} (hx:x∈idL l.length) (hy:y∈idL l.length)
  (hK:∀c:Int,(c<0↔ltN l x y=true)->K (I c) [(⟨0,3,0⟩,.cells zbh [LM l]),(⟨0,4,0⟩,.row true zam 1 0 []),(⟨0,13,0⟩,.row true zam 1 l.length (s.map DI))]):
  In E 4 zf5 [I x,I y,.ptr ⟨0,3,0⟩ 0 0] [(⟨0,3,0⟩,.cells zbh [LM l]),(⟨0,4,0⟩,.row true zam 1 0 []),(⟨0,13,0⟩,.row true zam 1 l.length (s.map DI))] K:=by
 have h1:=zhw.1 hx
 have h2:=zhw.1 hy
 have hx':x.toNat<l.length:=by omega
 have hy':y.toNat<l.length:=by omega
 have hc:=yvw g l[x.toNat].rq.nm l[y.toNat].rq.nm
 have hk:=hK (ywq l[x.toNat].rq.nm l[y.toNat].rq.nm) (by unfold ltN;rw [zzh hx',zzh hy'];exact yru _ _)
 refine In.enter (f:=zf5) g.lim rfl rfl ?_
 repeat' ((conv=>whnf);first
 | refine Yz ?_
  | (refine zcj.rec00 Clm.cells_length x.toNat (by omega) hx' rfl ?_)
  | (refine zcj.rec00 Clm.cells_length y.toNat (by omega) hy' rfl ?_)
  | (apply zaf.of;assumption)
  | (exact hk))
theorem yvb (key:Int) (l:List Clm) (hk:1<=key/\key<=2147483646) (hl:l.length<=12) (hn:(znr l).Nodup):Fc E zll [I key,LM l] (LI (z3m key l)):=by
 refine g.fn rfl rfl ?_
 have t:=ydv hn
 have hd:=ywz g key l.length hk (by omega)
 have hdl:=z3s key l.length
 have hsort:=fun {K}=>yqc g (K:=K) t hl zf5 (.list l.length (l.flatMap Clm.cells)) (fun x y s K hx hy hK=>ypw g l x y s hx hy hK)
 repeat' ((conv=>whnf);first
 | refine Yz ?_
  | (refine zdo.indices g (by omega) rfl ?_)
  | (refine hsort fun s hs=> ?_)
  | (refine zaf.of hd ?_)
  | (refine zbk.mk ⟨by omega,rfl,by omega,by omega⟩ ?_))
 have hsl:=hs.len
 refine zad.to (zad.by g (fun u:Nat×List Int=>u.1<=l.length/\Lts l.length s (zhq key l.length) u.1 u.2)
  (fun u=>[(6,LI (zhq key l.length)),(8,.ref ⟨0,26,0⟩ 0 l.length l.length),(27,.ref ⟨0,13,0⟩ 0 l.length l.length),(28,I l.length),(29,I u.1)])
  (fun u=>[(⟨0,3,0⟩,.cells zbh [LM l]),(⟨0,4,0⟩,.row true zam 1 0 []),(⟨0,13,0⟩,.row true zam 1 l.length (s.map DI)),(⟨0,26,0⟩,.row true zam 1 l.length (u.2.map DI))])
  (fun u=>l.length-u.1) (fun u hu ih=> ?_) (0,List.replicate l.length 0) ⟨Nat.zero_le _,by simp,fun j hj=>absurd hj (Nat.not_lt_zero _)⟩) rfl ?_
 ·obtain⟨k,T⟩:=u
  obtain⟨hk1,hT⟩:=hu
  dsimp only at hk1 hT ih ⊢
  have hTl:=hT.len
  by_cases hlt:k<l.length
  ·have ih:=ih (k+1,T.set (s.getD k 0).toNat ((zhq key l.length).getD k 0)) ⟨hlt,hT.step t hs hlt⟩ (by simp only;omega)
   dsimp only at ih
   have hks:k<s.length:=by omega
   have hkd:k<(zhq key l.length).length:=by omega
   have hm:=zhw.1 (hs.mem hks)
   have e1:s.getD k 0=s[k]:=by simp [List.getD,hks]
   have e2:(zhq key l.length).getD k 0=(zhq key l.length)[k]:=by simp [List.getD,hkd]
   rw [e1,e2] at ih
   have hp:=zlz T s[k].toNat (zhq key l.length)[k] (by omega)
   generalize zhq key l.length=d at *
   repeat' ((conv=>whnf);first
   | refine Yz ?_
    | (refine zcj.intI0 k rfl hks ?_)
    | (refine zcj.intI k rfl hkd ?_)
    | (refine zad.to ih rfl ?_))
   simp only [Nat.zero_add,Nat.mul_one]
   rw [hp]
  ·obtain rfl:k=l.length:=by omega
   have he:=hT.done hn hs
   subst he
   have hll:=zrv key l
   repeat' ((conv=>whnf);first
   | refine Yz ?_
    | (refine Ret.mk ?_))
   rw [if_pos ⟨rfl,rfl⟩]
   show V.d (.list l.length _)=V.d (.list (z3m key l).length _)
   rw [hll]
 ·simp
end
end Go.Proofs.YthmfkkpmjcbgeabGreatDoor.Co
namespace Go.Proofs.YthmfkkpmjcbgeabGreatDoor.Co
def ycn:Bool->List Int->List Int->Option (Int×List Int×List Int)
 | true,a::A,C=>some (a,A,C)
 | true,[],c::C=>some (c,[],C)
 | false,A,c::C=>some (c,A,C)
 | false,a::A,[]=>some (a,A,[])
 | _,[],[]=>none
def ym5 (m fo:Int):Nat->Nat->List Int->List Int->List Int
 | 0,_,_,_=>[]
 | n+1,i,A,C=>match ycn (decide ((i:Int)%m<fo)) A C with
  | some (x,A',C')=>x::ym5 m fo n (i+1) A' C'
  | none=>[]
def zm7 (v:Bool):Nat->List Bool->List Int
 | _,[]=>[]
 | k,b::r=>if b=v then(k:Int)::zm7 v (k+1) r else zm7 v (k+1) r
def z2f (m fo:Int) (l:List Bool):List Int:=ym5 m fo l.length 0 (zm7 true 0 l) (zm7 false 0 l)
theorem z1y (v b:Bool):∀(k:Nat) (l:List Bool),zm7 v k (l++[b])=zm7 v k l++(if b=v then [((k+l.length:Nat):Int)] else [])
 | k,[]=>by simp [zm7]
 | k,x::r=>by
  simp only [List.cons_append,zm7]
  rw [z1y v b (k+1) r,List.length_cons,show k+1+r.length=k+(r.length+1) by omega]
  split<;>rfl
theorem z9v (v:Bool) {l:List Bool} {k:Nat} (h:k<l.length):zm7 v 0 (l.take (k+1))=zm7 v 0 (l.take k)++(if l[k]=v then [(k:Int)] else []):=by
 rw [List.take_add_one,List.getElem?_eq_getElem h]
 show zm7 v 0 (l.take k++[l[k]])=_
 rw [z1y,List.length_take,Nat.min_eq_left (by omega),Nat.zero_add]
theorem zgd:∀(k:Nat) (l:List Bool),(zm7 true k l).length+(zm7 false k l).length=l.length
 | _,[]=>rfl
 | k,b::r=>by
  have:=zgd (k+1) r
  cases b<;>simp only [zm7,reduceIte,reduceCtorEq,List.length_cons]<;>omega
theorem yj1 (v:Bool) (k:Nat) (l:List Bool):(zm7 v k l).length<=l.length:=by
 have:=zgd k l
 cases v<;>omega
theorem z9k {w:Bool} {A C A' C':List Int} {x:Int} (h:ycn w A C=some (x,A',C')):A'.length+C'.length+1=A.length+C.length:=by
 cases w<;>cases A<;>cases C<;>simp [ycn] at h<;>obtain⟨rfl,rfl,rfl⟩:=h<;>simp<;>omega
theorem z4p {w:Bool} {A C:List Int} (h:0<A.length+C.length):∃x A' C',ycn w A C=some (x,A',C'):=by
 cases w<;>cases A<;>cases C<;>simp [ycn] at h ⊢
end Go.Proofs.YthmfkkpmjcbgeabGreatDoor.Co
namespace Go.Proofs.YthmfkkpmjcbgeabGreatDoor.Co
open Go Go.Evl
set_option maxHeartbeats 32000000
set_option maxRecDepth 100000
theorem z05 {w:Bool} {A C A' C':List Int} {x:Int} (h:ycn w A C=some (x,A',C')):(A=x::A'/\C'=C/\(w=true\/C=[]))\/(C=x::C'/\A'=A/\(w=false\/A=[])):=by
 cases w<;>cases A<;>cases C<;>simp [ycn] at h<;>obtain⟨rfl,rfl,rfl⟩:=h<;>simp
theorem zng (m fo:Int):∀(n i:Nat) (A C:List Int),A.length+C.length=n->(ym5 m fo n i A C).Perm (A++C)
 | 0,i,A,C,h=>by
  have h1:A=[]:=List.length_eq_zero_iff.1 (by omega)
  have h2:C=[]:=List.length_eq_zero_iff.1 (by omega)
  subst h1
  subst h2
  exact .refl _
 | n+1,i,A,C,h=>by
  obtain⟨x,A',C',hp⟩:=z4p (w:=decide ((i:Int)%m<fo)) (A:=A) (C:=C) (by omega)
  have hl:=z9k hp
  have ih:=zng m fo n (i+1) A' C' (by omega)
  rw [ym5,hp]
  rcases z05 hp with⟨rfl,rfl,_⟩|⟨rfl,rfl,_⟩
  ·exact ih.cons x
  ·exact(ih.cons x).trans List.perm_middle.symm
theorem ybe (m fo:Int) {n i:Nat} {A C:List Int} (h:A.length+C.length=n):(ym5 m fo n i A C).length=n:=by
 rw [(zng m fo n i A C h).length_eq,List.length_append,h]
theorem zk3 {v:Bool} {x:Int}:∀ {k:Nat} {l:List Bool},x∈zm7 v k l->∃i:Nat,x=((k+i:Nat):Int)/\l[i]? =some v
 | k,[],h=>by simp [zm7] at h
 | k,b::r,h=>by
  have tl:x∈zm7 v (k+1) r->∃i:Nat,x=((k+i:Nat):Int)/\(b::r)[i]? =some v:=by
   intro h
   obtain⟨i,rfl,h1⟩:=zk3 h
   exact⟨i+1,by omega,by simpa using h1⟩
  simp only [zm7] at h
  split at h
  ·rename_i hc
   subst hc
   rcases List.mem_cons.1 h with rfl|h
   ·exact⟨0,by simp,rfl⟩
   ·exact tl h
  ·exact tl h
theorem z09 (v:Bool):∀(k:Nat) (l:List Bool),(zm7 v k l).Pairwise (·<·)
 | _,[]=> .nil
 | k,b::r=>by
  have ih:=z09 v (k+1) r
  simp only [zm7]
  split
  ·refine .cons (fun x hx=> ?_) ih
   obtain⟨i,rfl,_⟩:=zk3 hx
   omega
  ·exact ih
theorem z2m (m fo:Int) (l:List Bool):(z2f m fo l).length=l.length:=ybe m fo (zgd 0 l)
theorem yf6 (m fo:Int) (l:List Bool):Ord l.length (z2f m fo l):=by
 have hp:(z2f m fo l).Perm (zm7 true 0 l++zm7 false 0 l):=zng m fo _ _ _ _ (zgd 0 l)
 have hl:=z2m m fo l
 have hn:(z2f m fo l).Nodup:=by
  rw [hp.nodup_iff,List.nodup_append]
  refine⟨(z09 true 0 l).imp fun h=>by omega,(z09 false 0 l).imp fun h=>by omega,fun a ha b hb hab=> ?_⟩
  obtain⟨i,h1,h2⟩:=zk3 ha
  obtain⟨j,h3,h4⟩:=zk3 hb
  have:i=j:=by omega
  subst this
  rw [h2] at h4
  cases h4
 have hg:∀k,k<l.length->(z2f m fo l).getD k 0∈z2f m fo l:=fun k hk=>by
  have hk':k<(z2f m fo l).length:=by omega
  simp [List.getD,hk']
 refine⟨hl,fun k hk=> ?_,fun i j hi hj e=> ?_⟩
 ·have hm:=hp.mem_iff.1 (hg k hk)
  rcases List.mem_append.1 hm with h|h
  ·obtain⟨i,h1,h2⟩:=zk3 h
   have:=(List.getElem?_eq_some_iff.1 h2).1
   omega
  ·obtain⟨i,h1,h2⟩:=zk3 h
   have:=(List.getElem?_eq_some_iff.1 h2).1
   omega
 ·have hi':i<(z2f m fo l).length:=by omega
  have hj':j<(z2f m fo l).length:=by omega
  simp only [List.getD,List.getElem?_eq_getElem hi',List.getElem?_eq_getElem hj',Option.getD_some] at e
  have hw:=List.pairwise_iff_getElem.1 hn
  rcases Nat.lt_trichotomy i j with h|h|h
  ·exact absurd e (hw i j hi' hj' h)
  ·exact h
  ·exact absurd e.symm (hw j i hj' hi' h)
structure Quo (l:List Bool) (tot:Nat) (i:Nat) (A C:List Int) (got due la lc:Int):Prop where
 hg:got+A.length=tot
 hc:(i:Int)-got+C.length+tot=l.length
 lo:got>=tot\/got>=due
 hi:got<=due\/got<=i+tot-l.length
 ua:A.Pairwise (·<·)
 uc:C.Pairwise (·<·)
 fa:∀x∈A,la<=x
 fc:∀x∈C,lc<=x
 na:∀x∈A,∃k:Nat,x=k/\l[k]? =some true
 nc:∀x∈C,∃k:Nat,x=k/\l[k]? =some false
 du:0<=due/\due<=i
 tl:tot<=l.length
theorem Quo.zero (l:List Bool):Quo l (zm7 true 0 l).length 0 (zm7 true 0 l) (zm7 false 0 l) 0 0 (-1) (-1):=by
 have h:=zgd 0 l
 refine⟨by omega,by omega,.inr (by omega),.inl (by omega),z09 _ _ _,z09 _ _ _,fun x hx=> ?_,fun x hx=> ?_,fun x hx=> ?_,fun x hx=> ?_,by omega,by omega⟩
 all_goals obtain⟨i,h1,h2⟩:=zk3 hx
 ·omega
 ·omega
 ·exact⟨i,by omega,h2⟩
 ·exact⟨i,by omega,h2⟩
theorem Quo.new {l:List Bool} {tot i:Nat} {C:List Int} {x:Int} {A:List Int} {got due la lc:Int} {w:Bool} (h:Quo l tot i (x::A) C got due la lc) (hw:w=true\/C=[]):Quo l tot (i+1) A C (got+1) (due+if w then 1 else 0) x lc:=by
 obtain⟨hg,hc,lo,hi,ua,uc,fa,fc,na,nc,du,tl⟩:=h
 rw [List.length_cons] at hg
 have h1:=List.pairwise_cons.1 ua
 refine⟨by omega,by omega,?_,?_,h1.2,uc,fun y hy=>by have:=h1.1 y hy;omega,fc,fun y hy=>na y (List.mem_cons_of_mem _ hy),nc,by split<;>omega,tl⟩
 ·cases w
  ·rcases lo with lo|lo
   ·exact .inl (by omega)
   ·exact .inr (by simp;omega)
  ·rcases lo with lo|lo
   ·exact .inl (by omega)
   ·exact .inr (by simp;omega)
 ·rcases hw with rfl|rfl
  ·rcases hi with hi|hi
   ·exact .inl (by simp;omega)
   ·exact .inr (by omega)
  ·rw [List.length_nil] at hc
   exact .inr (by omega)
theorem Quo.old {l:List Bool} {tot i:Nat} {C:List Int} {x:Int} {A:List Int} {got due la lc:Int} {w:Bool} (h:Quo l tot i A (x::C) got due la lc) (hw:w=false\/A=[]):Quo l tot (i+1) A C got (due+if w then 1 else 0) la x:=by
 obtain⟨hg,hc,lo,hi,ua,uc,fa,fc,na,nc,du,tl⟩:=h
 rw [List.length_cons] at hc
 have h1:=List.pairwise_cons.1 uc
 refine⟨by omega,by omega,?_,?_,ua,h1.2,fa,fun y hy=>by have:=h1.1 y hy;omega,na,fun y hy=>nc y (List.mem_cons_of_mem _ hy),by split<;>omega,tl⟩
 ·rcases hw with rfl|rfl
  ·rcases lo with lo|lo
   ·exact .inl (by omega)
   ·exact .inr (by simp;omega)
  ·rw [List.length_nil] at hg
   exact .inl (by omega)
 ·rcases hi with hi|hi
  ·exact .inl (by split<;>omega)
  ·exact .inr (by omega)
abbrev LB (l:List Bool):V:= .d (.list l.length (l.map D.bool))
theorem zcj.boolI {l:List Bool} {i:Int} {K:D->Prop} (k:Nat) (hi:i=k) (h:k<l.length) (hk:K (.bool l[k])):zcj (l.map D.bool) (i.toNat*1) K:=by
 subst hi
 refine⟨⟨_,?_,hk⟩⟩
 simp [h]
def zox (t:Bool) (o:Evl.Id) (A0 A:List Int):V:=if t=true then LI A else .ref o 0 A0.length A0.length
theorem zf2 (l:List Int):List.take l.length (l.map DI)=l.map DI:=List.take_of_length_le (by simp)
structure ShS where
 i:Nat
 (A C:List Int)
 (ta tc:Bool)
 out:List Int
section
variable {E : Oracle} (g : Good E)
include g
theorem z7f (m fo:Int) (l:List Bool) (hm:1<=m/\m<=100) (hl:l.length<=64):Fc E zdp [I m,I fo,LB l] (LI (z2f m fo l)):=by
 refine g.fn rfl rfl ?_
 have b0:Fc E zb1 [B false] (I 0):=zxn g false
 have b1:Fc E zb1 [B true] (I 1):=zxn g true
 have hAC:=zgd 0 l
 unfold z2f
 repeat' ((conv=>whnf);first
 | refine Yz ?_)
 refine zad.to (zad.up g (fun k=>[(0,I m),(1,I fo),(2,LB l),(7,.ptr ⟨0,7,2⟩ 0 0),(13,LB l),(14,I l.length),(15,I k)])
  (fun k=>[(⟨0,6,0⟩,.row false zam 1 0 []),(⟨0,7,0⟩,.row false zam 1 (zm7 true 0 (l.take k)).length ((zm7 true 0 (l.take k)).map DI)),(⟨0,7,1⟩,.row false zam 1 (zm7 false 0 (l.take k)).length ((zm7 false 0 (l.take k)).map DI)),(⟨0,7,2⟩,.cells zz4 [.ref ⟨0,7,0⟩ 0 (zm7 true 0 (l.take k)).length (zm7 true 0 (l.take k)).length,.ref ⟨0,7,1⟩ 0 (zm7 false 0 (l.take k)).length (zm7 false 0 (l.take k)).length])])
  l.length (fun k hk ih=> ?_) 0 (Nat.zero_le _)) rfl rfl
 have l1:=yj1 true 0 (l.take k)
 have l2:=yj1 false 0 (l.take k)
 have l3:(l.take k).length=k:=by simp;omega
 by_cases hlt:k<l.length
 ·have ih:=ih hlt
  rw [z9v true hlt,z9v false hlt] at ih
  generalize hx:l[k]=x at *
  generalize zm7 true 0 (l.take k)=A at *
  generalize zm7 false 0 (l.take k)=C at *
  cases x
  ·simp only [reduceCtorEq,if_false,if_true,List.append_nil,List.length_append,List.length_cons,List.length_nil,List.map_append,List.map_cons,List.map_nil] at ih
   repeat' ((conv=>whnf);first
   | refine Yz ?_
    | (refine zcj.boolI k rfl hlt ?_;rw [hx])
    | (apply zaf.of;assumption)
    | (refine zbk.mk (by simp only [List.length_cons,List.length_nil,List.length_map];omega) ?_)
    | (refine zad.to ih rfl rfl))
  ·simp only [reduceCtorEq,if_false,if_true,List.append_nil,List.length_append,List.length_cons,List.length_nil,List.map_append,List.map_cons,List.map_nil] at ih
   repeat' ((conv=>whnf);first
   | refine Yz ?_
    | (refine zcj.boolI k rfl hlt ?_;rw [hx])
    | (apply zaf.of;assumption)
    | (refine zbk.mk (by simp only [List.length_cons,List.length_nil,List.length_map];omega) ?_)
    | (refine zad.to ih rfl rfl))
 ·have hk':k=l.length:=by omega
  subst hk'
  rw [List.take_length] at *
  generalize hA0:zm7 true 0 l=A0 at *
  generalize hC0:zm7 false 0 l=C0 at *
  generalize hR:ym5 m fo l.length 0 A0 C0=R
  repeat' ((conv=>whnf);first
  | refine Yz ?_)
  refine zad.to (zad.by g (fun s:ShS=>s.out++ym5 m fo (l.length-s.i) s.i s.A s.C=R/\s.A.length+s.C.length+s.i=l.length/\s.out.length=s.i/\(s.ta=false->s.A=A0)/\(s.tc=false->s.C=C0))
   (fun s=>[(0,I m),(1,I fo),(7,.ptr ⟨0,7,2⟩ 0 0),(10,.ref ⟨0,10,0⟩ 0 s.out.length s.out.length),(34,I l.length),(35,I s.i)])
   (fun s=>[(⟨0,6,0⟩,.row false zam 1 0 []),(⟨0,7,0⟩,.row false zam 1 A0.length (A0.map DI)),(⟨0,7,1⟩,.row false zam 1 C0.length (C0.map DI)),(⟨0,7,2⟩,.cells zz4 [zox s.ta ⟨0,7,0⟩ A0 s.A,zox s.tc ⟨0,7,1⟩ C0 s.C]),(⟨0,10,0⟩,.row false zam 1 s.out.length (s.out.map DI))])
   (fun s=>l.length-s.i) (fun s hs ih=> ?_) ⟨0,A0,C0,false,false,[]⟩ ⟨by simpa using hR,by simpa using hAC,rfl,fun _=>rfl,fun _=>rfl⟩) rfl rfl
  obtain⟨i,A,C,ta,tc,out⟩:=s
  obtain⟨h1,h2,h3,h4,h5⟩:=hs
  dsimp only at h1 h2 h3 h4 h5 ih ⊢
  by_cases hlt:i<l.length
  ·obtain⟨x,A',C',hp⟩:=z4p (w:=decide ((i:Int)%m<fo)) (A:=A) (C:=C) (by omega)
   have hn:l.length-i=(l.length-(i+1))+1:=by omega
   rw [hn,ym5,hp] at h1
   have hq:=z9k hp
   have ihn:=ih ⟨i+1,A',C',true,tc,out++[x]⟩
   have iho:=ih ⟨i+1,A',C',ta,true,out++[x]⟩
   dsimp only at ihn iho
   have hw:=Int.emod_nonneg (i:Int) (show m≠0 by omega)
   rcases z05 hp with⟨rfl,rfl,hc⟩|⟨rfl,rfl,hc⟩
   ·have ihn:=ihn ⟨by simpa using h1,by omega,by simp [h3],by simp,h5⟩ (by omega)
    simp only [List.length_append,List.length_cons,List.length_nil,List.map_append,List.map_cons,List.map_nil] at ihn
    cases ta
    ·have h4:=h4 rfl
     subst h4
     cases hwd:decide ((i:Int)%m<fo)
     ·have hwf:=of_decide_eq_false hwd
      rw [hwd] at hc
      have hc:C'=[]:=by simpa using hc
      subst hc
      cases tc
      ·have h5:=h5 rfl
       subst h5
       repeat' ((conv=>whnf);first
       | refine Yz ?_
        | (apply zaf.of;assumption)
        | (refine zbk.mk (by simp only [List.length_cons,List.length_nil,List.length_map];omega) ?_)
        | (refine zbe.at 1 (A'.length+1) rfl rfl ⟨by omega,by simp⟩ ?_)
        | (refine zad.to ihn rfl ?_))
       simp [zox,win,zf2]
      ·repeat' ((conv=>whnf);first
      | refine Yz ?_
        | (apply zaf.of;assumption)
        | (refine zbk.mk (by simp only [List.length_cons,List.length_nil,List.length_map];omega) ?_)
        | (refine zbe.at 1 (A'.length+1) rfl rfl ⟨by omega,by simp⟩ ?_)
        | (refine zad.to ihn rfl ?_))
       simp [zox,win,zf2]
     ·have hwf:=of_decide_eq_true hwd
      cases tc
      ·have h5:=h5 rfl
       subst h5
       repeat' ((conv=>whnf);first
       | refine Yz ?_
        | (apply zaf.of;assumption)
        | (refine zbk.mk (by simp only [List.length_cons,List.length_nil,List.length_map];omega) ?_)
        | (refine zbe.at 1 (A'.length+1) rfl rfl ⟨by omega,by simp⟩ ?_)
        | (refine zad.to ihn rfl ?_))
       simp [zox,win,zf2]
      ·repeat' ((conv=>whnf);first
      | refine Yz ?_
        | (apply zaf.of;assumption)
        | (refine zbk.mk (by simp only [List.length_cons,List.length_nil,List.length_map];omega) ?_)
        | (refine zbe.at 1 (A'.length+1) rfl rfl ⟨by omega,by simp⟩ ?_)
        | (refine zad.to ihn rfl ?_))
       simp [zox,win,zf2]
    ·cases hwd:decide ((i:Int)%m<fo)
     ·have hwf:=of_decide_eq_false hwd
      rw [hwd] at hc
      have hc:C'=[]:=by simpa using hc
      subst hc
      cases tc
      ·have h5:=h5 rfl
       subst h5
       repeat' ((conv=>whnf);first
       | refine Yz ?_
        | (apply zaf.of;assumption)
        | (refine zbk.mk (by simp only [List.length_cons,List.length_nil,List.length_map];omega) ?_)
        | (refine zbe.at 1 (A'.length+1) rfl rfl ⟨by omega,by simp⟩ ?_)
        | (refine zad.to ihn rfl ?_))
       simp [zox,win,zf2]
      ·repeat' ((conv=>whnf);first
      | refine Yz ?_
        | (apply zaf.of;assumption)
        | (refine zbk.mk (by simp only [List.length_cons,List.length_nil,List.length_map];omega) ?_)
        | (refine zbe.at 1 (A'.length+1) rfl rfl ⟨by omega,by simp⟩ ?_)
        | (refine zad.to ihn rfl ?_))
       simp [zox,win,zf2]
     ·have hwf:=of_decide_eq_true hwd
      cases tc
      ·have h5:=h5 rfl
       subst h5
       repeat' ((conv=>whnf);first
       | refine Yz ?_
        | (apply zaf.of;assumption)
        | (refine zbk.mk (by simp only [List.length_cons,List.length_nil,List.length_map];omega) ?_)
        | (refine zbe.at 1 (A'.length+1) rfl rfl ⟨by omega,by simp⟩ ?_)
        | (refine zad.to ihn rfl ?_))
       simp [zox,win,zf2]
      ·repeat' ((conv=>whnf);first
      | refine Yz ?_
        | (apply zaf.of;assumption)
        | (refine zbk.mk (by simp only [List.length_cons,List.length_nil,List.length_map];omega) ?_)
        | (refine zbe.at 1 (A'.length+1) rfl rfl ⟨by omega,by simp⟩ ?_)
        | (refine zad.to ihn rfl ?_))
       simp [zox,win,zf2]
   ·have iho:=iho ⟨by simpa using h1,by omega,by simp [h3],h4,by simp⟩ (by omega)
    simp only [List.length_append,List.length_cons,List.length_nil,List.map_append,List.map_cons,List.map_nil] at iho
    cases tc
    ·have h5:=h5 rfl
     subst h5
     cases hwd:decide ((i:Int)%m<fo)
     ·have hwf:=of_decide_eq_false hwd
      cases ta
      ·have h4:=h4 rfl
       subst h4
       repeat' ((conv=>whnf);first
       | refine Yz ?_
        | (apply zaf.of;assumption)
        | (refine zbk.mk (by simp only [List.length_cons,List.length_nil,List.length_map];omega) ?_)
        | (refine zbe.at 1 (C'.length+1) rfl rfl ⟨by omega,by simp⟩ ?_)
        | (refine zad.to iho rfl ?_))
       simp [zox,win,zf2]
      ·repeat' ((conv=>whnf);first
      | refine Yz ?_
        | (apply zaf.of;assumption)
        | (refine zbk.mk (by simp only [List.length_cons,List.length_nil,List.length_map];omega) ?_)
        | (refine zbe.at 1 (C'.length+1) rfl rfl ⟨by omega,by simp⟩ ?_)
        | (refine zad.to iho rfl ?_))
       simp [zox,win,zf2]
     ·have hwf:=of_decide_eq_true hwd
      rw [hwd] at hc
      have hc:A'=[]:=by simpa using hc
      subst hc
      cases ta
      ·have h4:=h4 rfl
       subst h4
       repeat' ((conv=>whnf);first
       | refine Yz ?_
        | (apply zaf.of;assumption)
        | (refine zbk.mk (by simp only [List.length_cons,List.length_nil,List.length_map];omega) ?_)
        | (refine zbe.at 1 (C'.length+1) rfl rfl ⟨by omega,by simp⟩ ?_)
        | (refine zad.to iho rfl ?_))
       simp [zox,win,zf2]
      ·repeat' ((conv=>whnf);first
      | refine Yz ?_
        | (apply zaf.of;assumption)
        | (refine zbk.mk (by simp only [List.length_cons,List.length_nil,List.length_map];omega) ?_)
        | (refine zbe.at 1 (C'.length+1) rfl rfl ⟨by omega,by simp⟩ ?_)
        | (refine zad.to iho rfl ?_))
       simp [zox,win,zf2]
    ·cases hwd:decide ((i:Int)%m<fo)
     ·have hwf:=of_decide_eq_false hwd
      cases ta
      ·have h4:=h4 rfl
       subst h4
       repeat' ((conv=>whnf);first
       | refine Yz ?_
        | (apply zaf.of;assumption)
        | (refine zbk.mk (by simp only [List.length_cons,List.length_nil,List.length_map];omega) ?_)
        | (refine zbe.at 1 (C'.length+1) rfl rfl ⟨by omega,by simp⟩ ?_)
        | (refine zad.to iho rfl ?_))
       simp [zox,win,zf2]
      ·repeat' ((conv=>whnf);first
      | refine Yz ?_
        | (apply zaf.of;assumption)
        | (refine zbk.mk (by simp only [List.length_cons,List.length_nil,List.length_map];omega) ?_)
        | (refine zbe.at 1 (C'.length+1) rfl rfl ⟨by omega,by simp⟩ ?_)
        | (refine zad.to iho rfl ?_))
       simp [zox,win,zf2]
     ·have hwf:=of_decide_eq_true hwd
      rw [hwd] at hc
      have hc:A'=[]:=by simpa using hc
      subst hc
      cases ta
      ·have h4:=h4 rfl
       subst h4
       repeat' ((conv=>whnf);first
       | refine Yz ?_
        | (apply zaf.of;assumption)
        | (refine zbk.mk (by simp only [List.length_cons,List.length_nil,List.length_map];omega) ?_)
        | (refine zbe.at 1 (C'.length+1) rfl rfl ⟨by omega,by simp⟩ ?_)
        | (refine zad.to iho rfl ?_))
       simp [zox,win,zf2]
      ·repeat' ((conv=>whnf);first
      | refine Yz ?_
        | (apply zaf.of;assumption)
        | (refine zbk.mk (by simp only [List.length_cons,List.length_nil,List.length_map];omega) ?_)
        | (refine zbe.at 1 (C'.length+1) rfl rfl ⟨by omega,by simp⟩ ?_)
        | (refine zad.to iho rfl ?_))
       simp [zox,win,zf2]
  ·have e:l.length-i=0:=by omega
   rw [e,ym5,List.append_nil] at h1
   subst h1
   repeat' ((conv=>whnf);first
   | refine Yz ?_
    | (refine Ret.mk ?_))
   rw [if_pos ⟨rfl,rfl⟩]
end
def dcF (f h:List UInt8->Int):List Kyt->Int×List UInt8
 | []=>(0,[])
 | k::r=>if f k.fa=h k.fa then dcF f h r else(if(decide (f k.fa<h k.fa) !=k.dn)=true then -1 else 1,k.fa)
def dcC (c:Int->Option (List Kyt)) (i k:Int) (f h:List UInt8->Int):Int×List UInt8:=
 if i<k then(-1,[99,108,97,115,115]) else if k<i then(1,[99,108,97,115,115]) else match c i with
  | some l=>dcF f h l
  | none=>(0,[])
def yvy (p:Prg) (i:Int):Option (List Kyt):=(p.cl[i.toNat]?).map Cls.ky
def dcP (p:Prg) (a b:Clm):Int×List UInt8:=dcC (yvy p) (zyz a 0 p.cl) (zyz b 0 p.cl) (zm1 a) (zm1 b)
theorem zz9 (f h:List UInt8->Int) (k:Kyt) (r:List Kyt):(dcF f h (k::r)).1=if f k.fa=h k.fa then(dcF f h r).1 else if f k.fa<h k.fa then(if k.dn=true then 1 else -1) else(if k.dn=true then -1 else 1):=by
 rw [dcF]
 generalize k.dn=d
 by_cases h1:f k.fa=h k.fa
 ·rw [if_pos h1,if_pos h1]
 ·rw [if_neg h1,if_neg h1]
  by_cases h2:f k.fa<h k.fa
  ·rw [decide_eq_true h2,if_pos h2]
   cases d<;>rfl
  ·rw [decide_eq_false h2,if_neg h2]
   cases d<;>rfl
theorem ye9 (f:List UInt8->Int):∀l:List Kyt,dcF f f l=(0,[])
 | []=>rfl
 | k::r=>by rw [dcF,if_pos rfl,ye9 f r]
theorem yfc (f h:List UInt8->Int):∀l:List Kyt,(dcF f h l).1= -(dcF h f l).1
 | []=>rfl
 | k::r=>by
  have:=yfc f h r
  rw [zz9,zz9]
  cases k.dn
  ·simp only [Bool.false_eq_true,if_false]
   split<;>split<;>(try split)<;>(try split)<;>omega
  ·simp only [if_true]
   split<;>split<;>(try split)<;>(try split)<;>omega
theorem yah (f h q:List UInt8->Int):∀l:List Kyt,(dcF f h l).1<=0->(dcF h q l).1<=0->(dcF f q l).1<=0
 | []=>fun _ _=>by simp [dcF]
 | k::r=>by
  have ih:=yah f h q r
  rw [zz9,zz9,zz9]
  generalize f k.fa=x
  generalize h k.fa=y
  generalize q k.fa=z
  generalize (dcF f h r).1=u at *
  generalize (dcF h q r).1=v at *
  generalize (dcF f q r).1=w at *
  intro h1 h2
  generalize k.dn=d at *
  cases d
  ·simp only [Bool.false_eq_true,if_false] at *
   by_cases e1:x=y
   ·by_cases e2:y=z
    ·rw [if_pos e1] at h1
     rw [if_pos e2] at h2
     rw [if_pos (e1.trans e2)]
     exact ih h1 h2
    ·omega
   ·omega
  ·simp only [if_true] at *
   by_cases e1:x=y
   ·by_cases e2:y=z
    ·rw [if_pos e1] at h1
     rw [if_pos e2] at h2
     rw [if_pos (e1.trans e2)]
     exact ih h1 h2
    ·omega
   ·omega
theorem z01 (c:Int->Option (List Kyt)) (i k:Int) (f h:List UInt8->Int):(dcC c i k f h).1=if i<k then -1 else if k<i then 1 else(dcF f h ((c i).getD [])).1:=by
 unfold dcC
 split
 ·rfl
 ·split
  ·rfl
  ·cases c i<;>rfl
theorem yfz (c:Int->Option (List Kyt)) (i:Int) (f:List UInt8->Int):dcC c i i f f=(0,[]):=by
 unfold dcC
 rw [if_neg (by omega),if_neg (by omega)]
 cases c i with
 | none=>rfl
 | some l=>exact ye9 f l
theorem yp7 (c:Int->Option (List Kyt)) (i k:Int) (f h:List UInt8->Int):(dcC c i k f h).1= -(dcC c k i h f).1:=by
 rw [z01,z01]
 rcases Int.lt_trichotomy i k with e|e|e
 ·rw [if_pos e,if_neg (by omega),if_pos e]
 ·subst e
  rw [if_neg (Int.lt_irrefl i),if_neg (Int.lt_irrefl i),if_neg (Int.lt_irrefl i),if_neg (Int.lt_irrefl i)]
  exact yfc f h _
 ·rw [if_neg (by omega),if_pos e,if_pos e]
  rfl
theorem yiz (c:Int->Option (List Kyt)) (i k j:Int) (f h q:List UInt8->Int) (h1:(dcC c i k f h).1<=0) (h2:(dcC c k j h q).1<=0):(dcC c i j f q).1<=0:=by
 rw [z01] at *
 rcases Int.lt_trichotomy i k with e1|e1|e1
 ·rcases Int.lt_trichotomy k j with e2|e2|e2
  ·rw [if_pos (by omega)];decide
  ·rw [if_pos (by omega)];decide
  ·rw [if_neg (by omega),if_pos e2] at h2
   exact absurd h2 (by decide)
 ·subst e1
  rcases Int.lt_trichotomy i j with e2|e2|e2
  ·rw [if_pos (by omega)];decide
  ·subst e2
   rw [if_neg (by omega),if_neg (by omega)] at *
   exact yah f h q _ h1 h2
  ·rw [if_neg (by omega),if_pos e2] at h2
   exact absurd h2 (by decide)
 ·rw [if_neg (by omega),if_pos e1] at h1
  exact absurd h1 (by decide)
theorem yeg (c:Int->Option (List Kyt)) (i:Int) (f h:List UInt8->Int):dcC c i i f h=dcF f h ((c i).getD []):=by
 unfold dcC
 rw [if_neg (Int.lt_irrefl i),if_neg (Int.lt_irrefl i)]
 cases c i<;>rfl
theorem yqm (c:Int->Option (List Kyt)) {i k:Int} (f h:List UInt8->Int) (e:i<k):dcC c i k f h=(-1,[99,108,97,115,115]):=if_pos e
theorem yqq (c:Int->Option (List Kyt)) {i k:Int} (f h:List UInt8->Int) (e:k<i):dcC c i k f h=(1,[99,108,97,115,115]):=by
 unfold dcC
 rw [if_neg (by omega),if_pos e]
theorem yj4 {p:Prg} {n:Nat} (h:n<p.cl.length):(yvy p (n:Int)).getD []=p.cl[n].ky:=by
 unfold yvy
 rw [Int.toNat_natCast,List.getElem?_eq_getElem h]
 rfl
theorem z55 {p:Prg} {n:Nat} (h:p.cl.length<=n):(yvy p (n:Int)).getD []=[]:=by
 unfold yvy
 rw [Int.toNat_natCast,List.getElem?_eq_none h]
 rfl
theorem yp3 (p:Prg) (a:Clm):dcP p a a=(0,[]):=yfz _ _ _
theorem zoh (p:Prg) (a b:Clm):(dcP p a b).1= -(dcP p b a).1:=yp7 _ _ _ _ _
theorem z2s (p:Prg) (a b c:Clm) (h1:(dcP p a b).1<=0) (h2:(dcP p b c).1<=0):(dcP p a c).1<=0:=yiz _ _ _ _ _ _ _ h1 h2
theorem zwp (c:Clm):∀(i:Nat) (l:List Cls),(i:Int)<=zyz c i l/\zyz c i l<=i+l.length
 | i,[]=>by simp [zyz]
 | i,x::r=>by
  have:=zwp c (i+1) r
  rw [zyz,List.length_cons]
  split
  ·omega
  ·omega
def yyi (lv slot:Nat) (p:Prg) (i:Int):Mem:=[(⟨lv,slot,0⟩,.cells zam [I i]),(⟨lv,slot,1⟩,.cells zab [LC p.cl,I p.po,I p.of,I p.fo])]
def yxh (p:Prg):Prop:=∀c∈p.cl,∀k∈c.ky,k.fa∈fcL
section
variable {E : Oracle} (g : Good E)
include g
theorem ywt (p:Prg) (i:Int):In E 0 zde [Pgv p,I i] [] fun v m'=>v= .fn zby [] [.ptr ⟨0,3,0⟩ 0 0,.ptr ⟨0,2,0⟩ 0 0]/\m'=[(⟨0,2,0⟩,.cells zab [LC p.cl,I p.po,I p.of,I p.fo]),(⟨0,3,0⟩,.cells zam [I i])]:=by
 refine In.enter (f:=zde) g.lim rfl rfl ?_
 repeat' ((conv=>whnf);first
 | refine Yz ?_
  | (exact⟨rfl,rfl⟩))
theorem zdo.keys {p:Prg} {i:Int} {cx:Cx} {slot:Nat} {m:Mem} {K:V->Mem->Prop} (hf:Go.Evl.freeK cx.lv slot m=0) (h:K (.fn zby [] [.ptr ⟨cx.lv,slot,0⟩ 0 0,.ptr ⟨cx.lv,slot,1⟩ 0 0]) (m++yyi cx.lv slot p i)):zdo E zde [Pgv p,I i] cx slot m K:=by
 obtain⟨v,m',h1,rfl,rfl⟩:=(ywt g p i).got
 refine⟨_,_,(.fn zby [] [.ptr ⟨cx.lv,slot,0⟩ 0 0,.ptr ⟨cx.lv,slot,1⟩ 0 0],m++yyi cx.lv slot p i),h1,?_,h⟩
 unfold Go.Evl.settle
 rw [hf]
 rfl
theorem yot (a b:Clm) (s:List UInt8) (h:s∈fcL) (ha:zhz a=0) (hb:zhz b=0):∃n,zwt (.str s) ytc=some (some (.d (.agg [.str s,.fn n])))/\Fc E n [Clv a] (I (zm1 a s))/\Fc E n [Clv b] (I (zm1 b s)):=by
 obtain⟨n,f1,c1⟩:=z2w g a s h ha
 obtain⟨k,f2,c2⟩:=z2w g b s h hb
 have:n=k:=by
  rw [f1] at f2
  simpa using f2
 subst this
 exact⟨n,f1,c1,c2⟩
theorem ypp (p:Prg) (a b:Clm) (hs:zpt p) (ha:zhz a=0) (hb:zhz b=0) (hp:yt8 p) (hk:yxh p):Fc E zfx [Pgv p,Clv a,Clv b] (.tup [I (dcP p a b).1,S (dcP p a b).2]):=by
 refine g.fn rfl rfl ?_
 have h1:=z1t g p a hs ha hp
 have h2:=z1t g p b hs hb hp
 have b0:Fc E zb1 [B false] (I 0):=zxn g false
 have b1:Fc E zb1 [B true] (I 1):=zxn g true
 have r1:=zwp a 0 p.cl
 have r2:=zwp b 0 p.cl
 have l1:=hs.1
 unfold dcP
 generalize zyz a 0 p.cl=i at *
 generalize zyz b 0 p.cl=k at *
 rcases Int.lt_trichotomy i k with e|e|e
 ·rw [yqm _ _ _ e]
  repeat' ((conv=>whnf);first
  | refine Yz ?_
   | (apply zaf.of;assumption)
   | (refine Ret.mk rfl))
 ·subst e
  by_cases he:a=b
  ·subst he
   rw [yfz]
   repeat' ((conv=>whnf);first
   | refine Yz ?_
    | (apply zaf.of;assumption)
    | (refine Cmp.tt (by simp) ?_)
    | (refine Ret.mk rfl))
  ·obtain⟨n,rfl⟩:∃n:Nat,i=n:=⟨i.toNat,by omega⟩
   rw [yeg]
   have two:∀s∈fcL,∃n,zwt (.str s) ytc=some (some (.d (.agg [.str s,.fn n])))/\Fc E n [Clv a] (I (zm1 a s))/\Fc E n [Clv b] (I (zm1 b s)):=fun s h=>yot g a b s h ha hb
   generalize zm1 a=fa at *
   generalize zm1 b=fb at *
   by_cases hn:n<p.cl.length
   ·have l2:=(hs.2 _ (List.getElem_mem hn)).2
    have hkk:=hk _ (List.getElem_mem hn)
    rw [yj4 hn]
    generalize hR:dcF fa fb p.cl[n].ky=R
    repeat' ((conv=>whnf);first
    | refine Yz ?_
     | (apply zaf.of;assumption)
     | (refine zdo.keys g rfl ?_)
     | (refine In.enter (f:=zby) g.lim rfl rfl ?_)
     | (refine Cmp.mk (fun h=> ?_) (fun h=> ?_))
     | (refine zcj.rec Cls.cells_length n rfl hn rfl ?_))
    ·refine absurd ?_ he
     clear h1 h2 two hR he ha hb r1 r2
     obtain⟨⟨n1,c1,k1,t1,p1,l1,f1,o1,d1,m1,s1,z1,i1⟩,h1,r1,w1,y1,x1⟩:=a
     obtain⟨⟨n2,c2,k2,t2,p2,l2,f2,o2,d2,m2,s2,z2,i2⟩,h2,r2,w2,y2,x2⟩:=b
     simp_all
    all_goals
     refine zad.to (zad.upP g (fun k=>[(0,.yld ⟨0,67,0⟩),(16,LK p.cl[n].ky),(17,I p.cl[n].ky.length),(18,I k)]) (fun _=>_) (fun k=>dcF fa fb (p.cl[n].ky.drop k)=R) p.cl[n].ky.length (fun k hk h0 ih=> ?_) 0 (Nat.zero_le _) hR) rfl rfl
     by_cases hlt:k<p.cl[n].ky.length
     ·rw [List.drop_eq_getElem_cons hlt,dcF] at h0
      have ih:=ih hlt
      obtain⟨m,m1,m2,m3⟩:=two _ (hkk _ (List.getElem_mem hlt))
      generalize hx:p.cl[n].ky[k]=x at *
      obtain⟨f,dn⟩:=x
      dsimp only at h0 m1 m2 m3
      generalize fa f=u at *
      generalize fb f=v at *
      rcases Int.lt_trichotomy u v with e|e|e
      ·rw [if_neg (by omega),decide_eq_true e] at h0
       rw [<-h0]
       cases dn
       all_goals repeat' ((conv=>whnf);first
       | refine Yz ?_
        | (refine za0.rec Kyt.cells_length k rfl hlt ?_;rw [hx])
        | (refine zdo.known g rfl ?_)
        | (refine z39.mk ⟨_,m1,?_⟩)
        | (refine Rnd.enter g.lim ?_)
        | (apply zaf.of;assumption)
        | (refine Ret.mk rfl))
      ·rw [if_pos e] at h0
       have ih:=ih h0
       repeat' ((conv=>whnf);first
       | refine Yz ?_
        | (refine za0.rec Kyt.cells_length k rfl hlt ?_;rw [hx])
        | (refine zdo.known g rfl ?_)
        | (refine z39.mk ⟨_,m1,?_⟩)
        | (refine Rnd.enter g.lim ?_)
        | (apply zaf.of;assumption)
        | (refine zad.to ih rfl rfl))
      ·rw [if_neg (by omega),decide_eq_false (by omega)] at h0
       rw [<-h0]
       cases dn
       all_goals repeat' ((conv=>whnf);first
       | refine Yz ?_
        | (refine za0.rec Kyt.cells_length k rfl hlt ?_;rw [hx])
        | (refine zdo.known g rfl ?_)
        | (refine z39.mk ⟨_,m1,?_⟩)
        | (refine Rnd.enter g.lim ?_)
        | (apply zaf.of;assumption)
        | (refine Ret.mk rfl))
     ·rw [List.drop_eq_nil_of_le (by omega),dcF] at h0
      rw [<-h0]
      repeat' ((conv=>whnf);first
      | refine Yz ?_
       | (refine Ret.mk rfl))
   ·have hn':n=p.cl.length:=by omega
    rw [z55 (by omega),dcF]
    repeat' ((conv=>whnf);first
    | refine Yz ?_
     | (apply zaf.of;assumption)
     | (refine zdo.keys g rfl ?_)
     | (refine In.enter (f:=zby) g.lim rfl rfl ?_)
     | (refine Cmp.mk (fun h=> ?_) (fun h=> ?_))
     | (refine Ret.mk rfl))
 ·rw [yqq _ _ _ e]
  repeat' ((conv=>whnf);first
  | refine Yz ?_
   | (apply zaf.of;assumption)
   | (refine Ret.mk rfl))
theorem ym8 (p:Prg) (a b:Clm) (hs:zpt p) (ha:zhz a=0) (hb:zhz b=0) (hp:yt8 p) (hk:yxh p):Fc E zm4 [Pgv p,Clv a,Clv b] (.tup [I (dcP p a b).1,S (dcP p a b).2]):=by
 refine g.fn rfl rfl ?_
 have h1:=z9g g p a hs ha hp
 have h2:=z9g g p b hs hb hp
 have r1:=zwp a 0 p.cl
 have r2:=zwp b 0 p.cl
 have l1:=hs.1
 unfold dcP
 generalize zyz a 0 p.cl=i at *
 generalize zyz b 0 p.cl=k at *
 rcases Int.lt_trichotomy i k with e|e|e
 ·rw [yqm _ _ _ e]
  repeat' ((conv=>whnf);first
  | refine Yz ?_
   | (apply zaf.of;assumption)
   | (refine Ret.mk rfl))
 ·subst e
  rw [yeg]
  obtain⟨n,rfl⟩:∃n:Nat,i=n:=⟨i.toNat,by omega⟩
  by_cases hn:n<p.cl.length
  ·have l2:=(hs.2 _ (List.getElem_mem hn)).2
   have hkk:=hk _ (List.getElem_mem hn)
   rw [yj4 hn]
   generalize hR:dcF (zm1 a) (zm1 b) p.cl[n].ky=R
   repeat' ((conv=>whnf);first
   | refine Yz ?_
    | (apply zaf.of;assumption)
    | (refine zcj.rec Cls.cells_length n rfl hn rfl ?_))
   refine zad.to (zad.upP g (fun k=>[(4,.ptr ⟨0,4,0⟩ 0 0),(5,.ptr ⟨0,5,0⟩ 0 0),(10,LK p.cl[n].ky),(11,I k)]) (fun _=>_) (fun k=>dcF (zm1 a) (zm1 b) (p.cl[n].ky.drop k)=R) p.cl[n].ky.length (fun k hk h0 ih=> ?_) 0 (Nat.zero_le _) hR) rfl rfl
   by_cases hlt:k<p.cl[n].ky.length
   ·rw [List.drop_eq_getElem_cons hlt,dcF] at h0
    have ih:=ih hlt
    have hfc:=hkk _ (List.getElem_mem hlt)
    generalize hx:p.cl[n].ky[k]=x at *
    obtain⟨fa,dn⟩:=x
    have f1:=yms g a fa hfc ha
    have f2:=yms g b fa hfc hb
    dsimp only at h0 f1 f2
    generalize zm1 a fa=u at *
    generalize zm1 b fa=v at *
    rcases Int.lt_trichotomy u v with e|e|e
    ·rw [if_neg (by omega),decide_eq_true e] at h0
     rw [<-h0]
     cases dn
     all_goals repeat' ((conv=>whnf);first
     | refine Yz ?_
      | (refine zcj.rec Kyt.cells_length k rfl hlt (by rw [hx];rfl) ?_)
      | (apply zaf.of;assumption)
      | (refine Ret.mk rfl))
    ·rw [if_pos e] at h0
     have ih:=ih h0
     repeat' ((conv=>whnf);first
     | refine Yz ?_
      | (refine zcj.rec Kyt.cells_length k rfl hlt (by rw [hx];rfl) ?_)
      | (apply zaf.of;assumption)
      | (refine zad.to ih rfl rfl))
    ·rw [if_neg (by omega),decide_eq_false (by omega)] at h0
     rw [<-h0]
     cases dn
     all_goals repeat' ((conv=>whnf);first
     | refine Yz ?_
      | (refine zcj.rec Kyt.cells_length k rfl hlt (by rw [hx];rfl) ?_)
      | (apply zaf.of;assumption)
      | (refine Ret.mk rfl))
   ·rw [List.drop_eq_nil_of_le (by omega),dcF] at h0
    rw [<-h0]
    repeat' ((conv=>whnf);first
    | refine Yz ?_
     | (refine Ret.mk rfl))
  ·have hn':n=p.cl.length:=by omega
   rw [z55 (by omega),dcF]
   repeat' ((conv=>whnf);first
   | refine Yz ?_
    | (apply zaf.of;assumption)
    | (refine Ret.mk rfl))
 ·rw [yqq _ _ _ e]
  repeat' ((conv=>whnf);first
  | refine Yz ?_
   | (apply zaf.of;assumption)
   | (refine Ret.mk rfl))
end
theorem zyi.okKy {p:Prg} (h:zyi p):yxh p:=fun c hc k hk=>(h.cs c hc).ks k hk
def yys:Clm:=⟨⟨[],[],[],[],[],[],0,0,0,0,0,0,0⟩,false,false,false,false,0⟩
def atC (l:List Clm) (i:Int):Clm:=(l[i.toNat]?).getD yys
theorem zob {l:List Clm} {i:Int} (h:i.toNat<l.length):atC l i=l[i.toNat]:=by
 unfold atC
 rw [List.getElem?_eq_getElem h]
 rfl
theorem yca {l:List Clm} {i:Int} (h:i∈idL l.length):atC l i∈l:=by
 have:=zhw.1 h
 rw [zob (by omega)]
 exact List.getElem_mem _
def ltB (p:Prg) (l:List Clm) (w:List Int) (a b:Int):Bool:=decide ((dcP p (atC l a) (atC l b)).1<0)||(decide ((dcP p (atC l a) (atC l b)).1=0)&&decide (w.getD a.toNat 0<w.getD b.toNat 0))
theorem zsf {p:Prg} {l:List Clm} {w:List Int} {a b:Int}:ltB p l w a b=true↔(dcP p (atC l a) (atC l b)).1<0\/((dcP p (atC l a) (atC l b)).1=0/\w.getD a.toNat 0<w.getD b.toNat 0):=by
 simp [ltB]
theorem z1z {α:Type} {p q:α->Bool}:∀ {l:List α},(∀x∈l,p x=true->q x=true)->∀a∈l,q a=true->p a=false->l.countP p<l.countP q
 | [],_,a,h,_,_=>by cases h
 | x::r,hs,a,ha,hq,hp=>by
  have hle:r.countP p<=r.countP q:=List.countP_mono_left fun y hy=>hs y (List.mem_cons_of_mem _ hy)
  rw [List.countP_cons,List.countP_cons]
  rcases List.mem_cons.1 ha with rfl|ha
  ·rw [hq,hp]
   simp
   omega
  ·have ih:=z1z (fun y hy=>hs y (List.mem_cons_of_mem _ hy)) a ha hq hp
   have h0:=hs x (List.mem_cons_self ..)
   cases hx:p x
   ·simp;omega
   ·rw [h0 hx];simp;omega
theorem yft {n:Nat} {lt:Int->Int->Bool} (t:Tot n lt) {a b:Int} (ha:a∈idL n) (hb:b∈idL n) (h:lt a b=true):zqc n lt a<zqc n lt b:=
 z1z (fun x hx hxa=>t.tr x a b hx ha hb hxa h) a ha h (t.irr a)
theorem yme {n:Nat} {lt:Int->Int->Bool} (t:Tot n lt) {a b:Int} (ha:a∈idL n) (hb:b∈idL n) (h:zqc n lt a=zqc n lt b):a=b:=by
 refine Classical.byContradiction fun hab=> ?_
 cases hl:lt a b
 ·have:=yft t hb ha (t.tot a b ha hb hab hl)
  omega
 ·have:=yft t ha hb hl
  omega
theorem yet {n:Nat} {lt:Int->Int->Bool} (t:Tot n lt) {a:Int} (ha:a∈idL n):zqc n lt a<n:=by
 have:=z1z (p:=fun y=>lt y a) (q:=fun _=>true) (l:=idL n) (fun _ _ _=>rfl) a ha rfl (t.irr a)
 rw [List.countP_true,zbx] at this
 exact this
theorem ybg (key:Int) (n:Nat):Ord n (zhq key n):=by
 rcases Nat.eq_zero_or_pos n with rfl|hp
 ·exact Ord.id 0
 ·exact Ord.draw _ _ _ (by omega) (Ord.id n)
theorem ypv {key:Int} {l:List Clm} (hn:(znr l).Nodup) {a b:Int} (ha:a∈idL l.length) (hb:b∈idL l.length) (h:(z3m key l).getD a.toNat 0=(z3m key l).getD b.toNat 0):a=b:=by
 have t:=ydv hn
 have h1:=zhw.1 ha
 have h2:=zhw.1 hb
 have e:∀x:Int,x∈idL l.length->(z3m key l).getD x.toNat 0=(zhq key l.length).getD (zqc l.length (ltN l) x) 0:=fun x hx=>by
  have h3:=zhw.1 hx
  have h4:x.toNat<l.length:=by omega
  have h5:((x.toNat:Nat):Int)=x:=by omega
  simp [z3m,idL,List.getD,h4,h5]
 rw [e a ha,e b hb] at h
 exact yme t ha hb ((ybg key l.length).inj _ _ (yet t ha) (yet t hb) h)
theorem yr5 {p:Prg} {key:Int} {l:List Clm} (hn:(znr l).Nodup):Tot l.length (ltB p l (z3m key l)):=by
 refine⟨fun a=> ?_,fun a b c _ _ _ h1 h2=> ?_,fun a b ha hb hab h=> ?_⟩
 ·cases h:ltB p l (z3m key l) a a with
  | false=>rfl
  | true=>
   rw [zsf,yp3] at h
   simp at h
 ·rw [zsf] at h1 h2 ⊢
  have t1:=z2s p (atC l a) (atC l b) (atC l c)
  have t2:=z2s p (atC l b) (atC l c) (atC l a)
  have t3:=z2s p (atC l c) (atC l a) (atC l b)
  have s1:=zoh p (atC l a) (atC l b)
  have s2:=zoh p (atC l b) (atC l c)
  have s3:=zoh p (atC l c) (atC l a)
  generalize (dcP p (atC l a) (atC l b)).1=x1 at *
  generalize (dcP p (atC l b) (atC l c)).1=x2 at *
  generalize (dcP p (atC l a) (atC l c)).1=x3 at *
  generalize (dcP p (atC l b) (atC l a)).1=y1 at *
  generalize (dcP p (atC l c) (atC l b)).1=y2 at *
  generalize (dcP p (atC l c) (atC l a)).1=y3 at *
  have:=t1 (by omega) (by omega)
  by_cases h3:x3<0
  ·exact .inl h3
  ·have e3:x3=0:=by omega
   have:=t2 (by omega) (by omega)
   have:=t3 (by omega) (by omega)
   exact .inr ⟨e3,by omega⟩
 ·have hx:¬((dcP p (atC l a) (atC l b)).1<0\/((dcP p (atC l a) (atC l b)).1=0/\(z3m key l).getD a.toNat 0<(z3m key l).getD b.toNat 0)):=fun hc=>by
   rw [zsf.2 hc] at h
   cases h
  rw [zsf]
  have s1:=zoh p (atC l a) (atC l b)
  have hl:(z3m key l).getD a.toNat 0≠(z3m key l).getD b.toNat 0:=fun e=>hab (ypv hn ha hb e)
  omega
theorem yqv {n:Nat} {lt:Int->Int->Bool} (t:Tot n lt) {x:Int} (hx:x∈idL n):∀s:List Int,s.Pairwise (fun a b=>lt a b=true)->(∀y∈s,y∈idL n)->x∉s->∃s':List Int,s'.Perm (x::s)/\s'.Pairwise (fun a b=>lt a b=true)
 | [],_,_,_=>⟨[x],.refl _,List.pairwise_singleton ..⟩
 | y::r,hs,hm,hn=>by
  have hp:=List.pairwise_cons.1 hs
  have hy:=hm y (List.mem_cons_self ..)
  cases h:lt x y
  ·have hyx:=t.tot x y hx hy (fun e=>hn (by simp [e])) h
   obtain⟨s',h1,h2⟩:=yqv t hx r hp.2 (fun z hz=>hm z (List.mem_cons_of_mem _ hz)) (fun hc=>hn (List.mem_cons_of_mem _ hc))
   refine⟨y::s',(h1.cons y).trans (List.Perm.swap ..),List.pairwise_cons.2 ⟨fun z hz=> ?_,h2⟩⟩
   rcases List.mem_cons.1 (h1.mem_iff.1 hz) with rfl|hz
   ·exact hyx
   ·exact hp.1 z hz
  ·refine⟨x::y::r,.refl _,List.pairwise_cons.2 ⟨fun z hz=> ?_,hs⟩⟩
   rcases List.mem_cons.1 hz with rfl|hz
   ·exact h
   ·exact t.tr x y z hx hy (hm z (List.mem_cons_of_mem _ hz)) h (hp.1 z hz)
theorem yj5 {n:Nat} {lt:Int->Int->Bool} (t:Tot n lt):∀l:List Int,l.Nodup->(∀y∈l,y∈idL n)->∃s:List Int,s.Perm l/\s.Pairwise (fun a b=>lt a b=true)
 | [],_,_=>⟨[],.refl _,List.Pairwise.nil⟩
 | x::r,hn,hm=>by
  have hc:=List.nodup_cons.1 hn
  obtain⟨s,h1,h2⟩:=yj5 t r hc.2 fun y hy=>hm y (List.mem_cons_of_mem _ hy)
  obtain⟨s',h3,h4⟩:=yqv t (hm x (List.mem_cons_self ..)) s h2 (fun y hy=>hm y (List.mem_cons_of_mem _ (h1.mem_iff.1 hy))) (fun hx=>hc.1 (h1.mem_iff.1 hx))
  exact⟨s',h3.trans (h1.cons x),h4⟩
theorem z0v (n:Nat):(idL n).Nodup:=by
 refine List.pairwise_iff_getElem.2 fun a b ha hb hab=> ?_
 simp only [idL,List.getElem_map,List.getElem_range]
 omega
theorem yqp {n:Nat} {lt:Int->Int->Bool} (t:Tot n lt):∃s,Srt n lt s:=by
 obtain⟨s,h1,h2⟩:=yj5 t (idL n) (z0v n) fun _ h=>h
 exact⟨s,h1,h2⟩
theorem Srt.same {n:Nat} {lt:Int->Int->Bool} {s r:List Int} (t:Tot n lt) (hs:Srt n lt s) (hr:Srt n lt r):r=s:=by
 refine List.ext_getElem (by rw [hs.len,hr.len]) fun i h1 h2=> ?_
 have hu:=hs.uniq t (hr.mem h1)
 rw [hr.place t h1,List.getElem?_eq_getElem h2] at hu
 exact(Option.some.inj hu).symm
theorem Srt.nodup {n:Nat} {lt:Int->Int->Bool} {s:List Int} (hs:Srt n lt s):s.Nodup:=hs.pm.nodup_iff.2 (z0v n)
def clA (p:Prg) (l:List Clm) (i:Int):Int:=zyz (atC l i) 0 p.cl
theorem ytv {p:Prg} {l:List Clm} {w:List Int} {a b:Int} (h:ltB p l w a b=true):clA p l a<=clA p l b:=by
 rw [zsf] at h
 unfold dcP at h
 rw [z01] at h
 unfold clA
 refine Classical.byContradiction fun hc=> ?_
 rw [if_neg (by omega),if_pos (by omega)] at h
 omega
def zfe (p:Prg) (l:List Clm) (s:List Int):Nat:=s.findIdx fun i=>decide (p.po<=clA p l i)
def zdc (p:Prg) (l:List Clm) (s:List Int):List Int:=
 s.take (zfe p l s)++(z2f p.of p.fo ((s.drop (zfe p l s)).map fun i=>(atC l i).ne)).map fun j=>(s.drop (zfe p l s)).getD j.toNat 0
theorem zqj (p:Prg) (l:List Clm) (s:List Int):zfe p l s<=s.length:=List.findIdx_le_length
theorem zim (p:Prg) (l:List Clm) (s:List Int):(zdc p l s).length=s.length:=by
 have:=zqj p l s
 unfold zdc
 rw [List.length_append,List.length_take,List.length_map,z2m,List.length_map,List.length_drop]
 omega
theorem zz8 {p:Prg} {l:List Clm} {s:List Int} {i:Nat} (h:i<zfe p l s):clA p l (s[i]'(Nat.lt_of_lt_of_le h (zqj p l s)))<p.po:=by
 have:=List.not_of_lt_findIdx h
 simpa using this
theorem ydk {p:Prg} {l:List Clm} {s w:List Int} (hs:s.Pairwise fun a b=>ltB p l w a b=true) {i:Nat} (hi:i<s.length) (h:zfe p l s<=i):p.po<=clA p l s[i]:=by
 have hp:zfe p l s<s.length:=by omega
 have h0:p.po<=clA p l s[zfe p l s]:=by
  have:=List.findIdx_getElem (xs:=s) (p:=fun i=>decide (p.po<=clA p l i)) (w:=hp)
  exact of_decide_eq_true this
 rcases Nat.lt_or_ge (zfe p l s) i with hlt|hge
 ·have:=ytv (List.pairwise_iff_getElem.1 hs _ _ hp hi hlt)
  omega
 ·have e:i=zfe p l s:=by omega
  subst e
  exact h0
theorem ye2 {v:Bool}:∀ {k:Nat} {l:List Bool} {i:Nat},l[i]? =some v->((k+i:Nat):Int)∈zm7 v k l
 | k,[],i,h=>by simp at h
 | k,b::r,0,h=>by
  simp at h
  subst h
  simp [zm7]
 | k,b::r,i+1,h=>by
  have ih:=ye2 (k:=k+1) (l:=r) (i:=i) (by simpa using h)
  rw [show k+1+i=k+(i+1) by omega] at ih
  rw [zm7]
  split
  ·exact List.mem_cons_of_mem _ ih
  ·exact ih
theorem yo5 (m fo:Int) {l:List Bool} {i:Nat} (h:i<l.length):(i:Int)∈z2f m fo l:=by
 have hp:(z2f m fo l).Perm (zm7 true 0 l++zm7 false 0 l):=zng m fo _ _ _ _ (zgd 0 l)
 refine hp.mem_iff.2 (List.mem_append.2 ?_)
 have:=ye2 (k:=0) (List.getElem?_eq_getElem h)
 rw [Nat.zero_add] at this
 cases hb:l[i]<;>rw [hb] at this
 ·exact .inr this
 ·exact .inl this
theorem yjc {p:Prg} {l:List Clm} {s:List Int} {x:Int} (h:x∈s):x∈zdc p l s:=by
 rw [<-List.take_append_drop (zfe p l s) s] at h
 unfold zdc
 rcases List.mem_append.1 h with h|h
 ·exact List.mem_append.2 (.inl h)
 ·refine List.mem_append.2 (.inr ?_)
  obtain⟨j,hj,rfl⟩:=List.getElem_of_mem h
  refine List.mem_map.2 ⟨(j:Int),yo5 _ _ (by simpa using hj),?_⟩
  rw [Int.toNat_natCast,List.getD,List.getElem?_eq_getElem hj]
  rfl
theorem yov {p:Prg} {l:List Clm} {s:List Int} {x:Int} (h:x∈zdc p l s):x∈s:=by
 unfold zdc at h
 rcases List.mem_append.1 h with h|h
 ·exact List.mem_of_mem_take h
 ·obtain⟨j,hj,rfl⟩:=List.mem_map.1 h
  have hp:(z2f p.of p.fo ((s.drop (zfe p l s)).map fun i=>(atC l i).ne)).Perm _:=zng p.of p.fo _ _ _ _ (zgd 0 _)
  have hlt:j.toNat<(s.drop (zfe p l s)).length:=by
   rcases List.mem_append.1 (hp.mem_iff.1 hj) with h|h
   all_goals
    obtain⟨i,h1,h2⟩:=zk3 h
    have:=(List.getElem?_eq_some_iff.1 h2).1
    rw [List.length_map] at this
    omega
  rw [List.getD,List.getElem?_eq_getElem hlt]
  exact List.mem_of_mem_drop (List.getElem_mem hlt)
def yum (R:List Int) (c:Int):List Int:=R.take (R.findIdx fun x=>decide (x=c))
abbrev Rkv (p:Prg) (l:List Clm) (w:List Int):V:= .d (.agg [.list p.cl.length (p.cl.flatMap Cls.cells),DI p.po,DI p.of,DI p.fo,.list l.length (l.flatMap Clm.cells),.list w.length (w.map DI)])
def yul (p:Prg) (l:List Clm) (w:List Int) (a b:Int):Int×List UInt8:=if(dcP p (atC l a) (atC l b)).1=0 then(ywf (w.getD a.toNat 0) (w.getD b.toNat 0),[108,111,116]) else dcP p (atC l a) (atC l b)
theorem ys8 (a b:Int):ywf a b<0↔a<b:=by
 unfold ywf
 split
 ·simp [*]
 ·split<;>simp [*]
theorem ysi (p:Prg) (l:List Clm) (w:List Int) (a b:Int):(yul p l w a b).1<0↔ltB p l w a b=true:=by
 rw [zsf]
 unfold yul
 split
 ·rename_i h
  rw [h]
  dsimp only
  rw [ys8]
  simp
 ·rename_i h
  simp [h]
structure yuc (p:Prg) (l:List Clm) (w:List Int):Prop where
 sm:zpt p
 wh:yt8 p
 ky:yxh p
 cl:∀c∈l,zhz c=0
 n:l.length<=12
 w:w.length=l.length
 of':1<=p.of/\p.of<=100
theorem z6n {n:Nat} {x:Int} (h:x∈idL n):∃k:Nat,x=k/\k<n:=by
 have:=zhw.1 h
 exact⟨x.toNat,by omega,by omega⟩
section
variable {E : Oracle} (g : Good E)
include g
theorem yj3 {p:Prg} {l:List Clm} {w:List Int} (ok:yuc p l w) {a b:Int} (ha:a∈idL l.length) (hb:b∈idL l.length):Fc E zfg [Rkv p l w,I a,I b] (.tup [I (yul p l w a b).1,S (yul p l w a b).2]):=by
 have d:=ypp g p (atC l a) (atC l b) ok.sm (ok.cl _ (yca ha)) (ok.cl _ (yca hb)) ok.wh ok.ky
 obtain⟨i,rfl,hi⟩:=z6n ha
 obtain⟨k,rfl,hk⟩:=z6n hb
 have hw:=ok.w
 have ea:atC l (i:Int)=l[i]:=zob (i:=(i:Int)) (by omega)
 have eb:atC l (k:Int)=l[k]:=zob (i:=(k:Int)) (by omega)
 have hiw:i<w.length:=by omega
 have hkw:k<w.length:=by omega
 have c:=ywv g w[i] w[k]
 unfold yul
 rw [ea,eb] at d ⊢
 refine g.fn rfl rfl ?_
 by_cases h0:(dcP p l[i] l[k]).1=0
 ·rw [if_pos h0]
  rw [h0] at d
  have e1:w.getD ((i:Int)).toNat 0=w[i]:=by simp [List.getD,hiw]
  have e2:w.getD ((k:Int)).toNat 0=w[k]:=by simp [List.getD,hkw]
  rw [e1,e2]
  repeat' ((conv=>whnf);first
  | refine Yz ?_
   | (refine za0.rec Clm.cells_length i rfl hi ?_)
   | (refine za0.rec Clm.cells_length k rfl hk ?_)
   | (refine zcj.intI i rfl hiw ?_)
   | (refine zcj.intI k rfl hkw ?_)
   | (apply zaf.of;assumption)
   | (refine Ret.mk rfl))
 ·rw [if_neg h0]
  generalize dcP p l[i] l[k]=z at *
  repeat' ((conv=>whnf);first
  | refine Yz ?_
   | (refine za0.rec Clm.cells_length i rfl hi ?_)
   | (refine za0.rec Clm.cells_length k rfl hk ?_)
   | (apply zaf.of;assumption)
   | (refine Cmp.ff h0 ?_)
   | (refine Ret.mk rfl))
abbrev ym3 (p:Prg) (l:List Clm) (w:List Int) (s:List Int):Mem:=[(⟨0,1,0⟩,.cells za6 [LC p.cl,I p.po,I p.of,I p.fo,LM l,LI w]),(⟨0,2,0⟩,.row true zam 1 0 []),(⟨0,14,0⟩,.row true zam 1 l.length (s.map DI))]
theorem ymj {p:Prg} {l:List Clm} {w:List Int} (ok:yuc p l w) (x y:Int) (s:List Int) {K:V->Mem->Prop} (hx:x∈idL l.length) (hy:y∈idL l.length) (hK:∀c:Int,(c<0↔ltB p l w x y=true)->K (I c) (ym3 p l w s)):
  In E 4 zcb [I x,I y,.ptr ⟨0,1,0⟩ 0 0] (ym3 p l w s) K:=by
 have hc:=yj3 g ok hx hy
 have hk:=hK _ (ysi p l w x y)
 generalize yul p l w x y=z at *
 refine In.enter (f:=zcb) g.lim rfl rfl ?_
 repeat' ((conv=>whnf);first
 | refine Yz ?_
  | (apply zaf.of;assumption)
  | (exact hk))
theorem yly {p:Prg} {l:List Clm} {w:List Int} (ok:yuc p l w) (x:Int) (s:List Int) {K:V->Mem->Prop} (hx:x∈idL l.length) (hK:K (B (decide (p.po<=clA p l x))) (ym3 p l w s)):
  In E 2 zcd [I x,.ptr ⟨0,1,0⟩ 0 0] (ym3 p l w s) K:=by
 have hc:=z1t g p (atC l x) ok.sm (ok.cl _ (yca hx)) ok.wh
 obtain⟨i,rfl,hi⟩:=z6n hx
 have ea:atC l (i:Int)=l[i]:=zob (i:=(i:Int)) (by omega)
 unfold clA at hK
 rw [ea] at hc hK
 have l1:=ok.n
 generalize zyz l[i] 0 p.cl=z at *
 refine In.enter (f:=zcd) g.lim rfl rfl ?_
 by_cases h:p.po<=z
 ·rw [decide_eq_true h] at hK
  repeat' ((conv=>whnf);first
  | refine Yz ?_
   | (refine za0.rec Clm.cells_length i rfl hi ?_)
   | (apply zaf.of;assumption)
   | (exact hK))
 ·rw [decide_eq_false h] at hK
  repeat' ((conv=>whnf);first
  | refine Yz ?_
   | (refine za0.rec Clm.cells_length i rfl hi ?_)
   | (apply zaf.of;assumption)
   | (exact hK))
theorem yn7 {p:Prg} {l:List Clm} {w:List Int} (ok:yuc p l w) (s:List Int) {K:V->Mem->Prop} (hs:s.length=l.length) (hm:∀x∈s,x∈idL l.length) (hK:K (I (if zfe p l s<s.length then(zfe p l s:Int) else -1)) (ym3 p l w s)):
  In E 1 zdf [.ref ⟨0,14,0⟩ 0 l.length l.length,.fn zcd [] [.ptr ⟨0,1,0⟩ 0 0]] (ym3 p l w s) K:=by
 have l1:=ok.n
 refine In.enter (f:=zdf) g.lim rfl rfl ?_
 repeat' ((conv=>whnf);first
 | refine Yz ?_)
 refine zad.to (zad.upP g (fun k=>[(0,.ref ⟨0,14,0⟩ 0 l.length l.length),(1,.fn zcd [] [.ptr ⟨0,1,0⟩ 0 0]),(7,I l.length),(8,I k)]) (fun _=>ym3 p l w s) (fun k=>k<=zfe p l s) l.length (fun k hk hp ih=> ?_) 0 (Nat.zero_le _) (Nat.zero_le _)) rfl rfl
 by_cases hlt:k<l.length
 ·have hks:k<s.length:=by omega
  have hx:=hm _ (List.getElem_mem hks)
  have hin:=fun {K}=>yly g ok s[k] s (K:=K) hx
  by_cases h:p.po<=clA p l s[k]
  ·have he:zfe p l s=k:=by
    refine Nat.le_antisymm ?_ hp
    refine Nat.le_of_not_lt fun hc=> ?_
    have:=zz8 hc
    omega
   rw [decide_eq_true h] at hin
   rw [he,if_pos hks] at hK
   repeat' ((conv=>whnf);first
   | refine Yz ?_
    | (refine zcj.intI0 k rfl hks ?_)
    | (refine hin ?_)
    | (exact hK))
  ·have hp':k+1<=zfe p l s:=by
    refine Nat.lt_of_le_of_ne hp fun e=>h ?_
    subst e
    have hw:zfe p l s<s.length:=hks
    have:=List.findIdx_getElem (xs:=s) (p:=fun i=>decide (p.po<=clA p l i)) (w:=hw)
    exact of_decide_eq_true this
   have ih:=ih hlt hp'
   rw [decide_eq_false h] at hin
   repeat' ((conv=>whnf);first
   | refine Yz ?_
    | (refine zcj.intI0 k rfl hks ?_)
    | (refine hin ?_)
    | (refine zad.to ih rfl rfl))
 ·have hle:=zqj p l s
  rw [if_neg (by omega)] at hK
  repeat' ((conv=>whnf);first
  | refine Yz ?_
   | (exact hK))
omit g in
theorem ysx (n:Nat):patch (List.replicate n [DI 0]).flatten (0*1) (((idL n).map DI).take (min (idL n).length n*1))=(idL n).map DI:=by
 have h:=zbx n
 have hm:((idL n).map DI).take (min (idL n).length n*1)=(idL n).map DI:=List.take_of_length_le (by simp [h])
 rw [hm]
 unfold patch
 simp [h]
omit g in
theorem yo7 (s:List Int) (a n:Nat) (h:s.length=n):(if 0+a=0/\n-a=n then s.map DI else win (s.map DI) ((0+a)*1) ((n-a)*1))=(s.drop a).map DI:=by
 subst h
 split
 ·rename_i h
  rw [show a=0 by omega]
  rfl
 ·unfold win
  rw [Nat.zero_add,Nat.mul_one,Nat.mul_one,<-List.map_drop,List.take_of_length_le (by simp)]
theorem ykc {p:Prg} {l:List Clm} {w s:List Int} (ok:yuc p l w) (t:Tot l.length (ltB p l w)) (hs:Srt l.length (ltB p l w) s):Fc E zea [Rkv p l w] (LI (zdc p l s)):=by
 refine g.fn rfl rfl ?_
 have l1:=ok.n
 have hil:=zbx l.length
 have hi:=yl9 g l.length (by omega)
 have hsort0:=fun {K}=>ynq g (K:=K) t ok.n zcb (.list p.cl.length (p.cl.flatMap Cls.cells)) (DI p.po) (DI p.of) (DI p.fo) (.list l.length (l.flatMap Clm.cells)) (.list w.length (w.map DI)) (fun x y r K hx hy hK=>ymj g ok x y r hx hy hK)
 have hsort:∀ {K:V->Mem->Prop} {xs:List D},xs=(idL l.length).map DI->K (.tup []) (ym3 p l w s)->In E 1 zbp [.ref ⟨0,14,0⟩ 0 l.length l.length,.fn zcb [] [.ptr ⟨0,1,0⟩ 0 0]] [(⟨0,1,0⟩,.cells za6 [LC p.cl,I p.po,I p.of,I p.fo,LM l,LI w]),(⟨0,2,0⟩,.row true zam 1 0 []),(⟨0,14,0⟩,.row true zam 1 l.length xs)] K:=fun h1 h2=>by
  subst h1
  refine hsort0 fun r hr=> ?_
  rw [hs.same t hr]
  exact h2
 clear hsort0
 have hsl:=hs.len
 have hix:=fun {K}=>yn7 g ok s (K:=K) hsl (fun x hx=>hs.pm.mem_iff.1 hx)
 repeat' ((conv=>whnf);first
 | refine Yz ?_
  | (apply zaf.of;assumption)
  | (refine zbk.mk ⟨by omega,rfl,by omega,by omega⟩ ?_)
  | (refine hsort (ysx _) ?_)
  | (refine hix ?_))
 by_cases ha:zfe p l s<s.length
 ·rw [if_pos ha]
  have hP:(s.drop (zfe p l s)).length=l.length-zfe p l s:=by simp [hsl]
  have hpm:∀x∈s.drop (zfe p l s),x∈idL l.length:=fun x hx=>hs.pm.mem_iff.1 (List.mem_of_mem_drop hx)
  have hwin:=yo7 s (zfe p l s) l.length hsl
  have hrk:zdc p l s=s.take (zfe p l s)++(z2f p.of p.fo ((s.drop (zfe p l s)).map fun i=>(atC l i).ne)).map fun j=>(s.drop (zfe p l s)).getD j.toNat 0:=rfl
  generalize zdc p l s=R at *
  generalize zfe p l s=a at *
  generalize hPs:s.drop a=P at *
  repeat' ((conv=>whnf);first
  | refine Yz ?_
   | (refine zbe.at a l.length rfl rfl ⟨by omega,by omega⟩ ?_)
   | (refine In.enter (f:=zge) g.lim rfl rfl ?_)
   | (refine zbk.mk ⟨rfl,rfl,rfl,rfl,rfl,by rw [hwin];simp [hP],by show (0+(l.length-a))*8<=_;omega,by omega⟩ ?_))
  refine zad.to (zad.up g (fun k=>[(1,.ptr ⟨0,1,0⟩ 0 0),(3,.ref ⟨0,14,0⟩ 0 l.length l.length),(4,I a),(5,LI P),(6,.ref ⟨0,6,0⟩ 0 k k),(34,LI P),(35,I P.length),(36,I k)])
   (fun k=>ym3 p l w s++[(⟨0,6,0⟩,.row false zv6 1 k ((P.take k).map fun i=>D.bool (atC l i).ne))]) P.length (fun k hk ih=> ?_) 0 (Nat.zero_le _)) ?_ ?_
  ·by_cases hlt:k<P.length
   ·have ih:=ih hlt
    have hx:=hpm _ (List.getElem_mem hlt)
    rw [List.take_add_one,List.getElem?_eq_getElem hlt,List.map_append] at ih
    obtain⟨i,hxi,hi⟩:=z6n hx
    have ea:atC l (i:Int)=l[i]:=zob (i:=(i:Int)) (by omega)
    have hlen:((P.take k).map fun i=>D.bool (atC l i).ne).length=k:=by simp;omega
    simp only [Option.toList_some,List.map_cons,List.map_nil] at ih
    rw [hxi,ea] at ih
    repeat' ((conv=>whnf);first
    | refine Yz ?_
     | (refine zcj.intI k rfl hlt ?_;rw [hxi])
     | (refine zcj.rec Clm.cells_length i rfl hi rfl ?_)
     | (refine zbk.mk (by simp only [List.length_cons,List.length_nil];omega) ?_)
     | (refine zad.to ih rfl rfl))
   ·obtain rfl:k=P.length:=by omega
    rw [List.take_length]
    have hne:(P.map fun i=>(atC l i).ne).length=P.length:=List.length_map ..
    have hmap:(P.map fun i=>D.bool (atC l i).ne)=(P.map fun i=>(atC l i).ne).map D.bool:=by rw [List.map_map];rfl
    have hil:∀ {n:Nat} {cs:List D},n=P.length->cs=P.map (fun i=>D.bool (atC l i).ne)->Fc E zdp [I p.of,I p.fo,.d (.list n cs)] (LI (z2f p.of p.fo (P.map fun i=>(atC l i).ne))):=fun h1 h2=>by
     subst h1 h2
     have:Fc E zdp [I p.of,I p.fo,.d (.list (P.map fun i=>(atC l i).ne).length ((P.map fun i=>(atC l i).ne).map D.bool))] (LI (z2f p.of p.fo (P.map fun i=>(atC l i).ne))):=z7f g p.of p.fo (P.map fun i=>(atC l i).ne) ok.of' (by omega)
     rw [hne,<-hmap] at this
     exact this
    have hord:=yf6 p.of p.fo (P.map fun i=>(atC l i).ne)
    rw [hne] at hord
    have hrl:=hord.len
    generalize z2f p.of p.fo (P.map fun i=>(atC l i).ne)=r at *
    repeat' ((conv=>whnf);first
    | refine Yz ?_
     | (refine zaf.of (hil rfl (if_pos ⟨rfl,rfl⟩)) ?_))
    refine zad.to (zad.up g (fun k=>[(3,.ref ⟨0,14,0⟩ 0 l.length l.length),(4,I a),(5,LI P),(57,LI r),(58,I r.length),(59,I k)])
     (fun k=>ym3 p l w (s.take a++(r.take k).map (fun j=>P.getD j.toNat 0)++s.drop (a+k))++[(⟨0,6,0⟩,.row false zv6 1 P.length (P.map fun i=>D.bool (atC l i).ne))]) r.length (fun k hk ih=> ?_) 0 (Nat.zero_le _)) rfl ?_
    ·by_cases hlt:k<r.length
     ·have ih:=ih hlt
      have hjr:=hord.rng k (by omega)
      have hrk:r.getD k 0=r[k]:=by simp [List.getD,hlt]
      rw [hrk] at hjr
      obtain⟨j,hj,hjP⟩:∃j:Nat,r[k]=j/\j<P.length:=⟨r[k].toNat,by omega,by omega⟩
      have hset:(s.take a++(r.take k).map (fun j=>P.getD j.toNat 0)++s.drop (a+k)).set (a+k) P[j]=s.take a++(r.take (k+1)).map (fun j=>P.getD j.toNat 0)++s.drop (a+(k+1)):=by
       have hak:a+k<s.length:=by omega
       have hlen:(s.take a++(r.take k).map fun j=>P.getD j.toNat 0).length=a+k:=by simp;omega
       rw [List.drop_eq_getElem_cons hak,List.set_append_right _ _ (by omega),hlen,Nat.sub_self,List.set_cons_zero,List.take_add_one,List.getElem?_eq_getElem hlt,List.map_append,hj]
       simp [List.getD,hjP,Nat.add_assoc]
      have hTl:(s.take a++(r.take k).map (fun j=>P.getD j.toNat 0)++s.drop (a+k)).length=l.length:=by simp;omega
      rw [<-hset] at ih
      generalize s.take a++(r.take k).map (fun j=>P.getD j.toNat 0)++s.drop (a+k)=T at *
      have hp:=zlz T (a+k) P[j] (by omega)
      repeat' ((conv=>whnf);first
      | refine Yz ?_
       | (refine zcj.intI k rfl hlt ?_;rw [hj])
       | (refine zcj.intI j rfl hjP ?_)
       | (refine zbk.mk ⟨rfl,by simp;omega,rfl⟩ ?_)
       | (refine zad.to ih rfl ?_))
      have e:(0+((a:Int)+(k:Int)).toNat)*1=a+k:=by omega
      rw [e,hp]
      rfl
     ·obtain rfl:k=r.length:=by omega
      rw [List.take_length,List.drop_of_length_le (by omega),List.append_nil,<-hrk]
      have hRl:R.length=l.length:=by
       rw [hrk]
       simp
       omega
      repeat' ((conv=>whnf);first
      | refine Yz ?_
       | (refine Ret.mk ?_))
      rw [if_pos ⟨rfl,rfl⟩]
      show V.d (.list l.length _)=V.d (.list R.length _)
      rw [hRl]
    ·simp
  ·rw [if_pos ⟨rfl,rfl⟩,hwin,List.nil_append,<-hP,Nat.zero_add P.length]
   rfl
  ·rfl
 ·rw [if_neg ha]
  have he:zdc p l s=s:=by
   have:=zqj p l s
   unfold zdc
   rw [List.take_of_length_le (by omega),List.drop_of_length_le (by omega)]
   simp [z2f,ym5]
  rw [he]
  repeat' ((conv=>whnf);first
  | refine Yz ?_
   | (refine Ret.mk ?_))
  rw [if_pos ⟨rfl,rfl⟩]
  show V.d (.list l.length _)=V.d (.list s.length _)
  rw [hsl]
end
section
variable {E : Oracle} (g : Good E)
include g
theorem ygt (n:Int):Fc E zid [I n] (I (rng n 1 2147483646)):=by
 refine g.fn rfl rfl ?_
 have h:=zp7 g n 1 2147483646
 repeat' ((conv=>whnf);first
 | refine Yz ?_
  | (apply zaf.of;assumption)
  | (refine Ret.mk rfl))
end
def zv4 (p:Prg) (key:Int) (l:List Clm):Int:=zap [znu p,rng key 1 2147483646,zls l]
theorem zv8 {p:Prg} {key:Int} {l:List Clm} (h:zv4 p key l=0):znu p=0/\(1<=key/\key<=2147483646)/\zls l=0:=by
 unfold zv4 at h
 rw [zbq] at h
 exact⟨h _ (by simp),zcw.1 (h _ (by simp)),h _ (by simp)⟩
theorem yvq {p:Prg} {key:Int} {l:List Clm} (h:zv4 p key l=0) (hl:l.length<=12):yuc p l (z3m key l):=by
 obtain⟨h1,h2,h3⟩:=zv8 h
 have ok:=zjv h1
 exact⟨ok.small,ok.okWh,ok.okKy,(zia h3).2.1,hl,zrv key l,ok.of'⟩
theorem yd5 {p:Prg} {key:Int} {l:List Clm} (h:zv4 p key l=0):Tot l.length (ltB p l (z3m key l)):=yr5 (zia (zv8 h).2.2).2.2
section
variable {E : Oracle} (g : Good E)
include g
theorem zrf (p:Prg) (key:Int) (l:List Clm) (hs:zpt p) (hl:l.length<=1000000):Fc E zep [Pgv p,I key,LM l] (I (zv4 p key l)):=by
 have h1:=zrj g p hs
 have h2:=ygt g key
 have h3:=z6p g l hl
 have h4:=zpn g (znu p) (rng key 1 2147483646) (zls l)
 refine g.fn rfl rfl ?_
 unfold zv4
 repeat' ((conv=>whnf);first
 | refine Yz ?_
  | (apply zaf.of;assumption)
  | (refine Ret.mk rfl))
theorem yf7 {p:Prg} {key:Int} {l:List Clm} (h:zv4 p key l=0) (hl:l.length<=12):Fc E zhl [Pgv p,I key,LM l] (Rkv p l (z3m key l)):=by
 obtain⟨h1,h2,h3⟩:=zv8 h
 have hk:=yvb g key l h2 hl (zia h3).2.2
 refine g.fn rfl rfl ?_
 repeat' ((conv=>whnf);first
 | refine Yz ?_
  | (apply zaf.of;assumption)
  | (refine Ret.mk rfl))
theorem yql {p:Prg} {key:Int} {l:List Clm} {s:List Int} (h:zv4 p key l=0) (hl:l.length<=12) (hs:Srt l.length (ltB p l (z3m key l)) s):Fc E zdy [Pgv p,I key,LM l] (.tup [LI (zdc p l s),I 0]):=by
 have ok:=yvq h hl
 have h1:=zrf g p key l ok.sm (by omega)
 have h2:=yf7 g h hl
 have h3:=ykc g ok (yd5 h) hs
 rw [h] at h1
 refine g.fn rfl rfl ?_
 repeat' ((conv=>whnf);first
 | refine Yz ?_
  | (apply zaf.of;assumption)
  | (refine Ret.mk rfl))
theorem yne (R:List Int) (c:Int) (hl:R.length<=1000000) (hc:c∈R):Fc E zgj [LI R,I c] (I (R.findIdx fun x=>decide (x=c))):=by
 refine g.fn rfl rfl ?_
 have hfl:(R.findIdx fun x=>decide (x=c))<R.length:=List.findIdx_lt_length_of_exists ⟨c,hc,by simp⟩
 have hget:=List.findIdx_getElem (xs:=R) (p:=fun x=>decide (x=c)) (w:=hfl)
 have hbef:∀k (h:k<R.length),k<(R.findIdx fun x=>decide (x=c))->R[k]≠c:=fun k h hk=>by
  have:=List.not_of_lt_findIdx hk
  simpa using this
 generalize (R.findIdx fun x=>decide (x=c))=f at *
 repeat' ((conv=>whnf);first
 | refine Yz ?_)
 refine zad.to (zad.upP g (fun k=>[(0,LI R),(1,I c),(7,I R.length),(8,I k)]) (fun _=>[]) (fun k=>k<=f) R.length (fun k hk hp ih=> ?_) 0 (Nat.zero_le _) (Nat.zero_le _)) rfl rfl
 by_cases hlt:k<R.length
 ·by_cases he:k=f
  ·subst he
   have hx:R[k]=c:=of_decide_eq_true hget
   repeat' ((conv=>whnf);first
   | refine Yz ?_
    | (refine zcj.intI k rfl hlt ?_;rw [hx])
    | (refine Cmp.tt rfl ?_)
    | (refine Ret.mk rfl))
  ·have hx:¬c=R[k]:=fun e=>hbef k hlt (by omega) e.symm
   have ih:=ih hlt (by omega)
   repeat' ((conv=>whnf);first
   | refine Yz ?_
    | (refine zcj.intI k rfl hlt ?_)
    | (refine Cmp.ff hx ?_)
    | (refine zad.to ih rfl rfl))
 ·exact absurd hp (by omega)
theorem ynn {p:Prg} {key:Int} {l:List Clm} {s:List Int} (c:Int) (h:zv4 p key l=0) (hl:l.length<=12) (hs:Srt l.length (ltB p l (z3m key l)) s) (hc:0<=c/\c<l.length):Fc E zhi [Pgv p,I key,LM l,I c] (.tup [LI (yum (zdc p l s) c),I 0]):=by
 have ok:=yvq h hl
 have h1:=zrf g p key l ok.sm (by omega)
 have h2:=yf7 g h hl
 have h3:=ykc g ok (yd5 h) hs
 have hRl:(zdc p l s).length=l.length:=by rw [zim,hs.len]
 have hcR:c∈zdc p l s:=yjc (hs.pm.mem_iff.2 (zhw.2 hc))
 have h4:=yne g (zdc p l s) c (by omega) hcR
 rw [h] at h1
 refine g.fn rfl rfl ?_
 unfold yum
 have hfl:((zdc p l s).findIdx fun x=>decide (x=c))<=(zdc p l s).length:=List.findIdx_le_length
 generalize zdc p l s=R at *
 generalize (R.findIdx fun x=>decide (x=c))=f at *
 repeat' ((conv=>whnf);first
 | refine Yz ?_
  | (apply zaf.of;assumption)
  | (refine zaf.of (zem g _ _) ?_)
  | (refine zaf.of (zey g _ _) ?_)
  | (refine zbe.at 0 f rfl rfl ⟨by omega,hfl⟩ ?_)
  | (refine Ret.mk ?_))
 have hw:win (R.map DI) (0*1) ((f-0)*1)=(R.take f).map DI:=by
  unfold win
  simp
 rw [hw]
 show V.tup [V.d (.list (f-0) _),I 0]=V.tup [V.d (.list (R.take f).length _),I 0]
 rw [List.length_take,Nat.min_eq_left hfl,Nat.sub_zero]
end
abbrev yx5:List UInt8:=[104,105,115,116,111,114,105,99]
abbrev yyd:List UInt8:=[114,101,116,105,109,101,100]
abbrev yyc:List UInt8:=[121,101,97,114,114,111,117,110,100]
abbrev ylu:List UInt8:=[100,97,121,115]
abbrev yw0:List UInt8:=[115,101,97,116,115]
abbrev yx9:List UInt8:=[100,105,115,116,97,110,99,101]
def yyp:List Cls:=[⟨yx5,[⟨yx5,[61],1⟩,⟨yyd,[61],0⟩],[⟨ylu,true⟩,⟨yw0,true⟩]⟩,⟨yyd,[⟨yx5,[61],1⟩],[⟨ylu,true⟩,⟨yw0,true⟩]⟩,⟨yyc,[⟨yyc,[61],1⟩],[⟨ylu,true⟩,⟨yw0,true⟩,⟨yx9,true⟩]⟩,⟨[111,116,104,101,114,115],[],[⟨ylu,true⟩,⟨yw0,true⟩,⟨yx9,true⟩]⟩]
def yyj (po m fo:Int):Prg:=⟨yyp,po,m,fo⟩
section
variable {E : Oracle} (g : Good E)
include g
theorem ylj:Fc E zi1 [] (Pgv (yyj 2 2 1)):=g.compR 1000 (by decide+kernel)
abbrev ruA (nm:List UInt8) (d:Int):List D:=[.str nm,.str [97,98],.str [65],.str [],.str [102,97,114],.str [],DI 2,DI 8,DI d,DI 60,DI 0,DI 1,DI 0,.bool false,.bool false,.bool false,.bool false,DI 0]
theorem ru1:Fc E zln [.d (.agg (ruA [97] 96)),S ylu] (.tup [I 2,I 0]):=g.compR 1000 (by decide+kernel)
theorem ru2:Fc E zdy [Pgv (yyj 2 2 1),I 3,.d (.list 2 (ruA [97] 96++ruA [98] 127))] (.tup [LI [1,0],I 0]):=g.compR 2000 (by decide+kernel)
theorem ru3:Fc E zgl [Per 2 8 96] (.tup [I 2,I 0]):=g.compR 100 (by decide+kernel)
theorem ru4:Fc E zed [LI [1,0],LI [1,0]] (B true):=g.compR 100 (by decide+kernel)
theorem z9e:Fc E zh8 [] (B true):=by
 have h1:=ylj g
 refine g.fn rfl rfl ?_
 repeat' ((conv=>whnf);first
 | refine Yz ?_
  | (apply zaf.of;assumption)
  | (apply zaf.of;first |exact ru1 g|exact ru2 g|exact ru3 g|exact ru4 g)
  | (exact Ret.mk rfl))
theorem zsw (l:List Clm) (hl:l.length<=1000):Fc E zf4 [LM l] (LM l):=by
 refine g.fn rfl rfl ?_
 repeat' ((conv=>whnf);first
 | refine Yz ?_)
 refine zad.to (zad.up g (fun k=>[(3,.ref ⟨0,3,0⟩ 0 k k),(6,LM l),(7,I l.length),(8,I k)]) (fun k=>[(⟨0,2,0⟩,.row false zal 18 0 []),(⟨0,3,0⟩,.row false zal 18 k ((l.take k).flatMap Clm.cells))]) l.length (fun k hk ih=> ?_) 0 (Nat.zero_le _)) rfl rfl
 by_cases hlt:k<l.length
 ·have ih:=ih hlt
  have hf:=zlb Clm.cells l k hlt
  have hfl:=za2 Clm.cells 18 Clm.cells_length (l.take k)
  rw [List.length_take,Nat.min_eq_left hk] at hfl
  rw [hf] at ih
  repeat' ((conv=>whnf);first
  | refine Yz ?_
   | (refine za0.rec Clm.cells_length k rfl hlt ?_)
   | (refine zbk.mk ⟨rfl,rfl,rfl,rfl,rfl,rfl,by show (k+1)*168<=_;omega,by omega⟩ ?_)
   | (refine zad.to ih rfl rfl))
 ·obtain rfl:k=l.length:=by omega
  rw [List.take_length]
  repeat' ((conv=>whnf);first
  | refine Yz ?_
   | (rw [if_pos (⟨rfl,rfl⟩:_/\_)])
   | (exact Ret.mk rfl))
end
theorem yad:∀ {l:List Clm} {seen:List (List UInt8)},(∀c∈l,zhz c=0)->(∀c∈l,c.rq.nm∉seen)->(znr l).Nodup->zlr seen l=0
 | [],_,_,_,_=>rfl
 | x::r,seen,h1,h2,h3=>by
  have hn:=List.nodup_cons.1 h3
  have hz:zrw seen x=0:=by
   unfold zrw
   rw [h1 x (List.mem_cons_self ..),if_neg (h2 x (List.mem_cons_self ..))]
   rfl
  rw [zlr,if_pos hz]
  refine yad (fun c hc=>h1 c (List.mem_cons_of_mem _ hc)) (fun c hc hm=> ?_) hn.2
  rcases List.mem_append.1 hm with hm|hm
  ·exact h2 c (List.mem_cons_of_mem _ hc) hm
  ·exact hn.1 (List.mem_map.2 ⟨c,hc,List.mem_singleton.1 hm⟩)
theorem z91 {p:Prg} {l:List Clm} {s:List Int} (hs:s.Perm (idL l.length)):Ord l.length (zdc p l s):=by
 have hl:(zdc p l s).length=l.length:=by rw [zim,hs.length_eq,zbx]
 have hmem:∀k (h:k<(zdc p l s).length),(zdc p l s)[k]∈idL l.length:=fun k h=>hs.mem_iff.1 (yov (List.getElem_mem h))
 have hg:∀k (h:k<(zdc p l s).length),(zdc p l s).getD k 0=(zdc p l s)[k]:=fun k h=>by simp [List.getD,h]
 have hnd:(zdc p l s).Nodup:=by
  have hsn:(s.take (zfe p l s)++s.drop (zfe p l s)).Nodup:=by
   rw [List.take_append_drop]
   exact hs.nodup_iff.2 (z0v _)
  obtain⟨n1,n2,n3⟩:=List.nodup_append.1 hsn
  unfold zdc
  generalize s.drop (zfe p l s)=P at *
  have ho:=yf6 p.of p.fo (P.map fun i=>(atC l i).ne)
  rw [List.length_map] at ho
  generalize z2f p.of p.fo (P.map fun i=>(atC l i).ne)=r at *
  have hrl:=ho.len
  have hr:∀k (h:k<r.length),r.getD k 0=r[k]:=fun k h=>by simp [List.getD,h]
  have hP:∀k (h:k<r.length),r[k].toNat<P.length:=fun k h=>by
   have:=ho.rng k (by omega)
   rw [hr k h] at this
   omega
  have hv:∀k (h:k<r.length),P.getD r[k].toNat 0=P[r[k].toNat]'(hP k h):=fun k h=>by simp [List.getD,hP k h]
  refine List.nodup_append.2 ⟨n1,?_,fun x hx y hy=> ?_⟩
  ·refine List.pairwise_iff_getElem.2 fun i j hi hj hij e=> ?_
   rw [List.length_map] at hi hj
   rw [List.getElem_map,List.getElem_map,hv i hi,hv j hj] at e
   have hw:=List.pairwise_iff_getElem.1 n2
   have hne:r[i].toNat≠r[j].toNat:=fun hc=>by
    have h1:=ho.rng i (by omega)
    have h2:=ho.rng j (by omega)
    rw [hr i hi] at h1
    rw [hr j hj] at h2
    have:=ho.inj i j (by omega) (by omega) (by rw [hr i hi,hr j hj];omega)
    omega
   rcases Nat.lt_or_gt_of_ne hne with h|h
   ·exact hw _ _ (hP i hi) (hP j hj) h e
   ·exact hw _ _ (hP j hj) (hP i hi) h e.symm
  ·obtain⟨j,hj,rfl⟩:=List.mem_map.1 hy
   obtain⟨k,hk,rfl⟩:=List.getElem_of_mem hj
   rw [hv k hk]
   exact n3 x hx _ (List.getElem_mem _)
 refine⟨hl,fun k hk=> ?_,fun i j hi hj e=> ?_⟩
 ·rw [hg k (by omega)]
  exact zhw.1 (hmem k (by omega))
 ·rw [hg i (by omega),hg j (by omega)] at e
  have hw:=List.pairwise_iff_getElem.1 hnd
  rcases Nat.lt_trichotomy i j with h|h|h
  ·exact absurd e (hw i j (by omega) (by omega) h)
  ·exact h
  ·exact absurd e.symm (hw j i (by omega) (by omega) h)
theorem yaw {p:Prg} {l:List Clm} {s w:List Int} (hs:s.Pairwise fun a b=>ltB p l w a b=true) {i:Nat} (hi:i<(zdc p l s).length):if i<zfe p l s then clA p l (zdc p l s)[i]<p.po else p.po<=clA p l (zdc p l s)[i]:=by
 have hle:=zqj p l s
 have hRl:=zim p l s
 have htl:(s.take (zfe p l s)).length=zfe p l s:=by simp;omega
 split
 ·rename_i h
  have e0:(zdc p l s)[i]? =s[i]? :=by
   unfold zdc
   rw [List.getElem?_append_left (by omega),List.getElem?_take_of_lt h]
  rw [List.getElem?_eq_getElem hi,List.getElem?_eq_getElem (show i<s.length by omega)] at e0
  have e:=Option.some.inj e0
  rw [e]
  exact zz8 h
 ·rename_i h
  have hin:(zdc p l s)[i]∈s.drop (zfe p l s):=by
   have hd:(zdc p l s)[i]∈(zdc p l s).drop (zfe p l s):=by
    rw [List.mem_drop_iff_getElem]
    exact⟨i-zfe p l s,by omega,by congr 1;omega⟩
   have e:(zdc p l s).drop (zfe p l s)=(z2f p.of p.fo ((s.drop (zfe p l s)).map fun i=>(atC l i).ne)).map fun j=>(s.drop (zfe p l s)).getD j.toNat 0:=by
    conv=>lhs;unfold zdc
    rw [List.drop_append_of_le_length (by omega),List.drop_of_length_le (by omega),List.nil_append]
   rw [e] at hd
   obtain⟨j,hj,he⟩:=List.mem_map.1 hd
   have hp:(z2f p.of p.fo ((s.drop (zfe p l s)).map fun i=>(atC l i).ne)).Perm _:=zng p.of p.fo _ _ _ _ (zgd 0 _)
   have hlt:j.toNat<(s.drop (zfe p l s)).length:=by
    rcases List.mem_append.1 (hp.mem_iff.1 hj) with h|h
    all_goals
     obtain⟨i,h1,h2⟩:=zk3 h
     have:=(List.getElem?_eq_some_iff.1 h2).1
     rw [List.length_map] at this
     omega
   rw [<-he,List.getD,List.getElem?_eq_getElem hlt]
   exact List.getElem_mem hlt
  obtain⟨k,hk,he⟩:=List.getElem_of_mem hin
  rw [<-he,List.getElem_drop]
  exact ydk hs (by simp at hk;omega) (Nat.le_add_right _ _)
def zca (p:Prg):Prg:=⟨p.cl,p.cl.length,p.of,0⟩
theorem ykw {p:Prg} (h:znu p=0):znu (zca p)=0:=by
 have ok:=zjv h
 have ho:=ok.of'
 unfold znu at h ⊢
 rw [zbq] at h ⊢
 intro x hx
 simp only [List.mem_cons,List.not_mem_nil,or_false] at hx
 rcases hx with rfl|rfl|rfl|rfl
 ·exact h _ (by simp [zca])
 ·exact h (if 16<p.cl.length then 5 else 0) (by simp)
 ·exact h _ (by simp [zca])
 ·unfold zgf zca
  rw [zcw.2 (by dsimp only;omega),zcw.2 (by dsimp only;omega),zcw.2 (by dsimp only;omega)]
  rfl
theorem z8r {p:Prg} {l:List Clm} {s:List Int} {i:Nat} (h:i<zfe p l s):(zdc p l s).getD i 0=s.getD i 0:=by
 have hle:=zqj p l s
 have e0:(zdc p l s)[i]? =s[i]? :=by
  unfold zdc
  rw [List.getElem?_append_left (by simp;omega),List.getElem?_take_of_lt h]
 rw [List.getD,List.getD,e0]
theorem ygh {p:Prg} {l:List Clm} {s w:List Int} (hs:s.Pairwise fun a b=>ltB p l w a b=true) {j i:Nat} (hji:j<i) (hi:i<s.length):(dcP p (atC l ((zdc (zca p) l s).getD j 0)) (atC l ((zdc (zca p) l s).getD i 0))).1<=0:=by
 have hsp:s.Pairwise fun a b=>ltB (zca p) l w a b=true:=hs
 have hRl:=zim (zca p) l s
 have hg:∀k (h:k<(zdc (zca p) l s).length),(zdc (zca p) l s).getD k 0=(zdc (zca p) l s)[k]:=fun k h=>by simp [List.getD,h]
 have ci:=yaw (p:=zca p) hsp (i:=i) (by omega)
 have cj:=yaw (p:=zca p) hsp (i:=j) (by omega)
 rw [<-hg i (by omega)] at ci
 rw [<-hg j (by omega)] at cj
 have e:∀x:Int,clA (zca p) l x=zyz (atC l x) 0 p.cl:=fun _=>rfl
 have u:=fun x=>(zwp (atC l x) 0 p.cl).2
 have hpo:(zca p).po=p.cl.length:=rfl
 by_cases hia:i<zfe (zca p) l s
 ·rw [z8r hia,z8r (p:=zca p) (i:=j) (by omega)]
  have hj:j<s.length:=by omega
  have:=List.pairwise_iff_getElem.1 hs j i hj hi hji
  rw [zsf] at this
  have e1:s.getD j 0=s[j]:=by simp [List.getD,hj]
  have e2:s.getD i 0=s[i]:=by simp [List.getD,hi]
  rw [e1,e2]
  omega
 ·rw [if_neg hia,e,hpo] at ci
  have ui:=u ((zdc (zca p) l s).getD i 0)
  have uj:=u ((zdc (zca p) l s).getD j 0)
  rw [e,hpo] at cj
  unfold dcP
  rw [z01]
  by_cases hja:j<zfe (zca p) l s
  ·rw [if_pos hja] at cj
   rw [if_pos (by omega)]
   decide
  ·rw [if_neg hja] at cj
   rw [if_neg (by omega),if_neg (by omega)]
   have hk:zyz (atC l ((zdc (zca p) l s).getD j 0)) 0 p.cl=((p.cl.length:Nat):Int):=by omega
   rw [hk,z55 (Nat.le_refl _)]
   exact Int.le_refl 0
theorem z2p {α:Type} {r:α->α->Prop} (asy:∀a b,r a b->¬r b a):∀ {l m:List α},l.Perm m->l.Pairwise r->m.Pairwise r->l=m
 | [],m,hp,_,_=>hp.nil_eq
 | a::l,m,hp,hl,hm=>by
  cases m with
  | nil=>exact absurd hp.length_eq (by simp)
  | cons b m=>
   obtain⟨h1,h2⟩:=List.pairwise_cons.1 hl
   obtain⟨k1,k2⟩:=List.pairwise_cons.1 hm
   have e:a=b:=by
    rcases List.mem_cons.1 (hp.mem_iff.1 (List.mem_cons_self ..)) with h|h
    ·exact h
    ·rcases List.mem_cons.1 (hp.mem_iff.2 (List.mem_cons_self ..)) with k|k
     ·exact k.symm
     ·exact absurd (h1 _ k) (asy _ _ (k1 _ h))
   subst e
   rw [z2p asy (List.Perm.cons_inv hp) h2 k2]
theorem z5h:∀ {l m:List Int},l.Nodup->(∀x∈l,x∈m)->m.length<=l.length->l.Perm m
 | [],m,_,_,h=>by rw [List.eq_nil_of_length_eq_zero (Nat.le_zero.1 h)]
 | a::l,m,hn,hs,h=>by
  obtain⟨h1,h2⟩:=List.nodup_cons.1 hn
  have ha:=hs a (List.mem_cons_self ..)
  have hl:=List.length_erase_of_mem ha
  rw [List.length_cons] at h
  refine((z5h h2 (fun x hx=> ?_) (by omega)).cons a).trans (List.perm_cons_erase ha).symm
  exact(List.mem_erase_of_ne fun e=>h1 (by rw [<-e];exact hx)).2 (hs x (List.mem_cons_of_mem _ hx))
theorem z5e {α:Type} {l:List α} {i:Nat} (h:i<l.length):(l[i]::l.eraseIdx i).Perm l:=by
 rw [List.eraseIdx_eq_take_drop_succ]
 refine List.perm_middle.symm.trans ?_
 rw [<-List.drop_eq_getElem_cons h,List.take_append_drop]
theorem z18 {R:List Int} {k:Nat} (hk:k<R.length):R.getD k 0=R[k]:=by simp [List.getD,hk]
theorem Ord.mem {n:Nat} {R:List Int} (h:Ord n R) {k:Nat} (hk:k<R.length):0<=R[k]/\R[k]<n:=by
 rw [<-z18 hk]
 exact h.rng k (by have:=h.len;omega)
theorem Ord.nodup {n:Nat} {R:List Int} (h:Ord n R):R.Nodup:=by
 have hl:=h.len
 refine List.pairwise_iff_getElem.2 fun i j hi hj hij e=> ?_
 have:=h.inj i j (by omega) (by omega) (by rw [z18 hi,z18 hj,e])
 omega
theorem Ord.perm {n:Nat} {R:List Int} (h:Ord n R):R.Perm (idL n):=by
 refine z5h h.nodup (fun x hx=> ?_) (by rw [zbx,h.len];exact Nat.le_refl _)
 obtain⟨k,hk,rfl⟩:=List.getElem_of_mem hx
 exact zhw.2 (h.mem hk)
theorem yih (l:List Clm):(idL l.length).map (atC l)=l:=by
 refine List.ext_getElem (by rw [List.length_map,zbx]) fun k h1 h2=> ?_
 have h3:(idL l.length)[k]? =some (k:Int):=z02 h2
 have h4:(idL l.length)[k]'(by rw [zbx];exact h2)=(k:Int):=by
  rw [List.getElem?_eq_getElem (by rw [zbx];exact h2)] at h3
  exact Option.some.inj h3
 rw [List.getElem_map,h4,zob (by simpa using h2)]
 rfl
abbrev yw2 (p:Prg) (l:List Clm):Prop:=l.Pairwise fun x y=>(dcP p x y).1≠0
theorem ypy {p:Prg} {l m:List Clm} (h:yw2 p l) (hp:m.Perm l):yw2 p m:=
 hp.symm.pairwise h fun {a b} hab e=>hab (by rw [zoh,e];rfl)
theorem Ord.claims {l:List Clm} {R:List Int} (h:Ord l.length R):(R.map (atC l)).Perm l:=by
 have:=h.perm.map (atC l)
 rwa [yih] at this
theorem ynw {p:Prg} {l:List Clm} {R R':List Int} {a pos:Nat} (hR:Ord l.length R) (ha:a<l.length) (hp:pos<R.length) (hpa:R[pos]=a) (hR':Ord (l.eraseIdx a).length R')
  (h1:∀ {j i:Nat},j<i->i<R.length->(dcP p (atC l (R.getD j 0)) (atC l (R.getD i 0))).1<=0) (h2:∀ {j i:Nat},j<i->i<R'.length->(dcP p (atC (l.eraseIdx a) (R'.getD j 0)) (atC (l.eraseIdx a) (R'.getD i 0))).1<=0) (hne:yw2 p l):
  (R.eraseIdx pos).map (atC l)=R'.map (atC (l.eraseIdx a)):=by
 have asy:∀x y:Clm,(dcP p x y).1<0->¬(dcP p y x).1<0:=fun x y h k=>by rw [zoh] at k;omega
 have st:∀ {l:List Clm} {R:List Int},Ord l.length R->(∀ {j i:Nat},j<i->i<R.length->(dcP p (atC l (R.getD j 0)) (atC l (R.getD i 0))).1<=0)->yw2 p l->(R.map (atC l)).Pairwise fun x y=>(dcP p x y).1<0:=fun {l R} hR h1 hne=>by
  have hn:=List.pairwise_iff_getElem.1 (ypy hne hR.claims)
  refine List.pairwise_iff_getElem.2 fun j i hj hi hji=> ?_
  have h3:=hn j i hj hi hji
  rw [List.length_map] at hj hi
  have h4:=h1 hji hi
  rw [z18 hj,z18 hi] at h4
  rw [List.getElem_map,List.getElem_map] at h3 ⊢
  omega
 have hsub:(l.eraseIdx a).Sublist l:=List.eraseIdx_sublist l a
 refine z2p asy ?_ ((st hR h1 hne).sublist ((List.eraseIdx_sublist R pos).map _)) (st hR' h2 (hne.sublist hsub))
 refine List.Perm.trans ?_ hR'.claims.symm
 have e1:(R.map (atC l)).Perm (atC l R[pos]::(R.eraseIdx pos).map (atC l)):=(z5e hp).symm.map (atC l)
 have e2:l.Perm (l[a]::l.eraseIdx a):=(z5e ha).symm
 have e3:atC l R[pos]=l[a]:=by rw [hpa,zob (by simpa using ha)];rfl
 rw [e3] at e1
 exact List.Perm.cons_inv ((e1.symm.trans hR.claims).trans e2)
def rsL (l:List Clm) (a k:Nat):List Clm:=(l.take k).eraseIdx a
theorem ypn {l:List Clm} {a k:Nat} (h:k<l.length):rsL l a (k+1)=if k=a then rsL l a k else rsL l a k++[l[k]]:=by
 have hl:(l.take k).length=k:=by rw [List.length_take];omega
 unfold rsL
 rw [List.take_add_one,List.getElem?_eq_getElem h]
 show (l.take k++[l[k]]).eraseIdx a=_
 by_cases hka:k=a
 ·subst hka
  rw [if_pos rfl,List.eraseIdx_append_of_length_le (by omega),hl,Nat.sub_self,List.eraseIdx_of_length_le (l:=l.take k) (by omega)]
  simp
 ·rw [if_neg hka]
  by_cases hlt:a<k
  ·rw [List.eraseIdx_append_of_lt_length (by omega)]
  ·rw [List.eraseIdx_append_of_length_le (by omega),List.eraseIdx_of_length_le (l:=l.take k) (by omega),hl,List.eraseIdx_of_length_le (by rw [List.length_singleton];omega)]
theorem ywg (l:List Clm) (a k:Nat):(rsL l a k).length<=k:=by
 unfold rsL
 have:=List.length_eraseIdx_le (l.take k) a
 rw [List.length_take] at this
 omega
theorem yoz (l:List Clm) (a:Nat):rsL l a l.length=l.eraseIdx a:=by unfold rsL;rw [List.take_length]
theorem ygo {l m:List Clm} (h:zls l=0) (hs:m.Sublist l):zls m=0:=by
 obtain⟨h1,h2,h3⟩:=zia h
 have hn:=hs.length_le
 unfold zls
 rw [if_neg (by omega)]
 exact yad (fun c hc=>h2 c (hs.subset hc)) (fun c _ hc=>by cases hc) (h3.sublist (hs.map _))
def ybd (pos k:Nat):Nat:=if k<=pos then k else k-1
theorem yoq {pos k:Nat}:ybd pos (k+1)=if k=pos then ybd pos k else ybd pos k+1:=by
 unfold ybd
 repeat' split
 all_goals omega
theorem yrf {R:List Int} {pos k:Nat} (hk:k<R.length) (hp:pos<R.length) (h:k≠pos):∃h':ybd pos k<(R.eraseIdx pos).length,(R.eraseIdx pos)[ybd pos k]=R[k]:=by
 have hl:(R.eraseIdx pos).length=R.length-1:=by rw [List.length_eraseIdx,if_pos hp]
 unfold ybd
 by_cases h2:k<pos
 ·refine⟨by rw [if_pos (by omega)];omega,?_⟩
  simp only [if_pos (show k<=pos by omega)]
  rw [List.getElem_eraseIdx_of_lt _ h2]
 ·refine⟨by rw [if_neg (by omega)];omega,?_⟩
  simp only [if_neg (show ¬k<=pos by omega)]
  rw [List.getElem_eraseIdx_of_ge _ (by omega)]
  congr 1
  omega
theorem zcj.rcA {α:Type} {cell:α->List D} {w:Nat} (hw:∀a,(cell a).length=w) {l:List α} {i:Int} {K:D->Prop} {d:D} (k:Nat) (hi:i=k) (h:k<l.length) (hj:(cell l[k])[0]? =some d) (hk:K d):zcj (l.flatMap cell) (i.toNat*w+0+0) K:=by
 rw [Nat.add_zero]
 exact zcj.rec hw k hi h hj hk
theorem zcj.rcB {α:Type} {cell:α->List D} {w:Nat} (hw:∀a,(cell a).length=w) {l:List α} {i:Int} {K:D->Prop} {d:D} (k:Nat) (hi:i=k) (h:k<l.length) (hj:(cell l[k])[0]? =some d) (hk:K d):zcj (l.flatMap cell) ((0+i.toNat)*w+0+0) K:=by
 rw [Nat.zero_add]
 exact zcj.rcA hw k hi h hj hk
theorem zcj.gA {cs:List D} {i:Int} {w:Nat} {K:D->Prop} (h:zcj cs (i.toNat*w+0+0) K):zcj cs (i.toNat*w+0+0) K:=h
theorem zcj.gB {cs:List D} {i:Int} {w:Nat} {K:D->Prop} (h:zcj cs ((0+i.toNat)*w+0+0) K):zcj cs ((0+i.toNat)*w+0+0) K:=h
theorem zcj.gC {cs:List D} {i:Int} {K:D->Prop} (h:zcj cs (i.toNat*1) K):zcj cs (i.toNat*1) K:=h
abbrev lfP (p:Prg):Evl.Id×Ob:=(⟨0,4,0⟩,.cells zat [LC p.cl,I p.po,I p.of,I p.fo])
section
variable {E : Oracle} (g : Good E)
include g
theorem ybr {p:Prg} {l:List Clm} {R:List Int} {a pos:Nat} (hz:znu (zca p)=0) (hc:zls l=0) (hl:l.length<=6) (hR:Ord l.length R) (ha:a<l.length) (hp:pos<R.length) (hpa:R[pos]=a)
  (h1:∀ {j i:Nat},j<i->i<R.length->(dcP (zca p) (atC l (R.getD j 0)) (atC l (R.getD i 0))).1<=0):
  Fc E ziz [Pgv (zca p),LM l,I a,LI R] (B true):=by
 have ok:=zjv hz
 refine g.fn rfl rfl ?_
 have hzr:=ygo hc (List.eraseIdx_sublist l a)
 have rk:zv4 (zca p) 7 (l.eraseIdx a)=0:=by
  unfold zv4
  rw [hz,zcw.2 (by omega),hzr]
  rfl
 have hrl:(l.eraseIdx a).length=l.length-1:=by rw [List.length_eraseIdx,if_pos ha]
 obtain⟨s,hsr⟩:=yqp (yd5 rk)
 have p1:=yql g rk (by omega) hsr
 have hO:=z91 (p:=zca p) hsr.pm
 have hle:∀ {j i:Nat},j<i->i<(zdc (zca p) (l.eraseIdx a) s).length->(dcP (zca p) (atC (l.eraseIdx a) ((zdc (zca p) (l.eraseIdx a) s).getD j 0)) (atC (l.eraseIdx a) ((zdc (zca p) (l.eraseIdx a) s).getD i 0))).1<=0:=fun {j i} hji hi=>by
  have hps:zca (zca p)=zca p:=rfl
  have:=ygh (p:=zca p) hsr.up hji (by rw [zim] at hi;exact hi)
  rw [hps] at this
  exact this
 have hout:=fun hne=>ynw (p:=zca p) hR ha hp hpa hO h1 hle hne
 generalize zdc (zca p) (l.eraseIdx a) s=R' at *
 have p3:=yas g _ R' hO (by omega)
 have hR'l:=hO.len
 have hRl:=hR.len
 have p0:=zro g (zca p) ok.small
 have p2:=zsw g (l.eraseIdx a) (by omega)
 have hD:=fun(x y:Clm) (hx:zhz x=0) (hy:zhz y=0)=>ym8 g (zca p) x y ok.small hx hy ok.okWh ok.okKy
 have hcl:=(zia hc).2.1
 generalize zca p=p' at *
 repeat' ((conv=>whnf);first
 | refine Yz ?_)
 refine zad.to (zad.up g (fun k=>[(1,LM l),(2,I a),(3,LI R),(4,.ptr ⟨0,4,0⟩ 0 0),(9,.ref ⟨0,9,0⟩ 0 (rsL l a k).length (rsL l a k).length),(21,LM l),(22,I l.length),(23,I k)]) (fun k=>[lfP p',(⟨0,9,0⟩,.row false zax 18 (rsL l a k).length ((rsL l a k).flatMap Clm.cells))]) l.length (fun k hk ih=> ?_) 0 (Nat.zero_le _)) rfl rfl
 by_cases hlt:k<l.length
 ·have ih:=ih hlt
  have hfl:=za2 Clm.cells 18 Clm.cells_length (rsL l a k)
  have hle:=ywg l a k
  rw [ypn hlt] at ih
  by_cases hka:k=a
  ·rw [if_pos hka] at ih
   repeat' ((conv=>whnf);first
   | refine Yz ?_
    | (refine za0.rec Clm.cells_length k rfl hlt ?_)
    | (refine zad.to ih rfl rfl))
  ·rw [if_neg hka,List.length_append,List.flatMap_append] at ih
   repeat' ((conv=>whnf);first
   | refine Yz ?_
    | (refine za0.rec Clm.cells_length k rfl hlt ?_)
    | (refine zbk.mk ⟨rfl,rfl,rfl,rfl,rfl,rfl,by show ((rsL l a k).length+1)*168<=_;omega,by omega⟩ ?_)
    | (refine zad.to ih rfl rfl))
 ·obtain rfl:k=l.length:=by omega
  clear ih
  rw [yoz]
  repeat' ((conv=>whnf);first
  | refine Yz ?_)
  refine zad.to (zad.upP g (fun k=>[(1,LM l),(2,I a),(3,LI R),(4,.ptr ⟨0,4,0⟩ 0 0),(9,.ref ⟨0,9,0⟩ 0 (l.eraseIdx a).length (l.eraseIdx a).length),(37,I l.length),(38,I k)]) (fun _=>[lfP p',(⟨0,9,0⟩,.row false zax 18 (l.eraseIdx a).length ((l.eraseIdx a).flatMap Clm.cells))]) (fun k=>∀i j (hi:i<l.length) (hj:j<i),i<k->(dcP p' l[j] l[i]).1≠0) l.length (fun k hk hP ih=> ?_) 0 (Nat.zero_le _) (fun i j _ _ h=>absurd h (Nat.not_lt_zero _))) rfl rfl
  by_cases hlt:k<l.length
  ·have ih:=ih hlt
   repeat' ((conv=>whnf);first
   | refine Yz ?_)
   refine zad.to (zad.upP g (fun m=>[(1,LM l),(2,I a),(3,LI R),(4,.ptr ⟨0,4,0⟩ 0 0),(9,.ref ⟨0,9,0⟩ 0 (l.eraseIdx a).length (l.eraseIdx a).length),(12,I k),(37,I l.length),(38,I k),(41,I k),(42,I m)]) (fun _=>[lfP p',(⟨0,9,0⟩,.row false zax 18 (l.eraseIdx a).length ((l.eraseIdx a).flatMap Clm.cells))]) (fun m=>∀j (hj:j<k),j<m->(dcP p' l[j] l[k]).1≠0) k (fun m hm hQ jh=> ?_) 0 (Nat.zero_le _) (fun j _ h=>absurd h (Nat.not_lt_zero _))) rfl rfl
   by_cases hmk:m<k
   ·have jh:=jh hmk
    have hml:m<l.length:=by omega
    have hd:=hD l[k] l[m] (hcl _ (List.getElem_mem hlt)) (hcl _ (List.getElem_mem hml))
    by_cases h0:(dcP p' l[k] l[m]).1=0
    ·repeat' ((conv=>whnf);first
    | refine Yz ?_
      | (refine za0.rec Clm.cells_length k rfl hlt ?_)
      | (refine za0.rec Clm.cells_length m rfl hml ?_)
      | (apply zaf.of;assumption)
      | (refine Cmp.tt h0 ?_)
      | (exact Ret.mk rfl))
    ·have jh:=jh fun j hj hjm=>by
      by_cases e:j=m
      ·subst e
       rw [zoh]
       omega
      ·exact hQ j hj (by omega)
     repeat' ((conv=>whnf);first
     | refine Yz ?_
      | (refine za0.rec Clm.cells_length k rfl hlt ?_)
      | (refine za0.rec Clm.cells_length m rfl hml ?_)
      | (apply zaf.of;assumption)
      | (refine Cmp.ff h0 ?_)
      | (refine zad.to jh rfl rfl))
   ·have ih:=ih fun i j hi hj hik=>by
     by_cases e:i=k
     ·subst e
      exact hQ j hj (by omega)
     ·exact hP i j hi hj (by omega)
    repeat' ((conv=>whnf);first
    | refine Yz ?_
     | (refine zad.to ih rfl rfl))
  ·obtain rfl:k=l.length:=by omega
   clear ih
   have hout:=hout (List.pairwise_iff_getElem.2 fun j i hj hi hji=>hP i j hi hji hi)
   generalize hrest:l.eraseIdx a=rest at *
   repeat' ((conv=>whnf);first
   | refine Yz ?_
    | (apply zaf.of;assumption)
    | (rw [if_pos (⟨rfl,rfl⟩:_/\_)]))
   refine zad.to (zad.up g (fun k=>[(1,LM l),(2,I a),(9,.ref ⟨0,9,0⟩ 0 rest.length rest.length),(16,LI R'),(18,I (ybd pos k)),(84,LI R),(85,I R.length),(86,I k)]) (fun _=>[lfP p',(⟨0,9,0⟩,.row false zax 18 rest.length (rest.flatMap Clm.cells))]) R.length (fun k hk ih=> ?_) 0 (Nat.zero_le _)) rfl rfl
   by_cases hkR:k<R.length
   ·have ih:=ih hkR
    rw [yoq] at ih
    by_cases hkp:k=pos
    ·rw [if_pos hkp] at ih
     subst hkp
     repeat' ((conv=>whnf);first
     | refine Yz ?_
      | (refine zcj.intI k rfl hkR ?_;rw [hpa])
      | (refine zad.to ih rfl rfl))
    ·rw [if_neg hkp] at ih
     obtain⟨hc1,hc2⟩:=yrf hkR hp hkp
     have hmr:=hR.mem hkR
     obtain⟨x,hx⟩:∃x:Nat,R[k]=x:=⟨R[k].toNat,by omega⟩
     have hxl:x<l.length:=by omega
     have hcR:ybd pos k<R'.length:=by
      have:=congrArg List.length hout
      rw [List.length_map,List.length_map] at this
      omega
     have hmr':=hO.mem hcR
     obtain⟨y,hy⟩:∃y:Nat,R'[ybd pos k]=y:=⟨R'[ybd pos k].toNat,by omega⟩
     have hyl:y<rest.length:=by omega
     have hxa:¬(x:Int)=a:=fun e=>by
      have:=List.pairwise_iff_getElem.1 hR.nodup
      rcases Nat.lt_or_gt_of_ne hkp with h|h
      ·exact this k pos hkR hp h (by rw [hx,hpa,e])
      ·exact this pos k hp hkR h (by rw [hx,hpa,e])
     have hnm:rest[y].rq.nm=l[x].rq.nm:=by
      have h3:((R.eraseIdx pos).map (atC l))[ybd pos k]? =(R'.map (atC rest))[ybd pos k]? :=by rw [hout]
      rw [List.getElem?_map,List.getElem?_map,List.getElem?_eq_getElem hc1,List.getElem?_eq_getElem hcR,hc2,hx,hy] at h3
      have h3:=Option.some.inj h3
      rw [zob (by simpa using hxl),zob (by simpa using hyl)] at h3
      simp only [Int.toNat_natCast] at h3
      rw [h3]
     have hcl2:ybd pos k<=k:=by unfold ybd;split<;>omega
     repeat' ((conv=>whnf);first
     | refine Yz ?_
      | ((with_reducible refine zcj.gA ?_);refine zcj.rcA Clm.cells_length x rfl hxl rfl ?_)
      | ((with_reducible refine zcj.gB ?_);refine zcj.rcB Clm.cells_length y rfl hyl rfl ?_)
      | ((with_reducible refine zcj.gC ?_);refine zcj.intI k rfl hkR ?_;rw [hx])
      | ((with_reducible refine zcj.gC ?_);refine zcj.intI (ybd pos k) rfl hcR ?_;rw [hy])
      | (refine Cmp.ff hxa ?_)
      | (refine Cmp.tt hnm ?_)
      | (refine zad.to ih rfl rfl))
   ·repeat' ((conv=>whnf);first
   | refine Yz ?_
     | (exact Ret.mk rfl))
end
def yav (n:Int):List UInt8:=zb0 20 n.toNat
theorem zsk:∀(k u:Nat),(zb0 k u).length<=k
 | 0,_=>Nat.le_refl 0
 | k+1,u=>by
  unfold zb0
  split
  ·simp
  ·have:=zsk k (u/10)
   simp only [List.length_append,List.length_cons,List.length_nil]
   omega
theorem zza (n:Int):(yav n).length<=20:=zsk 20 _
def z4n (t:Tst):List UInt8:=t.fa++t.op++yav t.va
def z04 (k:Kyt):List UInt8:=k.fa++[if k.dn=true then 45 else 43]
abbrev zm2:List UInt8:=[119,104,101,110]
abbrev byL:List UInt8:=[98,121]
def wsT (c:Cls) (k:Nat):List (List UInt8):=[[99,108,97,115,115],c.nm]++if k=0 then [] else zm2::(c.wh.take k).map z4n
def wsK (c:Cls) (k:Nat):List (List UInt8):=wsT c c.wh.length++if k=0 then [] else byL::(c.ky.take k).map z04
def z9o (c:Cls):List UInt8:=zcg 32 (wsK c c.ky.length)++[10]
def zo4 (p:Prg):List (List UInt8):=[[112,111,111,108],yav p.po,[115,104,97,114,101],yav p.fo,[111,102],yav p.of]
def yh2 (p:Prg):List UInt8:=p.cl.flatMap z9o++(zcg 32 (zo4 p)++[10])
theorem zzb (c:Cls):wsK c 0=wsT c c.wh.length:=by
 unfold wsK
 rw [if_pos rfl,List.append_nil]
theorem yus (c:Cls) (k:Nat):wsK c k≠[]:=by simp [wsK,wsT]
theorem yk4 {s:List UInt8} (h:s∈fcL):s.length<=9:=by
 simp only [fcL,List.mem_cons,List.not_mem_nil,or_false] at h
 rcases h with rfl|rfl|rfl|rfl|rfl|rfl|rfl|rfl|rfl|rfl<;>decide
theorem z63 {t:Tst} (h:zjx t=0):(z4n t).length<=30:=by
 obtain⟨h1,h2⟩:=zju h
 have h3:=yk4 h1
 have h4:=zza t.va
 have h5:t.op.length=1:=by rcases h2 with e|e|e<;>rw [e]<;>rfl
 unfold z4n
 simp only [List.length_append]
 omega
theorem zvg {k:Kyt} (h:k.fa∈fcL):(z04 k).length<=10:=by
 have:=yk4 h
 simp only [z04,List.length_append,List.length_cons,List.length_nil]
 omega
theorem z6x {c:Cls} (h:zu2 c) (k:Nat):(wsT c k).length<=11/\∀w∈wsT c k,w.length<=30:=by
 have h1:=zla h.nm
 have h2:=h.wh
 unfold wsT
 split
 ·refine⟨by simp,fun w hw=> ?_⟩
  simp only [List.append_nil,List.mem_cons,List.not_mem_nil,or_false] at hw
  rcases hw with rfl|rfl
  ·decide
  ·omega
 ·refine⟨by simp only [List.length_append,List.length_cons,List.length_nil,List.length_map,List.length_take];omega,fun w hw=> ?_⟩
  simp only [List.cons_append,List.nil_append,List.mem_cons,List.mem_map] at hw
  rcases hw with rfl|rfl|rfl|⟨t,ht,rfl⟩
  ·decide
  ·omega
  ·decide
  ·exact z63 (h.ts t (List.mem_of_mem_take ht))
theorem yjl {c:Cls} (h:zu2 c) (k:Nat):(wsK c k).length<=20/\∀w∈wsK c k,w.length<=30:=by
 have h1:=z6x h c.wh.length
 have h2:=h.ky
 unfold wsK
 split
 ·rw [List.append_nil]
  exact⟨by omega,h1.2⟩
 ·refine⟨by simp only [List.length_append,List.length_cons,List.length_map,List.length_take];omega,fun w hw=> ?_⟩
  rcases List.mem_append.1 hw with hw|hw
  ·exact h1.2 w hw
  ·simp only [List.mem_cons,List.mem_map] at hw
   rcases hw with rfl|⟨t,ht,rfl⟩
   ·decide
   ·have:=zvg (h.ks t (List.mem_of_mem_take ht))
    omega
theorem yfv {c:Cls} (h:zu2 c) (k:Nat):(zcg 32 (wsK c k)).length<=620:=by
 have h1:=yjl h k
 have:=zqg 32 30 _ h1.2
 omega
theorem yp4 {c:Cls} (h:zu2 c):(z9o c).length<=621:=by
 have:=yfv h c.ky.length
 unfold z9o
 rw [List.length_append,List.length_singleton]
 omega
theorem yk8 {l:List Cls} {k:Nat} (h:k<l.length):(l.take (k+1)).flatMap z9o=(l.take k).flatMap z9o++(zcg 32 (wsK l[k] l[k].ky.length)++[10]):=by
 rw [List.take_add_one,List.getElem?_eq_getElem h,List.flatMap_append]
 simp [z9o]
theorem ynu {l:List Cls} (h:∀c∈l,zu2 c):(l.flatMap z9o).length<=l.length*621:=by
 induction l with
 | nil=>simp
 | cons c r ih=>
  have h1:=yp4 (h c (List.mem_cons_self ..))
  have h2:=ih fun x hx=>h x (List.mem_cons_of_mem _ hx)
  rw [List.flatMap_cons,List.length_append,List.length_cons]
  omega
theorem ynx {p:Prg} (h:zyi p) (k:Nat):((p.cl.take k).flatMap z9o).length<=9936:=by
 have h1:=ynu (l:=p.cl.take k) fun c hc=>h.cs c (List.mem_of_mem_take hc)
 have h2:=h.many
 rw [List.length_take] at h1
 omega
theorem z97 (p:Prg):(zcg 32 (zo4 p)).length<=126:=by
 have:=zqg 32 20 (zo4 p) fun w hw=>by
  have h1:=zza p.po
  have h2:=zza p.fo
  have h3:=zza p.of
  simp only [zo4,List.mem_cons,List.not_mem_nil,or_false] at hw
  rcases hw with rfl|rfl|rfl|rfl|rfl|rfl<;>first |decide|omega
 have e:(zo4 p).length=6:=rfl
 omega
def z8p (s:List UInt8):Option Nat:=if s.length=0\/9<s.length\/(1<s.length/\s.head? =some 48) then none else Lib.decFrom 0 s
theorem ymi (c:UInt8):∀(s:List UInt8) (a:Nat),Lib.decFrom a (s++[c])=(Lib.decFrom a s).bind fun m=>(Lib.digitVal c).map fun d=>m*10+d
 | [],a=>by
  simp only [List.nil_append,Lib.decFrom]
  cases Lib.digitVal c<;>rfl
 | x::r,a=>by
  simp only [List.cons_append,Lib.decFrom]
  cases Lib.digitVal x with
  | none=>rfl
  | some d=>exact ymi c r _
theorem yvt:∀(s:List UInt8) (a n:Nat),Lib.decFrom a s=some n->a<=n
 | [],a,n,h=>by simp only [Lib.decFrom,Option.some.injEq] at h;omega
 | x::r,a,n,h=>by
  simp only [Lib.decFrom] at h
  cases hd:Lib.digitVal x with
  | none=>rw [hd] at h;cases h
  | some d=>
   rw [hd] at h
   have:=yvt r _ n h
   omega
theorem yng {c:UInt8} {d:Nat} (h:Lib.digitVal c=some d):d<=9/\c=UInt8.ofNat (48+d)/\c.toNat=48+d:=by
 unfold Lib.digitVal at h
 split at h
 ·rename_i hc
  simp only [Option.some.injEq] at h
  have e:48+d=c.toNat:=by omega
  refine⟨by omega,?_,e.symm⟩
  rw [e]
  exact(UInt8.ofNat_toNat).symm
 ·cases h
theorem z6f {d:Nat} (h:d<=9):Lib.digitVal (UInt8.ofNat (48+d))=some d:=by
 have:d=0\/d=1\/d=2\/d=3\/d=4\/d=5\/d=6\/d=7\/d=8\/d=9:=by omega
 rcases this with rfl|rfl|rfl|rfl|rfl|rfl|rfl|rfl|rfl|rfl<;>rfl
theorem z9s:∀(f:Nat) (s:List UInt8) (n:Nat),Lib.decFrom 0 s=some n->s≠[]->(s.length=1\/s.head? ≠some 48)->s.length<=f->zb0 f n=s
 | 0,s,n,_,h0,_,hl=>absurd (List.length_eq_zero_iff.1 (by omega)) h0
 | f+1,s,n,h,h0,hz,hl=>by
  obtain⟨x,c,rfl⟩:∃x c,s=x++[c]:=⟨s.dropLast,s.getLast h0,(List.dropLast_concat_getLast h0).symm⟩
  rw [ymi] at h
  cases hx:Lib.decFrom 0 x with
  | none=>rw [hx] at h;cases h
  | some m=>
   cases hd:Lib.digitVal c with
   | none=>rw [hx,hd] at h;cases h
   | some d=>
    rw [hx,hd] at h
    simp only [Option.bind_some,Option.map_some,Option.some.injEq] at h
    obtain⟨h9,hc,_⟩:=yng hd
    by_cases he:x=[]
    ·subst he
     simp only [Lib.decFrom,Option.some.injEq] at hx
     unfold zb0
     rw [if_pos (by omega),hc]
     simp only [List.nil_append]
     congr 2
     omega
    ·have hh:x.head? ≠some 48:=by
      rcases hz with hz|hz
      ·have:=List.length_pos_iff.2 he
       rw [List.length_append,List.length_singleton] at hz
       omega
      ·cases x with
       | nil=>exact absurd rfl he
       | cons y q=>simpa using hz
     have hm:1<=m:=by
      cases x with
      | nil=>exact absurd rfl he
      | cons y q=>
       simp only [Lib.decFrom] at hx
       cases hy:Lib.digitVal y with
       | none=>rw [hy] at hx;cases hx
       | some e=>
        rw [hy] at hx
        have h1:=yvt q _ m hx
        obtain⟨_,h2,_⟩:=yng hy
        have:e≠0:=fun e0=>hh (by subst e0;rw [h2];rfl)
        omega
     have hl':x.length<=f:=by rw [List.length_append,List.length_singleton] at hl;omega
     have ih:=z9s f x m hx he (.inr hh) hl'
     unfold zb0
     rw [if_neg (by omega),show n/10=m by omega,ih,hc]
     congr 3
     omega
theorem yai:∀(f n:Nat),n<10^(f+1)->Lib.decFrom 0 (zb0 (f+1) n)=some n
 | 0,n,h=>by
  have h:n<10:=by simpa using h
  unfold zb0
  rw [if_pos h]
  simp only [Lib.decFrom,z6f (show n<=9 by omega)]
  simp
 | f+1,n,h=>by
  unfold zb0
  by_cases h10:n<10
  ·rw [if_pos h10]
   simp only [Lib.decFrom,z6f (show n<=9 by omega)]
   simp
  ·rw [if_neg h10,ymi,yai f (n/10) (by rw [Nat.pow_succ] at h;omega),z6f (by omega)]
   simp only [Option.bind_some,Option.map_some,Option.some.injEq]
   omega
theorem zqe:∀(f n:Nat),zb0 (f+1) n≠[]
 | f,n=>by
  unfold zb0
  split<;>simp
theorem zxs:∀(f n:Nat),n<10^(f+1)->(zb0 (f+1) n).length=1\/(zb0 (f+1) n).head? ≠some 48
 | 0,n,h=>by
  have h:n<10:=by simpa using h
  unfold zb0
  rw [if_pos h]
  exact .inl rfl
 | f+1,n,h=>by
  unfold zb0
  by_cases h10:n<10
  ·rw [if_pos h10];exact .inl rfl
  ·rw [if_neg h10]
   refine .inr ?_
   have hne:=zqe f (n/10)
   rcases zxs f (n/10) (by rw [Nat.pow_succ] at h;omega) with ih|ih
   ·cases f with
    | zero=>
     unfold zb0
     rw [Nat.pow_succ] at h
     have:n/10<10:=by omega
     rw [if_pos this]
     have h1:1<=n/10:=by omega
     generalize n/10=m at *
     have:m=1\/m=2\/m=3\/m=4\/m=5\/m=6\/m=7\/m=8\/m=9:=by omega
     rcases this with rfl|rfl|rfl|rfl|rfl|rfl|rfl|rfl|rfl<;>simp
    | succ f=>
     unfold zb0 at ih ⊢
     by_cases hm:n/10<10
     ·rw [if_pos hm]
      have h1:1<=n/10:=by omega
      generalize n/10=m at *
      have:m=1\/m=2\/m=3\/m=4\/m=5\/m=6\/m=7\/m=8\/m=9:=by omega
      rcases this with rfl|rfl|rfl|rfl|rfl|rfl|rfl|rfl|rfl<;>simp
     ·rw [if_neg hm] at ih
      have:=List.length_pos_iff.2 (zqe f (n/10/10))
      rw [List.length_append,List.length_singleton] at ih
      omega
   ·cases hq:zb0 (f+1) (n/10) with
    | nil=>exact absurd hq hne
    | cons y q=>rw [hq] at ih;simpa using ih
theorem ytn {s:List UInt8} {n:Nat} (h:z8p s=some n):n<=999999999:=by
 unfold z8p at h
 split at h
 ·cases h
 ·rename_i hn
  have h1:=Lib.decFrom_lt s 0 n h
  have h2:10^s.length<=10^9:=Nat.pow_le_pow_right (by decide) (by omega)
  simp only [Nat.zero_add,Nat.one_mul] at h1
  have:(10:Nat)^9=1000000000:=by decide
  omega
theorem z79 {s:List UInt8} {n:Nat} (h:z8p s=some n):yav n=s:=by
 unfold z8p at h
 split at h
 ·cases h
 ·rename_i hn
  unfold yav
  rw [Int.toNat_natCast]
  refine z9s 20 s n h (fun e=>hn (.inl (by rw [e];rfl))) ?_ (by omega)
  by_cases h1:s.length=1
  ·exact .inl h1
  ·exact .inr fun e=>hn (.inr (.inr ⟨by omega,e⟩))
theorem z9f {f n:Nat} (h:n<10^(f+1)):(zb0 20 n).length<=f+1:=by
 have key:∀(f g n:Nat),n<10^(f+1)->f<=g->(zb0 (g+1) n).length<=f+1:=by
  intro f
  induction f with
  | zero=>
   intro g n h _
   have h:n<10:=by simpa using h
   unfold zb0
   rw [if_pos h]
   exact Nat.le_refl _
  | succ f ih=>
   intro g n h hg
   unfold zb0
   split
   ·simp
   ·obtain⟨g',rfl⟩:∃g',g=g'+1:=⟨g-1,by omega⟩
    have:=ih g' (n/10) (by rw [Nat.pow_succ] at h;omega) (by omega)
    rw [List.length_append,List.length_singleton]
    omega
 by_cases hf:f<=19
 ·exact key f 19 n h hf
 ·have:=zsk 20 n
  omega
theorem zj2 {n:Int} (h:0<=n/\n<=999999999):z8p (yav n)=some n.toNat:=by
 unfold yav z8p
 have hn:n.toNat<10^(8+1):=by
  have:(10:Nat)^9=1000000000:=by decide
  omega
 have h20:n.toNat<10^(19+1):=Nat.lt_of_lt_of_le hn (by decide)
 have h1:=z9f hn
 have h2:=zqe 19 n.toNat
 have h3:=zxs 19 n.toNat h20
 have h4:0<(zb0 20 n.toNat).length:=List.length_pos_iff.2 h2
 rw [if_neg,yai 19 _ h20]
 rintro(h|h|⟨h,h'⟩)
 ·omega
 ·omega
 ·rcases h3 with h3|h3
  ·have h3:(zb0 20 n.toNat).length=1:=h3
   omega
  ·exact h3 h'
abbrev z5f:List UInt8:=[99,108,97,115,115]
abbrev ynj:List UInt8:=[112,111,111,108]
abbrev yd9:List UInt8:=[115,104,97,114,101]
abbrev ofL:List UInt8:=[111,102]
def ycl:List UInt8->Option (List UInt8×UInt8×List UInt8)
 | []=>none
 | c::r=>if c=61\/c=60\/c=62 then some ([],c,r) else(ycl r).map fun p=>(c::p.1,p.2)
def zvc (w:List UInt8):Option Tst:=
 match ycl w with
 | none=>none
 | some (a,c,r)=>(z8p r).map fun(n:Nat)=>⟨a,[c],(n:Int)⟩
def z7c (w:List UInt8):Option Kyt:=
 match w.getLast? with
 | none=>none
 | some c=>if c=43\/c=45 then some ⟨w.dropLast,decide (c=45)⟩ else none
def zf6:List (List UInt8)->Option (List Tst×List (List UInt8))
 | []=>some ([],[])
 | w::r=>if w=byL then some ([],w::r) else
  match zvc w with
  | none=>none
  | some t=>(zf6 r).map fun p=>(t::p.1,p.2)
def zix:List (List UInt8)->Option (List Kyt)
 | []=>some []
 | w::r=>
  match z7c w with
  | none=>none
  | some k=>(zix r).map (k::·)
def zmt (r:List (List UInt8)):Option (List Tst×List (List UInt8)):=
 match r with
 | []=>some ([],[])
 | w::q=>if w=zm2 then(zf6 q).bind fun p=>if p.1=[] then none else some p else some ([],w::q)
def yf1 (r:List (List UInt8)):Option (List Kyt):=
 match r with
 | []=>some []
 | w::q=>if w=byL then(zix q).bind fun l=>if l=[] then none else some l else none
def zgk:List (List UInt8)->Option Cls
 | []=>none
 | nm::r=>(zmt r).bind fun p=>(yf1 p.2).map fun ks=>⟨nm,p.1,ks⟩
def znd (cl:List Cls):List (List UInt8)->Option Prg
 | [a,s,b,o,c]=>if s=yd9/\o=ofL then(z8p a).bind fun(x:Nat)=>(z8p b).bind fun(y:Nat)=>(z8p c).map fun(z:Nat)=>⟨cl,(x:Int),(z:Int),(y:Int)⟩ else none
 | _=>none
def zly (l:List UInt8):Option (List (List UInt8)):=
 if l.getLast? =some 10/\[]∉parts 32 l.dropLast then some (parts 32 l.dropLast) else none
inductive LnR where
 | bad (e:Int)
 | cls (c:Cls)
 | pool (p:Prg)
def zjn (cl:List Cls) (l:List UInt8):LnR:=
 match zly l with
 | none=> .bad 25
 | some []=> .bad 25
 | some (w::ws)=>
  if w=ynj then
   match znd cl ws with
   | none=> .bad 25
   | some p=>if cl=[] then .bad 12 else if zgf p=0 then .pool p else .bad (zgf p)
  else if w=z5f then
   match zgk ws with
   | none=> .bad 25
   | some c=>if 16<=cl.length then .bad 5 else if zo0 (znf cl) c=0 then .cls c else .bad (zo0 (znf cl) c)
  else .bad 25
def zo5:Prg:=⟨[],0,0,0⟩
def rdG (cl:List Cls) (i:Nat):List (List UInt8)->Prg×Nat×Int
 | []=>(zo5,i,28)
 | l::r=>
  match zjn cl l with
  | .bad e=>(zo5,i,e)
  | .cls c=>rdG (cl++[c]) (i+1) r
  | .pool p=>if r=[] then(p,0,0) else(zo5,i+1,25)
def rdP (s:List UInt8):Prg×Nat×Int:=if 4096<s.length then(zo5,0,26) else rdG [] 0 (pcs s)
theorem yi3:∀ {w a:List UInt8} {c:UInt8} {r:List UInt8},ycl w=some (a,c,r)->w=a++[c]++r
 | [],_,_,_,h=>by cases h
 | x::q,a,c,r,h=>by
  rw [ycl] at h
  split at h
  ·simp only [Option.some.injEq,Prod.mk.injEq] at h
   obtain⟨rfl,rfl,rfl⟩:=h
   rfl
  ·cases hq:ycl q with
   | none=>rw [hq] at h;cases h
   | some p=>
    obtain⟨a',c',r'⟩:=p
    rw [hq] at h
    simp only [Option.map_some,Option.some.injEq,Prod.mk.injEq] at h
    obtain⟨rfl,rfl,rfl⟩:=h
    rw [yi3 hq]
    rfl
theorem ycc {w:List UInt8} {t:Tst} (h:zvc w=some t):z4n t=w:=by
 unfold zvc at h
 cases hc:ycl w with
 | none=>rw [hc] at h;cases h
 | some p=>
  obtain⟨a,c,r⟩:=p
  rw [hc] at h
  simp only at h
  cases hn:z8p r with
  | none=>rw [hn] at h;cases h
  | some n=>
   rw [hn] at h
   obtain rfl:=Option.some.inj h
   rw [yi3 hc]
   unfold z4n
   rw [z79 hn]
theorem yh3 {w:List UInt8} {k:Kyt} (h:z7c w=some k):z04 k=w:=by
 unfold z7c at h
 cases hl:w.getLast? with
 | none=>rw [hl] at h;cases h
 | some c=>
  rw [hl] at h
  simp only at h
  split at h
  ·rename_i hc
   simp only [Option.some.injEq] at h
   subst h
   obtain⟨hne,hg⟩:=List.getLast?_eq_some_iff.1 hl
   unfold z04
   rw [hg]
   simp only [List.dropLast_concat]
   rcases hc with rfl|rfl<;>rfl
  ·cases h
theorem zmh:∀ {ws:List (List UInt8)} {l:List Tst} {q:List (List UInt8)},zf6 ws=some (l,q)->ws=l.map z4n++q/\(q=[]\/∃r,q=byL::r)
 | [],l,q,h=>by
  simp only [zf6,Option.some.injEq,Prod.mk.injEq] at h
  obtain⟨rfl,rfl⟩:=h
  exact⟨rfl,.inl rfl⟩
 | w::r,l,q,h=>by
  rw [zf6] at h
  split at h
  ·rename_i hw
   simp only [Option.some.injEq,Prod.mk.injEq] at h
   obtain⟨rfl,rfl⟩:=h
   exact⟨rfl,.inr ⟨r,by rw [hw]⟩⟩
  ·cases ht:zvc w with
   | none=>rw [ht] at h;cases h
   | some t=>
    rw [ht] at h
    simp only at h
    cases hr:zf6 r with
    | none=>rw [hr] at h;cases h
    | some p=>
     obtain⟨l',q'⟩:=p
     rw [hr] at h
     simp only [Option.map_some,Option.some.injEq,Prod.mk.injEq] at h
     obtain⟨rfl,rfl⟩:=h
     have ih:=zmh hr
     exact⟨by rw [ih.1,List.map_cons,ycc ht];rfl,ih.2⟩
theorem z0j:∀ {ws:List (List UInt8)} {l:List Kyt},zix ws=some l->ws=l.map z04
 | [],l,h=>by
  simp only [zix,Option.some.injEq] at h
  subst h;rfl
 | w::r,l,h=>by
  rw [zix] at h
  cases hk:z7c w with
  | none=>rw [hk] at h;cases h
  | some k=>
   rw [hk] at h
   simp only at h
   cases hr:zix r with
   | none=>rw [hr] at h;cases h
   | some l'=>
    rw [hr] at h
    simp only [Option.map_some,Option.some.injEq] at h
    subst h
    rw [List.map_cons,yh3 hk,<-z0j hr]
theorem yc8 {r:List (List UInt8)} {p:List Tst×List (List UInt8)} (h:zmt r=some p):r=(if p.1.length=0 then [] else zm2::p.1.map z4n)++p.2:=by
 unfold zmt at h
 split at h
 ·simp only [Option.some.injEq] at h
  subst h;rfl
 ·rename_i w q
  split at h
  ·rename_i hw
   cases hq:zf6 q with
   | none=>rw [hq] at h;cases h
   | some p'=>
    rw [hq] at h
    simp only [Option.bind_some] at h
    split at h
    ·cases h
    ·rename_i hne
     simp only [Option.some.injEq] at h
     subst h
     rw [if_neg (fun e=>hne (List.length_eq_zero_iff.1 e)),hw,(zmh hq).1]
     rfl
  ·simp only [Option.some.injEq] at h
   subst h;rfl
theorem yki {r:List (List UInt8)} {l:List Kyt} (h:yf1 r=some l):r=if l.length=0 then [] else byL::l.map z04:=by
 unfold yf1 at h
 split at h
 ·simp only [Option.some.injEq] at h
  subst h;rfl
 ·rename_i w q
  split at h
  ·rename_i hw
   cases hq:zix q with
   | none=>rw [hq] at h;cases h
   | some l'=>
    rw [hq] at h
    simp only [Option.bind_some] at h
    split at h
    ·cases h
    ·rename_i hne
     simp only [Option.some.injEq] at h
     subst h
     rw [if_neg (fun e=>hne (List.length_eq_zero_iff.1 e)),hw,z0j hq]
  ·cases h
theorem zzs (c:Cls):wsK c c.ky.length=z5f::c.nm::((if c.wh.length=0 then [] else zm2::c.wh.map z4n)++if c.ky.length=0 then [] else byL::c.ky.map z04):=by
 unfold wsK wsT
 rw [List.take_length,List.take_length]
 rfl
theorem zxp {ws:List (List UInt8)} {c:Cls} (h:zgk ws=some c):z5f::ws=wsK c c.ky.length:=by
 unfold zgk at h
 split at h
 ·cases h
 ·rename_i nm r
  cases hw:zmt r with
  | none=>rw [hw] at h;cases h
  | some p=>
   rw [hw] at h
   simp only [Option.bind_some] at h
   cases hb:yf1 p.2 with
   | none=>rw [hb] at h;cases h
   | some ks=>
    rw [hb] at h
    simp only [Option.map_some,Option.some.injEq] at h
    subst h
    rw [zzs,yc8 hw,yki hb]
theorem z99 {l:List UInt8} {ws:List (List UInt8)} (h:zly l=some ws):l=zcg 32 ws++[10]:=by
 unfold zly at h
 split at h
 ·rename_i hc
  simp only [Option.some.injEq] at h
  subst h
  obtain⟨hne,hg⟩:=List.getLast?_eq_some_iff.1 hc.1
  rw [zp0,hg,List.dropLast_concat]
 ·cases h
theorem ygr {cl:List Cls} {l:List UInt8} {c:Cls} (h:zjn cl l= .cls c):l=z9o c/\cl.length<16/\zo0 (znf cl) c=0:=by
 unfold zjn at h
 split at h
 ·cases h
 ·cases h
 ·rename_i w ws hw
  split at h
  ·split at h
   ·cases h
   ·split at h
    ·cases h
    ·split at h<;>cases h
  ·split at h
   ·rename_i he
    split at h
    ·cases h
    ·rename_i c' hr
     split at h
     ·cases h
     ·rename_i h16
      split at h
      ·rename_i hz
       simp only [LnR.cls.injEq] at h
       subst h
       rw [he] at hw
       rw [z99 hw,zxp hr]
       exact⟨rfl,by omega,hz⟩
      ·cases h
   ·cases h
theorem ys3 {a r:List UInt8} {c:UInt8} (hc:c=61\/c=60\/c=62):(∀x∈a,¬(x=61\/x=60\/x=62))->ycl (a++c::r)=some (a,c,r):=by
 induction a with
 | nil=>intro _;rw [List.nil_append,ycl,if_pos hc]
 | cons x q ih=>
  intro h
  rw [List.cons_append,ycl,if_neg (h x (List.mem_cons_self ..)),ih fun y hy=>h y (List.mem_cons_of_mem _ hy)]
  rfl
theorem yrk {s:List UInt8} (h:s∈fcL):∀x∈s,¬(x=61\/x=60\/x=62):=by
 simp only [fcL,List.mem_cons,List.not_mem_nil,or_false] at h
 rcases h with rfl|rfl|rfl|rfl|rfl|rfl|rfl|rfl|rfl|rfl<;>decide
theorem yqn {s:List UInt8} (h:s∈fcL):vis s:=by
 simp only [fcL,List.mem_cons,List.not_mem_nil,or_false] at h
 rcases h with rfl|rfl|rfl|rfl|rfl|rfl|rfl|rfl|rfl|rfl<;>(intro x hx;revert x;decide)
theorem yed {t:Tst} (h:zjx t=0):0<=t.va/\t.va<=999999999:=by
 unfold zjx at h
 rw [zbq] at h
 exact zcw.1 (h (rng t.va 0 999999999) (by simp))
theorem z1h {t:Tst} (h:zjx t=0):zvc (z4n t)=some t:=by
 obtain⟨h1,h2⟩:=zju h
 have h3:=yed h
 have key:∀c:UInt8,(c=61\/c=60\/c=62)->t.op=[c]->zvc (z4n t)=some t:=fun c hc ho=>by
  unfold zvc z4n
  rw [ho,List.append_assoc,List.singleton_append,ys3 hc (yrk h1)]
  simp only [zj2 h3,Option.map_some,Option.some.injEq]
  have e:((t.va.toNat:Nat):Int)=t.va:=by omega
  rw [e,<-ho]
 rcases h2 with e|e|e
 ·exact key 61 (.inl rfl) e
 ·exact key 60 (.inr (.inl rfl)) e
 ·exact key 62 (.inr (.inr rfl)) e
theorem yof (k:Kyt):z7c (z04 k)=some k:=by
 unfold z7c z04
 cases k with
 | mk fa dn=>cases dn<;>simp
theorem yjh {t:Tst} (h:zjx t=0):¬z4n t=byL:=fun e=>by
 have:=z1h h
 rw [e] at this
 cases this
theorem z4d:∀ {l:List Tst} {q:List (List UInt8)},(∀t∈l,zjx t=0)->(q=[]\/∃r,q=byL::r)->zf6 (l.map z4n++q)=some (l,q)
 | [],q,_,hq=>by
  rcases hq with rfl|⟨r,rfl⟩
  ·rfl
  ·rw [List.map_nil,List.nil_append,zf6,if_pos rfl]
 | t::r,q,h,hq=>by
  have ht:=h t (List.mem_cons_self ..)
  rw [List.map_cons,List.cons_append,zf6,if_neg (yjh ht),z1h ht,z4d (fun x hx=>h x (List.mem_cons_of_mem _ hx)) hq]
  rfl
theorem yaz:∀l:List Kyt,zix (l.map z04)=some l
 | []=>rfl
 | k::r=>by
  rw [List.map_cons,zix,yof,yaz r]
  rfl
theorem yha {c:Cls} (h:zu2 c):∃ws,wsK c c.ky.length=z5f::ws/\zgk ws=some c:=by
 rw [zzs]
 refine⟨_,rfl,?_⟩
 have hb:yf1 (if c.ky.length=0 then [] else byL::c.ky.map z04)=some c.ky:=by
  by_cases hk:c.ky.length=0
  ·rw [if_pos hk,List.length_eq_zero_iff.1 hk];rfl
  ·rw [if_neg hk]
   unfold yf1
   simp only [if_pos,yaz,Option.bind_some]
   rw [if_neg (fun e=>hk (by rw [e];rfl))]
 have hw:zmt ((if c.wh.length=0 then [] else zm2::c.wh.map z4n)++if c.ky.length=0 then [] else byL::c.ky.map z04)=some (c.wh,if c.ky.length=0 then [] else byL::c.ky.map z04):=by
  by_cases hk:c.wh.length=0
  ·rw [if_pos hk,List.nil_append,List.length_eq_zero_iff.1 hk]
   by_cases hy:c.ky.length=0
   ·rw [if_pos hy];rfl
   ·rw [if_neg hy];rfl
  ·rw [if_neg hk,List.cons_append]
   unfold zmt
   simp only [if_pos]
   rw [z4d h.ts (by by_cases hy:c.ky.length=0<;>simp [hy])]
   simp only [Option.bind_some]
   rw [if_neg (fun e=>hk (by rw [e];rfl))]
 unfold zgk
 simp only [hw,Option.bind_some,hb,Option.map_some]
theorem yle {p:Prg} (h:zyi p):∃ws,zo4 p=ynj::ws/\znd p.cl ws=some p:=by
 refine⟨_,rfl,?_⟩
 have h1:=h.many
 have h2:=h.po
 have h3:=h.of'
 have h4:=h.fo
 unfold znd
 simp only [and_self,if_pos,zj2 (show 0<=p.po/\p.po<=999999999 by omega),zj2 (show 0<=p.fo/\p.fo<=999999999 by omega),zj2 (show 0<=p.of/\p.of<=999999999 by omega),Option.bind_some,Option.map_some,Option.some.injEq]
 have e1:((p.po.toNat:Nat):Int)=p.po:=by omega
 have e2:((p.fo.toNat:Nat):Int)=p.fo:=by omega
 have e3:((p.of.toNat:Nat):Int)=p.of:=by omega
 rw [e1,e2,e3]
theorem z6h {n:Int} (h:0<=n/\n<=999999999):vis (yav n):=by
 have hn:=zj2 h
 unfold z8p at hn
 split at hn
 ·cases hn
 ·intro x hx
  obtain⟨i,hi,rfl⟩:=List.getElem_of_mem hx
  obtain⟨d,hd⟩:=Lib.digit_of_decFrom _ _ _ hn i _ (List.getElem?_eq_getElem hi)
  have:=(yng hd).2.2
  omega
theorem yta {t:Tst} (h:zjx t=0):vis (z4n t):=by
 obtain⟨h1,h2⟩:=zju h
 have h3:=z6h (yed h)
 intro x hx
 unfold z4n at hx
 rw [List.mem_append,List.mem_append] at hx
 rcases hx with(hx|hx)|hx
 ·exact yqn h1 x hx
 ·rcases h2 with e|e|e<;>(rw [e] at hx;simp only [List.mem_singleton] at hx;subst hx;decide)
 ·exact h3 x hx
theorem yr2 {k:Kyt} (h:k.fa∈fcL):vis (z04 k):=by
 intro x hx
 unfold z04 at hx
 rw [List.mem_append] at hx
 rcases hx with hx|hx
 ·exact yqn h x hx
 ·simp only [List.mem_singleton] at hx
  subst hx
  split<;>decide
theorem yju {c:Cls} (h:zu2 c):∀w∈wsK c c.ky.length,vis w/\w≠[]:=by
 rw [zzs]
 have lit:vis z5f/\vis zm2/\vis byL:=by refine⟨?_,?_,?_⟩<;>(intro x hx;revert x;decide)
 intro w hw
 simp only [List.mem_cons,List.mem_append] at hw
 rcases hw with rfl|rfl|hw|hw
 ·exact⟨lit.1,by decide⟩
 ·refine⟨zqq h.nm,fun e=> ?_⟩
  have:=h.nm
  rw [e] at this
  cases this
 ·split at hw
  ·cases hw
  ·simp only [List.mem_cons,List.mem_map] at hw
   rcases hw with rfl|⟨t,ht,rfl⟩
   ·exact⟨lit.2.1,by decide⟩
   ·refine⟨yta (h.ts t ht),fun e=> ?_⟩
    have:=z1h (h.ts t ht)
    rw [e] at this
    cases this
 ·split at hw
  ·cases hw
  ·simp only [List.mem_cons,List.mem_map] at hw
   rcases hw with rfl|⟨k,hk,rfl⟩
   ·exact⟨lit.2.2,by decide⟩
   ·exact⟨yr2 (h.ks k hk),by simp [z04]⟩
theorem z8i {p:Prg} (h:zyi p):∀w∈zo4 p,vis w/\w≠[]:=by
 have h1:=h.many
 have h2:=h.po
 have h3:=h.of'
 have h4:=h.fo
 have ne:∀n:Int,yav n≠[]:=fun n=>zqe 19 n.toNat
 have lit:vis ynj/\vis yd9/\vis ofL:=by refine⟨?_,?_,?_⟩<;>(intro x hx;revert x;decide)
 intro w hw
 simp only [zo4,List.mem_cons,List.not_mem_nil,or_false] at hw
 rcases hw with rfl|rfl|rfl|rfl|rfl|rfl
 ·exact⟨lit.1,by decide⟩
 ·exact⟨z6h (by omega),ne _⟩
 ·exact⟨lit.2.1,by decide⟩
 ·exact⟨z6h (by omega),ne _⟩
 ·exact⟨lit.2.2,by decide⟩
 ·exact⟨z6h (by omega),ne _⟩
theorem z2x {b:UInt8} (hb:b≠10):∀ws:List (List UInt8),(∀w∈ws,vis w)->(10:UInt8)∉zcg b ws
 | [],_=>by simp [zcg]
 | [x],h=>by rw [zcg];exact(zxh (h x (by simp))).2
 | x::y::r,h=>by
  have ih:=z2x hb (y::r) fun w hw=>h w (List.mem_cons_of_mem _ hw)
  rw [zcg,List.mem_append,List.mem_cons]
  rintro(e|e|e)
  ·exact(zxh (h x (by simp))).2 e
  ·exact hb e.symm
  ·exact ih e
theorem z5j {ws:List (List UInt8)} (h0:ws≠[]) (h:∀w∈ws,vis w/\w≠[]):zly (zcg 32 ws++[10])=some ws:=by
 unfold zly
 rw [List.dropLast_concat,zkg 32 ws h0 fun w hw=>(zxh (h w hw).1).1,if_pos]
 exact⟨by simp,fun hm=>(h [] hm).2 rfl⟩
theorem ys5 {p:Prg} (h:zyi p):pcs (yh2 p)=p.cl.map z9o++[zcg 32 (zo4 p)++[10]]:=by
 unfold yh2
 have hc:=h.cs
 generalize p.cl=l at hc
 induction l with
 | nil=>
  rw [List.flatMap_nil,List.nil_append,List.map_nil,List.nil_append,z0p _ [] (z2x (by decide) _ fun w hw=>(z8i h w hw).1),z6c]
 | cons c r ih=>
  rw [List.flatMap_cons,List.map_cons,List.cons_append,<-ih fun x hx=>hc x (List.mem_cons_of_mem _ hx)]
  have hl:=z2x (b:=32) (by decide) _ fun w hw=>(yju (hc c (List.mem_cons_self ..)) w hw).1
  unfold z9o
  rw [List.append_assoc,List.append_assoc,List.singleton_append,z0p _ _ hl]
theorem yl7 {cl:List Cls} {c:Cls} (h:zu2 c) (h16:cl.length<16) (hz:zo0 (znf cl) c=0):zjn cl (z9o c)= .cls c:=by
 obtain⟨ws,e,hr⟩:=yha h
 unfold zjn z9o
 rw [z5j (by rw [e];simp) (yju h),e]
 simp only
 rw [if_neg (by decide),if_pos trivial,hr]
 simp only
 rw [if_neg (by omega),if_pos hz]
theorem yq1 {p:Prg} (h:zyi p) (hz:zgf p=0):∀(r cl:List Cls) (i:Nat),p.cl=cl++r->ziv (znf cl) r=0->rdG cl i (r.map z9o++[zcg 32 (zo4 p)++[10]])=(p,0,0)
 | [],cl,i,e,_=>by
  rw [List.append_nil] at e
  obtain⟨ws,e1,hr⟩:=yle h
  have hone:=h.one
  rw [List.map_nil,List.nil_append,rdG]
  have:zjn cl (zcg 32 (zo4 p)++[10])= .pool p:=by
   unfold zjn
   rw [z5j (by rw [e1];simp) (z8i h),e1]
   simp only
   rw [if_pos trivial,<-e,hr]
   simp only
   rw [if_neg (fun e'=>by rw [e'] at hone;exact absurd hone (by decide)),if_pos hz]
  rw [this]
  simp only [if_pos]
 | c::r,cl,i,e,hc=>by
  rw [ziv] at hc
  by_cases hq:zo0 (znf cl) c=0
  ·rw [if_pos hq] at hc
   have hm:=h.many
   rw [e,List.length_append,List.length_cons] at hm
   rw [List.map_cons,List.cons_append,rdG,yl7 (h.cs c (by rw [e];simp)) (by omega) hq]
   simp only
   refine yq1 h hz r (cl++[c]) (i+1) (by rw [e,List.append_assoc];rfl) ?_
   rw [show znf (cl++[c])=znf cl++[c.nm] by simp [znf]]
   exact hc
  ·rw [if_neg hq] at hc
   exact absurd hc hq
theorem yvi {p:Prg} (h:znu p=0) (hl:(yh2 p).length<=4096):rdP (yh2 p)=(p,0,0):=by
 have ho:=zjv h
 have h':=h
 unfold znu at h'
 rw [zbq] at h'
 unfold rdP
 rw [if_neg (by omega),ys5 ho]
 exact yq1 ho (h' (zgf p) (by simp)) p.cl [] 0 rfl (h' (ziv [] p.cl) (by simp))
theorem zcj.strI {l:List (List UInt8)} {i:Int} {K:D->Prop} (k:Nat) (hi:i=k) (h:k<l.length) (hk:K (.str l[k])):zcj (l.map D.str) (i.toNat*1) K:=by
 subst hi
 refine⟨⟨_,?_,hk⟩⟩
 simp [h]
def rkV (w:List UInt8):Kyt×Bool:=(⟨w.dropLast,decide ((w.getD (w.length-1) 0).toNat=45)⟩,decide ((w.getD (w.length-1) 0).toNat=43\/(w.getD (w.length-1) 0).toNat=45))
theorem yu7 {w:List UInt8} (h:w≠[]):z7c w=if(rkV w).2=true then some (rkV w).1 else none:=by
 have hl:w.length-1<w.length:=by have:=List.length_pos_iff.2 h;omega
 have e:w.getD (w.length-1) 0=w[w.length-1]:=by simp [List.getD,hl]
 unfold z7c rkV
 rw [List.getLast?_eq_getElem?,List.getElem?_eq_getElem hl,e]
 simp only
 have hc:∀b:UInt8,(w[w.length-1]=b)=(w[w.length-1].toNat=b.toNat):=fun b=>propext UInt8.toNat_inj.symm
 have e1:=hc 43
 have e2:=hc 45
 have t1:(43:UInt8).toNat=43:=rfl
 have t2:(45:UInt8).toNat=45:=rfl
 rw [t1] at e1
 rw [t2] at e2
 simp only [e1,e2,decide_eq_true_eq]
def pgT (c:Cls) (k:Nat):List (List UInt8):=(wsT c 0++if 0<c.wh.length then [zm2] else [])++(c.wh.take k).map z4n
def pgK (c:Cls) (k:Nat):List (List UInt8):=(wsT c c.wh.length++if 0<c.ky.length then [byL] else [])++(c.ky.take k).map z04
theorem yeb (c:Cls) {k:Nat} (h:k<c.wh.length):pgT c (k+1)=pgT c k++[z4n c.wh[k]]:=by
 unfold pgT
 rw [List.take_add_one,List.getElem?_eq_getElem h,Option.toList_some,List.map_append,<-List.append_assoc]
 rfl
theorem zzj (c:Cls) {k:Nat} (h:k<c.ky.length):pgK c (k+1)=pgK c k++[z04 c.ky[k]]:=by
 unfold pgK
 rw [List.take_add_one,List.getElem?_eq_getElem h,Option.toList_some,List.map_append,<-List.append_assoc]
 rfl
theorem yjk (c:Cls):pgT c c.wh.length=wsT c c.wh.length:=by
 unfold pgT wsT
 by_cases h:0<c.wh.length
 ·rw [if_pos h,if_pos rfl,if_neg (by omega)]
  simp
 ·have e:c.wh=[]:=List.length_eq_zero_iff.1 (by omega)
  simp [e]
theorem z7t (c:Cls):pgK c c.ky.length=wsK c c.ky.length:=by
 unfold pgK wsK
 by_cases h:0<c.ky.length
 ·rw [if_pos h,if_neg (by omega)]
  simp
 ·have e:c.ky=[]:=List.length_eq_zero_iff.1 (by omega)
  simp [e]
theorem zy5 {c:Cls} (h:0<c.wh.length):pgT c 0=[[99,108,97,115,115],c.nm,zm2]:=by
 unfold pgT
 rw [if_pos h]
 rfl
theorem zy6 {c:Cls} (h:0<c.ky.length):pgK c 0=wsT c c.wh.length++[byL]:=by
 unfold pgK
 rw [if_pos h]
 simp
theorem yqk {c:Cls} (h:zu2 c) {k:Nat} (hk:k<=c.wh.length):(pgT c k).length<=20:=by
 have:=h.wh
 unfold pgT
 rw [List.length_append,List.length_append,List.length_map,List.length_take]
 split<;>simp [wsT]<;>omega
theorem yfm {c:Cls} (h:zu2 c) {k:Nat} (hk:k<=c.ky.length):(pgK c k).length<=30:=by
 have:=h.ky
 have h1:=(z6x h c.wh.length).1
 unfold pgK
 rw [List.length_append,List.length_append,List.length_map,List.length_take]
 split<;>simp<;>omega
def yyh:Nat->V
 | 0=> .d .nilp
 | _+1=> .ptr ⟨0,5,1⟩ 0 0
def yht (p:Prg) (k:Nat):List UInt8:=(p.cl.take k).flatMap z9o
section
variable {E : Oracle} (g : Good E)
include g
theorem ygz (n:Int) (h:0<=n/\n<=999999999):Fc E n_strconv_Itoa [I n] (S (yav n)):=yk7 g n (by omega)
theorem yf3 (k:Kyt):Fc E zie [Kyv k] (S [if k.dn=true then 45 else 43]):=by
 refine g.fn rfl rfl ?_
 obtain⟨fa,dn⟩:=k
 cases dn
 all_goals repeat' ((conv=>whnf);first
 | refine Yz ?_
  | (refine Ret.mk rfl))
theorem yt3 (p:Prg) (h:znu p=0):Fc E zh6 [Pgv p] (.tup [S (yh2 p),I 0]):=by
 refine g.fn rfl rfl ?_
 have ok:=zjv h
 have h1:=zrj g p ok.small
 rw [h] at h1
 have hmany:=ok.many
 repeat' ((conv=>whnf);first
 | refine Yz ?_
  | (apply zaf.of;assumption))
 refine zad.to (zad.up g (fun k=>[(1,.ptr ⟨0,1,0⟩ 0 0),(5,.ptr ⟨0,5,1⟩ 0 0),(6,.fn za1 [] [.ptr ⟨0,5,1⟩ 0 0]),(21,LC p.cl),(22,I p.cl.length),(23,I k)])
  (fun k=>[(⟨0,1,0⟩,.cells zab [LC p.cl,I p.po,I p.of,I p.fo]),(⟨0,5,0⟩,.row false ty_uint8 1 (yht p k).length (byD (yht p k))),(⟨0,5,1⟩,.cells ty_strings_Builder [yyh k,.ref ⟨0,5,0⟩ 0 (yht p k).length (yht p k).length])])
  p.cl.length (fun k hk ih=> ?_) 0 (Nat.zero_le _)) rfl rfl
 have hbl:=ykf (yht p k)
 have htl:(yht p k).length<=9936:=ynx ok k
 by_cases hlt:k<p.cl.length
 ·have ih:=ih hlt
  have okc:=ok.cs _ (List.getElem_mem hlt)
  have hs:yht p (k+1)=yht p k++(zcg 32 (wsK p.cl[k] p.cl[k].ky.length)++[10]):=yk8 hlt
  generalize hx:p.cl[k]=c at *
  have lw:=okc.wh
  have lk:=okc.ky
  have hjn:∀ {n:Nat} {cs:List D},n=(wsK c c.ky.length).length->cs=(wsK c c.ky.length).map D.str->Fc E n_strings_Join [.d (.list n cs),S [32]] (S (zcg 32 (wsK c c.ky.length))):=fun h1 h2=>by
   subst h1 h2
   exact ylo g _ (yus _ _) (Nat.le_trans (yjl okc _).1 (by decide)) (Nat.le_trans (yfv okc _) (by decide))
  have hjl:=yfv okc c.ky.length
  rw [hs,z67,List.length_append] at ih
  generalize hJ:zcg 32 (wsK c c.ky.length)=J at *
  generalize yht p k=X at *
  rcases k with _|k
  ·by_cases hw:0<c.wh.length
   ·repeat' ((conv=>whnf);first
   | refine Yz ?_
     | (refine za0.rec Cls.cells_length _ rfl hlt ?_;rw [hx]))
    refine zad.to (zad.up g (fun j=>[(1,.ptr ⟨0,1,0⟩ 0 0),(5,.ptr ⟨0,5,1⟩ 0 0),(6,.fn za1 [] [.ptr ⟨0,5,1⟩ 0 0]),(8,.ptr ⟨0,8,0⟩ 0 0),(9,.ref ⟨0,29,0⟩ 0 (pgT c j).length (pgT c j).length),(21,LC p.cl),(22,I p.cl.length),(23,I 0),(38,LT c.wh),(39,I c.wh.length),(40,I j)])
     (fun j=>[(⟨0,1,0⟩,.cells zab [LC p.cl,I p.po,I p.of,I p.fo]),(⟨0,5,0⟩,.row false ty_uint8 1 X.length (byD X)),(⟨0,5,1⟩,.cells ty_strings_Builder [.d .nilp,.ref ⟨0,5,0⟩ 0 X.length X.length]),(⟨0,8,0⟩,.cells zaa [S c.nm,LT c.wh,LK c.ky]),(⟨0,29,0⟩,.row false zb3 1 (pgT c j).length ((pgT c j).map D.str))])
     c.wh.length (fun j hj jh=> ?_) 0 (Nat.zero_le _)) (by rw [zy5 hw];rfl) (by rw [zy5 hw];rfl)
    have hpl:=yqk okc hj
    by_cases hjl:j<c.wh.length
    ·replace jh:=jh hjl
     rw [yeb c hjl] at jh
     have ht:=okc.ts _ (List.getElem_mem hjl)
     have htl:=z63 ht
     generalize hy:c.wh[j]=t at *
     have hd:=ygz g t.va (zcw.1 ((zbq _).1 ht (rng t.va 0 999999999) (by simp)))
     unfold z4n at htl jh
     generalize pgT c j=W at *
     simp only [List.length_append] at htl
     simp only [List.length_append,List.length_cons,List.length_nil,List.map_append,List.map_cons,List.map_nil] at jh
     repeat' ((conv=>whnf);first
     | refine Yz ?_
      | (refine za0.rec Tst.cells_length j rfl hjl ?_;rw [hy])
      | (apply zaf.of;assumption)
      | (refine zbk.mk (by simp only [zhb,List.length_append];omega) ?_)
      | (refine zbk.mk (by simp only [List.length_cons,List.length_nil,List.length_map];omega) ?_)
      | (refine zad.to jh rfl rfl))
    ·have hj':j=c.wh.length:=by omega
     subst hj'
     rw [yjk]
     have hwl:=(z6x okc c.wh.length).1
     by_cases hk:0<c.ky.length
     ·have e0:pgK c 0=wsT c c.wh.length++[byL]:=by
       rw [zy6 hk]
      rw [<-z7t] at hjn
      repeat' ((conv=>whnf);first
      | refine Yz ?_
       | (refine zbk.mk (by simp only [List.length_cons,List.length_nil,List.length_map];omega) ?_))
      refine zad.to (zad.up g (fun j=>[(1,.ptr ⟨0,1,0⟩ 0 0),(5,.ptr ⟨0,5,1⟩ 0 0),(6,.fn za1 [] [.ptr ⟨0,5,1⟩ 0 0]),(9,.ref ⟨0,29,0⟩ 0 (pgK c j).length (pgK c j).length),(21,LC p.cl),(22,I p.cl.length),(23,I 0),(65,LK c.ky),(66,I c.ky.length),(67,I j)])
       (fun j=>[(⟨0,1,0⟩,.cells zab [LC p.cl,I p.po,I p.of,I p.fo]),(⟨0,5,0⟩,.row false ty_uint8 1 X.length (byD X)),(⟨0,5,1⟩,.cells ty_strings_Builder [.d .nilp,.ref ⟨0,5,0⟩ 0 X.length X.length]),(⟨0,8,0⟩,.cells zaa [S c.nm,LT c.wh,LK c.ky]),(⟨0,29,0⟩,.row false zb3 1 (pgK c j).length ((pgK c j).map D.str))])
       c.ky.length (fun j hj jh=> ?_) 0 (Nat.zero_le _)) (by rw [e0];simp only [List.length_append,List.length_cons,List.length_nil];rfl) (by rw [e0];simp only [List.length_append,List.length_cons,List.length_nil,List.map_append,List.map_cons,List.map_nil];rfl)
      have hpl:=yfm okc hj
      by_cases hjl:j<c.ky.length
      ·replace jh:=jh hjl
       rw [zzj c hjl] at jh
       have htl:=zvg (okc.ks _ (List.getElem_mem hjl))
       generalize hy:c.ky[j]=t at *
       have hd:=yf3 g t
       unfold z04 at htl jh
       generalize (if t.dn=true then(45:UInt8) else 43)=sg at *
       generalize pgK c j=W at *
       simp only [List.length_append] at htl
       simp only [List.length_append,List.length_cons,List.length_nil,List.map_append,List.map_cons,List.map_nil] at jh
       repeat' ((conv=>whnf);first
       | refine Yz ?_
        | (refine za0.rec Kyt.cells_length j rfl hjl ?_;rw [hy])
        | (apply zaf.of;assumption)
        | (refine zbk.mk (by simp only [zhb,List.length_cons,List.length_nil] at *;omega) ?_)
        | (refine zbk.mk (by simp only [List.length_cons,List.length_nil,List.length_map];omega) ?_)
        | (refine zad.to jh rfl rfl))
      ·have hj':j=c.ky.length:=by omega
       subst hj'
       generalize pgK c c.ky.length=W at *
       repeat' ((conv=>whnf);first
       | refine Yz ?_
        | (refine zad.step (body:=zch) g.lim ?_)
        | (refine In.enter (f:=za1) g.lim rfl rfl ?_)
        | (refine zaf.of (hjn rfl (if_pos ⟨rfl,rfl⟩)) ?_)
        | (refine zbk.mk (by simp only [zhb,List.length_cons,List.length_nil];omega) ?_)
        | (refine zbk.mk (by simp [Evl.bytesD]<;>omega) ?_)
        | (refine In.enter (f:=zak) g.lim rfl rfl ?_)
        | (refine In.extern g.lim (x:=copyX ty_strings_Builder) rfl rfl ?_)
        | (refine zb4.mk ⟨_,rfl,?_⟩)
        | (refine zad.to ih rfl ?_))
       simp only [List.length_append,List.length_cons,List.length_nil]
       rfl
     ·have hK0:wsK c c.ky.length=wsT c c.wh.length:=by
       rw [show c.ky.length=0 by omega,zzb]
      rw [hK0] at hjn
      generalize wsT c c.wh.length=W at *
      repeat' ((conv=>whnf);first
      | refine Yz ?_
       | (refine zad.step (body:=zch) g.lim ?_)
       | (refine In.enter (f:=za1) g.lim rfl rfl ?_)
       | (refine zaf.of (hjn rfl (if_pos ⟨rfl,rfl⟩)) ?_)
       | (refine zbk.mk (by simp only [zhb,List.length_cons,List.length_nil];omega) ?_)
       | (refine zbk.mk (by simp [Evl.bytesD]<;>omega) ?_)
       | (refine In.enter (f:=zak) g.lim rfl rfl ?_)
       | (refine In.extern g.lim (x:=copyX ty_strings_Builder) rfl rfl ?_)
       | (refine zb4.mk ⟨_,rfl,?_⟩)
       | (refine zad.to ih rfl ?_))
      simp only [List.length_append,List.length_cons,List.length_nil]
      rfl
   ·have hT:wsT c c.wh.length=[[99,108,97,115,115],c.nm]:=by
     rw [show c.wh.length=0 by omega]
     rfl
    by_cases hk:0<c.ky.length
    ·have e0:pgK c 0=[[99,108,97,115,115],c.nm,byL]:=by
      rw [zy6 hk,hT]
      rfl
     rw [<-z7t] at hjn
     repeat' ((conv=>whnf);first
     | refine Yz ?_
      | (refine za0.rec Cls.cells_length _ rfl hlt ?_;rw [hx])
      | (refine zad.step (body:=zfo) g.lim ?_)
      | (refine zbk.mk (by simp only [List.length_cons,List.length_nil,List.length_map];omega) ?_))
     refine zad.to (zad.up g (fun j=>[(1,.ptr ⟨0,1,0⟩ 0 0),(5,.ptr ⟨0,5,1⟩ 0 0),(6,.fn za1 [] [.ptr ⟨0,5,1⟩ 0 0]),(9,.ref ⟨0,29,0⟩ 0 (pgK c j).length (pgK c j).length),(21,LC p.cl),(22,I p.cl.length),(23,I 0),(65,LK c.ky),(66,I c.ky.length),(67,I j)])
      (fun j=>[(⟨0,1,0⟩,.cells zab [LC p.cl,I p.po,I p.of,I p.fo]),(⟨0,5,0⟩,.row false ty_uint8 1 X.length (byD X)),(⟨0,5,1⟩,.cells ty_strings_Builder [.d .nilp,.ref ⟨0,5,0⟩ 0 X.length X.length]),(⟨0,8,0⟩,.cells zaa [S c.nm,LT c.wh,LK c.ky]),(⟨0,29,0⟩,.row false zb3 1 (pgK c j).length ((pgK c j).map D.str))])
      c.ky.length (fun j hj jh=> ?_) 0 (Nat.zero_le _)) (by rw [e0];dsimp only;rfl) (by rw [e0];dsimp only;rfl)
     have hpl:=yfm okc hj
     by_cases hjl:j<c.ky.length
     ·replace jh:=jh hjl
      rw [zzj c hjl] at jh
      have htl:=zvg (okc.ks _ (List.getElem_mem hjl))
      generalize hy:c.ky[j]=t at *
      have hd:=yf3 g t
      unfold z04 at htl jh
      generalize (if t.dn=true then(45:UInt8) else 43)=sg at *
      generalize pgK c j=W at *
      simp only [List.length_append] at htl
      simp only [List.length_append,List.length_cons,List.length_nil,List.map_append,List.map_cons,List.map_nil] at jh
      repeat' ((conv=>whnf);first
      | refine Yz ?_
       | (refine za0.rec Kyt.cells_length j rfl hjl ?_;rw [hy])
       | (apply zaf.of;assumption)
       | (refine zbk.mk (by simp only [zhb,List.length_cons,List.length_nil] at *;omega) ?_)
       | (refine zbk.mk (by simp only [List.length_cons,List.length_nil,List.length_map];omega) ?_)
       | (refine zad.to jh rfl rfl))
     ·have hj':j=c.ky.length:=by omega
      subst hj'
      generalize pgK c c.ky.length=W at *
      repeat' ((conv=>whnf);first
      | refine Yz ?_
       | (refine zad.step (body:=zch) g.lim ?_)
       | (refine In.enter (f:=za1) g.lim rfl rfl ?_)
       | (refine zaf.of (hjn rfl (if_pos ⟨rfl,rfl⟩)) ?_)
       | (refine zbk.mk (by simp only [zhb,List.length_cons,List.length_nil];omega) ?_)
       | (refine zbk.mk (by simp [Evl.bytesD]<;>omega) ?_)
       | (refine In.enter (f:=zak) g.lim rfl rfl ?_)
       | (refine In.extern g.lim (x:=copyX ty_strings_Builder) rfl rfl ?_)
       | (refine zb4.mk ⟨_,rfl,?_⟩)
       | (refine zad.to ih rfl ?_))
      simp only [List.length_append,List.length_cons,List.length_nil]
      rfl
    ·have hK0:wsK c c.ky.length=wsT c c.wh.length:=by
      rw [show c.ky.length=0 by omega,zzb]
     rw [hK0,hT] at hjn
 
     repeat' ((conv=>whnf);first
     | refine Yz ?_
      | (refine za0.rec Cls.cells_length _ rfl hlt ?_;rw [hx])
      | (refine zad.step (body:=zfo) g.lim ?_)
      | (refine zad.step (body:=zch) g.lim ?_)
      | (refine In.enter (f:=za1) g.lim rfl rfl ?_)
      | (refine zaf.of (hjn rfl (if_pos ⟨rfl,rfl⟩)) ?_)
      | (refine zbk.mk (by simp only [zhb,List.length_cons,List.length_nil];omega) ?_)
      | (refine zbk.mk (by simp [Evl.bytesD]<;>omega) ?_)
      | (refine In.enter (f:=zak) g.lim rfl rfl ?_)
      | (refine In.extern g.lim (x:=copyX ty_strings_Builder) rfl rfl ?_)
      | (refine zb4.mk ⟨_,rfl,?_⟩)
      | (refine zad.to ih rfl ?_))
     simp only [List.length_append,List.length_cons,List.length_nil]
     rfl
  ·by_cases hw:0<c.wh.length
   ·repeat' ((conv=>whnf);first
   | refine Yz ?_
     | (refine za0.rec Cls.cells_length _ rfl hlt ?_;rw [hx]))
    refine zad.to (zad.up g (fun j=>[(1,.ptr ⟨0,1,0⟩ 0 0),(5,.ptr ⟨0,5,1⟩ 0 0),(6,.fn za1 [] [.ptr ⟨0,5,1⟩ 0 0]),(8,.ptr ⟨0,8,0⟩ 0 0),(9,.ref ⟨0,29,0⟩ 0 (pgT c j).length (pgT c j).length),(21,LC p.cl),(22,I p.cl.length),(23,I (k+1:Nat)),(38,LT c.wh),(39,I c.wh.length),(40,I j)])
     (fun j=>[(⟨0,1,0⟩,.cells zab [LC p.cl,I p.po,I p.of,I p.fo]),(⟨0,5,0⟩,.row false ty_uint8 1 X.length (byD X)),(⟨0,5,1⟩,.cells ty_strings_Builder [.ptr ⟨0,5,1⟩ 0 0,.ref ⟨0,5,0⟩ 0 X.length X.length]),(⟨0,8,0⟩,.cells zaa [S c.nm,LT c.wh,LK c.ky]),(⟨0,29,0⟩,.row false zb3 1 (pgT c j).length ((pgT c j).map D.str))])
     c.wh.length (fun j hj jh=> ?_) 0 (Nat.zero_le _)) (by rw [zy5 hw];rfl) (by rw [zy5 hw];rfl)
    have hpl:=yqk okc hj
    by_cases hjl:j<c.wh.length
    ·replace jh:=jh hjl
     rw [yeb c hjl] at jh
     have ht:=okc.ts _ (List.getElem_mem hjl)
     have htl:=z63 ht
     generalize hy:c.wh[j]=t at *
     have hd:=ygz g t.va (zcw.1 ((zbq _).1 ht (rng t.va 0 999999999) (by simp)))
     unfold z4n at htl jh
     generalize pgT c j=W at *
     simp only [List.length_append] at htl
     simp only [List.length_append,List.length_cons,List.length_nil,List.map_append,List.map_cons,List.map_nil] at jh
     repeat' ((conv=>whnf);first
     | refine Yz ?_
      | (refine za0.rec Tst.cells_length j rfl hjl ?_;rw [hy])
      | (apply zaf.of;assumption)
      | (refine zbk.mk (by simp only [zhb,List.length_append];omega) ?_)
      | (refine zbk.mk (by simp only [List.length_cons,List.length_nil,List.length_map];omega) ?_)
      | (refine zad.to jh rfl rfl))
    ·have hj':j=c.wh.length:=by omega
     subst hj'
     rw [yjk]
     have hwl:=(z6x okc c.wh.length).1
     by_cases hk:0<c.ky.length
     ·have e0:pgK c 0=wsT c c.wh.length++[byL]:=by
       rw [zy6 hk]
      rw [<-z7t] at hjn
      repeat' ((conv=>whnf);first
      | refine Yz ?_
       | (refine zbk.mk (by simp only [List.length_cons,List.length_nil,List.length_map];omega) ?_))
      refine zad.to (zad.up g (fun j=>[(1,.ptr ⟨0,1,0⟩ 0 0),(5,.ptr ⟨0,5,1⟩ 0 0),(6,.fn za1 [] [.ptr ⟨0,5,1⟩ 0 0]),(9,.ref ⟨0,29,0⟩ 0 (pgK c j).length (pgK c j).length),(21,LC p.cl),(22,I p.cl.length),(23,I (k+1:Nat)),(65,LK c.ky),(66,I c.ky.length),(67,I j)])
       (fun j=>[(⟨0,1,0⟩,.cells zab [LC p.cl,I p.po,I p.of,I p.fo]),(⟨0,5,0⟩,.row false ty_uint8 1 X.length (byD X)),(⟨0,5,1⟩,.cells ty_strings_Builder [.ptr ⟨0,5,1⟩ 0 0,.ref ⟨0,5,0⟩ 0 X.length X.length]),(⟨0,8,0⟩,.cells zaa [S c.nm,LT c.wh,LK c.ky]),(⟨0,29,0⟩,.row false zb3 1 (pgK c j).length ((pgK c j).map D.str))])
       c.ky.length (fun j hj jh=> ?_) 0 (Nat.zero_le _)) (by rw [e0];simp only [List.length_append,List.length_cons,List.length_nil];rfl) (by rw [e0];simp only [List.length_append,List.length_cons,List.length_nil,List.map_append,List.map_cons,List.map_nil];rfl)
      have hpl:=yfm okc hj
      by_cases hjl:j<c.ky.length
      ·replace jh:=jh hjl
       rw [zzj c hjl] at jh
       have htl:=zvg (okc.ks _ (List.getElem_mem hjl))
       generalize hy:c.ky[j]=t at *
       have hd:=yf3 g t
       unfold z04 at htl jh
       generalize (if t.dn=true then(45:UInt8) else 43)=sg at *
       generalize pgK c j=W at *
       simp only [List.length_append] at htl
       simp only [List.length_append,List.length_cons,List.length_nil,List.map_append,List.map_cons,List.map_nil] at jh
       repeat' ((conv=>whnf);first
       | refine Yz ?_
        | (refine za0.rec Kyt.cells_length j rfl hjl ?_;rw [hy])
        | (apply zaf.of;assumption)
        | (refine zbk.mk (by simp only [zhb,List.length_cons,List.length_nil] at *;omega) ?_)
        | (refine zbk.mk (by simp only [List.length_cons,List.length_nil,List.length_map];omega) ?_)
        | (refine zad.to jh rfl rfl))
      ·have hj':j=c.ky.length:=by omega
       subst hj'
       generalize pgK c c.ky.length=W at *
       repeat' ((conv=>whnf);first
       | refine Yz ?_
        | (refine zad.step (body:=zch) g.lim ?_)
        | (refine In.enter (f:=za1) g.lim rfl rfl ?_)
        | (refine zaf.of (hjn rfl (if_pos ⟨rfl,rfl⟩)) ?_)
        | (refine zbk.mk (by simp only [zhb,List.length_cons,List.length_nil];omega) ?_)
        | (refine zbk.mk (by simp [Evl.bytesD]<;>omega) ?_)
        | (refine In.enter (f:=zak) g.lim rfl rfl ?_)
        | (refine In.extern g.lim (x:=copyX ty_strings_Builder) rfl rfl ?_)
        | (refine zb4.mk ⟨_,rfl,?_⟩)
        | (refine zad.to ih rfl ?_))
       simp only [List.length_append,List.length_cons,List.length_nil]
       rfl
     ·have hK0:wsK c c.ky.length=wsT c c.wh.length:=by
       rw [show c.ky.length=0 by omega,zzb]
      rw [hK0] at hjn
      generalize wsT c c.wh.length=W at *
      repeat' ((conv=>whnf);first
      | refine Yz ?_
       | (refine zad.step (body:=zch) g.lim ?_)
       | (refine In.enter (f:=za1) g.lim rfl rfl ?_)
       | (refine zaf.of (hjn rfl (if_pos ⟨rfl,rfl⟩)) ?_)
       | (refine zbk.mk (by simp only [zhb,List.length_cons,List.length_nil];omega) ?_)
       | (refine zbk.mk (by simp [Evl.bytesD]<;>omega) ?_)
       | (refine In.enter (f:=zak) g.lim rfl rfl ?_)
       | (refine In.extern g.lim (x:=copyX ty_strings_Builder) rfl rfl ?_)
       | (refine zb4.mk ⟨_,rfl,?_⟩)
       | (refine zad.to ih rfl ?_))
      simp only [List.length_append,List.length_cons,List.length_nil]
      rfl
   ·have hT:wsT c c.wh.length=[[99,108,97,115,115],c.nm]:=by
     rw [show c.wh.length=0 by omega]
     rfl
    by_cases hk:0<c.ky.length
    ·have e0:pgK c 0=[[99,108,97,115,115],c.nm,byL]:=by
      rw [zy6 hk,hT]
      rfl
     rw [<-z7t] at hjn
     repeat' ((conv=>whnf);first
     | refine Yz ?_
      | (refine za0.rec Cls.cells_length _ rfl hlt ?_;rw [hx])
      | (refine zad.step (body:=zfo) g.lim ?_)
      | (refine zbk.mk (by simp only [List.length_cons,List.length_nil,List.length_map];omega) ?_))
     refine zad.to (zad.up g (fun j=>[(1,.ptr ⟨0,1,0⟩ 0 0),(5,.ptr ⟨0,5,1⟩ 0 0),(6,.fn za1 [] [.ptr ⟨0,5,1⟩ 0 0]),(9,.ref ⟨0,29,0⟩ 0 (pgK c j).length (pgK c j).length),(21,LC p.cl),(22,I p.cl.length),(23,I (k+1:Nat)),(65,LK c.ky),(66,I c.ky.length),(67,I j)])
      (fun j=>[(⟨0,1,0⟩,.cells zab [LC p.cl,I p.po,I p.of,I p.fo]),(⟨0,5,0⟩,.row false ty_uint8 1 X.length (byD X)),(⟨0,5,1⟩,.cells ty_strings_Builder [.ptr ⟨0,5,1⟩ 0 0,.ref ⟨0,5,0⟩ 0 X.length X.length]),(⟨0,8,0⟩,.cells zaa [S c.nm,LT c.wh,LK c.ky]),(⟨0,29,0⟩,.row false zb3 1 (pgK c j).length ((pgK c j).map D.str))])
      c.ky.length (fun j hj jh=> ?_) 0 (Nat.zero_le _)) (by rw [e0];dsimp only;rfl) (by rw [e0];dsimp only;rfl)
     have hpl:=yfm okc hj
     by_cases hjl:j<c.ky.length
     ·replace jh:=jh hjl
      rw [zzj c hjl] at jh
      have htl:=zvg (okc.ks _ (List.getElem_mem hjl))
      generalize hy:c.ky[j]=t at *
      have hd:=yf3 g t
      unfold z04 at htl jh
      generalize (if t.dn=true then(45:UInt8) else 43)=sg at *
      generalize pgK c j=W at *
      simp only [List.length_append] at htl
      simp only [List.length_append,List.length_cons,List.length_nil,List.map_append,List.map_cons,List.map_nil] at jh
      repeat' ((conv=>whnf);first
      | refine Yz ?_
       | (refine za0.rec Kyt.cells_length j rfl hjl ?_;rw [hy])
       | (apply zaf.of;assumption)
       | (refine zbk.mk (by simp only [zhb,List.length_cons,List.length_nil] at *;omega) ?_)
       | (refine zbk.mk (by simp only [List.length_cons,List.length_nil,List.length_map];omega) ?_)
       | (refine zad.to jh rfl rfl))
     ·have hj':j=c.ky.length:=by omega
      subst hj'
      generalize pgK c c.ky.length=W at *
      repeat' ((conv=>whnf);first
      | refine Yz ?_
       | (refine zad.step (body:=zch) g.lim ?_)
       | (refine In.enter (f:=za1) g.lim rfl rfl ?_)
       | (refine zaf.of (hjn rfl (if_pos ⟨rfl,rfl⟩)) ?_)
       | (refine zbk.mk (by simp only [zhb,List.length_cons,List.length_nil];omega) ?_)
       | (refine zbk.mk (by simp [Evl.bytesD]<;>omega) ?_)
       | (refine In.enter (f:=zak) g.lim rfl rfl ?_)
       | (refine In.extern g.lim (x:=copyX ty_strings_Builder) rfl rfl ?_)
       | (refine zb4.mk ⟨_,rfl,?_⟩)
       | (refine zad.to ih rfl ?_))
      simp only [List.length_append,List.length_cons,List.length_nil]
      rfl
    ·have hK0:wsK c c.ky.length=wsT c c.wh.length:=by
      rw [show c.ky.length=0 by omega,zzb]
     rw [hK0,hT] at hjn
 
     repeat' ((conv=>whnf);first
     | refine Yz ?_
      | (refine za0.rec Cls.cells_length _ rfl hlt ?_;rw [hx])
      | (refine zad.step (body:=zfo) g.lim ?_)
      | (refine zad.step (body:=zch) g.lim ?_)
      | (refine In.enter (f:=za1) g.lim rfl rfl ?_)
      | (refine zaf.of (hjn rfl (if_pos ⟨rfl,rfl⟩)) ?_)
      | (refine zbk.mk (by simp only [zhb,List.length_cons,List.length_nil];omega) ?_)
      | (refine zbk.mk (by simp [Evl.bytesD]<;>omega) ?_)
      | (refine In.enter (f:=zak) g.lim rfl rfl ?_)
      | (refine In.extern g.lim (x:=copyX ty_strings_Builder) rfl rfl ?_)
      | (refine zb4.mk ⟨_,rfl,?_⟩)
      | (refine zad.to ih rfl ?_))
     simp only [List.length_append,List.length_cons,List.length_nil]
     rfl
 ·obtain rfl:k=p.cl.length:=by omega
  obtain⟨n,hn⟩:∃n,p.cl.length=n+1:=⟨p.cl.length-1,by have:=ok.one;omega⟩
  have o1:=ok.po
  have o2:=ok.of'
  have o3:=ok.fo
  have d1:=ygz g p.po (by omega)
  have d2:=ygz g p.fo (by omega)
  have d3:=ygz g p.of (by omega)
  have hjl:=z97 p
  have hjn:Fc E n_strings_Join [.d (.list 6 [.str [112,111,111,108],.str (yav p.po),.str [115,104,97,114,101],.str (yav p.fo),.str [111,102],.str (yav p.of)]),S [32]] (S (zcg 32 (zo4 p))):=ylo g (zo4 p) (by simp [zo4]) (show 6<=1000000 by decide) (Nat.le_trans hjl (by decide))
  have he:yh2 p=yht p p.cl.length++(zcg 32 (zo4 p)++[10]):=by
   unfold yh2 yht
   rw [List.take_length]
  have hb:Evl.bytesOf (byD (yht p p.cl.length)++Evl.bytesD (zcg 32 (zo4 p)++[10]))=some (yh2 p):=by
   rw [yaq,<-z67,zoe,he]
  generalize zcg 32 (zo4 p)=J at *
  generalize yht p p.cl.length=X at *
  have hbv:yyh p.cl.length= .ptr ⟨0,5,1⟩ 0 0:=by rw [hn];rfl
  rw [hbv]
  repeat' ((conv=>whnf);first
  | refine Yz ?_
   | (apply zaf.of;assumption)
   | (refine In.enter (f:=za1) g.lim rfl rfl ?_)
   | (refine zbk.mk (by simp only [zhb,List.length_cons,List.length_nil];omega) ?_)
   | (refine zbk.mk (by simp [Evl.bytesD]<;>omega) ?_)
   | (refine In.enter (f:=zak) g.lim rfl rfl ?_)
   | (refine In.extern g.lim (x:=copyX ty_strings_Builder) rfl rfl ?_)
   | (refine In.extern g.lim (x:=stringX ty_strings_Builder ty_uint8) rfl (zz3 rfl rfl (by simp) hb) ?_)
   | (refine zb4.mk ⟨_,rfl,?_⟩)
   | (refine Ret.mk rfl))
end
def zvq (s:List UInt8):Int×Bool:=
 match Lib.atoiAll s with
 | .ok n=>(n,decide (0<=n)&&decide (n<=999999999)&&decide (yav n=s))
 | .syntax=>(0,false)
 | .range=>(Lib.atoiSat s,false)
theorem ytx {s:List UInt8} {n:Nat} (h0:s≠[]) (h:Lib.decFrom 0 s=some n):Lib.atoi s=some (n:Int):=by
 cases s with
 | nil=>exact absurd rfl h0
 | cons c r=>
  have hd:∃d,Lib.digitVal c=some d:=by
   cases hv:Lib.digitVal c with
   | none=>rw [Lib.decFrom,hv] at h;cases h
   | some d=>exact⟨d,rfl⟩
  obtain⟨d,hd⟩:=hd
  have hc:=(yng hd).2.2
  have e1:(c==45)=false:=beq_eq_false_iff_ne.2 fun e=>by
   have:c.toNat=45:=by rw [e];rfl
   omega
  have e2:(c==43)=false:=beq_eq_false_iff_ne.2 fun e=>by
   have:c.toNat=43:=by rw [e];rfl
   omega
  simp only [Lib.atoi,e1,e2,Lib.decNat,List.isEmpty_cons,h]
  simp
theorem yev (s:List UInt8):z8p s=if(zvq s).2=true then some (zvq s).1.toNat else none:=by
 cases hb:(zvq s).2
 ·rw [if_neg (by decide)]
  cases hn:z8p s with
  | none=>rfl
  | some m=>
   exfalso
   have hm:=ytn hn
   have ht:=z79 hn
   unfold z8p at hn
   split at hn
   ·cases hn
   ·rename_i hc
    have hl:s.length<=9:=by omega
    have h0:s≠[]:=fun e=>hc (.inl (by rw [e];rfl))
    have ha:Lib.atoiAll s= .ok (m:Int):=by rw [Lib.atoiAll_short s (by omega),ytx h0 hn];rfl
    unfold zvq at hb
    rw [ha] at hb
    simp only [Bool.and_eq_false_iff,decide_eq_false_iff_not] at hb
    rcases hb with(hb|hb)|hb
    ·omega
    ·omega
    ·exact hb ht
 ·rw [if_pos rfl]
  unfold zvq at hb ⊢
  cases hv:Lib.atoiAll s with
  | ok n=>
   rw [hv] at hb
   simp only [Bool.and_eq_true,decide_eq_true_eq] at hb
   obtain⟨⟨h1,h2⟩,h3⟩:=hb
   have:=zj2 ⟨h1,h2⟩
   rw [h3] at this
   exact this
  | «syntax»=>rw [hv] at hb;cases hb
  | range=>rw [hv] at hb;cases hb
theorem ymq {s:List UInt8} (h:(zvq s).2=true):0<=(zvq s).1:=by
 unfold zvq at h ⊢
 cases hv:Lib.atoiAll s with
 | ok n=>
  rw [hv] at h
  simp only [Bool.and_eq_true,decide_eq_true_eq] at h
  exact h.1.1
 | «syntax»=>rw [hv] at h;cases h
 | range=>rw [hv] at h;cases h
theorem yac:∀w:List UInt8,match ycl w with
  | none=>Lib.indexAny w [61,60,62]= -1
  | some (a,c,r)=>Lib.indexAny w [61,60,62]=(a.length:Int)/\w=a++c::r
 | []=>rfl
 | x::q=>by
  have ih:=yac q
  unfold ycl Lib.indexAny
  by_cases h:x=61\/x=60\/x=62
  ·have hc:([61,60,62]:List UInt8).contains x=true:=by
    rcases h with rfl|rfl|rfl<;>decide
   rw [if_pos h,if_pos hc]
   exact⟨rfl,rfl⟩
  ·have hc:¬([61,60,62]:List UInt8).contains x=true:=by
    simp only [List.contains_cons,List.contains_nil,Bool.or_false,Bool.or_eq_true,beq_iff_eq]
    exact h
   rw [if_neg h,if_neg hc]
   cases hq:ycl q with
   | none=>
    rw [hq] at ih
    dsimp only [Option.map_none] at ih ⊢
    rw [ih]
    rfl
   | some p=>
    obtain⟨a,c,r⟩:=p
    rw [hq] at ih
    dsimp only [Option.map_some] at ih ⊢
    obtain⟨i1,i2⟩:=ih
    rw [i1,if_neg (by simp only [beq_iff_eq];omega)]
    exact⟨by rw [List.length_cons];omega,by rw [i2];rfl⟩
def ptV (w:List UInt8):Tst×Bool:=
 match ycl w with
 | none=>(⟨[],[],0⟩,false)
 | some (a,c,r)=>(⟨a,[c],(zvq r).1⟩,(zvq r).2)
theorem ywr (w:List UInt8):zvc w=if(ptV w).2=true then some (ptV w).1 else none:=by
 unfold zvc ptV
 cases ycl w with
 | none=>rfl
 | some p=>
  obtain⟨a,c,r⟩:=p
  simp only
  have h:=yev r
  cases hb:(zvq r).2
  ·rw [hb,if_neg (by decide)] at h
   rw [h]
   rfl
  ·rw [hb,if_pos rfl] at h
   have hg:=ymq hb
   rw [h]
   simp only [Option.map_some,if_true]
   rw [Int.toNat_of_nonneg hg]
section
variable {E : Oracle} (g : Good E)
include g
theorem ztd (s:List UInt8) (hs:s.length<=1000000):Fc E zgv [S s] (.tup [I (zvq s).1,B (zvq s).2]):=by
 refine g.fn rfl rfl ?_
 unfold zvq
 cases hv:Lib.atoiAll s with
 | ok n=>
  have hx:atoiX [S s] []=some (.tup [I n,.d .nili],[]):=by simp only [atoiX,hv];rw [if_pos hs]
  dsimp only
  by_cases h1:0<=n
  ·by_cases h2:n<=999999999
   ·have hd:=ygz g n ⟨h1,h2⟩
    rw [decide_eq_true h1,decide_eq_true h2]
    by_cases h3:yav n=s
    ·rw [decide_eq_true h3]
     repeat' ((conv=>whnf);first
     | refine Yz ?_
      | (refine zdo.ext g rfl hx rfl ?_)
      | (apply zaf.of;assumption)
      | (refine Cmp.tt h3 ?_)
      | (exact Ret.mk rfl))
    ·rw [decide_eq_false h3]
     repeat' ((conv=>whnf);first
     | refine Yz ?_
      | (refine zdo.ext g rfl hx rfl ?_)
      | (apply zaf.of;assumption)
      | (refine Cmp.ff h3 ?_)
      | (exact Ret.mk rfl))
   ·rw [decide_eq_true h1,decide_eq_false h2]
    repeat' ((conv=>whnf);first
    | refine Yz ?_
     | (refine zdo.ext g rfl hx rfl ?_)
     | (exact Ret.mk rfl))
  ·rw [decide_eq_false h1]
   repeat' ((conv=>whnf);first
   | refine Yz ?_
    | (refine zdo.ext g rfl hx rfl ?_)
    | (exact Ret.mk rfl))
 | «syntax»=>
  have hx:atoiX [S s] []=some (.tup [I 0,.d (.ifc true)],[]):=by simp only [atoiX,hv];rw [if_pos hs]
  dsimp only
  repeat' ((conv=>whnf);first
  | refine Yz ?_
   | (refine zdo.ext g rfl hx rfl ?_)
   | (exact Ret.mk rfl))
 | range=>
  have hx:atoiX [S s] []=some (.tup [I (Lib.atoiSat s),.d (.ifc true)],[]):=by simp only [atoiX,hv];rw [if_pos hs]
  dsimp only
  repeat' ((conv=>whnf);first
  | refine Yz ?_
   | (refine zdo.ext g rfl hx rfl ?_)
   | (exact Ret.mk rfl))
theorem yhq (w:List UInt8) (hw:w.length<=1000000):Fc E n_strings_IndexAny [S w,S [61,60,62]] (I (Lib.indexAny w [61,60,62])):=
 Fc.extern g.lim (x:=indexAnyX) rfl (v:=I (Lib.indexAny w [61,60,62])) (m':=[]) (by simp [indexAnyX,hw]) rfl
theorem yut (w:List UInt8) (hw:w.length<=1000000):Fc E zhe [S w] (.tup [Tsv (ptV w).1,B (ptV w).2]):=by
 have h1:=yhq g w hw
 have hc:=yac w
 refine g.fn rfl rfl ?_
 unfold ptV
 cases hq:ycl w with
 | none=>
  rw [hq] at hc
  dsimp only at hc ⊢
  rw [hc] at h1
  repeat' ((conv=>whnf);first
  | refine Yz ?_
   | (apply zaf.of;assumption)
   | (exact Ret.mk rfl))
 | some p=>
  obtain⟨a,c,r⟩:=p
  rw [hq] at hc
  dsimp only at hc ⊢
  obtain⟨i1,i2⟩:=hc
  rw [i1] at h1
  have hl:w.length=a.length+1+r.length:=by rw [i2];simp;omega
  have h2:=ztd g r (by omega)
  have e1:win w 0 (a.length-0)=a:=by rw [i2];simp [win]
  have e2:win w a.length (a.length+1-a.length)=[c]:=by rw [i2,Nat.add_sub_cancel_left];simp [win]
  have e3:win w (a.length+1) (w.length-(a.length+1))=r:=by
   unfold win
   rw [List.take_of_length_le (by rw [List.length_drop];exact Nat.le_refl _),i2]
   simp
  generalize zvq r=v at *
  obtain⟨n,b⟩:=v
  dsimp only at h2 ⊢
  clear hq i1 i2
  repeat' ((conv=>whnf);first
  | refine Yz ?_
   | (refine zbe.at (a.length+1) w.length (by omega) (by omega) (by omega) ?_<;>(try dsimp only)<;>(rw [e3]))
   | (refine zbe.at 0 a.length (by omega) (by omega) (by omega) ?_<;>(try dsimp only)<;>(rw [e1]))
   | (refine zbe.at a.length (a.length+1) (by omega) (by omega) (by omega) ?_<;>(try dsimp only)<;>(rw [e2]))
   | (apply zaf.of;assumption)
   | (exact Ret.mk rfl))
end
theorem zk1.hi' {s:List UInt8} {k:Nat} {a:Int->Nat->Prop} {b:Prop} (h:k<s.length) (ha:128<=(s.getD k 0).toNat) (hk:∀(c:Int) (w:Nat),128<=c->1<=w->k+w<=s.length->(∀j,k<=j->j<k+w->128<=(s.getD j 0).toNat)->a c w):zk1 s k a b:=by
 refine⟨fun _=> ?_,fun hn=>absurd h hn⟩
 have hsz:(⟨s.toArray⟩:ByteArray).size=s.length:=by simp [ByteArray.size]
 have hat:∀j (hj:j<s.length),(⟨s.toArray⟩:ByteArray).data.toList[j]? =some (s.getD j 0):=fun j hj=>by simp [List.getD,hj]
 have hd:=ygc ⟨s.toArray⟩ k (by rw [hsz];exact h) (by rw [zkv (hat k h)];exact ha)
 refine hk _ _ (by have:=hd.lo;omega) hd.k1 (by have:=hd.kn;omega) fun j h1 h2=>hd.by_ j _ h1 h2 (hat j (by have:=hd.kn;omega))
def pkV (w:List UInt8):Kyt×Bool:=if(rkV w).2=true then rkV w else(⟨[],false⟩,false)
theorem yuq {w:List UInt8} (h:w≠[]):z7c w=if(pkV w).2=true then some (pkV w).1 else none:=by
 rw [yu7 h]
 unfold pkV
 by_cases hb:(rkV w).2=true
 ·rw [if_pos hb,if_pos hb,if_pos hb]
 ·rw [if_neg hb,if_neg hb]
  rfl
def yyr (w:List UInt8) (s:Nat×Int):Prop:=s.1<=w.length/\((s.1=0/\s.2=0)\/(0<s.1/\(((w.getD (s.1-1) 0).toNat<128/\s.2=(w.getD (s.1-1) 0).toNat)\/(128<=(w.getD (s.1-1) 0).toNat/\128<=s.2))))
section
variable {E : Oracle} (g : Good E)
include g
theorem yxj (w:List UInt8) (h0:w≠[]) (hw:w.length<=1000000):Fc E zh0 [S w] (.tup [Kyv (pkV w).1,B (pkV w).2]):=by
 have hl:0<w.length:=List.length_pos_iff.2 h0
 refine g.fn rfl rfl ?_
 repeat' ((conv=>whnf);first
 | refine Yz ?_)
 refine zad.to (zad.by g (yyr w) (fun s=>[(0,S w),(2,.ptr ⟨0,2,0⟩ 0 0),(4,.d (.int .i32 s.2)),(8,.it ⟨0,8,0⟩)]) (fun s=>[(⟨0,2,0⟩,.cells zan [S [],B false]),(⟨0,8,0⟩,.iter w s.1)]) (fun s=>w.length-s.1) (fun s hs ih=> ?_) (0,0) ⟨Nat.zero_le _,.inl ⟨rfl,rfl⟩⟩) rfl rfl
 obtain⟨p,last⟩:=s
 obtain⟨hp,hs⟩:=hs
 dsimp only at hp hs ih ⊢
 by_cases hlt:p<w.length
 ·by_cases ha:(w.getD p 0).toNat<128
  ·have ih:=ih (p+1,((w.getD p 0).toNat:Int)) ⟨by dsimp only;omega,.inr ⟨by dsimp only;omega,.inl ⟨ha,rfl⟩⟩⟩ (by dsimp only;omega)
   repeat' ((conv=>whnf);first
   | refine Yz ?_
    | (refine zk1.asc hlt ha ?_)
    | (refine zad.to ih rfl rfl))
  ·have ih:=fun(c:Int) (k:Nat) (h1:128<=c) (h2:1<=k) (h3:p+k<=w.length) (h4:∀j,p<=j->j<p+k->128<=(w.getD j 0).toNat)=>ih (p+k,c) ⟨h3,.inr ⟨by dsimp only;omega,.inr ⟨h4 _ (by dsimp only;omega) (by dsimp only;omega),h1⟩⟩⟩ (by dsimp only;omega)
   repeat' ((conv=>whnf);first
   | refine Yz ?_
    | (refine zk1.hi' hlt (by omega) (fun c k h1 h2 h3 h4=> ?_))
    | (refine zad.to (ih c k h1 h2 h3 h4) rfl rfl))
 ·obtain rfl:p=w.length:=by omega
  clear ih
  have hs:((w.getD (w.length-1) 0).toNat<128/\last=(w.getD (w.length-1) 0).toNat)\/(128<=(w.getD (w.length-1) 0).toNat/\128<=last):=by omega
  have e1:win w 0 (w.length-1-0)=w.dropLast:=by
   unfold win
   rw [List.drop_zero,Nat.sub_zero,List.dropLast_eq_take]
  have hv:(last=43/\pkV w=(⟨w.dropLast,false⟩,true))\/(last=45/\pkV w=(⟨w.dropLast,true⟩,true))\/(last≠43/\last≠45/\pkV w=(⟨[],false⟩,false)):=by
   unfold pkV rkV
   generalize (w.getD (w.length-1) 0).toNat=b at *
   by_cases c1:b=43
   ·subst c1;exact .inl ⟨by omega,by simp⟩
   ·by_cases c2:b=45
    ·subst c2;exact .inr (.inl ⟨by omega,by simp⟩)
    ·exact .inr (.inr ⟨by omega,by omega,by simp [c1,c2]⟩)
  clear hs
  rcases hv with⟨rfl,hv⟩|⟨rfl,hv⟩|⟨n1,n2,hv⟩
  all_goals rw [hv]
  all_goals (repeat' ((conv=>whnf);first
  | refine Yz ?_
   | (refine zk1.end' (Nat.le_refl _) ?_)
   | (refine zbe.at 0 (w.length-1) (by omega) (by omega) (by omega) ?_<;>(try dsimp only)<;>(rw [e1]))
   | (exact Ret.mk rfl)))
end
structure yye (ws:List (List UInt8)):Prop where
 ne:∀w∈ws,w≠[]
 len:∀w∈ws,w.length<=1000000
 few:ws.length<=1000001
theorem yye.at {ws:List (List UInt8)} (h:yye ws) {k:Nat} (hk:k<ws.length):ws[k]≠[]/\ws[k].length<=1000000:=⟨h.ne _ (List.getElem_mem hk),h.len _ (List.getElem_mem hk)⟩
theorem yc4 {c:Cls} {ws:List (List UInt8)} (h:zgk ws=some c) (hl:ws.length<=1000000):z1b c:=by
 have e:=congrArg List.length (zxp h)
 rw [zzs] at e
 simp only [List.length_cons,List.length_append] at e
 constructor
 ·by_cases hw:c.wh.length=0
  ·omega
  ·rw [if_neg hw] at e
   simp only [List.length_cons,List.length_map] at e
   omega
 ·by_cases hw:c.ky.length=0
  ·omega
  ·rw [if_neg hw] at e
   simp only [List.length_cons,List.length_map] at e
   omega
theorem zs2 (b:UInt8):∀(s:List UInt8),∀w∈parts b s,w.length<=s.length
 | [],w,h=>by
  simp only [parts,List.mem_singleton] at h
  subst h;simp
 | x::r,w,h=>by
  have ih:=zs2 b r
  rw [parts] at h
  split at h
  ·rcases List.mem_cons.1 h with rfl|h
   ·simp
   ·have:=ih w h;rw [List.length_cons];omega
  ·split at h
   ·rename_i hp;exact absurd hp (zvf b r)
   ·rename_i p q hp
    rw [hp] at ih
    rcases List.mem_cons.1 h with rfl|h
    ·have:=ih p (List.mem_cons_self ..);simp only [List.length_cons];omega
    ·have:=ih w (List.mem_cons_of_mem _ h);rw [List.length_cons];omega
theorem z5g:∀(s:List UInt8),∀p∈pcs s,p≠[]
 | [],p,h=>by simp [pcs] at h
 | c::r,p,h=>by
  have ih:=z5g r
  rw [pcs] at h
  split at h
  ·rcases List.mem_cons.1 h with rfl|h
   ·simp
   ·exact ih p h
  ·split at h
   ·simp only [List.mem_singleton] at h;subst h;simp
   ·rename_i q qs hq
    rw [hq] at ih
    rcases List.mem_cons.1 h with rfl|h
    ·simp
    ·exact ih p (List.mem_cons_of_mem _ h)
theorem yia {cx:Cx} {slot lo:Nat} {old m:Mem} {o:Evl.Id} {v:V} (hi:Go.Evl.ids v=[o]) (hr:Go.Evl.ren [] v=v) (h:o.lv<lo):Go.Evl.settle cx slot lo old m v=some (v,old):=by
 have hn:¬lo<=o.lv:=by omega
 have hr':Go.Evl.reach lo m 64 (Go.Evl.ids v) []=[]:=by
  rw [hi]
  simp [Go.Evl.reach,hn]
 unfold Go.Evl.settle
 simp only [hr']
 rw [if_pos (by rw [hi];simp [Go.Evl.within,Go.Evl.movable,Go.Evl.onceB,h])]
 simp [Go.Evl.number,hr,Go.Evl.moved]
theorem ydt {cx:Cx} {slot lo:Nat} {old m:Mem} {o:Evl.Id} {v v':V} {wr:Bool} {t sz n:Nat} {xs:List D} (hi:Go.Evl.ids v=[o]) (hlo:lo<=o.lv) (hl:Evl.look m o=some (.row wr t sz n xs)) (hr:Go.Evl.ren [(o,⟨cx.lv,slot,Go.Evl.freeK cx.lv slot old⟩)] v=v'):
  Go.Evl.settle cx slot lo old m v=some (v',old++[(⟨cx.lv,slot,Go.Evl.freeK cx.lv slot old⟩,.row wr t sz n xs)]):=by
 have hr':Go.Evl.reach lo m 64 (Go.Evl.ids v) []=[o]:=by
  rw [hi]
  simp [Go.Evl.reach,hlo,hl,Go.Evl.idsO]
 unfold Go.Evl.settle
 simp only [hr']
 rw [if_pos (by rw [hi];simp [Go.Evl.within,Go.Evl.movable,Go.Evl.onceB,hl,hlo,Go.Evl.idsO,Go.Evl.isLoop])]
 simp [Go.Evl.number,hr,Go.Evl.moved,hl,Go.Evl.renO]
theorem zb4.low {cx:Cx} {slot lo:Nat} {old m:Mem} {o:Evl.Id} {v:V} {K:V×Mem->Prop} (hi:Go.Evl.ids v=[o]) (hr:Go.Evl.ren [] v=v) (h:o.lv<lo) (k:K (v,old)):zb4 (Go.Evl.settle cx slot lo old m v) K:=⟨_,yia hi hr h,k⟩
theorem zb4.nrow {cx:Cx} {slot lo:Nat} {old m:Mem} {o:Evl.Id} {v v':V} {wr:Bool} {t sz n:Nat} {xs:List D} {K:V×Mem->Prop} (c:Nat) (hi:Go.Evl.ids v=[o]) (hlo:lo<=o.lv) (hl:Evl.look m o=some (.row wr t sz n xs)) (hf:Go.Evl.freeK cx.lv slot old=c) (hr:Go.Evl.ren [(o,⟨cx.lv,slot,c⟩)] v=v')
  (k:K (v',old++[(⟨cx.lv,slot,c⟩,.row wr t sz n xs)])):zb4 (Go.Evl.settle cx slot lo old m v) K:=⟨_,ydt (v':=v') hi hlo hl (by rw [hf];exact hr),by rw [hf];exact k⟩
theorem ysl (w:List UInt8) (r:List (List UInt8)):win ((w::r).map D.str) (1*1) (((w::r).length-1)*1)=r.map D.str:=by
 unfold win
 rw [List.map_cons,Nat.mul_one,List.drop_one,List.tail_cons,List.take_of_length_le (by simp)]
section
variable {E : Oracle} (g : Good E)
include g
theorem yoy {lv t:Nat} {m:Mem} (h:Evl.look m ⟨1,24,0⟩=some (.cells t [LS []])) {K:V->Mem->Prop} (hK:K (S []) m):In E lv zbv [.ptr ⟨1,24,0⟩ 0 0] m K:=by
 refine In.enter (f:=zbv) g.lim rfl rfl ?_
 repeat' ((conv=>whnf);first
 | refine Yz ?_
  | (rw [zcy,h])
  | (exact hK))
theorem zb2 {lv t:Nat} {m:Mem} (w:List UInt8) (r:List (List UInt8)) (hr:r.length<=1000000) (h:Evl.look m ⟨1,24,0⟩=some (.cells t [LS (w::r)])) {K:V->Mem->Prop} (hK:K (S w) (Evl.upd m ⟨1,24,0⟩ (.cells t [LS r]))):In E lv zbv [.ptr ⟨1,24,0⟩ 0 0] m K:=by
 refine In.enter (f:=zbv) g.lim rfl rfl ?_
 repeat' ((conv=>whnf);first
 | refine Yz ?_
  | (rw [zcy,h])
  | (rw [zel])
  | (refine Cmp.ff (by simp only [List.length_cons];omega) ?_)
  | (refine zbk.mk (by simp only [List.length_cons];omega) ?_)
  | (refine zbe.at 1 (w::r).length rfl rfl (by simp) ?_<;>(try dsimp only)<;>(rw [ysl]))
  | (exact hK))
end
end Go.Proofs.YthmfkkpmjcbgeabGreatDoor.Co
