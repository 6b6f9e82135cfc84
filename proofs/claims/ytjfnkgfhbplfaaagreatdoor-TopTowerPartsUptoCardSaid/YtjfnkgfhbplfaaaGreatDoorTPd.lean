/-
  TopTowerParts: what its law leans on, part 4.
-/
import Derived.Laws.RangeAny
import Derived.Test.YtjfnkgfhbplfaaaGreatDoorRead
import Derived.Test.YtjfnkgfhbplfaaaGreatDoorSpBase
import Derived.Test.YtjfnkgfhbplfaaaGreatDoorTPc
namespace Go.Proofs.YtjfnkgfhbplfaaaGreatDoor.Co
open Go Go.Evl
set_option maxHeartbeats 32000000
set_option maxRecDepth 100000
def z6y (ev:List (Int×Int)) (i:Int):Int:=((ev.filter fun p=>decide (p.1=i)).length:Int)-((ev.filter fun p=>decide (p.2=i)).length:Int)
def yaw (f:Int->Int):List V:=(List.range 1441).map fun(i:Nat)=>I (f i)
theorem zqp.edg {f:Int->Int} {i:Int} {K:V->Prop} (hi:0<=i/\i<=1440) (h:K (I (f i))):zqp (yaw f) (0+i.toNat*1) K:=by
 refine zqp.now ?_ h
 have e:0+i.toNat*1<1441:=by omega
 unfold yaw
 rw [List.getElem?_map,List.getElem?_range e]
 have:((0+i.toNat*1:Nat):Int)=i:=by omega
 simp only [Option.map_some,this]
def yg7 (f:Int->Int) (i v:Int):Int->Int:=fun j=>if j=i then v else f j
theorem z1b (f:Int->Int):(yaw f).length=1441:=by simp [yaw]
theorem z1c {f:Int->Int} {i v:Int} {K:List V->Prop} (hi:0<=i/\i<=1440) (h:K (yaw (yg7 f i v))):zki ([I v].length=1/\0+i.toNat*1+1<=(yaw f).length) (z00 (yaw f) (0+i.toNat*1) [I v] K):=by
 have hl:=z1b f
 refine⟨⟨rfl,by rw [hl];omega⟩,?_⟩
 rw [zt2,z3u _ _ _ (by rw [hl];show 0+i.toNat*1+1<=1441;omega)]
 have e:patch (yaw f) (0+i.toNat*1) [I v]=yaw (yg7 f i v):=by
  have e1:patch (yaw f) (0+i.toNat*1) [I v]=(yaw f).set (0+i.toNat*1) (I v):=by
   rw [List.set_eq_take_append_cons_drop,if_pos (by rw [hl];omega)]
   simp [patch]
  rw [e1]
  refine List.ext_getElem (by rw [List.length_set,hl,z1b]) fun j h1 h2=> ?_
  rw [List.getElem_set]
  rw [z1b] at h2
  have hs:(yaw (yg7 f i v))[j]'(by rw [z1b];exact h2)=I (yg7 f i v j):=by simp [yaw]
  have ho:(yaw f)[j]'(by rw [hl];exact h2)=I (f j):=by simp [yaw]
  rw [hs,ho]
  unfold yg7
  by_cases c2:0+i.toNat*1=j
  ·rw [if_pos c2,if_pos (by omega)]
  ·rw [if_neg c2,if_neg (by omega)]
 rw [e];exact h
abbrev yqu (ev:List (Int×Int)):List V:=yaw (z6y ev)
theorem yhu:∀N:Nat,((List.range N).map fun(i:Nat)=>I (z6y [] i))=List.replicate N (I 0)
 | 0=>rfl
 | N+1=>by
  rw [List.range_succ,List.map_append,yhu N,List.replicate_succ']
  rfl
theorem yk1:yqu []=List.replicate 1441 (I 0):=yhu 1441
theorem yn8 (ev:List (Int×Int)) {F T:Int} (h:F<T):yg7 (yg7 (z6y ev) F (z6y ev F+1)) T (yg7 (z6y ev) F (z6y ev F+1) T-1)=z6y (ev++[(F,T)]):=by
 funext j
 unfold yg7 z6y
 simp only [List.filter_append,List.length_append,List.filter_cons,List.filter_nil]
 rw [if_neg (show ¬T=F by omega)]
 by_cases c1:j=T
 ·subst c1
  rw [if_pos rfl,if_neg (by rw [decide_eq_true_eq];omega),if_pos (by rw [decide_eq_true_eq])]
  simp only [List.length_nil,List.length_singleton]
  omega
 ·rw [if_neg c1,if_neg (show ¬decide (T=j)=true by rw [decide_eq_true_eq];omega)]
  by_cases c2:j=F
  ·subst c2
   rw [if_pos rfl,if_pos (by rw [decide_eq_true_eq])]
   simp only [List.length_nil,List.length_singleton]
   omega
  ·rw [if_neg c2,if_neg (by rw [decide_eq_true_eq];omega)]
   simp only [List.length_nil]
   omega
theorem ygk (ev:List (Int×Int)) (F T:Int) (h:F<T): -(ev.length:Int)<=yg7 (z6y ev) F (z6y ev F+1) T/\yg7 (z6y ev) F (z6y ev F+1) T<=ev.length:=by
 have h1:=List.length_filter_le (fun p:Int×Int=>decide (p.1=T)) ev
 have h2:=List.length_filter_le (fun p:Int×Int=>decide (p.2=T)) ev
 unfold yg7
 rw [if_neg (by omega)]
 unfold z6y
 omega
def evB (l:Lmt) (m:List Mvt) (d:Int) (bs:List Int):List (Int×Int):=bs.flatMap fun b=>if l.mo<=z5d l m b/\max 0 (b-1440*d)<min 1440 (b+l.le-1440*d) then [(max 0 (b-1440*d),min 1440 (b+l.le-1440*d))] else []
def evD (l:Lmt) (m:List Mvt) (d:Int):List (Int×Int):=evB l m d (z44 l (d-1))++evB l m d (z44 l d)
def evL (l:Lmt) (m:List Mvt) (q:Rqt):List (Int×Int):=if z81 l q.ki q.te=true then(zaq q).flatMap (evD l m) else []
def evA (ls:List Lmt) (m:List Mvt) (q:Rqt):List (Int×Int):=ls.flatMap fun l=>evL l m q
abbrev rqC (q:Rqt):List V:=[S q.nm,S q.ca,S q.ki,S q.te,S q.pa,S q.li,I q.fr,I q.to,I q.da,I q.mi,I q.se,I q.si,I q.no]
abbrev frM (q:Rqt) (ev:List (Int×Int)):Mem:=[(⟨0,5,0⟩,.cells zaj (rqC q)),(⟨0,7,0⟩,.cells z38 (yqu ev))]
abbrev yqv (q:Rqt) (l:Lmt) (m:List Mvt) (ev:List (Int×Int)) (la:Int×Int):Mem:=frM q ev++[(⟨0,11,0⟩,.cells zab (lmC l)),(⟨0,12,0⟩,.cells zgd [LI (z1l l m)]),(⟨0,13,0⟩,.cells zbc [I 0,I la.1,I la.2])]
abbrev yoz (q:Rqt) (l:Lmt) (m:List Mvt) (d x:Int) (ev:List (Int×Int)) (la:Int×Int):Mem:=yqv q l m ev la++[(⟨0,15,0⟩,.cells za4 [I d]),(⟨0,63,0⟩,.cells za4 [I x]),(⟨0,63,1⟩,.cells zab (lmC l))]
abbrev frO (ls:List Lmt) (m:List Mvt) (q:Rqt) (k k2 k3 d:Int):Ob:= .loop [(1,LMv m),(5,.ptr ⟨0,5,0⟩ 0 0),(6,.d .nilp),(7,.ptr ⟨0,7,0⟩ 0 0),(8,LI (zaq q)),(11,.ptr ⟨0,11,0⟩ 0 0),(12,.ptr ⟨0,12,0⟩ 0 0),(13,.ptr ⟨0,13,0⟩ 0 0),(15,.ptr ⟨0,15,0⟩ 0 0),(18,.undef),(31,LLm ls),(32,I ls.length),(33,I k),(48,LI (zaq q)),(49,I (zaq q).length),(50,I k2),(57,.d (.agg [DI (d-1),DI d])),(58,I k3),(59,B true),(63,.fn zaf [] [.ptr ⟨0,63,0⟩ 0 0,.ptr ⟨0,63,1⟩ 0 0])] [64] zpu zpv 0 false false none
theorem yfp (l:Lmt) (m:List Mvt) (d:Int) (a b:List Int):evB l m d (a++b)=evB l m d a++evB l m d b:=List.flatMap_append
theorem zza (l:Lmt) (m:List Mvt) (d:Int):∀bs:List Int,(evB l m d bs).length<=bs.length
 | []=>Nat.le_refl _
 | b::r=>by
  have:=zza l m d r
  unfold evB at this ⊢
  rw [List.flatMap_cons,List.length_append,List.length_cons]
  split
  ·simp only [List.length_singleton];omega
  ·simp only [List.length_nil];omega
theorem z5g (ev:List (Int×Int)) (i:Int): -(ev.length:Int)<=z6y ev i/\z6y ev i<=ev.length:=by
 unfold z6y
 have h1:=List.length_filter_le (fun p:Int×Int=>decide (p.1=i)) ev
 have h2:=List.length_filter_le (fun p:Int×Int=>decide (p.2=i)) ev
 omega
section
variable {E : Oracle} (g : Good E)
include g
theorem ymi (ls:List Lmt) (m:List Mvt) (q:Rqt) (l:Lmt) (hvl:zi8 l=0) (hm:zju m=0) (k k2 k3 d x:Int) (hd:0<=d/\d<=99999) (ev:List (Int×Int)) (hev:ev.length<=100000000) (la:Int×Int) (hla:la.1= -1\/la.2=z5d l m la.1) {K:V->Mem->Prop}
  (hK:∀v la',(la'.1= -1\/la'.2=z5d l m la'.1)->K v (yoz q l m d x (ev++evB l m d (z44 l x)) la'++[(⟨0,131,0⟩,frO ls m q k k2 k3 d)])):
  In E 1 zaf [.yld ⟨0,131,0⟩,.ptr ⟨0,63,0⟩ 0 0,.ptr ⟨0,63,1⟩ 0 0] (yoz q l m d x ev la++[(⟨0,131,0⟩,frO ls m q k k2 k3 d)]) K:=by
 have hvz:=zfi.1 hvl
 have hpz:=zay.1 hvz.2.2.2.2.2.2.2.2.1
 have a1:l.to/l.st<=l.to:=Int.ediv_le_self _ hvz.2.2.2.2.2.2.1.1
 have a2:0<=(l.fr+l.st-1)/l.st:=Int.ediv_nonneg (by omega) (by omega)
 have a3:(l.fr+l.st-1)/l.st<=l.fr+l.st-1:=Int.ediv_le_self _ (by omega)
 have a4:0<=l.to/l.st:=Int.ediv_nonneg (by omega) (by omega)
 refine In.enter (f:=zaf) g.lim rfl rfl ?_
 cases hin:inP l x with
 | false=>
  have hK:=hK (.tup []) la hla
  rw [z44,hin,if_neg (by decide),show evB l m d []=[] from rfl,List.append_nil] at hK
  by_cases c1:x<l.pf
  ·repeat' ((conv=>whnf);first
  | refine Yz ?_
    | exact hK
    | fail)
  ·by_cases c2:l.pt<x
   ·repeat' ((conv=>whnf);first
   | refine Yz ?_
     | exact hK
     | fail)
   ·have hhas:=ycd g l hvz.2.2.2.2.2.2.2.2.1 x (by omega)
    have hin2:yg3 l.pf l.pt l.pd x=false:=by
     unfold inP at hin
     rw [decide_eq_true ⟨by omega,by omega⟩] at hin
     exact hin
    rw [hin2] at hhas
    repeat' ((conv=>whnf);first
    | refine Yz ?_
     | (refine zae.of hhas ?_)
     | exact hK
     | fail)
 | true=>
  have hin0:=hin
  unfold inP at hin
  rw [Bool.and_eq_true,decide_eq_true_eq] at hin
  have hhas:=ycd g l hvz.2.2.2.2.2.2.2.2.1 x (by omega)
  rw [hin.2] at hhas
  repeat' ((conv=>whnf);first
  | refine Yz ?_
   | (refine zae.of hhas ?_)
   | fail)
  have hst0:=zjm hvl
  have hN:(if l.to/l.st-(l.fr+l.st-1)/l.st+1>0 then l.to/l.st-(l.fr+l.st-1)/l.st+1 else 0)=(((zce l).toNat:Nat):Int):=by
   unfold zce at hst0 ⊢
   split<;>omega
  refine zad.to (zad.by (σ:=Nat×(Int×Int)) g (fun u=>u.1<=(zce l).toNat/\(u.2.1= -1\/u.2.2=z5d l m u.2.1)) (fun u=>[(0,.yld ⟨0,131,0⟩),(1,.ptr ⟨0,63,0⟩ 0 0),(2,.ptr ⟨0,63,1⟩ 0 0),(4,I ((l.fr+l.st-1)/l.st)),(41,I (zce l).toNat),(42,I u.1)])
   (fun u=>yoz q l m d x (ev++evB l m d (z16 l x u.1)) u.2++[(⟨0,131,0⟩,frO ls m q k k2 k3 d)]) (fun u=>(zce l).toNat-u.1) ?_ (0,la) ⟨Nat.zero_le _,hla⟩) (by rw [hN];rfl) (by rw [show z16 l x 0=[] from rfl,show evB l m d []=[] from rfl,List.append_nil];rfl)
  rintro⟨n,la⟩ ⟨h1,hla⟩ ih
  dsimp only at h1 hla ih ⊢
  by_cases hln:n<(zce l).toNat
  ·have hb:0<=l.st*((l.fr+l.st-1)/l.st+n)/\l.st*((l.fr+l.st-1)/l.st+n)<=1439:=by
    constructor
    ·exact Int.mul_nonneg (by omega) (by omega)
    ·have e1:(l.fr+l.st-1)/l.st+n<=l.to/l.st:=by unfold zce at hln;omega
     have e2:l.st*((l.fr+l.st-1)/l.st+n)<=l.st*(l.to/l.st):=Int.mul_le_mul_of_nonneg_left e1 (by omega)
     have e3:l.st*(l.to/l.st)<=l.to:=Int.mul_ediv_self_le (by omega)
     omega
   have ih:=fun la' h=>ih (n+1,la') ⟨by dsimp only;omega,h⟩ (by dsimp only;omega)
   dsimp only at ih
   have hq:yo0 l=(l.fr+l.st-1)/l.st:=rfl
   rw [z17,yfp,<-List.append_assoc,hq] at ih
   have hcw:=yew g l m hm (1440*x+l.st*((l.fr+l.st-1)/l.st+n)) (by omega) (by omega)
   have hel:(ev++evB l m d (z16 l x n)).length<=100002000:=by
    have:=zza l m d (z16 l x n)
    have h2:(z16 l x n).length=n:=by simp [z16]
    rw [List.length_append];omega
   generalize ev++evB l m d (z16 l x n)=ev1 at *
   generalize hbb:1440*x+l.st*((l.fr+l.st-1)/l.st+n)=b at *
   have ih:=ih (b,z5d l m b) (.inr rfl)
   obtain⟨F,hF⟩:∃F,(if b-1440*d>0 then b-1440*d else 0)=F:=⟨_,rfl⟩
   obtain⟨T,hT⟩:∃T,(if b+l.le-1440*d<1440 then b+l.le-1440*d else 1440)=T:=⟨_,rfl⟩
   have hF2:max 0 (b-1440*d)=F:=by rw [<-hF];split<;>omega
   have hT2:min 1440 (b+l.le-1440*d)=T:=by rw [<-hT];split<;>omega
   have hev1:evB l m d [b]=if l.mo<=z5d l m b/\F<T then [(F,T)] else []:=by
    rw [<-hF2,<-hT2]
    simp [evB]
   rw [hev1] at ih
   have hF0:0<=F:=by omega
   have hT0:T<=1440:=by omega
   have hcl:(z5d l m b)=(z5d l m b):=rfl
   have hFT:F<T->0<=T:=fun _=>by omega
   have e1:=z5g ev1 F
   have hbl2:la.1=b->la.2=z5d l m b:=fun h=>by
    rcases hla with h1|h1
    ·omega
    ·rw [h1,h]
   obtain⟨la1,la2⟩:=la
   dsimp only at hbl2
   generalize z5d l m b=c at *
   by_cases hcm:c<l.mo
   ·rw [if_neg (by omega),List.append_nil] at ih
    by_cases hbl:la1=b
    ·obtain rfl:=hbl2 hbl
     subst hbl
     repeat' ((conv=>whnf);first
     | refine Yz ?_
      | (refine Rnd.enter g.lim ?_)
      | (rw [hbb])
      | (refine zad.to ih ?_ ?_)
      | fail)
     all_goals first
      | (rw [show ((n+1:Nat):Int)=(n:Int)+1 from by omega];done)
      | rfl
    ·repeat' ((conv=>whnf);first
    | refine Yz ?_
      | (refine Rnd.enter g.lim ?_)
      | (rw [hbb])
      | (refine Cmp.ff (fun h=>hbl h.2.1) ?_)
      | (refine zae.of hcw ?_)
      | (refine zad.to ih ?_ ?_)
      | fail)
     all_goals first
      | (rw [show ((n+1:Nat):Int)=(n:Int)+1 from by omega];done)
      | rfl
   ·by_cases hlt2:F<T
    ·rw [if_pos ⟨by omega,hlt2⟩] at ih
     have hT3:=hFT hlt2
     have e2:=ygk ev1 F T hlt2
     have hset:=yn8 ev1 hlt2
     by_cases hbl:la1=b
     ·obtain rfl:=hbl2 hbl
      subst hbl
      repeat' ((conv=>whnf);first
      | refine Yz ?_
       | (refine Rnd.enter g.lim ?_)
       | (rw [hbb])
       | (rw [hF,hT])
       | (refine zqp.edg (by omega) ?_)
       | (refine z1c (by omega) ?_)
       | (refine zad.to ih ?_ ?_)
       | fail)
      all_goals first
       | (rw [show ((n+1:Nat):Int)=(n:Int)+1 from by omega];done)
       | rfl
       | (rw [hset];rfl)
     ·repeat' ((conv=>whnf);first
     | refine Yz ?_
       | (refine Rnd.enter g.lim ?_)
       | (rw [hbb])
       | (rw [hF,hT])
       | (refine zqp.edg (by omega) ?_)
       | (refine z1c (by omega) ?_)
       | (refine Cmp.ff (fun h=>hbl h.2.1) ?_)
       | (refine zae.of hcw ?_)
       | (refine zad.to ih ?_ ?_)
       | fail)
      all_goals first
       | (rw [show ((n+1:Nat):Int)=(n:Int)+1 from by omega];done)
       | rfl
       | (rw [hset];rfl)
    ·rw [if_neg (by omega),List.append_nil] at ih
     by_cases hbl:la1=b
     ·obtain rfl:=hbl2 hbl
      subst hbl
      repeat' ((conv=>whnf);first
      | refine Yz ?_
       | (refine Rnd.enter g.lim ?_)
       | (rw [hbb])
       | (rw [hF,hT])
       | (refine zqp.edg (by omega) ?_)
       | (refine z1c (by omega) ?_)
       | (refine zad.to ih ?_ ?_)
       | fail)
      all_goals first
       | (rw [show ((n+1:Nat):Int)=(n:Int)+1 from by omega];done)
       | rfl
     ·repeat' ((conv=>whnf);first
     | refine Yz ?_
       | (refine Rnd.enter g.lim ?_)
       | (rw [hbb])
       | (rw [hF,hT])
       | (refine zqp.edg (by omega) ?_)
       | (refine z1c (by omega) ?_)
       | (refine Cmp.ff (fun h=>hbl h.2.1) ?_)
       | (refine zae.of hcw ?_)
       | (refine zad.to ih ?_ ?_)
       | fail)
      all_goals first
       | (rw [show ((n+1:Nat):Int)=(n:Int)+1 from by omega];done)
       | rfl
  ·have hnN:n=(zce l).toNat:=by omega
   subst hnN
   have hK:=hK (.tup []) la hla
   rw [show z44 l x=z16 l x (zce l).toNat from if_pos hin0] at hK
   repeat' ((conv=>whnf);first
   | refine Yz ?_
    | exact hK
    | fail)
end
end Go.Proofs.YtjfnkgfhbplfaaaGreatDoor.Co
