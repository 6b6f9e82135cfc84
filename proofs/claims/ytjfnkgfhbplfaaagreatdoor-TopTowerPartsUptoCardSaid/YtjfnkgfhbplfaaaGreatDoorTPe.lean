/-
  TopTowerParts: what its law leans on, part 5.
-/
import Derived.Laws.RangeAny
import Derived.Test.YtjfnkgfhbplfaaaGreatDoorRead
import Derived.Test.YtjfnkgfhbplfaaaGreatDoorSpBase
import Derived.Test.YtjfnkgfhbplfaaaGreatDoorTPd
namespace Go.Proofs.YtjfnkgfhbplfaaaGreatDoor.Co
open Go Go.Evl
set_option maxHeartbeats 32000000
set_option maxRecDepth 100000
def zzz (f:Int->Bool):List V:=(List.range 1440).map fun(i:Nat)=>B (f i)
def yn7 (f:Int->Bool) (i:Int) (b:Bool):Int->Bool:=fun j=>if j=i then b else f j
theorem z1i (f:Int->Bool):(zzz f).length=1440:=by simp [zzz]
theorem yil:∀N:Nat,((List.range N).map fun(_:Nat)=>B false)=List.replicate N (B false)
 | 0=>rfl
 | N+1=>by
  rw [List.range_succ,List.map_append,yil N,List.replicate_succ']
  rfl
theorem yle:zzz (fun _=>false)=List.replicate 1440 (B false):=yil 1440
theorem yea {f:Int->Bool} {i:Int} {v:Bool} {K:List V->Prop} (hi:0<=i/\i<=1439) (h:K (zzz (yn7 f i v))):zki ([B v].length=1/\0+i.toNat*1+1<=(zzz f).length) (z00 (zzz f) (0+i.toNat*1) [B v] K):=by
 have hl:=z1i f
 refine⟨⟨rfl,by rw [hl];omega⟩,?_⟩
 rw [zt2,z3u _ _ _ (by rw [hl];show 0+i.toNat*1+1<=1440;omega)]
 have e:patch (zzz f) (0+i.toNat*1) [B v]=zzz (yn7 f i v):=by
  have e1:patch (zzz f) (0+i.toNat*1) [B v]=(zzz f).set (0+i.toNat*1) (B v):=by
   rw [List.set_eq_take_append_cons_drop,if_pos (by rw [hl];omega)]
   simp [patch]
  rw [e1]
  refine List.ext_getElem (by rw [List.length_set,hl,z1i]) fun j h1 h2=> ?_
  rw [List.getElem_set]
  rw [z1i] at h2
  have hs:(zzz (yn7 f i v))[j]'(by rw [z1i];exact h2)=B (yn7 f i v j):=by simp [zzz]
  have ho:(zzz f)[j]'(by rw [hl];exact h2)=B (f j):=by simp [zzz]
  rw [hs,ho]
  unfold yn7
  by_cases c2:0+i.toNat*1=j
  ·rw [if_pos c2,if_pos (by omega)]
  ·rw [if_neg c2,if_neg (by omega)]
 rw [e];exact h
theorem zqp.min {f:Int->Bool} {i:Int} {K:V->Prop} (hi:0<=i/\i<=1439) (h:K (B (f i))):zqp (zzz f) (0+i.toNat*1) K:=by
 refine zqp.now ?_ h
 have e:0+i.toNat*1<1440:=by omega
 unfold zzz
 rw [List.getElem?_map,List.getElem?_range e]
 have:((0+i.toNat*1:Nat):Int)=i:=by omega
 simp only [Option.map_some,this]
def ydj (ev:List (Int×Int)) (i:Int):Int:=((ev.filter fun p=>decide (0<=p.1/\p.1<i)).length:Int)-((ev.filter fun p=>decide (0<=p.2/\p.2<i)).length:Int)
theorem z5e (ev:List (Int×Int)) (i:Int): -(ev.length:Int)<=ydj ev i/\ydj ev i<=ev.length:=by
 unfold ydj
 have h1:=List.length_filter_le (fun p:Int×Int=>decide (0<=p.1/\p.1<i)) ev
 have h2:=List.length_filter_le (fun p:Int×Int=>decide (0<=p.2/\p.2<i)) ev
 omega
theorem yhq (ev:List (Int×Int)) (i:Nat):ydj ev (i+1:Nat)=ydj ev i+z6y ev i:=by
 have key:∀(f:Int×Int->Int),((ev.filter fun p=>decide (0<=f p/\f p<(i+1:Nat))).length:Int)=(ev.filter fun p=>decide (0<=f p/\f p<i)).length+(ev.filter fun p=>decide (f p=i)).length:=by
  intro f
  induction ev with
  | nil=>rfl
  | cons p r ih=>
   simp only [List.filter_cons]
   by_cases c1:0<=f p/\f p<i
   ·rw [if_pos (by rw [decide_eq_true_eq];omega),if_pos (by rw [decide_eq_true_eq];omega),if_neg (by rw [decide_eq_true_eq];omega),List.length_cons,List.length_cons]
    omega
   ·by_cases c2:f p=i
    ·rw [if_pos (by rw [decide_eq_true_eq];omega),if_neg (by rw [decide_eq_true_eq];omega),if_pos (by rw [decide_eq_true_eq];omega),List.length_cons,List.length_cons]
     omega
    ·rw [if_neg (by rw [decide_eq_true_eq];omega),if_neg (by rw [decide_eq_true_eq];omega),if_neg (by rw [decide_eq_true_eq];omega)]
     exact ih
 unfold ydj z6y
 rw [key (·.1),key (·.2)]
 omega
def yi3 (ev:List (Int×Int)) (n:Nat):Int->Bool:=fun j=>decide (j<n)&&decide (0<ydj ev (j+1))
theorem yi4 (ev:List (Int×Int)) (n:Nat):yn7 (yi3 ev n) n (decide (0<ydj ev (n+1:Nat)))=yi3 ev (n+1):=by
 funext j
 unfold yn7 yi3
 by_cases c:j=n
 ·subst c
  rw [if_pos rfl,decide_eq_true (show (n:Int)<(n+1:Nat) by omega),Bool.true_and]
  rfl
 ·rw [if_neg c]
  congr 1
  exact decide_eq_decide.2 (by omega)
theorem zzb (l:Lmt) (m:List Mvt) (hv:zi8 l=0) (d:Int):(evD l m d).length<=2880:=by
 have h0:=zjm hv
 have h:∀x,(evB l m d (z44 l x)).length<=1440:=fun x=>by
  refine Nat.le_trans (zza l m d _) ?_
  unfold z44
  split
  ·unfold z16
   rw [List.length_map,List.length_range]
   omega
  ·simp
 unfold evD
 rw [List.length_append]
 have h1:=h (d-1)
 have h2:=h d
 omega
theorem zq9 {α β:Type} (f:α->List β) (n:Nat):∀(l:List α),(∀a∈l,(f a).length<=n)->(l.flatMap f).length<=l.length*n
 | [],_=>by simp
 | a::r,h=>by
  rw [List.flatMap_cons,List.length_append,List.length_cons,Nat.succ_mul]
  have h1:=h a (by simp)
  have h2:=zq9 f n r fun b hb=>h b (by simp [hb])
  omega
theorem z5j (ls:List Lmt) (m:List Mvt) (q:Rqt) (hl:ls.length<=32) (hv:∀l∈ls,zi8 l=0) (hq:zkx q=0):(evA ls m q).length<=40000000:=by
 have hd:(zaq q).length<=401:=by
  unfold zkx at hq
  rw [zbn] at hq
  simp only [List.mem_cons,List.not_mem_nil,or_false,forall_eq_or_imp,forall_eq,zfc] at hq
  have hpz:=zay.1 hq.2.2.2.1
  have:=zdm q.fr q.da (q.to-q.fr+1).toNat
  unfold zaq
  omega
 have h1:=zq9 (fun l=>evL l m q) 1154880 ls fun l hm=>by
  unfold evL
  split
  ·refine Nat.le_trans (zq9 (evD l m) 2880 (zaq q) fun d _=>zzb l m (hv l hm) d) ?_
   have:=Nat.mul_le_mul_right 2880 hd
   omega
  ·simp
 have h2:=Nat.mul_le_mul_right 1154880 hl
 unfold evA
 omega
theorem ycg {cx:Cx} {slot lo:Nat} {old m:Mem} {o:Evl.Id} {a b t:Nat} {cs:List V} (hlo:lo<=o.lv) (hl:Evl.look m o=some (.cells t cs)) (hc:Go.Evl.idsL cs=[]) (hr:∀σ,Go.Evl.renL σ cs=cs):
  Go.Evl.settle cx slot lo old m (.ptr o a b)=some (.ptr ⟨cx.lv,slot,Go.Evl.freeK cx.lv slot old⟩ a b,old++[(⟨cx.lv,slot,Go.Evl.freeK cx.lv slot old⟩,.cells t cs)]):=by
 have hre:Go.Evl.reach lo m 64 (Go.Evl.ids (.ptr o a b)) []=[o]:=by
  simp [Go.Evl.ids,Go.Evl.reach,hlo,hl,Go.Evl.idsO,hc]
 unfold Go.Evl.settle
 simp only [hre]
 rw [if_pos (by simp [Go.Evl.within,Go.Evl.movable,Go.Evl.onceB,Go.Evl.ids,hl,hlo,Go.Evl.idsO,hc,Go.Evl.isLoop])]
 simp [Go.Evl.number,Go.Evl.ren,Go.Evl.subst,Go.Evl.moved,hl,Go.Evl.renO,hr]
section
variable {E : Oracle} (g : Good E)
include g
theorem ypm (ls:List Lmt) (m:List Mvt) (q:Rqt) (hl:zko ls=0) (hv:∀l∈ls,zi8 l=0) (hm:zju m=0) (hq:zkx q=0):In E 0 zhp [LLm ls,LMv m,Rqv q] [] fun v m'=>v= .ptr ⟨0,113,0⟩ 0 0/\Evl.look m' ⟨0,113,0⟩=some (.cells zgc (zzz (yi3 (evA ls m q) 1440))):=by
 have hlen:ls.length<=32:=by
  unfold zko at hl
  split at hl
  ·cases hl
  ·omega
 have hml:m.length<=30000:=by
  unfold zju at hm
  split at hm
  ·cases hm
  ·omega
 have hqz:=hq
 unfold zkx at hqz
 rw [zbn] at hqz
 simp only [List.mem_cons,List.not_mem_nil,or_false,forall_eq_or_imp,forall_eq,zfc] at hqz
 obtain⟨_,_,_,hp,hmi,_⟩:=hqz
 have hpz:=zay.1 hp
 have hd:=zvq g q.fr q.to q.da hp
 change Fc E zbs _ (.tup [LI (zaq q),I 0]) at hd
 have hdl:(zaq q).length<=401:=by
  have:=zdm q.fr q.da (q.to-q.fr+1).toNat
  unfold zaq
  omega
 refine In.enter (f:=zhp) g.lim rfl rfl ?_
 repeat' ((conv=>whnf);first
 | refine Yz ?_
  | (refine zae.of hd ?_)
  | (refine z5q _ _ _ _ _ _ ?_)
  | fail)
 refine zad.to (zad.up g (fun k=>[(1,LMv m),(5,.ptr ⟨0,5,0⟩ 0 0),(6,.d .nilp),(7,.ptr ⟨0,7,0⟩ 0 0),(8,LI (zaq q)),(18,.undef),(31,LLm ls),(32,I ls.length),(33,I k)])
  (fun k=>frM q (evA (ls.take k) m q)) ls.length (fun k h1 ih=> ?_) 0 (Nat.zero_le _)) rfl (by rw [List.take_zero,show evA [] m q=[] from rfl,frM,yk1];rfl)
 by_cases hlt:k<ls.length
 ·have hvl:=hv ls[k] (List.getElem_mem hlt)
  have hvz:=zfi.1 hvl
  have hof:=yqx g ls[k] hvz.2.1 m (by omega)
  have hcn:=yex g ls[k] hvz.2.1 q.ki q.te
  have ih:=ih hlt
  cases hcb:z81 ls[k] q.ki q.te with
  | false=>
   rw [hcb] at hcn
   repeat' ((conv=>whnf);first
   | refine Yz ?_
    | (refine zcz.rec Lmt.cells_length k rfl hlt ?_)
    | (refine zae.of hcn ?_)
    | (refine zad.to ih ?_ ?_)
    | fail)
   ·rw [show ((k+1:Nat):Int)=(k:Int)+1 from by omega]
   ·have hsuc:evA (ls.take (k+1)) m q=evA (ls.take k) m q:=by
     unfold evA
     rw [List.take_add_one,List.getElem?_eq_getElem hlt,List.flatMap_append]
     simp [evL,hcb]
    rw [hsuc]
  | true=>
   rw [hcb] at hcn
   repeat' ((conv=>whnf);first
   | refine Yz ?_
    | (refine zcz.rec Lmt.cells_length k rfl hlt ?_)
    | (refine zae.of hcn ?_)
    | (refine zae.of hof ?_)
    | fail)
   generalize hl:ls[k]=l at *
   refine zad.to (zad.by (σ:=Nat×(Int×Int)) g (fun u=>u.1<=(zaq q).length/\(u.2.1= -1\/u.2.2=z5d l m u.2.1))
    (fun u=>[(1,LMv m),(5,.ptr ⟨0,5,0⟩ 0 0),(6,.d .nilp),(7,.ptr ⟨0,7,0⟩ 0 0),(8,LI (zaq q)),(11,.ptr ⟨0,11,0⟩ 0 0),(12,.ptr ⟨0,12,0⟩ 0 0),(13,.ptr ⟨0,13,0⟩ 0 0),(18,.undef),(31,LLm ls),(32,I ls.length),(33,I k),(48,LI (zaq q)),(49,I (zaq q).length),(50,I u.1)])
    (fun u=>yqv q l m (evA (ls.take k) m q++((zaq q).take u.1).flatMap (evD l m)) u.2) (fun u=>(zaq q).length-u.1) ?_ (0,(-1,0)) ⟨Nat.zero_le _,.inl rfl⟩) rfl (by rw [List.take_zero,List.flatMap_nil,List.append_nil];rfl)
   rintro⟨k2,la⟩ ⟨h2,h3⟩ ih2
   dsimp only at h2 h3 ih2 ⊢
   by_cases hlt2:k2<(zaq q).length
   ·have hdm:=(zta _).1 (List.getElem_mem hlt2)
    generalize hd2:(zaq q)[k2]=d at *
    have hevl:(evA (ls.take k) m q++((zaq q).take k2).flatMap (evD l m)).length<=90000000:=by
     have e1:=z5j (ls.take k) m q (by rw [List.length_take];omega) (fun x hx=>hv x (List.mem_of_mem_take hx)) hq
     have e2:=zq9 (evD l m) 2880 ((zaq q).take k2) fun d _=>zzb l m hvl d
     have e3:((zaq q).take k2).length<=401:=by
      rw [List.length_take]
      have:=zdm q.fr q.da (q.to-q.fr+1).toNat
      unfold zaq
      omega
     have e4:=Nat.mul_le_mul_right 2880 e3
     rw [List.length_append]
     omega
    have hev2:(evA (ls.take k) m q++((zaq q).take k2).flatMap (evD l m)++evB l m d (z44 l (d-1))).length<=90002880:=by
     have:=zzb l m hvl d
     unfold evD at this
     rw [List.length_append] at this
     rw [List.length_append]
     omega
    have hsuc:((zaq q).take (k2+1)).flatMap (evD l m)=((zaq q).take k2).flatMap (evD l m)++evD l m d:=by
     rw [List.take_add_one,List.getElem?_eq_getElem hlt2,hd2,List.flatMap_append]
     simp
    have hday:=fun {K} k3 x la hla=>ymi g (K:=K) ls m q l hvl hm k k2 k3 d x (by omega) (evA (ls.take k) m q++((zaq q).take k2).flatMap (evD l m)) (by omega) la hla
    have hday2:=fun {K} k3 x la hla=>ymi g (K:=K) ls m q l hvl hm k k2 k3 d x (by omega) (evA (ls.take k) m q++((zaq q).take k2).flatMap (evD l m)++evB l m d (z44 l (d-1))) (by omega) la hla
    have ih2:=fun la' h=>ih2 (k2+1,la') ⟨by dsimp only;omega,h⟩ (by dsimp only;omega)
    dsimp only at ih2
    rw [hsuc,evD,<-List.append_assoc,<-List.append_assoc] at ih2
    repeat' ((conv=>whnf);first
    | refine Yz ?_
     | (refine zou.intI k2 rfl hlt2 ?_;rw [hd2])
     | (refine zad.step g.lim ?_)
     | (refine zgx.of (In.enter (f:=za0) g.lim rfl rfl ?_))
     | (refine⟨(.fn zaf [] [.ptr ⟨0,63,0⟩ 0 0,.ptr ⟨0,63,1⟩ 0 0],yoz q l m d (d-1) (evA (ls.take k) m q++((zaq q).take k2).flatMap (evD l m)) la),rfl,?_⟩)
     | (refine hday 0 (d-1) la h3 ?_)
     | fail)
    intro v la' hla'
    repeat' ((conv=>whnf);first
    | refine Yz ?_
     | (refine zad.step g.lim ?_)
     | (refine zgx.of (In.enter (f:=za0) g.lim rfl rfl ?_))
     | (refine⟨(.fn zaf [] [.ptr ⟨0,63,0⟩ 0 0,.ptr ⟨0,63,1⟩ 0 0],yoz q l m d d (evA (ls.take k) m q++((zaq q).take k2).flatMap (evD l m)++evB l m d (z44 l (d-1))) la'),rfl,?_⟩)
     | (refine hday2 1 d la' hla' ?_)
     | fail)
    intro v2 la2 hla2
    repeat' ((conv=>whnf);first
    | refine Yz ?_
     | (refine zad.to (ih2 la2 hla2) ?_ ?_)
     | (refine zad.step g.lim ?_)
     | fail)
    ·rw [show ((k2+1:Nat):Int)=(k2:Int)+1 from by omega]
    ·rfl
   ·have hk2:k2=(zaq q).length:=by omega
    subst hk2
    have hsuc:evA (ls.take (k+1)) m q=evA (ls.take k) m q++(zaq q).flatMap (evD l m):=by
     unfold evA
     rw [List.take_add_one,List.getElem?_eq_getElem hlt,hl,List.flatMap_append]
     simp [evL,hcb]
    rw [hsuc] at ih
    rw [List.take_length]
    repeat' ((conv=>whnf);first
    | refine Yz ?_
     | (refine zad.to ih ?_ ?_)
     | fail)
    ·rw [show ((k+1:Nat):Int)=(k:Int)+1 from by omega]
    ·rfl
 ·have hk:k=ls.length:=by omega
  subst hk
  rw [List.take_length]
  have hevA:=z5j ls m q (by omega) hv hq
  generalize evA ls m q=ev at *
  repeat' ((conv=>whnf);first
  | refine Yz ?_
   | (refine z5q _ _ _ _ _ _ ?_)
   | fail)
  refine zad.to (zad.up g (fun i=>[(7,.ptr ⟨0,7,0⟩ 0 0),(22,.ptr ⟨0,113,0⟩ 0 0),(23,I (ydj ev i)),(114,I i)])
   (fun i=>frM q ev++[(⟨0,113,0⟩,.cells zgc (zzz (yi3 ev i)))]) 1440 (fun i h1 ih=> ?_) 0 (Nat.zero_le _)) ?_ ?_
  ·by_cases hlt:i<1440
   ·have ih:=ih hlt
    have e1:=yhq ev i
    have e2:=z5e ev i
    have e3:=z5g ev i
    have e4:=z5e ev (i+1:Nat)
    have e5:=yi4 ev i
    rw [e1] at ih e4 e5
    by_cases hc:0<ydj ev i+z6y ev i
    ·rw [decide_eq_true hc] at e5
     rw [<-e5] at ih
     repeat' ((conv=>whnf);first
     | refine Yz ?_
      | (refine zqp.edg (by omega) ?_)
      | (refine yea (by omega) ?_)
      | (refine zad.to ih ?_ ?_)
      | fail)
     ·rw [show ((i+1:Nat):Int)=(i:Int)+1 from by omega]
     ·rfl
    ·rw [decide_eq_false hc] at e5
     rw [<-e5] at ih
     repeat' ((conv=>whnf);first
     | refine Yz ?_
      | (refine zqp.edg (by omega) ?_)
      | (refine yea (by omega) ?_)
      | (refine zad.to ih ?_ ?_)
      | fail)
     ·rw [show ((i+1:Nat):Int)=(i:Int)+1 from by omega]
     ·rfl
   ·have hi:i=1440:=by omega
    subst hi
    repeat' ((conv=>whnf);first
    | refine Yz ?_
     | exact⟨rfl,rfl⟩
     | fail)
  ·have:ydj ev (0:Nat)=0:=by
    unfold ydj
    rw [List.filter_eq_nil_iff.2,List.filter_eq_nil_iff.2]
    ·rfl
    ·intro p _;rw [decide_eq_true_eq];omega
    ·intro p _;rw [decide_eq_true_eq];omega
   rw [this];rfl
  ·have e:zzz (yi3 ev 0)=List.replicate 1440 (B false):=by
    rw [<-yle]
    unfold zzz
    refine List.map_congr_left fun i _=> ?_
    unfold yi3
    rw [decide_eq_false (by omega)]
    rfl
   rw [e];rfl
def zpe (ls:List Lmt) (m:List Mvt) (q:Rqt):Bool:= !yi3 (evA ls m q) 1440 q.mi
omit g in
theorem yfv (f:Int->Bool):Go.Evl.idsL (zzz f)=[]:=by
 unfold zzz
 generalize List.range 1440=r
 induction r with
 | nil=>rfl
 | cons a r ih=>
  rw [List.map_cons,Evl.idsL,ih]
  rfl
omit g in
theorem ygc (f:Int->Bool) (σ:List (Evl.Id×Evl.Id)):Go.Evl.renL σ (zzz f)=zzz f:=by
 unfold zzz
 generalize List.range 1440=r
 induction r with
 | nil=>rfl
 | cons a r ih=>
  rw [List.map_cons,Evl.renL,ih]
  rfl
theorem zgx.free (ls:List Lmt) (m:List Mvt) (q:Rqt) (hl:zko ls=0) (hv:∀l∈ls,zi8 l=0) (hm:zju m=0) (hq:zkx q=0) {cx:Cx} {slot:Nat} {mm:Mem} {K:V->Mem->Prop} (hf:Go.Evl.freeK cx.lv slot mm=0)
  (h:K (.ptr ⟨cx.lv,slot,0⟩ 0 0) (mm++[(⟨cx.lv,slot,0⟩,.cells zgc (zzz (yi3 (evA ls m q) 1440)))])):zgx E zhp [LLm ls,LMv m,Rqv q] cx slot mm K:=by
 obtain⟨v,m',h1,rfl,h2⟩:=(ypm g ls m q hl hv hm hq).got
 refine⟨_,_,_,h1,ycg (Nat.zero_le _) h2 (yfv _) (ygc _),?_⟩
 rw [hf];exact h
theorem z96 (ls:List Lmt) (m:List Mvt) (q:Rqt) (hl:zko ls=0) (hv:∀l∈ls,zi8 l=0) (hm:zju m=0) (hq:zkx q=0):Fc E zj0 [LLm ls,LMv m,Rqv q] (.tup [B (zpe ls m q),I 0]):=by
 refine g.fn rfl rfl ?_
 have hlen:ls.length<=32:=by
  unfold zko at hl
  split at hl
  ·cases hl
  ·omega
 have hml:m.length<=30000:=by
  unfold zju at hm
  split at hm
  ·cases hm
  ·omega
 have hb:=zz4 g ls m (by omega) (by omega)
 rw [hl,hm] at hb
 change Fc E zcl _ (I 0) at hb
 have hc:=yjr g q
 rw [hq] at hc
 have hf2:Fc E zak [.d (.list 2 [DI 0,DI 0])] (I 0):=ztk g 0 0
 have hmi:0<=q.mi/\q.mi<=1439:=by
  have hqz:=hq
  unfold zkx at hqz
  rw [zbn] at hqz
  simp only [List.mem_cons,List.not_mem_nil,or_false,forall_eq_or_imp,forall_eq,zfc] at hqz
  exact hqz.2.2.2.2.1
 have hfr:=fun {cx slot mm K}=>zgx.free g ls m q hl hv hm hq (cx:=cx) (slot:=slot) (mm:=mm) (K:=K)
 unfold zpe
 generalize yi3 (evA ls m q) 1440=f at *
 repeat' ((conv=>whnf);first
 | refine Yz ?_
  | (apply zae.of;assumption)
  | (refine hfr rfl ?_)
  | (refine In.enter (f:=zga) g.lim rfl rfl ?_)
  | (refine zqp.min hmi ?_)
  | (refine Ret.mk rfl)
  | fail)
end
def wkD (x:Int):Int:=(x+5)/7
theorem znq (x:Int):wkD x=(x+5)/7:=rfl
section
variable (l : List Int)
def ypy (k:Nat):Int:=if rng (l.getD k 0) 0 99999≠0 then 3 else if 0<k/\l.getD k 0<=l.getD (k-1) 0 then 11 else 0
def zpc:Int:=if 512<l.length then 5 else z9i (ypy l) 0 (l.length-0)
def zle (w:Int):Nat->Int
 | 0=>0
 | k+1=>zle w k+if wkD (l.getD k 0)=w then 2^((l.getD k 0+5)%7).toNat else 0
def zzf (w:Int):Int:=zle l w l.length
end
theorem zxb {l:List Int} {k:Nat}:ypy l k=0↔(0<=l.getD k 0/\l.getD k 0<=99999)/\(0<k->l.getD (k-1) 0<l.getD k 0):=by
 have h:=@zfc (l.getD k 0) 0 99999
 unfold ypy
 split
 ·constructor
  ·intro h;cases h
  ·intro h;omega
 ·split
  ·constructor
   ·intro h;cases h
   ·intro h;omega
  ·constructor
   ·intro _;omega
   ·intro _;rfl
theorem zlc {l:List Int}:zpc l=0↔l.length<=512/\∀i,i<l.length->ypy l i=0:=by
 unfold zpc
 split
 ·constructor
  ·intro h;cases h
  ·intro h;omega
 ·rw [z27]
  constructor
  ·intro h;exact⟨by omega,fun i hi=>h i (Nat.zero_le _) (by omega)⟩
  ·intro h i _ hi;exact h.2 i (by omega)
section
variable {l : List Int} (hz : zpc l = 0)
include hz
theorem zgo {k:Nat} (hk:k<l.length):0<=l.getD k 0/\l.getD k 0<=99999:=(zxb.1 ((zlc.1 hz).2 k hk)).1
theorem zs0 {i j:Nat} (hij:i<j) (hj:j<l.length):l.getD i 0<l.getD j 0:=by
 induction j with
 | zero=>omega
 | succ j ih=>
  have h1:=(zxb.1 ((zlc.1 hz).2 (j+1) hj)).2 (by omega)
  rw [Nat.add_sub_cancel] at h1
  by_cases e:i=j
  ·subst e;exact h1
  ·have:=ih (by omega) (by omega);omega
omit hz in
theorem z7v {a b:Nat} (h:a<=b):(2:Int)^a<=2^b:=by
 have:=Nat.pow_le_pow_right (show 0<2 by decide) h
 exact_mod_cast this
theorem z3m (w x:Int) (hx:wkD x=w/\0<=x):∀k,k<=l.length->(∀i,i<k->l.getD i 0<x)->0<=zle l w k/\zle l w k<2^((x+5)%7).toNat
 | 0,_,_=>⟨Int.le_refl _,Int.pow_pos (by decide)⟩
 | k+1,hk,hi=>by
  obtain⟨h1,h2⟩:=z3m w x hx k (by omega) (fun i hi'=>hi i (by omega))
  simp only [zle]
  split
  ·rename_i e
   have hd:=zgo hz (show k<l.length by omega)
   have h3:=z3m w (l.getD k 0) ⟨e,hd.1⟩ k (by omega) (fun i hi'=>zs0 hz hi' (by omega))
   have h4:=hi k (by omega)
   have e1:=znq (l.getD k 0)
   have e2:=znq x
   have h5:((l.getD k 0+5)%7).toNat+1<=((x+5)%7).toNat:=by omega
   have h6:=z7v h5
   rw [Int.pow_succ] at h6
   have h7:(0:Int)<2^((l.getD k 0+5)%7).toNat:=Int.pow_pos (by decide)
   omega
  ·rw [Int.add_zero];exact⟨h1,h2⟩
theorem z5y (w:Int) (k:Nat) (hk:k<=l.length):0<=zle l w k/\zle l w k<128:=by
 induction k with
 | zero=>simp [zle]
 | succ k ih=>
  have ih:=ih (by omega)
  simp only [zle]
  split
  ·rename_i e
   have hd:=zgo hz (show k<l.length by omega)
   have h3:=z3m hz w (l.getD k 0) ⟨e,hd.1⟩ k (by omega) (fun i hi'=>zs0 hz hi' (by omega))
   have h6:=z7v (show ((l.getD k 0+5)%7).toNat<=6 by omega)
   have h7:(0:Int)<2^((l.getD k 0+5)%7).toNat:=Int.pow_pos (by decide)
   omega
  ·rw [Int.add_zero];exact ih
end
def yl1 (w x:Int):List (Int×Int)->List (Int×Int)
 | []=>[(w,x)]
 | (u,y)::r=>if w=u then(u,x)::r else(u,y)::yl1 w x r
def z4s (w:Int):List (Int×Int)->Option Int
 | []=>none
 | (u,y)::r=>if w=u then some y else z4s w r
theorem z9o (w u x:Int):∀m,z4s w (yl1 u x m)=if w=u then some x else z4s w m
 | []=>by simp [yl1,z4s]
 | (v,y)::r=>by
  simp only [yl1]
  split
  ·rename_i e;subst e
   simp only [z4s]
   split<;>rfl
  ·rename_i e
   simp only [z4s,z9o w u x r]
   split
   ·rename_i e2
    rw [if_neg (by omega)]
   ·rfl
def toE (m:List (Int×Int)):List (D×V):=m.map fun p=>(DI p.1,I p.2)
theorem z7a:∀m,Evl.idsM (toE m)=[]
 | []=>rfl
 | (_,_)::r=>by
  show []++Evl.idsM (toE r)=[]
  rw [z7a r];rfl
theorem zs5 (w:Int):∀m,zg1 (DI w) (toE m)=some ((z4s w m).map fun x=>I x)
 | []=>rfl
 | (u,y)::r=>by
  show (match eqD (DI w) (DI u) with|some true=>some (some (I y))|some false=>zg1 (DI w) (toE r)|none=>none)=_
  have e:eqD (DI w) (DI u)=some (decide (w=u)):=by simp [eqD]
  rw [e]
  by_cases h:w=u
  ·simp [z4s,h]
  ·simp [z4s,h,zs5 w r]
theorem ye4 (w x:Int):∀m,ztm (DI w) (I x) (toE m)=some (toE (yl1 w x m))
 | []=>rfl
 | (u,y)::r=>by
  show (match eqD (DI w) (DI u) with|some true=>some ((DI u,I x)::toE r)|some false=>(ztm (DI w) (I x) (toE r)).map ((DI u,I y)::·)|none=>none)=_
  have e:eqD (DI w) (DI u)=some (decide (w=u)):=by simp [eqD]
  rw [e]
  by_cases h:w=u
  ·simp [yl1,h,toE]
  ·have:=ye4 w x r
   simp only [toE] at this
   simp [yl1,h,this,toE]
theorem z1o (o:Option Int):ylj (.int .i64 0) false (o.map fun x=>I x)=I (o.getD 0):=by cases o<;>rfl
section
variable (l : List Int)
def ymm:Nat->List (Int×Int)
 | 0=>[]
 | k+1=>yl1 (wkD (l.getD k 0)) (zle l (wkD (l.getD k 0)) (k+1)) (ymm k)
theorem zs9 (w:Int):∀k,(z4s w (ymm l k)).getD 0=zle l w k
 | 0=>rfl
 | k+1=>by
  simp only [ymm,z9o]
  split
  ·rename_i e;rw [e];rfl
  ·rename_i e
   rw [zs9 w k]
   simp only [zle]
   rw [if_neg (fun h=>e h.symm),Int.add_zero]
def jn:Nat->List (Int×Int×Int)×(Int×Int×Int)×Int
 | 0=>([],(l.getD 0 0,l.getD 0 0,zzf l (wkD (l.getD 0 0))),1)
 | k+1=>
  if wkD (l.getD k 0)=wkD (l.getD (k+1) 0) then((jn k).1,((jn k).2.1.1,l.getD (k+1) 0,(jn k).2.1.2.2),(jn k).2.2)
  else if wkD (l.getD k 0)=wkD (l.getD (k+1) 0)-1/\(jn k).2.1.2.2=zzf l (wkD (l.getD (k+1) 0))/\(jn k).2.2<57 then((jn k).1,((jn k).2.1.1,l.getD (k+1) 0,(jn k).2.1.2.2),(jn k).2.2+1)
  else((jn k).1++[(jn k).2.1],(l.getD (k+1) 0,l.getD (k+1) 0,zzf l (wkD (l.getD (k+1) 0))),1)
def z7t:Nat->List (Int×Int×Int)
 | 0=>[]
 | k+1=>(jn l k).1++[(jn l k).2.1]
def zcr:List (Int×Int×Int):=z7t l l.length
theorem z3h:∀k,(jn l k).1.length<=k
 | 0=>by simp [jn]
 | k+1=>by
  have:=z3h k
  simp only [jn]
  split
  ·simp only;omega
  ·split
   ·simp only;omega
   ·simp;omega
theorem z3t:∀k,(z7t l k).length<=k
 | 0=>by simp [z7t]
 | k+1=>by have:=z3h l k;simp [z7t];omega
theorem yd0:∀k,1<=(jn l k).2.2/\(jn l k).2.2<=57
 | 0=>by simp [jn]
 | k+1=>by
  have:=yd0 k
  simp only [jn]
  split
  ·exact this
  ·split
   ·rename_i h;simp only;omega
   ·simp
end
theorem z6m:∀ {a b:List Int},a.Pairwise (·<·)->b.Pairwise (·<·)->(∀x,x∈a↔x∈b)->a=b
 | [],[],_,_,_=>rfl
 | [],y::s,_,_,h=>absurd ((h y).2 (List.mem_cons_self ..)) (by simp)
 | x::r,[],_,_,h=>absurd ((h x).1 (List.mem_cons_self ..)) (by simp)
 | x::r,y::s,ha,hb,h=>by
  rw [List.pairwise_cons] at ha hb
  have e:x=y:=by
   have h1:=(h x).1 (List.mem_cons_self ..)
   have h2:=(h y).2 (List.mem_cons_self ..)
   rcases List.mem_cons.1 h1 with h1|h1
   ·exact h1
   ·rcases List.mem_cons.1 h2 with h2|h2
    ·exact h2.symm
    ·have:=ha.1 _ h2;have:=hb.1 _ h1;omega
  subst e
  rw [z6m ha.2 hb.2 fun z=> ?_]
  have hz:=h z
  simp only [List.mem_cons] at hz
  constructor
  ·intro k
   rcases hz.1 (.inr k) with e|e
   ·subst e;exact absurd (ha.1 _ k) (by omega)
   ·exact e
  ·intro k
   rcases hz.2 (.inr k) with e|e
   ·subst e;exact absurd (hb.1 _ k) (by omega)
   ·exact e
theorem zou.at {l:List Int} {n:Nat} {K:D->Prop} (p:Nat) (hp:n=p) (h:p<l.length) (hk:K (DI (l.getD p 0))):zou (l.map DI) n K:=by
 subst hp
 refine⟨⟨_,?_,hk⟩⟩
 simp [List.getD,h]
def zjt (p:Int×Int×Int):List D:=[DI p.1,DI p.2.1,DI p.2.2]
theorem zsw (p:Int×Int×Int):(zjt p).length=3:=rfl
abbrev LP (l:List (Int×Int×Int)):V:= .d (.list l.length (l.flatMap zjt))
theorem ypc:∀a:Fin 128,∀w:Fin 7,(a.val:Int)<2^w.val->IntKind.i64.wrap ((BitVec.ofInt IntKind.i64.bits (a.val:Int)|||BitVec.ofInt IntKind.i64.bits (1*2^(min ((w.val:Int)).toNat IntKind.i64.bits))).toNat)=(a.val:Int)+2^w.val:=by decide+kernel
theorem ynt (a w:Int) (ha:0<=a/\a<2^w.toNat) (hw:0<=w/\w<7):IntKind.i64.wrap ((BitVec.ofInt IntKind.i64.bits a|||BitVec.ofInt IntKind.i64.bits (1*2^(min w.toNat IntKind.i64.bits))).toNat)=a+2^w.toNat:=by
 have h7:=z7v (show w.toNat<=6 by omega)
 have:=ypc ⟨a.toNat,by omega⟩ ⟨w.toNat,by omega⟩ (by simpa [show ((a.toNat:Nat):Int)=a by omega] using ha.2)
 simpa [show ((a.toNat:Nat):Int)=a by omega,show ((w.toNat:Nat):Int)=w by omega] using this
theorem yi9 (w:Int) (hw:0<=w/\w<7): -9223372036854775808<=1*(2:Int)^(min w.toNat IntKind.i64.bits)/\1*(2:Int)^(min w.toNat IntKind.i64.bits)<=9223372036854775807:=by
 have h1:=z7v (show min w.toNat IntKind.i64.bits<=6 by omega)
 have h2:(0:Int)<2^(min w.toNat IntKind.i64.bits):=Int.pow_pos (by decide)
 omega
section
variable {E : Oracle} (g : Good E)
include g
theorem z78 (x:Int) (h:0<=x/\x<=1000000):Fc E zfk [I x] (I (wkD x)):=by
 refine g.fn rfl rfl ?_
 repeat' ((conv=>whnf);first
 | refine Yz ?_
  | (refine Ret.mk rfl))
end
section
variable {E : Oracle} (g : Good E)
include g
omit g in
theorem ych {cx:Cx} {slot lo:Nat} {old m:Mem} {v:V} (hi:Go.Evl.ids v=[]) (hr:Go.Evl.ren [] v=v):Go.Evl.settle cx slot lo old m v=some (v,old):=by
 have hre:Go.Evl.reach lo m 64 [] []=[]:=rfl
 unfold Go.Evl.settle
 simp only [hi,hre]
 rw [if_pos (by simp [Go.Evl.within,Go.Evl.movable,Go.Evl.onceB])]
 simp [Go.Evl.number,Go.Evl.moved,hr]
omit g in
theorem zgx.still {f:Nat} {args:List V} {v:V} (h:In E 0 f args [] fun r _=>r=v) (hi:Go.Evl.ids v=[]) (hr:Go.Evl.ren [] v=v) {cx:Cx} {slot:Nat} {m:Mem} {K:V->Mem->Prop} (hk:K v m):zgx E f args cx slot m K:=by
 obtain⟨v',m',h1,rfl⟩:=h.got
 exact⟨_,_,_,h1,ych hi hr,hk⟩
abbrev ClP (l:List (Int×Int×Int)):V:= .cl l.length (l.flatMap zjt)
theorem ypl (l:List (Int×Int×Int)):In E 0 zbb [LP l] [] fun v _=>v=ClP l:=by
 refine In.enter (f:=zbb) g.lim rfl rfl ?_
 repeat' ((conv=>whnf);first
 | refine Yz ?_
  | (refine zki.mk ⟨rfl,rfl⟩ ?_))
 conv=>whnf
theorem ynx (l:List Int) (hz:zpc l=0):In E 0 zho [LI l] [] fun v _=>v= .tup [ClP (zcr l),I 0]:=by
 refine In.enter (f:=zho) g.lim rfl rfl ?_
 have hlen:=(zlc.1 hz).1
 repeat' ((conv=>whnf);first
 | refine Yz ?_)
 refine zad.to (zad.up g (fun k=>[(0,LI l),(19,LI l),(20,I l.length),(21,I k)]) (fun _=>[]) l.length (fun k hk ih=> ?_) 0 (Nat.zero_le _)) rfl rfl
 by_cases hlt:k<l.length
 ·have ez:=zxb.1 ((zlc.1 hz).2 k hlt)
  have cd:=zzm g (l.getD k 0)
  rw [zfc.2 ez.1] at cd
  cases k with
  | zero=>
   repeat' ((conv=>whnf);first
   | refine Yz ?_
    | (apply zae.of;assumption)
    | (refine zou.at 0 (by omega) (by omega) ?_)
    | (refine zae.of (ye0 g _ _) ?_)
    | (refine zae.of (z1t g _ _) ?_)
    | (refine zad.to (ih hlt) rfl rfl))
  | succ j=>
   rw [Nat.add_sub_cancel] at ez
   repeat' ((conv=>whnf);first
   | refine Yz ?_
    | (apply zae.of;assumption)
    | (refine zou.at (j+1) (by omega) (by omega) ?_)
    | (refine zou.at j (by omega) (by omega) ?_)
    | (refine zae.of (ye0 g _ _) ?_)
    | (refine zae.of (z1t g _ _) ?_)
    | (refine zad.to (ih hlt) rfl rfl))
 ·repeat' ((conv=>whnf);first
 | refine Yz ?_)
  refine zad.to (zad.up g (fun k=>[(0,LI l),(7,.mp ⟨0,47,0⟩),(48,LI l),(49,I l.length),(50,I k)]) (fun k=>[(⟨0,47,0⟩,.map (toE (ymm l k)))]) l.length (fun k hk ih=> ?_) 0 (Nat.zero_le _)) rfl rfl
  by_cases hlt:k<l.length
  ·have hd:=zgo hz hlt
   have cw:=z78 g (l.getD k 0) (by omega)
   have cwd:=zxz g (l.getD k 0) (by omega)
   have hps:=yi9 ((l.getD k 0+5)%7) (by omega)
   have hml:=z3m hz (wkD (l.getD k 0)) (l.getD k 0) ⟨rfl,hd.1⟩ k (by omega) (fun i hi=>zs0 hz hi hlt)
   have hor:=ynt (zle l (wkD (l.getD k 0)) k) ((l.getD k 0+5)%7) hml (by omega)
   have hm:zle l (wkD (l.getD k 0)) (k+1)=zle l (wkD (l.getD k 0)) k+2^((l.getD k 0+5)%7).toNat:=by
    show _+(if wkD (l.getD k 0)=wkD (l.getD k 0) then _ else _)=_
    rw [if_pos rfl]
   have hmk:ymm l (k+1)=yl1 (wkD (l.getD k 0)) (zle l (wkD (l.getD k 0)) (k+1)) (ymm l k):=rfl
   repeat' ((conv=>whnf);first
   | refine Yz ?_
    | (apply zae.of;assumption)
    | (refine zou.at k (by omega) (by omega) ?_)
    | (refine yc4.mk ⟨_,zs5 _ _,?_⟩;rw [z1o,zs9])
    | (refine Wr.keep hps ?_)
    | (refine yoq.mk ⟨_,ye4 _ _ _,?_⟩)
    | (refine zad.to (ih hlt) rfl ?_))
   rw [hmk,hm,<-hor]
  ·have hk':k=l.length:=by omega
   subst hk'
   clear ih hk hlt
   repeat' ((conv=>whnf);first
   | refine Yz ?_)
   refine zad.to (zad.by g (fun i=>i<=l.length/\(i<l.length->jn l i=(z7t l i,(l.getD i 0,l.getD i 0,zzf l (wkD (l.getD i 0))),1)))
    (fun i=>[(0,LI l),(7,.mp ⟨0,47,0⟩),(10,.ref ⟨0,10,0⟩ 0 (z7t l i).length (z7t l i).length),(11,I i)])
    (fun i=>[(⟨0,47,0⟩,.map (toE (ymm l l.length))),(⟨0,10,0⟩,.row false zag 3 (z7t l i).length ((z7t l i).flatMap zjt))]) (fun i=>l.length-i) (fun i hi ih=> ?_) 0 ⟨Nat.zero_le _,fun _=>rfl⟩) rfl rfl
   by_cases hlt:i<l.length
   ·have hd:=zgo hz hlt
    have cw:=z78 g (l.getD i 0) (by omega)
    have hjn:=hi.2 hlt
    have hol:=z3t l i
    repeat' ((conv=>whnf);first
    | refine Yz ?_
     | (apply zae.of;assumption)
     | (refine zou.at i (by omega) (by omega) ?_)
     | (refine yc4.mk ⟨_,zs5 _ _,?_⟩;rw [z1o,zs9]))
    refine zad.step g.lim ?_
    repeat' ((conv=>whnf);first
    | refine Yz ?_
     | (apply zae.of;assumption)
     | (refine zou.at i (by omega) (by omega) ?_)
     | (refine Cmp.tt rfl ?_))
    refine zad.to (zad.by g (fun e=>i<=e/\e<l.length/\(jn l e).1=z7t l i/\(jn l e).2.2=wkD (l.getD e 0)-wkD (l.getD i 0)+1)
     (fun e=>[(0,LI l),(7,.mp ⟨0,47,0⟩),(10,.ref ⟨0,10,0⟩ 0 (z7t l i).length (z7t l i).length),(11,I (e+1:Nat)),(12,I (wkD (l.getD i 0))),(13,.ptr ⟨0,13,0⟩ 0 0),(14,I (wkD (l.getD e 0)))])
     (fun e=>[(⟨0,47,0⟩,.map (toE (ymm l l.length))),(⟨0,10,0⟩,.row false zag 3 (z7t l i).length ((z7t l i).flatMap zjt)),(⟨0,13,0⟩,.cells zag [I (jn l e).2.1.1,I (jn l e).2.1.2.1,I (jn l e).2.1.2.2])]) (fun e=>l.length-e) (fun e he ih2=> ?_) i ⟨Nat.le_refl _,hlt,by rw [hjn],by rw [hjn];simp⟩) ?_ ?_
    ·obtain⟨h1,h2,h3,h4⟩:=he
     have ho:z7t l (e+1)=z7t l i++[(jn l e).2.1]:=by show (jn l e).1++_=_;rw [h3]
     have hde:=zgo hz h2
     have hjl:=z3h l e
     have hfin:∀ {K:Ex->Env->Mem->Prop},(e+1<l.length->jn l (e+1)=((jn l e).1++[(jn l e).2.1],(l.getD (e+1) 0,l.getD (e+1) 0,zzf l (wkD (l.getD (e+1) 0))),1))->(e+1<=l.length/\(e+1<l.length->jn l (e+1)=(z7t l (e+1),(l.getD (e+1) 0,l.getD (e+1) 0,zzf l (wkD (l.getD (e+1) 0))),1))):=fun h=>⟨by omega,fun hh=>by rw [h hh];rfl⟩
     by_cases hlt2:e+1<l.length
     ·have hd2:=zgo hz hlt2
      have cw2:=z78 g (l.getD (e+1) 0) (by omega)
      have hjw:=yd0 l e
      have hwr:=znq (l.getD e 0)
      have hwr2:=znq (l.getD (e+1) 0)
      have hwr3:=znq (l.getD i 0)
      have hjn2:jn l (e+1)=if wkD (l.getD e 0)=wkD (l.getD (e+1) 0) then((jn l e).1,((jn l e).2.1.1,l.getD (e+1) 0,(jn l e).2.1.2.2),(jn l e).2.2)
       else if wkD (l.getD e 0)=wkD (l.getD (e+1) 0)-1/\(jn l e).2.1.2.2=zzf l (wkD (l.getD (e+1) 0))/\(jn l e).2.2<57 then((jn l e).1,((jn l e).2.1.1,l.getD (e+1) 0,(jn l e).2.1.2.2),(jn l e).2.2+1)
       else((jn l e).1++[(jn l e).2.1],(l.getD (e+1) 0,l.getD (e+1) 0,zzf l (wkD (l.getD (e+1) 0))),1):=rfl
      have ih3:=ih2 (e+1)
      by_cases c1:wkD (l.getD e 0)=wkD (l.getD (e+1) 0)
      ·rw [if_pos c1] at hjn2
       simp only [hjn2] at ih3
       repeat' ((conv=>whnf);first
       | refine Yz ?_
        | (apply zae.of;assumption)
        | (refine zou.at (e+1) (by omega) (by omega) ?_)
        | (refine zad.to (ih3 ⟨by omega,by omega,h3,by omega⟩ (by omega)) ?_ ?_))
       ·rw [c1];rfl
       ·rfl
      ·rw [if_neg c1] at hjn2
       by_cases c2:wkD (l.getD e 0)=wkD (l.getD (e+1) 0)-1/\(jn l e).2.1.2.2=zzf l (wkD (l.getD (e+1) 0))/\(jn l e).2.2<57
       ·rw [if_pos c2] at hjn2
        simp only [hjn2] at ih3
        repeat' ((conv=>whnf);first
        | refine Yz ?_
         | (apply zae.of;assumption)
         | (refine zou.at (e+1) (by omega) (by omega) ?_)
         | (refine yc4.mk ⟨_,zs5 _ _,?_⟩;rw [z1o,zs9])
         | (refine Cmp.tt c2.2.1.symm ?_)
         | (refine zad.to (ih3 ⟨by omega,by omega,h3,by omega⟩ (by omega)) ?_ ?_))
        all_goals rfl
       ·have c3:¬(wkD (l.getD e 0)=wkD (l.getD (e+1) 0)-1/\(jn l e).2.1.2.2=zle l (wkD (l.getD (e+1) 0)) l.length/\(jn l e).2.2<57):=c2
        rw [if_neg c2] at hjn2
        have hf:=hfin (K:=fun _ _ _=>True) (fun _=>hjn2)
        repeat' ((conv=>whnf);first
        | refine Yz ?_
         | (apply zae.of;assumption)
         | (refine zou.at (e+1) (by omega) (by omega) ?_)
         | (refine yc4.mk ⟨_,zs5 _ _,?_⟩;rw [z1o,zs9])
         | (refine zki.mk (by simp;omega) ?_)
         | (refine Cmp.mk (fun h=> ?_) (fun h=> ?_))|(refine Rem.any (by omega) (fun r hr he=> ?_))|(refine Br.mk (fun h=> ?_) (fun h=> ?_))
         | (refine zad.to (ih (e+1) hf (by omega)) ?_ ?_)
         | (simp only [Evl.idsAll,Evl.idsO,z7a,List.nil_append])
         | (exfalso;omega))
        all_goals first
         | (simp only [ho,List.length_append,List.length_singleton];rfl)
         | (simp [ho,zjt,List.flatMap_append];done)
     ·have hf:=hfin (K:=fun _ _ _=>True) (fun h=>absurd h hlt2)
      repeat' ((conv=>whnf);first
      | refine Yz ?_
       | (apply zae.of;assumption)
       | (refine zki.mk (by simp;omega) ?_)
       | (refine zad.to (ih (e+1) hf (by omega)) ?_ ?_)
       | (simp only [Evl.idsAll,Evl.idsO,z7a,List.nil_append]))
      all_goals first
       | (simp only [ho,List.length_append,List.length_singleton];rfl)
       | (simp [ho,zjt,List.flatMap_append];done)
    ·rfl
    ·rw [hjn];rfl
   ·have hi':i=l.length:=by omega
    have cl:=ypl g (z7t l l.length)
    subst hi'
    repeat' ((conv=>whnf);first
    | refine Yz ?_
     | (refine zgx.still (v:=ClP (z7t l l.length)) (by rw [if_pos ⟨rfl,rfl⟩];exact cl) rfl rfl ?_)
     | rfl)
theorem zgx.join (l:List Int) (hz:zpc l=0) {cx:Cx} {slot:Nat} {m:Mem} {K:V->Mem->Prop} (hk:K (.tup [ClP (zcr l),I 0]) m):zgx E zho [LI l] cx slot m K:=
 zgx.still (ynx g l hz) rfl rfl hk
end
section
variable {E : Oracle} (g : Good E)
include g
theorem yeu (f t d day:Int):Fc E zi1 [Per f t d,I day] (.tup
  (if ze5 f t d≠0 then [yp6 0 0 0 0 0 0,I (ze5 f t d)] else if day<=f\/t<day then [yp6 0 0 0 0 0 0,I 30] else [yp6 f (day-1) d day t d,I 0])):=by
 refine g.fn rfl rfl ?_
 have k1:=@zay f t d
 repeat' ((conv=>whnf);first
 | refine Yz ?_
  | (refine zae.of (zkg g _ _ _) ?_)
  | (refine Cmp.mk (fun h=> ?_) (fun h=> ?_))|(refine Rem.any (by omega) (fun r hr he=> ?_))|(refine Br.mk (fun h=> ?_) (fun h=> ?_))
  | (refine Ret.mk ?_))
 all_goals simp_all
end
theorem ym1:∀a:Fin 128,∀p w:Fin 7,a.val<2^p.val->inM (((a.val:Nat):Int)+2^p.val) w.val=(inM ((a.val:Nat):Int) w.val||decide (w.val=p.val)):=by decide+kernel
theorem yde:∀w:Fin 7,inM 0 w.val=false:=by decide+kernel
theorem zy8 (f d:Int):∀n:Nat,(zdq f d n).Pairwise (·<·)/\∀x,x∈zdq f d n↔(f<=x/\x<f+n)/\inM d ((x+5)%7)=true
 | 0=>⟨by simp [zdq],fun x=>by simp [zdq];intro h1 h2;omega⟩
 | n+1=>by
  obtain⟨h1,h2⟩:=zy8 f d n
  have hs:zdq f d (n+1)=zdq f d n++if inM d ((f+n+5)%7) then [f+(n:Int)] else []:=rfl
  rw [hs]
  refine⟨List.pairwise_append.2 ⟨h1,by split<;>simp,fun x hx y hy=> ?_⟩,fun x=> ?_⟩
  ·have:=(h2 x).1 hx
   split at hy
   ·rw [List.mem_singleton] at hy;omega
   ·simp at hy
  ·rw [List.mem_append,h2]
   by_cases hp:inM d ((f+n+5)%7)=true
   ·rw [if_pos hp,List.mem_singleton]
    constructor
    ·rintro(h|h)
     ·exact⟨by omega,h.2⟩
     ·subst h;exact⟨by omega,hp⟩
    ·rintro⟨h3,h4⟩
     by_cases e:x=f+n
     ·exact .inr e
     ·exact .inl ⟨by omega,h4⟩
   ·rw [if_neg hp]
    constructor
    ·rintro(h|h)
     ·exact⟨by omega,h.2⟩
     ·simp at h
    ·rintro⟨h3,h4⟩
     by_cases e:x=f+n
     ·subst e;exact absurd h4 hp
     ·exact .inl ⟨by omega,h4⟩
section
variable {l : List Int} (hz : zpc l = 0)
include hz
theorem z1h (w:Int) (b:Nat) (hb:b<7):∀k,k<=l.length->(inM (zle l w k) b=true↔∃j,j<k/\wkD (l.getD j 0)=w/\(l.getD j 0+5)%7=b)
 | 0,_=>by
  have:=yde ⟨b,hb⟩
  simp only [zle]
  rw [this]
  simp
 | k+1,hk=>by
  have ih:=z1h w b hb k (by omega)
  have hd:=zgo hz (show k<l.length by omega)
  simp only [zle]
  by_cases e:wkD (l.getD k 0)=w
  ·rw [if_pos e]
   have hlt:=z3m hz w (l.getD k 0) ⟨e,hd.1⟩ k (by omega) (fun i hi=>zs0 hz hi (by omega))
   have hbd:=z5y hz w k (by omega)
   have hp:((l.getD k 0+5)%7).toNat<7:=by omega
   have h1:=ym1 ⟨(zle l w k).toNat,by omega⟩ ⟨_,hp⟩ ⟨b,hb⟩ (by
    have:((zle l w k).toNat:Int)<2^((l.getD k 0+5)%7).toNat:=by omega
    exact_mod_cast this)
   simp only [show (((zle l w k).toNat:Nat):Int)=zle l w k by omega] at h1
   rw [h1,Bool.or_eq_true,ih,decide_eq_true_eq]
   constructor
   ·rintro(⟨j,h2,h3,h4⟩|h2)
    ·exact⟨j,by omega,h3,h4⟩
    ·exact⟨k,by omega,e,by omega⟩
   ·rintro⟨j,h2,h3,h4⟩
    by_cases ej:j=k
    ·subst ej;exact .inr (by omega)
    ·exact .inl ⟨j,by omega,h3,h4⟩
  ·rw [if_neg e,Int.add_zero,ih]
   constructor
   ·rintro⟨j,h2,h3⟩;exact⟨j,by omega,h3⟩
   ·rintro⟨j,h2,h3,h4⟩
    by_cases ej:j=k
    ·subst ej;exact absurd h3 e
    ·exact⟨j,by omega,h3,h4⟩
omit hz in
structure ymw (l:List Int) (i k:Nat) (p:Int×Int×Int) (n:Int):Prop where
 le:i<=k
 lt:k<l.length
 f:p.1=l.getD i 0
 t:p.2.1=l.getD k 0
 first :i=0\/wkD (l.getD (i-1) 0)≠wkD (l.getD i 0)
 mask:∀j,i<=j->j<=k->zzf l (wkD (l.getD j 0))=p.2.2
 step:∀j,i<=j->j<k->wkD (l.getD (j+1) 0)=wkD (l.getD j 0)\/wkD (l.getD (j+1) 0)=wkD (l.getD j 0)+1
 weeks:n=wkD (l.getD k 0)-wkD (l.getD i 0)+1/\n<=57
omit hz in
theorem yi1 {i k:Nat} {p:Int×Int×Int} {n:Int} (h:ymw l i k p n) (w:Int):∀j,i<=j->j<=k->wkD (l.getD i 0)<=w->w<=wkD (l.getD j 0)->∃r,i<=r/\r<=k/\wkD (l.getD r 0)=w:=by
 intro j
 induction j with
 | zero=>
  intro h1 h2 h3 h4
  obtain rfl:i=0:=by omega
  exact⟨0,Nat.le_refl _,h2,by omega⟩
 | succ j ih=>
  intro h1 h2 h3 h4
  by_cases e:i=j+1
  ·subst e;exact⟨j+1,Nat.le_refl _,h2,by omega⟩
  ·have hs:=h.step j (by omega) (by omega)
   by_cases e2:w=wkD (l.getD (j+1) 0)
   ·exact⟨j+1,h1,h2,e2.symm⟩
   ·exact ih (by omega) (by omega) h3 (by omega)
omit hz in
theorem yn6 {i k:Nat} (hik:i<=k) (hk:k<l.length) (x:Int):x∈(l.drop i).take (k+1-i)↔∃j,i<=j/\j<=k/\l.getD j 0=x:=by
 rw [List.mem_iff_getElem]
 constructor
 ·rintro⟨r,hr,e⟩
  simp only [List.length_take,List.length_drop] at hr
  rw [List.getElem_take,List.getElem_drop] at e
  exact⟨i+r,by omega,by omega,by rw [List.getD,List.getElem?_eq_getElem (by omega)];exact e⟩
 ·rintro⟨j,h1,h2,e⟩
  refine⟨j-i,by simp only [List.length_take,List.length_drop];omega,?_⟩
  rw [List.getElem_take,List.getElem_drop]
  rw [List.getD,List.getElem?_eq_getElem (by omega)] at e
  simpa [show i+(j-i)=j by omega] using e
theorem ygj (i n:Nat):((l.drop i).take n).Pairwise (·<·):=by
 refine List.Pairwise.sublist (List.Sublist.trans (List.take_sublist _ _) (List.drop_sublist _ _)) ?_
 rw [List.pairwise_iff_getElem]
 intro a b ha hb hab
 have:=zs0 hz hab hb
 rw [List.getD,List.getD,List.getElem?_eq_getElem ha,List.getElem?_eq_getElem hb] at this
 exact this
theorem yi0 {i k:Nat} {p:Int×Int×Int} {n:Int} (h:ymw l i k p n):zdq p.1 p.2.2 (p.2.1-p.1+1).toNat=(l.drop i).take (k+1-i):=by
 obtain⟨h1,h2⟩:=zy8 p.1 p.2.2 (p.2.1-p.1+1).toNat
 refine z6m h1 (ygj hz i _) fun x=> ?_
 rw [h2,yn6 h.le h.lt]
 have hle:l.getD i 0<=l.getD k 0:=by
  by_cases e:i=k
  ·subst e;exact Int.le_refl _
  ·have:=zs0 hz (show i<k by have:=h.le;omega) h.lt;omega
 have hi0:=zgo hz (show i<l.length by have:=h.le;have:=h.lt;omega)
 have hk0:=zgo hz h.lt
 rw [h.f,h.t]
 constructor
 ·rintro⟨h3,h4⟩
  have e1:=znq (l.getD i 0)
  have e2:=znq (l.getD k 0)
  have e3:=znq x
  obtain⟨r,h5,h6,h7⟩:=yi1 h (wkD x) k h.le (Nat.le_refl _) (by omega) (by omega)
  have hm:=h.mask r h5 h6
  rw [<-hm,h7] at h4
  have hb:((x+5)%7).toNat<7:=by omega
  have hbe:(((x+5)%7).toNat:Int)=(x+5)%7:=by omega
  rw [<-hbe] at h4
  obtain⟨j,h8,h9,h10⟩:=(z1h hz (wkD x) _ hb l.length (Nat.le_refl _)).1 h4
  have e4:=znq (l.getD j 0)
  have hx:l.getD j 0=x:=by omega
  refine⟨j,?_,?_,hx⟩
  ·rcases Nat.lt_or_ge j i with hlt|hge
   ·have:=zs0 hz hlt (by have:=h.le;have:=h.lt;omega);omega
   ·exact hge
  ·rcases Nat.lt_or_ge k j with hlt|hge
   ·have:=zs0 hz hlt h8;omega
   ·exact hge
 ·rintro⟨j,h3,h4,rfl⟩
  have hm:=h.mask j h3 h4
  have hj:=h.lt
  have hd:=zgo hz (show j<l.length by omega)
  have k1:l.getD i 0<=l.getD j 0:=by
   by_cases e:i=j
   ·subst e;exact Int.le_refl _
   ·have:=zs0 hz (show i<j by omega) (by omega);omega
  have k2:l.getD j 0<=l.getD k 0:=by
   by_cases e:j=k
   ·subst e;exact Int.le_refl _
   ·have:=zs0 hz (show j<k by omega) h.lt;omega
  refine⟨by omega,?_⟩
  rw [<-hm]
  have hb:((l.getD j 0+5)%7).toNat<7:=by omega
  have hbe:(((l.getD j 0+5)%7).toNat:Int)=(l.getD j 0+5)%7:=by omega
  rw [<-hbe]
  exact(z1h hz _ _ hb l.length (Nat.le_refl _)).2 ⟨j,by omega,rfl,by omega⟩
theorem yeh {i k:Nat} {p:Int×Int×Int} {n:Int} (h:ymw l i k p n):ze5 p.1 p.2.1 p.2.2=0:=by
 have hle:l.getD i 0<=l.getD k 0:=by
  by_cases e:i=k
  ·subst e;exact Int.le_refl _
  ·have:=zs0 hz (show i<k by have:=h.le;omega) h.lt;omega
 have hi0:=zgo hz (show i<l.length by have:=h.le;have:=h.lt;omega)
 have hk0:=zgo hz h.lt
 have e1:=znq (l.getD i 0)
 have e2:=znq (l.getD k 0)
 have hw:=h.weeks
 have hm:=h.mask k h.le (Nat.le_refl _)
 have hb:=z5y hz (wkD (l.getD k 0)) l.length (Nat.le_refl _)
 have hpos:zle l (wkD (l.getD k 0)) l.length≠0:=fun e=>by
  have hb7:((l.getD k 0+5)%7).toNat<7:=by omega
  have:=(z1h hz (wkD (l.getD k 0)) _ hb7 l.length (Nat.le_refl _)).2 ⟨k,h.lt,rfl,by omega⟩
  rw [e,yde ⟨_,hb7⟩] at this
  cases this
 have hm':zle l (wkD (l.getD k 0)) l.length=p.2.2:=hm
 rw [zay,h.f,h.t]
 omega
omit hz in
inductive Cov (l:List Int):List (Int×Int×Int)->Nat->Prop
 | nil:Cov l [] 0
 | add {ps:List (Int×Int×Int)} {i k:Nat} {p:Int×Int×Int} {w:Int}:Cov l ps i->ymw l i k p w->Cov l (ps++[p]) (k+1)
omit hz in
theorem yia:∀k,k<l.length->∃i,Cov l (jn l k).1 i/\ymw l i k (jn l k).2.1 (jn l k).2.2
 | 0,hk=>⟨0,.nil,⟨Nat.le_refl _,hk,rfl,rfl,.inl rfl,fun j h1 h2=>(by
   obtain rfl:j=0:=by omega
   rfl),fun j h1 h2=>by omega,by simp [jn]⟩⟩
 | k+1,hk=>by
  obtain⟨i,hc,ho⟩:=yia k (by omega)
  have hjn:jn l (k+1)=if wkD (l.getD k 0)=wkD (l.getD (k+1) 0) then((jn l k).1,((jn l k).2.1.1,l.getD (k+1) 0,(jn l k).2.1.2.2),(jn l k).2.2)
   else if wkD (l.getD k 0)=wkD (l.getD (k+1) 0)-1/\(jn l k).2.1.2.2=zzf l (wkD (l.getD (k+1) 0))/\(jn l k).2.2<57 then((jn l k).1,((jn l k).2.1.1,l.getD (k+1) 0,(jn l k).2.1.2.2),(jn l k).2.2+1)
   else((jn l k).1++[(jn l k).2.1],(l.getD (k+1) 0,l.getD (k+1) 0,zzf l (wkD (l.getD (k+1) 0))),1):=rfl
  rw [hjn]
  have hle:=ho.le
  have hw:=ho.weeks
  by_cases c1:wkD (l.getD k 0)=wkD (l.getD (k+1) 0)
  ·rw [if_pos c1]
   refine⟨i,hc,⟨by omega,hk,ho.f,rfl,ho.first,fun j h1 h2=> ?_,fun j h1 h2=> ?_,by simp only;omega⟩⟩
   ·by_cases e:j=k+1
    ·subst e;rw [<-c1];exact ho.mask k hle (Nat.le_refl _)
    ·exact ho.mask j h1 (by omega)
   ·by_cases e:j=k
    ·subst e;exact .inl c1.symm
    ·exact ho.step j h1 (by omega)
  ·rw [if_neg c1]
   by_cases c2:wkD (l.getD k 0)=wkD (l.getD (k+1) 0)-1/\(jn l k).2.1.2.2=zzf l (wkD (l.getD (k+1) 0))/\(jn l k).2.2<57
   ·rw [if_pos c2]
    refine⟨i,hc,⟨by omega,hk,ho.f,rfl,ho.first,fun j h1 h2=> ?_,fun j h1 h2=> ?_,by simp only;omega⟩⟩
    ·by_cases e:j=k+1
     ·subst e;exact c2.2.1.symm
     ·exact ho.mask j h1 (by omega)
    ·by_cases e:j=k
     ·subst e;exact .inr (by omega)
     ·exact ho.step j h1 (by omega)
   ·rw [if_neg c2]
    refine⟨k+1,.add hc ho,⟨Nat.le_refl _,hk,rfl,rfl,.inr (by rw [Nat.add_sub_cancel];exact c1),fun j h1 h2=> ?_,fun j h1 h2=>by omega,by simp⟩⟩
    obtain rfl:j=k+1:=by omega
    rfl
omit hz in
theorem yk7:Cov l (zcr l) l.length:=by
 unfold zcr
 cases hl:l.length with
 | zero=>exact .nil
 | succ k=>
  obtain⟨i,h1,h2⟩:=yia (l:=l) k (by omega)
  exact .add h1 h2
end
theorem yfk {l:List Int} (hl:l.length<=512) (hs:l.Pairwise (·<·)) (hm:∀x∈l,0<=x/\x<=99999):zpc l=0:=by
 refine zlc.2 ⟨hl,fun i hi=>zxb.2 ⟨?_,fun h0=> ?_⟩⟩
 ·rw [List.getD,List.getElem?_eq_getElem hi]
  exact hm _ (List.getElem_mem _)
 ·rw [List.getD,List.getD,List.getElem?_eq_getElem hi,List.getElem?_eq_getElem (show i-1<l.length by omega)]
  exact List.pairwise_iff_getElem.1 hs (i-1) i (by omega) hi (by omega)
theorem yho (f d:Int) (n:Nat) (hf:0<=f/\f+n<=100000) (hn:n<=512):zpc (zdq f d n)=0:=by
 obtain⟨h1,h2⟩:=zy8 f d n
 have:=zdm f d n
 exact yfk (by omega) h1 fun x hx=>by have:=(h2 x).1 hx;omega
theorem yhm {l:List Int}:∀ {ps:List (Int×Int×Int)} {n:Nat},Cov l ps n->∃b:Nat->Nat,b 0=0/\b ps.length=n/\∀r (h:r<ps.length),b r<b (r+1)/\∃w,ymw l (b r) (b (r+1)-1) ps[r] w
 | _,_,.nil=>⟨fun _=>0,rfl,rfl,fun r h=>by simp at h⟩
 | _,_,.add (ps:=ps) (i:=i) (k:=k) (p:=p) (w:=w) hc ho=>by
  obtain⟨b,h0,h1,h2⟩:=yhm hc
  refine⟨fun r=>if r<=ps.length then b r else k+1,by simp [h0],by simp;intro h;omega,fun r h=> ?_⟩
  rw [List.length_append,List.length_singleton] at h
  by_cases e:r=ps.length
  ·subst e
   have hle:=ho.le
   simp only [Nat.le_refl,if_true,h1,show ¬ps.length+1<=ps.length by omega,if_false,Nat.add_sub_cancel]
   refine⟨by omega,w,?_⟩
   simpa using ho
  ·have hr:r<ps.length:=by omega
   obtain⟨h3,w',h4⟩:=h2 r hr
   simp only [show r<=ps.length by omega,show r+1<=ps.length by omega,if_true]
   refine⟨h3,w',?_⟩
   rw [List.getElem_append_left hr]
   exact h4
theorem yhn {l:List Int} (hz:zpc l=0) {i m:Nat} (him:i<m) {p:Int×Int×Int} {w:Int} (h:ymw l i (m-1) p w):
  ∃u:List Int,zdq p.1 p.2.2 (p.2.1-p.1+1).toNat=u/\u.length=m-i/\u.getD 0 0=p.1/\u.getD (m-i-1) 0=p.2.1/\l.take i++u=l.take m:=by
 have hk:=h.lt
 refine⟨(l.drop i).take (m-i),?_,?_,?_,?_,?_⟩
 ·rw [yi0 hz h,show m-1+1-i=m-i by omega]
 ·simp;omega
 ·rw [h.f]
  simp only [List.getD]
  rw [List.getElem?_take_of_lt (by omega),List.getElem?_drop]
  simp
 ·rw [h.t]
  simp only [List.getD]
  rw [List.getElem?_take_of_lt (by omega),List.getElem?_drop,show i+(m-i-1)=m-1 by omega]
 ·have:=List.take_add (l:=l) (i:=i) (j:=m-i)
  rw [show i+(m-i)=m by omega] at this
  exact this.symm
theorem z88 (f d:Int) (a:Nat):∀b:Nat,zdq f d (a+b)=zdq f d a++zdq (f+a) d b
 | 0=>by simp [zdq]
 | b+1=>by
  have h1:zdq f d (a+(b+1))=zdq f d (a+b)++if inM d ((f+((a+b:Nat):Int)+5)%7) then [f+((a+b:Nat):Int)] else []:=rfl
  have h2:zdq (f+a) d (b+1)=zdq (f+a) d b++if inM d ((f+a+(b:Int)+5)%7) then [f+a+(b:Int)] else []:=rfl
  rw [h1,h2,z88 f d a b,List.append_assoc]
  rw [show f+((a+b:Nat):Int)=f+a+b by omega]
end Go.Proofs.YtjfnkgfhbplfaaaGreatDoor.Co
