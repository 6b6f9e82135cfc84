/-
  TopTowerParts: what its law leans on, part 2.
-/
import Derived.Laws.RangeAny
import Derived.Test.YtjfnkgfhbplfaaaGreatDoorRead
import Derived.Test.YtjfnkgfhbplfaaaGreatDoorSpBase
import Derived.Test.YtjfnkgfhbplfaaaGreatDoorTPa
namespace Go.Proofs.YtjfnkgfhbplfaaaGreatDoor.Co
open Go Go.Evl
set_option maxHeartbeats 32000000
set_option maxRecDepth 100000
theorem zk5 (n a b:Int):rng n a b=if decide (n<a\/b<n)=true then 3 else 0:=by
 unfold rng
 simp only [decide_eq_true_eq]
def zce (l:Lmt):Int:=l.to/l.st-(l.fr+l.st-1)/l.st+1
def ymh (f t d n:Int):Bool:=decide (ze5 f t d≠0)||decide (t-f<n)
def z87 (l:Lmt):List Int:=zdq l.pf l.pd (l.pt-l.pf+1).toNat
def zlk (l:Lmt):Bool:=decide (l.nm.length<=40)&&decide (l.ki.length<=40)&&decide (l.te.length<=40)&&ymh l.pf l.pt l.pd 24
def z06 (l:Lmt):Int:=if zi8 l=0 then zce l*(z87 l).length else 0
def zfx:List Lmt->Int
 | []=>0
 | l::r=>z06 l+zfx r
def ztn (m:Mvt):Bool:=decide (m.ki.length<=40)&&decide (m.te.length<=40)&&decide (m.nm.length<=40)
def z8b (q:Rqt):Bool:=decide (q.nm.length<=40)&&decide (q.ki.length<=40)&&decide (q.te.length<=40)&&ymh q.fr q.to q.da 24
theorem zfi {l:Lmt}:zi8 l=0↔nmE l.nm=0/\yg5 l.ki=true/\opE l.te=0/\(1<=l.le/\l.le<=1440)/\(1<=l.st/\l.st<=1440)/\(0<=l.fr/\l.fr<=1439)/\(0<=l.to/\l.to<=1439)/\l.fr<=l.to/\ze5 l.pf l.pt l.pd=0/\(0<=l.mo/\l.mo<=999999999):=by
 unfold zi8
 rw [zbn]
 simp only [List.mem_cons,List.not_mem_nil,or_false,forall_eq_or_imp,forall_eq,zfc]
 have e1:(if(!yg5 l.ki)=true then(13:Int) else 0)=0↔yg5 l.ki=true:=by cases yg5 l.ki<;>simp
 have e2:(if l.to<l.fr then(11:Int) else 0)=0↔l.fr<=l.to:=by split<;>omega
 rw [e1,e2]
theorem zjm {l:Lmt} (h:zi8 l=0):0<=zce l/\zce l<=1440:=by
 obtain⟨_,_,_,_,h1,h2,h3,h4,_⟩:=zfi.1 h
 unfold zce
 have a1:l.to/l.st<=l.to:=Int.ediv_le_self _ h3.1
 have a2:0<=(l.fr+l.st-1)/l.st:=Int.ediv_nonneg (by omega) (by omega)
 have a3:(l.fr+l.st-1)/l.st<=(l.to+l.st-1)/l.st:=Int.ediv_le_ediv (by omega) (by omega)
 have a4:(l.to+l.st-1)/l.st<=l.to/l.st+1:=by
  have:(l.to+l.st-1)/l.st<=(l.to+l.st*1)/l.st:=Int.ediv_le_ediv (by omega) (by omega)
  rw [Int.add_mul_ediv_left _ _ (by omega)] at this
  exact this
 omega
theorem ycw (l:List Lmt) (k:Nat) (h:k<l.length):zfx (l.take (k+1))=zfx (l.take k)+z06 l[k]:=by
 rw [List.take_add_one,List.getElem?_eq_getElem h]
 have key:∀(a b:List Lmt),zfx (a++b)=zfx a+zfx b:=by
  intro a b
  induction a with
  | nil=>simp [zfx]
  | cons x a ih=>simp only [List.cons_append,zfx,ih];omega
 rw [key]
 simp [zfx]
theorem ydi (l:Lmt) (h:ymh l.pf l.pt l.pd 24=true) (hc:ze5 l.pf l.pt l.pd=0):(z87 l).length<=24:=by
 unfold ymh at h
 simp only [hc,ne_eq,not_true_eq_false,decide_false,Bool.false_or,decide_eq_true_eq] at h
 have:=zdm l.pf l.pd (l.pt-l.pf+1).toNat
 unfold z87
 omega
theorem zvs (l:Lmt) (h:zlk l=true):0<=z06 l/\z06 l<=34560:=by
 unfold z06
 split
 ·rename_i hc
  have h1:=zjm hc
  unfold zlk at h
  simp only [Bool.and_eq_true] at h
  have h2:=ydi l h.2 (zfi.1 hc).2.2.2.2.2.2.2.2.1
  constructor
  ·exact Int.mul_nonneg h1.1 (by omega)
  ·exact Int.le_trans (Int.mul_le_mul h1.2 (show ((z87 l).length:Int)<=24 by omega) (by omega) (by omega)) (by omega)
 ·omega
theorem zz7:∀(l:List Lmt),l.all zlk=true->0<=zfx l/\zfx l<=34560*l.length
 | [],_=>by simp [zfx]
 | x::l,h=>by
  simp only [List.all_cons,Bool.and_eq_true] at h
  have h1:=zvs x h.1
  have h2:=zz7 l h.2
  simp only [zfx,List.length_cons]
  omega
section
variable {E : Oracle} (g : Good E)
include g
theorem zk4 (n a b:Int):Fc E zav [I n,I a,I b] (B (decide (n<a\/b<n))):=by
 refine g.fn rfl rfl ?_
 by_cases h1:n<a
 ·rw [decide_eq_true (.inl h1)]
  repeat' ((conv=>whnf);first
  | refine Yz ?_
   | (refine Ret.mk rfl))
 ·by_cases h2:b<n
  ·rw [decide_eq_true (.inr h2)]
   repeat' ((conv=>whnf);first
   | refine Yz ?_
    | (refine Ret.mk rfl))
  ·rw [decide_eq_false (by omega)]
   repeat' ((conv=>whnf);first
   | refine Yz ?_
    | (refine Ret.mk rfl))
theorem yjf (l:Lmt):Fc E zg9 [Lmv l] (I (zi8 l)):=by
 refine g.fn rfl rfl ?_
 have n1:=z1p g l.nm
 have n2:=ztj g l.te
 have o1:=zk4 g l.le 1 1440
 have o2:=zk4 g l.st 1 1440
 have o3:=zk4 g l.fr 0 1439
 have o4:=zk4 g l.to 0 1439
 have o5:=zk4 g l.mo 0 999999999
 have hp:=zrh g l.pf l.pt l.pd
 unfold zi8 nmE opE yg5
 rw [zk5 l.le,zk5 l.st,zk5 l.fr,zk5 l.to,zk5 l.mo]
 generalize zkz l.nm=b1 at *
 generalize yns l.te=b2 at *
 generalize decide (l.le<1\/1440<l.le)=c1 at *
 generalize decide (l.st<1\/1440<l.st)=c2 at *
 generalize decide (l.fr<0\/1439<l.fr)=c3 at *
 generalize decide (l.to<0\/1439<l.to)=c4 at *
 generalize decide (l.mo<0\/999999999<l.mo)=c5 at *
 generalize ze5 l.pf l.pt l.pd=cp at *
 repeat' ((conv=>whnf);first
 | refine Yz ?_
  | (apply zae.of;assumption)
  | (refine Cmp.mk (fun h=> ?_) (fun h=> ?_))|(refine Rem.any (by omega) (fun r hr he=> ?_))|(refine Br.mk (fun h=> ?_) (fun h=> ?_))
  | (refine Ret.mk ?_))
 all_goals simp_all [za7]
theorem yjc (l:List Lmt) (q:List UInt8) (hl:l.length<=1000000):Fc E znh [LLm l,S q] (I (z8m (zk3 l) q 0)):=by
 refine g.fn rfl rfl ?_
 generalize hA:z8m (zk3 l) q 0=A
 repeat' ((conv=>whnf);first
 | refine Yz ?_)
 refine zad.to (zad.upP g (fun k=>[(0,LLm l),(1,S q),(5,I k)]) (fun _=>_) (fun k=>z8m (zk3 (l.drop k)) q k=A) l.length (fun k hk h0 ih=> ?_) 0 (Nat.zero_le _) hA) rfl rfl
 by_cases hlt:k<l.length
 ·rw [List.drop_eq_getElem_cons hlt,zk3,List.map_cons,z8m] at h0
  have ih:=ih hlt
  by_cases hd:l[k].nm=q
  ·rw [if_pos hd.symm] at h0
   subst h0
   repeat' ((conv=>whnf);first
   | refine Yz ?_
    | (refine zou.rec Lmt.cells_length k rfl hlt rfl ?_)
    | (refine Cmp.tt hd ?_)
    | (refine Ret.mk rfl))
  ·rw [if_neg (Ne.symm hd)] at h0
   have ih:=ih h0
   repeat' ((conv=>whnf);first
   | refine Yz ?_
    | (refine zou.rec Lmt.cells_length k rfl hlt rfl ?_)
    | (refine Cmp.ff hd ?_)
    | (refine zad.to ih rfl rfl))
 ·rw [List.drop_eq_nil_of_le (by omega),zk3,List.map_nil,z8m] at h0
  subst h0
  repeat' ((conv=>whnf);first
  | refine Yz ?_
   | (refine Ret.mk rfl))
theorem z7x (l:List Lmt) (hl:l.length<=1000000):Fc E zjb [LLm l] (I (zko l)):=by
 refine g.fn rfl rfl ?_
 unfold zko
 by_cases hm:32<l.length
 ·rw [if_pos hm]
  repeat' ((conv=>whnf);first
  | refine Yz ?_
   | (refine Ret.mk rfl))
 rw [if_neg hm]
 generalize hR:zy6 [] l=R
 repeat' ((conv=>whnf);first
 | refine Yz ?_)
 refine zad.to (zad.upP g (fun k=>[(0,LLm l),(3,I k)]) (fun _=>[]) (fun k=>zy6 (zk3 (l.take k)) (l.drop k)=R) l.length (fun k hk h0 ih=> ?_) 0 (Nat.zero_le _) hR) rfl rfl
 by_cases hlt:k<l.length
 ·have hs:zk3 (l.take (k+1))=zk3 (l.take k)++[l[k].nm]:=yeg Lmt.nm hlt
  rw [List.drop_eq_getElem_cons hlt,zy6,<-hs] at h0
  have ih:=ih hlt
  have hc:=yjf g l[k]
  have hn:=yjc g (l.take k) l[k].nm (by simp;omega)
  have ht:=yj0 Lmt.cells 11 Lmt.cells_length l k (by omega)
  have hm:=z7e l[k].nm (zk3 (l.take k)) 0
  generalize z8m (zk3 (l.take k)) l[k].nm 0=r at *
  have hq:z8x (zk3 (l.take k)) l[k]=if zi8 l[k]=0 then if 0<=r then 9 else 0 else zi8 l[k]:=by
   unfold z8x za7 za7 za7
   by_cases hr:0<=r
   ·rw [if_pos (hm.1 hr),if_pos hr];rfl
   ·rw [if_neg (fun h=>hr (hm.2 h)),if_neg hr];rfl
  rw [hq] at h0
  generalize zi8 l[k]=x at *
  by_cases hz:x=0
  ·rw [if_pos hz] at h0
   by_cases hr:0<=r
   ·simp only [if_pos hr] at h0
    rw [if_neg (by decide)] at h0
    rw [<-h0]
    repeat' ((conv=>whnf);first
    | refine Yz ?_
     | (refine zcz.rec Lmt.cells_length k rfl hlt ?_)
     | (refine zou.rec Lmt.cells_length k rfl hlt rfl ?_)
     | (refine zpq.at 0 k rfl rfl (by omega) ?_<;>(try rw [ht]))
     | (apply zae.of;assumption)
     | (refine Cmp.ff (fun h=>h hz) ?_)
     | (refine Ret.mk rfl))
   ·simp only [if_neg hr,if_true] at h0
    replace ih:=ih h0
    repeat' ((conv=>whnf);first
    | refine Yz ?_
     | (refine zcz.rec Lmt.cells_length k rfl hlt ?_)
     | (refine zou.rec Lmt.cells_length k rfl hlt rfl ?_)
     | (refine zpq.at 0 k rfl rfl (by omega) ?_<;>(try rw [ht]))
     | (apply zae.of;assumption)
     | (refine Cmp.ff (fun h=>h hz) ?_)
     | (refine zad.to ih rfl rfl))
  ·rw [if_neg hz] at h0
   rw [if_neg hz] at h0
   rw [<-h0]
   repeat' ((conv=>whnf);first
   | refine Yz ?_
    | (refine zcz.rec Lmt.cells_length k rfl hlt ?_)
    | (apply zae.of;assumption)
    | (refine Cmp.tt hz ?_)
    | (refine Ret.mk rfl))
 ·rw [List.drop_eq_nil_of_le (by omega),zy6] at h0
  rw [<-h0]
  repeat' ((conv=>whnf);first
  | refine Yz ?_
   | (refine Ret.mk rfl))
theorem ynu (m:Mvt):Fc E zhr [Mvv m] (I (zq8 m)):=by
 refine g.fn rfl rfl ?_
 have n1:=z1p g m.nm
 have n2:=ztj g m.te
 have o1:=zk4 g m.mo 0 143999999
 have o2:=zk4 g m.se 0 999
 have o3:=zk4 g m.si 0 9
 have o4:=zk4 g m.no 0 99
 unfold zq8 nmE opE flE ldE yk8
 rw [zk5 m.mo,zk5 m.se,zk5 m.si,zk5 m.no]
 generalize zkz m.nm=b1 at *
 generalize yns m.te=b2 at *
 generalize decide (m.mo<0\/143999999<m.mo)=c1 at *
 generalize decide (m.se<0\/999<m.se)=c2 at *
 generalize decide (m.si<0\/9<m.si)=c3 at *
 generalize decide (m.no<0\/99<m.no)=c4 at *
 repeat' ((conv=>whnf);first
 | refine Yz ?_
  | (apply zae.of;assumption)
  | (refine Cmp.mk (fun h=> ?_) (fun h=> ?_))|(refine Rem.any (by omega) (fun r hr he=> ?_))|(refine Br.mk (fun h=> ?_) (fun h=> ?_))
  | (refine Ret.mk ?_))
 all_goals simp_all [za7]
theorem ynv (q:Rqt):Fc E zij [Rqv q] (I (zkx q)):=by
 refine g.fn rfl rfl ?_
 have n1:=z1p g q.nm
 have n2:=ztj g q.te
 have o1:=zk4 g q.mi 0 1439
 have o2:=zk4 g q.se 0 999
 have o3:=zk4 g q.si 0 9
 have o4:=zk4 g q.no 0 99
 have hp:=zrh g q.fr q.to q.da
 unfold zkx nmE opE flE ldE yk8
 rw [zk5 q.mi,zk5 q.se,zk5 q.si,zk5 q.no]
 generalize zkz q.nm=b1 at *
 generalize yns q.te=b2 at *
 generalize decide (q.mi<0\/1439<q.mi)=c1 at *
 generalize decide (q.se<0\/999<q.se)=c2 at *
 generalize decide (q.si<0\/9<q.si)=c3 at *
 generalize decide (q.no<0\/99<q.no)=c4 at *
 generalize ze5 q.fr q.to q.da=cp at *
 repeat' ((conv=>whnf);first
 | refine Yz ?_
  | (apply zae.of;assumption)
  | (refine Cmp.mk (fun h=> ?_) (fun h=> ?_))|(refine Rem.any (by omega) (fun r hr he=> ?_))|(refine Br.mk (fun h=> ?_) (fun h=> ?_))
  | (refine Ret.mk ?_))
 all_goals simp_all [za7]
theorem zrs (l:List Mvt) (hl:l.length<=1000000):Fc E zd7 [LMv l] (I (zju l)):=by
 refine g.fn rfl rfl ?_
 unfold zju
 by_cases hm:30000<l.length
 ·rw [if_pos hm]
  repeat' ((conv=>whnf);first
  | refine Yz ?_
   | (refine Ret.mk rfl))
 rw [if_neg hm]
 generalize hR:zw6 0 l=R
 repeat' ((conv=>whnf);first
 | refine Yz ?_)
 refine zad.to (zad.upP g (fun k=>[(0,LMv l),(3,I k)]) (fun _=>[]) (fun k=>zw6 (if k=0 then 0 else(l.getD (k-1) default).mo) (l.drop k)=R) l.length (fun k hk h0 ih=> ?_) 0 (Nat.zero_le _) hR) rfl rfl
 by_cases hlt:k<l.length
 ·rw [List.drop_eq_getElem_cons hlt,zw6] at h0
  have ih:=ih hlt
  have e1:l.getD (k+1-1) default=l[k]:=by simp [hlt]
  rw [if_neg (by omega),e1] at ih
  have hc:=ynu g l[k]
  cases k with
  | zero=>
   have hq:z0z 0 l[0]=zq8 l[0]:=by
    unfold z0z za7 za7 za7
    by_cases hb:l[0].mo<0
    ·rw [if_pos hb]
     have:zq8 l[0]=3:=by unfold zq8;rw [za7,show rng l[0].mo 0 143999999=3 from by unfold rng;rw [if_pos (.inl hb)]];rfl
     rw [this];rfl
    ·rw [if_neg hb]
     simp only [if_true]
     split<;>simp_all
   simp only [if_true] at h0
   rw [hq] at h0
   generalize zq8 l[0]=x at *
   by_cases hz:x=0
   all_goals first |rw [if_pos hz] at h0|rw [if_neg hz] at h0
   all_goals first |(replace ih:=ih h0)|rw [<-h0]
   all_goals repeat' ((conv=>whnf);first
   | refine Yz ?_
    | (refine zcz.rec Mvt.cells_length 0 rfl hlt ?_)
    | (apply zae.of;assumption)
    | (refine Cmp.ff (fun h=>h hz) ?_)
    | (refine Cmp.tt hz ?_)
    | (refine zad.to ih rfl rfl)
    | (refine Ret.mk rfl))
  | succ j=>
   have hj:j<l.length:=by omega
   have e2:l.getD (j+1-1) default=l[j]:=by simp [hj]
   have e3:(if j+1=0 then(0:Int) else(l.getD (j+1-1) default).mo)=l[j].mo:=by rw [if_neg (by omega),e2]
   rw [e3] at h0
   have hq:z0z l[j].mo l[j+1]=if zq8 l[j+1]=0 then if l[j+1].mo<l[j].mo then 11 else 0 else zq8 l[j+1]:=by
    unfold z0z za7 za7 za7
    by_cases hr:l[j+1].mo<l[j].mo
    ·rw [if_pos hr];rfl
    ·rw [if_neg hr];rfl
   rw [hq] at h0
   generalize zq8 l[j+1]=x at *
   by_cases hr:l[j+1].mo<l[j].mo
   all_goals first |simp only [if_pos hr] at h0|simp only [if_neg hr] at h0
   all_goals by_cases hz:x=0
   all_goals first |simp only [if_pos hz] at h0|simp only [if_neg hz] at h0
   all_goals first |(replace ih:=ih h0)|(rw [if_neg (by decide)] at h0;rw [<-h0])|rw [<-h0]
   all_goals repeat' ((conv=>whnf);first
   | refine Yz ?_
    | (refine zcz.rec Mvt.cells_length (j+1) rfl hlt ?_)
    | (refine zou.rec Mvt.cells_length (j+1) (by omega) hlt rfl ?_)
    | (refine zou.rec Mvt.cells_length j (by omega) hj rfl ?_)
    | (apply zae.of;assumption)
    | (refine Cmp.ff (fun h=>h hz) ?_)
    | (refine Cmp.tt hz ?_)
    | (refine zad.to ih rfl rfl)
    | (refine Ret.mk rfl))
 ·rw [List.drop_eq_nil_of_le (by omega),zw6] at h0
  rw [<-h0]
  repeat' ((conv=>whnf);first
  | refine Yz ?_
   | (refine Ret.mk rfl))
theorem ype (f t d n:Int):Fc E zrf [Per f t d,I n] (B (ymh f t d n)):=by
 refine g.fn rfl rfl ?_
 have hp:=zrh g f t d
 unfold ymh
 by_cases hz:ze5 f t d=0
 ·have hb:=zay.1 hz
  by_cases hlt:t-f<n
  ·rw [hz,decide_eq_true hlt]
   rw [hz] at hp
   repeat' ((conv=>whnf);first
   | refine Yz ?_
    | (apply zae.of;assumption)
    | (refine Ret.mk rfl))
  ·rw [hz,decide_eq_false hlt]
   rw [hz] at hp
   repeat' ((conv=>whnf);first
   | refine Yz ?_
    | (apply zae.of;assumption)
    | (refine Ret.mk rfl))
 ·rw [decide_eq_true hz]
  repeat' ((conv=>whnf);first
  | refine Yz ?_
   | (apply zae.of;assumption)
   | (refine Cmp.tt hz ?_)
   | (refine Ret.mk rfl))
theorem ylp (l:Lmt) (h:zi8 l=0):Fc E zpm [Lmv l] (I (zce l)):=by
 refine g.fn rfl rfl ?_
 obtain⟨_,_,_,_,h1,h2,h3,h4,_⟩:=zfi.1 h
 have a1:l.to/l.st<=l.to:=Int.ediv_le_self _ h3.1
 have a2:0<=(l.fr+l.st-1)/l.st:=Int.ediv_nonneg (by omega) (by omega)
 have a3:(l.fr+l.st-1)/l.st<=l.fr+l.st-1:=Int.ediv_le_self _ (by omega)
 have a4:0<=l.to/l.st:=Int.ediv_nonneg (by omega) (by omega)
 repeat' ((conv=>whnf);first
 | refine Yz ?_
  | (refine Ret.mk rfl))
theorem z7y (l:List Lmt) (hl:l.length<=3):Fc E zjc [LLm l,I 3] (B (l.all zlk&&decide (zfx l<=400))):=by
 refine g.fn rfl rfl ?_
 generalize hR:(l.all zlk&&decide (zfx l<=400))=R
 repeat' ((conv=>whnf);first
 | refine Yz ?_)
 refine zad.to (zad.upP g (fun k=>[(0,LLm l),(5,I (zfx (l.take k))),(6,I k)]) (fun _=>[]) (fun k=>(l.take k).all zlk=true) l.length (fun k hk h0 ih=> ?_) 0 (Nat.zero_le _) rfl) rfl rfl
 by_cases hlt:k<l.length
 ·have hs:(l.take (k+1)).all zlk=((l.take k).all zlk&&zlk l[k]):=by
   rw [List.take_add_one,List.getElem?_eq_getElem hlt,List.all_append]
   simp
  have hall:zlk l[k]=false->R=false:=fun hf=>by
   rw [<-hR]
   have:l.all zlk=false:=by
    rw [List.all_eq_false]
    exact⟨l[k],List.getElem_mem hlt,by rw [hf];decide⟩
   rw [this,Bool.false_and]
  have hsum:=ycw l k hlt
  have ih:=ih hlt
  have hfw:=ype g l[k].pf l[k].pt l[k].pd 24
  have hc:=yjf g l[k]
  have hst:=ylp g l[k]
  have hdy:=ylm g l[k].pf l[k].pt l[k].pd
  have hr0:=zz7 (l.take k) h0
  have hlk:(l.take k).length=k:=by rw [List.length_take];omega
  rw [hlk] at hr0
  rw [hs,h0,Bool.true_and] at ih
  have hsr:=zvs l[k]
  rw [hsum] at ih
  cases hsh:zlk l[k] with
  | false=>
   rw [hall hsh]
   clear ih hsr hst hdy hc
   unfold zlk at hsh
   simp only [Bool.and_eq_false_iff,decide_eq_false_iff_not] at hsh
   generalize ymh l[k].pf l[k].pt l[k].pd 24=b at *
   repeat' ((conv=>whnf);first
   | refine Yz ?_
    | (refine zou.rec Lmt.cells_length k rfl hlt rfl ?_)
    | (refine zcz.part Lmt.cells_length k rfl hlt (by decide) rfl ?_)
    | (apply zae.of;assumption)
    | (refine Cmp.mk (fun h=> ?_) (fun h=> ?_))|(refine Rem.any (by omega) (fun r hr he=> ?_))|(refine Br.mk (fun h=> ?_) (fun h=> ?_))
    | (refine Ret.mk rfl)
    | (exfalso;simp_all;omega)
    | fail)
  | true=>
   replace ih:=ih hsh
   have hsr:=hsr hsh
   have hsh0:=hsh
   unfold zlk at hsh
   simp only [Bool.and_eq_true,decide_eq_true_eq] at hsh
   obtain⟨⟨⟨s1,s2⟩,s3⟩,s4⟩:=hsh
   rw [s4] at hfw
   by_cases hz:zi8 l[k]=0
   ·have hz2:=zfi.1 hz
    have hdl:=ydi l[k] s4 hz2.2.2.2.2.2.2.2.2.1
    replace hst:=hst hz
    replace hdy:=hdy hz2.2.2.2.2.2.2.2.2.1
    have hsr2:=zjm hz
    have e:z06 l[k]=zce l[k]*(z87 l[k]).length:=if_pos hz
    rw [e] at ih hsr
    change Fc E zk7 _ (LI (z87 l[k])) at hdy
    rw [hz] at hc
    generalize zce l[k]=x at *
    generalize z87 l[k]=ds at *
    repeat' ((conv=>whnf);first
    | refine Yz ?_
     | (refine zou.rec Lmt.cells_length k rfl hlt rfl ?_)
     | (refine zcz.part Lmt.cells_length k rfl hlt (by decide) rfl ?_)
     | (refine zcz.rec Lmt.cells_length k rfl hlt ?_)
     | (apply zae.of;assumption)
     | (refine zad.to ih rfl rfl)
     | fail)
   ·have e:z06 l[k]=0:=if_neg hz
    rw [e,Int.add_zero] at ih
    repeat' ((conv=>whnf);first
    | refine Yz ?_
     | (refine zou.rec Lmt.cells_length k rfl hlt rfl ?_)
     | (refine zcz.part Lmt.cells_length k rfl hlt (by decide) rfl ?_)
     | (refine zcz.rec Lmt.cells_length k rfl hlt ?_)
     | (apply zae.of;assumption)
     | (refine Cmp.ff hz ?_)
     | (refine zad.to ih rfl rfl)
     | fail)
 ·have hk':k=l.length:=by omega
  subst hk'
  rw [List.take_length] at *
  rw [h0,Bool.true_and] at hR
  rw [<-hR]
  by_cases hle:zfx l<=400
  ·rw [decide_eq_true hle]
   repeat' ((conv=>whnf);first
   | refine Yz ?_
    | (refine Ret.mk rfl))
  ·rw [decide_eq_false hle]
   repeat' ((conv=>whnf);first
   | refine Yz ?_
    | (refine Ret.mk rfl))
theorem z3y (m:Mvt):Fc E zhs [Mvv m] (B (ztn m)):=by
 refine g.fn rfl rfl ?_
 unfold ztn
 repeat' ((conv=>whnf);first
 | refine Yz ?_
  | (refine Cmp.mk (fun h=> ?_) (fun h=> ?_))|(refine Rem.any (by omega) (fun r hr he=> ?_))|(refine Br.mk (fun h=> ?_) (fun h=> ?_))
  | (refine Ret.mk ?_))
 all_goals simp_all
 all_goals omega
theorem z01 (l:List Mvt) (hl:l.length<=10):Fc E zg3 [LMv l,I 10] (B (l.all ztn)):=by
 refine g.fn rfl rfl ?_
 generalize hR:l.all ztn=R
 repeat' ((conv=>whnf);first
 | refine Yz ?_)
 refine zad.to (zad.upP g (fun k=>[(0,LMv l),(5,I k)]) (fun _=>[]) (fun k=>(l.drop k).all ztn=R) l.length (fun k hk h0 ih=> ?_) 0 (Nat.zero_le _) hR) rfl rfl
 by_cases hlt:k<l.length
 ·rw [List.drop_eq_getElem_cons hlt,List.all_cons] at h0
  have ih:=ih hlt
  have hs:=z3y g l[k]
  cases hb:ztn l[k] with
  | true=>
   rw [hb] at hs h0
   rw [Bool.true_and] at h0
   have ih:=ih h0
   repeat' ((conv=>whnf);first
   | refine Yz ?_
    | (refine zcz.rec Mvt.cells_length k rfl hlt ?_)
    | (apply zae.of;assumption)
    | (refine zad.to ih rfl rfl))
  | false=>
   rw [hb] at hs h0
   rw [Bool.false_and] at h0
   rw [<-h0]
   repeat' ((conv=>whnf);first
   | refine Yz ?_
    | (refine zcz.rec Mvt.cells_length k rfl hlt ?_)
    | (apply zae.of;assumption)
    | (refine Ret.mk rfl))
 ·rw [List.drop_eq_nil_of_le (by omega),List.all_nil] at h0
  rw [<-h0]
  repeat' ((conv=>whnf);first
  | refine Yz ?_
   | (refine Ret.mk rfl))
theorem z02 (q:Rqt):Fc E zik [Rqv q] (B (z8b q)):=by
 refine g.fn rfl rfl ?_
 have hf:=ype g q.fr q.to q.da 24
 unfold z8b
 generalize ymh q.fr q.to q.da 24=b at *
 repeat' ((conv=>whnf);first
 | refine Yz ?_
  | (apply zae.of;assumption)
  | (refine Cmp.mk (fun h=> ?_) (fun h=> ?_))|(refine Rem.any (by omega) (fun r hr he=> ?_))|(refine Br.mk (fun h=> ?_) (fun h=> ?_))
  | (refine Ret.mk ?_))
 all_goals simp_all
 all_goals omega
end
def yf5 (q:Rqt) (d:Int):Mvt:=⟨1440*d+q.mi,q.ki,q.te,q.se,q.si,q.no,q.nm⟩
def zaq (q:Rqt):List Int:=zdq q.fr q.da (q.to-q.fr+1).toNat
def zmh (q:Rqt):List Mvt:=(zaq q).map (yf5 q)
theorem zta {f d x:Int}:∀k:Nat,x∈zdq f d k↔f<=x/\x<f+k/\inM d ((x+5)%7)=true
 | 0=>by simp [zdq];omega
 | k+1=>by
  rw [zdq,List.mem_append,zta k]
  by_cases h:inM d ((f+k+5)%7)=true
  ·rw [if_pos h]
   simp only [List.mem_singleton]
   constructor
   ·rintro(⟨h1,h2,h3⟩|rfl)
    ·exact⟨h1,by omega,h3⟩
    ·exact⟨by omega,by omega,h⟩
   ·rintro⟨h1,h2,h3⟩
    by_cases e:x=f+k
    ·exact .inr e
    ·exact .inl ⟨h1,by omega,h3⟩
  ·rw [if_neg h]
   simp only [List.not_mem_nil,or_false]
   constructor
   ·rintro⟨h1,h2,h3⟩
    exact⟨h1,by omega,h3⟩
   ·rintro⟨h1,h2,h3⟩
    by_cases e:x=f+k
    ·subst e;exact absurd h3 h
    ·exact⟨h1,by omega,h3⟩
theorem zs1 (f d:Int):∀k:Nat,(zdq f d k).Pairwise (·<·)
 | 0=>List.Pairwise.nil
 | k+1=>by
  rw [zdq,List.pairwise_append]
  refine⟨zs1 f d k,?_,fun a ha b hb=> ?_⟩
  ·split<;>simp
  ·have:=(zta k).1 ha
   split at hb
   ·simp only [List.mem_singleton] at hb;omega
   ·simp at hb
section
variable {E : Oracle} (g : Good E)
include g
theorem yce (q:Rqt) (h:zkx q=0):Fc E zii [Rqv q] (LMv (zmh q)):=by
 refine g.fn rfl rfl ?_
 unfold zkx at h
 rw [zbn] at h
 simp only [List.mem_cons,List.not_mem_nil,or_false,forall_eq_or_imp,forall_eq,zfc] at h
 obtain⟨_,_,_,hp,hm,_⟩:=h
 have hpz:=zay.1 hp
 have hd:=zvq g q.fr q.to q.da hp
 change Fc E zbs _ (.tup [LI (zaq q),I 0]) at hd
 have hmem:∀x∈zaq q,0<=x/\x<=99999:=fun x hx=>by
  have:=(zta _).1 hx
  omega
 have hlen:(zaq q).length<=401:=by
  have:=zdm q.fr q.da (q.to-q.fr+1).toNat
  unfold zaq;omega
 unfold zmh
 generalize zaq q=ds at *
 repeat' ((conv=>whnf);first
 | refine Yz ?_
  | (refine zae.of hd ?_))
 refine zad.to (zad.up g (fun k=>[(1,.ptr ⟨0,1,0⟩ 0 0),(5,.ref ⟨0,5,0⟩ 0 ((ds.take k).map (yf5 q)).length ((ds.take k).map (yf5 q)).length),(14,LI ds),(15,I ds.length),(16,I k)])
  (fun k=>[(⟨0,1,0⟩,.cells zaj [S q.nm,S q.ca,S q.ki,S q.te,S q.pa,S q.li,I q.fr,I q.to,I q.da,I q.mi,I q.se,I q.si,I q.no]),(⟨0,2,0⟩,.row false zaa 7 0 []),(⟨0,5,0⟩,.row false zaa 7 ((ds.take k).map (yf5 q)).length (((ds.take k).map (yf5 q)).flatMap Mvt.cells))]) ds.length (fun k hk ih=> ?_) 0 (Nat.zero_le _)) rfl rfl
 by_cases hlt:k<ds.length
 ·have ih:=ih hlt
  have e:(ds.take (k+1)).map (yf5 q)=(ds.take k).map (yf5 q)++[yf5 q ds[k]]:=by
   rw [List.take_add_one,List.getElem?_eq_getElem hlt,List.map_append];rfl
  rw [e] at ih
  have hx:=hmem ds[k] (List.getElem_mem hlt)
  have hl:((ds.take k).map (yf5 q)).length=k:=by rw [List.length_map,List.length_take];omega
  generalize (ds.take k).map (yf5 q)=A at *
  have hfl:=zbd Mvt.cells 7 Mvt.cells_length A
  repeat' ((conv=>whnf);first
  | refine Yz ?_
   | (refine zou.intI k rfl hlt ?_)
   | (refine zki.mk (by simp;omega) ?_)
   | (refine zad.to ih ?_ ?_))
  ·simp only [List.length_append,List.length_singleton];rfl
  ·simp only [List.length_append,List.length_singleton,List.flatMap_append];rfl
 ·have hk':k=ds.length:=by omega
  subst hk'
  rw [List.take_length]
  repeat' ((conv=>whnf);first
  | refine Yz ?_
   | (refine Ret.mk ?_))
  simp
theorem znl (q:Rqt) (h:zkx q=0):Fc E zck [Rqv q] (.tup [LMv (zmh q),I 0]):=by
 refine g.fn rfl rfl ?_
 have h1:=yjr g q
 rw [h] at h1
 have h2:=yce g q h
 repeat' ((conv=>whnf);first
 | refine Yz ?_
  | (apply zae.of;assumption)
  | (refine Ret.mk rfl))
theorem zti (l:List Mvt) (hl:l.length<=1000000):Fc E zeq [LMv l,LMv l] (B true):=by
 refine g.fn rfl rfl ?_
 repeat' ((conv=>whnf);first
 | refine Yz ?_
  | (refine Cmp.tt rfl ?_))
 refine zad.to (zad.up g (fun k=>[(0,LMv l),(1,LMv l),(5,I k)]) (fun _=>[]) l.length (fun k hk ih=> ?_) 0 (Nat.zero_le _)) rfl rfl
 by_cases hlt:k<l.length
 ·have ih:=ih hlt
  repeat' ((conv=>whnf);first
  | refine Yz ?_
   | (refine zcz.rec Mvt.cells_length k rfl hlt ?_)
   | (refine Cmp.tt ⟨rfl,rfl,rfl,rfl,rfl,rfl,rfl⟩ ?_)
   | (refine zad.to ih rfl rfl))
 ·repeat' ((conv=>whnf);first
 | refine Yz ?_
   | (refine Ret.mk rfl))
theorem ylo (a b:Mvt) (h:a.mo≠b.mo):Fc E zpl [Mvv a,Mvv b] (B (decide (a.mo<b.mo))):=by
 refine g.fn rfl rfl ?_
 by_cases hlt:a.mo<b.mo
 ·rw [decide_eq_true hlt]
  repeat' ((conv=>whnf);first
  | refine Yz ?_
   | (refine Ret.mk rfl))
 ·rw [decide_eq_false hlt]
  repeat' ((conv=>whnf);first
  | refine Yz ?_
   | (refine Ret.mk rfl))
end
section
variable {E : Oracle} (g : Good E)
include g
theorem yjd (l R:List Mvt) (hl:l.length<=1000) (hnd:(l.map (·.mo)).Nodup) (hp:R.Perm l) (hs:R.Pairwise fun a b=>a.mo<b.mo):Fc E zre [LMv l,.d (.list 0 [])] (LMv R):=by
 refine g.fn rfl rfl ?_
 have hml:=zbd Mvt.cells 7 Mvt.cells_length l
 repeat' ((conv=>whnf);first
 | refine Yz ?_
  | (refine zki.mk ⟨rfl,rfl,rfl,rfl,rfl,by first |exact hml|rfl,by first |omega|(simp;omega),by first |omega|(simp;omega)⟩ ?_)
  | fail)
 simp only [Nat.zero_add,Nat.add_zero,List.nil_append,List.append_nil]
 refine zad.to (zad.by (σ:=Nat×List Mvt×Option Nat) g (fun u=>u.1<=l.length/\(u.2.1.Pairwise (fun a b=>a.mo<b.mo)/\u.2.1.Perm (l.take u.1))/\(u.2.2=none->u.2.1=[]))
  (fun u=>[(5,.ref ⟨0,9,0⟩ 0 l.length l.length),(6,match u.2.2 with
   | none=> .ref ⟨0,6,0⟩ 0 0 0
   | some c=> .ref ⟨0,38,c⟩ 0 u.2.1.length u.2.1.length),(7,I u.1)])
  (fun u=>[(⟨0,4,0⟩,.row false zaa 7 0 []),(⟨0,9,0⟩,.row false zaa 7 l.length (l.flatMap Mvt.cells)),(⟨0,6,0⟩,.row false zaa 7 0 [])]++match u.2.2 with
   | none=>[]
   | some c=>[(⟨0,38,c⟩,.row false zaa 7 u.2.1.length (u.2.1.flatMap Mvt.cells))])
  (fun u=>l.length-u.1) ?_ (0,[],none) ⟨Nat.zero_le _,⟨List.Pairwise.nil,.refl _⟩,fun _=>rfl⟩) rfl rfl
 rintro⟨k,out,co⟩ ⟨h1,⟨hasc,hpm⟩,h3⟩ ih
 dsimp only at h1 hasc hpm h3
 have hol:out.length=k:=by rw [hpm.length_eq,List.length_take];omega
 by_cases hlt:k<l.length
 ·have hk1:l.take (k+1)=l.take k++[l[k]]:=by rw [List.take_add_one,List.getElem?_eq_getElem hlt];rfl
  have hpk:win (l.flatMap Mvt.cells) ((0+((k:Nat):Int).toNat)*7) 7=l[k].cells:=by rw [Nat.zero_add,Int.toNat_natCast];exact z3a Mvt.cells 7 Mvt.cells_length l k hlt
  have hne:∀j,(hj:j<out.length)->out[j].mo≠l[k].mo:=fun j hj e=>by
   have hm:out[j]∈l.take k:=hpm.mem_iff.1 (List.getElem_mem hj)
   have h2:((l.take (k+1)).map (·.mo)).Nodup:=((List.take_sublist (k+1) l).map _).nodup hnd
   rw [hk1,List.map_append,List.nodup_append] at h2
   exact h2.2.2 _ (List.mem_map_of_mem hm) _ (by simp) e
  have hins:∀a:Nat,a<=out.length->(∀j,(hj:j<out.length)->j<a->out[j].mo<l[k].mo)->(∀j,(hj:j<out.length)->a<=j->l[k].mo<out[j].mo)->
    (out.take a++l[k]::out.drop a).Pairwise (fun a b=>a.mo<b.mo)/\(out.take a++l[k]::out.drop a).Perm (l.take (k+1)):=fun a ha h3 h4=>by
   constructor
   ·rw [List.pairwise_append,List.pairwise_cons]
    refine⟨hasc.sublist (List.take_sublist _ _),⟨fun x hx=> ?_,hasc.sublist (List.drop_sublist _ _)⟩,fun x hx y hy=> ?_⟩
    ·obtain⟨j,hj,rfl⟩:=List.getElem_of_mem hx
     rw [List.getElem_drop]
     exact h4 _ _ (by omega)
    ·obtain⟨i,hi,rfl⟩:=List.getElem_of_mem hx
     rw [List.getElem_take]
     rw [List.length_take] at hi
     have hx1:=h3 i (by omega) (by omega)
     rcases List.mem_cons.1 hy with rfl|hy
     ·exact hx1
     ·obtain⟨j,hj,rfl⟩:=List.getElem_of_mem hy
      rw [List.getElem_drop]
      have:=h4 (a+j) (by rw [List.length_drop] at hj;omega) (by omega)
      omega
   ·rw [hk1]
    refine List.perm_middle.trans ?_
    rw [List.take_append_drop]
    exact(hpm.cons _).trans (List.perm_append_singleton _ _).symm
  generalize l[k]=x at *
  cases co with
  | none=>
   obtain rfl:=h3 rfl
   obtain⟨i1,i2⟩:=hins 0 (Nat.le_refl _) (fun j hj=>absurd hj (Nat.not_lt_zero _)) (fun j hj=>absurd hj (Nat.not_lt_zero _))
   have ih:=ih (k+1,[x],some 0) ⟨by dsimp only;omega,⟨i1,i2⟩,fun h=>by cases h⟩ (by dsimp only;omega)
   dsimp only at ih ⊢
   repeat' ((conv=>whnf);first
   | refine Yz ?_
    | (rw [hpk])
    | (rw [if_pos ⟨rfl,rfl⟩])
    | (refine zad.to ih rfl rfl)
    | (refine zad.step g.lim ?_)
    | (refine zki.mk ⟨rfl,by omega⟩ ?_)
    | (refine zki.mk ⟨rfl,by omega,rfl⟩ ?_)
    | (refine zpq.at 0 0 rfl rfl ⟨by omega,by omega⟩ ?_)
    | (refine zki.mk ⟨rfl,rfl,rfl,rfl,rfl,rfl,by dsimp only;omega,by first |omega|(dsimp only;omega)|decide⟩ ?_)
    | (refine zki.mk ⟨rfl,rfl,rfl,rfl,rfl,rfl,by decide,by decide⟩ ?_)
    | fail)
  | some c=>
   clear h3
   dsimp only
   have b1:Nat.beq c (c+1)=false:=yhj (by omega)
   have b2:Nat.beq (c+1) c=false:=yhj (by omega)
   have ih:=fun(a:Nat) (ha:a<=out.length) (h3:∀j,(hj:j<out.length)->j<a->out[j].mo<x.mo) (h4:∀j,(hj:j<out.length)->a<=j->x.mo<out[j].mo)=>ih (k+1,out.take a++x::out.drop a,some (c+1)) ⟨by dsimp only;omega,hins a ha h3 h4,fun h=>by cases h⟩ (by dsimp only;omega)
   clear hins hk1
   dsimp only at ih
   have hfo:=zbd Mvt.cells 7 Mvt.cells_length out
   repeat' ((conv=>whnf);first
   | refine Yz ?_
    | (rw [hpk])
    | (refine Nt _ (Nat.beq_refl _) ?_)
    | ((refine Nt _ ?_ ?_);focus ((repeat' (first |exact zz0 rfl|exact zz0 (Nat.beq_refl _)|((refine zzg ?h ?_);(case h=>first |rfl|assumption))));done))
    | (rw [if_pos ⟨rfl,rfl⟩])
    | (refine zki.mk ⟨rfl,by omega⟩ ?_)
    | fail)
   refine zad.to (zad.by (σ:=Nat) g (fun a=>a<=out.length/\∀j,(hj:j<out.length)->a<=j->x.mo<out[j].mo)
    (fun a=>[(5,.ref ⟨0,9,0⟩ 0 l.length l.length),(6,.ref ⟨0,38,c⟩ 0 out.length out.length),(7,I k),(8,I a)])
    (fun _=>[(⟨0,4,0⟩,.row false zaa 7 0 []),(⟨0,9,0⟩,.row false zaa 7 l.length (l.flatMap Mvt.cells)),(⟨0,6,0⟩,.row false zaa 7 0 []),(⟨0,38,c⟩,.row false zaa 7 out.length (out.flatMap Mvt.cells))]) (fun a=>a) ?_ out.length ⟨Nat.le_refl _,fun j hj h=>absurd hj (by omega)⟩) rfl rfl
   rintro a ⟨a1,a2⟩ iha
   have fin:(∀j,(hj:j<out.length)->j<a->out[j].mo<x.mo)->_:=fun h3=>ih a a1 h3 a2
   have hla:(out.take a).length=a:=by rw [List.length_take,Nat.min_eq_left a1]
   have hlb:(out.drop a).length=out.length-a:=List.length_drop
   have hwa:win (out.flatMap Mvt.cells) ((0+0)*7) ((a-0)*7)=(out.take a).flatMap Mvt.cells:=by
    have:=yat Mvt.cells 7 Mvt.cells_length out a a1
    rw [Nat.add_zero,Nat.zero_mul,Nat.sub_zero];exact this
   have hwb:win (out.flatMap Mvt.cells) ((0+a)*7) ((out.length-a)*7)=(out.drop a).flatMap Mvt.cells:=by
    unfold win
    rw [Nat.zero_add,zqc Mvt.cells 7 Mvt.cells_length]
    refine List.take_of_length_le ?_
    rw [zbd Mvt.cells 7 Mvt.cells_length,hlb]
    exact Nat.le_refl _
   have hla7:((out.take a).flatMap Mvt.cells).length=(a-0)*7:=by rw [zbd Mvt.cells 7 Mvt.cells_length,hla,Nat.sub_zero]
   have hlb7:((out.drop a).flatMap Mvt.cells).length=(out.length-a)*7:=by rw [zbd Mvt.cells 7 Mvt.cells_length,hlb]
   have hml2:(out.take a++x::out.drop a).length=out.length+1:=by
    rw [List.length_append,List.length_cons,hla,hlb];omega
   have hL:out.length+1=0+(a-0)+1+(out.length-a):=by omega
   rw [hml2] at fin
   simp only [List.flatMap_append,List.flatMap_cons] at fin
   clear ih
   cases a with
   | zero=>
    have fin2:=fin fun j hj h=>absurd h (Nat.not_lt_zero _)
    clear iha fin
    repeat' ((conv=>whnf);first
    | refine Yz ?_
     | (rw [hpk])
     | (refine Nt _ (Nat.beq_refl _) ?_)
     | (refine Nf _ b1 ?_)
     | (refine Nf _ b2 ?_)
     | ((refine Nt _ ?_ ?_);focus ((repeat' (first |exact zz0 rfl|exact zz0 (Nat.beq_refl _)|((refine zzg ?h ?_);(case h=>first |rfl|assumption))));done))
     | ((refine Nf _ ?_ ?_);focus ((repeat' (first |exact rfl|((refine zzg ?h ?_);(case h=>first |rfl|assumption))));done))
     | (refine zki.mk ⟨rfl,by omega,rfl⟩ ?_)
     | (refine zpq.at 0 0 rfl (by omega) ⟨Nat.zero_le _,a1⟩ ?_;rw [hwa])
     | (refine zpq.at 0 out.length (by omega) rfl ⟨a1,Nat.le_refl _⟩ ?_;rw [hwb])
     | (refine zki.mk ⟨rfl,rfl,rfl,rfl,rfl,by first |rfl|exact hla7|exact hlb7|omega,by dsimp only;omega,by first |omega|(dsimp only;omega)⟩ ?_)
     | (refine Chk.mk (by simp [yk0,Evl.get,Evl.ids]) ?_)
     | (refine zad.to fin2 ?_ ?_)
     | fail)
    ·rw [hL]
     rfl
    ·rw [hL]
     simp
   | succ b=>
    have hbo:b<out.length:=by omega
    have hpb:win (out.flatMap Mvt.cells) ((0+(((b+1:Nat):Int)-1).toNat)*7) 7=out[b].cells:=by
     have e:(((b+1:Nat):Int)-1).toNat=b:=by omega
     rw [Nat.zero_add,e];exact z3a Mvt.cells 7 Mvt.cells_length out b hbo
    have hbf:=ylo g x out[b] (fun e=>hne b hbo e.symm)
    by_cases hlb2:x.mo<out[b].mo
    ·rw [decide_eq_true hlb2] at hbf
     have iha:=iha b ⟨by omega,fun j hj hbj=>by
      by_cases e:j=b
      ·subst e;exact hlb2
      ·exact a2 j hj (by omega)⟩ (by omega)
     have e1:(((b+1:Nat):Int)-1)=b:=by omega
     clear fin
     repeat' ((conv=>whnf);first
     | refine Yz ?_
      | (rw [hpk])
      | (rw [hpb])
      | (refine zae.of hbf ?_)
      | (refine Nt _ (Nat.beq_refl _) ?_)
      | ((refine Nt _ ?_ ?_);focus ((repeat' (first |exact zz0 rfl|exact zz0 (Nat.beq_refl _)|((refine zzg ?h ?_);(case h=>first |rfl|assumption))));done))
      | (refine zad.to iha (by rw [<-e1]) rfl)
      | fail)
    ·rw [decide_eq_false hlb2] at hbf
     have hxb:=hne b hbo
     have fin2:=fin fun j hj hjb=>by
      by_cases e:j=b
      ·subst e;omega
      ·have:=List.pairwise_iff_getElem.1 hasc j b hj hbo (by omega)
       omega
     clear iha fin
     repeat' ((conv=>whnf);first
     | refine Yz ?_
      | (rw [hpk])
      | (rw [hpb])
      | (refine zae.of hbf ?_)
      | (refine Nt _ (Nat.beq_refl _) ?_)
      | (refine Nf _ b1 ?_)
      | (refine Nf _ b2 ?_)
      | ((refine Nt _ ?_ ?_);focus ((repeat' (first |exact zz0 rfl|exact zz0 (Nat.beq_refl _)|((refine zzg ?h ?_);(case h=>first |rfl|assumption))));done))
      | ((refine Nf _ ?_ ?_);focus ((repeat' (first |exact rfl|((refine zzg ?h ?_);(case h=>first |rfl|assumption))));done))
      | (refine zki.mk ⟨rfl,by omega,rfl⟩ ?_)
      | (refine zpq.at 0 (b+1) rfl (by omega) ⟨Nat.zero_le _,a1⟩ ?_;rw [hwa])
      | (refine zpq.at (b+1) out.length (by omega) rfl ⟨a1,Nat.le_refl _⟩ ?_;rw [hwb])
      | (refine zki.mk ⟨rfl,rfl,rfl,rfl,rfl,by first |rfl|exact hla7|exact hlb7|omega,by dsimp only;omega,by first |omega|(dsimp only;omega)⟩ ?_)
      | (refine Chk.mk (by simp [yk0,Evl.get,Evl.ids]) ?_)
      | (refine zad.to fin2 ?_ ?_)
      | fail)
     ·rw [hL]
      rfl
     ·rw [hL]
      simp
 ·have hk:k=l.length:=by omega
  subst hk
  rw [List.take_length] at hpm
  have hR:out=R:=by
   refine List.Perm.eq_of_pairwise (le:=fun a b=>a.mo<b.mo) (fun a b _ _ h1 h2=>absurd h1 (by omega)) hasc hs (hpm.trans hp.symm)
  subst hR
  cases co with
  | none=>
   obtain rfl:=h3 rfl
   repeat' ((conv=>whnf);first
   | refine Yz ?_
    | (refine zki.mk ⟨rfl,by omega⟩ ?_)
    | (refine Ret.mk ?_)
    | fail)
   all_goals simp
  | some c=>
   repeat' ((conv=>whnf);first
   | refine Yz ?_
    | (refine Nt _ (Nat.beq_refl _) ?_)
    | (refine zki.mk ⟨rfl,by omega⟩ ?_)
    | (refine Ret.mk ?_)
    | fail)
   all_goals simp
end
def z81 (l:Lmt) (ki te:List UInt8):Bool:=(decide (l.ki=[84])||decide (ki=l.ki))&&(decide (l.te=[])||decide (l.te=te))
def z1l (l:Lmt) (m:List Mvt):List Int:=(m.filter fun x=>z81 l x.ki x.te).map (·.mo)
def z5d (l:Lmt) (m:List Mvt) (b:Int):Int:=((z1l l m).filter fun x=>decide (b<=x/\x<b+l.le)).length
def ymn (l:Lmt) (ks:List (List UInt8×List UInt8)):List (D×V):=ks.map fun p=>(.agg [.str p.1,.str p.2],B (z81 l p.1 p.2))
theorem z9h (l:Lmt) (a b:List UInt8):∀ks:List (List UInt8×List UInt8),zg1 (.agg [.str a,.str b]) (ymn l ks)=some (if(a,b)∈ks then some (B (z81 l a b)) else none)
 | []=>rfl
 | (c,d)::r=>by
  have ih:=z9h l a b r
  unfold ymn at ih ⊢
  rw [List.map_cons,zg1]
  have e:eqD (.agg [.str a,.str b]) (.agg [.str c,.str d])=some (decide (a=c)&&decide (b=d)):=by
   simp only [eqD,eqL,Bool.and_true,Option.some.injEq]
   rw [Bool.beq_eq_decide_eq,Bool.beq_eq_decide_eq]
  rw [e]
  by_cases h:(a,b)=(c,d)
  ·obtain⟨rfl,rfl⟩:=Prod.mk.inj h
   simp
  ·have hf:(decide (a=c)&&decide (b=d))=false:=by
    rw [Bool.and_eq_false_iff,decide_eq_false_iff_not,decide_eq_false_iff_not]
    by_cases h1:a=c
    ·exact .inr fun h2=>h (by rw [h1,h2])
    ·exact .inl h1
   rw [hf]
   simp only [ih,List.mem_cons,h,false_or]
theorem ye5 (l:Lmt) (a b:List UInt8):∀ks:List (List UInt8×List UInt8),(a,b)∉ks->ztm (.agg [.str a,.str b]) (B (z81 l a b)) (ymn l ks)=some (ymn l (ks++[(a,b)]))
 | [],_=>rfl
 | (c,d)::r,hn=>by
  have ih:=ye5 l a b r fun hm=>hn (List.mem_cons_of_mem _ hm)
  have hne:(a,b)≠(c,d):=fun e=>hn (by simp [e])
  unfold ymn at ih ⊢
  rw [List.map_cons,ztm]
  have hf:eqD (.agg [.str a,.str b]) (.agg [.str c,.str d])=some false:=by
   simp only [eqD,eqL,Bool.and_true,Option.some.injEq,Bool.and_eq_false_iff,beq_eq_false_iff_ne,ne_eq]
   by_cases h1:a=c
   ·exact .inr fun h2=>hne (by rw [h1,h2])
   ·exact .inl h1
  simp only [hf,ih,Option.map_some,List.cons_append,List.map_cons]
theorem zxi (l:Lmt):∀ks:List (List UInt8×List UInt8),Evl.idsM (ymn l ks)=[]
 | []=>rfl
 | _::r=>by
  show []++Evl.idsM (ymn l r)=[]
  rw [zxi l r];rfl
section
variable {E : Oracle} (g : Good E)
include g
theorem yex (l:Lmt) (hk:yg5 l.ki=true) (ki te:List UInt8):Fc E zdj [Lmv l,S ki,S te] (B (z81 l ki te)):=by
 refine g.fn rfl rfl ?_
 have hk:l.ki=[65]\/l.ki=[68]\/l.ki=[84]:=by simpa [yg5,or_assoc] using hk
 have h65:l.ki=[65]->z81 l ki te=(decide (ki=[65])&&(decide (l.te=[])||decide (l.te=te))):=fun e=>by
  unfold z81;rw [e];simp
 have h68:l.ki=[68]->z81 l ki te=(decide (ki=[68])&&(decide (l.te=[])||decide (l.te=te))):=fun e=>by
  unfold z81;rw [e];simp
 have h84:l.ki=[84]->z81 l ki te=(decide (l.te=[])||decide (l.te=te)):=fun e=>by
  unfold z81;rw [e];simp
 rcases hk with hk|hk|hk
 ·rw [h65 hk]
  have hf:zg1 (.str l.ki) (ymk ⟨0,7,1⟩ ⟨0,7,2⟩)=some (some (yo3 ⟨0,7,1⟩)):=by rw [hk];rfl
  by_cases h1:ki=[65]
  all_goals by_cases h2:l.te=[]
  all_goals by_cases h3:l.te=te
  all_goals first |rw [decide_eq_true h1]|rw [decide_eq_false h1]
  all_goals first |rw [decide_eq_true h2]|rw [decide_eq_false h2]
  all_goals first |rw [decide_eq_true h3]|rw [decide_eq_false h3]
  all_goals repeat' ((conv=>whnf);first
  | refine Yz ?_
   | (refine zgx.cknds g rfl ?_)
   | (refine yc4.mk ⟨_,hf,?_⟩)
   | (refine In.enter (f:=zb0) g.lim rfl rfl ?_)
   | (refine Cmp.tt (by assumption) ?_)
   | (refine Cmp.ff (by assumption) ?_)
   | (refine Ret.mk rfl))
 ·rw [h68 hk]
  have hf:zg1 (.str l.ki) (ymk ⟨0,7,1⟩ ⟨0,7,2⟩)=some (some (yo3 ⟨0,7,2⟩)):=by rw [hk];rfl
  by_cases h1:ki=[68]
  all_goals by_cases h2:l.te=[]
  all_goals by_cases h3:l.te=te
  all_goals first |rw [decide_eq_true h1]|rw [decide_eq_false h1]
  all_goals first |rw [decide_eq_true h2]|rw [decide_eq_false h2]
  all_goals first |rw [decide_eq_true h3]|rw [decide_eq_false h3]
  all_goals repeat' ((conv=>whnf);first
  | refine Yz ?_
   | (refine zgx.cknds g rfl ?_)
   | (refine yc4.mk ⟨_,hf,?_⟩)
   | (refine In.enter (f:=zb0) g.lim rfl rfl ?_)
   | (refine Cmp.tt (by assumption) ?_)
   | (refine Cmp.ff (by assumption) ?_)
   | (refine Ret.mk rfl))
 ·rw [h84 hk]
  have hf:zg1 (.str l.ki) (ymk ⟨0,7,1⟩ ⟨0,7,2⟩)=some (some (.agg [.fn zep [] []])):=by rw [hk];rfl
  by_cases h2:l.te=[]
  all_goals by_cases h3:l.te=te
  all_goals first |rw [decide_eq_true h2]|rw [decide_eq_false h2]
  all_goals first |rw [decide_eq_true h3]|rw [decide_eq_false h3]
  all_goals repeat' ((conv=>whnf);first
  | refine Yz ?_
   | (refine zgx.cknds g rfl ?_)
   | (refine yc4.mk ⟨_,hf,?_⟩)
   | (refine In.enter (f:=zep) g.lim rfl rfl ?_)
   | (refine Cmp.tt (by assumption) ?_)
   | (refine Cmp.ff (by assumption) ?_)
   | (refine Ret.mk rfl))
theorem yqx (l:Lmt) (hk:yg5 l.ki=true) (m:List Mvt) (hm:m.length<=1000000):Fc E zf9 [Lmv l,LMv m] (LI (z1l l m)):=by
 refine g.fn rfl rfl ?_
 repeat' ((conv=>whnf);first
 | refine Yz ?_
  | fail)
 refine zad.to (zad.by (σ:=Nat×List (List UInt8×List UInt8)) g (fun u=>u.1<=m.length)
  (fun u=>[(2,.ptr ⟨0,2,0⟩ 0 0),(5,.ref ⟨0,5,0⟩ 0 (z1l l (m.take u.1)).length (z1l l (m.take u.1)).length),(6,.mp ⟨0,12,0⟩),(13,LMv m),(14,I m.length),(15,I u.1)])
  (fun u=>[(⟨0,2,0⟩,.cells zab [S l.nm,S l.ki,S l.te,I l.le,I l.st,I l.fr,I l.to,I l.pf,I l.pt,I l.pd,I l.mo]),(⟨0,4,0⟩,.row false za4 1 0 []),(⟨0,5,0⟩,.row false za4 1 (z1l l (m.take u.1)).length ((z1l l (m.take u.1)).map DI)),(⟨0,12,0⟩,.map (ymn l u.2))])
  (fun u=>m.length-u.1) ?_ (0,[]) (Nat.zero_le _)) rfl rfl
 rintro⟨k,ks⟩ h1 ih
 dsimp only at h1
 have hle:(z1l l (m.take k)).length<=1000000:=by
  unfold z1l
  rw [List.length_map]
  refine Nat.le_trans (List.length_filter_le _ _) ?_
  rw [List.length_take];omega
 by_cases hlt:k<m.length
 ·have hs:z1l l (m.take (k+1))=z1l l (m.take k)++if z81 l m[k].ki m[k].te=true then [m[k].mo] else []:=by
   unfold z1l
   rw [List.take_add_one,List.getElem?_eq_getElem hlt,List.filter_append,List.map_append]
   congr 1
   simp only [Option.toList_some,List.filter_cons,List.filter_nil]
   split<;>rfl
  have hf:=z9h l m[k].ki m[k].te ks
  have hset:=ye5 l m[k].ki m[k].te ks
  have hc:=yex g l hk m[k].ki m[k].te
  have hml:=fun ks'=>ih (k+1,ks') (by dsimp only;omega) (by dsimp only;omega)
  dsimp only at hml
  rw [hs] at hml
  generalize z1l l (m.take k)=A at *
  have hAl:(A.map DI).length=A.length*1:=by simp
  by_cases hin:(m[k].ki,m[k].te)∈ks
  ·rw [if_pos hin] at hf
   have ih:=hml ks
   cases hb:z81 l m[k].ki m[k].te with
   | true=>
    rw [hb] at hf ih
    rw [if_pos rfl] at ih
    repeat' ((conv=>whnf);first
    | refine Yz ?_
     | (refine zcz.rec Mvt.cells_length k rfl hlt ?_)
     | (refine yc4.mk ⟨_,hf,?_⟩)
     | (refine zki.mk (by simp;omega) ?_)
     | (simp only [Evl.idsAll,Evl.idsO,zxi,List.nil_append])
     | (refine zad.to ih ?_ ?_)
     | fail)
    ·simp only [List.length_append,List.length_singleton];rfl
    ·simp only [List.length_append,List.length_singleton,List.map_append];rfl
   | false=>
    rw [hb] at hf ih
    rw [if_neg (by decide),List.append_nil] at ih
    repeat' ((conv=>whnf);first
    | refine Yz ?_
     | (refine zcz.rec Mvt.cells_length k rfl hlt ?_)
     | (refine yc4.mk ⟨_,hf,?_⟩)
     | (simp only [Evl.idsAll,Evl.idsO,zxi,List.nil_append])
     | (refine zad.to ih rfl rfl)
     | fail)
  ·rw [if_neg hin] at hf
   replace hset:=hset hin
   have ih:=hml (ks++[(m[k].ki,m[k].te)])
   cases hb:z81 l m[k].ki m[k].te with
   | true=>
    rw [hb] at hc hset ih
    rw [if_pos rfl] at ih
    repeat' ((conv=>whnf);first
    | refine Yz ?_
     | (refine zcz.rec Mvt.cells_length k rfl hlt ?_)
     | (refine yc4.mk ⟨_,hf,?_⟩)
     | (refine zae.of hc ?_)
     | (refine yoq.mk ⟨_,hset,?_⟩)
     | (refine zki.mk (by simp;omega) ?_)
     | (simp only [Evl.idsAll,Evl.idsO,zxi,List.nil_append])
     | (refine zad.to ih ?_ ?_)
     | fail)
    ·simp only [List.length_append,List.length_singleton];rfl
    ·simp only [List.length_append,List.length_singleton,List.map_append];rfl
   | false=>
    rw [hb] at hc hset ih
    rw [if_neg (by decide),List.append_nil] at ih
    repeat' ((conv=>whnf);first
    | refine Yz ?_
     | (refine zcz.rec Mvt.cells_length k rfl hlt ?_)
     | (refine yc4.mk ⟨_,hf,?_⟩)
     | (refine zae.of hc ?_)
     | (refine yoq.mk ⟨_,hset,?_⟩)
     | (simp only [Evl.idsAll,Evl.idsO,zxi,List.nil_append])
     | (refine zad.to ih rfl rfl)
     | fail)
 ·have hk':k=m.length:=by omega
  subst hk'
  rw [List.take_length]
  repeat' ((conv=>whnf);first
  | refine Yz ?_
   | (refine Ret.mk ?_)
   | fail)
  simp
end
section
variable {E : Oracle} (g : Good E)
include g
theorem ylu (a:Int):Fc E zfo [I a] (B false):=by
 refine g.fn rfl rfl ?_
 repeat' ((conv=>whnf);first
 | refine Yz ?_
  | (refine Cmp.tt rfl ?_)
  | (refine Ret.mk rfl))
theorem yny (a b:Int):Fc E zpi [I a,I b] (B (decide (a<b))):=by
 refine g.fn rfl rfl ?_
 have h1:=ylu g a
 by_cases h:a<b
 ·rw [decide_eq_true h]
  repeat' ((conv=>whnf);first
  | refine Yz ?_
   | (refine zae.of h1 ?_)
   | (refine Ret.mk rfl))
 ·rw [decide_eq_false h]
  repeat' ((conv=>whnf);first
  | refine Yz ?_
   | (refine zae.of h1 ?_)
   | (refine Ret.mk rfl))
end
end Go.Proofs.YtjfnkgfhbplfaaaGreatDoor.Co
