/-
  OfficeCollects: what its law leans on, part 3.
-/
import Derived.Laws.RangeAny
import Derived.Lib.SplitLaws
import Derived.Test.YtmbofbehkalgkaaGreatDoorAwR
import Derived.Test.YtmbofbehkalgkaaGreatDoorEvX
import Derived.Test.YtmbofbehkalgkaaGreatDoorEvY
import Derived.Test.YtmbofbehkalgkaaGreatDoorRead
import Derived.Test.YtmbofbehkalgkaaGreatDoorSpBase
import Derived.Test.YtmbofbehkalgkaaGreatDoorOcb
namespace Go.Proofs.YtmbofbehkalgkaaGreatDoor.Co
open Go Go.Evl
set_option maxHeartbeats 32000000
set_option maxRecDepth 100000
def yfl (n:Nte):Bool:=decide (n.dk.length<=40)&&decide (n.tx.length<=120)
def yjl (l:List Nte) (n:Int):Bool:= !((decide (n<l.length)&&decide (l.length<=256))||decide (258<l.length))&&l.all yfl
theorem zss {dk:List UInt8} {nu:Int} {o:Nte}:∀ {cs:List Nte},zrq dk nu cs=some o->dk=o.dk/\nu=o.nu/\o∈cs
 | [],h=>by cases h
 | x::r,h=>by
  unfold zrq at h
  split at h
  ·rename_i c
   obtain rfl:=Option.some.inj h
   exact⟨c.1,c.2,List.mem_cons_self ..⟩
  ·obtain⟨a,b,c⟩:=zss h
   exact⟨a,b,List.mem_cons_of_mem _ c⟩
theorem z39 {dk:List UInt8} {nu:Int} {o n:Nte}:∀ {cs:List Nte},zrq dk nu cs=some o->zrq dk nu (cs++[n])=some o
 | [],h=>by cases h
 | x::r,h=>by
  rw [List.cons_append]
  unfold zrq at h ⊢
  split at h
  ·rename_i c;rw [if_pos c];exact h
  ·rename_i c;rw [if_neg c];exact z39 h
theorem z38 {n:Nte}:∀ {cs:List Nte},zrq n.dk n.nu cs=none->zrq n.dk n.nu (cs++[n])=some n
 | [],_=>by simp [zrq]
 | x::r,h=>by
  rw [List.cons_append]
  unfold zrq at h ⊢
  split at h
  ·cases h
  ·rename_i c;rw [if_neg c];exact z38 h
structure z5z (l:List Nte) (k:Nat) (cs:List Nte):Prop where
 got:∀j (h:j<l.length),j<k->zrq l[j].dk l[j].nu cs=some l[j]
 mem:∀o∈cs,∃j,∃h:j<l.length,j<k/\l[j]=o
theorem z5z.start (l:List Nte):z5z l 0 []:=⟨fun _ _ h=>absurd h (Nat.not_lt_zero _),fun _ h=>absurd h List.not_mem_nil⟩
theorem z5z.next {l:List Nte} {k:Nat} {cs:List Nte} (h:z5z l k cs) (hk:k<l.length) (hc:z5v cs l[k]=false):z5z l (k+1) (z52 cs l[k]):=by
 unfold z5v at hc
 unfold z52
 cases hg:zrq l[k].dk l[k].nu cs with
 | some o=>
  rw [hg] at hc
  simp only [Option.any_some,decide_eq_false_iff_not,ne_eq,Classical.not_not] at hc
  simp only [Option.isSome_some,if_true]
  refine⟨fun j hj hjk=> ?_,fun o ho=> ?_⟩
  ·by_cases e:j=k
   ·subst e;rw [hg,hc]
   ·exact h.got j hj (by omega)
  ·obtain⟨j,h1,h2,h3⟩:=h.mem o ho
   exact⟨j,h1,by omega,h3⟩
 | none=>
  simp only [Option.isSome_none,Bool.false_eq_true,if_false]
  refine⟨fun j hj hjk=> ?_,fun o ho=> ?_⟩
  ·by_cases e:j=k
   ·subst e;exact z38 hg
   ·exact z39 (h.got j hj (by omega))
  ·rcases List.mem_append.1 ho with ho|ho
   ·obtain⟨j,h1,h2,h3⟩:=h.mem o ho
    exact⟨j,h1,by omega,h3⟩
   ·rw [List.mem_singleton] at ho
    exact⟨k,hk,by omega,ho.symm⟩
def yle (l:List Nte) (j k:Nat) (hj:j<l.length) (hk:k<l.length):Prop:=l[j].dk=l[k].dk/\l[j].nu=l[k].nu/\l[j]≠l[k]
theorem z5z.con {l:List Nte} {k:Nat} {cs:List Nte} (h:z5z l k cs) (hk:k<l.length):z5v cs l[k]=true↔∃j,∃hj:j<l.length,j<k/\yle l j k hj hk:=by
 unfold z5v yle
 rw [Option.any_eq_true]
 constructor
 ·rintro⟨o,h1,h2⟩
  obtain⟨a,b,c⟩:=zss h1
  obtain⟨j,hj,hjk,rfl⟩:=h.mem o c
  exact⟨j,hj,hjk,a.symm,b.symm,by simpa using h2⟩
 ·rintro⟨j,hj,hjk,a,b,c⟩
  refine⟨l[j],?_,by simpa using c⟩
  rw [<-a,<-b]
  exact h.got j hj hjk
theorem Nte.ext4 {a b:Nte} (h:a.dk=b.dk/\a.nu=b.nu/\a.da=b.da/\a.tx=b.tx):a=b:=by
 cases a;cases b
 obtain⟨h1,h2,h3,h4⟩:=h
 simp only at h1 h2 h3 h4
 rw [h1,h2,h3,h4]
section
variable {E : Oracle} (g : Good E)
include g
theorem z78 (l:List Nte) (hl:l.length<=1048576):Fc E zeh [LNt l] (LNt l):=by
 refine g.fn rfl rfl ?_
 repeat' ((conv=>whnf);first
 | refine Yz ?_)
 refine zal.to (zal.up g (fun k=>[(3,.ref ⟨0,3,0⟩ 0 k k),(6,LNt l),(7,I l.length),(8,I k)])
  (fun k=>[(⟨0,2,0⟩,.row false zbv 4 0 []),(⟨0,3,0⟩,.row false zbv 4 k ((l.take k).flatMap Nte.cells))]) l.length (fun k hk ih=> ?_) 0 (Nat.zero_le _)) rfl rfl
 by_cases hlt:k<l.length
 ·have ih:=ih hlt
  have e:(l.take (k+1)).flatMap Nte.cells=(l.take k).flatMap Nte.cells++l[k].cells:=by
   rw [List.take_add_one,List.getElem?_eq_getElem hlt,List.flatMap_append]
   simp
  rw [e] at ih
  repeat' ((conv=>whnf);first
  | refine Yz ?_
   | (refine zgd.rec zh9 k rfl hlt ?_)
   | (refine zal.to ih rfl rfl)
   | fail)
 ·obtain rfl:k=l.length:=by omega
  clear ih
  rw [List.take_length]
  repeat' ((conv=>whnf);first
  | refine Yz ?_
   | (refine Ret.mk ?_)
   | fail)
  exact congrArg (fun z=>V.d (.list l.length z)) (if_pos ⟨rfl,rfl⟩)
theorem yed (l:List Nte) (hl:l.length<=1000000):Fc E zg1 [LNt l,LNt l] (B true):=by
 refine g.fn rfl rfl ?_
 repeat' ((conv=>whnf);first
 | refine Yz ?_
  | (refine Cmp.tt rfl ?_)
  | fail)
 refine zal.to (zal.up g (fun k=>[(0,LNt l),(1,LNt l),(5,I k)]) (fun _=>[]) l.length (fun k hk ih=> ?_) 0 (Nat.zero_le _)) rfl rfl
 by_cases hlt:k<l.length
 ·have ih:=ih hlt
  repeat' ((conv=>whnf);first
  | refine Yz ?_
   | (refine zgd.rec zh9 k rfl hlt ?_)
   | (refine Cmp.tt ⟨rfl,rfl,rfl,rfl⟩ ?_)
   | (refine zal.to ih rfl rfl)
   | fail)
 ·repeat' ((conv=>whnf);first
 | refine Yz ?_
   | (refine Ret.mk rfl)
   | fail)
theorem z7h (n:Nte):Fc E zjs [Ntv n] (I (zui n)):=by
 obtain⟨dk,nu,da,tx⟩:=n
 have h1:=ygj g dk
 have h2:=zyc g nu 1 999999999
 have h3:=zyc g da 0 99999
 have h4:=zyc g tx.length 1 80
 refine g.fn rfl rfl ?_
 cases hA:zdy dk
 ·have hc:zui ⟨dk,nu,da,tx⟩=8:=by simp [zui,zbi,hA]
  rw [hc]
  rw [hA] at h1
  repeat' ((conv=>whnf);first
  | refine Yz ?_
   | (apply za1.of;assumption)
   | (refine Ret.mk rfl)
   | fail)
 ·rw [hA] at h1
  by_cases hB:nu<1\/999999999<nu
  ·have hc:zui ⟨dk,nu,da,tx⟩=3:=by
    have:rng nu 1 999999999=3:=by unfold rng;rw [if_pos hB]
    simp [zui,zbi,hA,this]
   rw [hc]
   rw [decide_eq_true hB] at h2
   repeat' ((conv=>whnf);first
   | refine Yz ?_
    | (apply za1.of;assumption)
    | (refine Ret.mk rfl)
    | fail)
  ·have e2:rng nu 1 999999999=0:=by unfold rng;rw [if_neg hB]
   rw [decide_eq_false hB] at h2
   by_cases hC:da<0\/99999<da
   ·have hc:zui ⟨dk,nu,da,tx⟩=3:=by
     have:rng da 0 99999=3:=by unfold rng;rw [if_pos hC]
     simp [zui,zbi,hA,e2,this]
    rw [hc]
    rw [decide_eq_true hC] at h3
    repeat' ((conv=>whnf);first
    | refine Yz ?_
     | (apply za1.of;assumption)
     | (refine Ret.mk rfl)
     | fail)
   ·have e3:rng da 0 99999=0:=by unfold rng;rw [if_neg hC]
    rw [decide_eq_false hC] at h3
    by_cases hD:(tx.length:Int)<1\/80<(tx.length:Int)
    ·have hc:zui ⟨dk,nu,da,tx⟩=1:=by
      have:tx=[]\/80<tx.length\/tx.any zyq=true:=by
       rcases hD with h|h
       ·exact .inl (List.length_eq_zero_iff.1 (by omega))
       ·exact .inr (.inl (by omega))
      simp only [zui,zbi,hA,e2,e3,if_pos this]
      decide
     rw [hc]
     rw [decide_eq_true hD] at h4
     repeat' ((conv=>whnf);first
     | refine Yz ?_
      | (apply za1.of;assumption)
      | (refine Ret.mk rfl)
      | fail)
    ·rw [decide_eq_false hD] at h4
     have hc:zui ⟨dk,nu,da,tx⟩=if tx.any zyq=true then 1 else 0:=by
      have h5:tx≠[]:=fun h=>hD (.inl (by rw [h];decide))
      have h6:¬ 80<tx.length:=by omega
      simp only [zui,zbi,hA,e2,e3,h5,h6,false_or,Bool.not_true,Bool.false_eq_true,if_false]
      cases tx.any zyq<;>simp
     rw [hc]
     repeat' ((conv=>whnf);first
     | refine Yz ?_
      | (apply za1.of;assumption)
      | fail)
     refine zal.to (zal.upP g (fun k=>[(1,.ptr ⟨0,1,0⟩ 0 0),(3,I k)]) (fun _=>[(⟨0,1,0⟩,.cells zbv [S dk,I nu,I da,S tx])]) (fun k=>(tx.take k).any zyq=false) tx.length (fun k hk hP ih=> ?_) 0 (Nat.zero_le _) rfl) rfl rfl
     by_cases hlt:k<tx.length
     ·have hb:=tx[k].toNat_lt
      have e:(tx.take (k+1)).any zyq=((tx.take k).any zyq||zyq tx[k]):=by
       rw [List.take_add_one,List.getElem?_eq_getElem hlt,List.any_append]
       simp
      by_cases ho:zyq tx[k]=true
      ·have hall:tx.any zyq=true:=List.any_eq_true.2 ⟨_,List.getElem_mem hlt,ho⟩
       rw [hall]
       have ho':tx[k].toNat<32\/126<tx[k].toNat:=by simpa [zyq] using ho
       rcases ho' with ho'|ho'
       all_goals
        repeat' ((conv=>whnf);first
        | refine Yz ?_
         | (refine z50.mk ⟨_,List.getElem?_eq_getElem hlt,?_⟩)
         | (refine Ret.mk rfl)
         | fail)
      ·have ho':¬(tx[k].toNat<32\/126<tx[k].toNat):=by simpa [zyq] using ho
       have ih:=ih hlt (by rw [e,hP];simpa using ho)
       repeat' ((conv=>whnf);first
       | refine Yz ?_
        | (refine z50.mk ⟨_,List.getElem?_eq_getElem hlt,?_⟩)
        | (refine zal.to ih rfl rfl)
        | fail)
     ·obtain rfl:k=tx.length:=by omega
      rw [List.take_length] at hP
      rw [hP]
      repeat' ((conv=>whnf);first
      | refine Yz ?_
       | (refine Ret.mk rfl)
       | fail)
theorem z90 (l:List Nte) (n:Int):Fc E zit [LNt l,I n] (B (yjl l n)):=by
 refine g.fn rfl rfl ?_
 unfold yjl
 by_cases h1:n<l.length/\l.length<=256
 ·rw [decide_eq_true h1.1,decide_eq_true h1.2]
  repeat' ((conv=>whnf);first
  | refine Yz ?_
   | (refine Ret.mk rfl)
   | fail)
 ·have e1:(decide (n<(l.length:Int))&&decide (l.length<=256))=false:=by
   rw [Bool.and_eq_false_iff,decide_eq_false_iff_not,decide_eq_false_iff_not]
   omega
  rw [e1]
  by_cases h2:258<l.length
  ·rw [decide_eq_true h2]
   repeat' ((conv=>whnf);first
   | refine Yz ?_
    | (refine Cmp.mk (fun h=> ?_) (fun h=> ?_))|(refine Rem.any (by omega) (fun r hr he=> ?_))|(refine Br.mk (fun h=> ?_) (fun h=> ?_))
    | (refine Ret.mk rfl)
    | fail)
  ·rw [decide_eq_false h2]
   generalize hR:l.all yfl=R
   repeat' ((conv=>whnf);first
   | refine Yz ?_
    | (refine Cmp.mk (fun h=> ?_) (fun h=> ?_))|(refine Rem.any (by omega) (fun r hr he=> ?_))|(refine Br.mk (fun h=> ?_) (fun h=> ?_))
    | (exfalso;omega)
    | fail)
   all_goals
    refine zal.to (zal.upP g (fun k=>[(0,LNt l),(5,I k)]) (fun _=>[]) (fun k=>(l.take k).all yfl=true) l.length (fun k hk hP ih=> ?_) 0 (Nat.zero_le _) rfl) rfl rfl
    by_cases hlt:k<l.length
    ·have e:(l.take (k+1)).all yfl=((l.take k).all yfl&&yfl l[k]):=by
      rw [List.take_add_one,List.getElem?_eq_getElem hlt,List.all_append]
      simp
     by_cases hs:yfl l[k]=true
     ·have ih:=ih hlt (by rw [e,hP,hs];rfl)
      have hs':l[k].dk.length<=40/\l[k].tx.length<=120:=by simpa [yfl] using hs
      repeat' ((conv=>whnf);first
      | refine Yz ?_
       | (refine ziz.rec zh9 k rfl hlt rfl ?_)
       | (refine ziz.rec0 zh9 k rfl hlt rfl ?_)
       | (refine zal.to ih rfl rfl)
       | fail)
     ·have hR':R=false:=by
       rw [<-hR]
       cases h:l.all yfl with
       | false=>rfl
       | true=>exact absurd (List.all_eq_true.1 h _ (List.getElem_mem hlt)) hs
      subst hR'
      have hs':¬(l[k].dk.length<=40/\l[k].tx.length<=120):=by simpa [yfl] using hs
      repeat' ((conv=>whnf);first
      | refine Yz ?_
       | (refine ziz.rec zh9 k rfl hlt rfl ?_)
       | (refine ziz.rec0 zh9 k rfl hlt rfl ?_)
       | (refine Cmp.mk (fun h=> ?_) (fun h=> ?_))|(refine Rem.any (by omega) (fun r hr he=> ?_))|(refine Br.mk (fun h=> ?_) (fun h=> ?_))
       | (refine Ret.mk rfl)
       | (exfalso;omega)
       | fail)
    ·obtain rfl:k=l.length:=by omega
     rw [List.take_length,hR] at hP
     subst hP
     repeat' ((conv=>whnf);first
     | refine Yz ?_
      | (refine Ret.mk rfl)
      | fail)
theorem z9z (l:List Nte) (hl:l.length<=1048576):Fc E zis [LNt l] (I (ze8 l)):=by
 refine g.fn rfl rfl ?_
 by_cases hn:256<l.length
 ·have hc:ze8 l=5:=by unfold ze8;rw [if_pos hn]
  rw [hc]
  repeat' ((conv=>whnf);first
  | refine Yz ?_
   | (refine Ret.mk rfl)
   | fail)
 ·have hc:ze8 l=z5w [] l:=by unfold ze8;rw [if_neg hn]
  rw [hc]
  generalize hT:z5w [] l=T
  repeat' ((conv=>whnf);first
  | refine Yz ?_
   | fail)
  refine zal.to (zal.upP g (fun k=>[(0,LNt l),(3,I k)]) (fun _=>[]) (fun k=>z5w (zef (l.take k)) (l.drop k)=T/\z5z l k (zef (l.take k))) l.length (fun k hk hP ih=> ?_) 0 (Nat.zero_le _) ⟨hT,z5z.start l⟩) rfl rfl
  obtain⟨hP,hI⟩:=hP
  by_cases hlt:k<l.length
  ·have ih:=ih hlt
   have h1:=z7h g l[k]
   rw [z3s l k hlt] at ih
   rw [List.drop_eq_getElem_cons hlt] at hP
   unfold z5w at hP
   generalize zef (l.take k)=cs at *
   have hcn:z8l cs l[k]=zbi [zui l[k],if z5v cs l[k]=true then 29 else 0]:=rfl
   by_cases hz:zui l[k]=0
   ·rw [hz] at h1
    rw [hz] at hcn
    repeat' ((conv=>whnf);first
    | refine Yz ?_
     | (apply za1.of;assumption)
     | (refine zgd.rec zh9 k rfl hlt ?_)
     | fail)
    refine zal.to (zal.upP g (fun j=>[(0,LNt l),(3,I k),(5,I j)]) (fun _=>[]) (fun j=>∀i (h:i<l.length),i<j->¬yle l i k h hlt) k (fun j hj hQ ih2=> ?_) 0 (Nat.zero_le _) (fun _ _ h=>absurd h (Nat.not_lt_zero _))) rfl rfl
    by_cases hj2:j<k
    ·have hjl:j<l.length:=by omega
     have ih2:=ih2 hj2
     by_cases hcon:yle l j k hjl hlt
     ·have hcf:z5v cs l[k]=true:=(hI.con hlt).2 ⟨j,hjl,hj2,hcon⟩
      rw [hcf] at hcn
      have hcn:z8l cs l[k]=29:=by rw [hcn];decide
      rw [hcn,if_neg (by decide)] at hP
      rw [<-hP]
      obtain⟨c1,c2,c3⟩:=hcon
      have c4:¬(l[j].dk=l[k].dk/\l[j].nu=l[k].nu/\l[j].da=l[k].da/\l[j].tx=l[k].tx):=fun h=>c3 (Nte.ext4 h)
      repeat' ((conv=>whnf);first
      | refine Yz ?_
       | (refine ziz.rec zh9 j rfl hjl rfl ?_)
       | (refine ziz.rec zh9 k rfl hlt rfl ?_)
       | (refine zgd.rec zh9 j rfl hjl ?_)
       | (refine zgd.rec zh9 k rfl hlt ?_)
       | (refine Cmp.tt c1 ?_)
       | (refine Cmp.tt c2 ?_)
       | (refine Cmp.ff c4 ?_)
       | (refine Ret.mk rfl)
       | fail)
     ·have ih2:=ih2 (fun i h hi=>by
       by_cases e:i=j
       ·subst e;exact hcon
       ·exact hQ i h (by omega))
      by_cases c1:l[j].dk=l[k].dk
      ·by_cases c2:l[j].nu=l[k].nu
       ·have c4:l[j].dk=l[k].dk/\l[j].nu=l[k].nu/\l[j].da=l[k].da/\l[j].tx=l[k].tx:=by
         have:l[j]=l[k]:=Classical.not_not.1 fun h=>hcon ⟨c1,c2,h⟩
         rw [this];exact⟨rfl,rfl,rfl,rfl⟩
        repeat' ((conv=>whnf);first
        | refine Yz ?_
         | (refine ziz.rec zh9 j rfl hjl rfl ?_)
         | (refine ziz.rec zh9 k rfl hlt rfl ?_)
         | (refine zgd.rec zh9 j rfl hjl ?_)
         | (refine zgd.rec zh9 k rfl hlt ?_)
         | (refine Cmp.tt c1 ?_)
         | (refine Cmp.tt c2 ?_)
         | (refine Cmp.tt c4 ?_)
         | (refine zal.to ih2 rfl rfl)
         | fail)
       ·repeat' ((conv=>whnf);first
       | refine Yz ?_
         | (refine ziz.rec zh9 j rfl hjl rfl ?_)
         | (refine ziz.rec zh9 k rfl hlt rfl ?_)
         | (refine Cmp.tt c1 ?_)
         | (refine Cmp.ff c2 ?_)
         | (refine zal.to ih2 rfl rfl)
         | fail)
      ·repeat' ((conv=>whnf);first
      | refine Yz ?_
        | (refine ziz.rec zh9 j rfl hjl rfl ?_)
        | (refine ziz.rec zh9 k rfl hlt rfl ?_)
        | (refine Cmp.ff c1 ?_)
        | (refine zal.to ih2 rfl rfl)
        | fail)
    ·obtain rfl:j=k:=by omega
     clear ih2
     have hcf:z5v cs l[j]=false:=by
      cases h:z5v cs l[j] with
      | false=>rfl
      | true=>
       obtain⟨i,hi,hij,hcon⟩:=(hI.con hlt).1 h
       exact absurd hcon (hQ i hi hij)
     rw [hcf] at hcn
     have hcn:z8l cs l[j]=0:=by rw [hcn];decide
     rw [if_pos hcn] at hP
     have ih:=ih ⟨hP,hI.next hlt hcf⟩
     repeat' ((conv=>whnf);first
     | refine Yz ?_
      | (refine zal.to ih rfl rfl)
      | fail)
   ·have hcz:z8l cs l[k]=zui l[k]:=by
     rw [hcn]
     unfold zbi
     rw [if_neg hz]
    rw [hcz,if_neg hz] at hP
    rw [<-hP]
    repeat' ((conv=>whnf);first
    | refine Yz ?_
     | (apply za1.of;assumption)
     | (refine zgd.rec zh9 k rfl hlt ?_)
     | (refine Cmp.tt hz ?_)
     | (refine Ret.mk rfl)
     | fail)
  ·obtain rfl:k=l.length:=by omega
   rw [List.drop_length] at hP
   have hz:T=0:=hP.symm
   subst hz
   repeat' ((conv=>whnf);first
   | refine Yz ?_
    | (refine Ret.mk rfl)
    | fail)
end
section
variable {E : Oracle} (g : Good E)
include g
theorem z99 (a:List UInt8):Fc E zf4 [S a] (B false):=by
 refine g.fn rfl rfl ?_
 repeat' ((conv=>whnf);first
 | refine Yz ?_
  | (refine Cmp.tt rfl ?_)
  | (refine Ret.mk rfl))
theorem z98 (a:Int):Fc E zir [I a] (B false):=by
 refine g.fn rfl rfl ?_
 repeat' ((conv=>whnf);first
 | refine Yz ?_
  | (refine Cmp.tt rfl ?_)
  | (refine Ret.mk rfl))
end
def yb1 (l:List Int) (i j:Nat):List Int:=(l.set i (l.getD j 0)).set j (l.getD i 0)
def idL (n:Nat):List Int:=(List.range n).map fun(i:Nat)=>(i:Int)
theorem zzw (n:Nat):(idL n).length=n:=by simp [idL]
theorem z5o (l:List Int) (i j:Nat):(yb1 l i j).length=l.length:=by simp [yb1]
theorem zjv (l:List Int) (i k:Nat) (v:Int) (h:i<l.length):(l.set i v).getD k 0=if i=k then v else l.getD k 0:=by
 simp only [List.getD,List.getElem?_set]
 split
 ·subst_vars;simp
 ·rfl
theorem ya1 (l:List Int) (i j k:Nat) (hi:i<l.length) (hj:j<l.length):(yb1 l i j).getD k 0=if j=k then l.getD i 0 else if i=k then l.getD j 0 else l.getD k 0:=by
 unfold yb1
 rw [zjv _ _ _ _ (by simpa using hj),zjv _ _ _ _ hi]
structure Ord (n:Nat) (l:List Int):Prop where
 len:l.length=n
 rng:∀k,k<n->0<=l.getD k 0/\l.getD k 0<n
 inj:∀i j,i<n->j<n->l.getD i 0=l.getD j 0->i=j
theorem Ord.swap {n:Nat} {l:List Int} (h:Ord n l) {i j:Nat} (hi:i<n) (hj:j<n):Ord n (yb1 l i j):=by
 have hl:=h.len
 have e:∀k,(yb1 l i j).getD k 0=l.getD (if j=k then i else if i=k then j else k) 0:=fun k=>by
  rw [ya1 l i j k (by omega) (by omega)]
  split
  ·rfl
  ·split<;>rfl
 refine⟨by rw [z5o];exact hl,fun k hk=> ?_,fun a b ha hb hab=> ?_⟩
 ·rw [e]
  refine h.rng _ ?_
  split
  ·exact hi
  ·split
   ·exact hj
   ·exact hk
 ·rw [e,e] at hab
  have:=h.inj _ _ (by split;exact hi;split;exact hj;exact ha) (by split;exact hi;split;exact hj;exact hb) hab
  split at this<;>split at this<;>(try split at this)<;>(try split at this)<;>omega
theorem Ord.id (n:Nat):Ord n (idL n):=by
 have e:∀k,k<n->(idL n).getD k 0=k:=fun k hk=>by simp [idL,List.getD,hk]
 refine⟨zzw n,fun k hk=> ?_,fun i j hi hj h=> ?_⟩
 ·rw [e k hk];omega
 ·rw [e i hi,e j hj] at h;omega
structure Tot (n:Nat) (lt:Int->Int->Bool):Prop where
 irr:∀a:Int,lt a a=false
 tr:∀a b c:Int,a∈idL n->b∈idL n->c∈idL n->lt a b=true->lt b c=true->lt a c=true
 tot:∀a b:Int,a∈idL n->b∈idL n->a≠b->lt a b=false->lt b a=true
structure Srt (n:Nat) (lt:Int->Int->Bool) (l:List Int):Prop where
 pm:l.Perm (idL n)
 up:l.Pairwise fun a b=>lt a b=true
theorem Srt.len {n:Nat} {lt:Int->Int->Bool} {l:List Int} (h:Srt n lt l):l.length=n:=by
 rw [h.pm.length_eq,zzw]
theorem Srt.mem {n:Nat} {lt:Int->Int->Bool} {l:List Int} (h:Srt n lt l) {k:Nat} (hk:k<l.length):l[k]∈idL n:=h.pm.mem_iff.1 (List.getElem_mem hk)
structure Ins (lt:Int->Int->Bool) (s:List Int) (x:Int) (p q:List Int):Prop where
 eq:p++q=s
 lo:∀y∈q,lt x y=true
theorem Ins.start {lt:Int->Int->Bool} (s:List Int) (x:Int):Ins lt s x s []:=⟨by simp,by simp⟩
theorem Ins.step {lt:Int->Int->Bool} {s p q:List Int} {x y:Int} (h:Ins lt s x (p++[y]) q) (hy:lt x y=true):Ins lt s x p (y::q):=by
 refine⟨by rw [<-h.eq];simp,fun z hz=> ?_⟩
 rcases List.mem_cons.1 hz with rfl|hz
 ·exact hy
 ·exact h.lo z hz
theorem Ins.done {n:Nat} {lt:Int->Int->Bool} {s p q:List Int} {x:Int} (t:Tot n lt) (hs:s.Pairwise fun a b=>lt a b=true) (hm:∀y∈s,y∈idL n) (hx:x∈idL n) (hn:x∉s) (h:Ins lt s x p q)
  (he:p=[]\/∃p' y,p=p'++[y]/\lt x y=false):(p++x::q).Pairwise fun a b=>lt a b=true:=by
 obtain⟨rfl,lo⟩:=h
 have h0:=List.pairwise_append.1 hs
 refine List.pairwise_append.2 ⟨h0.1,List.pairwise_cons.2 ⟨lo,h0.2.1⟩,fun a ha b hb=> ?_⟩
 rcases List.mem_cons.1 hb with rfl|hb
 ·rcases he with rfl|⟨p',y,rfl,hy⟩
  ·cases ha
  ·have hym:y∈idL n:=hm y (by simp)
   have hyx:lt y b=true:=t.tot b y hx hym (fun e=>hn (by subst e;simp)) hy
   rcases List.mem_append.1 ha with ha|ha
   ·have hay:lt a y=true:=(List.pairwise_append.1 h0.1).2.2 a ha y (by simp)
    exact t.tr a y b (hm a (by simp [ha])) hym hx hay hyx
   ·rw [List.mem_singleton.1 ha]
    exact hyx
 ·exact h0.2.2 a ha b hb
theorem zes:∀s:List UInt8,zaq s s=false
 | []=>rfl
 | a::r=>by simp [zaq,zes r]
theorem zpp {a b:UInt8} {x y:List UInt8}:zaq (a::x) (b::y)=true↔a<b\/(a=b/\zaq x y=true):=by
 simp [zaq]
theorem zix:∀ {a b c:List UInt8},zaq a b=true->zaq b c=true->zaq a c=true
 | _,_,[],_,h=>by simp [zaq] at h
 | _,[],_::_,h,_=>by simp [zaq] at h
 | [],_::_,_::_,_,_=>rfl
 | x::a,y::b,z::c,h1,h2=>by
  rw [zpp] at h1 h2 ⊢
  rcases h1 with h1|⟨rfl,h1⟩
  ·rcases h2 with h2|⟨rfl,_⟩
   ·exact .inl (UInt8.lt_trans h1 h2)
   ·exact .inl h1
  ·rcases h2 with h2|⟨rfl,h2⟩
   ·exact .inl h2
   ·exact .inr ⟨rfl,zix h1 h2⟩
theorem zym:∀ {a b:List UInt8},a≠b->zaq a b=false->zaq b a=true
 | [],[],h,_=>absurd rfl h
 | [],_::_,_,h=>by simp [zaq] at h
 | _::_,[],_,_=>rfl
 | x::a,y::b,h,h2=>by
  rw [zpp]
  have hn:¬(x<y\/(x=y/\zaq a b=true)):=fun hc=>by rw [zpp.2 hc] at h2;cases h2
  by_cases e:x=y
  ·subst e
   refine .inr ⟨rfl,zym (fun hc=>h (by rw [hc])) ?_⟩
   cases hc:zaq a b with
   | false=>rfl
   | true=>exact absurd (.inr ⟨rfl,hc⟩) hn
  ·left
   have h3:¬x<y:=fun hc=>hn (.inl hc)
   rcases UInt8.lt_or_lt_of_ne e with h4|h4
   ·exact absurd h4 h3
   ·exact h4
def z8o (a b:List UInt8):Int:=if zaq a b=true then -1 else if a=b then 0 else 1
theorem yh9 (a b:List UInt8):z8o a b<0↔zaq a b=true:=by
 unfold z8o
 split
 ·simp [*]
 ·split<;>simp [*,zes]
def z2z (a b:Int):Int:=if a<b then -1 else if b<a then 1 else 0
theorem Wr.u64 {x:Int} {K:Int->Prop} (k:K x) (h:0<=x/\x<=1000000:=by omega):Wr .u64 x K:=⟨by
 have:IntKind.u64.wrap x=x:=by
  simp only [IntKind.wrap,IntKind.signed,IntKind.bits]
  simp
  omega
 rw [this]
 exact k⟩
section
variable {E : Oracle} (g : Good E)
include g
theorem ykx (a b:List UInt8):Fc E zhc [S a,S b] (I (z8o a b)):=by
 have h1:=z99 g a
 have h2:=z99 g b
 refine g.fn rfl rfl ?_
 unfold z8o
 by_cases h:a=b
 ·subst h
  have hu:=zes a
  have he:(a==a)=true:=beq_self_eq_true a
  rw [hu,if_neg (by decide),if_pos rfl]
  repeat' ((conv=>whnf);first
  | refine Yz ?_
   | (apply za1.of;assumption)
   | (rw [hu])
   | (rw [he])
   | (refine Ret.mk rfl))
 ·have he:(a==b)=false:=beq_eq_false_iff_ne.2 h
  rw [if_neg h]
  cases hu:zaq a b
  ·rw [if_neg (by decide)]
   repeat' ((conv=>whnf);first
   | refine Yz ?_
    | (apply za1.of;assumption)
    | (rw [hu])
    | (rw [he])
    | (refine Ret.mk rfl))
  ·rw [if_pos rfl]
   repeat' ((conv=>whnf);first
   | refine Yz ?_
    | (apply za1.of;assumption)
    | (rw [hu])
    | (refine Ret.mk rfl))
theorem yht (a b:Int):Fc E zg0 [I a,I b] (I (z2z a b)):=by
 have h1:=z98 g a
 have h2:=z98 g b
 refine g.fn rfl rfl ?_
 unfold z2z
 rcases Int.lt_trichotomy a b with h|h|h
 ·rw [if_pos h]
  repeat' ((conv=>whnf);first
  | refine Yz ?_
   | (apply za1.of;assumption)
   | (refine Ret.mk rfl))
 ·rw [if_neg (by omega),if_neg (by omega)]
  repeat' ((conv=>whnf);first
  | refine Yz ?_
   | (apply za1.of;assumption)
   | (refine Ret.mk rfl))
 ·rw [if_neg (by omega),if_pos h]
  repeat' ((conv=>whnf);first
  | refine Yz ?_
   | (apply za1.of;assumption)
   | (refine Ret.mk rfl))
theorem yky:∀n:Nat,n<=12->∃r,Fc E zlm [.d (.int .u64 n)] (I r)
 | 0,_=>⟨0,g.compR 100 (by decide+kernel)⟩
 | 1,_=>⟨1,g.compR 100 (by decide+kernel)⟩
 | 2,_=>⟨2,g.compR 100 (by decide+kernel)⟩
 | 3,_=>⟨2,g.compR 100 (by decide+kernel)⟩
 | 4,_=>⟨3,g.compR 100 (by decide+kernel)⟩
 | 5,_=>⟨3,g.compR 100 (by decide+kernel)⟩
 | 6,_=>⟨3,g.compR 100 (by decide+kernel)⟩
 | 7,_=>⟨3,g.compR 100 (by decide+kernel)⟩
 | 8,_=>⟨4,g.compR 100 (by decide+kernel)⟩
 | 9,_=>⟨4,g.compR 100 (by decide+kernel)⟩
 | 10,_=>⟨4,g.compR 100 (by decide+kernel)⟩
 | 11,_=>⟨4,g.compR 100 (by decide+kernel)⟩
 | 12,_=>⟨4,g.compR 100 (by decide+kernel)⟩
 | n+13,h=>absurd h (by omega)
end
structure ymj {α:Type} (S:List α) (lt:α->α->Bool):Prop where
 irr:∀a,lt a a=false
 tr:∀a b c,lt a b=true->lt b c=true->lt a c=true
 tot:∀a b,a∈S->b∈S->a≠b->lt a b=false->lt b a=true
structure yfn {α:Type} (lt:α->α->Bool) (s:List α) (x:α) (p q:List α):Prop where
 eq:p++q=s
 lo:∀y∈q,lt x y=true
theorem yfn.start {α:Type} {lt:α->α->Bool} (s:List α) (x:α):yfn lt s x s []:=⟨by simp,by simp⟩
theorem yfn.step {α:Type} {lt:α->α->Bool} {s p q:List α} {x y:α} (h:yfn lt s x (p++[y]) q) (hy:lt x y=true):yfn lt s x p (y::q):=by
 refine⟨by rw [<-h.eq];simp,fun z hz=> ?_⟩
 rcases List.mem_cons.1 hz with rfl|hz
 ·exact hy
 ·exact h.lo z hz
theorem yfn.done {α:Type} {S:List α} {lt:α->α->Bool} {s p q:List α} {x:α} (t:ymj S lt) (hs:s.Pairwise fun a b=>lt a b=true) (hm:∀y∈s,y∈S) (hx:x∈S) (hn:x∉s) (h:yfn lt s x p q)
  (he:p=[]\/∃p' y,p=p'++[y]/\lt x y=false):(p++x::q).Pairwise fun a b=>lt a b=true:=by
 obtain⟨rfl,lo⟩:=h
 have h0:=List.pairwise_append.1 hs
 refine List.pairwise_append.2 ⟨h0.1,List.pairwise_cons.2 ⟨lo,h0.2.1⟩,fun a ha b hb=> ?_⟩
 rcases List.mem_cons.1 hb with rfl|hb
 ·rcases he with rfl|⟨p',y,rfl,hy⟩
  ·cases ha
  ·have hyx:lt y b=true:=t.tot b y hx (hm y (by simp)) (fun e=>hn (by rw [e];simp)) hy
   rcases List.mem_append.1 ha with ha|ha
   ·exact t.tr a y b ((List.pairwise_append.1 h0.1).2.2 a ha y (by simp)) hyx
   ·rw [List.mem_singleton] at ha
    subst ha
    exact hyx
 ·exact h0.2.2 a ha b hb
theorem yai {α:Type} {lt:α->α->Bool} (irr:∀a,lt a a=false) (tr:∀a b c,lt a b=true->lt b c=true->lt a c=true):∀ {a b:List α},a.Perm b->(a.Pairwise fun x y=>lt x y=true)->(b.Pairwise fun x y=>lt x y=true)->a=b
 | [],b,h,_,_=>by
  have:=h.length_eq
  cases b with
  | nil=>rfl
  | cons _ _=>simp at this
 | x::a,[],h,_,_=>by
  have:=h.length_eq
  simp at this
 | x::a,y::b,h,ha,hb=>by
  have hxy:x=y:=by
   have h1:x∈y::b:=h.mem_iff.1 (by simp)
   have h2:y∈x::a:=h.mem_iff.2 (by simp)
   rcases List.mem_cons.1 h1 with e|h1
   ·exact e
   ·rcases List.mem_cons.1 h2 with e|h2
    ·exact e.symm
    ·have l1:=(List.pairwise_cons.1 ha).1 y h2
     have l2:=(List.pairwise_cons.1 hb).1 x h1
     have:=tr x y x l1 l2
     rw [irr] at this
     cases this
  subst hxy
  rw [yai irr tr (List.Perm.cons_inv h) (List.pairwise_cons.1 ha).2 (List.pairwise_cons.1 hb).2]
def ylc (a b:Nte):Int:=if z2z a.da b.da≠0 then z2z a.da b.da else if z8o a.dk b.dk≠0 then z8o a.dk b.dk else z2z a.nu b.nu
def ztp (a b:Nte):Bool:=decide (ylc a b<0)
theorem ycu (a b:Int):z2z a b<0↔a<b:=by
 unfold z2z
 repeat' split
 all_goals omega
theorem z3m (a b:Int):z2z a b=0↔a=b:=by
 unfold z2z
 repeat' split
 all_goals omega
theorem z3n (a b:List UInt8):z8o a b=0↔a=b:=by
 unfold z8o
 split
 ·rename_i h
  constructor
  ·intro h;exact absurd h (by decide)
  ·intro e
   rw [e,zes] at h
   cases h
 ·split<;>simp [*]
theorem zx2 (a b:Nte):ztp a b=true↔a.da<b.da\/(a.da=b.da/\(zaq a.dk b.dk=true\/(a.dk=b.dk/\a.nu<b.nu))):=by
 unfold ztp ylc
 rw [decide_eq_true_eq]
 by_cases h1:z2z a.da b.da=0
 ·rw [if_neg (fun h=>h h1)]
  have e1:=(z3m _ _).1 h1
  by_cases h2:z8o a.dk b.dk=0
  ·rw [if_neg (fun h=>h h2),ycu]
   have e2:=(z3n _ _).1 h2
   rw [e2,zes]
   simp [e1]
  ·rw [if_pos h2,yh9]
   have e2:a.dk≠b.dk:=fun h=>h2 ((z3n _ _).2 h)
   simp [e1,e2]
 ·rw [if_pos h1,ycu]
  have e1:a.da≠b.da:=fun h=>h1 ((z3m _ _).2 h)
  simp [e1]
theorem ydk (a:Nte):ztp a a=false:=by
 cases h:ztp a a with
 | false=>rfl
 | true=>
  have:=(zx2 a a).1 h
  rw [zes] at this
  simp at this
theorem ydm (a b c:Nte) (h1:ztp a b=true) (h2:ztp b c=true):ztp a c=true:=by
 rw [zx2] at h1 h2 ⊢
 rcases h1 with h1|⟨e1,h1⟩
 ·rcases h2 with h2|⟨e2,_⟩
  ·exact .inl (by omega)
  ·exact .inl (by omega)
 ·rcases h2 with h2|⟨e2,h2⟩
  ·exact .inl (by omega)
  ·refine .inr ⟨by omega,?_⟩
   rcases h1 with h1|⟨d1,h1⟩
   ·rcases h2 with h2|⟨d2,_⟩
    ·exact .inl (zix h1 h2)
    ·exact .inl (by rw [<-d2];exact h1)
   ·rcases h2 with h2|⟨d2,h2⟩
    ·exact .inl (by rw [d1];exact h2)
    ·exact .inr ⟨by rw [d1,d2],by omega⟩
theorem ydl (a b:Nte) (hk:¬(a.dk=b.dk/\a.nu=b.nu)) (h:ztp a b=false):ztp b a=true:=by
 have hn:¬(a.da<b.da\/(a.da=b.da/\(zaq a.dk b.dk=true\/(a.dk=b.dk/\a.nu<b.nu)))):=fun hc=>by
  rw [(zx2 a b).2 hc] at h;cases h
 rw [zx2]
 by_cases e:a.da=b.da
 ·refine .inr ⟨e.symm,?_⟩
  by_cases d:a.dk=b.dk
  ·exact .inr ⟨d.symm,by
    have:¬a.nu<b.nu:=fun hc=>hn (.inr ⟨e,.inr ⟨d,hc⟩⟩)
    have:a.nu≠b.nu:=fun hc=>hk ⟨d,hc⟩
    omega⟩
  ·refine .inl (zym d ?_)
   cases hs:zaq a.dk b.dk with
   | false=>rfl
   | true=>exact absurd (.inr ⟨e,.inl hs⟩) hn
 ·have:¬a.da<b.da:=fun hc=>hn (.inl hc)
  exact .inl (by omega)
theorem yb2 (p r:List Nte) (x y:Nte) {i j:Nat} (hi:i=(p.length+1)*4) (hj:j=p.length*4):patch (patch ((p++y::x::r).flatMap Nte.cells) i y.cells) j x.cells=(p++x::y::r).flatMap Nte.cells:=by
 have hp:=zar Nte.cells 4 zh9 p
 subst hi hj
 simp only [List.flatMap_append,List.flatMap_cons]
 generalize p.flatMap Nte.cells=P at *
 generalize r.flatMap Nte.cells=R
 have hx:=zh9 x
 have hy:=zh9 y
 generalize x.cells=X at *
 generalize y.cells=Y at *
 have e1:patch (P++(Y++(X++R))) ((p.length+1)*4) Y=P++(Y++(Y++R)):=by
  unfold patch
  rw [show (p.length+1)*4=(P++Y).length by rw [List.length_append];omega,show P++(Y++(X++R))=(P++Y)++(X++R) by simp,List.take_left,
   show (P++Y).length+Y.length=(P++Y++X).length by simp only [List.length_append];omega,show (P++Y)++(X++R)=(P++Y++X)++R by simp,List.drop_left]
  simp
 rw [e1]
 unfold patch
 rw [show p.length*4=P.length by omega,List.take_left,show P.length+X.length=(P++Y).length by rw [List.length_append];omega,show P++(Y++(Y++R))=(P++Y)++(Y++R) by simp,List.drop_left]
 simp
section
variable {E : Oracle} (g : Good E)
include g
theorem yl9 (a b c:Int):Fc E zpb [.d (.list 3 [DI a,DI b,DI c])] (I (if a≠0 then a else if b≠0 then b else c)):=by
 refine g.fn rfl rfl ?_
 by_cases h1:a=0
 ·rw [if_neg (fun h=>h h1)]
  by_cases h2:b=0
  ·rw [if_neg (fun h=>h h2)]
   by_cases h3:c=0
   ·subst h3
    repeat' ((conv=>whnf);first
    | refine Yz ?_
     | (refine Cmp.ff (fun h=>h h1) ?_)
     | (refine Cmp.ff (fun h=>h h2) ?_)
     | (refine zal.step g.lim ?_)
     | (refine Ret.mk rfl)
     | fail)
   ·repeat' ((conv=>whnf);first
   | refine Yz ?_
     | (refine Cmp.ff (fun h=>h h1) ?_)
     | (refine Cmp.ff (fun h=>h h2) ?_)
     | (refine Cmp.tt h3 ?_)
     | (refine zal.step g.lim ?_)
     | (refine Ret.mk rfl)
     | fail)
  ·rw [if_pos h2]
   repeat' ((conv=>whnf);first
   | refine Yz ?_
    | (refine Cmp.ff (fun h=>h h1) ?_)
    | (refine Cmp.tt h2 ?_)
    | (refine zal.step g.lim ?_)
    | (refine Ret.mk rfl)
    | fail)
 ·rw [if_pos h1]
  repeat' ((conv=>whnf);first
  | refine Yz ?_
   | (refine Cmp.tt h1 ?_)
   | (refine zal.step g.lim ?_)
   | (refine Ret.mk rfl)
   | fail)
end
theorem zts {α β:Type} {f:α->Option β} {p:β}:∀ {l:List α},(∀a∈l,f a=some p)->z8d f l=some (l.map fun _=>p)
 | [],_=>rfl
 | a::l,h=>by
  unfold z8d
  rw [h a (by simp),Option.bind_some,zts fun b hb=>h b (by simp [hb])]
  rfl
theorem z00 {α β:Type} {f:α->Option β} {p:α->β}:∀ {l:List α},(∀a∈l,f a=some (p a))->z8d f l=some (l.map p)
 | [],_=>rfl
 | a::l,h=>by
  unfold z8d
  rw [h a (by simp),Option.bind_some,z00 fun b hb=>h b (by simp [hb])]
  rfl
theorem zqw (sz:Nat):∀(n:Nat) (ds:List D),ds.length=n*sz->(zgn sz n ds).flatten=ds
 | 0,ds,h=>by
  have:ds=[]:=List.length_eq_zero_iff.1 (by omega)
  subst this
  rfl
 | n+1,ds,h=>by
  rw [Nat.succ_mul] at h
  rw [zgn,List.flatten_cons,zqw sz n (ds.drop sz) (by rw [List.length_drop];omega),List.take_append_drop]
theorem zuh {run:Mem->Option (V×Mem)} {m:Mem} {o:Evl.Id} {a b c t n:Nat} {xs:List D} (hl:Evl.look m o=some (.bag t 1 n xs)) (hx:xs.length=n) (p:V×Mem)
  (hr:∀l:List D,l.Perm xs->run (upd m o (.row true t 1 n l))=some p) (hle:leM m p.2 (zgb false m p.2)=true):zjk run m (.ref o a b c)=some (p.1,zgb false m p.2):=by
 have hx1:xs.length=n*1:=by omega
 unfold zjk
 simp only [hl]
 rw [if_pos hx1,hr xs (List.Perm.refl _),Option.bind_some]
 have hall:z8d (fun l=>run (upd m o (.row true t 1 n l.flatten))) (zrw (zgn 1 n xs))=some ((zrw (zgn 1 n xs)).map fun _=>p):=by
  refine zts fun l hl'=>hr _ ?_
  have h1:=(zj5 _ _).1 hl'
  have h2:=h1.flatten
  rwa [zqw 1 n xs hx1] at h2
 rw [hall,Option.bind_some]
 unfold zvw
 rw [if_pos]
 rw [List.all_eq_true]
 intro q hq
 obtain⟨_,_,rfl⟩:=List.mem_map.1 hq
 rw [zpw,hle]
 rfl
theorem zvy:∀e:Env,yhi e e=true
 | []=>rfl
 | (t,v)::r=>by simp [yhi,zpw,zvy r]
theorem zqa {body:Env->Mem->Option (Ex×Env×Mem)} {cx:Cx} {it:Nat} {x:Opd} {out nxt pair:Nat} {live:List Nat} {e1:Env} {m1:Mem} {o:Evl.Id} {es:List (D×V)} (hx:x.ev e1= .mp o) (hl:Evl.look m1 o=some (.map es))
  {i:Evl.Id} {m2:Mem} {e2 e3:Env} (hi:Evl.newId cx it m1=i) (hm:upd (upd m1 i .gone) o .gone=m2) (he:only live (put e1 it (.it i))=e2) (R:List (D×V)->Mem)
  (hr:∀p,p.Perm es->zct body it i out nxt pair live (ziy m2) p e2 m2=some (.normal,e3,R p)) {mj:Mem} (hj:zgb true m2 (R es)=mj) (hle:∀p,p.Perm es->leM m2 (R p) mj=true) (hg:Evl.look mj o=some .gone):
  zhy body cx it x out nxt pair live e1 m1=some (.normal,e3,upd mj o (.map es)):=by
 subst hj
 unfold zhy
 simp only [hx,hl,hi,hm,he]
 unfold zor
 simp only [hr es (List.Perm.refl _),Option.bind_some]
 have hall:z8d (fun p=>zct body it i out nxt pair live (ziy m2) p e2 m2) (zrw es)=some ((zrw es).map fun p=>(.normal,e3,R p)):=z00 fun p hp=>hr p ((zj5 _ _).1 hp)
 rw [hall,Option.bind_some]
 unfold zp7
 rw [if_pos]
 ·simp only [Option.bind_some,zs9,hg]
 ·rw [List.all_eq_true]
  intro q hq
  obtain⟨p,hp,rfl⟩:=List.mem_map.1 hq
  dsimp only
  rw [zvy,hle p ((zj5 _ _).1 hp)]
  rfl
theorem zns:∀es:List (D×V),yfh es es=true
 | []=>rfl
 | (k,v)::r=>by simp [yfh,ztg,zpw,zns r]
inductive LeJ (m0:Mem):Mem->Mem->Prop
 | nil:LeJ m0 [] []
 | cells {i:Evl.Id} {t:Nat} {cs:List V} {r r':Mem} (h:LeJ m0 r r'):LeJ m0 ((i,.cells t cs)::r) ((i,.cells t cs)::r')
 | row {i:Evl.Id} {w:Bool} {t sz n:Nat} {xs:List D} {r r':Mem} (h:LeJ m0 r r'):LeJ m0 ((i,.row w t sz n xs)::r) ((i,.row w t sz n xs)::r')
 | gone {i:Evl.Id} {r r':Mem} (h:LeJ m0 r r'):LeJ m0 ((i,.gone)::r) ((i,.gone)::r')
 | map {i:Evl.Id} {es:List (D×V)} {r r':Mem} (he:yfh es es=true) (h:LeJ m0 r r'):LeJ m0 ((i,.map es)::r) ((i,.map es)::r')
 | mapP {i:Evl.Id} {es fs:List (D×V)} {r r':Mem} (hd:z3x fs=true) (hp:zs7 es fs=true) (h:LeJ m0 r r'):LeJ m0 ((i,.map es)::r) ((i,.map fs)::r')
 | loop {i:Evl.Id} {e e0:Env} {ps ps0:List Nat} {a b a0 b0:C} {lv lv0:Nat} {bu bu0 ov ov0:Bool} {j j0:Option ycd} {r r':Mem} (hl:Evl.look m0 i=some (.loop e0 ps0 a0 b0 lv0 bu0 ov0 j0)) (hj:ybn j j=true) (h:LeJ m0 r r'):LeJ m0 ((i,.loop e ps a b lv bu ov j)::r) ((i,.loop e ps a b lv bu ov j)::r')
 | bag {i:Evl.Id} {t sz n:Nat} {xs ys:List D} {r r':Mem} (hb:yco sz n ys xs=true) (h:LeJ m0 r r'):LeJ m0 ((i,.row true t sz n xs)::r) ((i,.bag t sz n ys)::r')
theorem LeJ.ok {m0 a b:Mem} (h:LeJ m0 a b):leM m0 a b=true:=by
 induction h with
 | nil=>rfl
 | cells h ih=>simp [leM,leO,zlg,ih]
 | row h ih=>simp [leM,leO,zia,ih]
 | gone h ih=>simp [leM,leO,ih]
 | map he h ih=>simp [leM,leO,he,ih]
 | mapP hd hp h ih=>simp [leM,leO,hd,hp,ih]
 | loop hl hj h ih=>simp [leM,leO,hl,hj,zvy,ih]
 | bag hb h ih=>simp [leM,leO,hb,ih]
theorem zyo {x:List D}:∀ {l:List (List D)},x∈l->∃r,zr0 x l=some r
 | y::r,h=>by
  unfold zr0
  by_cases e:zjd x y=true
  ·exact⟨r,if_pos e⟩
  ·rw [if_neg e]
   rcases List.mem_cons.1 h with rfl|h
   ·exact absurd (zia x) e
   ·obtain⟨q,hq⟩:=zyo h
    exact⟨y::q,by rw [hq];rfl⟩
theorem z2g:∀ {a b:List (List D)},a.Perm b->z7d a b=true
 | [],b,h=>by
  have:=List.Perm.nil_eq h
  subst this
  rfl
 | x::r,b,h=>by
  have hx:x∈b:=h.subset (by simp)
  obtain⟨q,hq⟩:=zyo hx
  have h1:=zpq x b q hq
  unfold z7d
  rw [hq]
  exact z2g ((List.perm_cons x).1 (h.trans h1))
theorem zuj:∀(l:List D),zgn 1 l.length l=l.map fun x=>[x]
 | []=>rfl
 | x::r=>by
  rw [List.length_cons,zgn,List.map_cons]
  have:=zuj r
  simp only [List.take_succ_cons,List.take_zero,List.drop_succ_cons,List.drop_zero]
  rw [this]
theorem yh1 {xs ys:List D} {n:Nat} (h:xs.Perm ys) (hn:ys.length=n):yco 1 n xs ys=true:=by
 have hx:xs.length=n:=h.length_eq.trans hn
 unfold yco
 subst hn
 rw [decide_eq_true (by omega),decide_eq_true (by omega),Bool.true_and,Bool.true_and]
 have e1:zgn 1 ys.length xs=xs.map fun x=>[x]:=by rw [<-hx];exact zuj xs
 rw [e1,zuj]
 exact z2g (h.map _)
theorem zpu {α:Type} {cell:α->List D} {w:Nat} (hw:∀a,(cell a).length=w):∀l:List α,zgn w l.length (l.flatMap cell)=l.map cell
 | []=>rfl
 | x::r=>by
  have hx:=hw x
  rw [List.length_cons,zgn,List.map_cons,List.flatMap_cons]
  have e1:(cell x++r.flatMap cell).take w=cell x:=by rw [<-hx];exact List.take_left
  have e2:(cell x++r.flatMap cell).drop w=r.flatMap cell:=by rw [<-hx];exact List.drop_left
  rw [e1,e2,zpu hw r]
theorem z8i {α:Type} {cell:α->List D} {w:Nat} (hw:∀a,(cell a).length=w) {xs ys:List α} {n:Nat} (h:xs.Perm ys) (hn:ys.length=n):yco w n (xs.flatMap cell) (ys.flatMap cell)=true:=by
 have hx:xs.length=n:=h.length_eq.trans hn
 unfold yco
 have l1:=zar cell w hw xs
 have l2:=zar cell w hw ys
 rw [decide_eq_true (by rw [l1,hx]),decide_eq_true (by rw [l2,hn]),Bool.true_and,Bool.true_and]
 have e1:zgn w n (xs.flatMap cell)=xs.map cell:=by rw [<-hx];exact zpu hw xs
 have e2:zgn w n (ys.flatMap cell)=ys.map cell:=by rw [<-hn];exact zpu hw ys
 rw [e1,e2]
 exact z2g (h.map _)
theorem zxo {α:Type} {cell:α->List D}:∀l:List α,(l.map cell).flatten=l.flatMap cell
 | []=>rfl
 | x::r=>by rw [List.map_cons,List.flatten_cons,zxo r,List.flatMap_cons]
theorem ygg {α:Type} {cell:α->List D} {ps:List (List D)} {l:List α} (h:ps.Perm (l.map cell)):∃us:List α,ps=us.map cell/\us.Perm l:=by
 induction l generalizing ps with
 | nil=>
  have:=List.Perm.nil_eq h.symm
  subst this
  exact⟨[],rfl,.nil⟩
 | cons x r ih=>
  have hx:cell x∈ps:=h.symm.subset (by simp)
  obtain⟨a,b,rfl⟩:=List.append_of_mem hx
  have h1:(a++b).Perm (r.map cell):=by
   have h2:(cell x::(a++b)).Perm (cell x::r.map cell):=List.perm_middle.symm.trans h
   exact List.Perm.cons_inv h2
  obtain⟨us,hu,hp⟩:=ih h1
  refine⟨us.take a.length++x::us.drop a.length,?_,?_⟩
  ·have ha:a=(us.take a.length).map cell:=by
    have:=congrArg (List.take a.length) hu
    rw [List.take_left,<-List.map_take] at this
    exact this
   have hb:b=(us.drop a.length).map cell:=by
    have:=congrArg (List.drop a.length) hu
    rw [List.drop_left,<-List.map_drop] at this
    exact this
   rw [List.map_append,List.map_cons,<-ha,<-hb]
  ·refine List.perm_middle.trans (.cons _ ?_)
   rw [List.take_append_drop]
   exact hp
theorem z6c {α:Type} {cell:α->List D} {w:Nat} (hw:∀a,(cell a).length=w) {run:Mem->Option (V×Mem)} {m:Mem} {o:Evl.Id} {a b c t:Nat} {xs:List α} (hl:Evl.look m o=some (.bag t w xs.length (xs.flatMap cell))) (p:V×Mem)
  (hr:∀l:List α,l.Perm xs->run (upd m o (.row true t w xs.length (l.flatMap cell)))=some p) (hle:leM m p.2 (zgb false m p.2)=true):zjk run m (.ref o a b c)=some (p.1,zgb false m p.2):=by
 have hx1:=zar cell w hw xs
 unfold zjk
 simp only [hl]
 rw [if_pos hx1,hr xs (List.Perm.refl _),Option.bind_some]
 have hall:z8d (fun l=>run (upd m o (.row true t w xs.length l.flatten))) (zrw (zgn w xs.length (xs.flatMap cell)))=some ((zrw (zgn w xs.length (xs.flatMap cell))).map fun _=>p):=by
  refine zts fun l hl'=> ?_
  have h1:=(zj5 _ _).1 hl'
  rw [zpu hw] at h1
  obtain⟨us,rfl,hu⟩:=ygg h1
  rw [zxo]
  exact hr us hu
 rw [hall,Option.bind_some]
 unfold zvw
 rw [if_pos]
 rw [List.all_eq_true]
 intro q hq
 obtain⟨_,_,rfl⟩:=List.mem_map.1 hq
 rw [zpw,hle]
 rfl
abbrev TV:Nat:=zfu
abbrev lpV:Ob:= .loop [(2,.ptr ⟨3,2,0⟩ 0 0),(4,.ref ⟨3,4,0⟩ 0 0 0),(6,.fn zaf [] [.ptr ⟨0,15,0⟩ 0 0])] [7] zci zcj 3 false false none
abbrev vM (mp:Ob) (s:V):Mem:=[(⟨0,8,0⟩,mp),(⟨0,15,0⟩,.cells TV [.mp ⟨0,8,0⟩]),(⟨1,4,0⟩,.row true zab 4 0 []),(⟨2,2,0⟩,.row true zab 4 0 []),(⟨3,2,0⟩,.cells zpr [s]),(⟨3,4,0⟩,.row true zab 4 0 []),(⟨3,14,0⟩,lpV)]
abbrev vR0:Mem:=vM .gone (.d .nil)++[(⟨4,6,0⟩,.gone)]
abbrev vR1 (us:List Nte) (last:Ob):Mem:=vM .gone (.ref ⟨3,11,0⟩ 0 us.length us.length)++[(⟨4,6,0⟩,.gone),(⟨3,11,0⟩,last)]
abbrev yhr (us:List Nte):Ob:= .row true zab 4 us.length (us.flatMap Nte.cells)
abbrev eV:Env:=[(0,.yld ⟨3,14,0⟩),(6,.it ⟨4,6,0⟩)]
section
variable {E : Oracle} (g : Good E)
include g
abbrev ymu:List CO:=[xq 10 9 1,tq 4 (.alloc zab [.z (.str []),.z (.int .i64 0),.z (.int .i64 0),.z (.str [])]),⟨none,none,.store 4 (.t 4) (.t 10)⟩]
abbrev bdV (E:Oracle):Env->Mem->Option (Ex×Env×Mem):=fun e m=>(zga E ⟨4,5⟩ ymu e m).bind fun q=>evC E ⟨4,5⟩ zav (zb2 [9,10] q.1) q.2
omit g in
theorem yhd {e:Env} {m:Mem} {K:Ex->Env->Mem->Prop} (h:Evl.wpOps E ⟨4,5⟩ ymu e m fun e' m'=>wpC E ⟨4,5⟩ zav (zb2 [9,10] e') m' K):∃x e' m',bdV E e m=some (x,e',m')/\K x e' m':=by
 obtain⟨p,h1,h2⟩:=Evl.wpOps_ok _ _ _ _ h
 obtain⟨x,e',m',h3,h4⟩:=Evl.wpC_ok _ _ _ _ h2
 exact⟨x,e',m',by unfold bdV;rw [h1,Option.bind_some];exact h3,h4⟩
theorem yjc (q:D) (n:Nte):∃x e' m',bdV E (put eV 9 (.tup [.d q,Ntv n])) vR0=some (x,e',m')/\(x= .normal/\zmn (get e' 6) (.it ⟨4,6,0⟩)=true/\only [0,6] e'=eV/\gc (ziy vR0) eV m'=vR1 [n] (yhr [n])):=by
 refine yhd ?_
 repeat' ((conv=>whnf);first
 | refine Yz ?_
  | (refine Rnd.enter g.lim ?_)
  | (refine zju.mk ⟨by decide,rfl,by decide,by decide⟩ ?_)
  | (exact⟨rfl,rfl,rfl,rfl⟩)
  | fail)
theorem yjd (us:List Nte) (hu:us.length<=1000000) (q:D) (n:Nte):∃x e' m',bdV E (put eV 9 (.tup [.d q,Ntv n])) (vR1 us (yhr us))=some (x,e',m')/\(x= .normal/\zmn (get e' 6) (.it ⟨4,6,0⟩)=true/\only [0,6] e'=eV/\gc (ziy vR0) eV m'=vR1 (us++[n]) (yhr (us++[n]))):=by
 refine yhd ?_
 repeat' ((conv=>whnf);first
 | refine Yz ?_
  | (refine Rnd.enter g.lim ?_)
  | (refine zju.mk ⟨rfl,rfl,rfl,rfl,rfl,rfl,by dsimp only;omega,by first |omega|(dsimp only;omega)⟩ ?_)
  | (refine⟨rfl,rfl,rfl,?_⟩)
  | fail)
 simp only [vR1,yhr,List.length_append,List.length_cons,List.length_nil,List.flatMap_append,List.flatMap_cons,List.flatMap_nil]
 rfl
theorem yem:∀(ps us:List Nte),us.length+ps.length<=1000000->zct (bdV E) 6 ⟨4,6,0⟩ 0 1 9 [0,6] (ziy vR0) (zhf ps) eV (vR1 us (yhr us))=some (.normal,eV,vR1 (us++ps) (yhr (us++ps)))
 | [],us,_=>by
  rw [List.append_nil]
  rfl
 | p::ps,us,h=>by
  rw [List.length_cons] at h
  obtain⟨x,e',m',h1,rfl,h2,h3,h4⟩:=yjd g us (by omega) (.agg [.str p.dk,DI p.nu]) p
  unfold zhf
  rw [List.map_cons,zct,h1,Option.bind_some]
  unfold zel
  dsimp only [Ex.on]
  rw [if_pos h2,h3,h4]
  have:=yem ps (us++[p]) (by rw [List.length_append,List.length_singleton];omega)
  rw [List.append_assoc] at this
  exact this
theorem ygn (p:Nte) (ps:List Nte) (hl:ps.length<=100000):zct (bdV E) 6 ⟨4,6,0⟩ 0 1 9 [0,6] (ziy vR0) (zhf (p::ps)) eV vR0=some (.normal,eV,vR1 (p::ps) (yhr (p::ps))):=by
 obtain⟨x,e',m',h1,rfl,h2,h3,h4⟩:=yjc g (.agg [.str p.dk,DI p.nu]) p
 unfold zhf
 rw [List.map_cons,zct,h1,Option.bind_some]
 unfold zel
 dsimp only [Ex.on]
 rw [if_pos h2,h3,h4]
 exact yem g ps [p] (by simp;omega)
omit g in
theorem zl8 {α β:Type} {f:α->β} {ps:List β} {l:List α} (h:ps.Perm (l.map f)):∃us:List α,ps=us.map f/\us.Perm l:=by
 induction l generalizing ps with
 | nil=>
  have:=List.Perm.nil_eq h.symm
  subst this
  exact⟨[],rfl,.nil⟩
 | cons x r ih=>
  have hx:f x∈ps:=h.symm.subset (by simp)
  obtain⟨a,b,rfl⟩:=List.append_of_mem hx
  have h1:(a++b).Perm (r.map f):=List.Perm.cons_inv (List.perm_middle.symm.trans h)
  obtain⟨us,hu,hp⟩:=ih h1
  refine⟨us.take a.length++x::us.drop a.length,?_,?_⟩
  ·have ha:a=(us.take a.length).map f:=by
    have:=congrArg (List.take a.length) hu
    rw [List.take_left,<-List.map_take] at this
    exact this
   have hb:b=(us.drop a.length).map f:=by
    have:=congrArg (List.drop a.length) hu
    rw [List.drop_left,<-List.map_drop] at this
    exact this
   rw [List.map_append,List.map_cons,<-ha,<-hb]
  ·refine List.perm_middle.trans (.cons _ ?_)
   rw [List.take_append_drop]
   exact hp
abbrev e1V:Env:=[(0,.yld ⟨3,14,0⟩),(1,.ptr ⟨0,15,0⟩ 0 0),(5,.mp ⟨0,8,0⟩)]
abbrev vK1 (cs:List Nte):Mem:=vM (.map (zhf cs)) (.d .nil)
abbrev vRn (mp:Ob) (n:Nat) (last:Ob):Mem:=vM mp (.ref ⟨3,11,0⟩ 0 n n)++[(⟨4,6,0⟩,.gone),(⟨3,11,0⟩,last)]
def yl6 (v:V):List D:=match v with
 | .d (.agg cs)=>cs
 | _=>[]
omit g in
theorem z18 (us:List Nte):(zhf us).flatMap (fun e=>yl6 e.2)=us.flatMap Nte.cells:=by
 unfold zhf
 rw [List.flatMap_map]
 rfl
theorem ymg (k:Nte) (kr:List Nte) (hl:kr.length<=100000):
  zhy (bdV E) ⟨4,5⟩ 6 (.t 5) 0 1 9 [0,6] e1V (vK1 (k::kr))=some (.normal,eV,vRn (.map (zhf (k::kr))) (kr.length+1) (.bag zab 4 (kr.length+1) ((k::kr).flatMap Nte.cells))):=by
 have hj:zgb true vR0 (vRn .gone (kr.length+1) (.row true zab 4 (kr.length+1) ((k::kr).flatMap Nte.cells)))=vRn .gone (kr.length+1) (.bag zab 4 (kr.length+1) ((k::kr).flatMap Nte.cells)):=by
  simp [zgb,z8j,zy3,Evl.look]
 refine(zqa (o:=⟨0,8,0⟩) (es:=zhf (k::kr)) rfl rfl (i:=⟨4,6,0⟩) (m2:=vR0) (e2:=eV) (e3:=eV) rfl rfl rfl
  (fun p=>vRn .gone (kr.length+1) (.row true zab 4 (kr.length+1) (p.flatMap fun e=>yl6 e.2))) (fun p hp=> ?_) (mj:=vRn .gone (kr.length+1) (.bag zab 4 (kr.length+1) ((k::kr).flatMap Nte.cells))) ?_ (fun p hp=> ?_) rfl).trans rfl
 ·obtain⟨us,rfl,hu⟩:=zl8 hp
  have hul:us.length=kr.length+1:=hu.length_eq
  obtain⟨a,b,rfl⟩:∃a b,us=a::b:=List.exists_cons_of_ne_nil (by rintro rfl;simp at hul)
  have:=ygn g a b (by simp at hul;omega)
  unfold zhf at this
  rw [this]
  dsimp only [vR1,yhr]
  rw [hul]
  have:=z18 (a::b)
  unfold zhf at this
  rw [this]
 ·rw [z18]
  exact hj
 ·obtain⟨us,rfl,hu⟩:=zl8 hp
  have:=z18 us
  unfold zhf at this
  rw [this]
  have hb:yco 4 (kr.length+1) ((k::kr).flatMap Nte.cells) (us.flatMap Nte.cells)=true:=z8i zh9 hu.symm hu.length_eq
  exact LeJ.ok (.gone<| .cells<| .row<| .row<| .cells<| .row<| .loop rfl rfl<| .gone<| .bag hb .nil)
omit g in
theorem yk6:zhy (bdV E) ⟨4,5⟩ 6 (.t 5) 0 1 9 [0,6] e1V (vK1 [])=some (.normal,eV,vK1 []++[(⟨4,6,0⟩,.gone)]):=by
 have hj:zgb true vR0 vR0=vR0:=by
  simp [zgb,z8j,zy3,Evl.look]
 refine(zqa (o:=⟨0,8,0⟩) (es:=[]) rfl rfl (i:=⟨4,6,0⟩) (m2:=vR0) (e2:=eV) (e3:=eV) rfl rfl rfl (fun _=>vR0) (fun p hp=> ?_) (mj:=vR0) hj (fun p hp=> ?_) rfl).trans rfl
 ·have:=hp.symm.nil_eq
  subst this
  rfl
 ·exact LeJ.ok (.gone<| .cells<| .row<| .row<| .cells<| .row<| .loop rfl rfl<| .gone .nil)
end
abbrev mSr (cs L:List Nte) (n:Nat):Mem:=[(⟨0,8,0⟩,.map (zhf cs)),(⟨0,15,0⟩,.cells TV [.mp ⟨0,8,0⟩]),(⟨1,4,0⟩,.row true zab 4 0 []),(⟨1,7,0⟩,.row true zab 4 n (L.flatMap Nte.cells))]
structure ymx where
 i:Nat
 (s r:List Nte)
structure ymw where
 j:Nat
 (p q:List Nte)
def z0x (S:List Nte):Prop:=S.Pairwise fun a b=>¬(a.dk=b.dk/\a.nu=b.nu)
theorem z0x.nodup {S:List Nte} (h:z0x S):S.Nodup:=h.imp fun hh e=>hh (by rw [e];exact⟨rfl,rfl⟩)
theorem z0x.ne {S:List Nte} (h:z0x S) {a b:Nte} (ha:a∈S) (hb:b∈S) (hab:a≠b):¬(a.dk=b.dk/\a.nu=b.nu):=by
 induction S with
 | nil=>cases ha
 | cons x r ih=>
  have h0:=List.pairwise_cons.1 h
  rcases List.mem_cons.1 ha with ea|ha'
  ·rcases List.mem_cons.1 hb with eb|hb'
   ·exact absurd (ea.trans eb.symm) hab
   ·rw [ea];exact h0.1 b hb'
  ·rcases List.mem_cons.1 hb with eb|hb'
   ·rw [eb];exact fun hc=>h0.1 a ha' ⟨hc.1.symm,hc.2.symm⟩
   ·exact ih h0.2 ha' hb'
theorem z0x.tot {S:List Nte} (h:z0x S):ymj S ztp:=⟨ydk,ydm,fun a b ha hb hab hl=>ydl a b (h.ne ha hb hab) hl⟩
theorem yda {l p r:List Nte} {x:Nte} {k:Nat} (h:l=p++x::r) (hk:k=p.length) (hl:k<l.length):l[k]=x:=by
 subst h hk
 simp
theorem ybe (cs ds:List D) (o:Nat) (h:o+ds.length<=cs.length):(patch cs o ds).length=cs.length:=by
 unfold patch
 simp only [List.length_append,List.length_take,List.length_drop]
 omega
section
variable {E : Oracle} (g : Good E)
include g
theorem yij {n:Nat} {cs S l0:List Nte} (hS:z0x S) (hp0:l0.Perm S) (hl0:l0.length=n) (hn:n<=12) {K:V->Mem->Prop} (hK:∀l,l.Perm S->(l.Pairwise fun a b=>ztp a b=true)->K (.tup []) (mSr cs l n)):
  In E 4 za2 [.ref ⟨1,7,0⟩ 0 n n,I 0,I n,.fn zbn [] []] (mSr cs l0 n) K:=by
 refine In.enter (f:=za2) g.lim rfl rfl ?_
 have t:=hS.tot
 cases l0 with
 | nil=>
  subst hl0
  have hs:=hK [] hp0 .nil
  repeat' ((conv=>whnf);first
  | refine Yz ?_
   | (refine zal.step g.lim ?_)
   | (exact hs)
   | fail)
 | cons x0 r0=>
  repeat' ((conv=>whnf);first
  | refine Yz ?_
   | fail)
  refine zal.to (zal.by g (fun s:ymx=>s.s.length=s.i/\s.s.Pairwise (fun a b=>ztp a b=true)/\(s.s++s.r).Perm S)
   (fun s=>[(0,.ref ⟨1,7,0⟩ 0 n n),(1,I 0),(2,I n),(3,.fn zbn [] []),(8,I s.i)])
   (fun s=>mSr cs (s.s++s.r) n)
   (fun s=>n-s.i) (fun s hs ih=> ?_) ⟨1,[x0],r0⟩ ⟨rfl,List.pairwise_singleton ..,hp0⟩) rfl rfl
  obtain⟨i,s,r⟩:=s
  obtain⟨h1,h2,h3⟩:=hs
  dsimp only at h1 h2 h3 ih ⊢
  have hlen:=h3.length_eq
  rw [<-hp0.length_eq,hl0,List.length_append] at hlen
  by_cases hlt:i<n
  ·cases r with
   | nil=>simp at hlen;omega
   | cons x r=>
    have hx:x∈S:=h3.mem_iff.1 (by simp)
    have hsm:∀y∈s,y∈S:=fun y hy=>h3.mem_iff.1 (by simp [hy])
    have hnd:(s++x::r).Nodup:=h3.nodup_iff.2 hS.nodup
    have hxs:x∉s:=fun hc=>(List.nodup_append.1 hnd).2.2 x hc x (by simp) rfl
    rw [List.length_cons] at hlen
    repeat' ((conv=>whnf);first
    | refine Yz ?_
     | fail)
    refine zal.to (zal.by g (fun u:ymw=>u.p.length=u.j/\yfn ztp s x u.p u.q)
     (fun u=>[(0,.ref ⟨1,7,0⟩ 0 n n),(1,I 0),(2,I n),(3,.fn zbn [] []),(8,I i),(9,I u.j)])
     (fun u=>mSr cs (u.p++x::(u.q++r)) n)
     (fun u=>u.j) (fun u hu jh=> ?_) ⟨i,s,[]⟩ ⟨h1,yfn.start s x⟩) rfl rfl
    obtain⟨j,p,q⟩:=u
    obtain⟨k1,k2⟩:=hu
    dsimp only at k1 k2 jh ⊢
    have hpq:=k2.eq
    have hpl:p.length+q.length=s.length:=by rw [<-hpq,List.length_append]
    have out:(p=[]\/∃p' y,p=p'++[y]/\ztp x y=false)->(p++x::q).Pairwise (fun a b=>ztp a b=true):=fun he=>k2.done t h2 hsm hx hxs he
    have hperm:(p++x::q++r).Perm S:=by
     refine List.Perm.trans ?_ h3
     rw [<-hpq]
     simp only [List.append_assoc,List.cons_append]
     exact List.Perm.append_left p List.perm_middle.symm
    have ih:=ih ⟨i+1,p++x::q,r⟩
    dsimp only at ih
    rcases List.eq_nil_or_concat p with rfl|⟨p',y,rfl⟩
    ·have ih:=ih ⟨by simp at hpl ⊢;omega,out (.inl rfl),hperm⟩ (by omega)
     have hj0:j=0:=k1.symm
     subst hj0
     repeat' ((conv=>whnf);first
     | refine Yz ?_
      | (refine zal.to ih rfl rfl)
      | fail)
    ·rw [List.concat_eq_append] at *
     obtain⟨j,rfl⟩:∃m,j=m+1:=⟨j-1,by simp at k1;omega⟩
     have k3:p'.length=j:=by simpa using k1
     have hy:y∈S:=hsm y (by rw [<-hpq];simp)
     have jh:=jh ⟨j,p',y::q⟩
     dsimp only at jh
     obtain⟨L,hL⟩:∃L,L=(p'++[y])++x::(q++r):=⟨_,rfl⟩
     have hll:L.length=n:=by
      rw [hL]
      simp only [List.length_append,List.length_cons,List.length_nil] at hpl hlen ⊢
      omega
     have g1:=yda (l:=L) (p:=p'++[y]) (x:=x) (r:=q++r) (k:=j+1) hL (by simp [k3]) (by omega)
     have g2:=yda (l:=L) (p:=p') (x:=y) (r:=x::(q++r)) (k:=j) (by rw [hL];simp) (by simp [k3]) (by omega)
     have hfl:Unit->(L.flatMap Nte.cells).length=L.length*4:=fun _=>zar Nte.cells 4 zh9 L
     have hsw:=yb2 p' (q++r) x y (i:=(0+((j+1:Nat):Int).toNat)*4) (j:=(0+(((j+1:Nat):Int)-1).toNat)*4) (by omega) (by omega)
     rw [show p'++y::x::(q++r)=L by rw [hL];simp] at hsw
     have c1:=yht g x.da y.da
     have c2:=ykx g x.dk y.dk
     have c3:=yht g x.nu y.nu
     have c4:=yl9 g (z2z x.da y.da) (z8o x.dk y.dk) (z2z x.nu y.nu)
     rw [<-hL]
     by_cases hc0:ztp x y=true
     ·have hc:(if z2z x.da y.da≠0 then z2z x.da y.da else if z8o x.dk y.dk≠0 then z8o x.dk y.dk else z2z x.nu y.nu)<0:=by
       unfold ztp ylc at hc0
       exact of_decide_eq_true hc0
      have jh:=jh ⟨k3,k2.step hc0⟩ (by omega)
      have e1:((j+1:Nat):Int)-1=(j:Int):=by omega
      repeat' ((conv=>whnf);first
      | refine Yz ?_
       | (apply za1.of;assumption)
       | (refine zgd.rec0 zh9 (j+1) rfl (by omega) ?_;rw [g1])
       | (refine zgd.rec0 zh9 j (by omega) (by omega) ?_;rw [g2])
       | (refine In.enter (f:=zbn) g.lim rfl rfl ?_)
       | (refine Cmp.tt hc ?_)
       | (refine zju.mk ⟨rfl,by rw [hfl ()];omega,rfl⟩ ?_)
       | (refine zju.mk ⟨rfl,by rw [ybe _ _ _ (by rw [hfl (),zh9];omega),hfl ()];omega,rfl⟩ ?_)
       | (simp only [Evl.idsAll,Evl.idsO,zck,List.nil_append])
       | (refine zal.to jh (by first |(rw [e1];done)|(rw [e1];rfl)) ?_)
       | fail)
      rw [hsw]
      rfl
     ·have hcf:ztp x y=false:=by simpa using hc0
      have ih:=ih ⟨by simp only [List.length_append,List.length_cons,List.length_nil] at hpl ⊢;omega,out (.inr ⟨p',y,rfl,hcf⟩),hperm⟩ (by omega)
      rw [show (p'++[y])++x::q++r=L by rw [hL];simp] at ih
      have hc:¬(if z2z x.da y.da≠0 then z2z x.da y.da else if z8o x.dk y.dk≠0 then z8o x.dk y.dk else z2z x.nu y.nu)<0:=by
       unfold ztp ylc at hcf
       exact of_decide_eq_false hcf
      repeat' ((conv=>whnf);first
      | refine Yz ?_
       | (apply za1.of;assumption)
       | (refine zgd.rec0 zh9 (j+1) rfl (by omega) ?_;rw [g1])
       | (refine zgd.rec0 zh9 j (by omega) (by omega) ?_;rw [g2])
       | (refine In.enter (f:=zbn) g.lim rfl rfl ?_)
       | (refine Cmp.ff hc ?_)
       | (simp only [Evl.idsAll,Evl.idsO,zck,List.nil_append])
       | (refine zal.to ih rfl rfl)
       | fail)
  ·have hr:r=[]:=List.length_eq_zero_iff.1 (by omega)
   subst hr
   rw [List.append_nil] at *
   have hs:=hK s h3 h2
   repeat' ((conv=>whnf);first
   | refine Yz ?_
    | (exact hs)
    | fail)
end
theorem zo9 {dk:List UInt8} {nu:Int}:∀ {cs:List Nte},zrq dk nu cs=none->∀o∈cs,¬(o.dk=dk/\o.nu=nu)
 | [],_,_,h=>absurd h List.not_mem_nil
 | x::r,h,o,ho=>by
  unfold zrq at h
  split at h
  ·cases h
  ·rename_i c
   rcases List.mem_cons.1 ho with rfl|ho
   ·exact fun hc=>c ⟨hc.1.symm,hc.2.symm⟩
   ·exact zo9 h o ho
theorem z0x.add {cs:List Nte} (h:z0x cs) (n:Nte):z0x (z52 cs n):=by
 unfold z52
 cases hg:zrq n.dk n.nu cs with
 | some o=>simpa using h
 | none=>
  simp only [Option.isSome_none,Bool.false_eq_true,if_false]
  refine List.pairwise_append.2 ⟨h,List.pairwise_singleton ..,fun a ha b hb=> ?_⟩
  rw [List.mem_singleton] at hb
  subst hb
  exact zo9 hg a ha
theorem z0x.fold:∀(l cs:List Nte),z0x cs->z0x (l.foldl z52 cs)
 | [],_,h=>h
 | n::r,cs,h=>z0x.fold r (z52 cs n) (h.add n)
theorem zpv (l:List Nte):z0x (zef l):=z0x.fold l [] .nil
theorem z84 {l:List Nte}:∀(d k:Nat) (cs:List Nte),k+d=l.length->z5w cs (l.drop k)=0->z5z l k cs->z5z l l.length ((l.drop k).foldl z52 cs)
 | 0,k,cs,hd,_,hI=>by
  obtain rfl:k=l.length:=by omega
  rw [List.drop_length];exact hI
 | d+1,k,cs,hd,hz,hI=>by
  have hk:k<l.length:=by omega
  rw [List.drop_eq_getElem_cons hk] at hz ⊢
  unfold z5w at hz
  split at hz
  ·rename_i hc
   have hcf:z5v cs l[k]=false:=by
    unfold z8l at hc
    rw [zcu] at hc
    have:=hc (if z5v cs l[k]=true then 29 else 0) (by simp)
    cases h:z5v cs l[k] with
    | false=>rfl
    | true=>rw [h] at this;exact absurd this (by decide)
   rw [List.foldl_cons]
   exact z84 d (k+1) _ (by omega) hz (hI.next hk hcf)
  ·rename_i hc;exact absurd hz hc
theorem z8p {l:List Nte} (h:ze8 l=0):z5z l l.length (zef l):=by
 unfold ze8 at h
 split at h
 ·cases h
 ·exact z84 l.length 0 [] (by omega) h (z5z.start l)
theorem zex {l:List Nte} (h:ze8 l=0) {n:Nte}:n∈zef l↔n∈l:=by
 have hI:=z8p h
 constructor
 ·intro hn
  obtain⟨j,hj,_,rfl⟩:=hI.mem n hn
  exact List.getElem_mem hj
 ·intro hn
  obtain⟨j,hj,rfl⟩:=List.getElem_of_mem hn
  exact(zss (hI.got j hj hj)).2.2
theorem z8q (l:List Nte):(zef l).length<=l.length:=by
 have key:∀(l cs:List Nte),(l.foldl z52 cs).length<=cs.length+l.length:=by
  intro l
  induction l with
  | nil=>intro cs;simp
  | cons n r ih=>
   intro cs
   have:=ih (z52 cs n)
   have h2:(z52 cs n).length<=cs.length+1:=by
    unfold z52
    split<;>simp
   rw [List.foldl_cons,List.length_cons]
   omega
 simpa [zef] using key l []
theorem z3r {a b:List Nte} (ha:ze8 a=0) (hb:ze8 b=0) (h:∀n,n∈a↔n∈b):(zef a).Perm (zef b):=
 (List.perm_ext_iff_of_nodup (zpv a).nodup (zpv b).nodup).2 fun n=>by rw [zex ha,zex hb,h]
theorem z3p {l:List Nte}:∀(d k:Nat) (cs:List Nte),k+d=l.length->z5w cs (l.drop k)=0->∀j (h:j<l.length),k<=j->zui l[j]=0
 | 0,k,cs,hd,_,j,hj,hkj=>by omega
 | d+1,k,cs,hd,hz,j,hj,hkj=>by
  have hk:k<l.length:=by omega
  rw [List.drop_eq_getElem_cons hk] at hz
  unfold z5w at hz
  split at hz
  ·rename_i hc
   by_cases e:j=k
   ·subst e
    unfold z8l at hc
    rw [zcu] at hc
    exact hc _ (List.mem_cons_self ..)
   ·exact z3p d (k+1) _ (by omega) hz j hj (by omega)
  ·rename_i hc;exact absurd hz hc
theorem z3q {l:List Nte} (h1:∀n∈l,zui n=0) (h2:∀a∈l,∀b∈l,a.dk=b.dk->a.nu=b.nu->a=b):∀(d k:Nat) (cs:List Nte),k+d=l.length->z5z l k cs->z5w cs (l.drop k)=0
 | 0,k,cs,hd,_=>by
  obtain rfl:k=l.length:=by omega
  rw [List.drop_length];rfl
 | d+1,k,cs,hd,hI=>by
  have hk:k<l.length:=by omega
  rw [List.drop_eq_getElem_cons hk]
  unfold z5w
  have hcf:z5v cs l[k]=false:=by
   cases h:z5v cs l[k] with
   | false=>rfl
   | true=>
    obtain⟨j,hj,_,c1,c2,c3⟩:=(hI.con hk).1 h
    exact absurd (h2 _ (List.getElem_mem hj) _ (List.getElem_mem hk) c1 c2) c3
  have hc:z8l cs l[k]=0:=by
   unfold z8l
   rw [hcf,h1 _ (List.getElem_mem hk)]
   decide
  rw [if_pos hc]
  exact z3q h1 h2 d (k+1) _ (by omega) (hI.next hk hcf)
theorem zjl {l:List Nte}:ze8 l=0↔l.length<=256/\(∀n∈l,zui n=0)/\∀a∈l,∀b∈l,a.dk=b.dk->a.nu=b.nu->a=b:=by
 constructor
 ·intro h
  have hI:=z8p h
  unfold ze8 at h
  split at h
  ·cases h
  ·refine⟨by omega,fun n hn=> ?_,fun a ha b hb h1 h2=> ?_⟩
   ·obtain⟨j,hj,rfl⟩:=List.getElem_of_mem hn
    exact z3p l.length 0 [] (by omega) h j hj (Nat.zero_le _)
   ·obtain⟨i,hi,rfl⟩:=List.getElem_of_mem ha
    obtain⟨j,hj,rfl⟩:=List.getElem_of_mem hb
    have g1:=hI.got i hi hi
    have g2:=hI.got j hj hj
    rw [h1,h2] at g1
    exact Option.some.inj (g1.symm.trans g2)
 ·rintro⟨h0,h1,h2⟩
  unfold ze8
  rw [if_neg (by omega)]
  exact z3q h1 h2 l.length 0 [] (by omega) (z5z.start l)
end Go.Proofs.YtmbofbehkalgkaaGreatDoor.Co
