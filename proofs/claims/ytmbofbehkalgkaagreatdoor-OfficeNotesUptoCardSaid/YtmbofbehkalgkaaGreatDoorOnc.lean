/-
  OfficeNotes: what its law leans on, part 3.
-/
import Derived.Laws.RangeAny
import Derived.Lib.SplitLaws
import Derived.Test.YtmbofbehkalgkaaGreatDoorAwR
import Derived.Test.YtmbofbehkalgkaaGreatDoorEvN
import Derived.Test.YtmbofbehkalgkaaGreatDoorEvX
import Derived.Test.YtmbofbehkalgkaaGreatDoorEvY
import Derived.Test.YtmbofbehkalgkaaGreatDoorRead
import Derived.Test.YtmbofbehkalgkaaGreatDoorSpBase
import Derived.Test.YtmbofbehkalgkaaGreatDoorOnb
namespace Go.Proofs.YtmbofbehkalgkaaGreatDoor.Co
open Go Go.Evl
set_option maxHeartbeats 32000000
set_option maxRecDepth 100000
def ygn (n:Nte):Bool:=decide (n.dk.length<=40)&&decide (n.tx.length<=120)
def yk4 (l:List Nte) (n:Int):Bool:= !((decide (n<l.length)&&decide (l.length<=256))||decide (258<l.length))&&l.all ygn
theorem zrk {dk:List UInt8} {nu:Int} {o:Nte}:∀ {cs:List Nte},zrj dk nu cs=some o->dk=o.dk/\nu=o.nu/\o∈cs
 | [],h=>by cases h
 | x::r,h=>by
  unfold zrj at h
  split at h
  ·rename_i c
   obtain rfl:=Option.some.inj h
   exact⟨c.1,c.2,List.mem_cons_self ..⟩
  ·obtain⟨a,b,c⟩:=zrk h
   exact⟨a,b,List.mem_cons_of_mem _ c⟩
theorem z34 {dk:List UInt8} {nu:Int} {o n:Nte}:∀ {cs:List Nte},zrj dk nu cs=some o->zrj dk nu (cs++[n])=some o
 | [],h=>by cases h
 | x::r,h=>by
  rw [List.cons_append]
  unfold zrj at h ⊢
  split at h
  ·rename_i c;rw [if_pos c];exact h
  ·rename_i c;rw [if_neg c];exact z34 h
theorem z33 {n:Nte}:∀ {cs:List Nte},zrj n.dk n.nu cs=none->zrj n.dk n.nu (cs++[n])=some n
 | [],_=>by simp [zrj]
 | x::r,h=>by
  rw [List.cons_append]
  unfold zrj at h ⊢
  split at h
  ·cases h
  ·rename_i c;rw [if_neg c];exact z33 h
structure z58 (l:List Nte) (k:Nat) (cs:List Nte):Prop where
 got:∀j (h:j<l.length),j<k->zrj l[j].dk l[j].nu cs=some l[j]
 mem:∀o∈cs,∃j,∃h:j<l.length,j<k/\l[j]=o
theorem z58.start (l:List Nte):z58 l 0 []:=⟨fun _ _ h=>absurd h (Nat.not_lt_zero _),fun _ h=>absurd h List.not_mem_nil⟩
theorem z58.next {l:List Nte} {k:Nat} {cs:List Nte} (h:z58 l k cs) (hk:k<l.length) (hc:z52 cs l[k]=false):z58 l (k+1) (z6a cs l[k]):=by
 unfold z52 at hc
 unfold z6a
 cases hg:zrj l[k].dk l[k].nu cs with
 | some o=>
  rw [hg] at hc
  simp only [Option.any_some,decide_eq_false_iff_not,ne_eq,Classical.not_not] at hc
  simp only [Option.isSome_some,if_true]
  refine⟨fun j hj hjk=> ?_,fun o ho=> ?_⟩
  ·by_cases e:j=k
   ·subst e;rw [hg,hc]
   ·exact h.got j hj (by omega)
  ·obtain⟨j,h1,h2,h3⟩:=h.mem o ho
   exact⟨j,h1,by omega,h3⟩
 | none=>
  simp only [Option.isSome_none,Bool.false_eq_true,if_false]
  refine⟨fun j hj hjk=> ?_,fun o ho=> ?_⟩
  ·by_cases e:j=k
   ·subst e;exact z33 hg
   ·exact z34 (h.got j hj (by omega))
  ·rcases List.mem_append.1 ho with ho|ho
   ·obtain⟨j,h1,h2,h3⟩:=h.mem o ho
    exact⟨j,h1,by omega,h3⟩
   ·rw [List.mem_singleton] at ho
    exact⟨k,hk,by omega,ho.symm⟩
def ym0 (l:List Nte) (j k:Nat) (hj:j<l.length) (hk:k<l.length):Prop:=l[j].dk=l[k].dk/\l[j].nu=l[k].nu/\l[j]≠l[k]
theorem z58.con {l:List Nte} {k:Nat} {cs:List Nte} (h:z58 l k cs) (hk:k<l.length):z52 cs l[k]=true↔∃j,∃hj:j<l.length,j<k/\ym0 l j k hj hk:=by
 unfold z52 ym0
 rw [Option.any_eq_true]
 constructor
 ·rintro⟨o,h1,h2⟩
  obtain⟨a,b,c⟩:=zrk h1
  obtain⟨j,hj,hjk,rfl⟩:=h.mem o c
  exact⟨j,hj,hjk,a.symm,b.symm,by simpa using h2⟩
 ·rintro⟨j,hj,hjk,a,b,c⟩
  refine⟨l[j],?_,by simpa using c⟩
  rw [<-a,<-b]
  exact h.got j hj hjk
theorem Nte.ext4 {a b:Nte} (h:a.dk=b.dk/\a.nu=b.nu/\a.da=b.da/\a.tx=b.tx):a=b:=by
 cases a;cases b
 obtain⟨h1,h2,h3,h4⟩:=h
 simp only at h1 h2 h3 h4
 rw [h1,h2,h3,h4]
section
variable {E : Oracle} (g : Good E)
include g
theorem z8k (l:List Nte) (hl:l.length<=1048576):Fc E zhd [LNt l] (LNt l):=by
 refine g.fn rfl rfl ?_
 repeat' ((conv=>whnf);first
 | refine Yz ?_)
 refine zao.to (zao.up g (fun k=>[(3,.ref ⟨0,3,0⟩ 0 k k),(6,LNt l),(7,I l.length),(8,I k)])
  (fun k=>[(⟨0,2,0⟩,.row false zam 4 0 []),(⟨0,3,0⟩,.row false zam 4 k ((l.take k).flatMap Nte.cells))]) l.length (fun k hk ih=> ?_) 0 (Nat.zero_le _)) rfl rfl
 by_cases hlt:k<l.length
 ·have ih:=ih hlt
  have e:(l.take (k+1)).flatMap Nte.cells=(l.take k).flatMap Nte.cells++l[k].cells:=by
   rw [List.take_add_one,List.getElem?_eq_getElem hlt,List.flatMap_append]
   simp
  rw [e] at ih
  repeat' ((conv=>whnf);first
  | refine Yz ?_
   | (refine zf8.rec zjn k rfl hlt ?_)
   | (refine zao.to ih rfl rfl)
   | fail)
 ·obtain rfl:k=l.length:=by omega
  clear ih
  rw [List.take_length]
  repeat' ((conv=>whnf);first
  | refine Yz ?_
   | (refine Ret.mk ?_)
   | fail)
  exact congrArg (fun z=>V.d (.list l.length z)) (if_pos ⟨rfl,rfl⟩)
theorem ye8 (l:List Nte) (hl:l.length<=1000000):Fc E zh8 [LNt l,LNt l] (B true):=by
 refine g.fn rfl rfl ?_
 repeat' ((conv=>whnf);first
 | refine Yz ?_
  | (refine Cmp.tt rfl ?_)
  | fail)
 refine zao.to (zao.up g (fun k=>[(0,LNt l),(1,LNt l),(5,I k)]) (fun _=>[]) l.length (fun k hk ih=> ?_) 0 (Nat.zero_le _)) rfl rfl
 by_cases hlt:k<l.length
 ·have ih:=ih hlt
  repeat' ((conv=>whnf);first
  | refine Yz ?_
   | (refine zf8.rec zjn k rfl hlt ?_)
   | (refine Cmp.tt ⟨rfl,rfl,rfl,rfl⟩ ?_)
   | (refine zao.to ih rfl rfl)
   | fail)
 ·repeat' ((conv=>whnf);first
 | refine Yz ?_
   | (refine Ret.mk rfl)
   | fail)
theorem z7s (n:Nte):Fc E zib [Ntv n] (I (ztv n)):=by
 obtain⟨dk,nu,da,tx⟩:=n
 have h1:=yhq g dk
 have h2:=zxo g nu 1 999999999
 have h3:=zxo g da 0 99999
 have h4:=zxo g tx.length 1 80
 refine g.fn rfl rfl ?_
 cases hA:zdt dk
 ·have hc:ztv ⟨dk,nu,da,tx⟩=8:=by simp [ztv,zbf,hA]
  rw [hc]
  rw [hA] at h1
  repeat' ((conv=>whnf);first
  | refine Yz ?_
   | (apply zaz.of;assumption)
   | (refine Ret.mk rfl)
   | fail)
 ·rw [hA] at h1
  by_cases hB:nu<1\/999999999<nu
  ·have hc:ztv ⟨dk,nu,da,tx⟩=3:=by
    have:rng nu 1 999999999=3:=by unfold rng;rw [if_pos hB]
    simp [ztv,zbf,hA,this]
   rw [hc]
   rw [decide_eq_true hB] at h2
   repeat' ((conv=>whnf);first
   | refine Yz ?_
    | (apply zaz.of;assumption)
    | (refine Ret.mk rfl)
    | fail)
  ·have e2:rng nu 1 999999999=0:=by unfold rng;rw [if_neg hB]
   rw [decide_eq_false hB] at h2
   by_cases hC:da<0\/99999<da
   ·have hc:ztv ⟨dk,nu,da,tx⟩=3:=by
     have:rng da 0 99999=3:=by unfold rng;rw [if_pos hC]
     simp [ztv,zbf,hA,e2,this]
    rw [hc]
    rw [decide_eq_true hC] at h3
    repeat' ((conv=>whnf);first
    | refine Yz ?_
     | (apply zaz.of;assumption)
     | (refine Ret.mk rfl)
     | fail)
   ·have e3:rng da 0 99999=0:=by unfold rng;rw [if_neg hC]
    rw [decide_eq_false hC] at h3
    by_cases hD:(tx.length:Int)<1\/80<(tx.length:Int)
    ·have hc:ztv ⟨dk,nu,da,tx⟩=1:=by
      have:tx=[]\/80<tx.length\/tx.any zx6=true:=by
       rcases hD with h|h
       ·exact .inl (List.length_eq_zero_iff.1 (by omega))
       ·exact .inr (.inl (by omega))
      simp only [ztv,zbf,hA,e2,e3,if_pos this]
      decide
     rw [hc]
     rw [decide_eq_true hD] at h4
     repeat' ((conv=>whnf);first
     | refine Yz ?_
      | (apply zaz.of;assumption)
      | (refine Ret.mk rfl)
      | fail)
    ·rw [decide_eq_false hD] at h4
     have hc:ztv ⟨dk,nu,da,tx⟩=if tx.any zx6=true then 1 else 0:=by
      have h5:tx≠[]:=fun h=>hD (.inl (by rw [h];decide))
      have h6:¬ 80<tx.length:=by omega
      simp only [ztv,zbf,hA,e2,e3,h5,h6,false_or,Bool.not_true,Bool.false_eq_true,if_false]
      cases tx.any zx6<;>simp
     rw [hc]
     repeat' ((conv=>whnf);first
     | refine Yz ?_
      | (apply zaz.of;assumption)
      | fail)
     refine zao.to (zao.upP g (fun k=>[(1,.ptr ⟨0,1,0⟩ 0 0),(3,I k)]) (fun _=>[(⟨0,1,0⟩,.cells zam [S dk,I nu,I da,S tx])]) (fun k=>(tx.take k).any zx6=false) tx.length (fun k hk hP ih=> ?_) 0 (Nat.zero_le _) rfl) rfl rfl
     by_cases hlt:k<tx.length
     ·have hb:=tx[k].toNat_lt
      have e:(tx.take (k+1)).any zx6=((tx.take k).any zx6||zx6 tx[k]):=by
       rw [List.take_add_one,List.getElem?_eq_getElem hlt,List.any_append]
       simp
      by_cases ho:zx6 tx[k]=true
      ·have hall:tx.any zx6=true:=List.any_eq_true.2 ⟨_,List.getElem_mem hlt,ho⟩
       rw [hall]
       have ho':tx[k].toNat<32\/126<tx[k].toNat:=by simpa [zx6] using ho
       rcases ho' with ho'|ho'
       all_goals
        repeat' ((conv=>whnf);first
        | refine Yz ?_
         | (refine z59.mk ⟨_,List.getElem?_eq_getElem hlt,?_⟩)
         | (refine Ret.mk rfl)
         | fail)
      ·have ho':¬(tx[k].toNat<32\/126<tx[k].toNat):=by simpa [zx6] using ho
       have ih:=ih hlt (by rw [e,hP];simpa using ho)
       repeat' ((conv=>whnf);first
       | refine Yz ?_
        | (refine z59.mk ⟨_,List.getElem?_eq_getElem hlt,?_⟩)
        | (refine zao.to ih rfl rfl)
        | fail)
     ·obtain rfl:k=tx.length:=by omega
      rw [List.take_length] at hP
      rw [hP]
      repeat' ((conv=>whnf);first
      | refine Yz ?_
       | (refine Ret.mk rfl)
       | fail)
theorem yhr (l:List Nte) (n:Int):Fc E zhe [LNt l,I n] (B (yk4 l n)):=by
 refine g.fn rfl rfl ?_
 unfold yk4
 by_cases h1:n<l.length/\l.length<=256
 ·rw [decide_eq_true h1.1,decide_eq_true h1.2]
  repeat' ((conv=>whnf);first
  | refine Yz ?_
   | (refine Ret.mk rfl)
   | fail)
 ·have e1:(decide (n<(l.length:Int))&&decide (l.length<=256))=false:=by
   rw [Bool.and_eq_false_iff,decide_eq_false_iff_not,decide_eq_false_iff_not]
   omega
  rw [e1]
  by_cases h2:258<l.length
  ·rw [decide_eq_true h2]
   repeat' ((conv=>whnf);first
   | refine Yz ?_
    | (refine Cmp.mk (fun h=> ?_) (fun h=> ?_))|(refine Rem.any (by omega) (fun r hr he=> ?_))|(refine Br.mk (fun h=> ?_) (fun h=> ?_))
    | (refine Ret.mk rfl)
    | fail)
  ·rw [decide_eq_false h2]
   generalize hR:l.all ygn=R
   repeat' ((conv=>whnf);first
   | refine Yz ?_
    | (refine Cmp.mk (fun h=> ?_) (fun h=> ?_))|(refine Rem.any (by omega) (fun r hr he=> ?_))|(refine Br.mk (fun h=> ?_) (fun h=> ?_))
    | (exfalso;omega)
    | fail)
   all_goals
    refine zao.to (zao.upP g (fun k=>[(0,LNt l),(5,I k)]) (fun _=>[]) (fun k=>(l.take k).all ygn=true) l.length (fun k hk hP ih=> ?_) 0 (Nat.zero_le _) rfl) rfl rfl
    by_cases hlt:k<l.length
    ·have e:(l.take (k+1)).all ygn=((l.take k).all ygn&&ygn l[k]):=by
      rw [List.take_add_one,List.getElem?_eq_getElem hlt,List.all_append]
      simp
     by_cases hs:ygn l[k]=true
     ·have ih:=ih hlt (by rw [e,hP,hs];rfl)
      have hs':l[k].dk.length<=40/\l[k].tx.length<=120:=by simpa [ygn] using hs
      repeat' ((conv=>whnf);first
      | refine Yz ?_
       | (refine zgz.rec zjn k rfl hlt rfl ?_)
       | (refine zgz.rec0 zjn k rfl hlt rfl ?_)
       | (refine zao.to ih rfl rfl)
       | fail)
     ·have hR':R=false:=by
       rw [<-hR]
       cases h:l.all ygn with
       | false=>rfl
       | true=>exact absurd (List.all_eq_true.1 h _ (List.getElem_mem hlt)) hs
      subst hR'
      have hs':¬(l[k].dk.length<=40/\l[k].tx.length<=120):=by simpa [ygn] using hs
      repeat' ((conv=>whnf);first
      | refine Yz ?_
       | (refine zgz.rec zjn k rfl hlt rfl ?_)
       | (refine zgz.rec0 zjn k rfl hlt rfl ?_)
       | (refine Cmp.mk (fun h=> ?_) (fun h=> ?_))|(refine Rem.any (by omega) (fun r hr he=> ?_))|(refine Br.mk (fun h=> ?_) (fun h=> ?_))
       | (refine Ret.mk rfl)
       | (exfalso;omega)
       | fail)
    ·obtain rfl:k=l.length:=by omega
     rw [List.take_length,hR] at hP
     subst hP
     repeat' ((conv=>whnf);first
     | refine Yz ?_
      | (refine Ret.mk rfl)
      | fail)
theorem z2a (l:List Nte) (hl:l.length<=1048576):Fc E zfa [LNt l] (I (zdc l)):=by
 refine g.fn rfl rfl ?_
 by_cases hn:256<l.length
 ·have hc:zdc l=5:=by unfold zdc;rw [if_pos hn]
  rw [hc]
  repeat' ((conv=>whnf);first
  | refine Yz ?_
   | (refine Ret.mk rfl)
   | fail)
 ·have hc:zdc l=z54 [] l:=by unfold zdc;rw [if_neg hn]
  rw [hc]
  generalize hT:z54 [] l=T
  repeat' ((conv=>whnf);first
  | refine Yz ?_
   | fail)
  refine zao.to (zao.upP g (fun k=>[(0,LNt l),(3,I k)]) (fun _=>[]) (fun k=>z54 (zdz (l.take k)) (l.drop k)=T/\z58 l k (zdz (l.take k))) l.length (fun k hk hP ih=> ?_) 0 (Nat.zero_le _) ⟨hT,z58.start l⟩) rfl rfl
  obtain⟨hP,hI⟩:=hP
  by_cases hlt:k<l.length
  ·have ih:=ih hlt
   have h1:=z7s g l[k]
   rw [z3m l k hlt] at ih
   rw [List.drop_eq_getElem_cons hlt] at hP
   unfold z54 at hP
   generalize zdz (l.take k)=cs at *
   have hcn:z8y cs l[k]=zbf [ztv l[k],if z52 cs l[k]=true then 29 else 0]:=rfl
   by_cases hz:ztv l[k]=0
   ·rw [hz] at h1
    rw [hz] at hcn
    repeat' ((conv=>whnf);first
    | refine Yz ?_
     | (apply zaz.of;assumption)
     | (refine zf8.rec zjn k rfl hlt ?_)
     | fail)
    refine zao.to (zao.upP g (fun j=>[(0,LNt l),(3,I k),(5,I j)]) (fun _=>[]) (fun j=>∀i (h:i<l.length),i<j->¬ym0 l i k h hlt) k (fun j hj hQ ih2=> ?_) 0 (Nat.zero_le _) (fun _ _ h=>absurd h (Nat.not_lt_zero _))) rfl rfl
    by_cases hj2:j<k
    ·have hjl:j<l.length:=by omega
     have ih2:=ih2 hj2
     by_cases hcon:ym0 l j k hjl hlt
     ·have hcf:z52 cs l[k]=true:=(hI.con hlt).2 ⟨j,hjl,hj2,hcon⟩
      rw [hcf] at hcn
      have hcn:z8y cs l[k]=29:=by rw [hcn];decide
      rw [hcn,if_neg (by decide)] at hP
      rw [<-hP]
      obtain⟨c1,c2,c3⟩:=hcon
      have c4:¬(l[j].dk=l[k].dk/\l[j].nu=l[k].nu/\l[j].da=l[k].da/\l[j].tx=l[k].tx):=fun h=>c3 (Nte.ext4 h)
      repeat' ((conv=>whnf);first
      | refine Yz ?_
       | (refine zgz.rec zjn j rfl hjl rfl ?_)
       | (refine zgz.rec zjn k rfl hlt rfl ?_)
       | (refine zf8.rec zjn j rfl hjl ?_)
       | (refine zf8.rec zjn k rfl hlt ?_)
       | (refine Cmp.tt c1 ?_)
       | (refine Cmp.tt c2 ?_)
       | (refine Cmp.ff c4 ?_)
       | (refine Ret.mk rfl)
       | fail)
     ·have ih2:=ih2 (fun i h hi=>by
       by_cases e:i=j
       ·subst e;exact hcon
       ·exact hQ i h (by omega))
      by_cases c1:l[j].dk=l[k].dk
      ·by_cases c2:l[j].nu=l[k].nu
       ·have c4:l[j].dk=l[k].dk/\l[j].nu=l[k].nu/\l[j].da=l[k].da/\l[j].tx=l[k].tx:=by
         have:l[j]=l[k]:=Classical.not_not.1 fun h=>hcon ⟨c1,c2,h⟩
         rw [this];exact⟨rfl,rfl,rfl,rfl⟩
        repeat' ((conv=>whnf);first
        | refine Yz ?_
         | (refine zgz.rec zjn j rfl hjl rfl ?_)
         | (refine zgz.rec zjn k rfl hlt rfl ?_)
         | (refine zf8.rec zjn j rfl hjl ?_)
         | (refine zf8.rec zjn k rfl hlt ?_)
         | (refine Cmp.tt c1 ?_)
         | (refine Cmp.tt c2 ?_)
         | (refine Cmp.tt c4 ?_)
         | (refine zao.to ih2 rfl rfl)
         | fail)
       ·repeat' ((conv=>whnf);first
       | refine Yz ?_
         | (refine zgz.rec zjn j rfl hjl rfl ?_)
         | (refine zgz.rec zjn k rfl hlt rfl ?_)
         | (refine Cmp.tt c1 ?_)
         | (refine Cmp.ff c2 ?_)
         | (refine zao.to ih2 rfl rfl)
         | fail)
      ·repeat' ((conv=>whnf);first
      | refine Yz ?_
        | (refine zgz.rec zjn j rfl hjl rfl ?_)
        | (refine zgz.rec zjn k rfl hlt rfl ?_)
        | (refine Cmp.ff c1 ?_)
        | (refine zao.to ih2 rfl rfl)
        | fail)
    ·obtain rfl:j=k:=by omega
     clear ih2
     have hcf:z52 cs l[j]=false:=by
      cases h:z52 cs l[j] with
      | false=>rfl
      | true=>
       obtain⟨i,hi,hij,hcon⟩:=(hI.con hlt).1 h
       exact absurd hcon (hQ i hi hij)
     rw [hcf] at hcn
     have hcn:z8y cs l[j]=0:=by rw [hcn];decide
     rw [if_pos hcn] at hP
     have ih:=ih ⟨hP,hI.next hlt hcf⟩
     repeat' ((conv=>whnf);first
     | refine Yz ?_
      | (refine zao.to ih rfl rfl)
      | fail)
   ·have hcz:z8y cs l[k]=ztv l[k]:=by
     rw [hcn]
     unfold zbf
     rw [if_neg hz]
    rw [hcz,if_neg hz] at hP
    rw [<-hP]
    repeat' ((conv=>whnf);first
    | refine Yz ?_
     | (apply zaz.of;assumption)
     | (refine zf8.rec zjn k rfl hlt ?_)
     | (refine Cmp.tt hz ?_)
     | (refine Ret.mk rfl)
     | fail)
  ·obtain rfl:k=l.length:=by omega
   rw [List.drop_length] at hP
   have hz:T=0:=hP.symm
   subst hz
   repeat' ((conv=>whnf);first
   | refine Yz ?_
    | (refine Ret.mk rfl)
    | fail)
end
def ycj (l:List Int) (i j:Nat):List Int:=(l.set i (l.getD j 0)).set j (l.getD i 0)
def idL (n:Nat):List Int:=(List.range n).map fun(i:Nat)=>(i:Int)
theorem zzh (n:Nat):(idL n).length=n:=by simp [idL]
theorem z5r (l:List Int) (i j:Nat):(ycj l i j).length=l.length:=by simp [ycj]
theorem zid (l:List Int) (i k:Nat) (v:Int) (h:i<l.length):(l.set i v).getD k 0=if i=k then v else l.getD k 0:=by
 simp only [List.getD,List.getElem?_set]
 split
 ·subst_vars;simp
 ·rfl
theorem ybe (l:List Int) (i j k:Nat) (hi:i<l.length) (hj:j<l.length):(ycj l i j).getD k 0=if j=k then l.getD i 0 else if i=k then l.getD j 0 else l.getD k 0:=by
 unfold ycj
 rw [zid _ _ _ _ (by simpa using hj),zid _ _ _ _ hi]
structure Ord (n:Nat) (l:List Int):Prop where
 len:l.length=n
 rng:∀k,k<n->0<=l.getD k 0/\l.getD k 0<n
 inj:∀i j,i<n->j<n->l.getD i 0=l.getD j 0->i=j
theorem Ord.swap {n:Nat} {l:List Int} (h:Ord n l) {i j:Nat} (hi:i<n) (hj:j<n):Ord n (ycj l i j):=by
 have hl:=h.len
 have e:∀k,(ycj l i j).getD k 0=l.getD (if j=k then i else if i=k then j else k) 0:=fun k=>by
  rw [ybe l i j k (by omega) (by omega)]
  split
  ·rfl
  ·split<;>rfl
 refine⟨by rw [z5r];exact hl,fun k hk=> ?_,fun a b ha hb hab=> ?_⟩
 ·rw [e]
  refine h.rng _ ?_
  split
  ·exact hi
  ·split
   ·exact hj
   ·exact hk
 ·rw [e,e] at hab
  have:=h.inj _ _ (by split;exact hi;split;exact hj;exact ha) (by split;exact hi;split;exact hj;exact hb) hab
  split at this<;>split at this<;>(try split at this)<;>(try split at this)<;>omega
theorem Ord.id (n:Nat):Ord n (idL n):=by
 have e:∀k,k<n->(idL n).getD k 0=k:=fun k hk=>by simp [idL,List.getD,hk]
 refine⟨zzh n,fun k hk=> ?_,fun i j hi hj h=> ?_⟩
 ·rw [e k hk];omega
 ·rw [e i hi,e j hj] at h;omega
structure Tot (n:Nat) (lt:Int->Int->Bool):Prop where
 irr:∀a:Int,lt a a=false
 tr:∀a b c:Int,a∈idL n->b∈idL n->c∈idL n->lt a b=true->lt b c=true->lt a c=true
 tot:∀a b:Int,a∈idL n->b∈idL n->a≠b->lt a b=false->lt b a=true
structure Srt (n:Nat) (lt:Int->Int->Bool) (l:List Int):Prop where
 pm:l.Perm (idL n)
 up:l.Pairwise fun a b=>lt a b=true
theorem Srt.len {n:Nat} {lt:Int->Int->Bool} {l:List Int} (h:Srt n lt l):l.length=n:=by
 rw [h.pm.length_eq,zzh]
theorem Srt.mem {n:Nat} {lt:Int->Int->Bool} {l:List Int} (h:Srt n lt l) {k:Nat} (hk:k<l.length):l[k]∈idL n:=h.pm.mem_iff.1 (List.getElem_mem hk)
structure Ins (lt:Int->Int->Bool) (s:List Int) (x:Int) (p q:List Int):Prop where
 eq:p++q=s
 lo:∀y∈q,lt x y=true
theorem Ins.start {lt:Int->Int->Bool} (s:List Int) (x:Int):Ins lt s x s []:=⟨by simp,by simp⟩
theorem Ins.step {lt:Int->Int->Bool} {s p q:List Int} {x y:Int} (h:Ins lt s x (p++[y]) q) (hy:lt x y=true):Ins lt s x p (y::q):=by
 refine⟨by rw [<-h.eq];simp,fun z hz=> ?_⟩
 rcases List.mem_cons.1 hz with rfl|hz
 ·exact hy
 ·exact h.lo z hz
theorem Ins.done {n:Nat} {lt:Int->Int->Bool} {s p q:List Int} {x:Int} (t:Tot n lt) (hs:s.Pairwise fun a b=>lt a b=true) (hm:∀y∈s,y∈idL n) (hx:x∈idL n) (hn:x∉s) (h:Ins lt s x p q)
  (he:p=[]\/∃p' y,p=p'++[y]/\lt x y=false):(p++x::q).Pairwise fun a b=>lt a b=true:=by
 obtain⟨rfl,lo⟩:=h
 have h0:=List.pairwise_append.1 hs
 refine List.pairwise_append.2 ⟨h0.1,List.pairwise_cons.2 ⟨lo,h0.2.1⟩,fun a ha b hb=> ?_⟩
 rcases List.mem_cons.1 hb with rfl|hb
 ·rcases he with rfl|⟨p',y,rfl,hy⟩
  ·cases ha
  ·have hym:y∈idL n:=hm y (by simp)
   have hyx:lt y b=true:=t.tot b y hx hym (fun e=>hn (by subst e;simp)) hy
   rcases List.mem_append.1 ha with ha|ha
   ·have hay:lt a y=true:=(List.pairwise_append.1 h0.1).2.2 a ha y (by simp)
    exact t.tr a y b (hm a (by simp [ha])) hym hx hay hyx
   ·rw [List.mem_singleton.1 ha]
    exact hyx
 ·exact h0.2.2 a ha b hb
theorem strLess_irr:∀s:List UInt8,zag s s=false
 | []=>rfl
 | a::r=>by simp [zag,strLess_irr r]
theorem zob {a b:UInt8} {x y:List UInt8}:zag (a::x) (b::y)=true↔a<b\/(a=b/\zag x y=true):=by
 simp [zag]
theorem strLess_trans:∀ {a b c:List UInt8},zag a b=true->zag b c=true->zag a c=true
 | _,_,[],_,h=>by simp [zag] at h
 | _,[],_::_,h,_=>by simp [zag] at h
 | [],_::_,_::_,_,_=>rfl
 | x::a,y::b,z::c,h1,h2=>by
  rw [zob] at h1 h2 ⊢
  rcases h1 with h1|⟨rfl,h1⟩
  ·rcases h2 with h2|⟨rfl,_⟩
   ·exact .inl (UInt8.lt_trans h1 h2)
   ·exact .inl h1
  ·rcases h2 with h2|⟨rfl,h2⟩
   ·exact .inl h2
   ·exact .inr ⟨rfl,strLess_trans h1 h2⟩
theorem zx0:∀ {a b:List UInt8},a≠b->zag a b=false->zag b a=true
 | [],[],h,_=>absurd rfl h
 | [],_::_,_,h=>by simp [zag] at h
 | _::_,[],_,_=>rfl
 | x::a,y::b,h,h2=>by
  rw [zob]
  have hn:¬(x<y\/(x=y/\zag a b=true)):=fun hc=>by rw [zob.2 hc] at h2;cases h2
  by_cases e:x=y
  ·subst e
   refine .inr ⟨rfl,zx0 (fun hc=>h (by rw [hc])) ?_⟩
   cases hc:zag a b with
   | false=>rfl
   | true=>exact absurd (.inr ⟨rfl,hc⟩) hn
  ·left
   have h3:¬x<y:=fun hc=>hn (.inl hc)
   rcases UInt8.lt_or_lt_of_ne e with h4|h4
   ·exact absurd h4 h3
   ·exact h4
def yjp (a b:List UInt8):Int:=if zag a b=true then -1 else if a=b then 0 else 1
theorem yjq (a b:List UInt8):yjp a b<0↔zag a b=true:=by
 unfold yjp
 split
 ·simp [*]
 ·split<;>simp [*,strLess_irr]
def yiq (a b:Int):Int:=if a<b then -1 else if b<a then 1 else 0
structure yn0 {α:Type} (S:List α) (lt:α->α->Bool):Prop where
 irr:∀a,lt a a=false
 tr:∀a b c,lt a b=true->lt b c=true->lt a c=true
 tot:∀a b,a∈S->b∈S->a≠b->lt a b=false->lt b a=true
structure yjd {α:Type} (lt:α->α->Bool) (s:List α) (x:α) (p q:List α):Prop where
 eq:p++q=s
 lo:∀y∈q,lt x y=true
theorem yjd.start {α:Type} {lt:α->α->Bool} (s:List α) (x:α):yjd lt s x s []:=⟨by simp,by simp⟩
theorem yjd.step {α:Type} {lt:α->α->Bool} {s p q:List α} {x y:α} (h:yjd lt s x (p++[y]) q) (hy:lt x y=true):yjd lt s x p (y::q):=by
 refine⟨by rw [<-h.eq];simp,fun z hz=> ?_⟩
 rcases List.mem_cons.1 hz with rfl|hz
 ·exact hy
 ·exact h.lo z hz
theorem yjd.done {α:Type} {S:List α} {lt:α->α->Bool} {s p q:List α} {x:α} (t:yn0 S lt) (hs:s.Pairwise fun a b=>lt a b=true) (hm:∀y∈s,y∈S) (hx:x∈S) (hn:x∉s) (h:yjd lt s x p q)
  (he:p=[]\/∃p' y,p=p'++[y]/\lt x y=false):(p++x::q).Pairwise fun a b=>lt a b=true:=by
 obtain⟨rfl,lo⟩:=h
 have h0:=List.pairwise_append.1 hs
 refine List.pairwise_append.2 ⟨h0.1,List.pairwise_cons.2 ⟨lo,h0.2.1⟩,fun a ha b hb=> ?_⟩
 rcases List.mem_cons.1 hb with rfl|hb
 ·rcases he with rfl|⟨p',y,rfl,hy⟩
  ·cases ha
  ·have hyx:lt y b=true:=t.tot b y hx (hm y (by simp)) (fun e=>hn (by rw [e];simp)) hy
   rcases List.mem_append.1 ha with ha|ha
   ·exact t.tr a y b ((List.pairwise_append.1 h0.1).2.2 a ha y (by simp)) hyx
   ·rw [List.mem_singleton] at ha
    subst ha
    exact hyx
 ·exact h0.2.2 a ha b hb
theorem z2m {α:Type} {lt:α->α->Bool} (irr:∀a,lt a a=false) (tr:∀a b c,lt a b=true->lt b c=true->lt a c=true):∀ {a b:List α},a.Perm b->(a.Pairwise fun x y=>lt x y=true)->(b.Pairwise fun x y=>lt x y=true)->a=b
 | [],b,h,_,_=>by
  have:=h.length_eq
  cases b with
  | nil=>rfl
  | cons _ _=>simp at this
 | x::a,[],h,_,_=>by
  have:=h.length_eq
  simp at this
 | x::a,y::b,h,ha,hb=>by
  have hxy:x=y:=by
   have h1:x∈y::b:=h.mem_iff.1 (by simp)
   have h2:y∈x::a:=h.mem_iff.2 (by simp)
   rcases List.mem_cons.1 h1 with e|h1
   ·exact e
   ·rcases List.mem_cons.1 h2 with e|h2
    ·exact e.symm
    ·have l1:=(List.pairwise_cons.1 ha).1 y h2
     have l2:=(List.pairwise_cons.1 hb).1 x h1
     have:=tr x y x l1 l2
     rw [irr] at this
     cases this
  subst hxy
  rw [z2m irr tr (List.Perm.cons_inv h) (List.pairwise_cons.1 ha).2 (List.pairwise_cons.1 hb).2]
def yn3 (a b:Nte):Int:=if yiq a.da b.da≠0 then yiq a.da b.da else if yjp a.dk b.dk≠0 then yjp a.dk b.dk else yiq a.nu b.nu
def zna (a b:Nte):Bool:=decide (yn3 a b<0)
theorem ydb (a b:Int):yiq a b<0↔a<b:=by
 unfold yiq
 repeat' split
 all_goals omega
theorem z3f (a b:Int):yiq a b=0↔a=b:=by
 unfold yiq
 repeat' split
 all_goals omega
theorem z3g (a b:List UInt8):yjp a b=0↔a=b:=by
 unfold yjp
 split
 ·rename_i h
  constructor
  ·intro h;exact absurd h (by decide)
  ·intro e
   rw [e,strLess_irr] at h
   cases h
 ·split<;>simp [*]
theorem zxd (a b:Nte):zna a b=true↔a.da<b.da\/(a.da=b.da/\(zag a.dk b.dk=true\/(a.dk=b.dk/\a.nu<b.nu))):=by
 unfold zna yn3
 rw [decide_eq_true_eq]
 by_cases h1:yiq a.da b.da=0
 ·rw [if_neg (fun h=>h h1)]
  have e1:=(z3f _ _).1 h1
  by_cases h2:yjp a.dk b.dk=0
  ·rw [if_neg (fun h=>h h2),ydb]
   have e2:=(z3g _ _).1 h2
   rw [e2,strLess_irr]
   simp [e1]
  ·rw [if_pos h2,yjq]
   have e2:a.dk≠b.dk:=fun h=>h2 ((z3g _ _).2 h)
   simp [e1,e2]
 ·rw [if_pos h1,ydb]
  have e1:a.da≠b.da:=fun h=>h1 ((z3f _ _).2 h)
  simp [e1]
theorem z1r (a:Nte):zna a a=false:=by
 cases h:zna a a with
 | false=>rfl
 | true=>
  have:=(zxd a a).1 h
  rw [strLess_irr] at this
  simp at this
theorem z4g (a b c:Nte) (h1:zna a b=true) (h2:zna b c=true):zna a c=true:=by
 rw [zxd] at h1 h2 ⊢
 rcases h1 with h1|⟨e1,h1⟩
 ·rcases h2 with h2|⟨e2,_⟩
  ·exact .inl (by omega)
  ·exact .inl (by omega)
 ·rcases h2 with h2|⟨e2,h2⟩
  ·exact .inl (by omega)
  ·refine .inr ⟨by omega,?_⟩
   rcases h1 with h1|⟨d1,h1⟩
   ·rcases h2 with h2|⟨d2,_⟩
    ·exact .inl (strLess_trans h1 h2)
    ·exact .inl (by rw [<-d2];exact h1)
   ·rcases h2 with h2|⟨d2,h2⟩
    ·exact .inl (by rw [d1];exact h2)
    ·exact .inr ⟨by rw [d1,d2],by omega⟩
theorem z1s (a b:Nte) (hk:¬(a.dk=b.dk/\a.nu=b.nu)) (h:zna a b=false):zna b a=true:=by
 have hn:¬(a.da<b.da\/(a.da=b.da/\(zag a.dk b.dk=true\/(a.dk=b.dk/\a.nu<b.nu)))):=fun hc=>by
  rw [(zxd a b).2 hc] at h;cases h
 rw [zxd]
 by_cases e:a.da=b.da
 ·refine .inr ⟨e.symm,?_⟩
  by_cases d:a.dk=b.dk
  ·exact .inr ⟨d.symm,by
    have:¬a.nu<b.nu:=fun hc=>hn (.inr ⟨e,.inr ⟨d,hc⟩⟩)
    have:a.nu≠b.nu:=fun hc=>hk ⟨d,hc⟩
    omega⟩
  ·refine .inl (zx0 d ?_)
   cases hs:zag a.dk b.dk with
   | false=>rfl
   | true=>exact absurd (.inr ⟨e,.inl hs⟩) hn
 ·have:¬a.da<b.da:=fun hc=>hn (.inl hc)
  exact .inl (by omega)
theorem zsk {α β:Type} {f:α->Option β} {p:β}:∀ {l:List α},(∀a∈l,f a=some p)->z8q f l=some (l.map fun _=>p)
 | [],_=>rfl
 | a::l,h=>by
  unfold z8q
  rw [h a (by simp),Option.bind_some,zsk fun b hb=>h b (by simp [hb])]
  rfl
theorem z0m {α β:Type} {f:α->Option β} {p:α->β}:∀ {l:List α},(∀a∈l,f a=some (p a))->z8q f l=some (l.map p)
 | [],_=>rfl
 | a::l,h=>by
  unfold z8q
  rw [h a (by simp),Option.bind_some,z0m fun b hb=>h b (by simp [hb])]
  rfl
theorem zpi (sz:Nat):∀(n:Nat) (ds:List D),ds.length=n*sz->(zfk sz n ds).flatten=ds
 | 0,ds,h=>by
  have:ds=[]:=List.length_eq_zero_iff.1 (by omega)
  subst this
  rfl
 | n+1,ds,h=>by
  rw [Nat.succ_mul] at h
  rw [zfk,List.flatten_cons,zpi sz n (ds.drop sz) (by rw [List.length_drop];omega),List.take_append_drop]
theorem ztc {run:Mem->Option (V×Mem)} {m:Mem} {o:Evl.Id} {a b c t n:Nat} {xs:List D} (hl:Evl.look m o=some (.bag t 1 n xs)) (hx:xs.length=n) (p:V×Mem)
  (hr:∀l:List D,l.Perm xs->run (upd m o (.row true t 1 n l))=some p) (hle:leM m p.2 (zfe false m p.2)=true):zh3 run m (.ref o a b c)=some (p.1,zfe false m p.2):=by
 have hx1:xs.length=n*1:=by omega
 unfold zh3
 simp only [hl]
 rw [if_pos hx1,hr xs (List.Perm.refl _),Option.bind_some]
 have hall:z8q (fun l=>run (upd m o (.row true t 1 n l.flatten))) (zql (zfk 1 n xs))=some ((zql (zfk 1 n xs)).map fun _=>p):=by
  refine zsk fun l hl'=>hr _ ?_
  have h1:=(zim _ _).1 hl'
  have h2:=h1.flatten
  rwa [zpi 1 n xs hx1] at h2
 rw [hall,Option.bind_some]
 unfold zuw
 rw [if_pos]
 rw [List.all_eq_true]
 intro q hq
 obtain⟨_,_,rfl⟩:=List.mem_map.1 hq
 rw [zoh,hle]
 rfl
theorem zu0:∀e:Env,yit e e=true
 | []=>rfl
 | (t,v)::r=>by simp [yit,zoh,zu0 r]
theorem zov {body:Env->Mem->Option (Ex×Env×Mem)} {cx:Cx} {it:Nat} {x:Opd} {out nxt pair:Nat} {live:List Nat} {e1:Env} {m1:Mem} {o:Evl.Id} {es:List (D×V)} (hx:x.ev e1= .mp o) (hl:Evl.look m1 o=some (.map es))
  {i:Evl.Id} {m2:Mem} {e2 e3:Env} (hi:Evl.newId cx it m1=i) (hm:upd (upd m1 i .gone) o .gone=m2) (he:only live (put e1 it (.it i))=e2) (R:List (D×V)->Mem)
  (hr:∀p,p.Perm es->zcl body it i out nxt pair live (zhi m2) p e2 m2=some (.normal,e3,R p)) {mj:Mem} (hj:zfe true m2 (R es)=mj) (hle:∀p,p.Perm es->leM m2 (R p) mj=true) (hg:Evl.look mj o=some .gone):
  zgr body cx it x out nxt pair live e1 m1=some (.normal,e3,upd mj o (.map es)):=by
 subst hj
 unfold zgr
 simp only [hx,hl,hi,hm,he]
 unfold znd
 simp only [hr es (List.Perm.refl _),Option.bind_some]
 have hall:z8q (fun p=>zcl body it i out nxt pair live (zhi m2) p e2 m2) (zql es)=some ((zql es).map fun p=>(.normal,e3,R p)):=z0m fun p hp=>hr p ((zim _ _).1 hp)
 rw [hall,Option.bind_some]
 unfold zot
 rw [if_pos]
 ·simp only [Option.bind_some,zr3,hg]
 ·rw [List.all_eq_true]
  intro q hq
  obtain⟨p,hp,rfl⟩:=List.mem_map.1 hq
  dsimp only
  rw [zu0,hle p ((zim _ _).1 hp)]
  rfl
theorem zmf:∀es:List (D×V),ygj es es=true
 | []=>rfl
 | (k,v)::r=>by simp [ygj,zsa,zoh,zmf r]
inductive LeJ (m0:Mem):Mem->Mem->Prop
 | nil:LeJ m0 [] []
 | cells {i:Evl.Id} {t:Nat} {cs:List V} {r r':Mem} (h:LeJ m0 r r'):LeJ m0 ((i,.cells t cs)::r) ((i,.cells t cs)::r')
 | row {i:Evl.Id} {w:Bool} {t sz n:Nat} {xs:List D} {r r':Mem} (h:LeJ m0 r r'):LeJ m0 ((i,.row w t sz n xs)::r) ((i,.row w t sz n xs)::r')
 | gone {i:Evl.Id} {r r':Mem} (h:LeJ m0 r r'):LeJ m0 ((i,.gone)::r) ((i,.gone)::r')
 | map {i:Evl.Id} {es:List (D×V)} {r r':Mem} (he:ygj es es=true) (h:LeJ m0 r r'):LeJ m0 ((i,.map es)::r) ((i,.map es)::r')
 | mapP {i:Evl.Id} {es fs:List (D×V)} {r r':Mem} (hd:z3r fs=true) (hp:zrz es fs=true) (h:LeJ m0 r r'):LeJ m0 ((i,.map es)::r) ((i,.map fs)::r')
 | loop {i:Evl.Id} {e e0:Env} {ps ps0:List Nat} {a b a0 b0:C} {lv lv0:Nat} {bu bu0 ov ov0:Bool} {j j0:Option yct} {r r':Mem} (hl:Evl.look m0 i=some (.loop e0 ps0 a0 b0 lv0 bu0 ov0 j0)) (hj:yb3 j j=true) (h:LeJ m0 r r'):LeJ m0 ((i,.loop e ps a b lv bu ov j)::r) ((i,.loop e ps a b lv bu ov j)::r')
 | bag {i:Evl.Id} {t sz n:Nat} {xs ys:List D} {r r':Mem} (hb:yc4 sz n ys xs=true) (h:LeJ m0 r r'):LeJ m0 ((i,.row true t sz n xs)::r) ((i,.bag t sz n ys)::r')
theorem LeJ.ok {m0 a b:Mem} (h:LeJ m0 a b):leM m0 a b=true:=by
 induction h with
 | nil=>rfl
 | cells h ih=>simp [leM,leO,zj2,ih]
 | row h ih=>simp [leM,leO,zgw,ih]
 | gone h ih=>simp [leM,leO,ih]
 | map he h ih=>simp [leM,leO,he,ih]
 | mapP hd hp h ih=>simp [leM,leO,hd,hp,ih]
 | loop hl hj h ih=>simp [leM,leO,hl,hj,zu0,ih]
 | bag hb h ih=>simp [leM,leO,hb,ih]
theorem zx3 {x:List D}:∀ {l:List (List D)},x∈l->∃r,zqp x l=some r
 | y::r,h=>by
  unfold zqp
  by_cases e:zhw x y=true
  ·exact⟨r,if_pos e⟩
  ·rw [if_neg e]
   rcases List.mem_cons.1 h with rfl|h
   ·exact absurd (zgw x) e
   ·obtain⟨q,hq⟩:=zx3 h
    exact⟨y::q,by rw [hq];rfl⟩
theorem z15:∀ {a b:List (List D)},a.Perm b->z7o a b=true
 | [],b,h=>by
  have:=List.Perm.nil_eq h
  subst this
  rfl
 | x::r,b,h=>by
  have hx:x∈b:=h.subset (by simp)
  obtain⟨q,hq⟩:=zx3 hx
  have h1:=zoc x b q hq
  unfold z7o
  rw [hq]
  exact z15 ((List.perm_cons x).1 (h.trans h1))
theorem ztd:∀(l:List D),zfk 1 l.length l=l.map fun x=>[x]
 | []=>rfl
 | x::r=>by
  rw [List.length_cons,zfk,List.map_cons]
  have:=ztd r
  simp only [List.take_succ_cons,List.take_zero,List.drop_succ_cons,List.drop_zero]
  rw [this]
theorem yji {xs ys:List D} {n:Nat} (h:xs.Perm ys) (hn:ys.length=n):yc4 1 n xs ys=true:=by
 have hx:xs.length=n:=h.length_eq.trans hn
 unfold yc4
 subst hn
 rw [decide_eq_true (by omega),decide_eq_true (by omega),Bool.true_and,Bool.true_and]
 have e1:zfk 1 ys.length xs=xs.map fun x=>[x]:=by rw [<-hx];exact ztd xs
 rw [e1,ztd]
 exact z15 (h.map _)
theorem zog {α:Type} {cell:α->List D} {w:Nat} (hw:∀a,(cell a).length=w):∀l:List α,zfk w l.length (l.flatMap cell)=l.map cell
 | []=>rfl
 | x::r=>by
  have hx:=hw x
  rw [List.length_cons,zfk,List.map_cons,List.flatMap_cons]
  have e1:(cell x++r.flatMap cell).take w=cell x:=by rw [<-hx];exact List.take_left
  have e2:(cell x++r.flatMap cell).drop w=r.flatMap cell:=by rw [<-hx];exact List.drop_left
  rw [e1,e2,zog hw r]
theorem z8v {α:Type} {cell:α->List D} {w:Nat} (hw:∀a,(cell a).length=w) {xs ys:List α} {n:Nat} (h:xs.Perm ys) (hn:ys.length=n):yc4 w n (xs.flatMap cell) (ys.flatMap cell)=true:=by
 have hx:xs.length=n:=h.length_eq.trans hn
 unfold yc4
 have l1:=zay cell w hw xs
 have l2:=zay cell w hw ys
 rw [decide_eq_true (by rw [l1,hx]),decide_eq_true (by rw [l2,hn]),Bool.true_and,Bool.true_and]
 have e1:zfk w n (xs.flatMap cell)=xs.map cell:=by rw [<-hx];exact zog hw xs
 have e2:zfk w n (ys.flatMap cell)=ys.map cell:=by rw [<-hn];exact zog hw ys
 rw [e1,e2]
 exact z15 (h.map _)
theorem zwx {α:Type} {cell:α->List D}:∀l:List α,(l.map cell).flatten=l.flatMap cell
 | []=>rfl
 | x::r=>by rw [List.map_cons,List.flatten_cons,zwx r,List.flatMap_cons]
theorem yhm {α:Type} {cell:α->List D} {ps:List (List D)} {l:List α} (h:ps.Perm (l.map cell)):∃us:List α,ps=us.map cell/\us.Perm l:=by
 induction l generalizing ps with
 | nil=>
  have:=List.Perm.nil_eq h.symm
  subst this
  exact⟨[],rfl,.nil⟩
 | cons x r ih=>
  have hx:cell x∈ps:=h.symm.subset (by simp)
  obtain⟨a,b,rfl⟩:=List.append_of_mem hx
  have h1:(a++b).Perm (r.map cell):=by
   have h2:(cell x::(a++b)).Perm (cell x::r.map cell):=List.perm_middle.symm.trans h
   exact List.Perm.cons_inv h2
  obtain⟨us,hu,hp⟩:=ih h1
  refine⟨us.take a.length++x::us.drop a.length,?_,?_⟩
  ·have ha:a=(us.take a.length).map cell:=by
    have:=congrArg (List.take a.length) hu
    rw [List.take_left,<-List.map_take] at this
    exact this
   have hb:b=(us.drop a.length).map cell:=by
    have:=congrArg (List.drop a.length) hu
    rw [List.drop_left,<-List.map_drop] at this
    exact this
   rw [List.map_append,List.map_cons,<-ha,<-hb]
  ·refine List.perm_middle.trans (.cons _ ?_)
   rw [List.take_append_drop]
   exact hp
theorem z6j {α:Type} {cell:α->List D} {w:Nat} (hw:∀a,(cell a).length=w) {run:Mem->Option (V×Mem)} {m:Mem} {o:Evl.Id} {a b c t:Nat} {xs:List α} (hl:Evl.look m o=some (.bag t w xs.length (xs.flatMap cell))) (p:V×Mem)
  (hr:∀l:List α,l.Perm xs->run (upd m o (.row true t w xs.length (l.flatMap cell)))=some p) (hle:leM m p.2 (zfe false m p.2)=true):zh3 run m (.ref o a b c)=some (p.1,zfe false m p.2):=by
 have hx1:=zay cell w hw xs
 unfold zh3
 simp only [hl]
 rw [if_pos hx1,hr xs (List.Perm.refl _),Option.bind_some]
 have hall:z8q (fun l=>run (upd m o (.row true t w xs.length l.flatten))) (zql (zfk w xs.length (xs.flatMap cell)))=some ((zql (zfk w xs.length (xs.flatMap cell))).map fun _=>p):=by
  refine zsk fun l hl'=> ?_
  have h1:=(zim _ _).1 hl'
  rw [zog hw] at h1
  obtain⟨us,rfl,hu⟩:=yhm h1
  rw [zwx]
  exact hr us hu
 rw [hall,Option.bind_some]
 unfold zuw
 rw [if_pos]
 rw [List.all_eq_true]
 intro q hq
 obtain⟨_,_,rfl⟩:=List.mem_map.1 hq
 rw [zoh,hle]
 rfl
abbrev TV:Nat:=zey
abbrev lpV:Ob:= .loop [(2,.ptr ⟨3,2,0⟩ 0 0),(4,.ref ⟨3,4,0⟩ 0 0 0),(6,.fn zaf [] [.ptr ⟨0,15,0⟩ 0 0])] [7] zcc zcd 3 false false none
abbrev vM (mp:Ob) (s:V):Mem:=[(⟨0,8,0⟩,mp),(⟨0,15,0⟩,.cells TV [.mp ⟨0,8,0⟩]),(⟨1,4,0⟩,.row true zah 4 0 []),(⟨2,2,0⟩,.row true zah 4 0 []),(⟨3,2,0⟩,.cells zod [s]),(⟨3,4,0⟩,.row true zah 4 0 []),(⟨3,14,0⟩,lpV)]
abbrev vR0:Mem:=vM .gone (.d .nil)++[(⟨4,6,0⟩,.gone)]
abbrev vR1 (us:List Nte) (last:Ob):Mem:=vM .gone (.ref ⟨3,11,0⟩ 0 us.length us.length)++[(⟨4,6,0⟩,.gone),(⟨3,11,0⟩,last)]
abbrev yi5 (us:List Nte):Ob:= .row true zah 4 us.length (us.flatMap Nte.cells)
abbrev eV:Env:=[(0,.yld ⟨3,14,0⟩),(6,.it ⟨4,6,0⟩)]
section
variable {E : Oracle} (g : Good E)
include g
abbrev yob:List CO:=[xq 10 9 1,tq 4 (.alloc zah [.z (.str []),.z (.int .i64 0),.z (.int .i64 0),.z (.str [])]),⟨none,none,.store 4 (.t 4) (.t 10)⟩]
abbrev bdV (E:Oracle):Env->Mem->Option (Ex×Env×Mem):=fun e m=>(zfd E ⟨4,5⟩ yob e m).bind fun q=>evC E ⟨4,5⟩ zav (zbs [9,10] q.1) q.2
omit g in
theorem yin {e:Env} {m:Mem} {K:Ex->Env->Mem->Prop} (h:Evl.wpOps E ⟨4,5⟩ yob e m fun e' m'=>wpC E ⟨4,5⟩ zav (zbs [9,10] e') m' K):∃x e' m',bdV E e m=some (x,e',m')/\K x e' m':=by
 obtain⟨p,h1,h2⟩:=Evl.wpOps_ok _ _ _ _ h
 obtain⟨x,e',m',h3,h4⟩:=Evl.wpC_ok _ _ _ _ h2
 exact⟨x,e',m',by unfold bdV;rw [h1,Option.bind_some];exact h3,h4⟩
theorem ykv (q:D) (n:Nte):∃x e' m',bdV E (put eV 9 (.tup [.d q,Ntv n])) vR0=some (x,e',m')/\(x= .normal/\zk8 (get e' 6) (.it ⟨4,6,0⟩)=true/\only [0,6] e'=eV/\gc (zhi vR0) eV m'=vR1 [n] (yi5 [n])):=by
 refine yin ?_
 repeat' ((conv=>whnf);first
 | refine Yz ?_
  | (refine Rnd.enter g.lim ?_)
  | (refine zez.mk ⟨by decide,rfl,by decide,by decide⟩ ?_)
  | (exact⟨rfl,rfl,rfl,rfl⟩)
  | fail)
theorem ykw (us:List Nte) (hu:us.length<=1000000) (q:D) (n:Nte):∃x e' m',bdV E (put eV 9 (.tup [.d q,Ntv n])) (vR1 us (yi5 us))=some (x,e',m')/\(x= .normal/\zk8 (get e' 6) (.it ⟨4,6,0⟩)=true/\only [0,6] e'=eV/\gc (zhi vR0) eV m'=vR1 (us++[n]) (yi5 (us++[n]))):=by
 refine yin ?_
 repeat' ((conv=>whnf);first
 | refine Yz ?_
  | (refine Rnd.enter g.lim ?_)
  | (refine zez.mk ⟨rfl,rfl,rfl,rfl,rfl,rfl,by dsimp only;omega,by first |omega|(dsimp only;omega)⟩ ?_)
  | (refine⟨rfl,rfl,rfl,?_⟩)
  | fail)
 simp only [vR1,yi5,List.length_append,List.length_cons,List.length_nil,List.flatMap_append,List.flatMap_cons,List.flatMap_nil]
 rfl
theorem yfh:∀(ps us:List Nte),us.length+ps.length<=1000000->zcl (bdV E) 6 ⟨4,6,0⟩ 0 1 9 [0,6] (zhi vR0) (zf7 ps) eV (vR1 us (yi5 us))=some (.normal,eV,vR1 (us++ps) (yi5 (us++ps)))
 | [],us,_=>by
  rw [List.append_nil]
  rfl
 | p::ps,us,h=>by
  rw [List.length_cons] at h
  obtain⟨x,e',m',h1,rfl,h2,h3,h4⟩:=ykw g us (by omega) (.agg [.str p.dk,DI p.nu]) p
  unfold zf7
  rw [List.map_cons,zcl,h1,Option.bind_some]
  unfold zd3
  dsimp only [Ex.on]
  rw [if_pos h2,h3,h4]
  have:=yfh ps (us++[p]) (by rw [List.length_append,List.length_singleton];omega)
  rw [List.append_assoc] at this
  exact this
theorem yhv (p:Nte) (ps:List Nte) (hl:ps.length<=100000):zcl (bdV E) 6 ⟨4,6,0⟩ 0 1 9 [0,6] (zhi vR0) (zf7 (p::ps)) eV vR0=some (.normal,eV,vR1 (p::ps) (yi5 (p::ps))):=by
 obtain⟨x,e',m',h1,rfl,h2,h3,h4⟩:=ykv g (.agg [.str p.dk,DI p.nu]) p
 unfold zf7
 rw [List.map_cons,zcl,h1,Option.bind_some]
 unfold zd3
 dsimp only [Ex.on]
 rw [if_pos h2,h3,h4]
 exact yfh g ps [p] (by simp;omega)
omit g in
theorem zkv {α β:Type} {f:α->β} {ps:List β} {l:List α} (h:ps.Perm (l.map f)):∃us:List α,ps=us.map f/\us.Perm l:=by
 induction l generalizing ps with
 | nil=>
  have:=List.Perm.nil_eq h.symm
  subst this
  exact⟨[],rfl,.nil⟩
 | cons x r ih=>
  have hx:f x∈ps:=h.symm.subset (by simp)
  obtain⟨a,b,rfl⟩:=List.append_of_mem hx
  have h1:(a++b).Perm (r.map f):=List.Perm.cons_inv (List.perm_middle.symm.trans h)
  obtain⟨us,hu,hp⟩:=ih h1
  refine⟨us.take a.length++x::us.drop a.length,?_,?_⟩
  ·have ha:a=(us.take a.length).map f:=by
    have:=congrArg (List.take a.length) hu
    rw [List.take_left,<-List.map_take] at this
    exact this
   have hb:b=(us.drop a.length).map f:=by
    have:=congrArg (List.drop a.length) hu
    rw [List.drop_left,<-List.map_drop] at this
    exact this
   rw [List.map_append,List.map_cons,<-ha,<-hb]
  ·refine List.perm_middle.trans (.cons _ ?_)
   rw [List.take_append_drop]
   exact hp
abbrev e1V:Env:=[(0,.yld ⟨3,14,0⟩),(1,.ptr ⟨0,15,0⟩ 0 0),(5,.mp ⟨0,8,0⟩)]
abbrev vK1 (cs:List Nte):Mem:=vM (.map (zf7 cs)) (.d .nil)
abbrev vRn (mp:Ob) (n:Nat) (last:Ob):Mem:=vM mp (.ref ⟨3,11,0⟩ 0 n n)++[(⟨4,6,0⟩,.gone),(⟨3,11,0⟩,last)]
def ynp (v:V):List D:=match v with
 | .d (.agg cs)=>cs
 | _=>[]
omit g in
theorem z1x (us:List Nte):(zf7 us).flatMap (fun e=>ynp e.2)=us.flatMap Nte.cells:=by
 unfold zf7
 rw [List.flatMap_map]
 rfl
theorem ynw (k:Nte) (kr:List Nte) (hl:kr.length<=100000):
  zgr (bdV E) ⟨4,5⟩ 6 (.t 5) 0 1 9 [0,6] e1V (vK1 (k::kr))=some (.normal,eV,vRn (.map (zf7 (k::kr))) (kr.length+1) (.bag zah 4 (kr.length+1) ((k::kr).flatMap Nte.cells))):=by
 have hj:zfe true vR0 (vRn .gone (kr.length+1) (.row true zah 4 (kr.length+1) ((k::kr).flatMap Nte.cells)))=vRn .gone (kr.length+1) (.bag zah 4 (kr.length+1) ((k::kr).flatMap Nte.cells)):=by
  simp [zfe,z8w,zym,Evl.look]
 refine(zov (o:=⟨0,8,0⟩) (es:=zf7 (k::kr)) rfl rfl (i:=⟨4,6,0⟩) (m2:=vR0) (e2:=eV) (e3:=eV) rfl rfl rfl
  (fun p=>vRn .gone (kr.length+1) (.row true zah 4 (kr.length+1) (p.flatMap fun e=>ynp e.2))) (fun p hp=> ?_) (mj:=vRn .gone (kr.length+1) (.bag zah 4 (kr.length+1) ((k::kr).flatMap Nte.cells))) ?_ (fun p hp=> ?_) rfl).trans rfl
 ·obtain⟨us,rfl,hu⟩:=zkv hp
  have hul:us.length=kr.length+1:=hu.length_eq
  obtain⟨a,b,rfl⟩:∃a b,us=a::b:=List.exists_cons_of_ne_nil (by rintro rfl;simp at hul)
  have:=yhv g a b (by simp at hul;omega)
  unfold zf7 at this
  rw [this]
  dsimp only [vR1,yi5]
  rw [hul]
  have:=z1x (a::b)
  unfold zf7 at this
  rw [this]
 ·rw [z1x]
  exact hj
 ·obtain⟨us,rfl,hu⟩:=zkv hp
  have:=z1x us
  unfold zf7 at this
  rw [this]
  have hb:yc4 4 (kr.length+1) ((k::kr).flatMap Nte.cells) (us.flatMap Nte.cells)=true:=z8v zjn hu.symm hu.length_eq
  exact LeJ.ok (.gone<| .cells<| .row<| .row<| .cells<| .row<| .loop rfl rfl<| .gone<| .bag hb .nil)
omit g in
theorem ymr:zgr (bdV E) ⟨4,5⟩ 6 (.t 5) 0 1 9 [0,6] e1V (vK1 [])=some (.normal,eV,vK1 []++[(⟨4,6,0⟩,.gone)]):=by
 have hj:zfe true vR0 vR0=vR0:=by
  simp [zfe,z8w,zym,Evl.look]
 refine(zov (o:=⟨0,8,0⟩) (es:=[]) rfl rfl (i:=⟨4,6,0⟩) (m2:=vR0) (e2:=eV) (e3:=eV) rfl rfl rfl (fun _=>vR0) (fun p hp=> ?_) (mj:=vR0) hj (fun p hp=> ?_) rfl).trans rfl
 ·have:=hp.symm.nil_eq
  subst this
  rfl
 ·exact LeJ.ok (.gone<| .cells<| .row<| .row<| .cells<| .row<| .loop rfl rfl<| .gone .nil)
end
abbrev mSr (cs L:List Nte) (n:Nat):Mem:=[(⟨0,8,0⟩,.map (zf7 cs)),(⟨0,15,0⟩,.cells TV [.mp ⟨0,8,0⟩]),(⟨1,4,0⟩,.row true zah 4 0 []),(⟨1,7,0⟩,.row true zah 4 n (L.flatMap Nte.cells))]
def z0j (S:List Nte):Prop:=S.Pairwise fun a b=>¬(a.dk=b.dk/\a.nu=b.nu)
theorem z0j.ne {S:List Nte} (h:z0j S) {a b:Nte} (ha:a∈S) (hb:b∈S) (hab:a≠b):¬(a.dk=b.dk/\a.nu=b.nu):=by
 induction S with
 | nil=>cases ha
 | cons x r ih=>
  have h0:=List.pairwise_cons.1 h
  rcases List.mem_cons.1 ha with ea|ha'
  ·rcases List.mem_cons.1 hb with eb|hb'
   ·exact absurd (ea.trans eb.symm) hab
   ·rw [ea];exact h0.1 b hb'
  ·rcases List.mem_cons.1 hb with eb|hb'
   ·rw [eb];exact fun hc=>h0.1 a ha' ⟨hc.1.symm,hc.2.symm⟩
   ·exact ih h0.2 ha' hb'
theorem z0j.tot {S:List Nte} (h:z0j S):yn0 S zna:=⟨z1r,z4g,fun a b ha hb hab hl=>z1s a b (h.ne ha hb hab) hl⟩
theorem zw0 {dk:List UInt8} {nu:Int}:∀ {cs:List Nte},zrj dk nu cs=none->∀o∈cs,¬(o.dk=dk/\o.nu=nu)
 | [],_,_,h=>absurd h List.not_mem_nil
 | x::r,h,o,ho=>by
  unfold zrj at h
  split at h
  ·cases h
  ·rename_i c
   rcases List.mem_cons.1 ho with rfl|ho
   ·exact fun hc=>c ⟨hc.1.symm,hc.2.symm⟩
   ·exact zw0 h o ho
theorem z0j.add {cs:List Nte} (h:z0j cs) (n:Nte):z0j (z6a cs n):=by
 unfold z6a
 cases hg:zrj n.dk n.nu cs with
 | some o=>simpa using h
 | none=>
  simp only [Option.isSome_none,Bool.false_eq_true,if_false]
  refine List.pairwise_append.2 ⟨h,List.pairwise_singleton ..,fun a ha b hb=> ?_⟩
  rw [List.mem_singleton] at hb
  subst hb
  exact zw0 hg a ha
theorem z0j.fold:∀(l cs:List Nte),z0j cs->z0j (l.foldl z6a cs)
 | [],_,h=>h
 | n::r,cs,h=>z0j.fold r (z6a cs n) (h.add n)
theorem zuz (l:List Nte):z0j (zdz l):=z0j.fold l [] .nil
theorem z9g {l:List Nte}:∀(d k:Nat) (cs:List Nte),k+d=l.length->z54 cs (l.drop k)=0->z58 l k cs->z58 l l.length ((l.drop k).foldl z6a cs)
 | 0,k,cs,hd,_,hI=>by
  obtain rfl:k=l.length:=by omega
  rw [List.drop_length];exact hI
 | d+1,k,cs,hd,hz,hI=>by
  have hk:k<l.length:=by omega
  rw [List.drop_eq_getElem_cons hk] at hz ⊢
  unfold z54 at hz
  split at hz
  ·rename_i hc
   have hcf:z52 cs l[k]=false:=by
    unfold z8y at hc
    rw [zcx] at hc
    have:=hc (if z52 cs l[k]=true then 29 else 0) (by simp)
    cases h:z52 cs l[k] with
    | false=>rfl
    | true=>rw [h] at this;exact absurd this (by decide)
   rw [List.foldl_cons]
   exact z9g d (k+1) _ (by omega) hz (hI.next hk hcf)
  ·rename_i hc;exact absurd hz hc
theorem z81 {l:List Nte} (h:zdc l=0):z58 l l.length (zdz l):=by
 unfold zdc at h
 split at h
 ·cases h
 ·exact z9g l.length 0 [] (by omega) h (z58.start l)
theorem zfs {l:List Nte} (h:zdc l=0) {n:Nte}:n∈zdz l↔n∈l:=by
 have hI:=z81 h
 constructor
 ·intro hn
  obtain⟨j,hj,_,rfl⟩:=hI.mem n hn
  exact List.getElem_mem hj
 ·intro hn
  obtain⟨j,hj,rfl⟩:=List.getElem_of_mem hn
  exact(zrk (hI.got j hj hj)).2.2
theorem zuy (l:List Nte):(zdz l).length<=l.length:=by
 have key:∀(l cs:List Nte),(l.foldl z6a cs).length<=cs.length+l.length:=by
  intro l
  induction l with
  | nil=>intro cs;simp
  | cons n r ih=>
   intro cs
   have:=ih (z6a cs n)
   have h2:(z6a cs n).length<=cs.length+1:=by
    unfold z6a
    split<;>simp
   rw [List.foldl_cons,List.length_cons]
   omega
 simpa [zdz] using key l []
theorem z3k {l:List Nte}:∀(d k:Nat) (cs:List Nte),k+d=l.length->z54 cs (l.drop k)=0->∀j (h:j<l.length),k<=j->ztv l[j]=0
 | 0,k,cs,hd,_,j,hj,hkj=>by omega
 | d+1,k,cs,hd,hz,j,hj,hkj=>by
  have hk:k<l.length:=by omega
  rw [List.drop_eq_getElem_cons hk] at hz
  unfold z54 at hz
  split at hz
  ·rename_i hc
   by_cases e:j=k
   ·subst e
    unfold z8y at hc
    rw [zcx] at hc
    exact hc _ (List.mem_cons_self ..)
   ·exact z3k d (k+1) _ (by omega) hz j hj (by omega)
  ·rename_i hc;exact absurd hz hc
theorem z3l {l:List Nte} (h1:∀n∈l,ztv n=0) (h2:∀a∈l,∀b∈l,a.dk=b.dk->a.nu=b.nu->a=b):∀(d k:Nat) (cs:List Nte),k+d=l.length->z58 l k cs->z54 cs (l.drop k)=0
 | 0,k,cs,hd,_=>by
  obtain rfl:k=l.length:=by omega
  rw [List.drop_length];rfl
 | d+1,k,cs,hd,hI=>by
  have hk:k<l.length:=by omega
  rw [List.drop_eq_getElem_cons hk]
  unfold z54
  have hcf:z52 cs l[k]=false:=by
   cases h:z52 cs l[k] with
   | false=>rfl
   | true=>
    obtain⟨j,hj,_,c1,c2,c3⟩:=(hI.con hk).1 h
    exact absurd (h2 _ (List.getElem_mem hj) _ (List.getElem_mem hk) c1 c2) c3
  have hc:z8y cs l[k]=0:=by
   unfold z8y
   rw [hcf,h1 _ (List.getElem_mem hk)]
   decide
  rw [if_pos hc]
  exact z3l h1 h2 d (k+1) _ (by omega) (hI.next hk hcf)
theorem zlq {l:List Nte}:zdc l=0↔l.length<=256/\(∀n∈l,ztv n=0)/\∀a∈l,∀b∈l,a.dk=b.dk->a.nu=b.nu->a=b:=by
 constructor
 ·intro h
  have hI:=z81 h
  unfold zdc at h
  split at h
  ·cases h
  ·refine⟨by omega,fun n hn=> ?_,fun a ha b hb h1 h2=> ?_⟩
   ·obtain⟨j,hj,rfl⟩:=List.getElem_of_mem hn
    exact z3k l.length 0 [] (by omega) h j hj (Nat.zero_le _)
   ·obtain⟨i,hi,rfl⟩:=List.getElem_of_mem ha
    obtain⟨j,hj,rfl⟩:=List.getElem_of_mem hb
    have g1:=hI.got i hi hi
    have g2:=hI.got j hj hj
    rw [h1,h2] at g1
    exact Option.some.inj (g1.symm.trans g2)
 ·rintro⟨h0,h1,h2⟩
  unfold zdc
  rw [if_neg (by omega)]
  exact z3l h1 h2 l.length 0 [] (by omega) (z58.start l)
abbrev Grt:=List (List UInt8×Int)
def zuo (dk:List UInt8):Grt->Option Int
 | []=>none
 | (k,v)::r=>if dk=k then some v else zuo dk r
def z7w (dk:List UInt8) (x:Int):Grt->Grt
 | []=>[(dk,x)]
 | (k,v)::r=>if dk=k then(k,x)::r else(k,v)::z7w dk x r
def zl7 (gs:Grt):List (D×V):=gs.map fun p=>(.str p.1,I p.2)
def grA (gs:Grt) (n:Nte):Grt:=z7w n.dk (max ((zuo n.dk gs).getD 0) n.nu) gs
def grN (l:List Nte):Grt:=l.foldl grA []
theorem zwu (dk:List UInt8):∀gs:Grt,zfu (.str dk) (zl7 gs)=some ((zuo dk gs).map fun x=>I x)
 | []=>rfl
 | (k,v)::r=>by
  have ih:=zwu dk r
  unfold zl7 at ih ⊢
  rw [List.map_cons,zfu]
  unfold zuo
  by_cases h:dk=k
  ·subst h
   simp [eqD]
  ·have e:eqD (.str dk) (.str k)=some false:=by simp [eqD,h]
   simp only [e,if_neg h]
   exact ih
theorem yan (dk:List UInt8) (x:Int):∀gs:Grt,zmu (.str dk) (I x) (zl7 gs)=some (zl7 (z7w dk x gs))
 | []=>rfl
 | (k,v)::r=>by
  have ih:=yan dk x r
  unfold zl7 at ih ⊢
  rw [List.map_cons,zmu]
  unfold z7w
  by_cases h:dk=k
  ·subst h
   simp [eqD]
  ·have e:eqD (.str dk) (.str k)=some false:=by simp [eqD,h]
   simp only [e,if_neg h,ih,Option.map_some,List.map_cons]
theorem zg9:∀gs:Grt,Evl.idsM (zl7 gs)=[]
 | []=>rfl
 | _::r=>by
  show []++Evl.idsM (zl7 r)=[]
  rw [zg9 r];rfl
theorem z9h (a dk:List UInt8) (x:Int):∀gs:Grt,zuo a (z7w dk x gs)=if a=dk then some x else zuo a gs
 | []=>by
  unfold z7w zuo zuo
  rfl
 | (k,v)::r=>by
  unfold z7w
  by_cases h:dk=k
  ·subst h
   rw [if_pos rfl]
   unfold zuo
   by_cases h2:a=dk
   ·rw [if_pos h2,if_pos h2]
   ·rw [if_neg h2,if_neg h2,if_neg h2]
  ·rw [if_neg h]
   unfold zuo
   rw [z9h a dk x r]
   by_cases h2:a=k
   ·rw [if_pos h2,if_pos h2,if_neg (fun e=>h (by rw [<-e,h2]))]
   ·rw [if_neg h2,if_neg h2]
theorem z5e (dk:List UInt8) (x:Int):∀gs:Grt,∀a,a∈(z7w dk x gs).map (·.1)↔a=dk\/a∈gs.map (·.1)
 | [],a=>by simp [z7w]
 | (k,v)::r,a=>by
  unfold z7w
  by_cases h:dk=k
  ·subst h
   rw [if_pos rfl]
   simp
  ·rw [if_neg h]
   simp only [List.map_cons,List.mem_cons,z5e dk x r a]
   constructor
   ·rintro(h|h|h)
    ·exact .inr (.inl h)
    ·exact .inl h
    ·exact .inr (.inr h)
   ·rintro(h|h|h)
    ·exact .inr (.inl h)
    ·exact .inl h
    ·exact .inr (.inr h)
theorem z0b (dk:List UInt8) (x:Int):∀gs:Grt,(gs.map (·.1)).Nodup->((z7w dk x gs).map (·.1)).Nodup
 | [],_=>by simp [z7w]
 | (k,v)::r,h=>by
  unfold z7w
  by_cases e:dk=k
  ·subst e
   rw [if_pos rfl]
   simpa using h
  ·rw [if_neg e]
   rw [List.map_cons,List.nodup_cons] at h ⊢
   refine⟨fun hm=> ?_,z0b dk x r h.2⟩
   rcases (z5e dk x r k).1 hm with e'|hm
   ·exact e e'.symm
   ·exact h.1 hm
theorem zks {gs:Grt} (h:(gs.map (·.1)).Nodup) {a:List UInt8} {x:Int}:zuo a gs=some x↔(a,x)∈gs:=by
 induction gs with
 | nil=>simp [zuo]
 | cons p r ih=>
  obtain⟨k,v⟩:=p
  rw [List.map_cons,List.nodup_cons] at h
  unfold zuo
  by_cases e:a=k
  ·subst e
   rw [if_pos rfl]
   simp only [Option.some.injEq,List.mem_cons,Prod.mk.injEq,true_and]
   constructor
   ·intro h;exact .inl h.symm
   ·rintro(h'|h')
    ·exact h'.symm
    ·exact absurd (List.mem_map.2 ⟨_,h',rfl⟩) h.1
  ·rw [if_neg e,ih h.2]
   simp [e]
structure GrI (l:List Nte) (gs:Grt):Prop where
 one:(gs.map (·.1)).Nodup
 val:∀a x,zuo a gs=some x↔(∃n∈l,n.dk=a/\n.nu=x)/\∀n∈l,n.dk=a->n.nu<=x
theorem GrI.nil:GrI [] []:=⟨.nil,fun a x=>by simp [zuo]⟩
theorem GrI.add {l:List Nte} {gs:Grt} (h:GrI l gs) {n:Nte} (hn:1<=n.nu):GrI (l++[n]) (grA gs n):=by
 refine⟨z0b _ _ _ h.one,fun a x=> ?_⟩
 unfold grA
 rw [z9h]
 by_cases e:a=n.dk
 ·subst e
  rw [if_pos rfl,Option.some.injEq]
  cases hg:zuo n.dk gs with
  | none=>
   have hno:∀m∈l,m.dk≠n.dk:=by
    intro m hm hc
    -- a greatest one among those of the desk
    have key:∀(q:List Nte),(∃m∈q,m.dk=n.dk)->∃m∈q,m.dk=n.dk/\∀o∈q,o.dk=n.dk->o.nu<=m.nu:=by
     intro q
     induction q with
     | nil=>rintro⟨_,h,_⟩;cases h
     | cons y r ih=>
      intro _
      by_cases hr:∃m∈r,m.dk=n.dk
      ·obtain⟨m,h1,h2,h3⟩:=ih hr
       by_cases hy:y.dk=n.dk/\m.nu<y.nu
       ·exact⟨y,by simp,hy.1,fun o ho hd=>by
         rcases List.mem_cons.1 ho with rfl|ho
         ·exact Int.le_refl _
         ·have:=h3 o ho hd;omega⟩
       ·exact⟨m,by simp [h1],h2,fun o ho hd=>by
         rcases List.mem_cons.1 ho with rfl|ho
         ·have:¬m.nu<o.nu:=fun hh=>hy ⟨hd,hh⟩
          omega
         ·exact h3 o ho hd⟩
      ·rename_i hx
       obtain⟨m,hm,hd⟩:=hx
       have hmy:m=y:=by
        rcases List.mem_cons.1 hm with e|hm
        ·exact e
        ·exact absurd ⟨m,hm,hd⟩ hr
       exact⟨y,by simp,hmy▸hd,fun o ho hd'=>by
        rcases List.mem_cons.1 ho with rfl|ho
        ·exact Int.le_refl _
        ·exact absurd ⟨o,ho,hd'⟩ hr⟩
    obtain⟨o,h1,h2,h3⟩:=key l ⟨m,hm,hc⟩
    have:=(h.val n.dk o.nu).2 ⟨⟨o,h1,h2,rfl⟩,h3⟩
    rw [hg] at this
    cases this
   simp only [Option.getD_none]
   constructor
   ·intro hx
    have hx:n.nu=x:=by omega
    subst hx
    refine⟨⟨n,by simp,rfl,rfl⟩,fun m hm hd=> ?_⟩
    rcases List.mem_append.1 hm with hm|hm
    ·exact absurd hd (hno m hm)
    ·rw [List.mem_singleton] at hm;rw [hm];exact Int.le_refl _
   ·rintro⟨⟨m,hm,h1,h2⟩,h3⟩
    rcases List.mem_append.1 hm with hm|hm
    ·exact absurd h1 (hno m hm)
    ·rw [List.mem_singleton] at hm
     subst hm
     omega
  | some v=>
   obtain⟨⟨o,ho1,ho2,ho3⟩,hv⟩:=(h.val n.dk v).1 hg
   simp only [Option.getD_some]
   constructor
   ·intro hx
    refine⟨?_,fun m hm hd=> ?_⟩
    ·by_cases hc:v<=n.nu
     ·exact⟨n,by simp,rfl,by omega⟩
     ·exact⟨o,by simp [ho1],ho2,by omega⟩
    ·rcases List.mem_append.1 hm with hm|hm
     ·have:=hv m hm hd;omega
     ·rw [List.mem_singleton] at hm;subst hm;omega
   ·rintro⟨⟨m,hm,h1,h2⟩,h3⟩
    have a1:=h3 n (by simp) rfl
    have a2:=h3 o (by simp [ho1]) ho2
    rcases List.mem_append.1 hm with hm|hm
    ·have:=hv m hm h1;omega
    ·rw [List.mem_singleton] at hm;subst hm;omega
 ·rw [if_neg e,h.val]
  constructor
  ·rintro⟨⟨m,hm,h1,h2⟩,h3⟩
   refine⟨⟨m,by simp [hm],h1,h2⟩,fun o ho hd=> ?_⟩
   rcases List.mem_append.1 ho with ho|ho
   ·exact h3 o ho hd
   ·rw [List.mem_singleton] at ho;subst ho;exact absurd hd.symm e
  ·rintro⟨⟨m,hm,h1,h2⟩,h3⟩
   refine⟨?_,fun o ho hd=>h3 o (by simp [ho]) hd⟩
   rcases List.mem_append.1 hm with hm|hm
   ·exact⟨m,hm,h1,h2⟩
   ·rw [List.mem_singleton] at hm;subst hm;exact absurd h1.symm e
theorem z1f:∀(r l:List Nte) (gs:Grt),GrI l gs->(∀n∈r,1<=n.nu)->GrI (l++r) (r.foldl grA gs)
 | [],l,gs,h,_=>by simpa using h
 | n::r,l,gs,h,hn=>by
  have:=z1f r (l++[n]) (grA gs n) (h.add (hn n (by simp))) fun m hm=>hn m (by simp [hm])
  simpa using this
theorem GrI.perm {a b:List Nte} {x y:Grt} (ha:GrI a x) (hb:GrI b y) (h:∀n,n∈a↔n∈b):x.Perm y:=by
 have nd:∀ {g:Grt},(g.map (·.1)).Nodup->g.Nodup:=fun h=>by
  rw [List.Nodup,List.pairwise_map] at h
  exact h.imp fun hh e=>hh (by rw [e])
 refine(List.perm_ext_iff_of_nodup (nd ha.one) (nd hb.one)).2 fun p=> ?_
 obtain⟨k,v⟩:=p
 rw [<-zks ha.one,<-zks hb.one,ha.val,hb.val]
 simp only [h]
def yiv (x:Nte):List Nte->List Nte
 | []=>[x]
 | y::r=>if zna y x=true then y::yiv x r else x::y::r
def yf3:List Nte->List Nte
 | []=>[]
 | x::r=>yiv x (yf3 r)
theorem zw4 (x:Nte):∀l:List Nte,(yiv x l).Perm (x::l)
 | []=>List.Perm.refl _
 | y::r=>by
  unfold yiv
  split
  ·exact((zw4 x r).cons y).trans (List.Perm.swap x y r)
  ·exact List.Perm.refl _
theorem zl5:∀l:List Nte,(yf3 l).Perm l
 | []=>List.Perm.refl _
 | x::r=>(zw4 x _).trans ((zl5 r).cons x)
theorem z9l (x:Nte):∀l:List Nte,(∀y∈l,¬(x.dk=y.dk/\x.nu=y.nu))->(l.Pairwise fun a b=>zna a b=true)->(yiv x l).Pairwise fun a b=>zna a b=true
 | [],_,_=>List.pairwise_singleton ..
 | y::r,hk,h=>by
  unfold yiv
  have h0:=List.pairwise_cons.1 h
  split
  ·rename_i c
   refine List.pairwise_cons.2 ⟨fun z hz=> ?_,z9l x r (fun z hz=>hk z (by simp [hz])) h0.2⟩
   rcases List.mem_cons.1 ((zw4 x r).mem_iff.1 hz) with rfl|hz
   ·exact c
   ·exact h0.1 z hz
  ·rename_i c
   have c:zna y x=false:=by simpa using c
   have hxy:=z1s y x (fun e=>hk y (by simp) ⟨e.1.symm,e.2.symm⟩) c
   refine List.pairwise_cons.2 ⟨fun z hz=> ?_,h⟩
   rcases List.mem_cons.1 hz with rfl|hz
   ·exact hxy
   ·exact z4g _ _ _ hxy (h0.1 z hz)
theorem zsd:∀l:List Nte,z0j l->(yf3 l).Pairwise fun a b=>zna a b=true
 | [],_=> .nil
 | x::r,h=>by
  have h0:=List.pairwise_cons.1 h
  exact z9l x _ (fun y hy=>h0.1 y ((zl5 r).mem_iff.1 hy)) (zsd r h0.2)
end Go.Proofs.YtmbofbehkalgkaaGreatDoor.Co
