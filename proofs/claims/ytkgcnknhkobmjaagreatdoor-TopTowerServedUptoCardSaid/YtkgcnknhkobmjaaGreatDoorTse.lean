/-
  TopTowerServed: what its law leans on, part 5.
-/
import Derived.Laws.RangeAny
import Derived.Lib.SplitLaws
import Derived.Test.YtkgcnknhkobmjaaGreatDoorEvX
import Derived.Test.YtkgcnknhkobmjaaGreatDoorRead
import Derived.Test.YtkgcnknhkobmjaaGreatDoorSpBase
import Derived.Test.YtkgcnknhkobmjaaGreatDoorTsd
namespace Go.Proofs.YtkgcnknhkobmjaaGreatDoor.Co
open Go Go.Evl
set_option maxHeartbeats 32000000
set_option maxRecDepth 100000
section
variable {E : Oracle} (g : Good E)
include g
theorem ykf (ls:List Lmt) (hls:ls.length<=3) (hv:∀l∈ls,zfz l=0) (x:Mvt) (hx:0<=x.mo/\x.mo<=143999999) (ct:List (D×V)) (hct:Evl.idsM ct=[]) (ks:List Wnd) {K:V->Mem->Prop} (hK:∀ks,K (LWn (z3q ls x)) (mBd ls ct (zk3 ls ks))):
  In E 1 zbn [.ptr ⟨0,0,0⟩ 0 0,Mvv x] (mBd ls ct (zk3 ls ks)) fun v m'=>ybs ⟨0,1⟩ 0 true v m' K:=by
 have hkb:=fun ks=>znt ls ks
 refine In.enter (f:=zbn) g.lim rfl rfl ?_
 repeat' ((conv=>whnf);first
 | refine Yz ?_
  | fail)
 refine zaf.to (zaf.by (σ:=Nat×List Wnd) g (fun u=>u.1<=ls.length)
  (fun u=>[(0,.ptr ⟨0,0,0⟩ 0 0),(3,.ptr ⟨1,3,0⟩ 0 0),(5,.ref ⟨1,5,0⟩ 0 (ybj ls x u.1).length (ybj ls x u.1).length),(18,LLm ls),(19,I ls.length),(20,I u.1)])
  (fun u=>mBd ls ct (zk3 ls u.2)++[(⟨1,3,0⟩,.cells zao [I x.mo,S x.ki,S x.te,I x.se,I x.si,I x.no,S x.nm]),(⟨1,4,0⟩,.row false zad 2 0 []),(⟨1,5,0⟩,.row false zad 2 (ybj ls x u.1).length ((ybj ls x u.1).flatMap wndC))])
  (fun u=>ls.length-u.1) ?_ (0,ks) (Nat.zero_le _)) rfl rfl
 rintro⟨k,ks⟩ h1 ih
 dsimp only at h1
 by_cases hlt:k<ls.length
 ·have hs:=z81 ls x k
  have hal:=zu7 ls hv x k (by omega)
  have e:ls.getD k default=ls[k]:=by simp [List.getD,hlt]
  rw [e] at hs
  have hcnt:=ylx g ls[k] x
  have ih:=fun ks=>ih (k+1,ks) (by dsimp only;omega) (by dsimp only;omega)
  dsimp only at ih
  rw [hs] at ih
  generalize ybj ls x k=A at *
  cases hb:yur ls[k] x.ki x.te with
  | false=>
   rw [hb] at hcnt
   rw [show ym2 ls[k] k x=[] from by simp [ym2,hb],List.append_nil] at ih
   have ih:=ih ks
   repeat' ((conv=>whnf);first
   | refine Yz ?_
    | (apply zae.of;assumption)
    | (refine zal.rec Lmt.cells_length k rfl hlt ?_)
    | (simp only [Evl.idsAll,Evl.idsO,hct,hkb,List.nil_append])
    | (refine zaf.to ih rfl rfl)
    | fail)
  | true=>
   rw [hb] at hcnt
   repeat' ((conv=>whnf);first
   | refine Yz ?_
    | (apply zae.of;assumption)
    | (refine zal.rec Lmt.cells_length k rfl hlt ?_)
    | (simp only [])
    | fail)
   have hvl:=hv ls[k] (List.getElem_mem hlt)
   have hz:=zkf.1 hvl
   have hdv:0<=x.mo/1440/\x.mo/1440<=99999:=by omega
   have ih:=fun ks=>by
    have:=ih ks
    rw [show ym2 ls[k] k x=z9j ls[k] k x.mo 2 from by unfold ym2;rw [if_pos hb];rfl] at this
    exact this
   have hAl:∀j,(A++z9j ls[k] k x.mo j).length<=20000:=fun j=>by
    have:=ynw ls[k] hvl k x.mo j
    rw [List.length_append];omega
   generalize hl:ls[k]=l at *
   refine zaf.to (zaf.by (σ:=Nat×List Wnd) g (fun u=>u.1<=2)
    (fun u=>[(0,.ptr ⟨0,0,0⟩ 0 0),(3,.ptr ⟨1,3,0⟩ 0 0),(5,.ref ⟨1,5,0⟩ 0 (A++z9j l k x.mo u.1).length (A++z9j l k x.mo u.1).length),(6,I k),(7,.ptr ⟨1,7,0⟩ 0 0),(18,LLm ls),(19,I ls.length),(20,I k),(36,.d (.agg [DI (x.mo/1440-1),DI (x.mo/1440)])),(37,I u.1)])
    (fun u=>mBd ls ct (zk3 ls u.2)++[(⟨1,3,0⟩,.cells zao [I x.mo,S x.ki,S x.te,I x.se,I x.si,I x.no,S x.nm]),(⟨1,4,0⟩,.row false zad 2 0 []),(⟨1,5,0⟩,.row false zad 2 (A++z9j l k x.mo u.1).length ((A++z9j l k x.mo u.1).flatMap wndC)),(⟨1,7,0⟩,.cells zaj [S l.nm,S l.ki,S l.te,I l.le,I l.st,I l.fr,I l.to,I l.pf,I l.pt,I l.pd,I l.mo])])
    (fun u=>2-u.1) ?_ (0,ks) (Nat.zero_le _)) (by rw [show A++z9j l k x.mo 0=A from List.append_nil A];rfl) (by rw [show A++z9j l k x.mo 0=A from List.append_nil A];rfl)
   rintro⟨j,ks⟩ h1 ihj
   dsimp only at h1
   have hj:j=0\/j=1\/j=2:=by omega
   rcases hj with rfl|rfl|rfl
   ·clear ih
    have ihj:=fun ks=>ihj (1,ks) (by dsimp only;omega) (by dsimp only;omega)
    dsimp only at ihj
    rw [show z9j l k x.mo 1=z9j l k x.mo 0++zlp l k x.mo (ybu l (x.mo/1440-1)) from rfl,<-List.append_assoc] at ihj
    have hAl:=hAl 0
    generalize A++z9j l k x.mo 0=T at *
    have hf:=z12 ls ((k:Int),x.mo/1440-1) ks
    have hset:=z8e ls ((k:Int),x.mo/1440-1) ks
    dsimp only at hf hset
    obtain⟨er,hbg⟩:=yqq g ls l hvl k e (x.mo/1440-1) (by omega)
    have hXr:=z40 l hvl (x.mo/1440-1) (by omega)
    have hXl:=z6r l hvl (x.mo/1440-1)
    have hXc:=z41 ls l k e (x.mo/1440-1)
    generalize yg2 ls ((k:Int),x.mo/1440-1)=bx at *
    generalize ybu l (x.mo/1440-1)=X at *
    rcases hXc with rfl|⟨rfl,rfl⟩
    ·by_cases hin:((k:Int),x.mo/1440-1)∈ks
     ·rw [if_pos hin] at hf
      repeat' ((conv=>whnf);first
      | refine Yz ?_
       | (refine zpq.mk ⟨_,hf,?_⟩)
       | (simp only [])
       | fail)
      refine zaf.to (zaf.up g (fun n=>[(0,.ptr ⟨0,0,0⟩ 0 0),(3,.ptr ⟨1,3,0⟩ 0 0),(5,.ref ⟨1,5,0⟩ 0 (T++zlp l k x.mo (X.take n)).length (T++zlp l k x.mo (X.take n)).length),(6,I k),(7,.ptr ⟨1,7,0⟩ 0 0),(18,LLm ls),(19,I ls.length),(20,I k),(36,.d (.agg [DI (x.mo/1440-1),DI (x.mo/1440)])),(37,I (0:Nat)),(66,LI X),(67,I X.length),(68,I n)])
       (fun n=>mBd ls ct (zk3 ls (ks))++[(⟨1,3,0⟩,.cells zao [I x.mo,S x.ki,S x.te,I x.se,I x.si,I x.no,S x.nm]),(⟨1,4,0⟩,.row false zad 2 0 []),(⟨1,5,0⟩,.row false zad 2 (T++zlp l k x.mo (X.take n)).length ((T++zlp l k x.mo (X.take n)).flatMap wndC)),(⟨1,7,0⟩,.cells zaj [S l.nm,S l.ki,S l.te,I l.le,I l.st,I l.fr,I l.to,I l.pf,I l.pt,I l.pd,I l.mo]),(⟨1,10,0⟩,.cells zad [I k,I (x.mo/1440-1)])])
       X.length (fun n hn ihn=> ?_) 0 (Nat.zero_le _)) (by rw [List.take_zero,show zlp l k x.mo []=[] from rfl,List.append_nil];rfl) (by rw [List.take_zero,show zlp l k x.mo []=[] from rfl,List.append_nil];rfl)
      by_cases hln:n<X.length
      ·have ihn:=ihn hln
       have hTn:(T++zlp l k x.mo (X.take n)).length<=40000:=by
        have:=zz8 l k x.mo (X.take n)
        rw [List.length_take] at this
        rw [List.length_append];omega
       rw [zu8 l k x.mo hln,<-List.append_assoc] at ihn
       have hbr:=hXr X[n] (List.getElem_mem hln)
       generalize T++zlp l k x.mo (X.take n)=U at *
       have hfl:=zah wndC 2 zb4 U
       by_cases hc:X[n]<=x.mo/\x.mo<X[n]+l.le
       ·rw [if_pos hc] at ihn
        repeat' ((conv=>whnf);first
        | refine Yz ?_
         | (refine zg4.intI n rfl hln ?_)
         | (refine ze8.mk (by simp;omega) ?_)
         | (simp only [Evl.idsAll,Evl.idsO,hct,hkb,List.nil_append])
         | (refine zaf.to ihn ?_ ?_)
         | fail)
        ·simp only [List.length_append,List.length_singleton];rfl
        ·simp only [List.length_append,List.length_singleton,List.flatMap_append];rfl
       ·rw [if_neg hc,List.append_nil] at ihn
        by_cases hc1:X[n]<=x.mo
        all_goals repeat' ((conv=>whnf);first
        | refine Yz ?_
         | (refine zg4.intI n rfl hln ?_)
         | (simp only [Evl.idsAll,Evl.idsO,hct,hkb,List.nil_append])
         | (refine zaf.to ihn rfl rfl)
         | fail)
      ·obtain rfl:n=X.length:=by omega
       have ihj:=ihj (ks)
       rw [<-List.take_length (l:=X)] at ihj
       generalize zlp l k x.mo (X.take X.length)=Y at *
       repeat' ((conv=>whnf);first
       | refine Yz ?_
        | (simp only [mBd,List.cons_append,Evl.idsAll,Evl.idsO,hct,hkb,List.nil_append])
        | (refine zaf.to ihj rfl rfl)
        | fail)
     ·rw [if_neg hin] at hf
      replace hset:=hset hin
      repeat' ((conv=>whnf);first
      | refine Yz ?_
       | (apply zae.of;assumption)
       | (refine zpq.mk ⟨_,hf,?_⟩)
       | (refine yi1.mk ⟨_,hset,?_⟩)
       | (simp only [])
       | fail)
      refine zaf.to (zaf.up g (fun n=>[(0,.ptr ⟨0,0,0⟩ 0 0),(3,.ptr ⟨1,3,0⟩ 0 0),(5,.ref ⟨1,5,0⟩ 0 (T++zlp l k x.mo (X.take n)).length (T++zlp l k x.mo (X.take n)).length),(6,I k),(7,.ptr ⟨1,7,0⟩ 0 0),(18,LLm ls),(19,I ls.length),(20,I k),(36,.d (.agg [DI (x.mo/1440-1),DI (x.mo/1440)])),(37,I (0:Nat)),(66,LI X),(67,I X.length),(68,I n)])
       (fun n=>mBd ls ct (zk3 ls (ks++[((k:Int),x.mo/1440-1)]))++[(⟨1,3,0⟩,.cells zao [I x.mo,S x.ki,S x.te,I x.se,I x.si,I x.no,S x.nm]),(⟨1,4,0⟩,.row false zad 2 0 []),(⟨1,5,0⟩,.row false zad 2 (T++zlp l k x.mo (X.take n)).length ((T++zlp l k x.mo (X.take n)).flatMap wndC)),(⟨1,7,0⟩,.cells zaj [S l.nm,S l.ki,S l.te,I l.le,I l.st,I l.fr,I l.to,I l.pf,I l.pt,I l.pd,I l.mo]),(⟨1,10,0⟩,.cells zad [I k,I (x.mo/1440-1)])])
       X.length (fun n hn ihn=> ?_) 0 (Nat.zero_le _)) (by rw [List.take_zero,show zlp l k x.mo []=[] from rfl,List.append_nil];rfl) (by rw [List.take_zero,show zlp l k x.mo []=[] from rfl,List.append_nil];rfl)
      by_cases hln:n<X.length
      ·have ihn:=ihn hln
       have hTn:(T++zlp l k x.mo (X.take n)).length<=40000:=by
        have:=zz8 l k x.mo (X.take n)
        rw [List.length_take] at this
        rw [List.length_append];omega
       rw [zu8 l k x.mo hln,<-List.append_assoc] at ihn
       have hbr:=hXr X[n] (List.getElem_mem hln)
       generalize T++zlp l k x.mo (X.take n)=U at *
       have hfl:=zah wndC 2 zb4 U
       by_cases hc:X[n]<=x.mo/\x.mo<X[n]+l.le
       ·rw [if_pos hc] at ihn
        repeat' ((conv=>whnf);first
        | refine Yz ?_
         | (refine zg4.intI n rfl hln ?_)
         | (refine ze8.mk (by simp;omega) ?_)
         | (simp only [Evl.idsAll,Evl.idsO,hct,hkb,List.nil_append])
         | (refine zaf.to ihn ?_ ?_)
         | fail)
        ·simp only [List.length_append,List.length_singleton];rfl
        ·simp only [List.length_append,List.length_singleton,List.flatMap_append];rfl
       ·rw [if_neg hc,List.append_nil] at ihn
        by_cases hc1:X[n]<=x.mo
        all_goals repeat' ((conv=>whnf);first
        | refine Yz ?_
         | (refine zg4.intI n rfl hln ?_)
         | (simp only [Evl.idsAll,Evl.idsO,hct,hkb,List.nil_append])
         | (refine zaf.to ihn rfl rfl)
         | fail)
      ·obtain rfl:n=X.length:=by omega
       have ihj:=ihj (ks++[((k:Int),x.mo/1440-1)])
       rw [<-List.take_length (l:=X)] at ihj
       generalize zlp l k x.mo (X.take X.length)=Y at *
       repeat' ((conv=>whnf);first
       | refine Yz ?_
        | (simp only [mBd,List.cons_append,Evl.idsAll,Evl.idsO,hct,hkb,List.nil_append])
        | (refine zaf.to ihj rfl rfl)
        | fail)
    ·rw [show zlp l k x.mo []=[] from rfl,List.append_nil] at ihj
     by_cases hin:((k:Int),x.mo/1440-1)∈ks
     ·rw [if_pos hin] at hf
      have ihj:=ihj ks
      repeat' ((conv=>whnf);first
      | refine Yz ?_
       | (refine zpq.mk ⟨_,hf,?_⟩)
       | (refine zaf.to ihj rfl rfl)
       | (refine zaf.step g.lim ?_)
       | (simp only [Evl.idsAll,Evl.idsO,hct,hkb,List.nil_append])
       | fail)
     ·rw [if_neg hin] at hf
      replace hset:=hset hin
      have ihj:=ihj (ks++[((k:Int),x.mo/1440-1)])
      repeat' ((conv=>whnf);first
      | refine Yz ?_
       | (apply zae.of;assumption)
       | (refine zpq.mk ⟨_,hf,?_⟩)
       | (refine yi1.mk ⟨_,hset,?_⟩)
       | (refine zaf.to ihj rfl rfl)
       | (refine zaf.step g.lim ?_)
       | (simp only [Evl.idsAll,Evl.idsO,hct,hkb,List.nil_append])
       | fail)
   ·clear ih
    have ihj:=fun ks=>ihj (2,ks) (by dsimp only;omega) (by dsimp only;omega)
    dsimp only at ihj
    rw [show z9j l k x.mo 2=z9j l k x.mo 1++zlp l k x.mo (ybu l (x.mo/1440)) from rfl,<-List.append_assoc] at ihj
    have hAl:=hAl 1
    generalize A++z9j l k x.mo 1=T at *
    have hf:=z12 ls ((k:Int),x.mo/1440) ks
    have hset:=z8e ls ((k:Int),x.mo/1440) ks
    dsimp only at hf hset
    obtain⟨er,hbg⟩:=yqq g ls l hvl k e (x.mo/1440) (by omega)
    have hXr:=z40 l hvl (x.mo/1440) (by omega)
    have hXl:=z6r l hvl (x.mo/1440)
    have hXc:=z41 ls l k e (x.mo/1440)
    generalize yg2 ls ((k:Int),x.mo/1440)=bx at *
    generalize ybu l (x.mo/1440)=X at *
    rcases hXc with rfl|⟨rfl,rfl⟩
    ·by_cases hin:((k:Int),x.mo/1440)∈ks
     ·rw [if_pos hin] at hf
      repeat' ((conv=>whnf);first
      | refine Yz ?_
       | (refine zpq.mk ⟨_,hf,?_⟩)
       | (simp only [])
       | fail)
      refine zaf.to (zaf.up g (fun n=>[(0,.ptr ⟨0,0,0⟩ 0 0),(3,.ptr ⟨1,3,0⟩ 0 0),(5,.ref ⟨1,5,0⟩ 0 (T++zlp l k x.mo (X.take n)).length (T++zlp l k x.mo (X.take n)).length),(6,I k),(7,.ptr ⟨1,7,0⟩ 0 0),(18,LLm ls),(19,I ls.length),(20,I k),(36,.d (.agg [DI (x.mo/1440-1),DI (x.mo/1440)])),(37,I (1:Nat)),(66,LI X),(67,I X.length),(68,I n)])
       (fun n=>mBd ls ct (zk3 ls (ks))++[(⟨1,3,0⟩,.cells zao [I x.mo,S x.ki,S x.te,I x.se,I x.si,I x.no,S x.nm]),(⟨1,4,0⟩,.row false zad 2 0 []),(⟨1,5,0⟩,.row false zad 2 (T++zlp l k x.mo (X.take n)).length ((T++zlp l k x.mo (X.take n)).flatMap wndC)),(⟨1,7,0⟩,.cells zaj [S l.nm,S l.ki,S l.te,I l.le,I l.st,I l.fr,I l.to,I l.pf,I l.pt,I l.pd,I l.mo]),(⟨1,10,0⟩,.cells zad [I k,I (x.mo/1440)])])
       X.length (fun n hn ihn=> ?_) 0 (Nat.zero_le _)) (by rw [List.take_zero,show zlp l k x.mo []=[] from rfl,List.append_nil];rfl) (by rw [List.take_zero,show zlp l k x.mo []=[] from rfl,List.append_nil];rfl)
      by_cases hln:n<X.length
      ·have ihn:=ihn hln
       have hTn:(T++zlp l k x.mo (X.take n)).length<=40000:=by
        have:=zz8 l k x.mo (X.take n)
        rw [List.length_take] at this
        rw [List.length_append];omega
       rw [zu8 l k x.mo hln,<-List.append_assoc] at ihn
       have hbr:=hXr X[n] (List.getElem_mem hln)
       generalize T++zlp l k x.mo (X.take n)=U at *
       have hfl:=zah wndC 2 zb4 U
       by_cases hc:X[n]<=x.mo/\x.mo<X[n]+l.le
       ·rw [if_pos hc] at ihn
        repeat' ((conv=>whnf);first
        | refine Yz ?_
         | (refine zg4.intI n rfl hln ?_)
         | (refine ze8.mk (by simp;omega) ?_)
         | (simp only [Evl.idsAll,Evl.idsO,hct,hkb,List.nil_append])
         | (refine zaf.to ihn ?_ ?_)
         | fail)
        ·simp only [List.length_append,List.length_singleton];rfl
        ·simp only [List.length_append,List.length_singleton,List.flatMap_append];rfl
       ·rw [if_neg hc,List.append_nil] at ihn
        by_cases hc1:X[n]<=x.mo
        all_goals repeat' ((conv=>whnf);first
        | refine Yz ?_
         | (refine zg4.intI n rfl hln ?_)
         | (simp only [Evl.idsAll,Evl.idsO,hct,hkb,List.nil_append])
         | (refine zaf.to ihn rfl rfl)
         | fail)
      ·obtain rfl:n=X.length:=by omega
       have ihj:=ihj (ks)
       rw [<-List.take_length (l:=X)] at ihj
       generalize zlp l k x.mo (X.take X.length)=Y at *
       repeat' ((conv=>whnf);first
       | refine Yz ?_
        | (simp only [mBd,List.cons_append,Evl.idsAll,Evl.idsO,hct,hkb,List.nil_append])
        | (refine zaf.to ihj rfl rfl)
        | fail)
     ·rw [if_neg hin] at hf
      replace hset:=hset hin
      repeat' ((conv=>whnf);first
      | refine Yz ?_
       | (apply zae.of;assumption)
       | (refine zpq.mk ⟨_,hf,?_⟩)
       | (refine yi1.mk ⟨_,hset,?_⟩)
       | (simp only [])
       | fail)
      refine zaf.to (zaf.up g (fun n=>[(0,.ptr ⟨0,0,0⟩ 0 0),(3,.ptr ⟨1,3,0⟩ 0 0),(5,.ref ⟨1,5,0⟩ 0 (T++zlp l k x.mo (X.take n)).length (T++zlp l k x.mo (X.take n)).length),(6,I k),(7,.ptr ⟨1,7,0⟩ 0 0),(18,LLm ls),(19,I ls.length),(20,I k),(36,.d (.agg [DI (x.mo/1440-1),DI (x.mo/1440)])),(37,I (1:Nat)),(66,LI X),(67,I X.length),(68,I n)])
       (fun n=>mBd ls ct (zk3 ls (ks++[((k:Int),x.mo/1440)]))++[(⟨1,3,0⟩,.cells zao [I x.mo,S x.ki,S x.te,I x.se,I x.si,I x.no,S x.nm]),(⟨1,4,0⟩,.row false zad 2 0 []),(⟨1,5,0⟩,.row false zad 2 (T++zlp l k x.mo (X.take n)).length ((T++zlp l k x.mo (X.take n)).flatMap wndC)),(⟨1,7,0⟩,.cells zaj [S l.nm,S l.ki,S l.te,I l.le,I l.st,I l.fr,I l.to,I l.pf,I l.pt,I l.pd,I l.mo]),(⟨1,10,0⟩,.cells zad [I k,I (x.mo/1440)])])
       X.length (fun n hn ihn=> ?_) 0 (Nat.zero_le _)) (by rw [List.take_zero,show zlp l k x.mo []=[] from rfl,List.append_nil];rfl) (by rw [List.take_zero,show zlp l k x.mo []=[] from rfl,List.append_nil];rfl)
      by_cases hln:n<X.length
      ·have ihn:=ihn hln
       have hTn:(T++zlp l k x.mo (X.take n)).length<=40000:=by
        have:=zz8 l k x.mo (X.take n)
        rw [List.length_take] at this
        rw [List.length_append];omega
       rw [zu8 l k x.mo hln,<-List.append_assoc] at ihn
       have hbr:=hXr X[n] (List.getElem_mem hln)
       generalize T++zlp l k x.mo (X.take n)=U at *
       have hfl:=zah wndC 2 zb4 U
       by_cases hc:X[n]<=x.mo/\x.mo<X[n]+l.le
       ·rw [if_pos hc] at ihn
        repeat' ((conv=>whnf);first
        | refine Yz ?_
         | (refine zg4.intI n rfl hln ?_)
         | (refine ze8.mk (by simp;omega) ?_)
         | (simp only [Evl.idsAll,Evl.idsO,hct,hkb,List.nil_append])
         | (refine zaf.to ihn ?_ ?_)
         | fail)
        ·simp only [List.length_append,List.length_singleton];rfl
        ·simp only [List.length_append,List.length_singleton,List.flatMap_append];rfl
       ·rw [if_neg hc,List.append_nil] at ihn
        by_cases hc1:X[n]<=x.mo
        all_goals repeat' ((conv=>whnf);first
        | refine Yz ?_
         | (refine zg4.intI n rfl hln ?_)
         | (simp only [Evl.idsAll,Evl.idsO,hct,hkb,List.nil_append])
         | (refine zaf.to ihn rfl rfl)
         | fail)
      ·obtain rfl:n=X.length:=by omega
       have ihj:=ihj (ks++[((k:Int),x.mo/1440)])
       rw [<-List.take_length (l:=X)] at ihj
       generalize zlp l k x.mo (X.take X.length)=Y at *
       repeat' ((conv=>whnf);first
       | refine Yz ?_
        | (simp only [mBd,List.cons_append,Evl.idsAll,Evl.idsO,hct,hkb,List.nil_append])
        | (refine zaf.to ihj rfl rfl)
        | fail)
    ·rw [show zlp l k x.mo []=[] from rfl,List.append_nil] at ihj
     by_cases hin:((k:Int),x.mo/1440)∈ks
     ·rw [if_pos hin] at hf
      have ihj:=ihj ks
      repeat' ((conv=>whnf);first
      | refine Yz ?_
       | (refine zpq.mk ⟨_,hf,?_⟩)
       | (refine zaf.to ihj rfl rfl)
       | (refine zaf.step g.lim ?_)
       | (simp only [Evl.idsAll,Evl.idsO,hct,hkb,List.nil_append])
       | fail)
     ·rw [if_neg hin] at hf
      replace hset:=hset hin
      have ihj:=ihj (ks++[((k:Int),x.mo/1440)])
      repeat' ((conv=>whnf);first
      | refine Yz ?_
       | (apply zae.of;assumption)
       | (refine zpq.mk ⟨_,hf,?_⟩)
       | (refine yi1.mk ⟨_,hset,?_⟩)
       | (refine zaf.to ihj rfl rfl)
       | (refine zaf.step g.lim ?_)
       | (simp only [Evl.idsAll,Evl.idsO,hct,hkb,List.nil_append])
       | fail)
   ·have ih:=ih ks
    generalize A++z9j l k x.mo 2=T at *
    repeat' ((conv=>whnf);first
    | refine Yz ?_
     | (simp only [mBd,List.cons_append,Evl.idsAll,Evl.idsO,hct,hkb,List.nil_append])
     | (refine zaf.to ih rfl rfl)
     | fail)
 ·obtain rfl:k=ls.length:=by omega
  clear ih
  have hK:=hK ks
  unfold z3q at hK
  have hfl:=zah wndC 2 zb4 (ybj ls x ls.length)
  generalize ybj ls x ls.length=A at *
  repeat' ((conv=>whnf);first
  | refine Yz ?_
   | (simp only [Evl.idsAll,Evl.idsO,hct,hkb,List.nil_append])
   | fail)
  rw [if_pos (by simp)]
  exact hK
theorem ygx (ls:List Lmt) (hls:ls.length<=3) (hv:∀l∈ls,zfz l=0) (x:Mvt) (hx:0<=x.mo/\x.mo<=143999999) (es:List (Wnd×Int)) (ks:List Wnd):UB E true zbn ls [Mvv x] es ks fun v es' _=>v=LWn (z3q ls x)/\es'=es:=
 ⟨ykf g ls hls hv x hx (znl es) (znu es) ks (K:=fun v' m'=>∃es' ks',(v'=LWn (z3q ls x)/\es'=es)/\zu2 m' (mBd ls (znl es') (zk3 ls ks'))) fun ks=>⟨es,ks,⟨rfl,rfl⟩,rfl,rfl,rfl,trivial⟩⟩
theorem yrm (ls:List Lmt) (hls:ls.length<=3) (hv:∀l∈ls,zfz l=0) (x:Mvt) (hx:0<=x.mo/\x.mo<=143999999) (t:Int) (ht: -1<=t/\t<=1) (es:List (Wnd×Int)) (hes:∀w,-1000000000<=zd1 es w/\zd1 es w<=1000000000) (ks:List Wnd) {K:V->Mem->Prop}
  (hK:∀es' ks,(∀w,zd1 es' w=zd1 es w+t*((z3q ls x).count w:Nat))->K (.tup []) (mBd ls (znl es') (zk3 ls ks)++[(⟨1,4,0⟩,.cells zao (mvC x))])):
  In E 1 zb2 [.ptr ⟨0,0,0⟩ 0 0,Mvv x,I t] (mBd ls (znl es) (zk3 ls ks)) K:=by
 have hkb:=fun ks=>znt ls ks
 have hct:=fun es=>znu es
 refine In.enter (f:=zb2) g.lim rfl rfl ?_
 have har:=ygx g ls hls hv x hx es ks
 have hlen:=zu7 ls hv x ls.length (Nat.le_refl _)
 unfold z3q at hK har
 generalize ybj ls x ls.length=W at *
 repeat' ((conv=>whnf);first
 | refine Yz ?_
  | (refine UpdB.of (b0:=⟨0,0,0⟩) har rfl rfl (by decide) rfl rfl rfl (by rintro v es' ks' ⟨rfl,rfl⟩;exact⟨fun _=>rfl,rfl⟩) ?_;rintro v es' ks ⟨rfl,he⟩;rw [he])
  | fail)
 rename_i ks
 refine zaf.to (zaf.by (σ:=Nat×List (Wnd×Int)) g (fun u=>u.1<=W.length/\∀w,zd1 u.2 w=zd1 es w+t*((W.take u.1).count w:Nat))
  (fun u=>[(0,.ptr ⟨0,0,0⟩ 0 0),(2,I t),(10,LWn W),(11,I W.length),(12,I u.1)])
  (fun u=>mBd ls (znl u.2) (zk3 ls ks)++[(⟨1,4,0⟩,.cells zao (mvC x))])
  (fun u=>W.length-u.1) ?_ (0,es) ⟨Nat.zero_le _,fun w=>by simp⟩) rfl rfl
 rintro⟨n,es'⟩ ⟨h1,hc⟩ ih
 dsimp only at h1 hc
 by_cases hlt:n<W.length
 ·have ih:=ih (n+1,ys1 es' W[n] (zd1 es' W[n]+t)) ⟨by dsimp only;omega,fun w=>by
   dsimp only
   rw [yfa,List.take_add_one,List.getElem?_eq_getElem hlt,List.count_append,Option.toList_some,List.count_singleton]
   by_cases e:w=W[n]
   ·subst e
    rw [if_pos rfl,hc,if_pos (by simp)]
    rw [Int.natCast_add,Int.mul_add]
    omega
   ·rw [if_neg e,hc,if_neg (by simpa using Ne.symm e)]
    simp⟩ (by dsimp only;omega)
  dsimp only at ih
  have hf:=z13 W[n] es'
  have hset:=ygo W[n] (zd1 es' W[n]+t) es'
  have hb1:=hes W[n]
  have hb2:=hc W[n]
  have hb3:(W.take n).count W[n]<=8640:=by
   refine Nat.le_trans (List.count_le_length ..) ?_
   rw [List.length_take];omega
  have hb: -1000010000<=zd1 es' W[n]/\zd1 es' W[n]<=1000010000:=by
   have ht3:t= -1\/t=0\/t=1:=by omega
   rcases ht3 with rfl|rfl|rfl<;>omega
  by_cases hin:W[n]∈es'.map (·.1)
  ·rw [if_pos hin] at hf
   generalize zd1 es' W[n]=c at *
   repeat' ((conv=>whnf);first
   | refine Yz ?_
    | (refine zal.rec zb4 n rfl hlt ?_)
    | (refine zpq.mk ⟨_,hf,?_⟩)
    | (refine yi1.mk ⟨_,hset,?_⟩)
    | (simp only [Evl.idsAll,Evl.idsO,hct,hkb,List.nil_append])
    | (refine zaf.to ih rfl rfl)
    | fail)
  ·rw [if_neg hin] at hf
   rw [z2a _ _ hin] at *
   repeat' ((conv=>whnf);first
   | refine Yz ?_
    | (refine zal.rec zb4 n rfl hlt ?_)
    | (refine zpq.mk ⟨_,hf,?_⟩)
    | (refine yi1.mk ⟨_,hset,?_⟩)
    | (simp only [Evl.idsAll,Evl.idsO,hct,hkb,List.nil_append])
    | (refine zaf.to ih rfl rfl)
    | fail)
 ·obtain rfl:n=W.length:=by omega
  clear ih
  rw [List.take_length] at hc
  have hK:=hK es' ks hc
  repeat' ((conv=>whnf);first
  | refine Yz ?_
   | (exact hK)
   | (simp only [mBd,List.cons_append,Evl.idsAll,Evl.idsO,hct,hkb,List.nil_append])
   | fail)
theorem yuh (ls:List Lmt) (hls:ls.length<=3) (hv:∀l∈ls,zfz l=0) (x:Mvt) (hx:0<=x.mo/\x.mo<=143999999) (t:Int) (ht: -1<=t/\t<=1) (es:List (Wnd×Int)) (hes:∀w,-1000000000<=zd1 es w/\zd1 es w<=1000000000) (ks:List Wnd):UB E false zb2 ls [Mvv x,I t] es ks fun v es' _=>v= .tup []/\∀w,zd1 es' w=zd1 es w+t*((z3q ls x).count w:Nat):=
 ⟨yrm g ls hls hv x hx t ht es hes ks (K:=fun v m1=>∃es' ks',(v= .tup []/\∀w,zd1 es' w=zd1 es w+t*((z3q ls x).count w:Nat))/\zu2 m1 (mBd ls (znl es') (zk3 ls ks'))) fun es' ks h=>⟨es',ks,⟨rfl,h⟩,rfl,rfl,rfl,trivial⟩⟩
end
structure Us (E:Oracle) (f:Nat) (as0:List V) (m0:Mem) (r:V) (m2:Mem):Prop where
 got:In E 1 f as0 m0 fun v m1=>v=r/\zu2 m1 m2
theorem z5k (m1:Mem):∀(m:Mem) (i:Evl.Id) (o:Ob),zu2 m1 m->Evl.look m i=some o->Evl.look m1 i=some o
 | [],_,_,_,h=>by simp [Evl.look] at h
 | (j,x)::r,i,o,⟨h1,h2⟩,h=>by
  simp only [Evl.look] at h
  split at h
  ·rename_i e
   subst e
   obtain rfl:=Option.some.inj h
   exact h1
  ·exact z5k m1 r i o h2 h
theorem z4y {σ:List (Evl.Id×Evl.Id)} {m1 m2:Mem} (hk:zu2 m1 m2):∀(l:List (Evl.Id×Evl.Id)) (m m':Mem),zt5 σ m2 l m=some m'->zt5 σ m1 l m=some m'
 | [],_,_,h=>h
 | (a,b)::r,m,m',h=>by
  simp only [zt5] at h ⊢
  cases hl:Evl.look m2 b with
  | none=>rw [hl] at h;cases h
  | some o=>
   rw [hl] at h
   rw [z5k m1 m2 b o hk hl]
   dsimp only at h ⊢
   split at h
   ·rename_i hc
    rw [if_pos hc]
    exact z4y hk r _ m' h
   ·cases h
theorem z3u.of {E:Oracle} {f:Nat} {first caps args as0:List V} {m m0 m2 m':Mem} {r r':V} {K:V->Mem->Prop} (is:List Evl.Id) (his:reach 0 m 64 (idsL ((first ++args++caps).map (z0f m))) []=is)
  (hc:(within is 0 (idsL ((first ++args++caps).map (z0f m)))&&movable is 0 m)=true) (has:renL (number ⟨0,0⟩ 0 0 is) ((first ++args++caps).map (z0f m))=as0) (hm:moved (number ⟨0,0⟩ 0 0 is) m (number ⟨0,0⟩ 0 0 is)=m0)
  (hq:Us E f as0 m0 r m2) (hb:zt5 (number ⟨0,0⟩ 0 0 is) m2 (number ⟨0,0⟩ 0 0 is) m=some m') (hid:(ids r).all (fun i=>((number ⟨0,0⟩ 0 0 is).map (·.2)).elem i)=true) (hr:ren (znc (number ⟨0,0⟩ 0 0 is)) r=r') (hk:K r' m'):z3u E false (.fn f first caps) args m K:=by
 obtain⟨v,m1,h1,rfl,h3⟩:=hq.got
 refine⟨r',m',?_,hk⟩
 simp only [zwh,his,hc,if_true,has,hm,h1]
 rw [if_neg (by decide),hid,z4y h3 _ _ _ hb,<-hr]
 rfl
def ddW (l:List Wnd):Nat->List Wnd
 | 0=>[]
 | k+1=>ddW l k++if k=0\/l.getD k (0,0)≠l.getD (k-1) (0,0) then [l.getD k (0,0)] else []
theorem z9k (l:List Wnd):∀k,(ddW l k).length<=k
 | 0=>by simp [ddW]
 | k+1=>by
  have:=z9k l k
  simp only [ddW,List.length_append]
  split<;>simp<;>omega
def z3a (l:List Wnd) (j:Nat):List Wnd:=ddW l j++l.drop (ddW l j).length
theorem ydi (l:List Wnd) (j:Nat) (h:j<=l.length):(z3a l j).length=l.length:=by
 have:=z9k l j
 simp [z3a];omega
theorem ygf (l:List Wnd) (j i:Nat) (h1:(ddW l j).length<=i):(z3a l j).getD i (0,0)=l.getD i (0,0):=by
 unfold z3a
 simp only [List.getD]
 rw [List.getElem?_append_right h1,List.getElem?_drop]
 congr 2
 omega
theorem ylq (l:List Wnd) (j:Nat) (h:¬(j=0\/l.getD j (0,0)≠l.getD (j-1) (0,0))):z3a l (j+1)=z3a l j:=by
 unfold z3a
 simp only [ddW,if_neg h,List.append_nil]
theorem yo5 (l:List Wnd) (j:Nat) (h:j=0\/l.getD j (0,0)≠l.getD (j-1) (0,0)) (hj:j<l.length):z3a l (j+1)=(z3a l j).set (ddW l j).length (l.getD j (0,0)):=by
 have hle:=z9k l j
 unfold z3a
 simp only [ddW,if_pos h,List.length_append,List.length_singleton]
 rw [List.set_append_right _ _ (Nat.le_refl _),Nat.sub_self,List.drop_eq_getElem_cons (show (ddW l j).length<l.length by omega),List.set_cons_zero]
 simp only [List.append_assoc,List.singleton_append]
theorem ycc (l:List Wnd):∀k,(∀i,0<i->i<k->l.getD i (0,0)≠l.getD (i-1) (0,0))->k<=l.length->ddW l k=l.take k
 | 0,_,_=>rfl
 | k+1,h,hk=>by
  have:=ycc l k (fun i h1 h2=>h i h1 (by omega)) (by omega)
  simp only [ddW]
  rw [if_pos (by rcases Nat.eq_zero_or_pos k with h0|h0;exact .inl h0;exact .inr (h k h0 (by omega))),this,List.take_add_one,List.getElem?_eq_getElem (show k<l.length by omega)]
  simp [List.getD,List.getElem?_eq_getElem (show k<l.length by omega)]
theorem yjv (l:List Wnd):∀k,0<k->0<(ddW l k).length
 | 0,h=>absurd h (Nat.lt_irrefl 0)
 | 1,_=>by simp [ddW]
 | k+2,_=>by
  have:=yjv l (k+1) (by omega)
  rw [ddW,List.length_append];omega
def z9b (l:List Wnd):List Wnd:=ddW l l.length
theorem ynu (l:List Wnd):z9b l=[]↔l=[]:=by
 constructor
 ·intro h
  rcases l with _|⟨a,r⟩
  ·rfl
  ·have:=yjv (a::r) (a::r).length (by simp)
   unfold z9b at h
   rw [h] at this
   exact absurd this (by simp)
 ·rintro rfl;rfl
theorem zal.atW {l:List Wnd} {n:Nat} {K:List D->Prop} (p:Nat) (hp:n=p*2) (h:p<l.length) (hk:K (wndC (l.getD p (0,0)))):zal (l.flatMap wndC) n 2 K:=by
 subst hp
 have hl:=zah wndC 2 zb4 l
 refine zal.now (by omega) (z9u wndC 2 zb4 l p h) ?_
 have:l.getD p (0,0)=l[p]:=by simp [List.getD,h]
 rwa [this] at hk
theorem ytu (l:List Wnd) (k:Nat) (hk:k<l.length) (x:Wnd):patch (l.flatMap wndC) (k*2) (wndC x)=(l.set k x).flatMap wndC:=by
 have h1:=zah wndC 2 zb4 (l.take k)
 have h2:(l.take k).length=k:=by simp;omega
 rw [h2] at h1
 conv=>lhs;rw [<-List.take_append_drop k l,List.drop_eq_getElem_cons hk]
 rw [List.flatMap_append,List.flatMap_cons,List.set_eq_take_append_cons_drop,if_pos hk,List.flatMap_append,List.flatMap_cons]
 unfold patch
 rw [<-h1,List.take_left,List.drop_append,List.drop_of_length_le (by omega)]
 simp [wndC]
abbrev rwW (n:Nat) (xs:List D):Mem:=[(⟨0,0,0⟩,.row true zad 2 n xs)]
section
variable {E : Oracle} (g : Good E)
include g
theorem ycn (l:List Wnd) (hl:l.length<=100000000) {K:V->Mem->Prop}
  (hK:∀xs:List D,xs.length=l.length*2->xs.take ((z9b l).length*2)=(z9b l).flatMap wndC->K (.ref ⟨0,0,0⟩ 0 (z9b l).length l.length) [(⟨0,0,0⟩,.row true zad 2 l.length xs),(⟨1,2,0⟩,.row true zad 2 0 [])]):
  In E 1 zas [.ref ⟨0,0,0⟩ 0 l.length l.length] (rwW l.length (l.flatMap wndC)) K:=by
 unfold z9b at hK
 refine In.enter (f:=zas) g.lim rfl rfl ?_
 have hfl:=fun _:Unit=>zah wndC 2 zb4 l
 have hsame:(∀i,0<i->i<l.length->l.getD i (0,0)≠l.getD (i-1) (0,0))->K (.ref ⟨0,0,0⟩ 0 l.length l.length) [(⟨0,0,0⟩,.row true zad 2 l.length (l.flatMap wndC)),(⟨1,2,0⟩,.row true zad 2 0 [])]:=by
  intro h
  have h1:=ycc l l.length h (Nat.le_refl _)
  rw [List.take_length] at h1
  have:=hK (l.flatMap wndC) (hfl ()) (by rw [h1,List.take_of_length_le (by rw [hfl ()];omega)])
  rwa [h1] at this
 by_cases h2:l.length<2
 ·repeat' ((conv=>whnf);first
 | refine Yz ?_
   | (exact hsame (fun i h3 h4=>absurd h4 (by omega)))
   | fail)
 ·repeat' ((conv=>whnf);first
 | refine Yz ?_
   | fail)
  refine zaf.to (zaf.upP g (fun k=>[(0,.ref ⟨0,0,0⟩ 0 l.length l.length),(3,I (k+1:Nat))]) (fun _=>[(⟨0,0,0⟩,.row true zad 2 l.length (l.flatMap wndC)),(⟨1,2,0⟩,.row true zad 2 0 [])]) (fun k=>∀i,0<i->i<k+1->l.getD i (0,0)≠l.getD (i-1) (0,0)) (l.length-1) (fun k hk hp ih=> ?_) 0 (Nat.zero_le _) (fun i h3 h4=>absurd h4 (by omega))) rfl rfl
  by_cases hlt:k<l.length-1
  ·by_cases heq:l.getD (k+1) (0,0)=l.getD k (0,0)
   ·have hd1:=ycc l (k+1) hp (by omega)
    have hn:¬(k+1=0\/l.getD (k+1) (0,0)≠l.getD (k+1-1) (0,0)):=by simpa using heq
    have hd2:ddW l (k+2)=l.take (k+1):=by
     show ddW l (k+1)++_=_
     rw [if_neg hn,List.append_nil,hd1]
    have hd3:(ddW l (k+2)).length=k+1:=by rw [hd2];simp;omega
    have hr:z3a l (k+2)=l:=by unfold z3a;rw [hd3,hd2];simp
    repeat' ((conv=>whnf);first
    | refine Yz ?_
     | (refine zal.atW (k+1) (by omega) (by omega) ?_)
     | (refine zal.atW k (by omega) (by omega) ?_)
     | (refine Cmp.tt ⟨congrArg Prod.fst heq,congrArg Prod.snd heq⟩ ?_)
     | (refine zff.mk (by omega) ?_)
     | fail)
    refine zaf.to (zaf.upP g (fun j=>[(0,.ref ⟨0,0,0⟩ 0 l.length l.length),(3,I (ddW l (k+2+j)).length),(4,.ref ⟨0,0,0⟩ (k+1) (l.length-(k+1)) l.length),(5,I (j+1:Nat))]) (fun j=>[(⟨0,0,0⟩,.row true zad 2 l.length ((z3a l (k+2+j)).flatMap wndC)),(⟨1,2,0⟩,.row true zad 2 0 [])]) (fun j=>(ddW l (k+2+j)).length<=k+1+j) (l.length-(k+2)) (fun j hj hpj ihj=> ?_) 0 (Nat.zero_le _) (by rw [Nat.add_zero,hd3];omega)) ?_ ?_
    ·have hrl:=ydi l (k+2+j) (by omega)
     have hrf:=fun _:Unit=>zah wndC 2 zb4 (z3a l (k+2+j))
     have g1:=ygf l (k+2+j) (k+2+j) (by omega)
     have g2:=ygf l (k+2+j) (k+1+j) (by omega)
     by_cases hjt:j<l.length-(k+2)
     ·by_cases hne:l.getD (k+2+j) (0,0)=l.getD (k+1+j) (0,0)
      ·have hn2:¬(k+2+j=0\/l.getD (k+2+j) (0,0)≠l.getD (k+2+j-1) (0,0)):=by
        rw [show k+2+j-1=k+1+j by omega]
        simp only [not_or,ne_eq,Decidable.not_not]
        exact⟨by omega,hne⟩
       have e1:=ylq l _ hn2
       have e2:ddW l (k+2+j+1)=ddW l (k+2+j):=by
        show ddW l (k+2+j)++_=_
        rw [if_neg hn2,List.append_nil]
       have e3:(z3a l (k+2+j)).getD (k+2+j) (0,0)=(z3a l (k+2+j)).getD (k+1+j) (0,0):=by rw [g1,g2];exact hne
       repeat' ((conv=>whnf);first
       | refine Yz ?_
        | (refine zal.atW (k+2+j) (by omega) (by omega) ?_)
        | (refine zal.atW (k+1+j) (by omega) (by omega) ?_)
        | (refine Cmp.tt ⟨congrArg Prod.fst e3,congrArg Prod.snd e3⟩ ?_)
        | (refine zaf.to (ihj hjt (by rw [show k+2+(j+1)=k+2+j+1 by omega,e2];omega)) ?_ ?_)
        | fail)
       ·rw [show k+2+(j+1)=k+2+j+1 by omega,e2];rfl
       ·rw [show k+2+(j+1)=k+2+j+1 by omega,e1]
      ·have hn2:(k+2+j=0\/l.getD (k+2+j) (0,0)≠l.getD (k+2+j-1) (0,0)):=by
        rw [show k+2+j-1=k+1+j by omega]
        exact .inr hne
       have e1:=yo5 l _ hn2 (by omega)
       have e2:(ddW l (k+2+j+1)).length=(ddW l (k+2+j)).length+1:=by
        show (ddW l (k+2+j)++_).length=_
        rw [if_pos hn2];simp
       have e3:=ytu (z3a l (k+2+j)) (ddW l (k+2+j)).length (by omega) (l.getD (k+2+j) (0,0))
       have e4:(0+((ddW l (k+2+j)).length:Int).toNat)*2=(ddW l (k+2+j)).length*2:=by omega
       have e5:¬((z3a l (k+2+j)).getD (k+2+j) (0,0)).1=((z3a l (k+2+j)).getD (k+1+j) (0,0)).1\/¬((z3a l (k+2+j)).getD (k+2+j) (0,0)).2=((z3a l (k+2+j)).getD (k+1+j) (0,0)).2:=by
        rw [g1,g2]
        by_cases hf:(l.getD (k+2+j) (0,0)).1=(l.getD (k+1+j) (0,0)).1
        ·exact .inr fun hs=>hne (Prod.ext hf hs)
        ·exact .inl hf
       repeat' ((conv=>whnf);first
       | refine Yz ?_
        | (refine zal.atW (k+2+j) (by omega) (by omega) ?_)
        | (refine zal.atW (k+1+j) (by omega) (by omega) ?_)
        | (refine Cmp.ff (fun h=>e5.elim (fun n=>n h.1) (fun n=>n h.2)) ?_)
        | (refine ze8.mk ⟨rfl,by rw [hrf ()];show _+2<=_;omega,rfl⟩ ?_)
        | (refine zaf.to (ihj hjt (by rw [show k+2+(j+1)=k+2+j+1 by omega,e2];omega)) ?_ ?_)
        | fail)
       ·rw [show k+2+(j+1)=k+2+j+1 by omega,e2];rfl
       ·rw [show k+2+(j+1)=k+2+j+1 by omega,e1,<-e3,g1,e4]
     ·have hjj:k+2+j=l.length:=by omega
      rw [hjj] at hrl hpj hrf
      have hle:=z9k l l.length
      simp only [hjj]
      repeat' ((conv=>whnf);first
      | refine Yz ?_
       | (refine zff.mk (by omega) ?_)
       | (refine zko.mk ⟨_,if_pos (by refine⟨rfl,?_,rfl⟩;omega),?_⟩)
       | fail)
      conv=>whnf
      refine hK (patch ((z3a l l.length).flatMap wndC) ((0+((ddW l l.length).length:Int).toNat)*2) (List.replicate (l.length-(ddW l l.length).length) [DI 0,DI 0]).flatten) ?_ ?_
      ·simp [patch,hrf (),hrl];omega
      ·have hdf:=zah wndC 2 zb4 (ddW l l.length)
       have e0:(0+((ddW l l.length).length:Int).toNat)*2=((ddW l l.length).flatMap wndC).length:=by omega
       rw [e0,hdf,<-hdf]
       unfold patch z3a
       rw [List.flatMap_append,List.take_left,List.append_assoc,List.take_left]
    ·simp;omega
    ·rw [Nat.add_zero,hr]
   ·have e5:¬(l.getD (k+1) (0,0)).1=(l.getD k (0,0)).1\/¬(l.getD (k+1) (0,0)).2=(l.getD k (0,0)).2:=by
     by_cases hf:(l.getD (k+1) (0,0)).1=(l.getD k (0,0)).1
     ·exact .inr fun hs=>heq (Prod.ext hf hs)
     ·exact .inl hf
    repeat' ((conv=>whnf);first
    | refine Yz ?_
     | (refine zal.atW (k+1) (by omega) (by omega) ?_)
     | (refine zal.atW k (by omega) (by omega) ?_)
     | (refine Cmp.ff (fun h=>e5.elim (fun n=>n h.1) (fun n=>n h.2)) ?_)
     | (refine zaf.to (ih hlt ?_) ?_ rfl)
     | fail)
    ·intro i h3 h4
     by_cases e:i=k+1
     ·subst e;exact heq
     ·exact hp i h3 (by omega)
    ·rfl
  ·repeat' ((conv=>whnf);first
  | refine Yz ?_
    | (exact hsame (fun i h3 h4=>hp i h3 (by omega)))
    | fail)
theorem yiw (l:List Wnd) (hl:l.length<=100000000):∃xs:List D,xs.length=l.length*2/\xs.take ((z9b l).length*2)=(z9b l).flatMap wndC/\Us E zas [.ref ⟨0,0,0⟩ 0 l.length l.length] (rwW l.length (l.flatMap wndC)) (.ref ⟨0,0,0⟩ 0 (z9b l).length l.length) (rwW l.length xs):=by
 obtain⟨v,m1,h1,xs,h2,h3,h4,h5⟩:=(ycn g l hl (K:=fun v m1=>∃xs:List D,xs.length=l.length*2/\xs.take ((z9b l).length*2)=(z9b l).flatMap wndC/\v= .ref ⟨0,0,0⟩ 0 (z9b l).length l.length/\zu2 m1 (rwW l.length xs)) fun xs h1 h2=>⟨xs,h1,h2,rfl,rfl,trivial⟩).got
 exact⟨xs,h2,h3,⟨v,m1,h1,h4,h5⟩⟩
end
theorem yni {l:Lmt} {i:Int} {x:Mvt} {w:Wnd} (h:w∈ym2 l i x):w.1=i:=by
 unfold ym2 at h
 split at h
 ·rcases List.mem_append.1 h with h|h<;>(unfold yst at h;obtain⟨b,_,rfl⟩:=List.mem_map.1 h;rfl)
 ·simp at h
theorem ynk {ls:List Lmt} {x:Mvt} {w:Wnd} (h:w∈z3q ls x):w.1=(w.1.toNat:Nat)/\w.1.toNat<ls.length:=by
 unfold z3q ybj at h
 obtain⟨i,hi,h⟩:=List.mem_flatMap.1 h
 have:=yni h
 have hi:=List.mem_range.1 hi
 omega
def zz2 (ls:List Lmt) (es:List (Wnd×Int)) (W:List Wnd):List Wnd:=W.filter fun w=>decide ((ls.getD w.1.toNat default).mo<zd1 es w)
theorem yk8 (ls:List Lmt) (es:List (Wnd×Int)) {W:List Wnd} {n:Nat} (h:n<W.length):zz2 ls es (W.take (n+1))=zz2 ls es (W.take n)++if(ls.getD W[n].1.toNat default).mo<zd1 es W[n] then [W[n]] else []:=by
 unfold zz2
 rw [List.take_add_one,List.getElem?_eq_getElem h,List.filter_append]
 congr 1
 simp only [Option.toList_some,List.filter_cons,List.filter_nil,decide_eq_true_eq]
theorem yox (ls:List Lmt) (es:List (Wnd×Int)) (A B:List Wnd):zz2 ls es (A++B)=zz2 ls es A++zz2 ls es B:=by
 unfold zz2
 rw [List.filter_append]
theorem ydc (ls:List Lmt) (es:List (Wnd×Int)) (W:List Wnd):(zz2 ls es W).length<=W.length:=List.length_filter_le _ _
theorem zsj (ls:List Lmt) {M:List Mvt} {n:Nat} (h:n<M.length):zez ls (M.take (n+1))=zez ls (M.take n)++z3q ls M[n]:=by
 unfold zez
 rw [List.take_add_one,List.getElem?_eq_getElem h,List.flatMap_append]
 simp
def z67 (ls:List Lmt) (c:Wnd->Int) (M:List Mvt):List Wnd:=(zez ls M).filter fun w=>decide ((ls.getD w.1.toNat default).mo<c w+((zez ls M).count w:Nat))
def yqj (ls:List Lmt) (c:Wnd->Int) (M:List Mvt):List Wnd:=z9b (ymj (fun a b=>decide (cfW a b<0)) (z67 ls c M))
theorem yo4 (ls:List Lmt) (c:Wnd->Int) (M:List Mvt):yqj ls c M=[]↔z67 ls c M=[]:=by
 unfold yqj
 rw [ynu]
 have:=(zse (fun a b=>decide (cfW a b<0)) (z67 ls c M)).length_eq
 rw [<-List.length_eq_zero_iff,<-List.length_eq_zero_iff,this]
theorem yv1 (l:List Wnd):yuc (fun a b=>decide (cfW a b<0)) l=true:=by
 unfold yuc
 refine List.all_eq_true.2 fun a _=>List.all_eq_true.2 fun b _=> ?_
 by_cases h:a=b
 ·simp [h]
 ·have hz:∀a b:Int,(yb7 a b<0↔a<b)/\(yb7 a b=0↔a=b):=fun a b=>by
   unfold yb7
   constructor<;>(repeat' split)<;>omega
  have h1:=hz a.1 b.1
  have h2:=hz b.1 a.1
  have h3:=hz a.2 b.2
  have h4:=hz b.2 a.2
  have h5:¬(a.1=b.1/\a.2=b.2):=fun hh=>h (Prod.ext hh.1 hh.2)
  unfold cfW
  simp only [Bool.or_eq_true,decide_eq_true_eq]
  left
  (repeat' split)<;>omega
theorem yid {f:Nat} {m:Mem} {o:Evl.Id} {t n:Nat} (l:List Wnd) (hm:Evl.look m o=some (.row true t 2 n (l.flatMap wndC))) (hn:l.length=n) (hb:n<=100000000):
  sortWX f [.ref o 0 n n,.fn f [] []] m=some (.tup [],upd m o (.row true t 2 n ((ymj (fun a b=>decide (cfW a b<0)) l).flatMap wndC))):=by
 unfold sortWX ygq
 simp only [hm]
 rw [if_pos (by refine⟨?_,?_,?_,?_,?_⟩<;>first |trivial|rfl|omega)]
 by_cases h0:n=0
 ·rw [if_pos h0]
  obtain rfl:l=[]:=by rw [<-List.length_eq_zero_iff];omega
  rw [show upd m o (.row true t 2 n ((ymj (fun a b=>decide (cfW a b<0)) ([]:List Wnd)).flatMap wndC))=m from z8s m o _ hm]
 ·rw [if_neg h0,yjw]
  simp only
  rw [if_pos ⟨yv1 l,hn⟩]
theorem z3u.add {E:Oracle} (g:Good E) {ls:List Lmt} (hls:ls.length<=3) (hv:∀l∈ls,zfz l=0) {x:Mvt} (hx:0<=x.mo/\x.mo<=143999999) {t:Int} (ht: -1<=t/\t<=1) {es:List (Wnd×Int)} (hes:∀w,-1000000000<=zd1 es w/\zd1 es w<=1000000000) {ks:List Wnd} {b0 b1 b2:Evl.Id} {m:Mem} {K:V->Mem->Prop}
  (hne:b0≠b1/\b0≠b2/\b1≠b2) (h0:Evl.look m b0=some (.cells zb1 [LLm ls,.mp b1,.mp b2])) (h1:Evl.look m b1=some (.map (znl es))) (h2:Evl.look m b2=some (.map (zk3 ls ks)))
  (hk:∀es' ks',(∀w,zd1 es' w=zd1 es w+t*((z3q ls x).count w:Nat))->zqt m b1 (.map (znl es')) fun m1=>zqt m1 b2 (.map (zk3 ls ks')) fun m2=>K (.tup []) m2):z3u E false (.fn zb2 [] []) [.ptr b0 0 0,Mvv x,I t] m K:=
 UpdB.of (yuh g ls hls hv x hx t ht es hes ks) rfl rfl hne h0 h1 h2 (by rintro v es' ks' ⟨rfl,_⟩;exact⟨fun _=>rfl,rfl⟩) (by rintro v es' ks' ⟨rfl,h⟩;exact hk es' ks' h)
theorem z3u.around {E:Oracle} (g:Good E) {ls:List Lmt} (hls:ls.length<=3) (hv:∀l∈ls,zfz l=0) {x:Mvt} (hx:0<=x.mo/\x.mo<=143999999) {es:List (Wnd×Int)} {ks:List Wnd} {b0 b1 b2:Evl.Id} {m:Mem} {K:V->Mem->Prop}
  (hne:b0≠b1/\b0≠b2/\b1≠b2) (h0:Evl.look m b0=some (.cells zb1 [LLm ls,.mp b1,.mp b2])) (h1:Evl.look m b1=some (.map (znl es))) (h2:Evl.look m b2=some (.map (zk3 ls ks)))
  (hk:∀ks',zqt m b1 (.map (znl es)) fun m1=>zqt m1 b2 (.map (zk3 ls ks')) fun m2=>K (LWn (z3q ls x)) m2):z3u E true (.fn zbn [] []) [.ptr b0 0 0,Mvv x] m K:=
 UpdB.of (ygx g ls hls hv x hx es ks) rfl rfl hne h0 h1 h2 (by rintro v es' ks' ⟨rfl,_⟩;exact⟨fun _=>rfl,rfl⟩) (by rintro v es' ks' ⟨rfl,rfl⟩;exact hk ks')
section
variable {E : Oracle} (g : Good E)
include g
theorem yix (ls:List Lmt) (hls:ls.length<=3) (hv:∀l∈ls,zfz l=0) (M:List Mvt) (hM:∀x∈M,0<=x.mo/\x.mo<=143999999) (hMl:M.length<=1000) (es:List (Wnd×Int)) (hes:∀w,-100000000<=zd1 es w/\zd1 es w<=100000000) (ks:List Wnd):
  UB E true zby ls [LMv M] es ks fun v es' _=>v=LWn (yqj ls (zd1 es) M)/\∀w,zd1 es' w=zd1 es w:=by
 refine⟨?_⟩
 show In E 1 _ _ _ fun v m1=>ybs ⟨0,1⟩ 0 true v m1 fun v' m'=>∃es' ks',(v'=LWn (yqj ls (zd1 es) M)/\∀w,zd1 es' w=zd1 es w)/\zu2 m' (mBd ls (znl es') (zk3 ls ks'))
 have hkb:=fun ks=>znt ls ks
 have hct:=fun es=>znu es
 have hcn:∀n w,((zez ls (M.take n)).count w:Nat)<=8640000:=fun n w=>by
  have h1:=zoz ls hv hls (M.take n)
  have h2:(M.take n).length<=1000:=by rw [List.length_take];omega
  have h3:=List.count_le_length (a:=w) (l:=zez ls (M.take n))
  omega
 refine In.enter (f:=zby) g.lim rfl rfl ?_
 repeat' ((conv=>whnf);first
 | refine Yz ?_
  | fail)
 refine zaf.to (zaf.by (σ:=Nat×List (Wnd×Int)×List Wnd) g (fun u=>u.1<=M.length/\∀w,zd1 u.2.1 w=zd1 es w+((zez ls (M.take u.1)).count w:Nat))
  (fun u=>[(0,.ptr ⟨0,0,0⟩ 0 0),(1,LMv M),(14,LMv M),(15,I M.length),(16,I u.1)])
  (fun u=>mBd ls (znl u.2.1) (zk3 ls u.2.2)++[(⟨1,4,0⟩,.row true zad 2 0 [])])
  (fun u=>M.length-u.1) ?_ (0,es,ks) ⟨Nat.zero_le _,fun w=>by simp [zez]⟩) rfl rfl
 rintro⟨n,es1,ks1⟩ ⟨h1,hc⟩ ih
 dsimp only at h1 hc
 by_cases hlt:n<M.length
 ·have hx:=hM _ (List.getElem_mem hlt)
  have hes1:∀w,-1000000000<=zd1 es1 w/\zd1 es1 w<=1000000000:=fun w=>by
   have:=hcn n w
   have:=hes w
   have:=hc w
   omega
  have ih:=fun es' ks' (h:∀w,zd1 es' w=zd1 es1 w+1*((z3q ls M[n]).count w:Nat))=>ih (n+1,es',ks') ⟨by dsimp only;omega,fun w=>by
   dsimp only
   rw [h,hc,zsj ls hlt,List.count_append]
   omega⟩ (by dsimp only;omega)
  dsimp only at ih
  repeat' ((conv=>whnf);first
  | refine Yz ?_
   | (refine zal.rec Mvt.cells_length n rfl hlt ?_)
   | (refine z3u.add g hls hv hx (by omega) hes1 (by decide) rfl rfl rfl (fun es' ks' h=> ?_))
   | (simp only [mBd,Evl.idsAll,Evl.idsO,hct,hkb,List.nil_append])
   | (refine zaf.to (ih _ _ h) rfl rfl)
   | fail)
 ·obtain rfl:n=M.length:=by omega
  clear ih
  rw [List.take_length] at hc
  repeat' ((conv=>whnf);first
  | refine Yz ?_
   | (simp only [mBd])
   | fail)
  have hle1:=zoz ls hv hls M
  refine zaf.to (zaf.by (σ:=Nat×List Wnd) g (fun u=>u.1<=M.length)
   (fun u=>[(0,.ptr ⟨0,0,0⟩ 0 0),(1,LMv M),(7,.ref ⟨1,7,0⟩ 0 (zz2 ls es1 (zez ls (M.take u.1))).length (zz2 ls es1 (zez ls (M.take u.1))).length),(24,LMv M),(25,I M.length),(26,I u.1)])
   (fun u=>mBd ls (znl es1) (zk3 ls u.2)++[(⟨1,4,0⟩,.row true zad 2 0 []),(⟨1,7,0⟩,.row true zad 2 (zz2 ls es1 (zez ls (M.take u.1))).length ((zz2 ls es1 (zez ls (M.take u.1))).flatMap wndC))])
   (fun u=>M.length-u.1) ?_ (0,ks1) (Nat.zero_le _)) rfl rfl
  rintro⟨n,ks2⟩ h2 ih2
  dsimp only at h2
  by_cases hlt:n<M.length
  ·have hx:=hM _ (List.getElem_mem hlt)
   have ih2:=fun ks'=>ih2 (n+1,ks') (by dsimp only;omega) (by dsimp only;omega)
   dsimp only at ih2
   have hs:=zsj ls hlt
   rw [hs,yox] at ih2
   have hal:(zz2 ls es1 (zez ls (M.take n))).length<=8640000:=by
    have h3:=zoz ls hv hls (M.take n)
    have h4:=ydc ls es1 (zez ls (M.take n))
    have h5:(M.take n).length<=1000:=by rw [List.length_take];omega
    omega
   have hWl:=zu7 ls hv M[n] ls.length (Nat.le_refl _)
   change (z3q ls M[n]).length<=_ at hWl
   have hWi:=fun w (hw:w∈z3q ls M[n])=>ynk hw
   generalize zz2 ls es1 (zez ls (M.take n))=A at *
   generalize hW:z3q ls M[n]=W at *
   repeat' ((conv=>whnf);first
   | refine Yz ?_
    | (refine zal.rec Mvt.cells_length n rfl hlt ?_)
    | (refine z3u.around g hls hv hx (by decide) rfl rfl rfl (fun ks'=> ?_))
    | (simp only [])
    | fail)
   rw [hW]
   generalize M[n]=x at *
   refine zaf.to (zaf.up g (fun k=>[(0,.ptr ⟨0,0,0⟩ 0 0),(1,LMv M),(7,.ref ⟨1,7,0⟩ 0 (A++zz2 ls es1 (W.take k)).length (A++zz2 ls es1 (W.take k)).length),(24,LMv M),(25,I M.length),(26,I n),(32,LWn W),(33,I W.length),(34,I k)])
    (fun k=>mBd ls (znl es1) (zk3 ls ks')++[(⟨1,4,0⟩,.row true zad 2 0 []),(⟨1,7,0⟩,.row true zad 2 (A++zz2 ls es1 (W.take k)).length ((A++zz2 ls es1 (W.take k)).flatMap wndC)),(⟨1,9,0⟩,.cells zao (mvC x))])
    W.length (fun k hk ihk=> ?_) 0 (Nat.zero_le _)) (by rw [List.take_zero,show zz2 ls es1 []=[] from rfl,List.append_nil];rfl) (by rw [List.take_zero,show zz2 ls es1 []=[] from rfl,List.append_nil];rfl)
   by_cases hlk:k<W.length
   ·have ihk:=ihk hlk
    have hi:=hWi W[k] (List.getElem_mem hlk)
    have e:ls.getD W[k].1.toNat default=ls[W[k].1.toNat]'hi.2:=by simp [List.getD,hi.2]
    rw [yk8 ls es1 hlk,e,<-List.append_assoc] at ihk
    have hUl:(A++zz2 ls es1 (W.take k)).length<=9000000:=by
     have h5:=ydc ls es1 (W.take k)
     rw [List.length_take] at h5
     rw [List.length_append];omega
    generalize A++zz2 ls es1 (W.take k)=U at *
    have hfl:=fun _:Unit=>zah wndC 2 zb4 U
    have hf:=z13 W[k] es1
    have hn:=z2a W[k] es1
    generalize zd1 es1 W[k]=c at *
    by_cases hc2:(ls[W[k].1.toNat]'hi.2).mo<c
    ·rw [if_pos hc2] at ihk
     by_cases hin:W[k]∈es1.map (·.1)
     ·rw [if_pos hin] at hf
      repeat' ((conv=>whnf);first
      | refine Yz ?_
       | (refine zal.rec zb4 k rfl hlk ?_)
       | (refine zpq.mk ⟨_,hf,?_⟩)
       | (refine zg4.rec Lmt.cells_length W[k].1.toNat hi.1 hi.2 rfl ?_)
       | (refine ze8.mk (by simp [hfl ()];omega) ?_)
       | (simp only [mBd,List.cons_append,Evl.idsAll,Evl.idsO,hct,hkb,List.nil_append])
       | (refine zaf.to ihk ?_ ?_)
       | fail)
      ·simp only [List.length_append,List.length_singleton];rfl
      ·simp only [List.length_append,List.length_singleton,List.flatMap_append];rfl
     ·rw [if_neg hin] at hf
      obtain rfl:=hn hin
      repeat' ((conv=>whnf);first
      | refine Yz ?_
       | (refine zal.rec zb4 k rfl hlk ?_)
       | (refine zpq.mk ⟨_,hf,?_⟩)
       | (refine zg4.rec Lmt.cells_length W[k].1.toNat hi.1 hi.2 rfl ?_)
       | (refine ze8.mk (by simp [hfl ()];omega) ?_)
       | (simp only [mBd,List.cons_append,Evl.idsAll,Evl.idsO,hct,hkb,List.nil_append])
       | (refine zaf.to ihk ?_ ?_)
       | fail)
      ·simp only [List.length_append,List.length_singleton];rfl
      ·simp only [List.length_append,List.length_singleton,List.flatMap_append];rfl
    ·rw [if_neg hc2,List.append_nil] at ihk
     by_cases hin:W[k]∈es1.map (·.1)
     ·rw [if_pos hin] at hf
      repeat' ((conv=>whnf);first
      | refine Yz ?_
       | (refine zal.rec zb4 k rfl hlk ?_)
       | (refine zpq.mk ⟨_,hf,?_⟩)
       | (refine zg4.rec Lmt.cells_length W[k].1.toNat hi.1 hi.2 rfl ?_)
       | (simp only [Evl.idsAll,Evl.idsO,hct,hkb,List.nil_append])
       | (refine zaf.to ihk rfl rfl)
       | fail)
     ·rw [if_neg hin] at hf
      obtain rfl:=hn hin
      repeat' ((conv=>whnf);first
      | refine Yz ?_
       | (refine zal.rec zb4 k rfl hlk ?_)
       | (refine zpq.mk ⟨_,hf,?_⟩)
       | (refine zg4.rec Lmt.cells_length W[k].1.toNat hi.1 hi.2 rfl ?_)
       | (simp only [Evl.idsAll,Evl.idsO,hct,hkb,List.nil_append])
       | (refine zaf.to ihk rfl rfl)
       | fail)
   ·obtain rfl:k=W.length:=by omega
    clear ihk
    rw [List.take_length]
    have ih2:=ih2 ks'
    generalize A++zz2 ls es1 W=U at *
    repeat' ((conv=>whnf);first
    | refine Yz ?_
     | (simp only [mBd,List.cons_append,Evl.idsAll,Evl.idsO,hct,hkb,List.nil_append])
     | (refine zaf.to ih2 rfl rfl)
     | fail)
  ·obtain rfl:n=M.length:=by omega
   clear ih2
   rw [List.take_length]
   have hF:zz2 ls es1 (zez ls M)=z67 ls (zd1 es) M:=by
    unfold zz2 z67
    congr 1
    funext w
    rw [hc]
   have hFl:(z67 ls (zd1 es) M).length<=8640000:=by
    rw [<-hF]
    have h4:=ydc ls es1 (zez ls M)
    omega
   rw [hF]
   unfold yqj
   generalize hFe:z67 ls (zd1 es) M=F at *
   repeat' ((conv=>whnf);first
   | refine Yz ?_
    | (simp only [])
    | fail)
   refine zaf.to (zaf.by (σ:=Nat×List (Wnd×Int)×List Wnd) g (fun u=>u.1<=M.length/\∀w,zd1 u.2.1 w=zd1 es1 w-((zez ls (M.take u.1)).count w:Nat))
    (fun u=>[(0,.ptr ⟨0,0,0⟩ 0 0),(7,.ref ⟨1,7,0⟩ 0 F.length F.length),(60,LMv M),(61,I M.length),(62,I u.1)])
    (fun u=>mBd ls (znl u.2.1) (zk3 ls u.2.2)++[(⟨1,4,0⟩,.row true zad 2 0 []),(⟨1,7,0⟩,.row true zad 2 F.length (F.flatMap wndC))])
    (fun u=>M.length-u.1) ?_ (0,es1,ks2) ⟨Nat.zero_le _,fun w=>by simp [zez]⟩) rfl rfl
   rintro⟨n,es3,ks3⟩ ⟨h3,hc3⟩ ih
   dsimp only at h3 hc3
   by_cases hlt:n<M.length
   ·have hx:=hM _ (List.getElem_mem hlt)
    have hes1:∀w,-1000000000<=zd1 es3 w/\zd1 es3 w<=1000000000:=fun w=>by
     have:=hcn n w
     have h5:=hcn M.length w
     rw [List.take_length] at h5
     have:=hes w
     have:=hc w
     have:=hc3 w
     omega
    have ih:=fun es' ks' (h:∀w,zd1 es' w=zd1 es3 w+ -1*((z3q ls M[n]).count w:Nat))=>ih (n+1,es',ks') ⟨by dsimp only;omega,fun w=>by
     dsimp only
     rw [h,hc3,zsj ls hlt,List.count_append]
     omega⟩ (by dsimp only;omega)
    dsimp only at ih
    repeat' ((conv=>whnf);first
    | refine Yz ?_
     | (refine zal.rec Mvt.cells_length n rfl hlt ?_)
     | (refine z3u.add g hls hv hx (by omega) hes1 (by decide) rfl rfl rfl (fun es' ks' h=> ?_))
     | (simp only [Evl.idsAll,Evl.idsO,hct,hkb,List.nil_append])
     | (refine zaf.to (ih _ _ h) rfl rfl)
     | fail)
   ·obtain rfl:n=M.length:=by omega
    clear ih
    rw [List.take_length] at hc3
    have hx:=yid (f:=n_allocate_board_refusing_1) (o:=⟨1,7,0⟩) (t:=zad) (n:=F.length) (m:=mBd ls (znl es3) (zk3 ls ks3)++[(⟨1,4,0⟩,.row true zad 2 0 []),(⟨1,7,0⟩,.row true zad 2 F.length (F.flatMap wndC))]) F rfl rfl (by omega)
    have hSl:=(zse (fun a b=>decide (cfW a b<0)) F).length_eq
    generalize ymj (fun a b=>decide (cfW a b<0)) F=T at *
    obtain⟨xs,hx1,hx2,hq⟩:=yiw g T (by omega)
    rw [hSl] at hx1 hq
    repeat' ((conv=>whnf);first
    | refine Yz ?_
     | (simp only [mBd,List.cons_append,Evl.idsAll,Evl.idsO,hct,hkb,List.nil_append])
     | (refine In.extern g.lim (x:=sortWX n_allocate_board_refusing_1) rfl hx ?_)
     | (refine z3u.of (is:=[⟨1,7,0⟩]) rfl rfl rfl rfl hq rfl rfl rfl ?_)
     | fail)
    have hcl:(z9b T).length<=T.length:=z9k T T.length
    have hval:(if True/\(z9b T).length=F.length then xs else win xs (0*2) ((z9b T).length*2))=(z9b T).flatMap wndC:=by
     split
     ·rename_i h
      rw [<-hx2,List.take_of_length_le (by rw [hx1,h.2];exact Nat.le_refl _)]
     ·rw [<-hx2]
      simp [win]
    refine ze8.mk ⟨trivial,by omega⟩ ?_
    rw [hval]
    exact⟨es3,ks3,⟨rfl,fun w=>by rw [hc3,hc];omega⟩,rfl,rfl,rfl,trivial⟩
end
def ys2 (rs:List Alr) (i:Nat) (m:Int):List Alr:=rs.set i {rs.getD i ⟨[],0,false⟩ with mi:=m,gr:=true}
theorem z16 {α:Type} (cell:α->List D) (w:Nat) (hw:∀a,(cell a).length=w) (l:List α) (k j:Nat) (hk:k<l.length) (hj:j<w) (d:D) (x:α) (hx:cell x=patch (cell l[k]) j [d]):patch (l.flatMap cell) (k*w+j) [d]=(l.set k x).flatMap cell:=by
 have h1:l=l.take k++l[k]::l.drop (k+1):=by rw [<-List.drop_eq_getElem_cons hk,List.take_append_drop]
 have h2:l.set k x=l.take k++x::l.drop (k+1):=by
  rw [List.set_eq_take_append_cons_drop,if_pos hk]
 rw [h2,List.flatMap_append,List.flatMap_cons,hx]
 have h3:l.flatMap cell=(l.take k).flatMap cell++(cell l[k]++(l.drop (k+1)).flatMap cell):=by
  rw [<-List.flatMap_cons,<-List.flatMap_append]
  exact congrArg (List.flatMap cell) h1
 rw [h3]
 have h4:((l.take k).flatMap cell).length=k*w:=by
  rw [zah cell w hw,List.length_take,Nat.min_eq_left (by omega)]
 have h5:=hw l[k]
 generalize (l.take k).flatMap cell=A at *
 generalize (l.drop (k+1)).flatMap cell=C at *
 generalize cell l[k]=B at *
 unfold patch
 rw [<-h4,List.take_append,List.take_of_length_le (by omega),Nat.add_sub_cancel_left,List.take_append_of_le_length (by omega)]
 rw [List.drop_append,List.drop_of_length_le (by simp;omega),List.length_singleton,Nat.add_assoc,Nat.add_sub_cancel_left,List.drop_append_of_le_length (by omega)]
 simp
theorem ytt (rs:List Alr) (i:Nat) (hi:i<rs.length) (m:Int):patch (patch (rs.flatMap Alr.cells) (i*3+1) [DI m]) (i*3+2) [.bool true]=(ys2 rs i m).flatMap Alr.cells:=by
 have e:rs.getD i ⟨[],0,false⟩=rs[i]:=by simp [List.getD,hi]
 rw [z16 Alr.cells 3 Alr.cells_length rs i 1 hi (by decide) (DI m) {rs[i] with mi:=m} rfl]
 have hi2:i<(rs.set i {rs[i] with mi:=m}).length:=by rw [List.length_set];exact hi
 rw [z16 Alr.cells 3 Alr.cells_length _ i 2 hi2 (by decide) (.bool true) {rs[i] with mi:=m,gr:=true} (by rw [List.getElem_set_self];rfl),List.set_set]
 unfold ys2
 rw [e]
abbrev rwR (n:Nat) (rs:List Alr):Mem:=[(⟨0,0,0⟩,.row true zar 3 n (rs.flatMap Alr.cells))]
section
variable {E : Oracle} (g : Good E)
include g
theorem yvm (rs:List Alr) (i:Nat) (hi:i<rs.length) (m:Int):Us E zf5 [Unt i,.ref ⟨0,0,0⟩ 0 rs.length rs.length,.d (.agg [DI m,DI (-1)])] (rwR rs.length rs) (.tup []) (rwR rs.length (ys2 rs i m)):=by
 refine⟨?_⟩
 refine In.enter (f:=zf5) g.lim rfl rfl ?_
 have hfl:=zah Alr.cells 3 Alr.cells_length rs
 have hp:=ytt rs i hi m
 have e1:(0+((i:Nat):Int).toNat)*3=i*3:=by rw [Nat.zero_add,Int.toNat_natCast]
 rw [<-e1] at hp
 repeat' ((conv=>whnf);first
 | refine Yz ?_
  | (refine zg3.of (In.enter (f:=zcz) g.lim rfl rfl ?_))
  | (refine⟨(.fn zbz [] [.ptr ⟨1,9,0⟩ 0 0],[(⟨0,0,0⟩,.row true zar 3 rs.length (rs.flatMap Alr.cells)),(⟨1,3,0⟩,.cells zba [I i,I (-1)]),(⟨1,4,0⟩,.cells zga [.ref ⟨0,0,0⟩ 0 rs.length rs.length]),(⟨1,5,0⟩,.cells zak [I m,I (-1)]),(⟨1,9,0⟩,.cells zba [I i,I (-1)])]),rfl,?_⟩)
  | (refine In.enter (f:=zbz) g.lim rfl rfl ?_)
  | (refine Rnd.enter g.lim ?_)
  | (refine zaf.step g.lim ?_)
  | (refine ze8.mk ⟨rfl,by simp [patch,hfl];omega,rfl⟩ ?_)
  | fail)
 exact⟨rfl,by rw [<-hp];rfl,trivial⟩
theorem yui (ls:List Lmt) (hls:ls.length<=3) (hv:∀l∈ls,zfz l=0) (l:List Wsh) (i:Nat) (hi:i<l.length) (m:Int) (hr:zwk l[i].r=0) (hm:0<=m/\m<=1439) (M:List Mvt) (hMe:M=ycx {l[i].r with mi:=m}) (hM:∀x∈M,0<=x.mo/\x.mo<=143999999) (hMl:M.length<=1000)
  (es:List (Wnd×Int)) (hes:∀w,-100000000<=zd1 es w/\zd1 es w<=100000000) (ks:List Wnd):
  UB E false zde ls [LWi l,Unt i,.d (.agg [DI m,DI (-1)]),I 1] es ks fun v es' _=>v= .tup []/\∀w,zd1 es' w=zd1 es w+((zez ls M).count w:Nat):=by
 refine⟨?_⟩
 show In E 1 _ _ _ fun v m1=>∃es' ks',(v= .tup []/\∀w,zd1 es' w=zd1 es w+((zez ls M).count w:Nat))/\zu2 m1 (mBd ls (znl es') (zk3 ls ks'))
 have hkb:=fun ks=>znt ls ks
 have hct:=fun es=>znu es
 have hcn:∀n w,((zez ls (M.take n)).count w:Nat)<=8640000:=fun n w=>by
  have h1:=zoz ls hv hls (M.take n)
  have h2:(M.take n).length<=1000:=by rw [List.length_take];omega
  have h3:=List.count_le_length (a:=w) (l:=zez ls (M.take n))
  omega
 refine In.enter (f:=zde) g.lim rfl rfl ?_
 have hmv:=zy3 g l i hi m hr hm
 rw [<-hMe] at hmv
 repeat' ((conv=>whnf);first
 | refine Yz ?_
  | (apply zae.of;assumption)
  | fail)
 refine zaf.to (zaf.by (σ:=Nat×List (Wnd×Int)×List Wnd) g (fun u=>u.1<=M.length/\∀w,zd1 u.2.1 w=zd1 es w+((zez ls (M.take u.1)).count w:Nat))
  (fun u=>[(0,.ptr ⟨0,0,0⟩ 0 0),(4,I 1),(15,LMv M),(16,I M.length),(17,I u.1)])
  (fun u=>mBd ls (znl u.2.1) (zk3 ls u.2.2)++[(⟨1,7,0⟩,.cells zba [I i,I (-1)]),(⟨1,8,0⟩,.cells zak [I m,I (-1)])])
  (fun u=>M.length-u.1) ?_ (0,es,ks) ⟨Nat.zero_le _,fun w=>by simp [zez]⟩) rfl rfl
 rintro⟨n,es1,ks1⟩ ⟨h1,hc⟩ ih
 dsimp only at h1 hc
 by_cases hlt:n<M.length
 ·have hx:=hM _ (List.getElem_mem hlt)
  have hes1:∀w,-1000000000<=zd1 es1 w/\zd1 es1 w<=1000000000:=fun w=>by
   have:=hcn n w
   have:=hes w
   have:=hc w
   omega
  have ih:=fun es' ks' (h:∀w,zd1 es' w=zd1 es1 w+1*((z3q ls M[n]).count w:Nat))=>ih (n+1,es',ks') ⟨by dsimp only;omega,fun w=>by
   dsimp only
   rw [h,hc,zsj ls hlt,List.count_append]
   omega⟩ (by dsimp only;omega)
  dsimp only at ih
  repeat' ((conv=>whnf);first
  | refine Yz ?_
   | (refine zal.rec Mvt.cells_length n rfl hlt ?_)
   | (refine z3u.add g hls hv hx (by omega) hes1 (by decide) rfl rfl rfl (fun es' ks' h=> ?_))
   | (simp only [mBd,Evl.idsAll,Evl.idsO,hct,hkb,List.nil_append])
   | (refine zaf.to (ih _ _ h) rfl rfl)
   | fail)
 ·obtain rfl:n=M.length:=by omega
  clear ih
  rw [List.take_length] at hc
  repeat' ((conv=>whnf);first
  | refine Yz ?_
   | (simp only [mBd,List.cons_append,List.nil_append])
   | (exact⟨es1,ks1,⟨trivial,hc⟩,rfl,rfl,rfl,trivial⟩)
   | fail)
end
theorem z48:∀ {ls:List Lmt} {seen:List (List UInt8)},zzz seen ls=0->∀l∈ls,zfz l=0
 | [],_,_,l,h=>absurd h List.not_mem_nil
 | x::r,seen,h,l,hm=>by
  unfold zzz at h
  split at h
  ·rename_i h0
   rcases List.mem_cons.1 hm with rfl|hm
   ·unfold yb4 at h0
    rw [za5] at h0
    exact h0 _ (List.mem_cons_self ..)
   ·exact z48 h l hm
  ·rename_i h0;exact absurd h h0
theorem yb5 {ls:List Lmt} (h:zqm ls=0):∀l∈ls,zfz l=0:=by
 unfold zqm at h
 split at h
 ·cases h
 ·exact z48 h
end Go.Proofs.YtkgcnknhkobmjaaGreatDoor.Co
