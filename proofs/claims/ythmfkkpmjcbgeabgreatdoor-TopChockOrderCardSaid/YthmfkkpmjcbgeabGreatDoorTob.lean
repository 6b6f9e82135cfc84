/-
  TopChockOrder: what its law leans on, part 2.
-/
import Derived.KernelRfl
import Derived.Laws.RangeAny
import Derived.Lib.SplitLaws
import Derived.Test.YthmfkkpmjcbgeabGreatDoorEvE
import Derived.Test.YthmfkkpmjcbgeabGreatDoorEvRun
import Derived.Test.YthmfkkpmjcbgeabGreatDoorEvX
import Derived.Test.YthmfkkpmjcbgeabGreatDoorGood
import Derived.Test.YthmfkkpmjcbgeabGreatDoorRead
import Derived.Test.YthmfkkpmjcbgeabGreatDoorToa
namespace Go.Proofs.YthmfkkpmjcbgeabGreatDoor.Co
open Go Go.Evl
set_option maxHeartbeats 32000000
set_option maxRecDepth 100000
def zef (ls:List Lnt) (k:Nat):Option Lnt:=if k=0 then none else ls[k-1]?
theorem yg4 {ls:List Lnt} {k:Nat} (h:k<ls.length):zef ls (k+1)=some ls[k]:=by simp [zef,h]
theorem yps (s:List UInt8):∃r,zwt (.str s) yt7=some r/\yo1 (.str []) false r=S (ywy s):=by
 rcases z88 s with h|⟨h,h1,h2⟩
 ·simp only [yod,yn5,List.cons_append,List.nil_append,List.mem_cons,List.not_mem_nil,or_false] at h
  rcases h with rfl|rfl|rfl|rfl|rfl|rfl|rfl|rfl|rfl
  all_goals exact⟨_,rfl,rfl⟩
 ·exact⟨_,h,by unfold ywy;rw [h1,h2];rfl⟩
theorem za0.part {α:Type} {cell:α->List D} {w:Nat} (hw:∀a,(cell a).length=w) {l:List α} {i:Int} {j n:Nat} {ds:List D} {K:List D->Prop} (k:Nat) (hi:i=k) (h:k<l.length) (hj:j+n<=w) (hd:win (cell l[k]) j n=ds) (hk:K ds):za0 (l.flatMap cell) (i.toNat*w+j) n K:=by
 subst hi
 rw [Int.toNat_natCast]
 have h1:=za2 cell w hw l
 have h2:(k+1)*w<=l.length*w:=Nat.mul_le_mul_right _ h
 rw [Nat.succ_mul] at h2
 refine⟨by omega,?_⟩
 have e:win (l.flatMap cell) (k*w+j) n=ds:=by
  rw [<-hd]
  unfold win
  rw [<-List.drop_drop,zjz cell w hw,List.drop_eq_getElem_cons h,List.flatMap_cons,List.drop_append_of_le_length (by rw [hw];omega),List.take_append_of_le_length (by rw [List.length_drop,hw];omega)]
 rw [e];exact hk
section
variable {E : Oracle} (g : Good E)
include g
theorem ykn (a b:Rqt):Fc E zlo [Rqv a,Rqv b] (B (yar a b)):=by
 refine g.fn rfl rfl ?_
 unfold yar
 by_cases h1:a.ca=b.ca
 ·rw [decide_eq_true h1]
  by_cases h2:a.nm=b.nm
  ·rw [decide_eq_true h2]
   repeat' ((conv=>whnf);first
   | refine Yz ?_
    | (refine Cmp.tt h1 ?_)
    | (refine Cmp.tt h2 ?_)
    | (refine Ret.mk rfl))
  ·rw [decide_eq_false h2]
   repeat' ((conv=>whnf);first
   | refine Yz ?_
    | (refine Cmp.tt h1 ?_)
    | (refine Cmp.ff h2 ?_)
    | (refine Ret.mk rfl))
 ·rw [decide_eq_false h1]
  repeat' ((conv=>whnf);first
  | refine Yz ?_
   | (refine Cmp.ff h1 ?_)
   | (refine Ret.mk rfl))
theorem z3d (kind:List UInt8) (ls:List Lnt) (k:Nat) (hlt:k<ls.length) {K:Ex->Env->Mem->Prop} {R:V} (hl:ls.length<=1000000) (hK:∀e m,K .ret e m=zd6 m e [.tmp 4,.tmp 5] fun v=>znm m v fun d=>Ret d R)
  (hF:lnE kind (zef ls k) ls[k]≠0-> .tup [I k,I (lnE kind (zef ls k) ls[k])]=R)
  (ih:lnE kind (zef ls k) ls[k]=0->zad E ⟨0,1⟩ [0,1,12,13,14] [] ze9 [(0,S kind),(1,LL ls),(12,LL ls),(13,I ls.length),(14,I (k+1:Nat))] [] K):
  wpC E ⟨0,1⟩ ze9 [(0,S kind),(1,LL ls),(12,LL ls),(13,I ls.length),(14,I k)] [] (z2n E ⟨0,1⟩ [0,1,12,13,14] [] ze9 K):=by
 have hcl:=zz0 g ls[k]
 obtain⟨r,hf,hr⟩:=yps ls[k].ac
 have fin:∀a b c,lnE kind (zef ls k) ls[k]=zap [a,b,c]->(zap [a,b,c]=0->lnE kind (zef ls k) ls[k]=0)/\(zap [a,b,c]≠0-> .tup [I k,I (zap [a,b,c])]=R):=by
  intro a b c h
  rw [<-h]
  exact⟨id,hF⟩
 by_cases hk:ywy ls[k].ac=kind
 ·by_cases h0:k=0
  ·have hp:zef ls k=none:=if_pos h0
   by_cases hR:ls[k].ac=[82]
   ·have he:lnE kind (zef ls k) ls[k]=zap [zhn ls[k],0,11]:=by
     unfold lnE
     rw [hp,if_pos hk]
     simp [hR,zjj,zny]
    by_cases hz:lnE kind (zef ls k) ls[k]=0
    all_goals repeat' ((conv=>whnf);first
    | refine Yz ?_
     | (refine za0.rec Lnt.cells_length k rfl hlt ?_)
     | (refine zaf.of hcl ?_)
     | (refine zdo.actions g rfl ?_)
     | (refine z39.mk ⟨_,hf,?_⟩<;>(dsimp only;rw [hr]))
     | (refine Cmp.tt (by assumption) ?_)
     | (refine Cmp.ff (by assumption) ?_)
     | (refine zaf.of (zbr g _ _) ?_)
     | (refine zaf.of (zdi g _ _ _) ?_)
     | (refine Cmp.tt (he.symm.trans hz) ?_)
     | (refine Cmp.ff (fun h=>hz (he.trans h)) ?_)
     | (refine zad.to (ih hz) rfl rfl)
     | (refine(hK _ _).mpr ?_)
     | (refine Ret.mk ((fin _ _ _ he).2 (fun h=>hz (he.trans h)))))
   ·have he:lnE kind (zef ls k) ls[k]=zap [zhn ls[k],0,0]:=by
     unfold lnE
     rw [hp,if_pos hk]
     simp [hR,zjj,zny]
    by_cases hz:lnE kind (zef ls k) ls[k]=0
    all_goals repeat' ((conv=>whnf);first
    | refine Yz ?_
     | (refine za0.rec Lnt.cells_length k rfl hlt ?_)
     | (refine zaf.of hcl ?_)
     | (refine zdo.actions g rfl ?_)
     | (refine z39.mk ⟨_,hf,?_⟩<;>(dsimp only;rw [hr]))
     | (refine Cmp.tt (by assumption) ?_)
     | (refine Cmp.ff (by assumption) ?_)
     | (refine zaf.of (zbr g _ _) ?_)
     | (refine zaf.of (zdi g _ _ _) ?_)
     | (refine Cmp.tt (he.symm.trans hz) ?_)
     | (refine Cmp.ff (fun h=>hz (he.trans h)) ?_)
     | (refine zad.to (ih hz) rfl rfl)
     | (refine(hK _ _).mpr ?_)
     | (refine Ret.mk ((fin _ _ _ he).2 (fun h=>hz (he.trans h)))))
  ·have hlp:k-1<ls.length:=by omega
   have hp:zef ls k=some ls[k-1]:=by simp [zef,h0,hlp]
   have ht:=ykn g ls[k-1].rq ls[k].rq
   by_cases hC:ls[k-1].ac=[67]
   ·by_cases hR:ls[k].ac=[82]
    ·cases htw:yar ls[k-1].rq ls[k].rq
     all_goals rw [htw] at ht
     ·have he:lnE kind (zef ls k) ls[k]=zap [zhn ls[k],0,11]:=by
       unfold lnE
       rw [hp,if_pos hk]
       simp [hR,hC,htw,zjj,zny]
      by_cases hz:lnE kind (zef ls k) ls[k]=0
      all_goals repeat' ((conv=>whnf);first
      | refine Yz ?_
       | (refine za0.rec Lnt.cells_length k rfl hlt ?_)
       | (refine zaf.of hcl ?_)
       | (refine zdo.actions g rfl ?_)
       | (refine z39.mk ⟨_,hf,?_⟩<;>(dsimp only;rw [hr]))
       | (refine zcj.rec Lnt.cells_length (k-1) (by omega) hlp rfl ?_)
       | (refine za0.part Lnt.cells_length (k-1) (by omega) hlp (by decide) rfl ?_)
       | (refine zaf.of ht ?_)
       | (refine Cmp.tt (by assumption) ?_)
       | (refine Cmp.ff (by assumption) ?_)
       | (refine zaf.of (zbr g _ _) ?_)
       | (refine zaf.of (zdi g _ _ _) ?_)
       | (refine Cmp.tt (he.symm.trans hz) ?_)
       | (refine Cmp.ff (fun h=>hz (he.trans h)) ?_)
       | (refine zad.to (ih hz) rfl rfl)
       | (refine(hK _ _).mpr ?_)
       | (refine Ret.mk ((fin _ _ _ he).2 (fun h=>hz (he.trans h)))))
     ·have he:lnE kind (zef ls k) ls[k]=zap [zhn ls[k],0,0]:=by
       unfold lnE
       rw [hp,if_pos hk]
       simp [hR,hC,htw,zjj,zny]
      by_cases hz:lnE kind (zef ls k) ls[k]=0
      all_goals repeat' ((conv=>whnf);first
      | refine Yz ?_
       | (refine za0.rec Lnt.cells_length k rfl hlt ?_)
       | (refine zaf.of hcl ?_)
       | (refine zdo.actions g rfl ?_)
       | (refine z39.mk ⟨_,hf,?_⟩<;>(dsimp only;rw [hr]))
       | (refine zcj.rec Lnt.cells_length (k-1) (by omega) hlp rfl ?_)
       | (refine za0.part Lnt.cells_length (k-1) (by omega) hlp (by decide) rfl ?_)
       | (refine zaf.of ht ?_)
       | (refine Cmp.tt (by assumption) ?_)
       | (refine Cmp.ff (by assumption) ?_)
       | (refine zaf.of (zbr g _ _) ?_)
       | (refine zaf.of (zdi g _ _ _) ?_)
       | (refine Cmp.tt (he.symm.trans hz) ?_)
       | (refine Cmp.ff (fun h=>hz (he.trans h)) ?_)
       | (refine zad.to (ih hz) rfl rfl)
       | (refine(hK _ _).mpr ?_)
       | (refine Ret.mk ((fin _ _ _ he).2 (fun h=>hz (he.trans h)))))
    ·have he:lnE kind (zef ls k) ls[k]=zap [zhn ls[k],0,11]:=by
      unfold lnE
      rw [hp,if_pos hk]
      simp [hR,hC,zjj,zny]
     by_cases hz:lnE kind (zef ls k) ls[k]=0
     all_goals repeat' ((conv=>whnf);first
     | refine Yz ?_
      | (refine za0.rec Lnt.cells_length k rfl hlt ?_)
      | (refine zaf.of hcl ?_)
      | (refine zdo.actions g rfl ?_)
      | (refine z39.mk ⟨_,hf,?_⟩<;>(dsimp only;rw [hr]))
      | (refine zcj.rec Lnt.cells_length (k-1) (by omega) hlp rfl ?_)
      | (refine za0.part Lnt.cells_length (k-1) (by omega) hlp (by decide) rfl ?_)
      | (refine zaf.of ht ?_)
      | (refine Cmp.tt (by assumption) ?_)
      | (refine Cmp.ff (by assumption) ?_)
      | (refine zaf.of (zbr g _ _) ?_)
      | (refine zaf.of (zdi g _ _ _) ?_)
      | (refine Cmp.tt (he.symm.trans hz) ?_)
      | (refine Cmp.ff (fun h=>hz (he.trans h)) ?_)
      | (refine zad.to (ih hz) rfl rfl)
      | (refine(hK _ _).mpr ?_)
      | (refine Ret.mk ((fin _ _ _ he).2 (fun h=>hz (he.trans h)))))
   ·by_cases hR:ls[k].ac=[82]
    ·have he:lnE kind (zef ls k) ls[k]=zap [zhn ls[k],0,11]:=by
      unfold lnE
      rw [hp,if_pos hk]
      simp [hR,hC,zjj,zny]
     by_cases hz:lnE kind (zef ls k) ls[k]=0
     all_goals repeat' ((conv=>whnf);first
     | refine Yz ?_
      | (refine za0.rec Lnt.cells_length k rfl hlt ?_)
      | (refine zaf.of hcl ?_)
      | (refine zdo.actions g rfl ?_)
      | (refine z39.mk ⟨_,hf,?_⟩<;>(dsimp only;rw [hr]))
      | (refine zcj.rec Lnt.cells_length (k-1) (by omega) hlp rfl ?_)
      | (refine za0.part Lnt.cells_length (k-1) (by omega) hlp (by decide) rfl ?_)
      | (refine zaf.of ht ?_)
      | (refine Cmp.tt (by assumption) ?_)
      | (refine Cmp.ff (by assumption) ?_)
      | (refine zaf.of (zbr g _ _) ?_)
      | (refine zaf.of (zdi g _ _ _) ?_)
      | (refine Cmp.tt (he.symm.trans hz) ?_)
      | (refine Cmp.ff (fun h=>hz (he.trans h)) ?_)
      | (refine zad.to (ih hz) rfl rfl)
      | (refine(hK _ _).mpr ?_)
      | (refine Ret.mk ((fin _ _ _ he).2 (fun h=>hz (he.trans h)))))
    ·have he:lnE kind (zef ls k) ls[k]=zap [zhn ls[k],0,0]:=by
      unfold lnE
      rw [hp,if_pos hk]
      simp [hR,hC,zjj,zny]
     by_cases hz:lnE kind (zef ls k) ls[k]=0
     all_goals repeat' ((conv=>whnf);first
     | refine Yz ?_
      | (refine za0.rec Lnt.cells_length k rfl hlt ?_)
      | (refine zaf.of hcl ?_)
      | (refine zdo.actions g rfl ?_)
      | (refine z39.mk ⟨_,hf,?_⟩<;>(dsimp only;rw [hr]))
      | (refine zcj.rec Lnt.cells_length (k-1) (by omega) hlp rfl ?_)
      | (refine za0.part Lnt.cells_length (k-1) (by omega) hlp (by decide) rfl ?_)
      | (refine zaf.of ht ?_)
      | (refine Cmp.tt (by assumption) ?_)
      | (refine Cmp.ff (by assumption) ?_)
      | (refine zaf.of (zbr g _ _) ?_)
      | (refine zaf.of (zdi g _ _ _) ?_)
      | (refine Cmp.tt (he.symm.trans hz) ?_)
      | (refine Cmp.ff (fun h=>hz (he.trans h)) ?_)
      | (refine zad.to (ih hz) rfl rfl)
      | (refine(hK _ _).mpr ?_)
      | (refine Ret.mk ((fin _ _ _ he).2 (fun h=>hz (he.trans h)))))
 ·by_cases h0:k=0
  ·have hp:zef ls k=none:=if_pos h0
   by_cases hR:ls[k].ac=[82]
   ·have he:lnE kind (zef ls k) ls[k]=zap [zhn ls[k],18,11]:=by
     unfold lnE
     rw [hp,if_neg hk]
     simp [hR,zjj,zny]
    by_cases hz:lnE kind (zef ls k) ls[k]=0
    all_goals repeat' ((conv=>whnf);first
    | refine Yz ?_
     | (refine za0.rec Lnt.cells_length k rfl hlt ?_)
     | (refine zaf.of hcl ?_)
     | (refine zdo.actions g rfl ?_)
     | (refine z39.mk ⟨_,hf,?_⟩<;>(dsimp only;rw [hr]))
     | (refine Cmp.tt (by assumption) ?_)
     | (refine Cmp.ff (by assumption) ?_)
     | (refine zaf.of (zbr g _ _) ?_)
     | (refine zaf.of (zdi g _ _ _) ?_)
     | (refine Cmp.tt (he.symm.trans hz) ?_)
     | (refine Cmp.ff (fun h=>hz (he.trans h)) ?_)
     | (refine zad.to (ih hz) rfl rfl)
     | (refine(hK _ _).mpr ?_)
     | (refine Ret.mk ((fin _ _ _ he).2 (fun h=>hz (he.trans h)))))
   ·have he:lnE kind (zef ls k) ls[k]=zap [zhn ls[k],18,0]:=by
     unfold lnE
     rw [hp,if_neg hk]
     simp [hR,zjj,zny]
    by_cases hz:lnE kind (zef ls k) ls[k]=0
    all_goals repeat' ((conv=>whnf);first
    | refine Yz ?_
     | (refine za0.rec Lnt.cells_length k rfl hlt ?_)
     | (refine zaf.of hcl ?_)
     | (refine zdo.actions g rfl ?_)
     | (refine z39.mk ⟨_,hf,?_⟩<;>(dsimp only;rw [hr]))
     | (refine Cmp.tt (by assumption) ?_)
     | (refine Cmp.ff (by assumption) ?_)
     | (refine zaf.of (zbr g _ _) ?_)
     | (refine zaf.of (zdi g _ _ _) ?_)
     | (refine Cmp.tt (he.symm.trans hz) ?_)
     | (refine Cmp.ff (fun h=>hz (he.trans h)) ?_)
     | (refine zad.to (ih hz) rfl rfl)
     | (refine(hK _ _).mpr ?_)
     | (refine Ret.mk ((fin _ _ _ he).2 (fun h=>hz (he.trans h)))))
  ·have hlp:k-1<ls.length:=by omega
   have hp:zef ls k=some ls[k-1]:=by simp [zef,h0,hlp]
   have ht:=ykn g ls[k-1].rq ls[k].rq
   by_cases hC:ls[k-1].ac=[67]
   ·by_cases hR:ls[k].ac=[82]
    ·cases htw:yar ls[k-1].rq ls[k].rq
     all_goals rw [htw] at ht
     ·have he:lnE kind (zef ls k) ls[k]=zap [zhn ls[k],18,11]:=by
       unfold lnE
       rw [hp,if_neg hk]
       simp [hR,hC,htw,zjj,zny]
      by_cases hz:lnE kind (zef ls k) ls[k]=0
      all_goals repeat' ((conv=>whnf);first
      | refine Yz ?_
       | (refine za0.rec Lnt.cells_length k rfl hlt ?_)
       | (refine zaf.of hcl ?_)
       | (refine zdo.actions g rfl ?_)
       | (refine z39.mk ⟨_,hf,?_⟩<;>(dsimp only;rw [hr]))
       | (refine zcj.rec Lnt.cells_length (k-1) (by omega) hlp rfl ?_)
       | (refine za0.part Lnt.cells_length (k-1) (by omega) hlp (by decide) rfl ?_)
       | (refine zaf.of ht ?_)
       | (refine Cmp.tt (by assumption) ?_)
       | (refine Cmp.ff (by assumption) ?_)
       | (refine zaf.of (zbr g _ _) ?_)
       | (refine zaf.of (zdi g _ _ _) ?_)
       | (refine Cmp.tt (he.symm.trans hz) ?_)
       | (refine Cmp.ff (fun h=>hz (he.trans h)) ?_)
       | (refine zad.to (ih hz) rfl rfl)
       | (refine(hK _ _).mpr ?_)
       | (refine Ret.mk ((fin _ _ _ he).2 (fun h=>hz (he.trans h)))))
     ·have he:lnE kind (zef ls k) ls[k]=zap [zhn ls[k],18,0]:=by
       unfold lnE
       rw [hp,if_neg hk]
       simp [hR,hC,htw,zjj,zny]
      by_cases hz:lnE kind (zef ls k) ls[k]=0
      all_goals repeat' ((conv=>whnf);first
      | refine Yz ?_
       | (refine za0.rec Lnt.cells_length k rfl hlt ?_)
       | (refine zaf.of hcl ?_)
       | (refine zdo.actions g rfl ?_)
       | (refine z39.mk ⟨_,hf,?_⟩<;>(dsimp only;rw [hr]))
       | (refine zcj.rec Lnt.cells_length (k-1) (by omega) hlp rfl ?_)
       | (refine za0.part Lnt.cells_length (k-1) (by omega) hlp (by decide) rfl ?_)
       | (refine zaf.of ht ?_)
       | (refine Cmp.tt (by assumption) ?_)
       | (refine Cmp.ff (by assumption) ?_)
       | (refine zaf.of (zbr g _ _) ?_)
       | (refine zaf.of (zdi g _ _ _) ?_)
       | (refine Cmp.tt (he.symm.trans hz) ?_)
       | (refine Cmp.ff (fun h=>hz (he.trans h)) ?_)
       | (refine zad.to (ih hz) rfl rfl)
       | (refine(hK _ _).mpr ?_)
       | (refine Ret.mk ((fin _ _ _ he).2 (fun h=>hz (he.trans h)))))
    ·have he:lnE kind (zef ls k) ls[k]=zap [zhn ls[k],18,11]:=by
      unfold lnE
      rw [hp,if_neg hk]
      simp [hR,hC,zjj,zny]
     by_cases hz:lnE kind (zef ls k) ls[k]=0
     all_goals repeat' ((conv=>whnf);first
     | refine Yz ?_
      | (refine za0.rec Lnt.cells_length k rfl hlt ?_)
      | (refine zaf.of hcl ?_)
      | (refine zdo.actions g rfl ?_)
      | (refine z39.mk ⟨_,hf,?_⟩<;>(dsimp only;rw [hr]))
      | (refine zcj.rec Lnt.cells_length (k-1) (by omega) hlp rfl ?_)
      | (refine za0.part Lnt.cells_length (k-1) (by omega) hlp (by decide) rfl ?_)
      | (refine zaf.of ht ?_)
      | (refine Cmp.tt (by assumption) ?_)
      | (refine Cmp.ff (by assumption) ?_)
      | (refine zaf.of (zbr g _ _) ?_)
      | (refine zaf.of (zdi g _ _ _) ?_)
      | (refine Cmp.tt (he.symm.trans hz) ?_)
      | (refine Cmp.ff (fun h=>hz (he.trans h)) ?_)
      | (refine zad.to (ih hz) rfl rfl)
      | (refine(hK _ _).mpr ?_)
      | (refine Ret.mk ((fin _ _ _ he).2 (fun h=>hz (he.trans h)))))
   ·by_cases hR:ls[k].ac=[82]
    ·have he:lnE kind (zef ls k) ls[k]=zap [zhn ls[k],18,11]:=by
      unfold lnE
      rw [hp,if_neg hk]
      simp [hR,hC,zjj,zny]
     by_cases hz:lnE kind (zef ls k) ls[k]=0
     all_goals repeat' ((conv=>whnf);first
     | refine Yz ?_
      | (refine za0.rec Lnt.cells_length k rfl hlt ?_)
      | (refine zaf.of hcl ?_)
      | (refine zdo.actions g rfl ?_)
      | (refine z39.mk ⟨_,hf,?_⟩<;>(dsimp only;rw [hr]))
      | (refine zcj.rec Lnt.cells_length (k-1) (by omega) hlp rfl ?_)
      | (refine za0.part Lnt.cells_length (k-1) (by omega) hlp (by decide) rfl ?_)
      | (refine zaf.of ht ?_)
      | (refine Cmp.tt (by assumption) ?_)
      | (refine Cmp.ff (by assumption) ?_)
      | (refine zaf.of (zbr g _ _) ?_)
      | (refine zaf.of (zdi g _ _ _) ?_)
      | (refine Cmp.tt (he.symm.trans hz) ?_)
      | (refine Cmp.ff (fun h=>hz (he.trans h)) ?_)
      | (refine zad.to (ih hz) rfl rfl)
      | (refine(hK _ _).mpr ?_)
      | (refine Ret.mk ((fin _ _ _ he).2 (fun h=>hz (he.trans h)))))
    ·have he:lnE kind (zef ls k) ls[k]=zap [zhn ls[k],18,0]:=by
      unfold lnE
      rw [hp,if_neg hk]
      simp [hR,hC,zjj,zny]
     by_cases hz:lnE kind (zef ls k) ls[k]=0
     all_goals repeat' ((conv=>whnf);first
     | refine Yz ?_
      | (refine za0.rec Lnt.cells_length k rfl hlt ?_)
      | (refine zaf.of hcl ?_)
      | (refine zdo.actions g rfl ?_)
      | (refine z39.mk ⟨_,hf,?_⟩<;>(dsimp only;rw [hr]))
      | (refine zcj.rec Lnt.cells_length (k-1) (by omega) hlp rfl ?_)
      | (refine za0.part Lnt.cells_length (k-1) (by omega) hlp (by decide) rfl ?_)
      | (refine zaf.of ht ?_)
      | (refine Cmp.tt (by assumption) ?_)
      | (refine Cmp.ff (by assumption) ?_)
      | (refine zaf.of (zbr g _ _) ?_)
      | (refine zaf.of (zdi g _ _ _) ?_)
      | (refine Cmp.tt (he.symm.trans hz) ?_)
      | (refine Cmp.ff (fun h=>hz (he.trans h)) ?_)
      | (refine zad.to (ih hz) rfl rfl)
      | (refine(hK _ _).mpr ?_)
      | (refine Ret.mk ((fin _ _ _ he).2 (fun h=>hz (he.trans h)))))
end
structure Ent where
 rq:Rqt
 hi:Bool
 da:Int
def Ent.cells (e:Ent):List D:=[.str e.rq.nm,.str e.rq.ca,.str e.rq.ki,.str e.rq.te,.str e.rq.pa,.str e.rq.li,DI e.rq.fr,DI e.rq.to,DI e.rq.da,DI e.rq.mi,DI e.rq.se,DI e.rq.si,DI e.rq.no,.bool e.hi,DI e.da]
theorem Ent.cells_length (e:Ent):e.cells.length=15:=rfl
abbrev LE (l:List Ent):V:= .d (.list l.length (l.flatMap Ent.cells))
def plc (s:List UInt8):List Ent->Option Nat
 | []=>none
 | e::r=>if e.rq.nm=s then some 0 else(plc s r).map (·+1)
theorem zub {s:List UInt8}:∀ {l:List Ent} {k:Nat},plc s l=some k->∃h:k<l.length,l[k].rq.nm=s/\∀(j:Nat) (hj:j<k),¬(l[j]'(Nat.lt_trans hj h)).rq.nm=s
 | [],k,h=>by cases h
 | e::r,k,h=>by
  rw [plc] at h
  by_cases hx:e.rq.nm=s
  ·rw [if_pos hx] at h
   cases h
   exact⟨by simp,hx,fun j hj=>absurd hj (Nat.not_lt_zero _)⟩
  ·rw [if_neg hx] at h
   cases hp:plc s r with
   | none=>rw [hp] at h;cases h
   | some i=>
    rw [hp] at h
    cases h
    obtain⟨a,b,c⟩:=zub hp
    refine⟨by simpa using a,by simpa using b,fun j hj=> ?_⟩
    cases j with
    | zero=>simpa using hx
    | succ j=>simpa using c j (by have hj:j+1<i+1:=hj;omega)
def zmp (l:List Ent) (x:Lnt):Int:=
 match plc x.rq.nm l with
 | none=>if x.ac=[78]\/x.ac=[72] then(if 64<=l.length then 5 else 0) else if x.ac=[82] then 0 else 10
 | some k=>if x.ac=[78]\/x.ac=[72] then 9 else if x.ac=[82] then 0 else if(l[k]?.map (·.rq))=some x.rq then 0 else 29
def zja (l:List Ent) (x:Lnt) (da:Int):List Ent:=
 match plc x.rq.nm l with
 | none=>l++[⟨x.rq,decide (x.ac=[72]),da⟩]
 | some k=>if x.ac=[82] then l.set k ⟨x.rq,(l[k]?.map (·.hi)).getD false,da⟩ else if x.ac=[68] then l.eraseIdx k else l
def zvp (da:Int):List Ent->List Lnt->List Ent×Int
 | l,[]=>(l,0)
 | l,x::r=>if zmp l x=0 then zvp da (zja l x da) r else(l,zmp l x)
def yce (f p m:Mst):Int:=zap [zra m,if m.ki=REQ then 0 else 13,if m.ai=f.ai/\m.se=f.se then 0 else 29,if m.da<p.da then 11 else 0]
def ygq (f:Mst):Mst->Nat->List Ent->List Mst->List Ent×Nat×Int
 | _,_,l,[]=>(l,0,0)
 | p,i,l,m::r=>
  if yce f p m=0 then(if(zvp m.da l m.ls).2=0 then ygq f m (i+1) (zvp m.da l m.ls).1 r else([],i,(zvp m.da l m.ls).2))
  else([],i,yce f p m)
def ygk (l:List Mst):List Ent×Nat×Int:=
 if 64<l.length then([],0,5) else
 match l with
 | []=>([],0,0)
 | f::r=>ygq f f 0 [] (f::r)
def yh6 (da:Int):List Ent->List Lnt->Prop
 | _,[]=>True
 | l,x::r=>(x.ac=[82]->(plc x.rq.nm l).isSome)/\(zmp l x=0->yh6 da (zja l x da) r)
theorem yn2 {p:Option Lnt} {x:Lnt} (h:lnE REQ p x=0) (hx:x.ac=[82]):∃y,p=some y/\y.ac=[67]/\y.rq.nm=x.rq.nm:=by
 unfold lnE at h
 rw [zbq] at h
 have h3:=h (if(zjj p||decide (x.ac=[82]))&& !(zjj p&&decide (x.ac=[82])&&zny x p) then 11 else 0) (by simp)
 rw [decide_eq_true hx] at h3
 cases p with
 | none=>simp [zjj] at h3
 | some y=>
  refine⟨y,rfl,?_⟩
  cases ho:zjj (some y) with
  | false=>rw [ho] at h3;simp at h3
  | true=>
   cases ht:zny x (some y) with
   | false=>rw [ho,ht] at h3;simp at h3
   | true=>
    simp only [zjj,decide_eq_true_eq] at ho
    simp only [zny,yar,Bool.and_eq_true,decide_eq_true_eq] at ht
    exact⟨ho,ht.2⟩
theorem z7j (da:Int):∀(ls:List Lnt) (l:List Ent) (p:Option Lnt) (i:Nat),(zfs REQ p i ls).2=0->(∀y,p=some y->y.ac=[67]->(plc y.rq.nm l).isSome)->yh6 da l ls
 | [],_,_,_,_,_=>trivial
 | x::r,l,p,i,h,hp=>by
  rw [zfs] at h
  by_cases hz:lnE REQ p x=0
  ·rw [if_pos hz] at h
   refine⟨fun hx=> ?_,fun he=>z7j da r _ (some x) (i+1) h fun y hy hc=> ?_⟩
   ·obtain⟨y,hy,hc,hn⟩:=yn2 hz hx
    rw [<-hn]
    exact hp y hy hc
   ·obtain rfl:=Option.some.inj hy
    cases hq:plc x.rq.nm l with
    | none=>
     unfold zmp at he
     rw [hq] at he
     simp only at he
     rw [hc,if_neg (by decide),if_neg (by decide)] at he
     cases he
    | some k=>
     have e:zja l x da=l:=by
      unfold zja
      rw [hq]
      simp only
      rw [hc,if_neg (by decide),if_neg (by decide)]
     rw [e,hq]
     rfl
  ·rw [if_neg hz] at h
   exact absurd h hz
theorem Mst.cells_length (m:Mst):m.cells.length=5:=rfl
abbrev LMs (l:List Mst):V:= .d (.list l.length (l.flatMap Mst.cells))
theorem z59 {l:List Ent} {x:Lnt} {da:Int} (h:l.length<=64) (he:zmp l x=0) (hr:x.ac=[82]->(plc x.rq.nm l).isSome):(zja l x da).length<=64:=by
 unfold zmp at he
 unfold zja
 cases hp:plc x.rq.nm l with
 | none=>
  rw [hp] at he hr
  simp only at he
  by_cases h1:x.ac=[78]\/x.ac=[72]
  ·rw [if_pos h1] at he
   split at he
   ·cases he
   ·simp;omega
  ·rw [if_neg h1] at he
   by_cases h2:x.ac=[82]
   ·have:=hr h2;cases this
   ·rw [if_neg h2] at he;cases he
 | some k=>
  simp only
  split
  ·simpa using h
  ·split
   ·have:=List.length_eraseIdx_le l k;omega
   ·exact h
theorem yil {kind:List UInt8} {ls:List Lnt} {k:Nat} (h:k<ls.length):zfs kind (zef ls k) k (ls.drop k)=if lnE kind (zef ls k) ls[k]=0 then zfs kind (zef ls (k+1)) (k+1) (ls.drop (k+1)) else(k,lnE kind (zef ls k) ls[k]):=by
 rw [List.drop_eq_getElem_cons h,zfs,yg4 h]
theorem yjx {kind:List UInt8} {ls:List Lnt}:zfs kind (zef ls ls.length) ls.length (ls.drop ls.length)=if zjj (zef ls ls.length) then(ls.length-1,11) else(0,0):=by
 rw [List.drop_length,zfs]
open Go Go.Evl
open Go Go.Evl
theorem yer {a b:Rqt} (h:a.nm=b.nm/\a.ca=b.ca/\a.ki=b.ki/\a.te=b.te/\a.pa=b.pa/\a.li=b.li/\a.fr=b.fr/\a.to=b.to/\a.da=b.da/\a.mi=b.mi/\a.se=b.se/\a.si=b.si/\a.no=b.no):a=b:=by
 obtain⟨h1,h2,h3,h4,h5,h6,h7,h8,h9,h10,h11,h12,h13⟩:=h
 cases a
 cases b
 simp only at h1 h2 h3 h4 h5 h6 h7 h8 h9 h10 h11 h12 h13
 simp only [h1,h2,h3,h4,h5,h6,h7,h8,h9,h10,h11,h12,h13]
def zpb (s:List UInt8) (l:List Ent):Int:=
 match plc s l with
 | some k=>k
 | none=> -1
theorem z83 {s:List UInt8}:∀ {l:List Ent} {k:Nat} (h:k<l.length),(∀(j:Nat) (hj:j<l.length),j<k->¬l[j].rq.nm=s)->l[k].rq.nm=s->plc s l=some k
 | [],k,h,_,_=>absurd h (Nat.not_lt_zero _)
 | e::r,0,_,_,h1=>by
  have h1:e.rq.nm=s:=h1
  rw [plc,if_pos h1]
 | e::r,k+1,h,h0,h1=>by
  have h2:¬e.rq.nm=s:=h0 0 (by simp) (by omega)
  rw [plc,if_neg h2,z83 (k:=k) (by simpa using h) (fun j hj hjk=>h0 (j+1) (by simpa using hj) (by omega)) h1]
  rfl
theorem z06 {s:List UInt8}:∀ {l:List Ent},(∀(j:Nat) (hj:j<l.length),¬l[j].rq.nm=s)->plc s l=none
 | [],_=>rfl
 | e::r,h=>by
  have h2:¬e.rq.nm=s:=h 0 (by simp)
  rw [plc,if_neg h2,z06 fun j hj=>h (j+1) (by simpa using hj)]
  rfl
theorem z41 (l:List Ent) (k:Nat) (h:k<=l.length):(l.flatMap Ent.cells).take (k*15)=(l.take k).flatMap Ent.cells:=by
 have e:l.flatMap Ent.cells=(l.take k).flatMap Ent.cells++(l.drop k).flatMap Ent.cells:=by
  rw [<-List.flatMap_append,List.take_append_drop]
 rw [e]
 refine List.take_left' ?_
 rw [za2 Ent.cells 15 Ent.cells_length,List.length_take]
 omega
theorem zt9 (l:List Ent) (k:Nat) (e:Ent) (h:k<l.length):patch (l.flatMap Ent.cells) (k*15) e.cells=(l.set k e).flatMap Ent.cells:=by
 unfold patch
 rw [List.set_eq_take_append_cons_drop,if_pos h,List.flatMap_append,List.flatMap_cons]
 have h1:=zjz Ent.cells 15 Ent.cells_length l (k+1)
 have h2:(l.flatMap Ent.cells).take (k*15)=(l.take k).flatMap Ent.cells:=by
  have:=z41 l k (by omega)
  exact this
 rw [h2,Ent.cells_length,show k*15+15=(k+1)*15 by omega,h1,List.append_assoc]
theorem z61 {l:List Ent} {q:Rqt} {s:List UInt8} {da:Int} (hp:plc q.nm l=none) (hs:s=[78]\/s=[72]):zmp l ⟨s,q⟩=(if 64<=l.length then 5 else 0)/\zja l ⟨s,q⟩ da=l++[⟨q,decide (s=[72]),da⟩]:=by
 unfold zmp zja
 simp only [hp]
 exact⟨if_pos hs,trivial⟩
theorem zs1 {l:List Ent} {q:Rqt} {s:List UInt8} {k:Nat} (hp:plc q.nm l=some k) (hs:s=[78]\/s=[72]):zmp l ⟨s,q⟩=9:=by
 unfold zmp
 simp only [hp]
 exact if_pos hs
theorem zzm {l:List Ent} {q:Rqt} {s:List UInt8} (hp:plc q.nm l=none) (h1:¬s=[78]) (h2:¬s=[72]) (h3:¬s=[82]):zmp l ⟨s,q⟩=10:=by
 unfold zmp
 simp only [hp]
 rw [if_neg (by rintro(h|h)<;>contradiction),if_neg h3]
theorem zzu {l:List Ent} {q:Rqt} {da:Int} {k:Nat} (hp:plc q.nm l=some k) (hk:k<l.length):zmp l ⟨[82],q⟩=0/\zja l ⟨[82],q⟩ da=l.set k ⟨q,l[k].hi,da⟩:=by
 unfold zmp zja
 simp only [hp,List.getElem?_eq_getElem hk,Option.map_some,Option.getD_some]
 exact⟨by rw [if_neg (by decide)];rfl,rfl⟩
theorem zzx {l:List Ent} {q:Rqt} {s:List UInt8} {da:Int} {k:Nat} (hp:plc q.nm l=some k) (hk:k<l.length) (h1:¬s=[78]) (h2:¬s=[72]) (h3:¬s=[82]):zmp l ⟨s,q⟩=(if l[k].rq=q then 0 else 29)/\zja l ⟨s,q⟩ da=if s=[68] then l.eraseIdx k else l:=by
 unfold zmp zja
 simp only [hp,List.getElem?_eq_getElem hk,Option.map_some,Option.some.injEq]
 exact⟨by rw [if_neg (by rintro(h|h)<;>contradiction),if_neg h3],by rw [if_neg h3]⟩
section
variable {E : Oracle} (g : Good E)
include g
theorem zxq (kind:List UInt8) (ls:List Lnt) (hl:ls.length<=1000000):Fc E zei [S kind,LL ls] (.tup [I ((zfs kind none 0 ls).1:Nat),I (zfs kind none 0 ls).2]):=by
 refine g.fn rfl rfl ?_
 repeat' ((conv=>whnf);first
 | refine Yz ?_)
 refine zad.to (zad.upP g (fun k=>[(0,S kind),(1,LL ls),(12,LL ls),(13,I ls.length),(14,I k)]) (fun _=>[]) (fun k=>zfs kind (zef ls k) k (ls.drop k)=zfs kind none 0 ls) ls.length (fun k hk hp ih=> ?_) 0 (Nat.zero_le _) rfl) rfl rfl
 by_cases hlt:k<ls.length
 ·have hs:=yil (kind:=kind) hlt
  refine z3d g kind ls k hlt hl (fun _ _=>rfl) (fun hz=> ?_) (fun hz=> ?_)
  ·rw [if_neg hz,hp] at hs
   rw [hs]
  ·rw [if_pos hz,hp] at hs
   exact ih hlt hs.symm
 ·obtain rfl:k=ls.length:=by omega
  rw [<-hp,yjx]
  by_cases h0:ls.length=0
  ·have hz:zef ls ls.length=none:=if_pos h0
   rw [hz]
   repeat' ((conv=>whnf);first
   | refine Yz ?_
    | (refine Ret.mk rfl))
  ·have hlp:ls.length-1<ls.length:=by omega
   have hz:zef ls ls.length=some ls[ls.length-1]:=by simp [zef,h0,hlp]
   rw [hz]
   by_cases hC:ls[ls.length-1].ac=[67]
   ·have ho:zjj (some ls[ls.length-1])=true:=decide_eq_true hC
    rw [ho]
    repeat' ((conv=>whnf);first
    | refine Yz ?_
     | (refine zcj.rec Lnt.cells_length (ls.length-1) (by omega) hlp rfl ?_)
     | (refine Cmp.tt hC ?_)
     | (refine Ret.mk ?_))
    rw [if_pos rfl,show ((ls.length:Int)-1)=((ls.length-1:Nat):Int) by omega]
   ·have ho:zjj (some ls[ls.length-1])=false:=decide_eq_false hC
    rw [ho]
    repeat' ((conv=>whnf);first
    | refine Yz ?_
     | (refine zcj.rec Lnt.cells_length (ls.length-1) (by omega) hlp rfl ?_)
     | (refine Cmp.ff hC ?_)
     | (refine Ret.mk rfl))
omit g in
theorem yny (m:Mst):zra m=if zap [if(!yba m.ki)=true then 13 else 0,ztm m.ai m.se m.da,if 64<m.ls.length then 5 else 0]=0 then(zfs m.ki none 0 m.ls).2 else zap [if(!yba m.ki)=true then 13 else 0,ztm m.ai m.se m.da,if 64<m.ls.length then 5 else 0]:=by
 unfold zra
 generalize (if(!yba m.ki)=true then(13:Int) else 0)=a
 generalize ztm m.ai m.se m.da=b
 generalize (if 64<m.ls.length then(5:Int) else 0)=c
 generalize (zfs m.ki none 0 m.ls).2=d
 by_cases ha:a=0<;>by_cases hb:b=0<;>by_cases hc:c=0<;>by_cases hd:d=0<;>simp [zap,ha,hb,hc,hd]
theorem zm6 (m:Mst) (hl:m.ls.length<=1000000):Fc E ze6 [Msv m] (I (zra m)):=by
 refine g.fn rfl rfl ?_
 have h1:=zrq g m.ki
 have h2:=zrr g m.ai m.se m.da
 have h3:=zxq g m.ki m.ls hl
 rw [yny]
 generalize ztm m.ai m.se m.da=b at *
 generalize yba m.ki=a at *
 by_cases hn:64<m.ls.length
 ·rw [if_pos hn]
  by_cases hz:zap [if(!a)=true then 13 else 0,b,5]=0
  ·rw [if_pos hz]
   repeat' ((conv=>whnf);first
   | refine Yz ?_
    | (apply zaf.of;assumption)
    | (refine zaf.of (zbr g _ _) ?_)
    | (refine zaf.of (zdi g _ _ _) ?_)
    | (refine Cmp.tt hz ?_)
    | (refine Ret.mk rfl))
  ·rw [if_neg hz]
   repeat' ((conv=>whnf);first
   | refine Yz ?_
    | (apply zaf.of;assumption)
    | (refine zaf.of (zbr g _ _) ?_)
    | (refine zaf.of (zdi g _ _ _) ?_)
    | (refine Cmp.ff hz ?_)
    | (refine Ret.mk rfl))
 ·rw [if_neg hn]
  by_cases hz:zap [if(!a)=true then 13 else 0,b,0]=0
  ·rw [if_pos hz]
   repeat' ((conv=>whnf);first
   | refine Yz ?_
    | (apply zaf.of;assumption)
    | (refine zaf.of (zbr g _ _) ?_)
    | (refine zaf.of (zdi g _ _ _) ?_)
    | (refine Cmp.tt hz ?_)
    | (refine Ret.mk rfl))
  ·rw [if_neg hz]
   repeat' ((conv=>whnf);first
   | refine Yz ?_
    | (apply zaf.of;assumption)
    | (refine zaf.of (zbr g _ _) ?_)
    | (refine zaf.of (zdi g _ _ _) ?_)
    | (refine Cmp.ff hz ?_)
    | (refine Ret.mk rfl))
end
abbrev lnV (x:Lnt):List V:=[.d (.str x.ac),.d (.str x.rq.nm),.d (.str x.rq.ca),.d (.str x.rq.ki),.d (.str x.rq.te),.d (.str x.rq.pa),.d (.str x.rq.li),.d (DI x.rq.fr),.d (DI x.rq.to),.d (DI x.rq.da),.d (DI x.rq.mi),.d (DI x.rq.se),.d (DI x.rq.si),.d (DI x.rq.no)]
theorem zth {da:Int} {l:List Ent} {ls:List Lnt} {k:Nat} (h:k<ls.length):zvp da l (ls.drop k)=if zmp l ls[k]=0 then zvp da (zja l ls[k] da) (ls.drop (k+1)) else(l,zmp l ls[k]):=by
 rw [List.drop_eq_getElem_cons h,zvp]
theorem yrv {ms:List Mst} (h0:0<ms.length) (h:ms.length<=64):ygk ms=ygq (ms.getD 0 zhs) (ms.getD 0 zhs) 0 [] ms:=by
 unfold ygk
 rw [if_neg (by omega)]
 cases ms with
 | nil=>cases h0
 | cons f r=>rfl
theorem zu0 {f p:Mst} {i:Nat} {l:List Ent} {ms:List Mst} (h:i<ms.length):ygq f p i l (ms.drop i)=if yce f p ms[i]=0 then(if(zvp ms[i].da l ms[i].ls).2=0 then ygq f ms[i] (i+1) (zvp ms[i].da l ms[i].ls).1 (ms.drop (i+1)) else([],i,(zvp ms[i].da l ms[i].ls).2)) else([],i,yce f p ms[i]):=by
 rw [List.drop_eq_getElem_cons h,ygq]
theorem zxl {ms:List Mst} {i:Nat} (h:i<ms.length):ms.getD i zhs=ms[i]:=by simp [List.getD,h]
abbrev msV (m:Mst):List V:=[S m.ki,S m.ai,S m.se,I m.da,LL m.ls]
structure yqy (p:Prop):Prop where
 go:p
theorem Mf {A B:Prop}:(b:Bool)->b=false->B->(match b with|true=>A|false=>B)
 | false,_,k=>k
 | true,h,_=>Bool.noConfusion h
theorem Mt {A B:Prop}:(b:Bool)->b=true->A->(match b with|true=>A|false=>B)
 | true,_,k=>k
 | false,h,_=>Bool.noConfusion h
theorem za0.part0 {α:Type} {cell:α->List D} {w:Nat} (hw:∀a,(cell a).length=w) {l:List α} {i:Int} {j n:Nat} {ds:List D} {K:List D->Prop} (k:Nat) (hi:i=k) (h:k<l.length) (hj:j+n<=w) (hd:win (cell l[k]) j n=ds) (hk:K ds):za0 (l.flatMap cell) ((0+i.toNat)*w+j) n K:=by
 rw [Nat.zero_add]
 exact za0.part hw k hi h hj hd hk
theorem zzc (l:List Ent) (k:Nat) (h:k<l.length):(if 0+0=0/\k-0=l.length then l.flatMap Ent.cells else win (l.flatMap Ent.cells) ((0+0)*15) ((k-0)*15))=(l.take k).flatMap Ent.cells/\(if 0+(k+1)=0/\l.length-(k+1)=l.length then l.flatMap Ent.cells else win (l.flatMap Ent.cells) ((0+(k+1))*15) ((l.length-(k+1))*15))=(l.drop (k+1)).flatMap Ent.cells:=by
 constructor
 ·rw [if_neg (by omega)]
  unfold win
  rw [show (0+0)*15=0 from rfl,List.drop_zero,Nat.sub_zero,z41 l k (by omega)]
 ·rw [if_neg (by omega)]
  unfold win
  rw [show (0+(k+1))*15=(k+1)*15 by omega,zjz Ent.cells 15 Ent.cells_length,List.take_of_length_le (by rw [za2 Ent.cells 15 Ent.cells_length,List.length_drop];omega)]
theorem zzp (l:List Ent) (k:Nat) (h:k<l.length) {X Y:List D} (hX:X=(l.take k).flatMap Ent.cells) (hY:Y=(l.drop (k+1)).flatMap Ent.cells):patch (patch (List.replicate ((l.length:Int)-1).toNat [D.str [],D.str [],D.str [],D.str [],D.str [],D.str [],D.int IntKind.i64 0,D.int IntKind.i64 0,D.int IntKind.i64 0,D.int IntKind.i64 0,D.int IntKind.i64 0,D.int IntKind.i64 0,D.int IntKind.i64 0,D.bool false,D.int IntKind.i64 0]).flatten (0*15) (List.take (min (k-0) ((l.length:Int)-1).toNat*15) X)) ((0+k)*15) (List.take (min (l.length-(k+1)) (l.length-1-k)*15) Y)=(l.eraseIdx k).flatMap Ent.cells:=by
 have hn:((l.length:Int)-1).toNat=l.length-1:=by omega
 have hXl:X.length=k*15:=by rw [hX,za2 Ent.cells 15 Ent.cells_length,List.length_take];omega
 have hYl:Y.length=(l.length-(k+1))*15:=by rw [hY,za2 Ent.cells 15 Ent.cells_length,List.length_drop]
 rw [hn,List.take_of_length_le (by rw [hXl];omega),List.take_of_length_le (by rw [hYl];omega)]
 generalize hZ:(List.replicate (l.length-1) [D.str [],D.str [],D.str [],D.str [],D.str [],D.str [],D.int IntKind.i64 0,D.int IntKind.i64 0,D.int IntKind.i64 0,D.int IntKind.i64 0,D.int IntKind.i64 0,D.int IntKind.i64 0,D.int IntKind.i64 0,D.bool false,D.int IntKind.i64 0]).flatten=Z
 have hZl:Z.length=(l.length-1)*15:=by
  rw [<-hZ,List.length_flatten,List.map_replicate,List.sum_replicate_nat]
  rfl
 unfold patch
 rw [show 0*15=0 from rfl,List.take_zero,List.nil_append,Nat.zero_add,Nat.zero_add,List.take_left' hXl,List.drop_eq_nil_of_le (by rw [List.length_append,List.length_drop,hXl,hYl,hZl];omega),List.append_nil,hX,hY,List.eraseIdx_eq_take_drop_succ,List.flatMap_append]
theorem zau {u t:Evl.Id} {l:List Evl.Id} (h:idB u t=true):yiu (u::l) t=true:=by
 unfold yiu
 rw [h]
theorem zas {u t:Evl.Id} {l:List Evl.Id} {b:Bool} (h:idB u t=false) (k:yiu l t=b):yiu (u::l) t=b:=by
 unfold yiu
 rw [h]
 exact k
theorem zlq {a b:Nat} (h:¬a=b):Nat.beq a b=false:=by
 cases hb:Nat.beq a b with
 | false=>rfl
 | true=>exact absurd (Nat.eq_of_beq_eq_true hb) h
theorem yq0 {a b:Nat} (h:¬a=b):Nat.beq b a=false:=zlq fun e=>h e.symm
abbrev mA (a b:Mst) (l:List Ent) (x:Lnt):Mem:=[(⟨0,2,0⟩,.row true zac 15 0 []),(⟨0,5,0⟩,.row true zac 15 l.length (l.flatMap Ent.cells)),(⟨0,9,0⟩,.cells zae (msV a)),(⟨0,10,0⟩,.cells zae (msV b)),(⟨0,12,0⟩,.cells zag (lnV x))]
abbrev nA (a b:Mst) (l:List Ent) (x:Lnt):Mem:=[(⟨0,2,0⟩,.row true zac 15 0 []),(⟨0,5,0⟩,.row true zac 15 l.length (l.flatMap Ent.cells)),(⟨0,9,0⟩,.cells zae (msV a)),(⟨0,10,0⟩,.cells zae (msV b)),(⟨0,12,0⟩,.cells zag (lnV x)),(⟨1,4,0⟩,.cells zag (lnV x)),(⟨1,6,0⟩,.row true zac 15 0 [])]
abbrev pA (a b:Mst) (l:List Ent) (x:Lnt):Mem:=[(⟨0,2,0⟩,.row true zac 15 0 []),(⟨0,5,0⟩,.row true zac 15 l.length (l.flatMap Ent.cells)),(⟨0,9,0⟩,.cells zae (msV a)),(⟨0,10,0⟩,.cells zae (msV b)),(⟨0,12,0⟩,.cells zag (lnV x)),(⟨1,4,0⟩,.cells zag (lnV x)),(⟨1,6,0⟩,.row true zac 15 0 []),(⟨2,3,0⟩,.cells zb3 [S x.rq.nm])]
section
variable {E : Oracle} (g : Good E)
include g
theorem yo0 (a b:Mst) (l:List Ent) (x:Lnt) (hl:l.length<=64) {K:V->Mem->Prop} (hK:K (I (zpb x.rq.nm l)) (pA a b l x)):In E 2 zc9 [.ref ⟨0,5,0⟩ 0 l.length l.length,S x.rq.nm] (nA a b l x) K:=by
 refine In.enter (f:=zc9) g.lim rfl rfl ?_
 repeat' ((conv=>whnf);first
 | refine Yz ?_
  | (refine In.enter (f:=zaz) g.lim rfl rfl ?_))
 refine zad.to (zad.upP g (fun k=>[(0,.ref ⟨0,5,0⟩ 0 l.length l.length),(1,.fn zbs [] [.ptr ⟨2,3,0⟩ 0 0]),(7,I l.length),(8,I k)]) (fun _=>pA a b l x) (fun k=>∀(j:Nat) (hj:j<l.length),j<k->¬l[j].rq.nm=x.rq.nm) l.length (fun k hk hp ih=> ?_) 0 (Nat.zero_le _) (fun j _ h=>absurd h (Nat.not_lt_zero _))) rfl rfl
 by_cases hlt:k<l.length
 ·by_cases he:l[k].rq.nm=x.rq.nm
  ·have e:zpb x.rq.nm l=k:=by unfold zpb;rw [z83 hlt hp he]
   rw [e] at hK
   repeat' ((conv=>whnf);first
   | refine Yz ?_
    | (refine za0.rec0 Ent.cells_length k rfl hlt ?_)
    | (refine In.enter (f:=zbs) g.lim rfl rfl ?_)
    | (refine Cmp.tt he ?_)
    | (exact hK))
  ·have ih:=ih hlt fun j hj hjk=>by
    by_cases e:j=k
    ·subst e;exact he
    ·exact hp j hj (by omega)
   repeat' ((conv=>whnf);first
   | refine Yz ?_
    | (refine za0.rec0 Ent.cells_length k rfl hlt ?_)
    | (refine In.enter (f:=zbs) g.lim rfl rfl ?_)
    | (refine Cmp.ff he ?_)
    | (refine zad.to ih rfl rfl))
 ·have e:zpb x.rq.nm l= -1:=by unfold zpb;rw [z06 fun j hj=>hp j hj (by omega)]
  rw [e] at hK
  repeat' ((conv=>whnf);first
  | refine Yz ?_
   | (exact hK))
theorem ypl (a b:Mst) (l:List Ent) (x:Lnt) (da:Int) (hl:l.length<=64) (hr:x.ac=[82]->(plc x.rq.nm l).isSome) {K:V->Mem->Prop}
  (hE:∀e:Int,zmp l x=e->e≠0->K (.tup [.ref ⟨1,6,1⟩ 0 0 0,I e]) (nA a b l x++[(⟨1,6,1⟩,.row true zac 15 0 [])]))
  (hS:zmp l x=0->x.ac≠[68]->K (.tup [.ref ⟨0,5,0⟩ 0 (zja l x da).length (zja l x da).length,I 0]) (nA a b (zja l x da) x))
  (hD:zmp l x=0->x.ac=[68]->K (.tup [.ref ⟨1,74,0⟩ 0 (zja l x da).length (zja l x da).length,I 0]) (nA a b l x++[(⟨1,74,0⟩,.row true zac 15 (zja l x da).length ((zja l x da).flatMap Ent.cells))])):
  In E 1 zda [.ref ⟨0,5,0⟩ 0 l.length l.length,Lnv x,I da] (mA a b l x) K:=by
 have hF:=fun {K}=>yo0 g a b l x hl (K:=K)
 have hfl:=fun(_:Unit)=>za2 Ent.cells 15 Ent.cells_length l
 obtain⟨s,q⟩:=x
 dsimp only at hr hF hS hD
 refine In.enter (f:=zda) g.lim rfl rfl ?_
 cases hp:plc q.nm l with
 | none=>
  have e:zpb q.nm l= -1:=by unfold zpb;rw [hp]
  rw [e] at hF
  by_cases h1:s=[78]\/s=[72]
  ·obtain⟨eE,eL⟩:=z61 (da:=da) hp h1
   by_cases h64:64<=l.length
   ·have hE:=hE 5 (by rw [eE,if_pos h64]) (by decide)
    rcases h1 with rfl|rfl
    all_goals
     repeat' ((conv=>whnf);first
     | refine Yz ?_
      | (refine hF ?_)
      | (refine Cmp.tt rfl ?_)
      | (refine Cmp.ff (by intro h;cases h) ?_)
      | (refine zaf.of (zbr g _ _) ?_)
      | (refine zaf.of (zc0 g _ _) ?_)
      | (exact hE))
   ·rw [if_neg h64] at eE
    rcases h1 with rfl|rfl
    all_goals
     have hS:=hS eE (by decide)
     rw [eL] at hS
     dsimp only [nA] at hS
     rw [List.length_append,List.flatMap_append] at hS
     repeat' ((conv=>whnf);first
     | refine Yz ?_
      | (refine hF ?_)
      | (refine Cmp.tt rfl ?_)
      | (refine Cmp.ff (by intro h;cases h) ?_)
      | (refine zaf.of (zbr g _ _) ?_)
      | (refine zaf.of (zc0 g _ _) ?_)
      | (refine zbk.mk ⟨rfl,rfl,rfl,rfl,rfl,rfl,by show (l.length+1)*168<=_;omega,by omega⟩ ?_)
      | (exact hS))
  ·have h2:¬s=[78]:=fun h=>h1 (.inl h)
   have h3:¬s=[72]:=fun h=>h1 (.inr h)
   have h4:¬s=[82]:=fun h=>by have:=hr h;rw [hp] at this;cases this
   have hE:=hE 10 (zzm hp h2 h3 h4) (by decide)
   repeat' ((conv=>whnf);first
   | refine Yz ?_
    | (refine hF ?_)
    | (refine Cmp.ff h2 ?_)
    | (refine Cmp.ff h3 ?_)
    | (refine Cmp.ff h4 ?_)
    | (exact hE))
 | some k=>
  have e:zpb q.nm l=k:=by unfold zpb;rw [hp]
  rw [e] at hF
  obtain⟨hk,hnm,_⟩:=zub hp
  by_cases h1:s=[78]\/s=[72]
  ·have hE:=hE 9 (zs1 hp h1) (by decide)
   rcases h1 with rfl|rfl
   all_goals
    repeat' ((conv=>whnf);first
    | refine Yz ?_
     | (refine hF ?_)
     | (refine Cmp.tt rfl ?_)
     | (refine Cmp.ff (by intro h;cases h) ?_)
     | (refine zaf.of (zbr g _ _) ?_)
     | (refine zaf.of (zc0 g _ _) ?_)
     | (exact hE)
     | (refine Cmp.mk (fun h=> ?_) (fun h=> ?_))|(refine Rem.any (by omega) (fun r hr he=> ?_))|(refine Br.mk (fun h=> ?_) (fun h=> ?_))
     | (exfalso;omega))
  ·have h2:¬s=[78]:=fun h=>h1 (.inl h)
   have h3:¬s=[72]:=fun h=>h1 (.inr h)
   by_cases h4:s=[82]
   ·subst h4
    obtain⟨eE,eL⟩:=zzu (da:=da) hp hk
    have hS:=hS eE (by decide)
    have ep:patch (l.flatMap Ent.cells) ((0+((k:Nat):Int).toNat)*15) (Ent.cells ⟨q,l[k].hi,da⟩)=(l.set k ⟨q,l[k].hi,da⟩).flatMap Ent.cells:=by
     rw [show (0+((k:Nat):Int).toNat)*15=k*15 by omega]
     exact zt9 l k ⟨q,l[k].hi,da⟩ hk
    rw [eL] at hS
    dsimp only [nA] at hS
    rw [List.length_set,<-ep] at hS
    repeat' ((conv=>whnf);first
    | refine Yz ?_
     | (refine hF ?_)
     | (refine Cmp.tt rfl ?_)
     | (refine Cmp.ff (by intro h;cases h) ?_)
     | (refine zcj.rec0 (d:= .bool l[k].hi) Ent.cells_length k rfl hk rfl ?_)
     | (refine zbk.mk ⟨by omega,by omega,rfl,by omega,rfl⟩ ?_)
     | (refine zbk.mk ⟨rfl,by simp only [hfl ()];omega,rfl⟩ ?_)
     | (exact hS))
   ·obtain⟨eE,eL⟩:=zzx (da:=da) hp hk h2 h3 h4
    by_cases hq:l[k].rq=q
    ·rw [if_pos hq] at eE
     have hpp:l[k].rq.nm=q.nm/\l[k].rq.ca=q.ca/\l[k].rq.ki=q.ki/\l[k].rq.te=q.te/\l[k].rq.pa=q.pa/\l[k].rq.li=q.li/\l[k].rq.fr=q.fr/\l[k].rq.to=q.to/\l[k].rq.da=q.da/\l[k].rq.mi=q.mi/\l[k].rq.se=q.se/\l[k].rq.si=q.si/\l[k].rq.no=q.no:=by
      rw [hq]
      exact⟨rfl,rfl,rfl,rfl,rfl,rfl,rfl,rfl,rfl,rfl,rfl,rfl,rfl⟩
     by_cases h5:s=[68]
     ·subst h5
      have hD:=hD eE rfl
      rw [eL,if_pos rfl] at hD
      dsimp only [nA] at hD
      obtain⟨eA,eB⟩:=zzc l k hk
      have eAn:=(congrArg List.length eA).trans (show _=(k-0)*15 by rw [za2 Ent.cells 15 Ent.cells_length,List.length_take];omega)
      have eBn:=(congrArg List.length eB).trans (show _=(l.length-(k+1))*15 by rw [za2 Ent.cells 15 Ent.cells_length,List.length_drop])
      have hlen:(l.eraseIdx k).length=((l.length:Int)-1).toNat:=by rw [List.length_eraseIdx_of_lt hk];omega
      rw [hlen] at hD
      repeat' ((conv=>whnf);first
      | refine Yz ?_
       | (refine hF ?_)
       | (refine Cmp.tt rfl ?_)
       | (refine Cmp.ff (by intro h;cases h) ?_)
       | (refine Cmp.tt hpp ?_)
       | (refine za0.part0 Ent.cells_length (j:=0) k rfl hk (by omega) rfl ?_)
       | (refine zbe.at 0 k (by omega) (by omega) (by omega) ?_)
       | (refine zbe.at k (l.length-1) (by omega) (by omega) (by omega) ?_)
       | (refine zbe.at (k+1) l.length (by omega) (by omega) (by omega) ?_)
       | (refine zbk.mk ⟨rfl,by omega,rfl,eAn⟩ ?_)
       | (refine zbk.mk ⟨rfl,by omega,rfl,eBn⟩ ?_))
      rw [<-zzp l k hk eA eB] at hD
      exact hD
     ·have hS:=hS eE h5
      rw [eL,if_neg h5] at hS
      repeat' ((conv=>whnf);first
      | refine Yz ?_
       | (refine hF ?_)
       | (refine Cmp.ff h2 ?_)
       | (refine Cmp.ff h3 ?_)
       | (refine Cmp.ff h4 ?_)
       | (refine Cmp.ff h5 ?_)
       | (refine Cmp.tt hpp ?_)
       | (refine za0.part0 Ent.cells_length (j:=0) k rfl hk (by omega) rfl ?_)
       | (exact hS))
    ·rw [if_neg hq] at eE
     have hE:=hE 29 eE (by decide)
     have hpp:¬(l[k].rq.nm=q.nm/\l[k].rq.ca=q.ca/\l[k].rq.ki=q.ki/\l[k].rq.te=q.te/\l[k].rq.pa=q.pa/\l[k].rq.li=q.li/\l[k].rq.fr=q.fr/\l[k].rq.to=q.to/\l[k].rq.da=q.da/\l[k].rq.mi=q.mi/\l[k].rq.se=q.se/\l[k].rq.si=q.si/\l[k].rq.no=q.no):=fun h=>hq (yer h)
     repeat' ((conv=>whnf);first
     | refine Yz ?_
      | (refine hF ?_)
      | (refine Cmp.ff h2 ?_)
      | (refine Cmp.ff h3 ?_)
      | (refine Cmp.ff h4 ?_)
      | (refine Cmp.ff hpp ?_)
      | (refine za0.part0 Ent.cells_length (j:=0) k rfl hk (by omega) rfl ?_)
      | (exact hE))
end
abbrev mB (a b:Mst) (l1:List Ent) (c:Nat) (l:List Ent) (x:Lnt):Mem:=[(⟨0,2,0⟩,.row true zac 15 0 []),(⟨0,5,0⟩,.row true zac 15 l1.length (l1.flatMap Ent.cells)),(⟨0,9,0⟩,.cells zae (msV a)),(⟨0,10,0⟩,.cells zae (msV b)),(⟨0,75,c⟩,.row true zac 15 l.length (l.flatMap Ent.cells)),(⟨0,12,0⟩,.cells zag (lnV x))]
abbrev nB (a b:Mst) (l1:List Ent) (c:Nat) (l:List Ent) (x:Lnt):Mem:=[(⟨0,2,0⟩,.row true zac 15 0 []),(⟨0,5,0⟩,.row true zac 15 l1.length (l1.flatMap Ent.cells)),(⟨0,9,0⟩,.cells zae (msV a)),(⟨0,10,0⟩,.cells zae (msV b)),(⟨0,75,c⟩,.row true zac 15 l.length (l.flatMap Ent.cells)),(⟨0,12,0⟩,.cells zag (lnV x)),(⟨1,4,0⟩,.cells zag (lnV x)),(⟨1,6,0⟩,.row true zac 15 0 [])]
abbrev pB (a b:Mst) (l1:List Ent) (c:Nat) (l:List Ent) (x:Lnt):Mem:=[(⟨0,2,0⟩,.row true zac 15 0 []),(⟨0,5,0⟩,.row true zac 15 l1.length (l1.flatMap Ent.cells)),(⟨0,9,0⟩,.cells zae (msV a)),(⟨0,10,0⟩,.cells zae (msV b)),(⟨0,75,c⟩,.row true zac 15 l.length (l.flatMap Ent.cells)),(⟨0,12,0⟩,.cells zag (lnV x)),(⟨1,4,0⟩,.cells zag (lnV x)),(⟨1,6,0⟩,.row true zac 15 0 []),(⟨2,3,0⟩,.cells zb3 [S x.rq.nm])]
section
variable {E : Oracle} (g : Good E)
include g
theorem yna (a b:Mst) (l1:List Ent) (c:Nat) (l:List Ent) (x:Lnt) (hl:l.length<=64) {K:V->Mem->Prop} (hK:K (I (zpb x.rq.nm l)) (pB a b l1 c l x)):In E 2 zc9 [.ref ⟨0,75,c⟩ 0 l.length l.length,S x.rq.nm] (nB a b l1 c l x) K:=by
 refine In.enter (f:=zc9) g.lim rfl rfl ?_
 repeat' ((conv=>whnf);first
 | refine Yz ?_
  | (refine Mt _ (Nat.beq_refl _) ?_)
  | ((refine Mt _ ?_ ?_);focus ((repeat' (first |exact zau rfl|exact zau (Nat.beq_refl _)|((refine zas ?h ?_);(case h=>first |rfl|assumption))));done))
  | (refine In.enter (f:=zaz) g.lim rfl rfl ?_))
 refine zad.to (zad.upP g (fun k=>[(0,.ref ⟨0,75,c⟩ 0 l.length l.length),(1,.fn zbs [] [.ptr ⟨2,3,0⟩ 0 0]),(7,I l.length),(8,I k)]) (fun _=>pB a b l1 c l x) (fun k=>∀(j:Nat) (hj:j<l.length),j<k->¬l[j].rq.nm=x.rq.nm) l.length (fun k hk hp ih=> ?_) 0 (Nat.zero_le _) (fun j _ h=>absurd h (Nat.not_lt_zero _))) rfl rfl
 by_cases hlt:k<l.length
 ·by_cases he:l[k].rq.nm=x.rq.nm
  ·have e:zpb x.rq.nm l=k:=by unfold zpb;rw [z83 hlt hp he]
   rw [e] at hK
   repeat' ((conv=>whnf);first
   | refine Yz ?_
    | (refine za0.rec0 Ent.cells_length k rfl hlt ?_)
    | (refine In.enter (f:=zbs) g.lim rfl rfl ?_)
    | (refine Cmp.tt he ?_)
     | (refine Mt _ (Nat.beq_refl _) ?_)
     | ((refine Mt _ ?_ ?_);focus ((repeat' (first |exact zau rfl|exact zau (Nat.beq_refl _)|((refine zas ?h ?_);(case h=>first |rfl|assumption))));done))
    | (exact hK))
  ·have ih:=ih hlt fun j hj hjk=>by
    by_cases e:j=k
    ·subst e;exact he
    ·exact hp j hj (by omega)
   repeat' ((conv=>whnf);first
   | refine Yz ?_
    | (refine za0.rec0 Ent.cells_length k rfl hlt ?_)
    | (refine In.enter (f:=zbs) g.lim rfl rfl ?_)
    | (refine Cmp.ff he ?_)
     | (refine Mt _ (Nat.beq_refl _) ?_)
     | ((refine Mt _ ?_ ?_);focus ((repeat' (first |exact zau rfl|exact zau (Nat.beq_refl _)|((refine zas ?h ?_);(case h=>first |rfl|assumption))));done))
    | (refine zad.to ih rfl rfl))
 ·have e:zpb x.rq.nm l= -1:=by unfold zpb;rw [z06 fun j hj=>hp j hj (by omega)]
  rw [e] at hK
  repeat' ((conv=>whnf);first
  | refine Yz ?_
     | (refine Mt _ (Nat.beq_refl _) ?_)
     | ((refine Mt _ ?_ ?_);focus ((repeat' (first |exact zau rfl|exact zau (Nat.beq_refl _)|((refine zas ?h ?_);(case h=>first |rfl|assumption))));done))
   | (exact hK))
theorem yn4 (a b:Mst) (l1:List Ent) (c:Nat) (l:List Ent) (x:Lnt) (da:Int) (hl:l.length<=64) (hr:x.ac=[82]->(plc x.rq.nm l).isSome) {K:V->Mem->Prop}
  (hE:∀e:Int,zmp l x=e->e≠0->K (.tup [.ref ⟨1,6,1⟩ 0 0 0,I e]) (nB a b l1 c l x++[(⟨1,6,1⟩,.row true zac 15 0 [])]))
  (hS:zmp l x=0->x.ac≠[68]->K (.tup [.ref ⟨0,75,c⟩ 0 (zja l x da).length (zja l x da).length,I 0]) (nB a b l1 c (zja l x da) x))
  (hD:zmp l x=0->x.ac=[68]->K (.tup [.ref ⟨1,74,0⟩ 0 (zja l x da).length (zja l x da).length,I 0]) (nB a b l1 c l x++[(⟨1,74,0⟩,.row true zac 15 (zja l x da).length ((zja l x da).flatMap Ent.cells))])):
  In E 1 zda [.ref ⟨0,75,c⟩ 0 l.length l.length,Lnv x,I da] (mB a b l1 c l x) K:=by
 have hF:=fun {K}=>yna g a b l1 c l x hl (K:=K)
 have hfl:=fun(_:Unit)=>za2 Ent.cells 15 Ent.cells_length l
 obtain⟨s,q⟩:=x
 dsimp only at hr hF hS hD
 refine In.enter (f:=zda) g.lim rfl rfl ?_
 cases hp:plc q.nm l with
 | none=>
  have e:zpb q.nm l= -1:=by unfold zpb;rw [hp]
  rw [e] at hF
  by_cases h1:s=[78]\/s=[72]
  ·obtain⟨eE,eL⟩:=z61 (da:=da) hp h1
   by_cases h64:64<=l.length
   ·have hE:=hE 5 (by rw [eE,if_pos h64]) (by decide)
    rcases h1 with rfl|rfl
    all_goals
     repeat' ((conv=>whnf);first
     | refine Yz ?_
       | (refine Mt _ (Nat.beq_refl _) ?_)
       | ((refine Mt _ ?_ ?_);focus ((repeat' (first |exact zau rfl|exact zau (Nat.beq_refl _)|((refine zas ?h ?_);(case h=>first |rfl|assumption))));done))
      | (refine hF ?_)
      | (refine Cmp.tt rfl ?_)
      | (refine Cmp.ff (by intro h;cases h) ?_)
      | (refine zaf.of (zbr g _ _) ?_)
      | (refine zaf.of (zc0 g _ _) ?_)
      | (exact hE))
   ·rw [if_neg h64] at eE
    rcases h1 with rfl|rfl
    all_goals
     have hS:=hS eE (by decide)
     rw [eL] at hS
     dsimp only [nB] at hS
     rw [List.length_append,List.flatMap_append] at hS
     repeat' ((conv=>whnf);first
     | refine Yz ?_
       | (refine Mt _ (Nat.beq_refl _) ?_)
       | ((refine Mt _ ?_ ?_);focus ((repeat' (first |exact zau rfl|exact zau (Nat.beq_refl _)|((refine zas ?h ?_);(case h=>first |rfl|assumption))));done))
      | (refine hF ?_)
      | (refine Cmp.tt rfl ?_)
      | (refine Cmp.ff (by intro h;cases h) ?_)
      | (refine zaf.of (zbr g _ _) ?_)
      | (refine zaf.of (zc0 g _ _) ?_)
      | (refine zbk.mk ⟨rfl,rfl,rfl,rfl,rfl,rfl,by show (l.length+1)*168<=_;omega,by omega⟩ ?_)
      | (exact hS))
  ·have h2:¬s=[78]:=fun h=>h1 (.inl h)
   have h3:¬s=[72]:=fun h=>h1 (.inr h)
   have h4:¬s=[82]:=fun h=>by have:=hr h;rw [hp] at this;cases this
   have hE:=hE 10 (zzm hp h2 h3 h4) (by decide)
   repeat' ((conv=>whnf);first
   | refine Yz ?_
     | (refine Mt _ (Nat.beq_refl _) ?_)
     | ((refine Mt _ ?_ ?_);focus ((repeat' (first |exact zau rfl|exact zau (Nat.beq_refl _)|((refine zas ?h ?_);(case h=>first |rfl|assumption))));done))
    | (refine hF ?_)
    | (refine Cmp.ff h2 ?_)
    | (refine Cmp.ff h3 ?_)
    | (refine Cmp.ff h4 ?_)
    | (exact hE))
 | some k=>
  have e:zpb q.nm l=k:=by unfold zpb;rw [hp]
  rw [e] at hF
  obtain⟨hk,hnm,_⟩:=zub hp
  by_cases h1:s=[78]\/s=[72]
  ·have hE:=hE 9 (zs1 hp h1) (by decide)
   rcases h1 with rfl|rfl
   all_goals
    repeat' ((conv=>whnf);first
    | refine Yz ?_
     | (refine Mt _ (Nat.beq_refl _) ?_)
     | ((refine Mt _ ?_ ?_);focus ((repeat' (first |exact zau rfl|exact zau (Nat.beq_refl _)|((refine zas ?h ?_);(case h=>first |rfl|assumption))));done))
     | (refine hF ?_)
     | (refine Cmp.tt rfl ?_)
     | (refine Cmp.ff (by intro h;cases h) ?_)
     | (refine zaf.of (zbr g _ _) ?_)
     | (refine zaf.of (zc0 g _ _) ?_)
     | (exact hE)
     | (refine Cmp.mk (fun h=> ?_) (fun h=> ?_))|(refine Rem.any (by omega) (fun r hr he=> ?_))|(refine Br.mk (fun h=> ?_) (fun h=> ?_))
     | (exfalso;omega))
  ·have h2:¬s=[78]:=fun h=>h1 (.inl h)
   have h3:¬s=[72]:=fun h=>h1 (.inr h)
   by_cases h4:s=[82]
   ·subst h4
    obtain⟨eE,eL⟩:=zzu (da:=da) hp hk
    have hS:=hS eE (by decide)
    have ep:patch (l.flatMap Ent.cells) ((0+((k:Nat):Int).toNat)*15) (Ent.cells ⟨q,l[k].hi,da⟩)=(l.set k ⟨q,l[k].hi,da⟩).flatMap Ent.cells:=by
     rw [show (0+((k:Nat):Int).toNat)*15=k*15 by omega]
     exact zt9 l k ⟨q,l[k].hi,da⟩ hk
    rw [eL] at hS
    dsimp only [nB] at hS
    rw [List.length_set,<-ep] at hS
    repeat' ((conv=>whnf);first
    | refine Yz ?_
       | (refine Mt _ (Nat.beq_refl _) ?_)
       | ((refine Mt _ ?_ ?_);focus ((repeat' (first |exact zau rfl|exact zau (Nat.beq_refl _)|((refine zas ?h ?_);(case h=>first |rfl|assumption))));done))
     | (refine hF ?_)
     | (refine Cmp.tt rfl ?_)
     | (refine Cmp.ff (by intro h;cases h) ?_)
     | (refine zcj.rec0 (d:= .bool l[k].hi) Ent.cells_length k rfl hk rfl ?_)
     | (refine zbk.mk ⟨by omega,by omega,rfl,by omega,rfl⟩ ?_)
     | (refine zbk.mk ⟨rfl,by simp only [hfl ()];omega,rfl⟩ ?_)
     | (exact hS))
   ·obtain⟨eE,eL⟩:=zzx (da:=da) hp hk h2 h3 h4
    by_cases hq:l[k].rq=q
    ·rw [if_pos hq] at eE
     have hpp:l[k].rq.nm=q.nm/\l[k].rq.ca=q.ca/\l[k].rq.ki=q.ki/\l[k].rq.te=q.te/\l[k].rq.pa=q.pa/\l[k].rq.li=q.li/\l[k].rq.fr=q.fr/\l[k].rq.to=q.to/\l[k].rq.da=q.da/\l[k].rq.mi=q.mi/\l[k].rq.se=q.se/\l[k].rq.si=q.si/\l[k].rq.no=q.no:=by
      rw [hq]
      exact⟨rfl,rfl,rfl,rfl,rfl,rfl,rfl,rfl,rfl,rfl,rfl,rfl,rfl⟩
     by_cases h5:s=[68]
     ·subst h5
      have hD:=hD eE rfl
      rw [eL,if_pos rfl] at hD
      dsimp only [nB] at hD
      obtain⟨eA,eB⟩:=zzc l k hk
      have eAn:=(congrArg List.length eA).trans (show _=(k-0)*15 by rw [za2 Ent.cells 15 Ent.cells_length,List.length_take];omega)
      have eBn:=(congrArg List.length eB).trans (show _=(l.length-(k+1))*15 by rw [za2 Ent.cells 15 Ent.cells_length,List.length_drop])
      have hlen:(l.eraseIdx k).length=((l.length:Int)-1).toNat:=by rw [List.length_eraseIdx_of_lt hk];omega
      rw [hlen] at hD
      repeat' ((conv=>whnf);first
      | refine Yz ?_
       | (refine Mt _ (Nat.beq_refl _) ?_)
       | ((refine Mt _ ?_ ?_);focus ((repeat' (first |exact zau rfl|exact zau (Nat.beq_refl _)|((refine zas ?h ?_);(case h=>first |rfl|assumption))));done))
       | (refine hF ?_)
       | (refine Cmp.tt rfl ?_)
       | (refine Cmp.ff (by intro h;cases h) ?_)
       | (refine Cmp.tt hpp ?_)
       | (refine za0.part0 Ent.cells_length (j:=0) k rfl hk (by omega) rfl ?_)
       | (refine zbe.at 0 k (by omega) (by omega) (by omega) ?_)
       | (refine zbe.at k (l.length-1) (by omega) (by omega) (by omega) ?_)
       | (refine zbe.at (k+1) l.length (by omega) (by omega) (by omega) ?_)
       | (refine zbk.mk ⟨rfl,by omega,rfl,eAn⟩ ?_)
       | (refine zbk.mk ⟨rfl,by omega,rfl,eBn⟩ ?_))
      rw [<-zzp l k hk eA eB] at hD
      exact hD
     ·have hS:=hS eE h5
      rw [eL,if_neg h5] at hS
      repeat' ((conv=>whnf);first
      | refine Yz ?_
       | (refine Mt _ (Nat.beq_refl _) ?_)
       | ((refine Mt _ ?_ ?_);focus ((repeat' (first |exact zau rfl|exact zau (Nat.beq_refl _)|((refine zas ?h ?_);(case h=>first |rfl|assumption))));done))
       | (refine hF ?_)
       | (refine Cmp.ff h2 ?_)
       | (refine Cmp.ff h3 ?_)
       | (refine Cmp.ff h4 ?_)
       | (refine Cmp.ff h5 ?_)
       | (refine Cmp.tt hpp ?_)
       | (refine za0.part0 Ent.cells_length (j:=0) k rfl hk (by omega) rfl ?_)
       | (exact hS))
    ·rw [if_neg hq] at eE
     have hE:=hE 29 eE (by decide)
     have hpp:¬(l[k].rq.nm=q.nm/\l[k].rq.ca=q.ca/\l[k].rq.ki=q.ki/\l[k].rq.te=q.te/\l[k].rq.pa=q.pa/\l[k].rq.li=q.li/\l[k].rq.fr=q.fr/\l[k].rq.to=q.to/\l[k].rq.da=q.da/\l[k].rq.mi=q.mi/\l[k].rq.se=q.se/\l[k].rq.si=q.si/\l[k].rq.no=q.no):=fun h=>hq (yer h)
     repeat' ((conv=>whnf);first
     | refine Yz ?_
       | (refine Mt _ (Nat.beq_refl _) ?_)
       | ((refine Mt _ ?_ ?_);focus ((repeat' (first |exact zau rfl|exact zau (Nat.beq_refl _)|((refine zas ?h ?_);(case h=>first |rfl|assumption))));done))
      | (refine hF ?_)
      | (refine Cmp.ff h2 ?_)
      | (refine Cmp.ff h3 ?_)
      | (refine Cmp.ff h4 ?_)
      | (refine Cmp.ff hpp ?_)
      | (refine za0.part0 Ent.cells_length (j:=0) k rfl hk (by omega) rfl ?_)
      | (exact hE))
end
abbrev mC (a b:Mst) (l1:List Ent) (c:Nat) (l:List Ent) (x:Lnt):Mem:=[(⟨0,2,0⟩,.row true zac 15 0 []),(⟨0,5,0⟩,.row true zac 15 l1.length (l1.flatMap Ent.cells)),(⟨0,75,c⟩,.row true zac 15 l.length (l.flatMap Ent.cells)),(⟨0,9,0⟩,.cells zae (msV a)),(⟨0,10,0⟩,.cells zae (msV b)),(⟨0,12,0⟩,.cells zag (lnV x))]
abbrev nC (a b:Mst) (l1:List Ent) (c:Nat) (l:List Ent) (x:Lnt):Mem:=[(⟨0,2,0⟩,.row true zac 15 0 []),(⟨0,5,0⟩,.row true zac 15 l1.length (l1.flatMap Ent.cells)),(⟨0,75,c⟩,.row true zac 15 l.length (l.flatMap Ent.cells)),(⟨0,9,0⟩,.cells zae (msV a)),(⟨0,10,0⟩,.cells zae (msV b)),(⟨0,12,0⟩,.cells zag (lnV x)),(⟨1,4,0⟩,.cells zag (lnV x)),(⟨1,6,0⟩,.row true zac 15 0 [])]
abbrev pC (a b:Mst) (l1:List Ent) (c:Nat) (l:List Ent) (x:Lnt):Mem:=[(⟨0,2,0⟩,.row true zac 15 0 []),(⟨0,5,0⟩,.row true zac 15 l1.length (l1.flatMap Ent.cells)),(⟨0,75,c⟩,.row true zac 15 l.length (l.flatMap Ent.cells)),(⟨0,9,0⟩,.cells zae (msV a)),(⟨0,10,0⟩,.cells zae (msV b)),(⟨0,12,0⟩,.cells zag (lnV x)),(⟨1,4,0⟩,.cells zag (lnV x)),(⟨1,6,0⟩,.row true zac 15 0 []),(⟨2,3,0⟩,.cells zb3 [S x.rq.nm])]
section
variable {E : Oracle} (g : Good E)
include g
theorem ypq (a b:Mst) (l1:List Ent) (c:Nat) (l:List Ent) (x:Lnt) (hl:l.length<=64) {K:V->Mem->Prop} (hK:K (I (zpb x.rq.nm l)) (pC a b l1 c l x)):In E 2 zc9 [.ref ⟨0,75,c⟩ 0 l.length l.length,S x.rq.nm] (nC a b l1 c l x) K:=by
 refine In.enter (f:=zc9) g.lim rfl rfl ?_
 repeat' ((conv=>whnf);first
 | refine Yz ?_
  | (refine Mt _ (Nat.beq_refl _) ?_)
  | ((refine Mt _ ?_ ?_);focus ((repeat' (first |exact zau rfl|exact zau (Nat.beq_refl _)|((refine zas ?h ?_);(case h=>first |rfl|assumption))));done))
  | (refine In.enter (f:=zaz) g.lim rfl rfl ?_))
 refine zad.to (zad.upP g (fun k=>[(0,.ref ⟨0,75,c⟩ 0 l.length l.length),(1,.fn zbs [] [.ptr ⟨2,3,0⟩ 0 0]),(7,I l.length),(8,I k)]) (fun _=>pC a b l1 c l x) (fun k=>∀(j:Nat) (hj:j<l.length),j<k->¬l[j].rq.nm=x.rq.nm) l.length (fun k hk hp ih=> ?_) 0 (Nat.zero_le _) (fun j _ h=>absurd h (Nat.not_lt_zero _))) rfl rfl
 by_cases hlt:k<l.length
 ·by_cases he:l[k].rq.nm=x.rq.nm
  ·have e:zpb x.rq.nm l=k:=by unfold zpb;rw [z83 hlt hp he]
   rw [e] at hK
   repeat' ((conv=>whnf);first
   | refine Yz ?_
    | (refine za0.rec0 Ent.cells_length k rfl hlt ?_)
    | (refine In.enter (f:=zbs) g.lim rfl rfl ?_)
    | (refine Cmp.tt he ?_)
     | (refine Mt _ (Nat.beq_refl _) ?_)
     | ((refine Mt _ ?_ ?_);focus ((repeat' (first |exact zau rfl|exact zau (Nat.beq_refl _)|((refine zas ?h ?_);(case h=>first |rfl|assumption))));done))
    | (exact hK))
  ·have ih:=ih hlt fun j hj hjk=>by
    by_cases e:j=k
    ·subst e;exact he
    ·exact hp j hj (by omega)
   repeat' ((conv=>whnf);first
   | refine Yz ?_
    | (refine za0.rec0 Ent.cells_length k rfl hlt ?_)
    | (refine In.enter (f:=zbs) g.lim rfl rfl ?_)
    | (refine Cmp.ff he ?_)
     | (refine Mt _ (Nat.beq_refl _) ?_)
     | ((refine Mt _ ?_ ?_);focus ((repeat' (first |exact zau rfl|exact zau (Nat.beq_refl _)|((refine zas ?h ?_);(case h=>first |rfl|assumption))));done))
    | (refine zad.to ih rfl rfl))
 ·have e:zpb x.rq.nm l= -1:=by unfold zpb;rw [z06 fun j hj=>hp j hj (by omega)]
  rw [e] at hK
  repeat' ((conv=>whnf);first
  | refine Yz ?_
     | (refine Mt _ (Nat.beq_refl _) ?_)
     | ((refine Mt _ ?_ ?_);focus ((repeat' (first |exact zau rfl|exact zau (Nat.beq_refl _)|((refine zas ?h ?_);(case h=>first |rfl|assumption))));done))
   | (exact hK))
theorem yo8 (a b:Mst) (l1:List Ent) (c:Nat) (l:List Ent) (x:Lnt) (da:Int) (hl:l.length<=64) (hr:x.ac=[82]->(plc x.rq.nm l).isSome) {K:V->Mem->Prop}
  (hE:∀e:Int,zmp l x=e->e≠0->K (.tup [.ref ⟨1,6,1⟩ 0 0 0,I e]) (nC a b l1 c l x++[(⟨1,6,1⟩,.row true zac 15 0 [])]))
  (hS:zmp l x=0->x.ac≠[68]->K (.tup [.ref ⟨0,75,c⟩ 0 (zja l x da).length (zja l x da).length,I 0]) (nC a b l1 c (zja l x da) x))
  (hD:zmp l x=0->x.ac=[68]->K (.tup [.ref ⟨1,74,0⟩ 0 (zja l x da).length (zja l x da).length,I 0]) (nC a b l1 c l x++[(⟨1,74,0⟩,.row true zac 15 (zja l x da).length ((zja l x da).flatMap Ent.cells))])):
  In E 1 zda [.ref ⟨0,75,c⟩ 0 l.length l.length,Lnv x,I da] (mC a b l1 c l x) K:=by
 have hF:=fun {K}=>ypq g a b l1 c l x hl (K:=K)
 have hfl:=fun(_:Unit)=>za2 Ent.cells 15 Ent.cells_length l
 obtain⟨s,q⟩:=x
 dsimp only at hr hF hS hD
 refine In.enter (f:=zda) g.lim rfl rfl ?_
 cases hp:plc q.nm l with
 | none=>
  have e:zpb q.nm l= -1:=by unfold zpb;rw [hp]
  rw [e] at hF
  by_cases h1:s=[78]\/s=[72]
  ·obtain⟨eE,eL⟩:=z61 (da:=da) hp h1
   by_cases h64:64<=l.length
   ·have hE:=hE 5 (by rw [eE,if_pos h64]) (by decide)
    rcases h1 with rfl|rfl
    all_goals
     repeat' ((conv=>whnf);first
     | refine Yz ?_
       | (refine Mt _ (Nat.beq_refl _) ?_)
       | ((refine Mt _ ?_ ?_);focus ((repeat' (first |exact zau rfl|exact zau (Nat.beq_refl _)|((refine zas ?h ?_);(case h=>first |rfl|assumption))));done))
      | (refine hF ?_)
      | (refine Cmp.tt rfl ?_)
      | (refine Cmp.ff (by intro h;cases h) ?_)
      | (refine zaf.of (zbr g _ _) ?_)
      | (refine zaf.of (zc0 g _ _) ?_)
      | (exact hE))
   ·rw [if_neg h64] at eE
    rcases h1 with rfl|rfl
    all_goals
     have hS:=hS eE (by decide)
     rw [eL] at hS
     dsimp only [nC] at hS
     rw [List.length_append,List.flatMap_append] at hS
     repeat' ((conv=>whnf);first
     | refine Yz ?_
       | (refine Mt _ (Nat.beq_refl _) ?_)
       | ((refine Mt _ ?_ ?_);focus ((repeat' (first |exact zau rfl|exact zau (Nat.beq_refl _)|((refine zas ?h ?_);(case h=>first |rfl|assumption))));done))
      | (refine hF ?_)
      | (refine Cmp.tt rfl ?_)
      | (refine Cmp.ff (by intro h;cases h) ?_)
      | (refine zaf.of (zbr g _ _) ?_)
      | (refine zaf.of (zc0 g _ _) ?_)
      | (refine zbk.mk ⟨rfl,rfl,rfl,rfl,rfl,rfl,by show (l.length+1)*168<=_;omega,by omega⟩ ?_)
      | (exact hS))
  ·have h2:¬s=[78]:=fun h=>h1 (.inl h)
   have h3:¬s=[72]:=fun h=>h1 (.inr h)
   have h4:¬s=[82]:=fun h=>by have:=hr h;rw [hp] at this;cases this
   have hE:=hE 10 (zzm hp h2 h3 h4) (by decide)
   repeat' ((conv=>whnf);first
   | refine Yz ?_
     | (refine Mt _ (Nat.beq_refl _) ?_)
     | ((refine Mt _ ?_ ?_);focus ((repeat' (first |exact zau rfl|exact zau (Nat.beq_refl _)|((refine zas ?h ?_);(case h=>first |rfl|assumption))));done))
    | (refine hF ?_)
    | (refine Cmp.ff h2 ?_)
    | (refine Cmp.ff h3 ?_)
    | (refine Cmp.ff h4 ?_)
    | (exact hE))
 | some k=>
  have e:zpb q.nm l=k:=by unfold zpb;rw [hp]
  rw [e] at hF
  obtain⟨hk,hnm,_⟩:=zub hp
  by_cases h1:s=[78]\/s=[72]
  ·have hE:=hE 9 (zs1 hp h1) (by decide)
   rcases h1 with rfl|rfl
   all_goals
    repeat' ((conv=>whnf);first
    | refine Yz ?_
     | (refine Mt _ (Nat.beq_refl _) ?_)
     | ((refine Mt _ ?_ ?_);focus ((repeat' (first |exact zau rfl|exact zau (Nat.beq_refl _)|((refine zas ?h ?_);(case h=>first |rfl|assumption))));done))
     | (refine hF ?_)
     | (refine Cmp.tt rfl ?_)
     | (refine Cmp.ff (by intro h;cases h) ?_)
     | (refine zaf.of (zbr g _ _) ?_)
     | (refine zaf.of (zc0 g _ _) ?_)
     | (exact hE)
     | (refine Cmp.mk (fun h=> ?_) (fun h=> ?_))|(refine Rem.any (by omega) (fun r hr he=> ?_))|(refine Br.mk (fun h=> ?_) (fun h=> ?_))
     | (exfalso;omega))
  ·have h2:¬s=[78]:=fun h=>h1 (.inl h)
   have h3:¬s=[72]:=fun h=>h1 (.inr h)
   by_cases h4:s=[82]
   ·subst h4
    obtain⟨eE,eL⟩:=zzu (da:=da) hp hk
    have hS:=hS eE (by decide)
    have ep:patch (l.flatMap Ent.cells) ((0+((k:Nat):Int).toNat)*15) (Ent.cells ⟨q,l[k].hi,da⟩)=(l.set k ⟨q,l[k].hi,da⟩).flatMap Ent.cells:=by
     rw [show (0+((k:Nat):Int).toNat)*15=k*15 by omega]
     exact zt9 l k ⟨q,l[k].hi,da⟩ hk
    rw [eL] at hS
    dsimp only [nC] at hS
    rw [List.length_set,<-ep] at hS
    repeat' ((conv=>whnf);first
    | refine Yz ?_
       | (refine Mt _ (Nat.beq_refl _) ?_)
       | ((refine Mt _ ?_ ?_);focus ((repeat' (first |exact zau rfl|exact zau (Nat.beq_refl _)|((refine zas ?h ?_);(case h=>first |rfl|assumption))));done))
     | (refine hF ?_)
     | (refine Cmp.tt rfl ?_)
     | (refine Cmp.ff (by intro h;cases h) ?_)
     | (refine zcj.rec0 (d:= .bool l[k].hi) Ent.cells_length k rfl hk rfl ?_)
     | (refine zbk.mk ⟨by omega,by omega,rfl,by omega,rfl⟩ ?_)
     | (refine zbk.mk ⟨rfl,by simp only [hfl ()];omega,rfl⟩ ?_)
     | (exact hS))
   ·obtain⟨eE,eL⟩:=zzx (da:=da) hp hk h2 h3 h4
    by_cases hq:l[k].rq=q
    ·rw [if_pos hq] at eE
     have hpp:l[k].rq.nm=q.nm/\l[k].rq.ca=q.ca/\l[k].rq.ki=q.ki/\l[k].rq.te=q.te/\l[k].rq.pa=q.pa/\l[k].rq.li=q.li/\l[k].rq.fr=q.fr/\l[k].rq.to=q.to/\l[k].rq.da=q.da/\l[k].rq.mi=q.mi/\l[k].rq.se=q.se/\l[k].rq.si=q.si/\l[k].rq.no=q.no:=by
      rw [hq]
      exact⟨rfl,rfl,rfl,rfl,rfl,rfl,rfl,rfl,rfl,rfl,rfl,rfl,rfl⟩
     by_cases h5:s=[68]
     ·subst h5
      have hD:=hD eE rfl
      rw [eL,if_pos rfl] at hD
      dsimp only [nC] at hD
      obtain⟨eA,eB⟩:=zzc l k hk
      have eAn:=(congrArg List.length eA).trans (show _=(k-0)*15 by rw [za2 Ent.cells 15 Ent.cells_length,List.length_take];omega)
      have eBn:=(congrArg List.length eB).trans (show _=(l.length-(k+1))*15 by rw [za2 Ent.cells 15 Ent.cells_length,List.length_drop])
      have hlen:(l.eraseIdx k).length=((l.length:Int)-1).toNat:=by rw [List.length_eraseIdx_of_lt hk];omega
      rw [hlen] at hD
      repeat' ((conv=>whnf);first
      | refine Yz ?_
       | (refine Mt _ (Nat.beq_refl _) ?_)
       | ((refine Mt _ ?_ ?_);focus ((repeat' (first |exact zau rfl|exact zau (Nat.beq_refl _)|((refine zas ?h ?_);(case h=>first |rfl|assumption))));done))
       | (refine hF ?_)
       | (refine Cmp.tt rfl ?_)
       | (refine Cmp.ff (by intro h;cases h) ?_)
       | (refine Cmp.tt hpp ?_)
       | (refine za0.part0 Ent.cells_length (j:=0) k rfl hk (by omega) rfl ?_)
       | (refine zbe.at 0 k (by omega) (by omega) (by omega) ?_)
       | (refine zbe.at k (l.length-1) (by omega) (by omega) (by omega) ?_)
       | (refine zbe.at (k+1) l.length (by omega) (by omega) (by omega) ?_)
       | (refine zbk.mk ⟨rfl,by omega,rfl,eAn⟩ ?_)
       | (refine zbk.mk ⟨rfl,by omega,rfl,eBn⟩ ?_))
      rw [<-zzp l k hk eA eB] at hD
      exact hD
     ·have hS:=hS eE h5
      rw [eL,if_neg h5] at hS
      repeat' ((conv=>whnf);first
      | refine Yz ?_
       | (refine Mt _ (Nat.beq_refl _) ?_)
       | ((refine Mt _ ?_ ?_);focus ((repeat' (first |exact zau rfl|exact zau (Nat.beq_refl _)|((refine zas ?h ?_);(case h=>first |rfl|assumption))));done))
       | (refine hF ?_)
       | (refine Cmp.ff h2 ?_)
       | (refine Cmp.ff h3 ?_)
       | (refine Cmp.ff h4 ?_)
       | (refine Cmp.ff h5 ?_)
       | (refine Cmp.tt hpp ?_)
       | (refine za0.part0 Ent.cells_length (j:=0) k rfl hk (by omega) rfl ?_)
       | (exact hS))
    ·rw [if_neg hq] at eE
     have hE:=hE 29 eE (by decide)
     have hpp:¬(l[k].rq.nm=q.nm/\l[k].rq.ca=q.ca/\l[k].rq.ki=q.ki/\l[k].rq.te=q.te/\l[k].rq.pa=q.pa/\l[k].rq.li=q.li/\l[k].rq.fr=q.fr/\l[k].rq.to=q.to/\l[k].rq.da=q.da/\l[k].rq.mi=q.mi/\l[k].rq.se=q.se/\l[k].rq.si=q.si/\l[k].rq.no=q.no):=fun h=>hq (yer h)
     repeat' ((conv=>whnf);first
     | refine Yz ?_
       | (refine Mt _ (Nat.beq_refl _) ?_)
       | ((refine Mt _ ?_ ?_);focus ((repeat' (first |exact zau rfl|exact zau (Nat.beq_refl _)|((refine zas ?h ?_);(case h=>first |rfl|assumption))));done))
      | (refine hF ?_)
      | (refine Cmp.ff h2 ?_)
      | (refine Cmp.ff h3 ?_)
      | (refine Cmp.ff h4 ?_)
      | (refine Cmp.ff hpp ?_)
      | (refine za0.part0 Ent.cells_length (j:=0) k rfl hk (by omega) rfl ?_)
      | (exact hE))
end
abbrev mD (a b:Mst) (l1 l2:List Ent) (d c:Nat) (l:List Ent) (x:Lnt):Mem:=[(⟨0,2,0⟩,.row true zac 15 0 []),(⟨0,5,0⟩,.row true zac 15 l1.length (l1.flatMap Ent.cells)),(⟨0,75,d⟩,.row true zac 15 l2.length (l2.flatMap Ent.cells)),(⟨0,9,0⟩,.cells zae (msV a)),(⟨0,10,0⟩,.cells zae (msV b)),(⟨0,75,c⟩,.row true zac 15 l.length (l.flatMap Ent.cells)),(⟨0,12,0⟩,.cells zag (lnV x))]
abbrev nD (a b:Mst) (l1 l2:List Ent) (d c:Nat) (l:List Ent) (x:Lnt):Mem:=[(⟨0,2,0⟩,.row true zac 15 0 []),(⟨0,5,0⟩,.row true zac 15 l1.length (l1.flatMap Ent.cells)),(⟨0,75,d⟩,.row true zac 15 l2.length (l2.flatMap Ent.cells)),(⟨0,9,0⟩,.cells zae (msV a)),(⟨0,10,0⟩,.cells zae (msV b)),(⟨0,75,c⟩,.row true zac 15 l.length (l.flatMap Ent.cells)),(⟨0,12,0⟩,.cells zag (lnV x)),(⟨1,4,0⟩,.cells zag (lnV x)),(⟨1,6,0⟩,.row true zac 15 0 [])]
abbrev pD (a b:Mst) (l1 l2:List Ent) (d c:Nat) (l:List Ent) (x:Lnt):Mem:=[(⟨0,2,0⟩,.row true zac 15 0 []),(⟨0,5,0⟩,.row true zac 15 l1.length (l1.flatMap Ent.cells)),(⟨0,75,d⟩,.row true zac 15 l2.length (l2.flatMap Ent.cells)),(⟨0,9,0⟩,.cells zae (msV a)),(⟨0,10,0⟩,.cells zae (msV b)),(⟨0,75,c⟩,.row true zac 15 l.length (l.flatMap Ent.cells)),(⟨0,12,0⟩,.cells zag (lnV x)),(⟨1,4,0⟩,.cells zag (lnV x)),(⟨1,6,0⟩,.row true zac 15 0 []),(⟨2,3,0⟩,.cells zb3 [S x.rq.nm])]
section
variable {E : Oracle} (g : Good E)
include g
theorem yoj (a b:Mst) (l1 l2:List Ent) (d c:Nat) (hdc:¬d=c) (l:List Ent) (x:Lnt) (hl:l.length<=64) {K:V->Mem->Prop} (hK:K (I (zpb x.rq.nm l)) (pD a b l1 l2 d c l x)):In E 2 zc9 [.ref ⟨0,75,c⟩ 0 l.length l.length,S x.rq.nm] (nD a b l1 l2 d c l x) K:=by
 have b1:=zlq hdc
 have b2:=yq0 hdc
 refine In.enter (f:=zc9) g.lim rfl rfl ?_
 repeat' ((conv=>whnf);first
 | refine Yz ?_
  | (refine Mt _ (Nat.beq_refl _) ?_)
  | (refine Mf _ b1 ?_)
  | (refine Mf _ b2 ?_)
  | ((refine Mt _ ?_ ?_);focus ((repeat' (first |exact zau rfl|exact zau (Nat.beq_refl _)|((refine zas ?h ?_);(case h=>first |rfl|assumption))));done))
  | ((refine Mf _ ?_ ?_);focus ((repeat' (first |exact rfl|((refine zas ?h ?_);(case h=>first |rfl|assumption))));done))
  | (refine In.enter (f:=zaz) g.lim rfl rfl ?_))
 refine zad.to (zad.upP g (fun k=>[(0,.ref ⟨0,75,c⟩ 0 l.length l.length),(1,.fn zbs [] [.ptr ⟨2,3,0⟩ 0 0]),(7,I l.length),(8,I k)]) (fun _=>pD a b l1 l2 d c l x) (fun k=>∀(j:Nat) (hj:j<l.length),j<k->¬l[j].rq.nm=x.rq.nm) l.length (fun k hk hp ih=> ?_) 0 (Nat.zero_le _) (fun j _ h=>absurd h (Nat.not_lt_zero _))) rfl rfl
 by_cases hlt:k<l.length
 ·by_cases he:l[k].rq.nm=x.rq.nm
  ·have e:zpb x.rq.nm l=k:=by unfold zpb;rw [z83 hlt hp he]
   rw [e] at hK
   repeat' ((conv=>whnf);first
   | refine Yz ?_
    | (refine za0.rec0 Ent.cells_length k rfl hlt ?_)
    | (refine In.enter (f:=zbs) g.lim rfl rfl ?_)
    | (refine Cmp.tt he ?_)
     | (refine Mt _ (Nat.beq_refl _) ?_)
     | (refine Mf _ b1 ?_)
     | (refine Mf _ b2 ?_)
     | ((refine Mt _ ?_ ?_);focus ((repeat' (first |exact zau rfl|exact zau (Nat.beq_refl _)|((refine zas ?h ?_);(case h=>first |rfl|assumption))));done))
     | ((refine Mf _ ?_ ?_);focus ((repeat' (first |exact rfl|((refine zas ?h ?_);(case h=>first |rfl|assumption))));done))
    | (exact hK))
  ·have ih:=ih hlt fun j hj hjk=>by
    by_cases e:j=k
    ·subst e;exact he
    ·exact hp j hj (by omega)
   repeat' ((conv=>whnf);first
   | refine Yz ?_
    | (refine za0.rec0 Ent.cells_length k rfl hlt ?_)
    | (refine In.enter (f:=zbs) g.lim rfl rfl ?_)
    | (refine Cmp.ff he ?_)
     | (refine Mt _ (Nat.beq_refl _) ?_)
     | (refine Mf _ b1 ?_)
     | (refine Mf _ b2 ?_)
     | ((refine Mt _ ?_ ?_);focus ((repeat' (first |exact zau rfl|exact zau (Nat.beq_refl _)|((refine zas ?h ?_);(case h=>first |rfl|assumption))));done))
     | ((refine Mf _ ?_ ?_);focus ((repeat' (first |exact rfl|((refine zas ?h ?_);(case h=>first |rfl|assumption))));done))
    | (refine zad.to ih rfl rfl))
 ·have e:zpb x.rq.nm l= -1:=by unfold zpb;rw [z06 fun j hj=>hp j hj (by omega)]
  rw [e] at hK
  repeat' ((conv=>whnf);first
  | refine Yz ?_
     | (refine Mt _ (Nat.beq_refl _) ?_)
     | (refine Mf _ b1 ?_)
     | (refine Mf _ b2 ?_)
     | ((refine Mt _ ?_ ?_);focus ((repeat' (first |exact zau rfl|exact zau (Nat.beq_refl _)|((refine zas ?h ?_);(case h=>first |rfl|assumption))));done))
     | ((refine Mf _ ?_ ?_);focus ((repeat' (first |exact rfl|((refine zas ?h ?_);(case h=>first |rfl|assumption))));done))
   | (exact hK))
theorem yow (a b:Mst) (l1 l2:List Ent) (d c:Nat) (hdc:¬d=c) (l:List Ent) (x:Lnt) (da:Int) (hl:l.length<=64) (hr:x.ac=[82]->(plc x.rq.nm l).isSome) {K:V->Mem->Prop}
  (hE:∀e:Int,zmp l x=e->e≠0->K (.tup [.ref ⟨1,6,1⟩ 0 0 0,I e]) (nD a b l1 l2 d c l x++[(⟨1,6,1⟩,.row true zac 15 0 [])]))
  (hS:zmp l x=0->x.ac≠[68]->K (.tup [.ref ⟨0,75,c⟩ 0 (zja l x da).length (zja l x da).length,I 0]) (nD a b l1 l2 d c (zja l x da) x))
  (hD:zmp l x=0->x.ac=[68]->K (.tup [.ref ⟨1,74,0⟩ 0 (zja l x da).length (zja l x da).length,I 0]) (nD a b l1 l2 d c l x++[(⟨1,74,0⟩,.row true zac 15 (zja l x da).length ((zja l x da).flatMap Ent.cells))])):
  In E 1 zda [.ref ⟨0,75,c⟩ 0 l.length l.length,Lnv x,I da] (mD a b l1 l2 d c l x) K:=by
 have b1:=zlq hdc
 have b2:=yq0 hdc
 have hF:=fun {K}=>yoj g a b l1 l2 d c hdc l x hl (K:=K)
 have hfl:=fun(_:Unit)=>za2 Ent.cells 15 Ent.cells_length l
 obtain⟨s,q⟩:=x
 dsimp only at hr hF hS hD
 refine In.enter (f:=zda) g.lim rfl rfl ?_
 cases hp:plc q.nm l with
 | none=>
  have e:zpb q.nm l= -1:=by unfold zpb;rw [hp]
  rw [e] at hF
  by_cases h1:s=[78]\/s=[72]
  ·obtain⟨eE,eL⟩:=z61 (da:=da) hp h1
   by_cases h64:64<=l.length
   ·have hE:=hE 5 (by rw [eE,if_pos h64]) (by decide)
    rcases h1 with rfl|rfl
    all_goals
     repeat' ((conv=>whnf);first
     | refine Yz ?_
       | (refine Mt _ (Nat.beq_refl _) ?_)
       | (refine Mf _ b1 ?_)
       | (refine Mf _ b2 ?_)
       | ((refine Mt _ ?_ ?_);focus ((repeat' (first |exact zau rfl|exact zau (Nat.beq_refl _)|((refine zas ?h ?_);(case h=>first |rfl|assumption))));done))
       | ((refine Mf _ ?_ ?_);focus ((repeat' (first |exact rfl|((refine zas ?h ?_);(case h=>first |rfl|assumption))));done))
      | (refine hF ?_)
      | (refine Cmp.tt rfl ?_)
      | (refine Cmp.ff (by intro h;cases h) ?_)
      | (refine zaf.of (zbr g _ _) ?_)
      | (refine zaf.of (zc0 g _ _) ?_)
      | (exact hE))
   ·rw [if_neg h64] at eE
    rcases h1 with rfl|rfl
    all_goals
     have hS:=hS eE (by decide)
     rw [eL] at hS
     dsimp only [nD] at hS
     rw [List.length_append,List.flatMap_append] at hS
     repeat' ((conv=>whnf);first
     | refine Yz ?_
       | (refine Mt _ (Nat.beq_refl _) ?_)
       | (refine Mf _ b1 ?_)
       | (refine Mf _ b2 ?_)
       | ((refine Mt _ ?_ ?_);focus ((repeat' (first |exact zau rfl|exact zau (Nat.beq_refl _)|((refine zas ?h ?_);(case h=>first |rfl|assumption))));done))
       | ((refine Mf _ ?_ ?_);focus ((repeat' (first |exact rfl|((refine zas ?h ?_);(case h=>first |rfl|assumption))));done))
      | (refine hF ?_)
      | (refine Cmp.tt rfl ?_)
      | (refine Cmp.ff (by intro h;cases h) ?_)
      | (refine zaf.of (zbr g _ _) ?_)
      | (refine zaf.of (zc0 g _ _) ?_)
      | (refine zbk.mk ⟨rfl,rfl,rfl,rfl,rfl,rfl,by show (l.length+1)*168<=_;omega,by omega⟩ ?_)
      | (exact hS))
  ·have h2:¬s=[78]:=fun h=>h1 (.inl h)
   have h3:¬s=[72]:=fun h=>h1 (.inr h)
   have h4:¬s=[82]:=fun h=>by have:=hr h;rw [hp] at this;cases this
   have hE:=hE 10 (zzm hp h2 h3 h4) (by decide)
   repeat' ((conv=>whnf);first
   | refine Yz ?_
     | (refine Mt _ (Nat.beq_refl _) ?_)
     | (refine Mf _ b1 ?_)
     | (refine Mf _ b2 ?_)
     | ((refine Mt _ ?_ ?_);focus ((repeat' (first |exact zau rfl|exact zau (Nat.beq_refl _)|((refine zas ?h ?_);(case h=>first |rfl|assumption))));done))
     | ((refine Mf _ ?_ ?_);focus ((repeat' (first |exact rfl|((refine zas ?h ?_);(case h=>first |rfl|assumption))));done))
    | (refine hF ?_)
    | (refine Cmp.ff h2 ?_)
    | (refine Cmp.ff h3 ?_)
    | (refine Cmp.ff h4 ?_)
    | (exact hE))
 | some k=>
  have e:zpb q.nm l=k:=by unfold zpb;rw [hp]
  rw [e] at hF
  obtain⟨hk,hnm,_⟩:=zub hp
  by_cases h1:s=[78]\/s=[72]
  ·have hE:=hE 9 (zs1 hp h1) (by decide)
   rcases h1 with rfl|rfl
   all_goals
    repeat' ((conv=>whnf);first
    | refine Yz ?_
     | (refine Mt _ (Nat.beq_refl _) ?_)
     | (refine Mf _ b1 ?_)
     | (refine Mf _ b2 ?_)
     | ((refine Mt _ ?_ ?_);focus ((repeat' (first |exact zau rfl|exact zau (Nat.beq_refl _)|((refine zas ?h ?_);(case h=>first |rfl|assumption))));done))
     | ((refine Mf _ ?_ ?_);focus ((repeat' (first |exact rfl|((refine zas ?h ?_);(case h=>first |rfl|assumption))));done))
     | (refine hF ?_)
     | (refine Cmp.tt rfl ?_)
     | (refine Cmp.ff (by intro h;cases h) ?_)
     | (refine zaf.of (zbr g _ _) ?_)
     | (refine zaf.of (zc0 g _ _) ?_)
     | (exact hE)
     | (refine Cmp.mk (fun h=> ?_) (fun h=> ?_))|(refine Rem.any (by omega) (fun r hr he=> ?_))|(refine Br.mk (fun h=> ?_) (fun h=> ?_))
     | (exfalso;omega))
  ·have h2:¬s=[78]:=fun h=>h1 (.inl h)
   have h3:¬s=[72]:=fun h=>h1 (.inr h)
   by_cases h4:s=[82]
   ·subst h4
    obtain⟨eE,eL⟩:=zzu (da:=da) hp hk
    have hS:=hS eE (by decide)
    have ep:patch (l.flatMap Ent.cells) ((0+((k:Nat):Int).toNat)*15) (Ent.cells ⟨q,l[k].hi,da⟩)=(l.set k ⟨q,l[k].hi,da⟩).flatMap Ent.cells:=by
     rw [show (0+((k:Nat):Int).toNat)*15=k*15 by omega]
     exact zt9 l k ⟨q,l[k].hi,da⟩ hk
    rw [eL] at hS
    dsimp only [nD] at hS
    rw [List.length_set,<-ep] at hS
    repeat' ((conv=>whnf);first
    | refine Yz ?_
       | (refine Mt _ (Nat.beq_refl _) ?_)
       | (refine Mf _ b1 ?_)
       | (refine Mf _ b2 ?_)
       | ((refine Mt _ ?_ ?_);focus ((repeat' (first |exact zau rfl|exact zau (Nat.beq_refl _)|((refine zas ?h ?_);(case h=>first |rfl|assumption))));done))
       | ((refine Mf _ ?_ ?_);focus ((repeat' (first |exact rfl|((refine zas ?h ?_);(case h=>first |rfl|assumption))));done))
     | (refine hF ?_)
     | (refine Cmp.tt rfl ?_)
     | (refine Cmp.ff (by intro h;cases h) ?_)
     | (refine zcj.rec0 (d:= .bool l[k].hi) Ent.cells_length k rfl hk rfl ?_)
     | (refine zbk.mk ⟨by omega,by omega,rfl,by omega,rfl⟩ ?_)
     | (refine zbk.mk ⟨rfl,by simp only [hfl ()];omega,rfl⟩ ?_)
     | (exact hS))
   ·obtain⟨eE,eL⟩:=zzx (da:=da) hp hk h2 h3 h4
    by_cases hq:l[k].rq=q
    ·rw [if_pos hq] at eE
     have hpp:l[k].rq.nm=q.nm/\l[k].rq.ca=q.ca/\l[k].rq.ki=q.ki/\l[k].rq.te=q.te/\l[k].rq.pa=q.pa/\l[k].rq.li=q.li/\l[k].rq.fr=q.fr/\l[k].rq.to=q.to/\l[k].rq.da=q.da/\l[k].rq.mi=q.mi/\l[k].rq.se=q.se/\l[k].rq.si=q.si/\l[k].rq.no=q.no:=by
      rw [hq]
      exact⟨rfl,rfl,rfl,rfl,rfl,rfl,rfl,rfl,rfl,rfl,rfl,rfl,rfl⟩
     by_cases h5:s=[68]
     ·subst h5
      have hD:=hD eE rfl
      rw [eL,if_pos rfl] at hD
      dsimp only [nD] at hD
      obtain⟨eA,eB⟩:=zzc l k hk
      have eAn:=(congrArg List.length eA).trans (show _=(k-0)*15 by rw [za2 Ent.cells 15 Ent.cells_length,List.length_take];omega)
      have eBn:=(congrArg List.length eB).trans (show _=(l.length-(k+1))*15 by rw [za2 Ent.cells 15 Ent.cells_length,List.length_drop])
      have hlen:(l.eraseIdx k).length=((l.length:Int)-1).toNat:=by rw [List.length_eraseIdx_of_lt hk];omega
      rw [hlen] at hD
      repeat' ((conv=>whnf);first
      | refine Yz ?_
       | (refine Mt _ (Nat.beq_refl _) ?_)
       | (refine Mf _ b1 ?_)
       | (refine Mf _ b2 ?_)
       | ((refine Mt _ ?_ ?_);focus ((repeat' (first |exact zau rfl|exact zau (Nat.beq_refl _)|((refine zas ?h ?_);(case h=>first |rfl|assumption))));done))
       | ((refine Mf _ ?_ ?_);focus ((repeat' (first |exact rfl|((refine zas ?h ?_);(case h=>first |rfl|assumption))));done))
       | (refine hF ?_)
       | (refine Cmp.tt rfl ?_)
       | (refine Cmp.ff (by intro h;cases h) ?_)
       | (refine Cmp.tt hpp ?_)
       | (refine za0.part0 Ent.cells_length (j:=0) k rfl hk (by omega) rfl ?_)
       | (refine zbe.at 0 k (by omega) (by omega) (by omega) ?_)
       | (refine zbe.at k (l.length-1) (by omega) (by omega) (by omega) ?_)
       | (refine zbe.at (k+1) l.length (by omega) (by omega) (by omega) ?_)
       | (refine zbk.mk ⟨rfl,by omega,rfl,eAn⟩ ?_)
       | (refine zbk.mk ⟨rfl,by omega,rfl,eBn⟩ ?_))
      rw [<-zzp l k hk eA eB] at hD
      exact hD
     ·have hS:=hS eE h5
      rw [eL,if_neg h5] at hS
      repeat' ((conv=>whnf);first
      | refine Yz ?_
       | (refine Mt _ (Nat.beq_refl _) ?_)
       | (refine Mf _ b1 ?_)
       | (refine Mf _ b2 ?_)
       | ((refine Mt _ ?_ ?_);focus ((repeat' (first |exact zau rfl|exact zau (Nat.beq_refl _)|((refine zas ?h ?_);(case h=>first |rfl|assumption))));done))
       | ((refine Mf _ ?_ ?_);focus ((repeat' (first |exact rfl|((refine zas ?h ?_);(case h=>first |rfl|assumption))));done))
       | (refine hF ?_)
       | (refine Cmp.ff h2 ?_)
       | (refine Cmp.ff h3 ?_)
       | (refine Cmp.ff h4 ?_)
       | (refine Cmp.ff h5 ?_)
       | (refine Cmp.tt hpp ?_)
       | (refine za0.part0 Ent.cells_length (j:=0) k rfl hk (by omega) rfl ?_)
       | (exact hS))
    ·rw [if_neg hq] at eE
     have hE:=hE 29 eE (by decide)
     have hpp:¬(l[k].rq.nm=q.nm/\l[k].rq.ca=q.ca/\l[k].rq.ki=q.ki/\l[k].rq.te=q.te/\l[k].rq.pa=q.pa/\l[k].rq.li=q.li/\l[k].rq.fr=q.fr/\l[k].rq.to=q.to/\l[k].rq.da=q.da/\l[k].rq.mi=q.mi/\l[k].rq.se=q.se/\l[k].rq.si=q.si/\l[k].rq.no=q.no):=fun h=>hq (yer h)
     repeat' ((conv=>whnf);first
     | refine Yz ?_
       | (refine Mt _ (Nat.beq_refl _) ?_)
       | (refine Mf _ b1 ?_)
       | (refine Mf _ b2 ?_)
       | ((refine Mt _ ?_ ?_);focus ((repeat' (first |exact zau rfl|exact zau (Nat.beq_refl _)|((refine zas ?h ?_);(case h=>first |rfl|assumption))));done))
       | ((refine Mf _ ?_ ?_);focus ((repeat' (first |exact rfl|((refine zas ?h ?_);(case h=>first |rfl|assumption))));done))
      | (refine hF ?_)
      | (refine Cmp.ff h2 ?_)
      | (refine Cmp.ff h3 ?_)
      | (refine Cmp.ff h4 ?_)
      | (refine Cmp.ff hpp ?_)
      | (refine za0.part0 Ent.cells_length (j:=0) k rfl hk (by omega) rfl ?_)
      | (exact hE))
end
theorem ybm {cx:Cx} {slot lo:Nat} {old m:Mem} {o:Evl.Id} {off l top:Nat} {x:D} (h:o.lv<lo):Go.Evl.settle cx slot lo old m (.tup [.ref o off l top,.d x])=some (.tup [.ref o off l top,.d x],old):=by
 have hn:¬lo<=o.lv:=by omega
 have hr:Go.Evl.reach lo m 64 (Go.Evl.ids (.tup [.ref o off l top,.d x])) []=[]:=by
  simp [Go.Evl.ids,Go.Evl.idsL,Go.Evl.reach,hn]
 unfold Go.Evl.settle
 simp only [hr]
 rw [if_pos (by simp [Go.Evl.within,Go.Evl.movable,Go.Evl.onceB,Go.Evl.ids,Go.Evl.idsL,h])]
 simp [Go.Evl.number,Go.Evl.ren,Go.Evl.renL,Go.Evl.subst,Go.Evl.moved]
theorem zb4.tlow {cx:Cx} {slot lo:Nat} {old m:Mem} {o:Evl.Id} {off l top:Nat} {x:D} {K:V×Mem->Prop} (h:o.lv<lo) (k:K (.tup [.ref o off l top,.d x],old)):zb4 (Go.Evl.settle cx slot lo old m (.tup [.ref o off l top,.d x])) K:=⟨_,ybm h,k⟩
theorem yc5 {cx:Cx} {slot lo:Nat} {old m:Mem} {o:Evl.Id} {off l top:Nat} {x:D} {wr:Bool} {t sz n:Nat} {xs:List D} (hlo:lo<=o.lv) (hl:Evl.look m o=some (.row wr t sz n xs)):
  Go.Evl.settle cx slot lo old m (.tup [.ref o off l top,.d x])=some (.tup [.ref ⟨cx.lv,slot,Go.Evl.freeK cx.lv slot old⟩ off l top,.d x],old++[(⟨cx.lv,slot,Go.Evl.freeK cx.lv slot old⟩,.row wr t sz n xs)]):=by
 have hr:Go.Evl.reach lo m 64 (Go.Evl.ids (.tup [.ref o off l top,.d x])) []=[o]:=by
  simp [Go.Evl.ids,Go.Evl.idsL,Go.Evl.reach,hlo,hl,Go.Evl.idsO]
 unfold Go.Evl.settle
 simp only [hr]
 rw [if_pos (by simp [Go.Evl.within,Go.Evl.movable,Go.Evl.onceB,Go.Evl.ids,Go.Evl.idsL,hl,hlo,Go.Evl.idsO,Go.Evl.isLoop])]
 simp [Go.Evl.number,Go.Evl.ren,Go.Evl.renL,Go.Evl.subst,Go.Evl.moved,hl,Go.Evl.renO]
theorem zb4.trow {cx:Cx} {slot lo:Nat} {old m:Mem} {o:Evl.Id} {off l top:Nat} {x:D} {wr:Bool} {t sz n:Nat} {xs:List D} {K:V×Mem->Prop} (c:Nat) (hlo:lo<=o.lv) (hl:Evl.look m o=some (.row wr t sz n xs)) (hf:Go.Evl.freeK cx.lv slot old=c)
  (k:K (.tup [.ref ⟨cx.lv,slot,c⟩ off l top,.d x],old++[(⟨cx.lv,slot,c⟩,.row wr t sz n xs)])):zb4 (Go.Evl.settle cx slot lo old m (.tup [.ref o off l top,.d x])) K:=⟨_,yc5 hlo hl,by rw [hf];exact k⟩
abbrev kA (a b:Mst) (l:List Ent):Mem:=[(⟨0,2,0⟩,.row true zac 15 0 []),(⟨0,5,0⟩,.row true zac 15 l.length (l.flatMap Ent.cells)),(⟨0,9,0⟩,.cells zae (msV a)),(⟨0,10,0⟩,.cells zae (msV b))]
abbrev qA (a b:Mst) (l:List Ent) (x:Lnt) (z:Nat):Mem:=[(⟨0,2,0⟩,.row true zac 15 0 []),(⟨0,5,0⟩,.row true zac 15 l.length (l.flatMap Ent.cells)),(⟨0,9,0⟩,.cells zae (msV a)),(⟨0,10,0⟩,.cells zae (msV b)),(⟨0,12,0⟩,.cells zag (lnV x)),(⟨0,75,z⟩,.row true zac 15 0 [])]
abbrev kB (a b:Mst) (l1:List Ent) (c:Nat) (l:List Ent):Mem:=[(⟨0,2,0⟩,.row true zac 15 0 []),(⟨0,5,0⟩,.row true zac 15 l1.length (l1.flatMap Ent.cells)),(⟨0,9,0⟩,.cells zae (msV a)),(⟨0,10,0⟩,.cells zae (msV b)),(⟨0,75,c⟩,.row true zac 15 l.length (l.flatMap Ent.cells))]
abbrev qB (a b:Mst) (l1:List Ent) (c:Nat) (l:List Ent) (x:Lnt) (z:Nat):Mem:=[(⟨0,2,0⟩,.row true zac 15 0 []),(⟨0,5,0⟩,.row true zac 15 l1.length (l1.flatMap Ent.cells)),(⟨0,9,0⟩,.cells zae (msV a)),(⟨0,10,0⟩,.cells zae (msV b)),(⟨0,75,c⟩,.row true zac 15 l.length (l.flatMap Ent.cells)),(⟨0,12,0⟩,.cells zag (lnV x)),(⟨0,75,z⟩,.row true zac 15 0 [])]
abbrev kC (a b:Mst) (l1:List Ent) (c:Nat) (l:List Ent):Mem:=[(⟨0,2,0⟩,.row true zac 15 0 []),(⟨0,5,0⟩,.row true zac 15 l1.length (l1.flatMap Ent.cells)),(⟨0,75,c⟩,.row true zac 15 l.length (l.flatMap Ent.cells)),(⟨0,9,0⟩,.cells zae (msV a)),(⟨0,10,0⟩,.cells zae (msV b))]
abbrev qC (a b:Mst) (l1:List Ent) (c:Nat) (l:List Ent) (x:Lnt) (z:Nat):Mem:=[(⟨0,2,0⟩,.row true zac 15 0 []),(⟨0,5,0⟩,.row true zac 15 l1.length (l1.flatMap Ent.cells)),(⟨0,75,c⟩,.row true zac 15 l.length (l.flatMap Ent.cells)),(⟨0,9,0⟩,.cells zae (msV a)),(⟨0,10,0⟩,.cells zae (msV b)),(⟨0,12,0⟩,.cells zag (lnV x)),(⟨0,75,z⟩,.row true zac 15 0 [])]
abbrev kD (a b:Mst) (l1 l2:List Ent) (d c:Nat) (l:List Ent):Mem:=[(⟨0,2,0⟩,.row true zac 15 0 []),(⟨0,5,0⟩,.row true zac 15 l1.length (l1.flatMap Ent.cells)),(⟨0,75,d⟩,.row true zac 15 l2.length (l2.flatMap Ent.cells)),(⟨0,9,0⟩,.cells zae (msV a)),(⟨0,10,0⟩,.cells zae (msV b)),(⟨0,75,c⟩,.row true zac 15 l.length (l.flatMap Ent.cells))]
abbrev qD (a b:Mst) (l1 l2:List Ent) (d c:Nat) (l:List Ent) (x:Lnt) (z:Nat):Mem:=[(⟨0,2,0⟩,.row true zac 15 0 []),(⟨0,5,0⟩,.row true zac 15 l1.length (l1.flatMap Ent.cells)),(⟨0,75,d⟩,.row true zac 15 l2.length (l2.flatMap Ent.cells)),(⟨0,9,0⟩,.cells zae (msV a)),(⟨0,10,0⟩,.cells zae (msV b)),(⟨0,75,c⟩,.row true zac 15 l.length (l.flatMap Ent.cells)),(⟨0,12,0⟩,.cells zag (lnV x)),(⟨0,75,z⟩,.row true zac 15 0 [])]
abbrev eL (ms:List Mst) (i:Nat) (a:Mst) (o:Evl.Id) (n k:Nat):Env:=[(0,LMs ms),(5,.ref o 0 n n),(6,I i),(7,I 0),(9,.ptr ⟨0,9,0⟩ 0 0),(16,LMs ms),(17,I ms.length),(18,I i),(64,LL a.ls),(65,I a.ls.length),(66,I k)]
abbrev eX (ms:List Mst) (i:Nat) (a:Mst) (o:Evl.Id) (n k:Nat):Env:=[(0,LMs ms),(5,.ref o 0 n n),(6,I i),(7,I 0),(9,.ptr ⟨0,9,0⟩ 0 0),(16,LMs ms),(17,I ms.length),(18,I i),(64,LL a.ls),(65,I a.ls.length),(66,I k),(67,B false)]
abbrev eB (ms:List Mst) (i:Nat) (a:Mst) (o:Evl.Id) (e:Int) (k:Nat):Env:=[(0,LMs ms),(5,.ref o 0 0 0),(6,I i),(7,I e),(9,.ptr ⟨0,9,0⟩ 0 0),(16,LMs ms),(17,I ms.length),(18,I i),(64,LL a.ls),(65,I a.ls.length),(66,I k),(67,B true),(79,B true)]
section
variable {E : Oracle} (g : Good E)
include g
theorem yp5 (ms:List Mst) (i:Nat) (a b:Mst) (l0:List Ent) (hl0:l0.length<=64) (ha:a.ls.length<=1000000) (ok:yh6 a.da l0 a.ls) (res:List Ent×Int) (hres:zvp a.da l0 a.ls=res) {K:Ex->Env->Mem->Prop}
  (okP:∀l:List Ent,res=(l,0)->l.length<=64->yqy (K (.exit 2) (eX ms i a ⟨0,5,0⟩ l.length a.ls.length) (kA a b l)))
  (okQ:∀(l l1:List Ent) (c:Nat),res=(l,0)->l.length<=64->yqy (K (.exit 2) (eX ms i a ⟨0,75,c⟩ l.length a.ls.length) (kB a b l1 c l)))
  (noP:∀(l:List Ent) (x:Lnt) (e:Int) (k:Nat),e≠0->res.2=e->yqy (K (.exit 0) (eB ms i a ⟨0,75,0⟩ e k) (qA a b l x 0)))
  (noQ:∀(l l1:List Ent) (c:Nat) (x:Lnt) (e:Int) (k:Nat),e≠0->res.2=e->yqy (K (.exit 0) (eB ms i a ⟨0,75,(c+1)⟩ e k) (qB a b l1 c l x (c+1)))):
  zad E ⟨0,0+1⟩ [0,5,6,7,9,16,17,18,64,65,66] [⟨0,2,0⟩,⟨0,5,0⟩,⟨0,9,0⟩,⟨0,10,0⟩] zhp (eL ms i a ⟨0,5,0⟩ l0.length 0) (kA a b l0) K:=by
 refine zad.to (zad.by (σ:=Option (List Ent×Nat)×List Ent×Nat) g (fun s=>s.2.1.length<=64/\s.2.2<=a.ls.length/\zvp a.da s.2.1 (a.ls.drop s.2.2)=res/\yh6 a.da s.2.1 (a.ls.drop s.2.2)/\(∀p,s.1=some p->True)) (fun s=>match s.1 with|none=>eL ms i a ⟨0,5,0⟩ s.2.1.length s.2.2|some p=>eL ms i a ⟨0,75,p.2⟩ s.2.1.length s.2.2) (fun s=>match s.1 with|none=>kA a b s.2.1|some p=>kB a b p.1 p.2 s.2.1) (fun s=>a.ls.length-s.2.2) ?_ (none,l0,0) ⟨hl0,Nat.zero_le _,hres,ok,fun _ h=>by cases h⟩) rfl rfl
 clear hres ok hl0
 rintro⟨_|⟨l1,c⟩,l,k⟩ ⟨hl,hk,hr,hp,hd⟩ ih
 ·dsimp only at hl hk hr hp hd ih ⊢
  clear hd
  by_cases hlt:k<a.ls.length
  ·rw [zth hlt] at hr
   rw [List.drop_eq_getElem_cons hlt] at hp
   obtain⟨hp1,hp2⟩:=hp
   have hst:=fun {K}=>ypl g a b l a.ls[k] a.da hl hp1 (K:=K)
   by_cases hz:zmp l a.ls[k]=0
   ·rw [if_pos hz] at hr
    have hlen:=z59 (da:=a.da) hl hz hp1
    by_cases h68:a.ls[k].ac=[68]
    ·have ih:=ih (some (l,0),zja l a.ls[k] a.da,k+1) ⟨hlen,by dsimp only;omega,hr,hp2 hz,fun _ _=>trivial⟩ (by dsimp only;omega)
     dsimp only at ih
     generalize zja l a.ls[k] a.da=L at *
     repeat' ((conv=>whnf);first
     | refine Yz ?_
      | (refine za0.rec Lnt.cells_length k rfl hlt ?_)
      | (refine hst (fun e h1 h2=>absurd (h1▸hz) h2) (fun _ h=>absurd h68 h) (fun _ _=> ?_))
      | (refine zb4.trow 0 (by decide) rfl rfl ?_)
      | (refine zad.to ih rfl rfl))
    ·have ih:=ih (none,zja l a.ls[k] a.da,k+1) ⟨hlen,by dsimp only;omega,hr,hp2 hz,fun _ h=>by cases h⟩ (by dsimp only;omega)
     dsimp only at ih
     generalize zja l a.ls[k] a.da=L at *
     repeat' ((conv=>whnf);first
     | refine Yz ?_
      | (refine za0.rec Lnt.cells_length k rfl hlt ?_)
      | (refine hst (fun e h1 h2=>absurd (h1▸hz) h2) (fun _ _=> ?_) (fun _ h=>absurd h h68))
      | (refine zb4.tlow (Nat.lt_succ_self 0) ?_)
      | (refine zad.to ih rfl rfl))
   ·rw [if_neg hz] at hr
    have hno:=(noP l a.ls[k] (zmp l a.ls[k]) k hz (by rw [<-hr])).go
    generalize hez:zmp l a.ls[k]=ez at *
    repeat' ((conv=>whnf);first
    | refine Yz ?_
     | (refine za0.rec Lnt.cells_length k rfl hlt ?_)
     | (refine hst (fun e h1 h2=> ?_) (fun h _=>absurd h hz) (fun h _=>absurd h hz))
     | (obtain rfl:=h1)
     | (refine zb4.trow 0 (by decide) rfl rfl ?_)
     | (refine Cmp.ff hz ?_)
     | (exact hno))
  ·obtain rfl:k=a.ls.length:=by omega
   rw [List.drop_length,zvp] at hr
   have hok:=(okP l hr.symm hl).go
   repeat' ((conv=>whnf);first
   | refine Yz ?_
    | (exact hok))
 ·dsimp only at hl hk hr hp hd ih ⊢
  clear hd
  have b1:Nat.beq c (c+1)=false:=zlq (by omega)
  have b2:Nat.beq (c+1) c=false:=zlq (by omega)
  by_cases hlt:k<a.ls.length
  ·rw [zth hlt] at hr
   rw [List.drop_eq_getElem_cons hlt] at hp
   obtain⟨hp1,hp2⟩:=hp
   have hst:=fun {K}=>yn4 g a b l1 c l a.ls[k] a.da hl hp1 (K:=K)
   by_cases hz:zmp l a.ls[k]=0
   ·rw [if_pos hz] at hr
    have hlen:=z59 (da:=a.da) hl hz hp1
    by_cases h68:a.ls[k].ac=[68]
    ·have ih:=ih (some (l1,c+1),zja l a.ls[k] a.da,k+1) ⟨hlen,by dsimp only;omega,hr,hp2 hz,fun _ _=>trivial⟩ (by dsimp only;omega)
     dsimp only at ih
     generalize zja l a.ls[k] a.da=L at *
     repeat' ((conv=>whnf);first
     | refine Yz ?_
      | (refine Mt _ (Nat.beq_refl _) ?_)
      | (refine Mf _ b1 ?_)
      | (refine Mf _ b2 ?_)
      | ((refine Mt _ ?_ ?_);focus ((repeat' (first |exact zau rfl|exact zau (Nat.beq_refl _)|((refine zas ?h ?_);(case h=>first |rfl|assumption))));done))
      | ((refine Mf _ ?_ ?_);focus ((repeat' (first |exact rfl|((refine zas ?h ?_);(case h=>first |rfl|assumption))));done))
      | (refine za0.rec Lnt.cells_length k rfl hlt ?_)
      | (refine hst (fun e h1 h2=>absurd (h1▸hz) h2) (fun _ h=>absurd h68 h) (fun _ _=> ?_))
      | (refine zb4.trow (c+1) (by decide) rfl (by simp [Go.Evl.freeK]) ?_)
      | (refine zad.to ih rfl rfl))
    ·have ih:=ih (some (l1,c),zja l a.ls[k] a.da,k+1) ⟨hlen,by dsimp only;omega,hr,hp2 hz,fun _ _=>trivial⟩ (by dsimp only;omega)
     dsimp only at ih
     generalize zja l a.ls[k] a.da=L at *
     repeat' ((conv=>whnf);first
     | refine Yz ?_
      | (refine Mt _ (Nat.beq_refl _) ?_)
      | (refine Mf _ b1 ?_)
      | (refine Mf _ b2 ?_)
      | ((refine Mt _ ?_ ?_);focus ((repeat' (first |exact zau rfl|exact zau (Nat.beq_refl _)|((refine zas ?h ?_);(case h=>first |rfl|assumption))));done))
      | ((refine Mf _ ?_ ?_);focus ((repeat' (first |exact rfl|((refine zas ?h ?_);(case h=>first |rfl|assumption))));done))
      | (refine za0.rec Lnt.cells_length k rfl hlt ?_)
      | (refine hst (fun e h1 h2=>absurd (h1▸hz) h2) (fun _ _=> ?_) (fun _ h=>absurd h h68))
      | (refine zb4.tlow (Nat.lt_succ_self 0) ?_)
      | (refine zad.to ih rfl rfl))
   ·rw [if_neg hz] at hr
    have hno:=(noQ l l1 c a.ls[k] (zmp l a.ls[k]) k hz (by rw [<-hr])).go
    generalize hez:zmp l a.ls[k]=ez at *
    repeat' ((conv=>whnf);first
    | refine Yz ?_
     | (refine Mt _ (Nat.beq_refl _) ?_)
     | (refine Mf _ b1 ?_)
     | (refine Mf _ b2 ?_)
     | ((refine Mt _ ?_ ?_);focus ((repeat' (first |exact zau rfl|exact zau (Nat.beq_refl _)|((refine zas ?h ?_);(case h=>first |rfl|assumption))));done))
     | ((refine Mf _ ?_ ?_);focus ((repeat' (first |exact rfl|((refine zas ?h ?_);(case h=>first |rfl|assumption))));done))
     | (refine za0.rec Lnt.cells_length k rfl hlt ?_)
     | (refine hst (fun e h1 h2=> ?_) (fun h _=>absurd h hz) (fun h _=>absurd h hz))
     | (obtain rfl:=h1)
     | (refine zb4.trow (c+1) (by decide) rfl (by simp [Go.Evl.freeK]) ?_)
     | (refine Cmp.ff hz ?_)
     | (exact hno))
  ·obtain rfl:k=a.ls.length:=by omega
   rw [List.drop_length,zvp] at hr
   have hok:=(okQ l l1 c hr.symm hl).go
   repeat' ((conv=>whnf);first
   | refine Yz ?_
    | (refine Mt _ (Nat.beq_refl _) ?_)
    | (refine Mf _ b1 ?_)
    | (refine Mf _ b2 ?_)
    | ((refine Mt _ ?_ ?_);focus ((repeat' (first |exact zau rfl|exact zau (Nat.beq_refl _)|((refine zas ?h ?_);(case h=>first |rfl|assumption))));done))
    | ((refine Mf _ ?_ ?_);focus ((repeat' (first |exact rfl|((refine zas ?h ?_);(case h=>first |rfl|assumption))));done))
    | (exact hok))
theorem ynt (ms:List Mst) (i:Nat) (a b:Mst) (l1:List Ent) (d:Nat) (l0:List Ent) (hl0:l0.length<=64) (ha:a.ls.length<=1000000) (ok:yh6 a.da l0 a.ls) (res:List Ent×Int) (hres:zvp a.da l0 a.ls=res) {K:Ex->Env->Mem->Prop}
  (okP:∀l:List Ent,res=(l,0)->l.length<=64->yqy (K (.exit 2) (eX ms i a ⟨0,75,d⟩ l.length a.ls.length) (kC a b l1 d l)))
  (okQ:∀(l l2:List Ent) (c:Nat),res=(l,0)->l.length<=64->d<c->yqy (K (.exit 2) (eX ms i a ⟨0,75,c⟩ l.length a.ls.length) (kD a b l1 l2 d c l)))
  (noP:∀(l:List Ent) (x:Lnt) (e:Int) (k:Nat),e≠0->res.2=e->yqy (K (.exit 0) (eB ms i a ⟨0,75,(d+1)⟩ e k) (qC a b l1 d l x (d+1))))
  (noQ:∀(l l2:List Ent) (c:Nat) (x:Lnt) (e:Int) (k:Nat),e≠0->res.2=e->d<c->yqy (K (.exit 0) (eB ms i a ⟨0,75,(c+1)⟩ e k) (qD a b l1 l2 d c l x (c+1)))):
  zad E ⟨0,0+1⟩ [0,5,6,7,9,16,17,18,64,65,66] [⟨0,2,0⟩,⟨0,5,0⟩,⟨0,75,d⟩,⟨0,9,0⟩,⟨0,10,0⟩] zhp (eL ms i a ⟨0,75,d⟩ l0.length 0) (kC a b l1 d l0) K:=by
 refine zad.to (zad.by (σ:=Option (List Ent×Nat)×List Ent×Nat) g (fun s=>s.2.1.length<=64/\s.2.2<=a.ls.length/\zvp a.da s.2.1 (a.ls.drop s.2.2)=res/\yh6 a.da s.2.1 (a.ls.drop s.2.2)/\(∀p,s.1=some p->d<p.2)) (fun s=>match s.1 with|none=>eL ms i a ⟨0,75,d⟩ s.2.1.length s.2.2|some p=>eL ms i a ⟨0,75,p.2⟩ s.2.1.length s.2.2) (fun s=>match s.1 with|none=>kC a b l1 d s.2.1|some p=>kD a b l1 p.1 d p.2 s.2.1) (fun s=>a.ls.length-s.2.2) ?_ (none,l0,0) ⟨hl0,Nat.zero_le _,hres,ok,fun _ h=>by cases h⟩) rfl rfl
 clear hres ok hl0
 rintro⟨_|⟨l2,c⟩,l,k⟩ ⟨hl,hk,hr,hp,hd⟩ ih
 ·dsimp only at hl hk hr hp hd ih ⊢
  clear hd
  have b1:Nat.beq d (d+1)=false:=zlq (by omega)
  have b2:Nat.beq (d+1) d=false:=zlq (by omega)
  by_cases hlt:k<a.ls.length
  ·rw [zth hlt] at hr
   rw [List.drop_eq_getElem_cons hlt] at hp
   obtain⟨hp1,hp2⟩:=hp
   have hst:=fun {K}=>yo8 g a b l1 d l a.ls[k] a.da hl hp1 (K:=K)
   by_cases hz:zmp l a.ls[k]=0
   ·rw [if_pos hz] at hr
    have hlen:=z59 (da:=a.da) hl hz hp1
    by_cases h68:a.ls[k].ac=[68]
    ·have ih:=ih (some (l,d+1),zja l a.ls[k] a.da,k+1) ⟨hlen,by dsimp only;omega,hr,hp2 hz,fun p hp=>by cases hp;exact Nat.lt_succ_self _⟩ (by dsimp only;omega)
     dsimp only at ih
     generalize zja l a.ls[k] a.da=L at *
     repeat' ((conv=>whnf);first
     | refine Yz ?_
      | (refine Mt _ (Nat.beq_refl _) ?_)
      | (refine Mf _ b1 ?_)
      | (refine Mf _ b2 ?_)
      | ((refine Mt _ ?_ ?_);focus ((repeat' (first |exact zau rfl|exact zau (Nat.beq_refl _)|((refine zas ?h ?_);(case h=>first |rfl|assumption))));done))
      | ((refine Mf _ ?_ ?_);focus ((repeat' (first |exact rfl|((refine zas ?h ?_);(case h=>first |rfl|assumption))));done))
      | (refine za0.rec Lnt.cells_length k rfl hlt ?_)
      | (refine hst (fun e h1 h2=>absurd (h1▸hz) h2) (fun _ h=>absurd h68 h) (fun _ _=> ?_))
      | (refine zb4.trow (d+1) (by decide) rfl (by simp [Go.Evl.freeK]) ?_)
      | (refine zad.to ih rfl rfl))
    ·have ih:=ih (none,zja l a.ls[k] a.da,k+1) ⟨hlen,by dsimp only;omega,hr,hp2 hz,fun _ h=>by cases h⟩ (by dsimp only;omega)
     dsimp only at ih
     generalize zja l a.ls[k] a.da=L at *
     repeat' ((conv=>whnf);first
     | refine Yz ?_
      | (refine Mt _ (Nat.beq_refl _) ?_)
      | (refine Mf _ b1 ?_)
      | (refine Mf _ b2 ?_)
      | ((refine Mt _ ?_ ?_);focus ((repeat' (first |exact zau rfl|exact zau (Nat.beq_refl _)|((refine zas ?h ?_);(case h=>first |rfl|assumption))));done))
      | ((refine Mf _ ?_ ?_);focus ((repeat' (first |exact rfl|((refine zas ?h ?_);(case h=>first |rfl|assumption))));done))
      | (refine za0.rec Lnt.cells_length k rfl hlt ?_)
      | (refine hst (fun e h1 h2=>absurd (h1▸hz) h2) (fun _ _=> ?_) (fun _ h=>absurd h h68))
      | (refine zb4.tlow (Nat.lt_succ_self 0) ?_)
      | (refine zad.to ih rfl rfl))
   ·rw [if_neg hz] at hr
    have hno:=(noP l a.ls[k] (zmp l a.ls[k]) k hz (by rw [<-hr])).go
    generalize hez:zmp l a.ls[k]=ez at *
    repeat' ((conv=>whnf);first
    | refine Yz ?_
     | (refine Mt _ (Nat.beq_refl _) ?_)
     | (refine Mf _ b1 ?_)
     | (refine Mf _ b2 ?_)
     | ((refine Mt _ ?_ ?_);focus ((repeat' (first |exact zau rfl|exact zau (Nat.beq_refl _)|((refine zas ?h ?_);(case h=>first |rfl|assumption))));done))
     | ((refine Mf _ ?_ ?_);focus ((repeat' (first |exact rfl|((refine zas ?h ?_);(case h=>first |rfl|assumption))));done))
     | (refine za0.rec Lnt.cells_length k rfl hlt ?_)
     | (refine hst (fun e h1 h2=> ?_) (fun h _=>absurd h hz) (fun h _=>absurd h hz))
     | (obtain rfl:=h1)
     | (refine zb4.trow (d+1) (by decide) rfl (by simp [Go.Evl.freeK]) ?_)
     | (refine Cmp.ff hz ?_)
     | (exact hno))
  ·obtain rfl:k=a.ls.length:=by omega
   rw [List.drop_length,zvp] at hr
   have hok:=(okP l hr.symm hl).go
   repeat' ((conv=>whnf);first
   | refine Yz ?_
    | (refine Mt _ (Nat.beq_refl _) ?_)
    | (refine Mf _ b1 ?_)
    | (refine Mf _ b2 ?_)
    | ((refine Mt _ ?_ ?_);focus ((repeat' (first |exact zau rfl|exact zau (Nat.beq_refl _)|((refine zas ?h ?_);(case h=>first |rfl|assumption))));done))
    | ((refine Mf _ ?_ ?_);focus ((repeat' (first |exact rfl|((refine zas ?h ?_);(case h=>first |rfl|assumption))));done))
    | (exact hok))
 ·dsimp only at hl hk hr hp hd ih ⊢
  have hd:d<c:=hd _ rfl
  have b1:Nat.beq c (c+1)=false:=zlq (by omega)
  have b2:Nat.beq (c+1) c=false:=zlq (by omega)
  have b3:Nat.beq d c=false:=zlq (by omega)
  have b4:Nat.beq c d=false:=zlq (by omega)
  have b5:Nat.beq d (c+1)=false:=zlq (by omega)
  have b6:Nat.beq (c+1) d=false:=zlq (by omega)
  by_cases hlt:k<a.ls.length
  ·rw [zth hlt] at hr
   rw [List.drop_eq_getElem_cons hlt] at hp
   obtain⟨hp1,hp2⟩:=hp
   have hst:=fun {K}=>yow g a b l1 l2 d c (show ¬d=c by omega) l a.ls[k] a.da hl hp1 (K:=K)
   by_cases hz:zmp l a.ls[k]=0
   ·rw [if_pos hz] at hr
    have hlen:=z59 (da:=a.da) hl hz hp1
    by_cases h68:a.ls[k].ac=[68]
    ·have ih:=ih (some (l2,c+1),zja l a.ls[k] a.da,k+1) ⟨hlen,by dsimp only;omega,hr,hp2 hz,fun p hp=>by cases hp;dsimp only;omega⟩ (by dsimp only;omega)
     dsimp only at ih
     generalize zja l a.ls[k] a.da=L at *
     repeat' ((conv=>whnf);first
     | refine Yz ?_
      | (refine Mt _ (Nat.beq_refl _) ?_)
      | (refine Mf _ b1 ?_)
      | (refine Mf _ b2 ?_)
      | (refine Mf _ b3 ?_)
      | (refine Mf _ b4 ?_)
      | (refine Mf _ b5 ?_)
      | (refine Mf _ b6 ?_)
      | ((refine Mt _ ?_ ?_);focus ((repeat' (first |exact zau rfl|exact zau (Nat.beq_refl _)|((refine zas ?h ?_);(case h=>first |rfl|assumption))));done))
      | ((refine Mf _ ?_ ?_);focus ((repeat' (first |exact rfl|((refine zas ?h ?_);(case h=>first |rfl|assumption))));done))
      | (refine za0.rec Lnt.cells_length k rfl hlt ?_)
      | (refine hst (fun e h1 h2=>absurd (h1▸hz) h2) (fun _ h=>absurd h68 h) (fun _ _=> ?_))
      | (refine zb4.trow (c+1) (by decide) rfl (by simp [Go.Evl.freeK];omega) ?_)
      | (refine zad.to ih rfl rfl))
    ·have ih:=ih (some (l2,c),zja l a.ls[k] a.da,k+1) ⟨hlen,by dsimp only;omega,hr,hp2 hz,fun p hp=>by cases hp;exact hd⟩ (by dsimp only;omega)
     dsimp only at ih
     generalize zja l a.ls[k] a.da=L at *
     repeat' ((conv=>whnf);first
     | refine Yz ?_
      | (refine Mt _ (Nat.beq_refl _) ?_)
      | (refine Mf _ b1 ?_)
      | (refine Mf _ b2 ?_)
      | (refine Mf _ b3 ?_)
      | (refine Mf _ b4 ?_)
      | (refine Mf _ b5 ?_)
      | (refine Mf _ b6 ?_)
      | ((refine Mt _ ?_ ?_);focus ((repeat' (first |exact zau rfl|exact zau (Nat.beq_refl _)|((refine zas ?h ?_);(case h=>first |rfl|assumption))));done))
      | ((refine Mf _ ?_ ?_);focus ((repeat' (first |exact rfl|((refine zas ?h ?_);(case h=>first |rfl|assumption))));done))
      | (refine za0.rec Lnt.cells_length k rfl hlt ?_)
      | (refine hst (fun e h1 h2=>absurd (h1▸hz) h2) (fun _ _=> ?_) (fun _ h=>absurd h h68))
      | (refine zb4.tlow (Nat.lt_succ_self 0) ?_)
      | (refine zad.to ih rfl rfl))
   ·rw [if_neg hz] at hr
    have hno:=(noQ l l2 c a.ls[k] (zmp l a.ls[k]) k hz (by rw [<-hr]) hd).go
    generalize hez:zmp l a.ls[k]=ez at *
    repeat' ((conv=>whnf);first
    | refine Yz ?_
     | (refine Mt _ (Nat.beq_refl _) ?_)
     | (refine Mf _ b1 ?_)
     | (refine Mf _ b2 ?_)
     | (refine Mf _ b3 ?_)
     | (refine Mf _ b4 ?_)
     | (refine Mf _ b5 ?_)
     | (refine Mf _ b6 ?_)
     | ((refine Mt _ ?_ ?_);focus ((repeat' (first |exact zau rfl|exact zau (Nat.beq_refl _)|((refine zas ?h ?_);(case h=>first |rfl|assumption))));done))
     | ((refine Mf _ ?_ ?_);focus ((repeat' (first |exact rfl|((refine zas ?h ?_);(case h=>first |rfl|assumption))));done))
     | (refine za0.rec Lnt.cells_length k rfl hlt ?_)
     | (refine hst (fun e h1 h2=> ?_) (fun h _=>absurd h hz) (fun h _=>absurd h hz))
     | (obtain rfl:=h1)
     | (refine zb4.trow (c+1) (by decide) rfl (by simp [Go.Evl.freeK];omega) ?_)
     | (refine Cmp.ff hz ?_)
     | (exact hno))
  ·obtain rfl:k=a.ls.length:=by omega
   rw [List.drop_length,zvp] at hr
   have hok:=(okQ l l2 c hr.symm hl hd).go
   repeat' ((conv=>whnf);first
   | refine Yz ?_
    | (refine Mt _ (Nat.beq_refl _) ?_)
    | (refine Mf _ b1 ?_)
    | (refine Mf _ b2 ?_)
    | (refine Mf _ b3 ?_)
    | (refine Mf _ b4 ?_)
    | (refine Mf _ b5 ?_)
    | (refine Mf _ b6 ?_)
    | ((refine Mt _ ?_ ?_);focus ((repeat' (first |exact zau rfl|exact zau (Nat.beq_refl _)|((refine zas ?h ?_);(case h=>first |rfl|assumption))));done))
    | ((refine Mf _ ?_ ?_);focus ((repeat' (first |exact rfl|((refine zas ?h ?_);(case h=>first |rfl|assumption))));done))
    | (exact hok))
end
abbrev oA (l:List Ent):Mem:=[(⟨0,2,0⟩,.row true zac 15 0 []),(⟨0,5,0⟩,.row true zac 15 l.length (l.flatMap Ent.cells))]
abbrev oB (l1:List Ent) (c:Nat) (l:List Ent):Mem:=[(⟨0,2,0⟩,.row true zac 15 0 []),(⟨0,5,0⟩,.row true zac 15 l1.length (l1.flatMap Ent.cells)),(⟨0,75,c⟩,.row true zac 15 l.length (l.flatMap Ent.cells))]
abbrev eO (ms:List Mst) (o:Evl.Id) (n i:Nat):Env:=[(0,LMs ms),(5,.ref o 0 n n),(6,I ((i-1:Nat):Int)),(7,I 0),(16,LMs ms),(17,I ms.length),(18,I i)]
section
variable {E : Oracle} (g : Good E)
include g
theorem yd4 (f p m:Mst) (b1 b2 b3:Bool) (h1:b1= !decide (m.ki=REQ)) (h2:b2= !decide (m.ai=f.ai/\m.se=f.se)) (h3:b3=decide (m.da<p.da)):Fc E zbj [.d (.list 4 [DI (zra m),DI (if b1=true then 13 else 0),DI (if b2=true then 29 else 0),DI (if b3=true then 11 else 0)])] (I (yce f p m)):=by
 have h:=yj6 g (zra m) (if b1=true then 13 else 0) (if b2=true then 29 else 0) (if b3=true then 11 else 0)
 have e:yce f p m=zap [zra m,if b1=true then 13 else 0,if b2=true then 29 else 0,if b3=true then 11 else 0]:=by
  unfold yce
  congr 1
  subst h1 h2 h3
  by_cases q1:m.ki=REQ<;>by_cases q2:m.ai=f.ai/\m.se=f.se<;>by_cases q3:m.da<p.da<;>simp [q1,q2,q3]
 rw [e]
 exact h
theorem yhb (ms:List Mst) (hms:ms.length<=1000) (hls:∀m∈ms,m.ls.length<=1000000):Fc E zi7 [LMs ms] (.tup [LE (ygk ms).1,I ((ygk ms).2.1:Nat),I (ygk ms).2.2]):=by
 refine g.fn rfl rfl ?_
 by_cases h64:64<ms.length
 ·unfold ygk
  rw [if_pos h64]
  repeat' ((conv=>whnf);first
  | refine Yz ?_
   | (refine Ret.mk rfl))
 ·by_cases h0:ms.length=0
  ·obtain rfl:=List.length_eq_zero_iff.1 h0
   repeat' ((conv=>whnf);first
   | refine Yz ?_
    | (refine zad.step g.lim ?_)
    | (refine Ret.mk rfl))
  ·have hpos:0<ms.length:=by omega
   generalize hR:V.tup [LE (ygk ms).1,I ((ygk ms).2.1:Nat),I (ygk ms).2.2]=R
   rw [yrv hpos (by omega)] at hR
   rw [zxl hpos] at hR
   repeat' ((conv=>whnf);first
   | refine Yz ?_)
   refine zad.to (zad.by (σ:=Option (List Ent×Nat)×List Ent×Nat) g (fun s=>s.2.1.length<=64/\s.2.2<=ms.length/\ygq ms[0] ms[0] 0 [] ms=ygq ms[0] (ms.getD (s.2.2-1) zhs) s.2.2 s.2.1 (ms.drop s.2.2)) (fun s=>match s.1 with|none=>eO ms ⟨0,5,0⟩ s.2.1.length s.2.2|some q=>eO ms ⟨0,75,q.2⟩ s.2.1.length s.2.2) (fun s=>match s.1 with|none=>oA s.2.1|some q=>oB q.1 q.2 s.2.1) (fun s=>ms.length-s.2.2) ?_ (none,[],0) ⟨by simp,Nat.zero_le _,by rw [show 0-1=0 from rfl,zxl hpos];rfl⟩) rfl rfl
   rintro⟨_|⟨l1,d⟩,out,i⟩ ⟨hout,hi,hr⟩ ih
   ·dsimp only at hout hi hr ih ⊢
    rw [hr] at hR
    by_cases hlt:i<ms.length
    ·have hp:i-1<ms.length:=by omega
     have hmem:=List.getElem_mem hlt
     have hC:=zm6 g ms[i] (hls _ hmem)
     have hW:=yd4 g ms[0] ms[i-1] ms[i] _ _ _ rfl rfl rfl
     rw [zxl hp] at hR hr
     rw [zu0 hlt] at hR
     by_cases hz:yce ms[0] ms[i-1] ms[i]=0
     ·rw [if_pos hz] at hR
      have hrd:=fun(h2:(zvp ms[i].da out ms[i].ls).2=0)=>by
       have e:=hr
       rw [zu0 hlt,if_pos hz,if_pos h2] at e
       exact e
      rw [hz] at hW
      have hz':=hz
      unfold yce at hz'
      rw [zbq] at hz'
      have hzc:=hz' (zra ms[i]) (by simp)
      have hk:ms[i].ki=REQ:=Decidable.byContradiction fun hn=>by have:=hz' (if ms[i].ki=REQ then 0 else 13) (by simp);rw [if_neg hn] at this;cases this
      have hh:ms[i].ai=ms[0].ai/\ms[i].se=ms[0].se:=Decidable.byContradiction fun hn=>by have:=hz' (if ms[i].ai=ms[0].ai/\ms[i].se=ms[0].se then 0 else 29) (by simp);rw [if_neg hn] at this;cases this
      have hd:¬ms[i].da<ms[i-1].da:=fun hn=>by have:=hz' (if ms[i].da<ms[i-1].da then 11 else 0) (by simp);rw [if_pos hn] at this;cases this
      rw [decide_eq_true hk,decide_eq_true hh,decide_eq_false hd] at hW
      obtain⟨ha,hs⟩:=hh
      have ok:=z7j ms[i].da ms[i].ls out none 0 (by have:=(znt.1 hzc).ok;rw [hk] at this;exact this) (fun y hy=>by cases hy)
      generalize hres:zvp ms[i].da out ms[i].ls=res at hR hrd
      have hin:=fun {K}=>yp5 g ms i ms[i] ms[i-1] out hout (hls _ hmem) ok res hres (K:=K)
      have hbad:∀e:Int,e≠0->res.2=e->V.tup [LE [],I (i:Nat),I e]=R:=fun e h1 h2=>by
       rw [if_neg (show ¬res.2=0 by rw [h2];exact h1),h2] at hR
       exact hR
      clear hz' hR ok hres
      repeat' ((conv=>whnf);first
      | refine Yz ?_
       | (refine za0.rec Mst.cells_length i rfl hlt ?_)
       | (refine za0.rec Mst.cells_length (i-1) (by omega) hp ?_)
       | (refine zcj.rec Mst.cells_length 0 rfl hpos rfl ?_)
       | (refine zaf.of (zbr g _ _) ?_)
       | (refine zaf.of hC ?_)
       | (refine zaf.of hW ?_)
       | (refine Cmp.tt hk ?_)
       | (refine Cmp.tt ha ?_)
       | (refine Cmp.tt hs ?_)
       | (refine Cmp.ff hd ?_)
       | (refine zad.to (hin (fun l h1 h2=> ?_) (fun l l1 c h1 h2=> ?_) (fun l x e k h1 h2=> ?_) (fun l l1 c x e k h1 h2=> ?_)) rfl rfl))
      ·refine⟨?_⟩
       have ih:=ih (none,l,i+1) ⟨h2,by dsimp only;omega,by dsimp only;rw [hrd (by rw [h1]),h1,Nat.add_sub_cancel,zxl hlt]⟩ (by dsimp only;omega)
       dsimp only at ih
       repeat' ((conv=>whnf);first
       | refine Yz ?_
        | (refine zad.to ih rfl rfl))
      ·refine⟨?_⟩
       have ih:=ih (some (l1,c),l,i+1) ⟨h2,by dsimp only;omega,by dsimp only;rw [hrd (by rw [h1]),h1,Nat.add_sub_cancel,zxl hlt]⟩ (by dsimp only;omega)
       dsimp only at ih
       repeat' ((conv=>whnf);first
       | refine Yz ?_
        | (refine Mt _ (Nat.beq_refl _) ?_)
        | ((refine Mt _ ?_ ?_);focus ((repeat' (first |exact zau rfl|exact zau (Nat.beq_refl _)|((refine zas ?h ?_);(case h=>first |rfl|assumption))));done))
        | ((refine Mf _ ?_ ?_);focus ((repeat' (first |exact rfl|((refine zas ?h ?_);(case h=>first |rfl|assumption))));done))
        | (refine zad.to ih rfl rfl))
      ·refine⟨?_⟩
       have hb:=hbad e h1 h2
       repeat' ((conv=>whnf);first
       | refine Yz ?_
        | (refine Cmp.ff h1 ?_)
        | (refine Ret.mk hb))
      ·refine⟨?_⟩
       have hb:=hbad e h1 h2
       repeat' ((conv=>whnf);first
       | refine Yz ?_
        | (refine Cmp.ff h1 ?_)
        | (refine Ret.mk hb))
     ·rw [if_neg hz] at hR
      rw [<-hR]
      generalize yce ms[0] ms[i-1] ms[i]=e at *
      clear ih hr hmem
      by_cases hk:ms[i].ki=REQ<;>by_cases ha:ms[i].ai=ms[0].ai<;>by_cases hs:ms[i].se=ms[0].se<;>by_cases hd:ms[i].da<ms[i-1].da
      all_goals
       first |rw [decide_eq_true hk] at hW|rw [decide_eq_false hk] at hW
       first |rw [decide_eq_true (show ms[i].ai=ms[0].ai/\ms[i].se=ms[0].se from ⟨ha,hs⟩)] at hW|rw [decide_eq_false (show ¬(ms[i].ai=ms[0].ai/\ms[i].se=ms[0].se) from fun h=>ha h.1)] at hW|rw [decide_eq_false (show ¬(ms[i].ai=ms[0].ai/\ms[i].se=ms[0].se) from fun h=>hs h.2)] at hW
       first |rw [decide_eq_true hd] at hW|rw [decide_eq_false hd] at hW
       repeat' ((conv=>whnf);first
       | refine Yz ?_
        | (refine za0.rec Mst.cells_length i rfl hlt ?_)
        | (refine za0.rec Mst.cells_length (i-1) (by omega) hp ?_)
        | (refine zcj.rec Mst.cells_length 0 rfl hpos rfl ?_)
        | (refine zaf.of (zbr g _ _) ?_)
        | (refine zaf.of hC ?_)
        | (refine zaf.of hW ?_)
        | (refine Cmp.tt hk ?_)
        | (refine Cmp.ff hk ?_)
        | (refine Cmp.tt ha ?_)
        | (refine Cmp.ff ha ?_)
        | (refine Cmp.tt hs ?_)
        | (refine Cmp.ff hs ?_)
        | (refine Cmp.tt hd ?_)
        | (refine Cmp.ff hd ?_)
        | (refine Cmp.ff hz ?_)
        | (refine Ret.mk rfl))
    ·obtain rfl:i=ms.length:=by omega
     rw [List.drop_length,ygq] at hR
     rw [<-hR]
     repeat' ((conv=>whnf);first
     | refine Yz ?_
      | (rw [if_pos (⟨rfl,rfl⟩:_/\_)])
      | (refine Ret.mk rfl))
   ·dsimp only at hout hi hr ih ⊢
    rw [hr] at hR
    by_cases hlt:i<ms.length
    ·have hp:i-1<ms.length:=by omega
     have hmem:=List.getElem_mem hlt
     have hC:=zm6 g ms[i] (hls _ hmem)
     have hW:=yd4 g ms[0] ms[i-1] ms[i] _ _ _ rfl rfl rfl
     rw [zxl hp] at hR hr
     rw [zu0 hlt] at hR
     by_cases hz:yce ms[0] ms[i-1] ms[i]=0
     ·rw [if_pos hz] at hR
      have hrd:=fun(h2:(zvp ms[i].da out ms[i].ls).2=0)=>by
       have e:=hr
       rw [zu0 hlt,if_pos hz,if_pos h2] at e
       exact e
      rw [hz] at hW
      have hz':=hz
      unfold yce at hz'
      rw [zbq] at hz'
      have hzc:=hz' (zra ms[i]) (by simp)
      have hk:ms[i].ki=REQ:=Decidable.byContradiction fun hn=>by have:=hz' (if ms[i].ki=REQ then 0 else 13) (by simp);rw [if_neg hn] at this;cases this
      have hh:ms[i].ai=ms[0].ai/\ms[i].se=ms[0].se:=Decidable.byContradiction fun hn=>by have:=hz' (if ms[i].ai=ms[0].ai/\ms[i].se=ms[0].se then 0 else 29) (by simp);rw [if_neg hn] at this;cases this
      have hd:¬ms[i].da<ms[i-1].da:=fun hn=>by have:=hz' (if ms[i].da<ms[i-1].da then 11 else 0) (by simp);rw [if_pos hn] at this;cases this
      rw [decide_eq_true hk,decide_eq_true hh,decide_eq_false hd] at hW
      obtain⟨ha,hs⟩:=hh
      have ok:=z7j ms[i].da ms[i].ls out none 0 (by have:=(znt.1 hzc).ok;rw [hk] at this;exact this) (fun y hy=>by cases hy)
      generalize hres:zvp ms[i].da out ms[i].ls=res at hR hrd
      have hin:=fun {K}=>ynt g ms i ms[i] ms[i-1] l1 d out hout (hls _ hmem) ok res hres (K:=K)
      have hbad:∀e:Int,e≠0->res.2=e->V.tup [LE [],I (i:Nat),I e]=R:=fun e h1 h2=>by
       rw [if_neg (show ¬res.2=0 by rw [h2];exact h1),h2] at hR
       exact hR
      clear hz' hR ok hres
      repeat' ((conv=>whnf);first
      | refine Yz ?_
       | (refine Mt _ (Nat.beq_refl _) ?_)
       | ((refine Mt _ ?_ ?_);focus ((repeat' (first |exact zau rfl|exact zau (Nat.beq_refl _)|((refine zas ?h ?_);(case h=>first |rfl|assumption))));done))
       | ((refine Mf _ ?_ ?_);focus ((repeat' (first |exact rfl|((refine zas ?h ?_);(case h=>first |rfl|assumption))));done))
       | (refine za0.rec Mst.cells_length i rfl hlt ?_)
       | (refine za0.rec Mst.cells_length (i-1) (by omega) hp ?_)
       | (refine zcj.rec Mst.cells_length 0 rfl hpos rfl ?_)
       | (refine zaf.of (zbr g _ _) ?_)
       | (refine zaf.of hC ?_)
       | (refine zaf.of hW ?_)
       | (refine Cmp.tt hk ?_)
       | (refine Cmp.tt ha ?_)
       | (refine Cmp.tt hs ?_)
       | (refine Cmp.ff hd ?_)
       | (refine zad.to (hin (fun l h1 h2=> ?_) (fun l l2 c h1 h2 h3=> ?_) (fun l x e k h1 h2=> ?_) (fun l l2 c x e k h1 h2 h3=> ?_)) rfl rfl))
      ·refine⟨?_⟩
       have ih:=ih (some (l1,d),l,i+1) ⟨h2,by dsimp only;omega,by dsimp only;rw [hrd (by rw [h1]),h1,Nat.add_sub_cancel,zxl hlt]⟩ (by dsimp only;omega)
       dsimp only at ih
       repeat' ((conv=>whnf);first
       | refine Yz ?_
        | (refine Mt _ (Nat.beq_refl _) ?_)
        | ((refine Mt _ ?_ ?_);focus ((repeat' (first |exact zau rfl|exact zau (Nat.beq_refl _)|((refine zas ?h ?_);(case h=>first |rfl|assumption))));done))
        | ((refine Mf _ ?_ ?_);focus ((repeat' (first |exact rfl|((refine zas ?h ?_);(case h=>first |rfl|assumption))));done))
        | (refine zad.to ih rfl rfl))
      ·refine⟨?_⟩
       have b1:Nat.beq d c=false:=zlq (by omega)
       have b2:Nat.beq c d=false:=zlq (by omega)
       have ih:=ih (some (l1,c),l,i+1) ⟨h2,by dsimp only;omega,by dsimp only;rw [hrd (by rw [h1]),h1,Nat.add_sub_cancel,zxl hlt]⟩ (by dsimp only;omega)
       dsimp only at ih
       repeat' ((conv=>whnf);first
       | refine Yz ?_
        | (refine Mt _ (Nat.beq_refl _) ?_)
        | (refine Mf _ b1 ?_)
        | (refine Mf _ b2 ?_)
        | ((refine Mt _ ?_ ?_);focus ((repeat' (first |exact zau rfl|exact zau (Nat.beq_refl _)|((refine zas ?h ?_);(case h=>first |rfl|assumption))));done))
        | ((refine Mf _ ?_ ?_);focus ((repeat' (first |exact rfl|((refine zas ?h ?_);(case h=>first |rfl|assumption))));done))
        | (refine zad.to ih rfl rfl))
      ·refine⟨?_⟩
       have hb:=hbad e h1 h2
       repeat' ((conv=>whnf);first
       | refine Yz ?_
        | (refine Cmp.ff h1 ?_)
        | (refine Ret.mk hb))
      ·refine⟨?_⟩
       have hb:=hbad e h1 h2
       repeat' ((conv=>whnf);first
       | refine Yz ?_
        | (refine Cmp.ff h1 ?_)
        | (refine Ret.mk hb))
     ·rw [if_neg hz] at hR
      rw [<-hR]
      generalize yce ms[0] ms[i-1] ms[i]=e at *
      clear ih hr hmem
      by_cases hk:ms[i].ki=REQ<;>by_cases ha:ms[i].ai=ms[0].ai<;>by_cases hs:ms[i].se=ms[0].se<;>by_cases hd:ms[i].da<ms[i-1].da
      all_goals
       first |rw [decide_eq_true hk] at hW|rw [decide_eq_false hk] at hW
       first |rw [decide_eq_true (show ms[i].ai=ms[0].ai/\ms[i].se=ms[0].se from ⟨ha,hs⟩)] at hW|rw [decide_eq_false (show ¬(ms[i].ai=ms[0].ai/\ms[i].se=ms[0].se) from fun h=>ha h.1)] at hW|rw [decide_eq_false (show ¬(ms[i].ai=ms[0].ai/\ms[i].se=ms[0].se) from fun h=>hs h.2)] at hW
       first |rw [decide_eq_true hd] at hW|rw [decide_eq_false hd] at hW
       repeat' ((conv=>whnf);first
       | refine Yz ?_
        | (refine Mt _ (Nat.beq_refl _) ?_)
        | ((refine Mt _ ?_ ?_);focus ((repeat' (first |exact zau rfl|exact zau (Nat.beq_refl _)|((refine zas ?h ?_);(case h=>first |rfl|assumption))));done))
        | ((refine Mf _ ?_ ?_);focus ((repeat' (first |exact rfl|((refine zas ?h ?_);(case h=>first |rfl|assumption))));done))
        | (refine za0.rec Mst.cells_length i rfl hlt ?_)
        | (refine za0.rec Mst.cells_length (i-1) (by omega) hp ?_)
        | (refine zcj.rec Mst.cells_length 0 rfl hpos rfl ?_)
        | (refine zaf.of (zbr g _ _) ?_)
        | (refine zaf.of hC ?_)
        | (refine zaf.of hW ?_)
        | (refine Cmp.tt hk ?_)
        | (refine Cmp.ff hk ?_)
        | (refine Cmp.tt ha ?_)
        | (refine Cmp.ff ha ?_)
        | (refine Cmp.tt hs ?_)
        | (refine Cmp.ff hs ?_)
        | (refine Cmp.tt hd ?_)
        | (refine Cmp.ff hd ?_)
        | (refine Cmp.ff hz ?_)
        | (refine Ret.mk rfl))
    ·obtain rfl:i=ms.length:=by omega
     rw [List.drop_length,ygq] at hR
     rw [<-hR]
     repeat' ((conv=>whnf);first
     | refine Yz ?_
      | (rw [if_pos (⟨rfl,rfl⟩:_/\_)])
      | (refine Mt _ (Nat.beq_refl _) ?_)
      | ((refine Mt _ ?_ ?_);focus ((repeat' (first |exact zau rfl|exact zau (Nat.beq_refl _)|((refine zas ?h ?_);(case h=>first |rfl|assumption))));done))
      | ((refine Mf _ ?_ ?_);focus ((repeat' (first |exact rfl|((refine zas ?h ?_);(case h=>first |rfl|assumption))));done))
      | (refine Ret.mk rfl))
end
abbrev zt7 (ws:List D) (i:Int):Env:=[(2,.ptr ⟨0,2,0⟩ 0 0),(5,.d (.list 14 ws)),(6,.ptr ⟨0,6,0⟩ 0 0),(7,.ptr ⟨0,7,0⟩ 0 0),(21,I i)]
abbrev zs8 (outs:List V):Mem:=(⟨0,2,0⟩,.cells zag [.d (.str []),.d (.str []),.d (.str []),.d (.str []),.d (.str []),.d (.str []),.d (.str []),I 0,I 0,I 0,I 0,I 0,I 0,I 0])::(⟨0,6,0⟩,.cells zag outs)::(yv4 0 20++[(⟨0,7,0⟩,.cells zcm (ywp 0 20))])
abbrev zji:List Evl.Id:=[⟨0,2,0⟩,⟨0,6,0⟩,⟨0,20,0⟩,⟨0,20,1⟩,⟨0,20,2⟩,⟨0,20,3⟩,⟨0,20,4⟩,⟨0,20,5⟩,⟨0,20,6⟩,⟨0,20,7⟩,⟨0,20,8⟩,⟨0,20,9⟩,⟨0,20,10⟩,⟨0,20,11⟩,⟨0,20,12⟩,⟨0,20,13⟩,⟨0,20,14⟩,⟨0,20,15⟩,⟨0,20,16⟩,⟨0,20,17⟩,⟨0,20,18⟩,⟨0,20,19⟩,⟨0,20,20⟩,⟨0,20,21⟩,⟨0,7,0⟩]
abbrev zta (a0 a1 a2 a3 a4 a5 a6 a7 a8 a9 a10 a11 a12 a13:List UInt8):List D:=[.str a0,.str a1,.str a2,.str a3,.str a4,.str a5,.str a6,.str a7,.str a8,.str a9,.str a10,.str a11,.str a12,.str a13]
section
variable {E : Oracle} (g : Good E)
include g
theorem yvv (a0 a1 a2 a3 a4 a5 a6 a7 a8 a9 a10 a11 a12 a13:List UInt8) {b:Bool} {K:Ex->Env->Mem->Prop} {R:V} (hK:∀e m,K .ret e m=zd6 m e [.cell 2 (some 14),.tmp 3,.tmp 4] fun v=>znm m v fun d=>Ret d R) (hs:Fc E zcu [S a0] (B b)) (hF:b=false-> .tup [.d (.agg zp8),I 0,I 25]=R)
  (ih:b=true->zad E ⟨0,1⟩ [2,5,6,7,21] zji zaj (zt7 (zta a0 a1 a2 a3 a4 a5 a6 a7 a8 a9 a10 a11 a12 a13) 1) (zs8 [.d (.str a0),.d (.str []),.d (.str []),.d (.str []),.d (.str []),.d (.str []),.d (.str []),I 0,I 0,I 0,I 0,I 0,I 0,I 0]) K):zad E ⟨0,1⟩ [2,5,6,7,21] zji zaj (zt7 (zta a0 a1 a2 a3 a4 a5 a6 a7 a8 a9 a10 a11 a12 a13) 0) (zs8 [.d (.str []),.d (.str []),.d (.str []),.d (.str []),.d (.str []),.d (.str []),.d (.str []),I 0,I 0,I 0,I 0,I 0,I 0,I 0]) K:=by
 refine zad.step g.lim ?_
 repeat' ((conv=>whnf);first
 | refine Yz ?_
  | (refine In.enter (f:=zbb) g.lim rfl rfl ?_)
  | (refine In.enter (f:=zd9) g.lim rfl rfl ?_)
  | (refine zb4.ptr (by decide) ?_)
  | (refine zaf.of hs ?_)
  | (refine zbk.mk ⟨rfl,by decide⟩ ?_)
  | (refine Br.not (fun hb=> ?_) (fun hb=> ?_))
  | (refine(hK _ _).mpr ?_)
  | (refine zad.to (ih (by assumption)) rfl rfl)
  | (refine Ret.mk (hF (by assumption))))
theorem ywd (a0 a1 a2 a3 a4 a5 a6 a7 a8 a9 a10 a11 a12 a13:List UInt8) {b:Bool} {K:Ex->Env->Mem->Prop} {R:V} (hK:∀e m,K .ret e m=zd6 m e [.cell 2 (some 14),.tmp 3,.tmp 4] fun v=>znm m v fun d=>Ret d R) (hs:Fc E zao [S a1] (B b)) (hF:b=false-> .tup [.d (.agg zp8),I 1,I 25]=R)
  (ih:b=true->zad E ⟨0,1⟩ [2,5,6,7,21] zji zaj (zt7 (zta a0 a1 a2 a3 a4 a5 a6 a7 a8 a9 a10 a11 a12 a13) 2) (zs8 [.d (.str a0),.d (.str []),.d (.str a1),.d (.str []),.d (.str []),.d (.str []),.d (.str []),I 0,I 0,I 0,I 0,I 0,I 0,I 0]) K):zad E ⟨0,1⟩ [2,5,6,7,21] zji zaj (zt7 (zta a0 a1 a2 a3 a4 a5 a6 a7 a8 a9 a10 a11 a12 a13) 1) (zs8 [.d (.str a0),.d (.str []),.d (.str []),.d (.str []),.d (.str []),.d (.str []),.d (.str []),I 0,I 0,I 0,I 0,I 0,I 0,I 0]) K:=by
 refine zad.step g.lim ?_
 repeat' ((conv=>whnf);first
 | refine Yz ?_
  | (refine In.enter (f:=zbb) g.lim rfl rfl ?_)
  | (refine In.enter (f:=zec) g.lim rfl rfl ?_)
  | (refine zb4.ptr (by decide) ?_)
  | (refine zaf.of hs ?_)
  | (refine zbk.mk ⟨rfl,by decide⟩ ?_)
  | (refine Br.not (fun hb=> ?_) (fun hb=> ?_))
  | (refine(hK _ _).mpr ?_)
  | (refine zad.to (ih (by assumption)) rfl rfl)
  | (refine Ret.mk (hF (by assumption))))
theorem yv8 (a0 a1 a2 a3 a4 a5 a6 a7 a8 a9 a10 a11 a12 a13:List UInt8) {b:Bool} {K:Ex->Env->Mem->Prop} {R:V} (hK:∀e m,K .ret e m=zd6 m e [.cell 2 (some 14),.tmp 3,.tmp 4] fun v=>znm m v fun d=>Ret d R) (hs:Fc E zao [S a2] (B b)) (hF:b=false-> .tup [.d (.agg zp8),I 2,I 25]=R)
  (ih:b=true->zad E ⟨0,1⟩ [2,5,6,7,21] zji zaj (zt7 (zta a0 a1 a2 a3 a4 a5 a6 a7 a8 a9 a10 a11 a12 a13) 3) (zs8 [.d (.str a0),.d (.str a2),.d (.str a1),.d (.str []),.d (.str []),.d (.str []),.d (.str []),I 0,I 0,I 0,I 0,I 0,I 0,I 0]) K):zad E ⟨0,1⟩ [2,5,6,7,21] zji zaj (zt7 (zta a0 a1 a2 a3 a4 a5 a6 a7 a8 a9 a10 a11 a12 a13) 2) (zs8 [.d (.str a0),.d (.str []),.d (.str a1),.d (.str []),.d (.str []),.d (.str []),.d (.str []),I 0,I 0,I 0,I 0,I 0,I 0,I 0]) K:=by
 refine zad.step g.lim ?_
 repeat' ((conv=>whnf);first
 | refine Yz ?_
  | (refine In.enter (f:=zbb) g.lim rfl rfl ?_)
  | (refine In.enter (f:=zd4) g.lim rfl rfl ?_)
  | (refine zb4.ptr (by decide) ?_)
  | (refine zaf.of hs ?_)
  | (refine zbk.mk ⟨rfl,by decide⟩ ?_)
  | (refine Br.not (fun hb=> ?_) (fun hb=> ?_))
  | (refine(hK _ _).mpr ?_)
  | (refine zad.to (ih (by assumption)) rfl rfl)
  | (refine Ret.mk (hF (by assumption))))
theorem yvs (a0 a1 a2 a3 a4 a5 a6 a7 a8 a9 a10 a11 a12 a13:List UInt8) {b:Bool} {K:Ex->Env->Mem->Prop} {R:V} (hK:∀e m,K .ret e m=zd6 m e [.cell 2 (some 14),.tmp 3,.tmp 4] fun v=>znm m v fun d=>Ret d R) (hs:Fc E zdk [S a3] (B b)) (hF:b=false-> .tup [.d (.agg zp8),I 3,I 25]=R)
  (ih:b=true->zad E ⟨0,1⟩ [2,5,6,7,21] zji zaj (zt7 (zta a0 a1 a2 a3 a4 a5 a6 a7 a8 a9 a10 a11 a12 a13) 4) (zs8 [.d (.str a0),.d (.str a2),.d (.str a1),.d (.str a3),.d (.str []),.d (.str []),.d (.str []),I 0,I 0,I 0,I 0,I 0,I 0,I 0]) K):zad E ⟨0,1⟩ [2,5,6,7,21] zji zaj (zt7 (zta a0 a1 a2 a3 a4 a5 a6 a7 a8 a9 a10 a11 a12 a13) 3) (zs8 [.d (.str a0),.d (.str a2),.d (.str a1),.d (.str []),.d (.str []),.d (.str []),.d (.str []),I 0,I 0,I 0,I 0,I 0,I 0,I 0]) K:=by
 refine zad.step g.lim ?_
 repeat' ((conv=>whnf);first
 | refine Yz ?_
  | (refine In.enter (f:=zbb) g.lim rfl rfl ?_)
  | (refine In.enter (f:=zd8) g.lim rfl rfl ?_)
  | (refine zb4.ptr (by decide) ?_)
  | (refine zaf.of hs ?_)
  | (refine zbk.mk ⟨rfl,by decide⟩ ?_)
  | (refine Br.not (fun hb=> ?_) (fun hb=> ?_))
  | (refine(hK _ _).mpr ?_)
  | (refine zad.to (ih (by assumption)) rfl rfl)
  | (refine Ret.mk (hF (by assumption))))
theorem yvx (a0 a1 a2 a3 a4 a5 a6 a7 a8 a9 a10 a11 a12 a13:List UInt8) {b:Bool} {K:Ex->Env->Mem->Prop} {R:V} (hK:∀e m,K .ret e m=zd6 m e [.cell 2 (some 14),.tmp 3,.tmp 4] fun v=>znm m v fun d=>Ret d R) (hs:Fc E zao [S a4] (B b)) (hF:b=false-> .tup [.d (.agg zp8),I 4,I 25]=R)
  (ih:b=true->zad E ⟨0,1⟩ [2,5,6,7,21] zji zaj (zt7 (zta a0 a1 a2 a3 a4 a5 a6 a7 a8 a9 a10 a11 a12 a13) 5) (zs8 [.d (.str a0),.d (.str a2),.d (.str a1),.d (.str a3),.d (.str []),.d (.str a4),.d (.str []),I 0,I 0,I 0,I 0,I 0,I 0,I 0]) K):zad E ⟨0,1⟩ [2,5,6,7,21] zji zaj (zt7 (zta a0 a1 a2 a3 a4 a5 a6 a7 a8 a9 a10 a11 a12 a13) 4) (zs8 [.d (.str a0),.d (.str a2),.d (.str a1),.d (.str a3),.d (.str []),.d (.str []),.d (.str []),I 0,I 0,I 0,I 0,I 0,I 0,I 0]) K:=by
 refine zad.step g.lim ?_
 repeat' ((conv=>whnf);first
 | refine Yz ?_
  | (refine In.enter (f:=zbb) g.lim rfl rfl ?_)
  | (refine In.enter (f:=zd7) g.lim rfl rfl ?_)
  | (refine zb4.ptr (by decide) ?_)
  | (refine zaf.of hs ?_)
  | (refine zbk.mk ⟨rfl,by decide⟩ ?_)
  | (refine Br.not (fun hb=> ?_) (fun hb=> ?_))
  | (refine(hK _ _).mpr ?_)
  | (refine zad.to (ih (by assumption)) rfl rfl)
  | (refine Ret.mk (hF (by assumption))))
theorem ywl (a0 a1 a2 a3 a4 a5 a6 a7 a8 a9 a10 a11 a12 a13:List UInt8) (n5:Int) {b:Bool} {K:Ex->Env->Mem->Prop} {R:V} (hK:∀e m,K .ret e m=zd6 m e [.cell 2 (some 14),.tmp 3,.tmp 4] fun v=>znm m v fun d=>Ret d R) (hs:Fc E zbi [S a5,I 5] (.tup [I n5,B b])) (hF:b=false-> .tup [.d (.agg zp8),I 5,I 25]=R)
  (ih:b=true->zad E ⟨0,1⟩ [2,5,6,7,21] zji zaj (zt7 (zta a0 a1 a2 a3 a4 a5 a6 a7 a8 a9 a10 a11 a12 a13) 6) (zs8 [.d (.str a0),.d (.str a2),.d (.str a1),.d (.str a3),.d (.str []),.d (.str a4),.d (.str []),I n5,I 0,I 0,I 0,I 0,I 0,I 0]) K):zad E ⟨0,1⟩ [2,5,6,7,21] zji zaj (zt7 (zta a0 a1 a2 a3 a4 a5 a6 a7 a8 a9 a10 a11 a12 a13) 5) (zs8 [.d (.str a0),.d (.str a2),.d (.str a1),.d (.str a3),.d (.str []),.d (.str a4),.d (.str []),I 0,I 0,I 0,I 0,I 0,I 0,I 0]) K:=by
 refine zad.step g.lim ?_
 repeat' ((conv=>whnf);first
 | refine Yz ?_
  | (refine In.enter (f:=za5) g.lim rfl rfl ?_)
  | (refine In.enter (f:=zeb) g.lim rfl rfl ?_)
  | (refine zb4.ptr (by decide) ?_)
  | (refine zaf.of hs ?_)
  | (refine zbk.mk ⟨rfl,by decide⟩ ?_)
  | (refine Br.not (fun hb=> ?_) (fun hb=> ?_))
  | (refine(hK _ _).mpr ?_)
  | (refine zad.to (ih (by assumption)) rfl rfl)
  | (refine Ret.mk (hF (by assumption))))
theorem yuo (a0 a1 a2 a3 a4 a5 a6 a7 a8 a9 a10 a11 a12 a13:List UInt8) (n5 n6:Int) {b:Bool} {K:Ex->Env->Mem->Prop} {R:V} (hK:∀e m,K .ret e m=zd6 m e [.cell 2 (some 14),.tmp 3,.tmp 4] fun v=>znm m v fun d=>Ret d R) (hs:Fc E zbi [S a6,I 5] (.tup [I n6,B b])) (hF:b=false-> .tup [.d (.agg zp8),I 6,I 25]=R)
  (ih:b=true->zad E ⟨0,1⟩ [2,5,6,7,21] zji zaj (zt7 (zta a0 a1 a2 a3 a4 a5 a6 a7 a8 a9 a10 a11 a12 a13) 7) (zs8 [.d (.str a0),.d (.str a2),.d (.str a1),.d (.str a3),.d (.str []),.d (.str a4),.d (.str []),I n5,I n6,I 0,I 0,I 0,I 0,I 0]) K):zad E ⟨0,1⟩ [2,5,6,7,21] zji zaj (zt7 (zta a0 a1 a2 a3 a4 a5 a6 a7 a8 a9 a10 a11 a12 a13) 6) (zs8 [.d (.str a0),.d (.str a2),.d (.str a1),.d (.str a3),.d (.str []),.d (.str a4),.d (.str []),I n5,I 0,I 0,I 0,I 0,I 0,I 0]) K:=by
 refine zad.step g.lim ?_
 repeat' ((conv=>whnf);first
 | refine Yz ?_
  | (refine In.enter (f:=za5) g.lim rfl rfl ?_)
  | (refine In.enter (f:=zd3) g.lim rfl rfl ?_)
  | (refine zb4.ptr (by decide) ?_)
  | (refine zaf.of hs ?_)
  | (refine zbk.mk ⟨rfl,by decide⟩ ?_)
  | (refine Br.not (fun hb=> ?_) (fun hb=> ?_))
  | (refine(hK _ _).mpr ?_)
  | (refine zad.to (ih (by assumption)) rfl rfl)
  | (refine Ret.mk (hF (by assumption))))
theorem yu0 (a0 a1 a2 a3 a4 a5 a6 a7 a8 a9 a10 a11 a12 a13:List UInt8) (n5 n6 n7:Int) {b:Bool} {K:Ex->Env->Mem->Prop} {R:V} (hK:∀e m,K .ret e m=zd6 m e [.cell 2 (some 14),.tmp 3,.tmp 4] fun v=>znm m v fun d=>Ret d R) (hs:Fc E zdj [S a7] (.tup [I n7,I (if b=true then 0 else 25)])) (hF:b=false-> .tup [.d (.agg zp8),I 7,I 25]=R)
  (ih:b=true->zad E ⟨0,1⟩ [2,5,6,7,21] zji zaj (zt7 (zta a0 a1 a2 a3 a4 a5 a6 a7 a8 a9 a10 a11 a12 a13) 8) (zs8 [.d (.str a0),.d (.str a2),.d (.str a1),.d (.str a3),.d (.str []),.d (.str a4),.d (.str []),I n5,I n6,I n7,I 0,I 0,I 0,I 0]) K):zad E ⟨0,1⟩ [2,5,6,7,21] zji zaj (zt7 (zta a0 a1 a2 a3 a4 a5 a6 a7 a8 a9 a10 a11 a12 a13) 7) (zs8 [.d (.str a0),.d (.str a2),.d (.str a1),.d (.str a3),.d (.str []),.d (.str a4),.d (.str []),I n5,I n6,I 0,I 0,I 0,I 0,I 0]) K:=by
 refine zad.step g.lim ?_
 repeat' ((conv=>whnf);first
 | refine Yz ?_
  | (refine In.enter (f:=zfp) g.lim rfl rfl ?_)
  | (refine zb4.ptr (by decide) ?_)
  | (refine zaf.of hs ?_)
  | (refine zbk.mk ⟨rfl,by decide⟩ ?_)
  | (refine Cmp.b25 (fun h=> ?_) (fun h=> ?_))
  | (refine Br.not (fun hb=> ?_) (fun hb=> ?_))
  | (refine(hK _ _).mpr ?_)
  | (refine zad.to (ih (by assumption)) rfl rfl)
  | (refine Ret.mk (hF (by assumption))))
theorem yvr (a0 a1 a2 a3 a4 a5 a6 a7 a8 a9 a10 a11 a12 a13:List UInt8) (n5 n6 n7 n8:Int) {b:Bool} {K:Ex->Env->Mem->Prop} {R:V} (hK:∀e m,K .ret e m=zd6 m e [.cell 2 (some 14),.tmp 3,.tmp 4] fun v=>znm m v fun d=>Ret d R) (hs:Fc E zc4 [S a8] (.tup [I n8,I (if b=true then 0 else 25)])) (hF:b=false-> .tup [.d (.agg zp8),I 8,I 25]=R)
  (ih:b=true->zad E ⟨0,1⟩ [2,5,6,7,21] zji zaj (zt7 (zta a0 a1 a2 a3 a4 a5 a6 a7 a8 a9 a10 a11 a12 a13) 9) (zs8 [.d (.str a0),.d (.str a2),.d (.str a1),.d (.str a3),.d (.str []),.d (.str a4),.d (.str []),I n5,I n6,I n7,I n8,I 0,I 0,I 0]) K):zad E ⟨0,1⟩ [2,5,6,7,21] zji zaj (zt7 (zta a0 a1 a2 a3 a4 a5 a6 a7 a8 a9 a10 a11 a12 a13) 8) (zs8 [.d (.str a0),.d (.str a2),.d (.str a1),.d (.str a3),.d (.str []),.d (.str a4),.d (.str []),I n5,I n6,I n7,I 0,I 0,I 0,I 0]) K:=by
 refine zad.step g.lim ?_
 repeat' ((conv=>whnf);first
 | refine Yz ?_
  | (refine In.enter (f:=ze5) g.lim rfl rfl ?_)
  | (refine zb4.ptr (by decide) ?_)
  | (refine zaf.of hs ?_)
  | (refine zbk.mk ⟨rfl,by decide⟩ ?_)
  | (refine Cmp.b25 (fun h=> ?_) (fun h=> ?_))
  | (refine Br.not (fun hb=> ?_) (fun hb=> ?_))
  | (refine(hK _ _).mpr ?_)
  | (refine zad.to (ih (by assumption)) rfl rfl)
  | (refine Ret.mk (hF (by assumption))))
theorem ywj (a0 a1 a2 a3 a4 a5 a6 a7 a8 a9 a10 a11 a12 a13:List UInt8) (n5 n6 n7 n8 n9:Int) {b:Bool} {K:Ex->Env->Mem->Prop} {R:V} (hK:∀e m,K .ret e m=zd6 m e [.cell 2 (some 14),.tmp 3,.tmp 4] fun v=>znm m v fun d=>Ret d R) (hs:Fc E zbi [S a9,I 3] (.tup [I n9,B b])) (hF:b=false-> .tup [.d (.agg zp8),I 9,I 25]=R)
  (ih:b=true->zad E ⟨0,1⟩ [2,5,6,7,21] zji zaj (zt7 (zta a0 a1 a2 a3 a4 a5 a6 a7 a8 a9 a10 a11 a12 a13) 10) (zs8 [.d (.str a0),.d (.str a2),.d (.str a1),.d (.str a3),.d (.str []),.d (.str a4),.d (.str []),I n5,I n6,I n7,I n8,I n9,I 0,I 0]) K):zad E ⟨0,1⟩ [2,5,6,7,21] zji zaj (zt7 (zta a0 a1 a2 a3 a4 a5 a6 a7 a8 a9 a10 a11 a12 a13) 9) (zs8 [.d (.str a0),.d (.str a2),.d (.str a1),.d (.str a3),.d (.str []),.d (.str a4),.d (.str []),I n5,I n6,I n7,I n8,I 0,I 0,I 0]) K:=by
 refine zad.step g.lim ?_
 repeat' ((conv=>whnf);first
 | refine Yz ?_
  | (refine In.enter (f:=za5) g.lim rfl rfl ?_)
  | (refine In.enter (f:=zdw) g.lim rfl rfl ?_)
  | (refine zb4.ptr (by decide) ?_)
  | (refine zaf.of hs ?_)
  | (refine zbk.mk ⟨rfl,by decide⟩ ?_)
  | (refine Br.not (fun hb=> ?_) (fun hb=> ?_))
  | (refine(hK _ _).mpr ?_)
  | (refine zad.to (ih (by assumption)) rfl rfl)
  | (refine Ret.mk (hF (by assumption))))
theorem ysa (a0 a1 a2 a3 a4 a5 a6 a7 a8 a9 a10 a11 a12 a13:List UInt8) (n10 n5 n6 n7 n8 n9:Int) {b:Bool} {K:Ex->Env->Mem->Prop} {R:V} (hK:∀e m,K .ret e m=zd6 m e [.cell 2 (some 14),.tmp 3,.tmp 4] fun v=>znm m v fun d=>Ret d R) (hs:Fc E zbi [S a10,I 1] (.tup [I n10,B b])) (hF:b=false-> .tup [.d (.agg zp8),I 10,I 25]=R)
  (ih:b=true->zad E ⟨0,1⟩ [2,5,6,7,21] zji zaj (zt7 (zta a0 a1 a2 a3 a4 a5 a6 a7 a8 a9 a10 a11 a12 a13) 11) (zs8 [.d (.str a0),.d (.str a2),.d (.str a1),.d (.str a3),.d (.str []),.d (.str a4),.d (.str []),I n5,I n6,I n7,I n8,I n9,I n10,I 0]) K):zad E ⟨0,1⟩ [2,5,6,7,21] zji zaj (zt7 (zta a0 a1 a2 a3 a4 a5 a6 a7 a8 a9 a10 a11 a12 a13) 10) (zs8 [.d (.str a0),.d (.str a2),.d (.str a1),.d (.str a3),.d (.str []),.d (.str a4),.d (.str []),I n5,I n6,I n7,I n8,I n9,I 0,I 0]) K:=by
 refine zad.step g.lim ?_
 repeat' ((conv=>whnf);first
 | refine Yz ?_
  | (refine In.enter (f:=za5) g.lim rfl rfl ?_)
  | (refine In.enter (f:=zdq) g.lim rfl rfl ?_)
  | (refine zb4.ptr (by decide) ?_)
  | (refine zaf.of hs ?_)
  | (refine zbk.mk ⟨rfl,by decide⟩ ?_)
  | (refine Br.not (fun hb=> ?_) (fun hb=> ?_))
  | (refine(hK _ _).mpr ?_)
  | (refine zad.to (ih (by assumption)) rfl rfl)
  | (refine Ret.mk (hF (by assumption))))
theorem yrg (a0 a1 a2 a3 a4 a5 a6 a7 a8 a9 a10 a11 a12 a13:List UInt8) (n10 n11 n5 n6 n7 n8 n9:Int) {b:Bool} {K:Ex->Env->Mem->Prop} {R:V} (hK:∀e m,K .ret e m=zd6 m e [.cell 2 (some 14),.tmp 3,.tmp 4] fun v=>znm m v fun d=>Ret d R) (hs:Fc E zbi [S a11,I 2] (.tup [I n11,B b])) (hF:b=false-> .tup [.d (.agg zp8),I 11,I 25]=R)
  (ih:b=true->zad E ⟨0,1⟩ [2,5,6,7,21] zji zaj (zt7 (zta a0 a1 a2 a3 a4 a5 a6 a7 a8 a9 a10 a11 a12 a13) 12) (zs8 [.d (.str a0),.d (.str a2),.d (.str a1),.d (.str a3),.d (.str []),.d (.str a4),.d (.str []),I n5,I n6,I n7,I n8,I n9,I n10,I n11]) K):zad E ⟨0,1⟩ [2,5,6,7,21] zji zaj (zt7 (zta a0 a1 a2 a3 a4 a5 a6 a7 a8 a9 a10 a11 a12 a13) 11) (zs8 [.d (.str a0),.d (.str a2),.d (.str a1),.d (.str a3),.d (.str []),.d (.str a4),.d (.str []),I n5,I n6,I n7,I n8,I n9,I n10,I 0]) K:=by
 refine zad.step g.lim ?_
 repeat' ((conv=>whnf);first
 | refine Yz ?_
  | (refine In.enter (f:=za5) g.lim rfl rfl ?_)
  | (refine In.enter (f:=zds) g.lim rfl rfl ?_)
  | (refine zb4.ptr (by decide) ?_)
  | (refine zaf.of hs ?_)
  | (refine zbk.mk ⟨rfl,by decide⟩ ?_)
  | (refine Br.not (fun hb=> ?_) (fun hb=> ?_))
  | (refine(hK _ _).mpr ?_)
  | (refine zad.to (ih (by assumption)) rfl rfl)
  | (refine Ret.mk (hF (by assumption))))
theorem ysn (a0 a1 a2 a3 a4 a5 a6 a7 a8 a9 a10 a11 a12 a13 u12:List UInt8) (n10 n11 n5 n6 n7 n8 n9:Int) {b j:Bool} {K:Ex->Env->Mem->Prop} {R:V} (hK:∀e m,K .ret e m=zd6 m e [.cell 2 (some 14),.tmp 3,.tmp 4] fun v=>znm m v fun d=>Ret d R) (hs:Fc E zao [S a12] (B j)) (he:b=(decide (a12=[45])||j)) (hu:u12=zms a12) (hF:b=false-> .tup [.d (.agg zp8),I 12,I 25]=R)
  (ih:b=true->zad E ⟨0,1⟩ [2,5,6,7,21] zji zaj (zt7 (zta a0 a1 a2 a3 a4 a5 a6 a7 a8 a9 a10 a11 a12 a13) 13) (zs8 [.d (.str a0),.d (.str a2),.d (.str a1),.d (.str a3),.d (.str u12),.d (.str a4),.d (.str []),I n5,I n6,I n7,I n8,I n9,I n10,I n11]) K):zad E ⟨0,1⟩ [2,5,6,7,21] zji zaj (zt7 (zta a0 a1 a2 a3 a4 a5 a6 a7 a8 a9 a10 a11 a12 a13) 12) (zs8 [.d (.str a0),.d (.str a2),.d (.str a1),.d (.str a3),.d (.str []),.d (.str a4),.d (.str []),I n5,I n6,I n7,I n8,I n9,I n10,I n11]) K:=by
 by_cases h:a12=[45]
 ·have hb:b=true:=by rw [he,decide_eq_true h];rfl
  have hu':u12=[]:=by rw [hu,zms,if_pos h]
  subst hb
  subst hu'
  refine zad.step g.lim ?_
  repeat' ((conv=>whnf);first
  | refine Yz ?_
   | (refine In.enter (f:=zb9) g.lim rfl rfl ?_)
   | (refine In.enter (f:=zck) g.lim rfl rfl ?_)
   | (refine zb4.ptr (by decide) ?_)
   | (refine zbk.mk ⟨rfl,by decide⟩ ?_)
   | (refine Cmp.tt h ?_)
   | (refine Br.not (fun hb=> ?_) (fun hb=> ?_))
   | (refine(hK _ _).mpr ?_)
   | (refine zad.to (ih rfl) rfl rfl)
   | (refine Ret.mk (hF (by assumption))))
 ·have hb:b=j:=by rw [he,decide_eq_false h];rfl
  have hu':u12=a12:=by rw [hu,zms,if_neg h]
  subst hb
  subst hu'
  refine zad.step g.lim ?_
  repeat' ((conv=>whnf);first
  | refine Yz ?_
   | (refine In.enter (f:=zb9) g.lim rfl rfl ?_)
   | (refine In.enter (f:=zck) g.lim rfl rfl ?_)
   | (refine zb4.ptr (by decide) ?_)
   | (refine zaf.of hs ?_)
   | (refine zbk.mk ⟨rfl,by decide⟩ ?_)
   | (refine Cmp.ff h ?_)
   | (refine Br.not (fun hb=> ?_) (fun hb=> ?_))
   | (refine(hK _ _).mpr ?_)
   | (refine zad.to (ih (by assumption)) rfl rfl)
   | (refine Ret.mk (hF (by assumption))))
theorem yr8 (a0 a1 a2 a3 a4 a5 a6 a7 a8 a9 a10 a11 a12 a13 u12 u13:List UInt8) (n10 n11 n5 n6 n7 n8 n9:Int) {b j:Bool} {K:Ex->Env->Mem->Prop} {R:V} (hK:∀e m,K .ret e m=zd6 m e [.cell 2 (some 14),.tmp 3,.tmp 4] fun v=>znm m v fun d=>Ret d R) (hs:Fc E zao [S a13] (B j)) (he:b=(decide (a13=[45])||j)) (hu:u13=zms a13) (hF:b=false-> .tup [.d (.agg zp8),I 13,I 25]=R)
  (ih:b=true->zad E ⟨0,1⟩ [2,5,6,7,21] zji zaj (zt7 (zta a0 a1 a2 a3 a4 a5 a6 a7 a8 a9 a10 a11 a12 a13) 14) (zs8 [.d (.str a0),.d (.str a2),.d (.str a1),.d (.str a3),.d (.str u12),.d (.str a4),.d (.str u13),I n5,I n6,I n7,I n8,I n9,I n10,I n11]) K):zad E ⟨0,1⟩ [2,5,6,7,21] zji zaj (zt7 (zta a0 a1 a2 a3 a4 a5 a6 a7 a8 a9 a10 a11 a12 a13) 13) (zs8 [.d (.str a0),.d (.str a2),.d (.str a1),.d (.str a3),.d (.str u12),.d (.str a4),.d (.str []),I n5,I n6,I n7,I n8,I n9,I n10,I n11]) K:=by
 by_cases h:a13=[45]
 ·have hb:b=true:=by rw [he,decide_eq_true h];rfl
  have hu':u13=[]:=by rw [hu,zms,if_pos h]
  subst hb
  subst hu'
  refine zad.step g.lim ?_
  repeat' ((conv=>whnf);first
  | refine Yz ?_
   | (refine In.enter (f:=zb9) g.lim rfl rfl ?_)
   | (refine In.enter (f:=zcl) g.lim rfl rfl ?_)
   | (refine zb4.ptr (by decide) ?_)
   | (refine zbk.mk ⟨rfl,by decide⟩ ?_)
   | (refine Cmp.tt h ?_)
   | (refine Br.not (fun hb=> ?_) (fun hb=> ?_))
   | (refine(hK _ _).mpr ?_)
   | (refine zad.to (ih rfl) rfl rfl)
   | (refine Ret.mk (hF (by assumption))))
 ·have hb:b=j:=by rw [he,decide_eq_false h];rfl
  have hu':u13=a13:=by rw [hu,zms,if_neg h]
  subst hb
  subst hu'
  refine zad.step g.lim ?_
  repeat' ((conv=>whnf);first
  | refine Yz ?_
   | (refine In.enter (f:=zb9) g.lim rfl rfl ?_)
   | (refine In.enter (f:=zcl) g.lim rfl rfl ?_)
   | (refine zb4.ptr (by decide) ?_)
   | (refine zaf.of hs ?_)
   | (refine zbk.mk ⟨rfl,by decide⟩ ?_)
   | (refine Cmp.ff h ?_)
   | (refine Br.not (fun hb=> ?_) (fun hb=> ?_))
   | (refine(hK _ _).mpr ?_)
   | (refine zad.to (ih (by assumption)) rfl rfl)
   | (refine Ret.mk (hF (by assumption))))
theorem z3h (s:List UInt8) (a0 a1 a2 a3 a4 a5 a6 a7 a8 a9 a10 a11 a12 a13 u12 u13:List UInt8) (b0 b1 b2 b3 b4 b5 b6 b7 b8 b9 b10 b11 b12 b13 i12 i13:Bool) (n5 n6 n7 n8 n9 n10 n11 c:Int)
  (sp:Fc E n_strings_Split [S s,S [32]] (.d (.list 14 [.str a0,.str a1,.str a2,.str a3,.str a4,.str a5,.str a6,.str a7,.str a8,.str a9,.str a10,.str a11,.str a12,.str a13])))
  (h0:Fc E zcu [S a0] (B b0)) (h1:Fc E zao [S a1] (B b1)) (h2:Fc E zao [S a2] (B b2)) (h3:Fc E zdk [S a3] (B b3)) (h4:Fc E zao [S a4] (B b4))
  (h5:Fc E zbi [S a5,I 5] (.tup [I n5,B b5])) (h6:Fc E zbi [S a6,I 5] (.tup [I n6,B b6]))
  (h7:Fc E zdj [S a7] (.tup [I n7,I (if b7=true then 0 else 25)])) (h8:Fc E zc4 [S a8] (.tup [I n8,I (if b8=true then 0 else 25)]))
  (h9:Fc E zbi [S a9,I 3] (.tup [I n9,B b9])) (h10:Fc E zbi [S a10,I 1] (.tup [I n10,B b10])) (h11:Fc E zbi [S a11,I 2] (.tup [I n11,B b11]))
  (h12:Fc E zao [S a12] (B i12)) (h13:Fc E zao [S a13] (B i13))
  (e12:b12=(decide (a12=[45])||i12)) (v12:u12=zms a12) (e13:b13=(decide (a13=[45])||i13)) (v13:u13=zms a13)
  (hc:Fc E ze3 [.d (.agg [.str a0,.str a2,.str a1,.str a3,.str u12,.str a4,.str u13,DI n5,DI n6,DI n7,DI n8,DI n9,DI n10,DI n11])] (I c)):Fc E zdr [S s] (yw5 [b0,b1,b2,b3,b4,b5,b6,b7,b8,b9,b10,b11,b12,b13] [.str a0,.str a2,.str a1,.str a3,.str u12,.str a4,.str u13,DI n5,DI n6,DI n7,DI n8,DI n9,DI n10,DI n11] c):=by
 refine g.fn rfl rfl ?_
 repeat' ((conv=>whnf);first
 | refine Yz ?_
  | (refine zaf.of sp ?_)
  | (refine zdo.fields g rfl ?_)
  | (refine zbk.mk ⟨rfl,by decide⟩ ?_))
 refine zad.to (e1:=zt7 (zta a0 a1 a2 a3 a4 a5 a6 a7 a8 a9 a10 a11 a12 a13) 0) (m1:=zs8 [.d (.str []),.d (.str []),.d (.str []),.d (.str []),.d (.str []),.d (.str []),.d (.str []),I 0,I 0,I 0,I 0,I 0,I 0,I 0]) ?_ rfl rfl
 refine yvv g a0 a1 a2 a3 a4 a5 a6 a7 a8 a9 a10 a11 a12 a13 (fun _ _=>rfl) h0 (fun h=>by subst h;rfl) (fun h=> ?_)
 subst h
 refine ywd g a0 a1 a2 a3 a4 a5 a6 a7 a8 a9 a10 a11 a12 a13 (fun _ _=>rfl) h1 (fun h=>by subst h;rfl) (fun h=> ?_)
 subst h
 refine yv8 g a0 a1 a2 a3 a4 a5 a6 a7 a8 a9 a10 a11 a12 a13 (fun _ _=>rfl) h2 (fun h=>by subst h;rfl) (fun h=> ?_)
 subst h
 refine yvs g a0 a1 a2 a3 a4 a5 a6 a7 a8 a9 a10 a11 a12 a13 (fun _ _=>rfl) h3 (fun h=>by subst h;rfl) (fun h=> ?_)
 subst h
 refine yvx g a0 a1 a2 a3 a4 a5 a6 a7 a8 a9 a10 a11 a12 a13 (fun _ _=>rfl) h4 (fun h=>by subst h;rfl) (fun h=> ?_)
 subst h
 refine ywl g a0 a1 a2 a3 a4 a5 a6 a7 a8 a9 a10 a11 a12 a13 n5 (fun _ _=>rfl) h5 (fun h=>by subst h;rfl) (fun h=> ?_)
 subst h
 refine yuo g a0 a1 a2 a3 a4 a5 a6 a7 a8 a9 a10 a11 a12 a13 n5 n6 (fun _ _=>rfl) h6 (fun h=>by subst h;rfl) (fun h=> ?_)
 subst h
 refine yu0 g a0 a1 a2 a3 a4 a5 a6 a7 a8 a9 a10 a11 a12 a13 n5 n6 n7 (fun _ _=>rfl) h7 (fun h=>by subst h;rfl) (fun h=> ?_)
 subst h
 refine yvr g a0 a1 a2 a3 a4 a5 a6 a7 a8 a9 a10 a11 a12 a13 n5 n6 n7 n8 (fun _ _=>rfl) h8 (fun h=>by subst h;rfl) (fun h=> ?_)
 subst h
 refine ywj g a0 a1 a2 a3 a4 a5 a6 a7 a8 a9 a10 a11 a12 a13 n5 n6 n7 n8 n9 (fun _ _=>rfl) h9 (fun h=>by subst h;rfl) (fun h=> ?_)
 subst h
 refine ysa g a0 a1 a2 a3 a4 a5 a6 a7 a8 a9 a10 a11 a12 a13 n10 n5 n6 n7 n8 n9 (fun _ _=>rfl) h10 (fun h=>by subst h;rfl) (fun h=> ?_)
 subst h
 refine yrg g a0 a1 a2 a3 a4 a5 a6 a7 a8 a9 a10 a11 a12 a13 n10 n11 n5 n6 n7 n8 n9 (fun _ _=>rfl) h11 (fun h=>by subst h;rfl) (fun h=> ?_)
 subst h
 refine ysn g a0 a1 a2 a3 a4 a5 a6 a7 a8 a9 a10 a11 a12 a13 u12 n10 n11 n5 n6 n7 n8 n9 (fun _ _=>rfl) h12 e12 v12 (fun h=>by subst h;rfl) (fun h=> ?_)
 subst h
 refine yr8 g a0 a1 a2 a3 a4 a5 a6 a7 a8 a9 a10 a11 a12 a13 u12 u13 n10 n11 n5 n6 n7 n8 n9 (fun _ _=>rfl) h13 e13 v13 (fun h=>by subst h;rfl) (fun h=> ?_)
 subst h
 refine zad.step g.lim ?_
 by_cases hz:c=0
 ·subst hz
  repeat' ((conv=>whnf);first
  | refine Yz ?_
   | (refine zaf.of hc ?_)
   | (refine zbk.mk ⟨rfl,by decide⟩ ?_)
   | (refine Ret.mk rfl))
 ·repeat' ((conv=>whnf);first
 | refine Yz ?_
   | (refine zaf.of hc ?_)
   | (refine Cmp.ff hz ?_)
   | (refine zbk.mk ⟨rfl,by decide⟩ ?_)
   | (refine Ret.mk ?_))
  simp only [yw5,zxw,if_true]
  rw [if_neg hz]
theorem z6w (s:List UInt8) (hs:s.length<=1000000) (w:W14) (hp:parts 32 s=w.list):Fc E zdr [S s] (yqo w):=by
 have sp:=zn3 g s hs
 rw [hp] at sp
 have m7:Fc E zdj [S w.a7] (.tup [I (yv5 w.a7),I (if decide (zlh w.a7)=true then 0 else 25)]):=by
  have:=ybx g w.a7
  unfold yv5
  by_cases h:zlh w.a7
  ·rw [if_pos h] at this;rw [if_pos h,if_pos (decide_eq_true h)];exact this
  ·rw [if_neg h] at this;rw [if_neg h,if_neg (by simpa using h)];exact this
 have m8:Fc E zc4 [S w.a8] (.tup [I (ywk w.a8),I (if decide (ym6 w.a8)=true then 0 else 25)]):=by
  have:=z7k g w.a8
  unfold ywk
  by_cases h:ym6 w.a8
  ·rw [if_pos h,if_pos h] at this;rw [if_pos h,if_pos (decide_eq_true h)];exact this
  ·rw [if_neg h,if_neg h] at this;rw [if_neg h,if_neg (by simpa using h)];exact this
 exact z3h g s w.a0 w.a1 w.a2 w.a3 w.a4 w.a5 w.a6 w.a7 w.a8 w.a9 w.a10 w.a11 w.a12 w.a13 (zms w.a12) (zms w.a13) _ _ _ _ _ _ _ _ _ _ _ _ (yuf w.a12) (yuf w.a13) _ _ _ _ _ _ _ _ _ _
  sp (z5w g w.a0) (zmi g w.a1) (zmi g w.a2) (yge g w.a3) (zmi g w.a4) (zj3 g w.a5 5 (by omega)) (zj3 g w.a6 5 (by omega)) m7 m8 (zj3 g w.a9 3 (by omega)) (zj3 g w.a10 1 (by omega)) (zj3 g w.a11 2 (by omega)) (zmi g w.a12) (zmi g w.a13) rfl rfl rfl rfl (zz0 g w.line)
theorem z3a (s:List UInt8) (hs:s.length<=1000000) (hp:(parts 32 s).length≠14):Fc E zdr [S s] (.tup [.d (.agg zp8),I (if 13<((parts 32 s).length:Int) then 13 else((parts 32 s).length:Int)),I 25]):=by
 refine g.fn rfl rfl ?_
 have sp:=zn3 g s hs
 generalize parts 32 s=l at *
 by_cases h:13<(l.length:Int)
 ·rw [if_pos h]
  repeat' ((conv=>whnf);first
  | refine Yz ?_
   | (apply zaf.of;assumption)
   | (refine Ret.mk ?_))
  rw [if_pos h]
 ·rw [if_neg h]
  repeat' ((conv=>whnf);first
  | refine Yz ?_
   | (apply zaf.of;assumption)
   | (refine Ret.mk ?_))
  rw [if_neg h]
end
theorem yl6 (s:List UInt8):Lib.hasSuffix s [10]=zgx s:=by
 unfold Lib.hasSuffix zgx
 rw [Bool.eq_iff_iff,List.isSuffixOf_iff_suffix,decide_eq_true_eq,List.getLast?_eq_some_iff]
 exact⟨fun⟨t,e⟩=>⟨t,e.symm⟩,fun⟨t,e⟩=>⟨t,e.symm⟩⟩
theorem yop {p:List UInt8} (h:zgx p=true):1<=p.length/\zqd p=p.take (p.length-1):=by
 have e:=yeo h
 constructor
 ·rw [e];simp
 ·unfold zqd
  rw [if_pos h,List.dropLast_eq_take]
section
variable {E : Oracle} (g : Good E)
include g
theorem zsl (p:List UInt8) (hs:p.length<=1000000):Fc E zex [S p,S [10]] (.tup [S (zqd p),B (zgx p)]):=by
 have h0:Fc E n_internal_stringslite_HasSuffix [S p,S [10]] (B (zgx p)):=Fc.extern g.lim (x:=suffixX) rfl (v:=B (zgx p)) (m':=[]) (by simp only [suffixX];rw [if_pos hs,yl6]) rfl
 have h1:Fc E zdn [S p,S [10]] (.tup [S (zqd p),B (zgx p)]):=by
  refine g.fn rfl rfl ?_
  cases hw:zgx p
  ·rw [hw] at h0
   have e:zqd p=p:=by unfold zqd;rw [hw];rfl
   rw [e]
   repeat' ((conv=>whnf);first
   | refine Yz ?_
    | (apply zaf.of;assumption)
    | (refine Ret.mk rfl))
  ·rw [hw] at h0
   obtain⟨hl,e⟩:=yop hw
   have h10:(([10]:List UInt8).length:Int)=1:=rfl
   rw [e]
   repeat' ((conv=>whnf);first
   | refine Yz ?_
    | (apply zaf.of;assumption)
    | (refine zbe.mk (by omega) ?_)
    | (refine Ret.mk ?_))
   simp [win]
 refine g.fn rfl rfl ?_
 repeat' ((conv=>whnf);first
 | refine Yz ?_
  | (apply zaf.of;assumption)
  | (refine Ret.mk rfl))
end
theorem zpq:∀(a r:List UInt8),(10:UInt8)∉a->Lib.indexByte (a++10::r) 10=a.length
 | [],_,_=>rfl
 | c::a,r,h=>by
  have hc:(c==10)=false:=beq_eq_false_iff_ne.2 fun e=>h (by simp [e])
  have ih:=zpq a r fun hm=>h (by simp [hm])
  simp only [List.cons_append,Lib.indexByte,hc,ih,List.length_cons]
  rw [if_neg (by decide),if_neg (by simp)]
  omega
theorem zpx:∀(a:List UInt8),(10:UInt8)∉a->Lib.indexByte a 10= -1
 | [],_=>rfl
 | c::a,h=>by
  have hc:(c==10)=false:=beq_eq_false_iff_ne.2 fun e=>h (by simp [e])
  have ih:=zpx a fun hm=>h (by simp [hm])
  simp only [Lib.indexByte,hc,ih]
  rfl
theorem ykb (p:List UInt8):(zqd p).length<=p.length:=by
 unfold zqd
 split
 ·simp
 ·exact Nat.le_refl _
theorem ynp {p:List UInt8} (h:zgx p=false):zq3 p=none:=by
 unfold zq3
 split
 ·rw [if_neg (by rw [h];simp)]
 ·rfl
theorem yj2 {p:List UInt8} (h:(parts 32 (zqd p)).length≠5):zq3 p=none:=by
 unfold zq3
 split
 ·rename_i e;rw [e] at h;exact absurd rfl h
 ·rfl
theorem z4w {p w0 w1 w2 w3 w4:List UInt8} (h:parts 32 (zqd p)=[w0,w1,w2,w3,w4]):zq3 p=if zgx p=true/\w0=yh8/\yba w1=true/\z27 w4 5=true/\ztm w2 w3 (zl2 0 w4)=0 then some ⟨w1,w2,w3,zl2 0 w4,[]⟩ else none:=by
 unfold zq3
 rw [h]
theorem yu6 {l:List (List UInt8)} (h:l.length=5):∃a b c d e,l=[a,b,c,d,e]:=by
 match l,h with
 | [a,b,c,d,e],_=>exact⟨a,b,c,d,e,rfl⟩
section
variable {E : Oracle} (g : Good E)
include g
theorem ztk (s:List UInt8):Fc E zib [S s,.d (.int .u8 10)] (I (Lib.indexByte s 10)):=by
 have h0:Fc E n_internal_stringslite_IndexByte [S s,.d (.int .u8 10)] (I (Lib.indexByte s 10)):=Fc.extern g.lim (x:=indexByteX) rfl (v:=I (Lib.indexByte s 10)) (m':=[]) rfl rfl
 refine g.fn rfl rfl ?_
 repeat' ((conv=>whnf);first
 | refine Yz ?_
  | (apply zaf.of;assumption)
  | (refine Ret.mk rfl))
theorem ytz (s:List UInt8) (hs:s.length<=1000000):∃i:Int,Fc E zdr [S s] (.tup [Lnv (zyd s).1,I i,I (zyd s).2]):=by
 unfold zyd
 cases hw:yhs (parts 32 s) with
 | none=>exact⟨_,z3a g s hs (yhg hw)⟩
 | some w=>
  have h:=z6w g s hs w (yif hw)
  unfold yqo yw5 at h
  simp only
  unfold yp2
  split at h
  ·rename_i hf
   rw [if_pos hf]
   split at h
   ·rename_i hc;rw [if_pos hc];exact⟨_,h⟩
   ·rename_i hc;rw [if_neg hc];exact⟨_,h⟩
  ·rename_i hf
   rw [if_neg hf]
   exact⟨_,h⟩
theorem ysu (s:List UInt8):In E 0 zhf [S s] [] fun v m'=>v= .fn zdu [] [.ptr ⟨0,1,0⟩ 0 0]/\m'=[(⟨0,1,0⟩,.cells zb3 [S s])]:=by
 refine In.enter (f:=zhf) g.lim rfl rfl ?_
 repeat' ((conv=>whnf);first
 | refine Yz ?_
  | (exact⟨rfl,rfl⟩))
theorem zdo.texts {s:List UInt8} {cx:Cx} {slot:Nat} {m:Mem} {K:V->Mem->Prop} (hf:Go.Evl.freeK cx.lv slot m=0) (h:K (.fn zdu [] [.ptr ⟨cx.lv,slot,0⟩ 0 0]) (m++[(⟨cx.lv,slot,0⟩,.cells zb3 [S s])])):zdo E zhf [S s] cx slot m K:=by
 obtain⟨v,m',h1,rfl,rfl⟩:=(ysu g s).got
 refine⟨_,_,(.fn zdu [] [.ptr ⟨cx.lv,slot,0⟩ 0 0],m++[(⟨cx.lv,slot,0⟩,.cells zb3 [S s])]),h1,?_,h⟩
 unfold Go.Evl.settle
 rw [hf]
 rfl
def yrb (v:V) (m':Mem) (site:Nat) (h:Mst) (b:Bool):Prop:=v= .tup [.agg [S h.ki,S h.ai,S h.se,I h.da,.ref ⟨0,site,0⟩ 0 0 0],B b]/\m'=[(⟨0,2,0⟩,.row false zag 14 0 []),(⟨0,2,1⟩,.cells zae [S h.ki,S h.ai,S h.se,I h.da,.ref ⟨0,site,0⟩ 0 0 0]),(⟨0,site,0⟩,.row false zag 14 0 [])]
theorem ybt (p:List UInt8) (hs:p.length<=1000000) (hn:zq3 p=none):∃h:Mst,In E 0 zcf [S p] [] fun v m'=>yrb v m' 36 h false\/yrb v m' 54 h false:=by
 have hcut:=zsl g p hs
 have hsp:=zn3 g (zqd p) (Nat.le_trans (ykb p) hs)
 cases hw:zgx p
 ·rw [hw] at hcut
  refine⟨zhs,In.enter (f:=zcf) g.lim rfl rfl ?_⟩
  repeat' ((conv=>whnf);first
  | refine Yz ?_
   | (apply zaf.of;assumption)
   | (refine Cmp.tt (by simp only [List.length_cons,List.length_nil];omega) ?_)|(refine Cmp.ff (by simp only [List.length_cons,List.length_nil];omega) ?_)
   | (exact .inl ⟨rfl,rfl⟩))
 ·rw [hw] at hcut
  by_cases hl:(parts 32 (zqd p)).length=5
  ·obtain⟨w0,w1,w2,w3,w4,he⟩:=yu6 hl
   rw [z4w he,hw] at hn
   rw [he] at hsp
   by_cases h0:w0=yh8
   ·have hm:=zrq g w1
    cases hm1:yba w1
    ·rw [hm1] at hm
     refine⟨zhs,In.enter (f:=zcf) g.lim rfl rfl ?_⟩
     repeat' ((conv=>whnf);first
     | refine Yz ?_
      | (apply zaf.of;assumption)
      | (refine Cmp.tt (by simp only [List.length_cons,List.length_nil];omega) ?_)|(refine Cmp.ff (by simp only [List.length_cons,List.length_nil];omega) ?_)
      | (refine Cmp.tt h0 ?_)
      | (exact .inl ⟨rfl,rfl⟩))
    ·rw [hm1] at hm
     have hnum:=zj3 g w4 5 (by omega)
     cases hn1:z27 w4 5
     ·rw [hn1] at hnum
      refine⟨⟨w1,w2,w3,0,[]⟩,In.enter (f:=zcf) g.lim rfl rfl ?_⟩
      repeat' ((conv=>whnf);first
      | refine Yz ?_
       | (apply zaf.of;assumption)
       | (refine Cmp.tt (by simp only [List.length_cons,List.length_nil];omega) ?_)|(refine Cmp.ff (by simp only [List.length_cons,List.length_nil];omega) ?_)
       | (refine Cmp.tt h0 ?_)
       | (exact .inr ⟨rfl,rfl⟩))
     ·rw [hn1] at hnum
      have hd:=zrr g w2 w3 (zl2 0 w4)
      have hz:ztm w2 w3 (zl2 0 w4)≠0:=fun h=>by
       rw [if_pos ⟨rfl,h0,hm1,hn1,h⟩] at hn
       cases hn
      refine⟨⟨w1,w2,w3,zl2 0 w4,[]⟩,In.enter (f:=zcf) g.lim rfl rfl ?_⟩
      repeat' ((conv=>whnf);first
      | refine Yz ?_
       | (apply zaf.of;assumption)
       | (refine Cmp.tt (by simp only [List.length_cons,List.length_nil];omega) ?_)|(refine Cmp.ff (by simp only [List.length_cons,List.length_nil];omega) ?_)
       | (refine Cmp.tt h0 ?_)
       | (refine Cmp.ff hz ?_)
       | (exact .inr ⟨rfl,rfl⟩))
   ·refine⟨zhs,In.enter (f:=zcf) g.lim rfl rfl ?_⟩
    repeat' ((conv=>whnf);first
    | refine Yz ?_
     | (apply zaf.of;assumption)
     | (refine Cmp.tt (by simp only [List.length_cons,List.length_nil];omega) ?_)|(refine Cmp.ff (by simp only [List.length_cons,List.length_nil];omega) ?_)
     | (refine Cmp.ff h0 ?_)
     | (exact .inl ⟨rfl,rfl⟩))
  ·refine⟨zhs,In.enter (f:=zcf) g.lim rfl rfl ?_⟩
   repeat' ((conv=>whnf);first
   | refine Yz ?_
    | (apply zaf.of;assumption)
    | (refine Cmp.tt (by simp only [List.length_cons,List.length_nil];omega) ?_)|(refine Cmp.ff (by simp only [List.length_cons,List.length_nil];omega) ?_)
    | (exact .inl ⟨rfl,rfl⟩))
theorem ych (p:List UInt8) (hs:p.length<=1000000) (h:Mst) (hn:zq3 p=some h):In E 0 zcf [S p] [] fun v m'=>yrb v m' 54 h true:=by
 have hcut:=zsl g p hs
 have hsp:=zn3 g (zqd p) (Nat.le_trans (ykb p) hs)
 have hl:(parts 32 (zqd p)).length=5:=Decidable.byContradiction fun hc=>by rw [yj2 hc] at hn;cases hn
 obtain⟨w0,w1,w2,w3,w4,he⟩:=yu6 hl
 rw [z4w he] at hn
 split at hn
 ·rename_i hc
  obtain⟨hw,h0,hm1,hn1,hz⟩:=hc
  obtain rfl:=Option.some.inj hn
  rw [hw] at hcut
  rw [he] at hsp
  have hm:=zrq g w1
  rw [hm1] at hm
  have hnum:=zj3 g w4 5 (by omega)
  rw [hn1] at hnum
  have hd:=zrr g w2 w3 (zl2 0 w4)
  refine In.enter (f:=zcf) g.lim rfl rfl ?_
  repeat' ((conv=>whnf);first
  | refine Yz ?_
   | (apply zaf.of;assumption)
   | (refine Cmp.tt (by simp only [List.length_cons,List.length_nil];omega) ?_)|(refine Cmp.ff (by simp only [List.length_cons,List.length_nil];omega) ?_)
   | (refine Cmp.tt h0 ?_)
   | (refine Cmp.tt hz ?_)
   | (exact⟨rfl,rfl⟩))
 ·cases hn
theorem zdo.head_none {p:List UInt8} (hs:p.length<=1000000) (hn:zq3 p=none) {cx:Cx} {slot:Nat} {m:Mem} {K:V->Mem->Prop} (hf:Go.Evl.freeK cx.lv slot m=0) (k:∀h:Mst,K (.tup [.agg [S h.ki,S h.ai,S h.se,I h.da,.ref ⟨cx.lv,slot,0⟩ 0 0 0],B false]) (m++[(⟨cx.lv,slot,0⟩,.row false zag 14 0 [])])):zdo E zcf [S p] cx slot m K:=by
 obtain⟨h,hh⟩:=ybt g p hs hn
 obtain⟨v,m',h1,h2⟩:=hh.got
 rcases h2 with⟨rfl,rfl⟩|⟨rfl,rfl⟩
 all_goals
  refine⟨_,_,(.tup [.agg [S h.ki,S h.ai,S h.se,I h.da,.ref ⟨cx.lv,slot,0⟩ 0 0 0],B false],m++[(⟨cx.lv,slot,0⟩,.row false zag 14 0 [])]),h1,?_,k h⟩
  unfold Go.Evl.settle
  rw [hf]
  rfl
theorem zdo.head_some {p:List UInt8} (hs:p.length<=1000000) {h:Mst} (hn:zq3 p=some h) {cx:Cx} {slot:Nat} {m:Mem} {K:V->Mem->Prop} (hf:Go.Evl.freeK cx.lv slot m=0) (k:K (.tup [.agg [S h.ki,S h.ai,S h.se,I h.da,.ref ⟨cx.lv,slot,0⟩ 0 0 0],B true]) (m++[(⟨cx.lv,slot,0⟩,.row false zag 14 0 [])])):zdo E zcf [S p] cx slot m K:=by
 obtain⟨v,m',h1,rfl,rfl⟩:=(ych g p hs h hn).got
 refine⟨_,_,(.tup [.agg [S h.ki,S h.ai,S h.se,I h.da,.ref ⟨cx.lv,slot,0⟩ 0 0 0],B true],m++[(⟨cx.lv,slot,0⟩,.row false zag 14 0 [])]),h1,?_,k⟩
 unfold Go.Evl.settle
 rw [hf]
 rfl
end
open Go Go.Evl
theorem zj7 (a r:List UInt8):win (a++10::r) 0 (a.length+1-0)=a++[10]:=by
 unfold win
 rw [List.drop_zero,Nat.sub_zero,show a++10::r=(a++[10])++r by simp,List.take_append_of_le_length (by simp),List.take_of_length_le (by simp)]
theorem zj5 (a r:List UInt8):win (a++10::r) (a.length+1) ((a++10::r).length-(a.length+1))=r:=by
 unfold win
 rw [show a++10::r=(a++[10])++r by simp,List.drop_left' (by simp),List.take_of_length_le (by simp;omega)]
theorem yll (s:List UInt8):win s 0 (s.length-0)=s:=by simp [win]
theorem zad.two {σ:Type} {E:Oracle} (g:Good E) {cx:Cx} {live:List Nat} {keep:List Evl.Id} {body:C} {K:Ex->Env->Mem->Prop} {e0:Env} {m0:Mem} (inv:σ->Prop) (env:σ->Env) (mem:σ->Mem) (μ:σ->Nat)
  (h:∀s,inv s->(∀s',inv s'->μ s'<μ s->zad E cx live keep body (env s') (mem s') K)->wpC E cx body (env s) (mem s) (z2n E cx live keep body K))
  (first :(∀s,inv s->zad E cx live keep body (env s) (mem s) K)->zad E cx live keep body e0 m0 K):zad E cx live keep body e0 m0 K:=first (zad.by g inv env mem μ h)
theorem yb3 {m:Mst} {i:Nat} {p:List UInt8} {r:List (List UInt8)} (h:zgx p=false):zjo m i (p::r)=(zhs,i,25):=by
 rw [zjo,if_pos h]
theorem ybi {m:Mst} {i:Nat} {a w0:List UInt8} {wr r:List (List UInt8)} (hp:parts 32 a=w0::wr) (h0:w0≠z71):zjo m i ((a++[10])::r)=if(zyd a).2≠0 then(zhs,i,(zyd a).2) else if 64<=m.ls.length then(zhs,i,5) else zjo {m with ls:=m.ls++[(zyd a).1]} (i+1) r:=by
 rw [zjo,(zfy _).1,(zfy _).2,if_neg (by decide),hp,if_pos (by simpa using h0)]
theorem yh0 {m:Mst} {i:Nat} {a:List UInt8} {wr r:List (List UInt8)} (hp:parts 32 a=z71::wr) (hl:wr.length≠1):zjo m i ((a++[10])::r)=(zhs,i,25):=by
 rw [zjo,(zfy _).1,(zfy _).2,if_neg (by decide),hp,if_neg (by simp)]
 match wr,hl with
 | [],_=>rfl
 | _::_::_,_=>rfl
def z4i (a:Mst) (i:Nat) (s:List UInt8):Mst×Nat×Int:=
 if s≠[] then(zhs,i,25) else if(zfs a.ki none 0 a.ls).2≠0 then(zhs,(zfs a.ki none 0 a.ls).1+1,(zfs a.ki none 0 a.ls).2) else(a,0,0)
theorem yik {m:Mst} {i:Nat} {a x s:List UInt8} (hp:parts 32 a=[z71,x]):zjo m i ((a++[10])::pcs s)=if z27 x 2=false then(zhs,i,25) else if zl2 0 x≠m.ls.length then(zhs,i,27) else z4i m (i+1) s:=by
 rw [zjo,(zfy _).1,(zfy _).2,if_neg (by decide),hp,if_neg (by simp)]
 unfold z4i
 by_cases hs:s=[]
 ·subst hs;simp [z6c]
 ·have:=yka hs
  simp only [hs,this,ne_eq,not_false_eq_true,if_true]
structure PSt where
 a:Mst
 i:Nat
 s:List UInt8
 ov:Bool
def PSt.res (st:PSt):Mst×Nat×Int:=if st.ov then z4i st.a st.i st.s else zjo st.a st.i (pcs st.s)
structure PSt.Inv (s0:List UInt8) (st:PSt):Prop where
 ln:st.a.ls.length<=64
 pos:1<=st.i
 len:st.i+st.s.length<=s0.length
 res:st.res=zkw s0
theorem z8c (kind:List UInt8):∀(ls:List Lnt) (p:Option Lnt) (i:Nat),(zfs kind p i ls).1<=i+ls.length
 | [],p,i=>by
  simp only [zfs]
  split<;>simp
 | x::r,p,i=>by
  simp only [zfs]
  split
  ·have:=z8c kind r (some x) (i+1)
   simp only [List.length_cons]
   omega
  ·simp
theorem yom (kind:List UInt8) (ls:List Lnt):(zfs kind none 0 ls).1<=ls.length:=by
 have:=z8c kind ls none 0
 omega
theorem ylr {α:Type} (x:α) (l:List α):∃y,(x::l)[l.length]? =some y:=⟨_,List.getElem?_eq_getElem (by simp)⟩
section
variable {E : Oracle} (g : Good E)
include g
theorem z29 (s0:List UInt8) (hs0:s0.length<=1000000):Fc E zgs [S s0] (.tup [Msv (zkw s0).1,I ((zkw s0).2.1:Nat),I (zkw s0).2.2]):=by
 refine g.fn rfl rfl ?_
 by_cases hl0:16384<s0.length
 ·have hp:zkw s0=(zhs,0,26):=by unfold zkw;rw [if_pos hl0]
  rw [hp]
  repeat' ((conv=>whnf);first
  | refine Yz ?_
   | (refine Ret.mk rfl))
 ·repeat' ((conv=>whnf);first
 | refine Yz ?_
   | (refine zdo.texts g rfl ?_)
   | (refine In.enter (f:=zdu) g.lim rfl rfl ?_))
  refine zad.two g (PSt.Inv s0)
   (fun st=>[(0,.yld ⟨0,141,0⟩),(1,.ptr ⟨0,28,0⟩ 0 0),(3,I st.i)])
   (fun st=>[(⟨0,2,0⟩,.row false zag 14 0 []),(⟨0,2,1⟩,.cells zae [S [],S [],S [],I 0,.ref ⟨0,2,0⟩ 0 0 0]),(⟨0,3,0⟩,.cells zam [I 0]),(⟨0,4,0⟩,.cells zxv [I 0]),(⟨0,5,0⟩,.row false zag 14 0 []),(⟨0,5,1⟩,.cells zae [S st.a.ki,S st.a.ai,S st.a.se,I st.a.da,.ref ⟨0,76,0⟩ 0 st.a.ls.length st.a.ls.length]),(⟨0,6,0⟩,.cells zam [I st.i]),(⟨0,7,0⟩,.cells zv6 [B st.ov]),(⟨0,28,0⟩,.cells zb3 [S st.s]),(⟨0,141,0⟩,.loop [(2,.ptr ⟨0,2,1⟩ 0 0),(3,.ptr ⟨0,3,0⟩ 0 0),(4,.ptr ⟨0,4,0⟩ 0 0),(25,B false),(5,.ptr ⟨0,5,1⟩ 0 0),(6,.ptr ⟨0,6,0⟩ 0 0),(7,.ptr ⟨0,7,0⟩ 0 0),(28,.fn zdu [] [.ptr ⟨0,28,0⟩ 0 0])] [29,30] zio zil 0 false false none),(⟨0,76,0⟩,.row false zag 14 st.a.ls.length (st.a.ls.flatMap Lnt.cells))])
   (fun st=>st.s.length) ?_ ?_
  ·rintro⟨⟨ki,ai,se,da,ls⟩,i,s,ov⟩ ⟨i1,i2,i3,i4⟩ ih
   simp only [PSt.res] at i1 i2 i3 i4 ih
   dsimp only
   by_cases hs:s=[]
   ·subst hs
    cases ov
    ·rw [if_neg (by decide),z6c,zjo] at i4
     rw [<-i4]
     repeat' ((conv=>whnf);first
     | refine Yz ?_
      | (refine zbk.mk ⟨rfl,by simp⟩ ?_)
      | (refine Ret.mk rfl))
    ·rw [if_pos rfl,z4i,if_neg (by simp)] at i4
     have hcl:∀ {n:Nat} {cs:List D},n=ls.length->cs=ls.flatMap Lnt.cells->Fc E zei [S ki,.d (.list n cs)] (.tup [I ((zfs ki none 0 ls).1:Nat),I (zfs ki none 0 ls).2]):=by
      rintro _ _ rfl rfl
      exact zxq g ki ls (by omega)
     by_cases hc:(zfs ki none 0 ls).2=0
     ·rw [if_neg (by simp [hc])] at i4
      rw [<-i4]
      generalize zfs ki none 0 ls=c at *
      repeat' ((conv=>whnf);first
      | refine Yz ?_
       | (refine zbk.mk ⟨rfl,by simp⟩ ?_)
       | (refine zaf.of (hcl rfl (by simp)) ?_)
       | (refine Cmp.tt hc ?_)
       | (refine Ret.mk ?_))
      rw [if_pos ⟨rfl,rfl⟩]
      rfl
     ·rw [if_pos hc] at i4
      rw [<-i4]
      have hb:=yom ki ls
      generalize zfs ki none 0 ls=c at *
      repeat' ((conv=>whnf);first
      | refine Yz ?_
       | (refine zbk.mk ⟨rfl,by simp⟩ ?_)
       | (refine zaf.of (hcl rfl (by simp)) ?_)
       | (refine Cmp.ff hc ?_)
       | (refine Ret.mk rfl))
   ·rcases z9n s hs with⟨hn,hp⟩|⟨a,r,hn,rfl,hp⟩
    ·have hw:zgx s=false:=decide_eq_false fun e=>by
      obtain⟨t,e⟩:=List.getLast?_eq_some_iff.1 e
      exact hn (by rw [e];simp)
     have he:zqd s=s:=by unfold zqd;rw [hw];rfl
     have hv:zkw s0=(zhs,i,25):=by
      rw [<-i4]
      cases ov
      ·rw [if_neg (by decide),hp,yb3 hw]
      ·rw [if_pos rfl,z4i,if_pos hs]
     rw [hv]
     have hx:=ztk g s
     rw [zpx s hn] at hx
     have hcut:=zsl g s (by omega)
     rw [hw,he] at hcut
     have hsp:=zn3 g s (by omega)
     have hpos:s.length≠0:=fun e=>hs (List.length_eq_zero_iff.1 e)
     repeat' ((conv=>whnf);first
     | refine Yz ?_
      | (refine zbk.mk ⟨rfl,by simp⟩ ?_)
      | (apply zaf.of;assumption)
      | (refine Rnd.enter g.lim ?_)
      | (refine zbe.at 0 s.length (by omega) (by omega) (by omega) ?_<;>(try dsimp only)<;>(rw [yll]))
      | (refine Cmp.ff hs ?_)
      | (refine Ret.mk rfl))
    ·have hlen:(a++10::r).length=a.length+(r.length+1):=by simp
     have hx:=ztk g (a++10::r)
     rw [zpq a r hn] at hx
     have hcut:=zsl g (a++[10]) (by simp;omega)
     rw [(zfy _).1,(zfy _).2] at hcut
     have hsp:=zn3 g a (by omega)
     cases ov
     ·rw [if_neg (by decide),hp] at i4
      cases hpa:parts 32 a with
      | nil=>exact absurd hpa (zvf 32 a)
      | cons w0 wr=>
       rw [hpa] at hsp
       by_cases h0:w0=z71
       ·subst h0
        by_cases hwr:wr.length=1
        ·obtain⟨x,rfl⟩:=List.length_eq_one_iff.1 hwr
         rw [yik hpa] at i4
         have hnum:=zj3 g x 2 (by omega)
         have h2l:(([z71,x]:List (List UInt8)).length:Int)=2:=rfl
         cases hnb:z27 x 2
         ·rw [hnb] at hnum i4
          rw [if_pos rfl] at i4
          rw [<-i4]
          repeat' ((conv=>whnf);first
          | refine Yz ?_
           | (refine zbk.mk ⟨rfl,by simp⟩ ?_)
           | (apply zaf.of;assumption)
           | (refine Rnd.enter g.lim ?_)
           | (refine zbe.at 0 (a.length+1) (by omega) (by omega) (by omega) ?_<;>(try dsimp only)<;>(rw [zj7]))
           | (refine zbe.at (a.length+1) (a++10::r).length (by omega) (by omega) (by omega) ?_<;>(try dsimp only)<;>(rw [zj5]))
           | (refine Cmp.ff hs ?_)
           | (refine zaf.of (zbr g _ _) ?_)
           | (refine zaf.of (zc0 g _ _) ?_)
           | (refine zcj.now rfl ?_)
           | (refine Ret.mk rfl)
           | (refine Cmp.tt (by simp only [List.length_cons,List.length_nil];omega) ?_)|(refine Cmp.ff (by simp only [List.length_cons,List.length_nil];omega) ?_)
           | (refine Cmp.mk (fun h=> ?_) (fun h=> ?_))|(refine Rem.any (by omega) (fun r hr he=> ?_))|(refine Br.mk (fun h=> ?_) (fun h=> ?_))
           | (exfalso;omega))
         ·rw [hnb] at hnum i4
          rw [if_neg (by decide)] at i4
          by_cases hcn:zl2 0 x=ls.length
          ·rw [if_neg (by simpa using hcn)] at i4
           have ih:=ih ⟨⟨ki,ai,se,da,ls⟩,i+1,r,true⟩ ⟨i1,by simp only;omega,by simp only;omega,i4⟩ (by simp only;omega)
           repeat' ((conv=>whnf);first
           | refine Yz ?_
            | (refine zbk.mk ⟨rfl,by simp⟩ ?_)
            | (apply zaf.of;assumption)
            | (refine Rnd.enter g.lim ?_)
            | (refine zbe.at 0 (a.length+1) (by omega) (by omega) (by omega) ?_<;>(try dsimp only)<;>(rw [zj7]))
            | (refine zbe.at (a.length+1) (a++10::r).length (by omega) (by omega) (by omega) ?_<;>(try dsimp only)<;>(rw [zj5]))
            | (refine Cmp.ff hs ?_)
            | (refine Cmp.tt hcn ?_)
            | (refine zaf.of (zbr g _ _) ?_)
            | (refine zaf.of (zc0 g _ _) ?_)
            | (refine zcj.now rfl ?_)
            | (refine zad.to ih rfl rfl)
            | (refine Cmp.tt (by simp only [List.length_cons,List.length_nil];omega) ?_)|(refine Cmp.ff (by simp only [List.length_cons,List.length_nil];omega) ?_)
            | (exfalso;omega))
          ·rw [if_pos (by simpa using hcn)] at i4
           rw [<-i4]
           repeat' ((conv=>whnf);first
           | refine Yz ?_
            | (refine zbk.mk ⟨rfl,by simp⟩ ?_)
            | (apply zaf.of;assumption)
            | (refine Rnd.enter g.lim ?_)
            | (refine zbe.at 0 (a.length+1) (by omega) (by omega) (by omega) ?_<;>(try dsimp only)<;>(rw [zj7]))
            | (refine zbe.at (a.length+1) (a++10::r).length (by omega) (by omega) (by omega) ?_<;>(try dsimp only)<;>(rw [zj5]))
            | (refine Cmp.ff hs ?_)
            | (refine Cmp.ff hcn ?_)
            | (refine zaf.of (zbr g _ _) ?_)
            | (refine zaf.of (zc0 g _ _) ?_)
            | (refine zcj.now rfl ?_)
            | (refine Ret.mk rfl)
            | (refine Cmp.tt (by simp only [List.length_cons,List.length_nil];omega) ?_)|(refine Cmp.ff (by simp only [List.length_cons,List.length_nil];omega) ?_)
            | (exfalso;omega))
        ·rw [yh0 hpa hwr] at i4
         rw [<-i4]
         obtain⟨y,hy⟩:=ylr (z71) wr
         have hnum:=zj3 g y 2 (by omega)
         have hpk:((z71::wr).map D.str)[(((z71::wr).length:Int)-1).toNat*1]? =some (.str y):=by
          rw [show (((z71::wr).length:Int)-1).toNat*1=wr.length by simp only [List.length_cons];omega,List.getElem?_map,hy];rfl
         have hl2:¬(((z71::wr).length:Int)=2):=by simp only [List.length_cons];omega
         have hl3:(z71::wr).length=wr.length+1:=rfl
         have hl4:(z71::wr).length<=a.length+1:=by rw [<-hpa];exact z22 32 a
         repeat' ((conv=>whnf);first
         | refine Yz ?_
          | (refine zbk.mk ⟨rfl,by simp⟩ ?_)
          | (apply zaf.of;assumption)
          | (refine Rnd.enter g.lim ?_)
          | (refine zbe.at 0 (a.length+1) (by omega) (by omega) (by omega) ?_<;>(try dsimp only)<;>(rw [zj7]))
          | (refine zbe.at (a.length+1) (a++10::r).length (by omega) (by omega) (by omega) ?_<;>(try dsimp only)<;>(rw [zj5]))
          | (refine Cmp.ff hs ?_)
          | (refine Cmp.ff hl2 ?_)
          | (refine zaf.of (zbr g _ _) ?_)
          | (refine zaf.of (zc0 g _ _) ?_)
          | (refine zcj.now hpk ?_)
          | (refine zcj.now rfl ?_)
          | (refine Cmp.mk (fun h=> ?_) (fun h=> ?_))|(refine Rem.any (by omega) (fun r hr he=> ?_))|(refine Br.mk (fun h=> ?_) (fun h=> ?_))
          | (refine Ret.mk rfl))
       ·rw [ybi hpa h0] at i4
        obtain⟨j,hpl⟩:=ytz g a (by omega)
        generalize zyd a=q at *
        obtain⟨x,e⟩:=q
        simp only at hpl i4
        by_cases he:e=0
        ·subst he
         rw [if_neg (by simp)] at i4
         by_cases h64:64<=ls.length
         ·rw [if_pos h64] at i4
          rw [<-i4]
          repeat' ((conv=>whnf);first
          | refine Yz ?_
           | (refine zbk.mk ⟨rfl,by simp⟩ ?_)
           | (apply zaf.of;assumption)
           | (refine Rnd.enter g.lim ?_)
           | (refine zbe.at 0 (a.length+1) (by omega) (by omega) (by omega) ?_<;>(try dsimp only)<;>(rw [zj7]))
           | (refine zbe.at (a.length+1) (a++10::r).length (by omega) (by omega) (by omega) ?_<;>(try dsimp only)<;>(rw [zj5]))
           | (refine Cmp.ff hs ?_)
           | (refine Cmp.ff h0 ?_)
           | (refine zaf.of (zbr g _ _) ?_)
           | (refine zaf.of (zc0 g _ _) ?_)
           | (refine zcj.now rfl ?_)
           | (refine Ret.mk rfl))
         ·rw [if_neg h64] at i4
          have ih:=ih ⟨⟨ki,ai,se,da,ls++[x]⟩,i+1,r,false⟩ ⟨by simp;omega,by simp only;omega,by simp only;omega,i4⟩ (by simp only;omega)
          have e1:(ls++[x]).length=ls.length+1:=by simp
          have e2:(ls++[x]).flatMap Lnt.cells=ls.flatMap Lnt.cells++x.cells:=by simp
          dsimp only at ih
          rw [e1,e2] at ih
          have hfl:=za2 Lnt.cells 14 Lnt.cells_length ls
          repeat' ((conv=>whnf);first
          | refine Yz ?_
           | (refine zbk.mk ⟨rfl,by simp⟩ ?_)
           | (apply zaf.of;assumption)
           | (refine Rnd.enter g.lim ?_)
           | (refine zbe.at 0 (a.length+1) (by omega) (by omega) (by omega) ?_<;>(try dsimp only)<;>(rw [zj7]))
           | (refine zbe.at (a.length+1) (a++10::r).length (by omega) (by omega) (by omega) ?_<;>(try dsimp only)<;>(rw [zj5]))
           | (refine Cmp.ff hs ?_)
           | (refine Cmp.ff h0 ?_)
           | (refine zaf.of (zbr g _ _) ?_)
           | (refine zaf.of (zc0 g _ _) ?_)
           | (refine zcj.now rfl ?_)
           | (refine zbk.mk (by simp;omega) ?_)
           | (refine zad.to ih rfl rfl))
        ·rw [if_pos he] at i4
         rw [<-i4]
         have hne:∀z,zap [e,z]=e:=fun z=>by simp [zap,he]
         have hfst:∀z,Fc E zbj [.d (.list 2 [DI e,DI z])] (I e):=fun z=>by
          have:=zc0 g e z
          rw [hne] at this
          exact this
         repeat' ((conv=>whnf);first
         | refine Yz ?_
          | (refine zbk.mk ⟨rfl,by simp⟩ ?_)
          | (apply zaf.of;assumption)
          | (refine Rnd.enter g.lim ?_)
          | (refine zbe.at 0 (a.length+1) (by omega) (by omega) (by omega) ?_<;>(try dsimp only)<;>(rw [zj7]))
          | (refine zbe.at (a.length+1) (a++10::r).length (by omega) (by omega) (by omega) ?_<;>(try dsimp only)<;>(rw [zj5]))
          | (refine Cmp.ff hs ?_)
          | (refine Cmp.ff h0 ?_)
          | (refine zaf.of (zbr g _ _) ?_)
          | (refine zaf.of (hfst _) ?_)
          | (refine zcj.now rfl ?_)
          | (refine Cmp.ff he ?_)
          | (refine Cmp.mk (fun h=> ?_) (fun h=> ?_))|(refine Rem.any (by omega) (fun r hr he=> ?_))|(refine Br.mk (fun h=> ?_) (fun h=> ?_))
          | (refine Ret.mk rfl))
     ·rw [if_pos rfl,z4i,if_pos hs] at i4
      rw [<-i4]
      repeat' ((conv=>whnf);first
      | refine Yz ?_
       | (refine zbk.mk ⟨rfl,by simp⟩ ?_)
       | (apply zaf.of;assumption)
       | (refine Rnd.enter g.lim ?_)
       | (refine zbe.at 0 (a.length+1) (by omega) (by omega) (by omega) ?_<;>(try dsimp only)<;>(rw [zj7]))
       | (refine zbe.at (a.length+1) (a++10::r).length (by omega) (by omega) (by omega) ?_<;>(try dsimp only)<;>(rw [zj5]))
       | (refine Cmp.ff hs ?_)
       | (refine Ret.mk rfl))
  ·intro main
   refine zad.step g.lim ?_
   by_cases hs:s0=[]
   ·subst hs
    have hp:zkw []=(zhs,0,28):=rfl
    rw [hp]
    repeat' ((conv=>whnf);first
    | refine Yz ?_
     | (refine zbk.mk ⟨rfl,by simp⟩ ?_)
     | (refine Ret.mk rfl))
   ·rcases z9n s0 hs with⟨hn,hp⟩|⟨a,r,hn,rfl,hp⟩
    ·have hw:zgx s0=false:=decide_eq_false fun e=>by
      obtain⟨t,e⟩:=List.getLast?_eq_some_iff.1 e
      exact hn (by rw [e];simp)
     have he:zqd s0=s0:=by unfold zqd;rw [hw];rfl
     have hh:=ynp hw
     have hv:zkw s0=(zhs,0,25):=by
      unfold zkw
      rw [if_neg hl0,hp]
      simp only [hh]
     rw [hv]
     have hx:=ztk g s0
     rw [zpx s0 hn] at hx
     have hcut:=zsl g s0 (by omega)
     rw [hw,he] at hcut
     have hsp:=zn3 g s0 (by omega)
     have hpos:s0.length≠0:=fun e=>hs (List.length_eq_zero_iff.1 e)
     repeat' ((conv=>whnf);first
     | refine Yz ?_
      | (refine zbk.mk ⟨rfl,by simp⟩ ?_)
      | (apply zaf.of;assumption)
      | (refine Rnd.enter g.lim ?_)
      | (refine zbe.at 0 s0.length (by omega) (by omega) (by omega) ?_<;>(try dsimp only)<;>(rw [yll]))
      | (refine Cmp.ff hs ?_)
      | (refine zdo.head_none g hs0 hh rfl (fun h=> ?_))
      | (refine Ret.mk rfl))
    ·have hlen:(a++10::r).length=a.length+(r.length+1):=by simp
     have hx:=ztk g (a++10::r)
     rw [zpq a r hn] at hx
     have hpl:(a++[10]).length<=1000000:=by simp;omega
     have hcut:=zsl g (a++[10]) hpl
     rw [(zfy _).1,(zfy _).2] at hcut
     have hsp:=zn3 g a (by omega)
     cases hh:zq3 (a++[10]) with
     | none=>
      have hv:zkw (a++10::r)=(zhs,0,25):=by
       unfold zkw
       rw [if_neg hl0,hp]
       simp only [hh]
      rw [hv]
      repeat' ((conv=>whnf);first
      | refine Yz ?_
       | (refine zbk.mk ⟨rfl,by simp⟩ ?_)
       | (apply zaf.of;assumption)
       | (refine Rnd.enter g.lim ?_)
       | (refine zbe.at 0 (a.length+1) (by omega) (by omega) (by omega) ?_<;>(try dsimp only)<;>(rw [zj7]))
       | (refine zbe.at (a.length+1) (a++10::r).length (by omega) (by omega) (by omega) ?_<;>(try dsimp only)<;>(rw [zj5]))
       | (refine Cmp.ff hs ?_)
       | (refine zdo.head_none g hpl hh rfl (fun h=> ?_))
       | (refine Ret.mk rfl))
     | some h=>
      have hls:=(z9l hh).1
      obtain⟨ki,ai,se,da,ls⟩:=h
      simp only at hls
      subst hls
      have hv:zkw (a++10::r)=zjo ⟨ki,ai,se,da,[]⟩ 1 (pcs r):=by
       unfold zkw
       rw [if_neg hl0,hp]
       simp only [hh]
      have ih:=main ⟨⟨ki,ai,se,da,[]⟩,1,r,false⟩ ⟨by simp,by simp,by simp only;omega,by rw [hv];rfl⟩
      repeat' ((conv=>whnf);first
      | refine Yz ?_
       | (refine zbk.mk ⟨rfl,by simp⟩ ?_)
       | (apply zaf.of;assumption)
       | (refine Rnd.enter g.lim ?_)
       | (refine zbe.at 0 (a.length+1) (by omega) (by omega) (by omega) ?_<;>(try dsimp only)<;>(rw [zj7]))
       | (refine zbe.at (a.length+1) (a++10::r).length (by omega) (by omega) (by omega) ?_<;>(try dsimp only)<;>(rw [zj5]))
       | (refine Cmp.ff hs ?_)
       | (refine zdo.head_some g hpl hh rfl ?_)
       | (refine zad.to ih rfl rfl))
end
abbrev zu8 (k:Nat) (i:Int):Env:=[(1,.ptr ⟨0,1,0⟩ 0 0),(3,.ref ⟨0,3,0⟩ 0 k k),(6,.agg (ywp 0 6)),(7,I i)]
abbrev zus (l:Lnt) (k:Nat) (xs:List D):Mem:=(⟨0,1,0⟩,.cells zag [.d (.str l.ac),.d (.str l.rq.nm),.d (.str l.rq.ca),.d (.str l.rq.ki),.d (.str l.rq.te),.d (.str l.rq.pa),.d (.str l.rq.li),I l.rq.fr,I l.rq.to,I l.rq.da,I l.rq.mi,I l.rq.se,I l.rq.si,I l.rq.no])::(⟨0,3,0⟩,.row false zb3 1 k xs)::yv4 0 6
abbrev zjl:List Evl.Id:=[⟨0,1,0⟩,⟨0,3,0⟩,⟨0,6,0⟩,⟨0,6,1⟩,⟨0,6,2⟩,⟨0,6,3⟩,⟨0,6,4⟩,⟨0,6,5⟩,⟨0,6,6⟩,⟨0,6,7⟩,⟨0,6,8⟩,⟨0,6,9⟩,⟨0,6,10⟩,⟨0,6,11⟩,⟨0,6,12⟩,⟨0,6,13⟩,⟨0,6,14⟩,⟨0,6,15⟩,⟨0,6,16⟩,⟨0,6,17⟩,⟨0,6,18⟩,⟨0,6,19⟩,⟨0,6,20⟩,⟨0,6,21⟩]
section
variable {E : Oracle} (g : Good E)
include g
theorem yuy (l:Lnt) (xs:List D) {K:Ex->Env->Mem->Prop} (ih:zad E ⟨0,1⟩ [1,3,6,7] zjl zai (zu8 1 1) (zus l 1 (xs++[.str l.ac])) K):zad E ⟨0,1⟩ [1,3,6,7] zjl zai (zu8 0 0) (zus l 0 xs) K:=by
 refine zad.step g.lim ?_
 repeat' ((conv=>whnf);first
 | refine Yz ?_
  | (refine In.enter (f:=zbc) g.lim rfl rfl ?_)
  | (refine In.enter (f:=zd9) g.lim rfl rfl ?_)
  | (refine zb4.ptr (by decide) ?_)
  | (refine zbk.mk ⟨rfl,by decide⟩ ?_)
  | (refine zad.to ih rfl rfl))
theorem yu3 (l:Lnt) (xs:List D) {K:Ex->Env->Mem->Prop} (ih:zad E ⟨0,1⟩ [1,3,6,7] zjl zai (zu8 2 2) (zus l 2 (xs++[.str l.rq.ca])) K):zad E ⟨0,1⟩ [1,3,6,7] zjl zai (zu8 1 1) (zus l 1 xs) K:=by
 refine zad.step g.lim ?_
 repeat' ((conv=>whnf);first
 | refine Yz ?_
  | (refine In.enter (f:=zbc) g.lim rfl rfl ?_)
  | (refine In.enter (f:=zec) g.lim rfl rfl ?_)
  | (refine zb4.ptr (by decide) ?_)
  | (refine zbk.mk ⟨rfl,by decide⟩ ?_)
  | (refine zad.to ih rfl rfl))
theorem yux (l:Lnt) (xs:List D) {K:Ex->Env->Mem->Prop} (ih:zad E ⟨0,1⟩ [1,3,6,7] zjl zai (zu8 3 3) (zus l 3 (xs++[.str l.rq.nm])) K):zad E ⟨0,1⟩ [1,3,6,7] zjl zai (zu8 2 2) (zus l 2 xs) K:=by
 refine zad.step g.lim ?_
 repeat' ((conv=>whnf);first
 | refine Yz ?_
  | (refine In.enter (f:=zbc) g.lim rfl rfl ?_)
  | (refine In.enter (f:=zd4) g.lim rfl rfl ?_)
  | (refine zb4.ptr (by decide) ?_)
  | (refine zbk.mk ⟨rfl,by decide⟩ ?_)
  | (refine zad.to ih rfl rfl))
theorem yuv (l:Lnt) (xs:List D) {K:Ex->Env->Mem->Prop} (ih:zad E ⟨0,1⟩ [1,3,6,7] zjl zai (zu8 4 4) (zus l 4 (xs++[.str l.rq.ki])) K):zad E ⟨0,1⟩ [1,3,6,7] zjl zai (zu8 3 3) (zus l 3 xs) K:=by
 refine zad.step g.lim ?_
 repeat' ((conv=>whnf);first
 | refine Yz ?_
  | (refine In.enter (f:=zbc) g.lim rfl rfl ?_)
  | (refine In.enter (f:=zd8) g.lim rfl rfl ?_)
  | (refine zb4.ptr (by decide) ?_)
  | (refine zbk.mk ⟨rfl,by decide⟩ ?_)
  | (refine zad.to ih rfl rfl))
theorem yv1 (l:Lnt) (xs:List D) {K:Ex->Env->Mem->Prop} (ih:zad E ⟨0,1⟩ [1,3,6,7] zjl zai (zu8 5 5) (zus l 5 (xs++[.str l.rq.pa])) K):zad E ⟨0,1⟩ [1,3,6,7] zjl zai (zu8 4 4) (zus l 4 xs) K:=by
 refine zad.step g.lim ?_
 repeat' ((conv=>whnf);first
 | refine Yz ?_
  | (refine In.enter (f:=zbc) g.lim rfl rfl ?_)
  | (refine In.enter (f:=zd7) g.lim rfl rfl ?_)
  | (refine zb4.ptr (by decide) ?_)
  | (refine zbk.mk ⟨rfl,by decide⟩ ?_)
  | (refine zad.to ih rfl rfl))
theorem yve (l:Lnt) (xs:List D) (hw:Fc E zco [I l.rq.fr,I 5] (S (zdz 5 l.rq.fr))) {K:Ex->Env->Mem->Prop} (ih:zad E ⟨0,1⟩ [1,3,6,7] zjl zai (zu8 6 6) (zus l 6 (xs++[.str (zdz 5 l.rq.fr)])) K):zad E ⟨0,1⟩ [1,3,6,7] zjl zai (zu8 5 5) (zus l 5 xs) K:=by
 refine zad.step g.lim ?_
 repeat' ((conv=>whnf);first
 | refine Yz ?_
  | (refine In.enter (f:=za4) g.lim rfl rfl ?_)
  | (refine In.enter (f:=zeb) g.lim rfl rfl ?_)
  | (refine zb4.ptr (by decide) ?_)
  | (refine zbk.mk ⟨rfl,by decide⟩ ?_)
  | (refine zaf.of hw ?_)
  | (refine zad.to ih rfl rfl))
theorem yvn (l:Lnt) (xs:List D) (hw:Fc E zco [I l.rq.to,I 5] (S (zdz 5 l.rq.to))) {K:Ex->Env->Mem->Prop} (ih:zad E ⟨0,1⟩ [1,3,6,7] zjl zai (zu8 7 7) (zus l 7 (xs++[.str (zdz 5 l.rq.to)])) K):zad E ⟨0,1⟩ [1,3,6,7] zjl zai (zu8 6 6) (zus l 6 xs) K:=by
 refine zad.step g.lim ?_
 repeat' ((conv=>whnf);first
 | refine Yz ?_
  | (refine In.enter (f:=za4) g.lim rfl rfl ?_)
  | (refine In.enter (f:=zd3) g.lim rfl rfl ?_)
  | (refine zb4.ptr (by decide) ?_)
  | (refine zbk.mk ⟨rfl,by decide⟩ ?_)
  | (refine zaf.of hw ?_)
  | (refine zad.to ih rfl rfl))
theorem ywn (l:Lnt) (xs:List D) (hw:Fc E zfz [I l.rq.da] (.tup [S (zqt l.rq.da.toNat),I 0])) {K:Ex->Env->Mem->Prop} (ih:zad E ⟨0,1⟩ [1,3,6,7] zjl zai (zu8 8 8) (zus l 8 (xs++[.str (zqt l.rq.da.toNat)])) K):zad E ⟨0,1⟩ [1,3,6,7] zjl zai (zu8 7 7) (zus l 7 xs) K:=by
 refine zad.step g.lim ?_
 repeat' ((conv=>whnf);first
 | refine Yz ?_
  | (refine In.enter (f:=zfq) g.lim rfl rfl ?_)
  | (refine zb4.ptr (by decide) ?_)
  | (refine zbk.mk ⟨rfl,by decide⟩ ?_)
  | (refine zaf.of hw ?_)
  | (refine zad.to ih rfl rfl))
theorem yvz (l:Lnt) (xs:List D) (hw:Fc E zfm [I l.rq.mi] (.tup [S (yie l.rq.mi),I 0])) {K:Ex->Env->Mem->Prop} (ih:zad E ⟨0,1⟩ [1,3,6,7] zjl zai (zu8 9 9) (zus l 9 (xs++[.str (yie l.rq.mi)])) K):zad E ⟨0,1⟩ [1,3,6,7] zjl zai (zu8 8 8) (zus l 8 xs) K:=by
 refine zad.step g.lim ?_
 repeat' ((conv=>whnf);first
 | refine Yz ?_
  | (refine In.enter (f:=ze0) g.lim rfl rfl ?_)
  | (refine zb4.ptr (by decide) ?_)
  | (refine zbk.mk ⟨rfl,by decide⟩ ?_)
  | (refine zaf.of hw ?_)
  | (refine zad.to ih rfl rfl))
theorem yww (l:Lnt) (xs:List D) (hw:Fc E zco [I l.rq.se,I 3] (S (zdz 3 l.rq.se))) {K:Ex->Env->Mem->Prop} (ih:zad E ⟨0,1⟩ [1,3,6,7] zjl zai (zu8 10 10) (zus l 10 (xs++[.str (zdz 3 l.rq.se)])) K):zad E ⟨0,1⟩ [1,3,6,7] zjl zai (zu8 9 9) (zus l 9 xs) K:=by
 refine zad.step g.lim ?_
 repeat' ((conv=>whnf);first
 | refine Yz ?_
  | (refine In.enter (f:=za4) g.lim rfl rfl ?_)
  | (refine In.enter (f:=zdw) g.lim rfl rfl ?_)
  | (refine zb4.ptr (by decide) ?_)
  | (refine zbk.mk ⟨rfl,by decide⟩ ?_)
  | (refine zaf.of hw ?_)
  | (refine zad.to ih rfl rfl))
theorem ysp (l:Lnt) (xs:List D) (hw:Fc E zco [I l.rq.si,I 1] (S (zdz 1 l.rq.si))) {K:Ex->Env->Mem->Prop} (ih:zad E ⟨0,1⟩ [1,3,6,7] zjl zai (zu8 11 11) (zus l 11 (xs++[.str (zdz 1 l.rq.si)])) K):zad E ⟨0,1⟩ [1,3,6,7] zjl zai (zu8 10 10) (zus l 10 xs) K:=by
 refine zad.step g.lim ?_
 repeat' ((conv=>whnf);first
 | refine Yz ?_
  | (refine In.enter (f:=za4) g.lim rfl rfl ?_)
  | (refine In.enter (f:=zdq) g.lim rfl rfl ?_)
  | (refine zb4.ptr (by decide) ?_)
  | (refine zbk.mk ⟨rfl,by decide⟩ ?_)
  | (refine zaf.of hw ?_)
  | (refine zad.to ih rfl rfl))
theorem yro (l:Lnt) (xs:List D) (hw:Fc E zco [I l.rq.no,I 2] (S (zdz 2 l.rq.no))) {K:Ex->Env->Mem->Prop} (ih:zad E ⟨0,1⟩ [1,3,6,7] zjl zai (zu8 12 12) (zus l 12 (xs++[.str (zdz 2 l.rq.no)])) K):zad E ⟨0,1⟩ [1,3,6,7] zjl zai (zu8 11 11) (zus l 11 xs) K:=by
 refine zad.step g.lim ?_
 repeat' ((conv=>whnf);first
 | refine Yz ?_
  | (refine In.enter (f:=za4) g.lim rfl rfl ?_)
  | (refine In.enter (f:=zds) g.lim rfl rfl ?_)
  | (refine zb4.ptr (by decide) ?_)
  | (refine zbk.mk ⟨rfl,by decide⟩ ?_)
  | (refine zaf.of hw ?_)
  | (refine zad.to ih rfl rfl))
theorem ysw (l:Lnt) (xs:List D) {K:Ex->Env->Mem->Prop} (ih:zad E ⟨0,1⟩ [1,3,6,7] zjl zai (zu8 13 13) (zus l 13 (xs++[.str (zp6 l.rq.te)])) K):zad E ⟨0,1⟩ [1,3,6,7] zjl zai (zu8 12 12) (zus l 12 xs) K:=by
 by_cases he:l.rq.te=[]
 ·rw [show zp6 l.rq.te=[45] from if_pos he] at ih
  refine zad.step g.lim ?_
  repeat' ((conv=>whnf);first
  | refine Yz ?_
   | (refine In.enter (f:=zb7) g.lim rfl rfl ?_)
   | (refine In.enter (f:=zck) g.lim rfl rfl ?_)
   | (refine zb4.ptr (by decide) ?_)
   | (refine zbk.mk ⟨rfl,by decide⟩ ?_)
   | (refine Cmp.tt he ?_)
   | (refine zad.to ih rfl rfl))
 ·rw [show zp6 l.rq.te=l.rq.te from if_neg he] at ih
  refine zad.step g.lim ?_
  repeat' ((conv=>whnf);first
  | refine Yz ?_
   | (refine In.enter (f:=zb7) g.lim rfl rfl ?_)
   | (refine In.enter (f:=zck) g.lim rfl rfl ?_)
   | (refine zb4.ptr (by decide) ?_)
   | (refine zbk.mk ⟨rfl,by decide⟩ ?_)
   | (refine Cmp.ff he ?_)
   | (refine zad.to ih rfl rfl))
theorem ytk (l:Lnt) (xs:List D) {K:Ex->Env->Mem->Prop} (ih:zad E ⟨0,1⟩ [1,3,6,7] zjl zai (zu8 14 14) (zus l 14 (xs++[.str (zp6 l.rq.li)])) K):zad E ⟨0,1⟩ [1,3,6,7] zjl zai (zu8 13 13) (zus l 13 xs) K:=by
 by_cases he:l.rq.li=[]
 ·rw [show zp6 l.rq.li=[45] from if_pos he] at ih
  refine zad.step g.lim ?_
  repeat' ((conv=>whnf);first
  | refine Yz ?_
   | (refine In.enter (f:=zb7) g.lim rfl rfl ?_)
   | (refine In.enter (f:=zcl) g.lim rfl rfl ?_)
   | (refine zb4.ptr (by decide) ?_)
   | (refine zbk.mk ⟨rfl,by decide⟩ ?_)
   | (refine Cmp.tt he ?_)
   | (refine zad.to ih rfl rfl))
 ·rw [show zp6 l.rq.li=l.rq.li from if_neg he] at ih
  refine zad.step g.lim ?_
  repeat' ((conv=>whnf);first
  | refine Yz ?_
   | (refine In.enter (f:=zb7) g.lim rfl rfl ?_)
   | (refine In.enter (f:=zcl) g.lim rfl rfl ?_)
   | (refine zb4.ptr (by decide) ?_)
   | (refine zbk.mk ⟨rfl,by decide⟩ ?_)
   | (refine Cmp.ff he ?_)
   | (refine zad.to ih rfl rfl))
theorem yby (l:Lnt) (h:zhn l=0):Fc E zii [Lnv l] (S (zr3 l)):=by
 refine g.fn rfl rfl ?_
 obtain⟨ha,hq⟩:=zqk h
 obtain⟨p1,p2,p3,p4,p5,p6⟩:=hq.per
 obtain⟨m1,m2⟩:=hq.mi
 obtain⟨s1,s2⟩:=hq.se
 obtain⟨z1,z2⟩:=hq.si
 obtain⟨o1,o2⟩:=hq.no
 have w1:=zu3 g l.rq.fr 5 (by omega) (by omega)
 have w2:=zu3 g l.rq.to 5 (by omega) (by omega)
 have w3:=zu3 g l.rq.se 3 (by omega) (by omega)
 have w4:=zu3 g l.rq.si 1 (by omega) (by omega)
 have w5:=zu3 g l.rq.no 2 (by omega) (by omega)
 have mk:=z3v g l.rq.da.toNat (by omega)
 rw [Int.toNat_of_nonneg (by omega)] at mk
 have mi:=z6j g l.rq.mi
 rw [zcw.2 ⟨m1,m2⟩,if_pos rfl] at mi
 have hj:=ylo g (zlw l) (by simp [zlw]) (by simp [zlw]) (Nat.le_trans (ymr ha hq) (by decide))
 repeat' ((conv=>whnf);first
 | refine Yz ?_
  | (refine zdo.fields g rfl ?_))
 refine zad.to (e1:=zu8 0 0) (m1:=zus l 0 []) ?_ rfl rfl
 refine yuy g l _ ?_
 refine yu3 g l _ ?_
 refine yux g l _ ?_
 refine yuv g l _ ?_
 refine yv1 g l _ ?_
 refine yve g l _ w1 ?_
 refine yvn g l _ w2 ?_
 refine ywn g l _ mk ?_
 refine yvz g l _ mi ?_
 refine yww g l _ w3 ?_
 refine ysp g l _ w4 ?_
 refine yro g l _ w5 ?_
 refine ysw g l _ ?_
 refine ytk g l _ ?_
 refine zad.step g.lim ?_
 repeat' ((conv=>whnf);first
 | refine Yz ?_
  | (refine zaf.of hj ?_)
  | (refine Ret.mk rfl))
end
def z9i (m:Mst) (k:Nat):List UInt8:=(zs0 m++[10])++zmm (m.ls.take k)
theorem yi4 (m:Mst):z9i m 0=zs0 m++[10]:=by simp [z9i,zmm]
theorem yla (m:Mst) {k:Nat} (h:k<m.ls.length):z9i m (k+1)=z9i m k++(zr3 m.ls[k]++[10]):=by
 unfold z9i
 rw [List.take_add_one,List.getElem?_eq_getElem h,Option.toList_some,ycg]
 simp only [List.append_assoc]
theorem yn9 (m:Mst):yec m=z9i m m.ls.length++(yor m.ls.length++[10]):=by
 unfold z9i yec
 rw [List.take_length]
 simp
theorem ynm {m:Mst} (h:ynz m) (k:Nat):1<=(z9i m k).length/\(z9i m k).length<=20000:=by
 have h1:=z87 h
 have h2:=zxd (m.ls.take k) fun x hx=>(zld _ _ _ h.ok).2 x (List.mem_of_mem_take hx)
 have h3:(m.ls.take k).length<=64:=by rw [List.length_take];have:=h.ln;omega
 simp only [z9i,List.length_append,List.length_cons,List.length_nil]
 omega
section
variable {E : Oracle} (g : Good E)
include g
theorem z3t (m:Mst) (hl:m.ls.length<=1000000):Fc E zgt [Msv m] (.tup [S (if zra m=0 then yec m else []),I (zra m)]):=by
 refine g.fn rfl rfl ?_
 have h1:=zm6 g m hl
 by_cases hc:zra m=0
 ·rw [if_pos hc,hc]
  rw [hc] at h1
  have ok:=znt.1 hc
  obtain⟨_,_,hai,_,hse,hd1,hd2⟩:=zqp ok.hd
  have hki:=(ydf ok.ki).2
  have hw5:=zu3 g m.da 5 (by omega) ⟨hd1,by omega⟩
  have hwl:=zes 5 m.da
  have hw2:=zu3 g (m.ls.length:Int) 2 (by omega) ⟨by omega,by have:=ok.ln;omega⟩
  have hwm:=zes 2 (m.ls.length:Int)
  have hln:=ok.ln
  have hok:=(zld _ _ _ ok.ok).2
  have e0:z9i m 0=[83,76,79,84,83,32]++m.ki++[32]++m.ai++[32]++m.se++[32]++zdz 5 m.da++[10]:=by
   rw [yi4]
   simp [zs0,zcg]
  repeat' ((conv=>whnf);first
  | refine Yz ?_
   | (apply zaf.of;assumption)
   | (refine zbk.mk (by simp only [zhb,List.length_append,List.length_cons,List.length_nil];omega) ?_)
   | (refine zbk.mk (by simp [Evl.bytesD]<;>omega) ?_)
   | (refine In.enter (f:=zak) g.lim rfl rfl ?_)
   | (refine In.extern g.lim (x:=copyX ty_strings_Builder) rfl rfl ?_)
   | (refine zb4.mk ⟨_,rfl,?_⟩))
  refine zad.to (zad.up g (fun k=>[(1,.ptr ⟨0,1,0⟩ 0 0),(5,.ptr ⟨0,5,1⟩ 0 0),(6,.fn zak [.ptr ⟨0,5,1⟩ 0 0] []),(35,LL m.ls),(36,I m.ls.length),(37,I k)]) (fun k=>[(⟨0,1,0⟩,.cells zae [S m.ki,S m.ai,S m.se,I m.da,LL m.ls]),(⟨0,5,0⟩,.row false ty_uint8 1 (z9i m k).length (byD (z9i m k))),(⟨0,5,1⟩,.cells ty_strings_Builder [.ptr ⟨0,5,1⟩ 0 0,.ref ⟨0,5,0⟩ 0 (z9i m k).length (z9i m k).length])]) m.ls.length (fun k hk ih=> ?_) 0 (Nat.zero_le _)) rfl ?_
  ·have hk1:=ynm ok k
   have hbl:=ykf (z9i m k)
   by_cases hlt:k<m.ls.length
   ·have hp:=yby g m.ls[k] (hok _ (List.getElem_mem hlt))
    have hpl:=yd1 (hok _ (List.getElem_mem hlt))
    have hs:=yla m hlt
    repeat' ((conv=>whnf);first
    | refine Yz ?_
     | (refine za0.rec Lnt.cells_length k rfl hlt ?_)
     | (refine zaf.of hp ?_)
     | (refine zbk.mk (by simp only [zhb,List.length_append,List.length_cons,List.length_nil];omega) ?_)
     | (refine zbk.mk (by simp [Evl.bytesD]<;>omega) ?_)
     | (refine In.enter (f:=zak) g.lim rfl rfl ?_)
     | (refine In.extern g.lim (x:=copyX ty_strings_Builder) rfl rfl ?_)
     | (refine zb4.mk ⟨_,rfl,?_⟩)
     | (refine zad.to (ih hlt) rfl ?_))
    rw [hs,z67,List.length_append]
    rfl
   ·obtain rfl:k=m.ls.length:=by omega
    have hb:Evl.bytesOf (byD (z9i m m.ls.length)++Evl.bytesD ([69,78,68,32]++zdz 2 (m.ls.length:Int)++[10]))=some (yec m):=by
     rw [yaq,<-z67,zoe,yn9]
     simp [yor,zcg]
    repeat' ((conv=>whnf);first
    | refine Yz ?_
     | (apply zaf.of;assumption)
     | (refine zbk.mk (by simp only [zhb,List.length_append,List.length_cons,List.length_nil];omega) ?_)
     | (refine zbk.mk (by simp [Evl.bytesD]<;>omega) ?_)
     | (refine In.enter (f:=zak) g.lim rfl rfl ?_)
     | (refine In.extern g.lim (x:=copyX ty_strings_Builder) rfl rfl ?_)
     | (refine In.extern g.lim (x:=stringX ty_strings_Builder ty_uint8) rfl (zz3 rfl rfl (by omega) hb) ?_)
     | (refine zb4.mk ⟨_,rfl,?_⟩)
     | (refine Ret.mk rfl))
  ·rw [e0]
   simp only [Nat.zero_add,List.nil_append]
   rfl
 ·rw [if_neg hc]
  repeat' ((conv=>whnf);first
  | refine Yz ?_
   | (apply zaf.of;assumption)
   | (refine Cmp.ff hc ?_)
   | (refine Ret.mk rfl))
end
def yu4 (l:List Ent):List (List UInt8):=l.map (·.rq.nm)
theorem yqf {s:List UInt8}:∀l:List Ent,s∉yu4 l->plc s l=none
 | [],_=>rfl
 | y::q,h=>by
  have h1:¬y.rq.nm=s:=fun e'=>h (by simp [yu4,e'])
  have h2:s∉yu4 q:=fun hm=>h (List.mem_cons_of_mem _ hm)
  rw [plc,if_neg h1,yqf q h2]
  rfl
theorem yo6 {da:Int} {l l':List Ent} {x:Lnt} {r:List Lnt} (he:zmp l x=0) (hl:zja l x da=l'):zvp da l (x::r)=zvp da l' r:=by
 rw [zvp,if_pos he,hl]
theorem yl3 (da:Int):∀(q:List Rqt) (l:List Ent),(∀x∈q,x.nm∉yu4 l)->(yun q).Nodup->l.length+q.length<=64->zvp da l (q.map fun x=>⟨[78],x⟩)=(l++q.map fun x=>⟨x,false,da⟩,0)
 | [],l,_,_,_=>by simp [zvp]
 | x::r,l,h,hu,hl=>by
  have hp:=yqf l (h x (List.mem_cons_self ..))
  have hc:(yun (x::r))=x.nm::yun r:=rfl
  rw [hc,List.nodup_cons] at hu
  rw [List.length_cons] at hl
  rw [List.map_cons,yo6 (l':=l++[⟨x,false,da⟩]) (by simp only [zmp,hp];rw [if_pos (.inl trivial),if_neg (by omega)]) (by simp only [zja,hp];rfl)]
  refine(yl3 da r (l++[⟨x,false,da⟩]) (fun y hy hm=> ?_) hu.2 (by simp;omega)).trans ?_
  rotate_left
  ·simp
  ·unfold yu4 at hm
   rw [List.map_append,List.mem_append] at hm
   rcases hm with hm|hm
   ·exact h y (List.mem_cons_of_mem _ hy) hm
   ·simp only [List.map_cons,List.map_nil,List.mem_singleton] at hm
    exact hu.1 (hm▸List.mem_map_of_mem hy)
abbrev e0 (x:Rqt):Ent:=⟨x,false,10⟩
inductive Blk:List Lnt->Prop where
 | no:Blk []
 | new (x:Rqt):znb x=0->Blk [⟨[78],x⟩]
 | del (x:Rqt):znb x=0->Blk [⟨[68],x⟩]
 | chg (x o:Rqt):znb x=0->znb o=0->yar x o=true->Blk [⟨[67],x⟩,⟨[82],o⟩]
theorem zy3 {p:Option Lnt} {s:List UInt8} {q:Rqt} (h1:znb q=0) (h0:ycq s=true) (h2:ywy s=REQ) (h3:((zjj p||decide (s=[82]))&& !(zjj p&&decide (s=[82])&&zny ⟨s,q⟩ p))=false):lnE REQ p ⟨s,q⟩=0:=by
 unfold lnE
 rw [zbq]
 intro e he
 simp only [List.mem_cons,List.not_mem_nil,or_false] at he
 rcases he with rfl|rfl|rfl
 ·rw [yfl];exact(if_pos h0).trans h1
 ·exact if_pos h2
 ·rw [h3];rfl
theorem ykp:∀(bs:List (List Lnt)) (p:Option Lnt) (i:Nat),zjj p=false->(∀b∈bs,Blk b)->zfs REQ p i bs.flatten=(0,0)
 | [],p,i,hp,_=>by
  rw [List.flatten_nil,zfs,hp];rfl
 | b::r,p,i,hp,h=>by
  have hb:=h b (List.mem_cons_self ..)
  have ih:=fun p i hp=>ykp r p i hp fun x hx=>h x (List.mem_cons_of_mem _ hx)
  rw [List.flatten_cons]
  cases hb with
  | no=>exact ih p i hp
  | new x hx=>
   rw [List.cons_append,List.nil_append,zfs,if_pos ?_]
   ·exact ih _ _ rfl
   ·exact zy3 hx (by decide) (by decide) (by rw [hp];rfl)
  | del x hx=>
   rw [List.cons_append,List.nil_append,zfs,if_pos ?_]
   ·exact ih _ _ rfl
   ·exact zy3 hx (by decide) (by decide) (by rw [hp];rfl)
  | chg x o hx ho ht=>
   rw [List.cons_append,List.cons_append,List.nil_append,zfs,if_pos ?_,zfs,if_pos ?_]
   ·exact ih _ _ rfl
   ·exact zy3 ho (by decide) (by decide) (by show (true&& !(true&&yar x o))=false;rw [ht];rfl)
   ·exact zy3 hx (by decide) (by decide) (by rw [hp];rfl)
theorem ytm {b:List Rqt} (hb:∀x∈b,znb x=0):zfs REQ none 0 (b.map fun x=>⟨[78],x⟩)=(0,0):=by
 have e:(b.map fun x=>(⟨[78],x⟩:Lnt))=(b.map fun x=>[(⟨[78],x⟩:Lnt)]).flatten:=by
  induction b with
  | nil=>rfl
  | cons x r ih=>rw [List.map_cons,List.map_cons,List.flatten_cons,ih fun y hy=>hb y (List.mem_cons_of_mem _ hy)];rfl
 rw [e]
 refine ykp _ none 0 rfl fun x hx=> ?_
 obtain⟨y,hy,rfl⟩:=List.mem_map.1 hx
 exact .new y (hb y hy)
abbrev ysf:List UInt8:=[104,101,114,101]
abbrev yb9:List UInt8:=[83,50,48,50,52]
def nwn (x:Rqt):Lnt:=⟨[78],x⟩
def zq5 (l:List Rqt) (day:Int):Mst:=⟨REQ,ysf,yb9,day,l.map nwn⟩
section
variable {E : Oracle} (g : Good E)
include g
theorem yb1 (l:List Rqt) (day:Int) (hl:l.length<=1000):Fc E zi8 [LQ l,I day] (Msv (zq5 l day)):=by
 have hR:Msv (zq5 l day)= .d (.agg [.str REQ,.str ysf,.str yb9,DI day,.list l.length (l.flatMap fun x=>(nwn x).cells)]):=by
  show V.d (.agg [.str REQ,.str ysf,.str yb9,DI day,.list (l.map nwn).length ((l.map nwn).flatMap Lnt.cells)])=_
  rw [List.length_map,List.flatMap_map]
 rw [hR]
 refine g.fn rfl rfl ?_
 repeat' ((conv=>whnf);first
 | refine Yz ?_)
 refine zad.to (zad.up g (fun k=>[(4,.ptr ⟨0,4,1⟩ 0 0),(5,.ptr ⟨0,5,1⟩ 0 0),(10,LQ l),(11,I l.length),(12,I k)]) (fun k=>[(⟨0,4,0⟩,.row false zag 14 0 []),(⟨0,4,1⟩,.cells zae [S [],S [],S [],I 0,.ref ⟨0,4,0⟩ 0 0 0]),(⟨0,9,0⟩,.row false zag 14 k ((l.take k).flatMap fun x=>(nwn x).cells)),(⟨0,5,0⟩,.row false zag 14 0 []),(⟨0,5,1⟩,.cells zae [S REQ,S ysf,S yb9,I day,.ref ⟨0,9,0⟩ 0 k k])]) l.length (fun k hk ih=> ?_) 0 (Nat.zero_le _)) rfl rfl
 by_cases hlt:k<l.length
 ·have ih:=ih hlt
  have hf:=zlb (fun x=>(nwn x).cells) l k hlt
  have hfl:=za2 (fun x=>(nwn x).cells) 14 (fun _=>rfl) (l.take k)
  rw [List.length_take,Nat.min_eq_left hk] at hfl
  rw [hf] at ih
  repeat' ((conv=>whnf);first
  | refine Yz ?_
   | (refine za0.rec Rqt.cells_length k rfl hlt ?_)
   | (refine zbk.mk ⟨rfl,rfl,rfl,rfl,rfl,rfl,by show (k+1)*168<=_;omega,by omega⟩ ?_)
   | (refine zad.to ih rfl rfl))
 ·obtain rfl:k=l.length:=by omega
  rw [List.take_length]
  repeat' ((conv=>whnf);first
  | refine Yz ?_
   | (refine zbk.mk ⟨rfl,Nat.le_refl 5⟩ ?_)
   | (rw [if_pos (⟨rfl,rfl⟩:_/\_)])
   | (refine Ret.mk rfl))
theorem yc3 (ms:List Mst) (hl:ms.length<=64) (hr:(ygk ms).1.length<=1000) (hk:∀m∈ms,zra m=0/\(yec m).length<=16384):Fc E zi9 [LMs ms] (.tup [LQ ((ygk ms).1.map (·.rq)),B (decide ((ygk ms).2.2=0))]):=by
 refine g.fn rfl rfl ?_
 repeat' ((conv=>whnf);first
 | refine Yz ?_)
 refine zad.to (zad.up g (fun k=>[(4,.ref ⟨0,4,0⟩ 0 k k),(18,LMs ms),(19,I ms.length),(20,I k)]) (fun k=>[(⟨0,2,0⟩,.row false zbo 13 0 []),(⟨0,4,0⟩,.row false zae 5 k ((ms.take k).flatMap Mst.cells))]) ms.length (fun k hk' ih=> ?_) 0 (Nat.zero_le _)) rfl rfl
 by_cases hlt:k<ms.length
 ·have ih:=ih hlt
  have hf:=zlb Mst.cells ms k hlt
  have hfl:=za2 Mst.cells 5 Mst.cells_length (ms.take k)
  rw [List.length_take,Nat.min_eq_left hk'] at hfl
  rw [hf] at ih
  obtain⟨hz,hlen⟩:=hk _ (List.getElem_mem hlt)
  have ok:=znt.1 hz
  have q1:=z3t g ms[k] (by have:=ok.ln;omega)
  rw [if_pos hz,hz] at q1
  have q2:=z29 g (yec ms[k]) (by omega)
  rw [yh1 ok hlen] at q2
  dsimp only at q2
  repeat' ((conv=>whnf);first
  | refine Yz ?_
   | (refine za0.rec Mst.cells_length k rfl hlt ?_)
   | (apply zaf.of;assumption)
   | (refine zbk.mk ⟨rfl,rfl,rfl,rfl,rfl,rfl,by show (k+1)*80<=_;omega,by omega⟩ ?_)
   | (refine zad.to ih rfl rfl))
 ·obtain rfl:k=ms.length:=by omega
  rw [List.take_length]
  clear ih
  have q:=yhb g ms (by omega) (fun m hm=>by
   have:=(znt.1 (hk m hm).1).ln
   omega)
  generalize ygk ms=R at *
  obtain⟨es,n,e⟩:=R
  dsimp only at q hr ⊢
  repeat' ((conv=>whnf);first
  | refine Yz ?_
   | (apply zaf.of;assumption)
   | (rw [if_pos (⟨rfl,rfl⟩:_/\_)])
   | (refine zaf.of q ?_))
  clear q
  have hR:LQ (es.map (·.rq))= .d (.list es.length (es.flatMap fun x=>x.rq.cells)):=by
   show V.d (.list (es.map (·.rq)).length ((es.map (·.rq)).flatMap Rqt.cells))=_
   rw [List.length_map,List.flatMap_map]
  rw [hR]
  refine zad.to (zad.up g (fun k=>[(14,I e),(15,.ref ⟨0,15,0⟩ 0 k k),(52,LE es),(53,I es.length),(54,I k)]) (fun k=>[(⟨0,2,0⟩,.row false zbo 13 0 []),(⟨0,4,0⟩,.row false zae 5 ms.length (ms.flatMap Mst.cells)),(⟨0,15,0⟩,.row false zbo 13 k ((es.take k).flatMap fun x=>x.rq.cells))]) es.length (fun k hk' ih=> ?_) 0 (Nat.zero_le _)) rfl rfl
  by_cases hlt:k<es.length
  ·have ih:=ih hlt
   have hf:=zlb (fun x:Ent=>x.rq.cells) es k hlt
   have hfl:=za2 (fun x:Ent=>x.rq.cells) 13 (fun _=>rfl) (es.take k)
   rw [List.length_take,Nat.min_eq_left hk'] at hfl
   rw [hf] at ih
   repeat' ((conv=>whnf);first
   | refine Yz ?_
    | (refine za0.rec Ent.cells_length k rfl hlt ?_)
    | (refine zbk.mk ⟨rfl,rfl,rfl,rfl,rfl,rfl,by show (k+1)*152<=_;omega,by omega⟩ ?_)
    | (refine zad.to ih rfl rfl))
  ·obtain rfl:k=es.length:=by omega
   rw [List.take_length]
   clear ih
   by_cases he:e=0
   ·rw [decide_eq_true he]
    repeat' ((conv=>whnf);first
    | refine Yz ?_
     | (refine Cmp.tt he ?_)
     | (rw [if_pos (⟨rfl,rfl⟩:_/\_)])
     | (refine Ret.mk rfl))
   ·rw [decide_eq_false he]
    repeat' ((conv=>whnf);first
    | refine Yz ?_
     | (refine Cmp.ff he ?_)
     | (rw [if_pos (⟨rfl,rfl⟩:_/\_)])
     | (refine Ret.mk rfl))
end
end Go.Proofs.YthmfkkpmjcbgeabGreatDoor.Co
