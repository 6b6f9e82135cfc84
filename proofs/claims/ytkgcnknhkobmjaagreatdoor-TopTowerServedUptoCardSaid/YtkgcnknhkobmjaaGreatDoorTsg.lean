/-
  TopTowerServed: what its law leans on, part 7.
-/
import Derived.Laws.RangeAny
import Derived.Lib.SplitLaws
import Derived.Test.YtkgcnknhkobmjaaGreatDoorEvX
import Derived.Test.YtkgcnknhkobmjaaGreatDoorRead
import Derived.Test.YtkgcnknhkobmjaaGreatDoorSpBase
import Derived.Test.YtkgcnknhkobmjaaGreatDoorTsf
namespace Go.Proofs.YtkgcnknhkobmjaaGreatDoor.Co
open Go Go.Evl
set_option maxHeartbeats 32000000
set_option maxRecDepth 100000
def zdq (ls:List Lnt) (k:Nat):Option Lnt:=if k=0 then none else ls[k-1]?
theorem yhz {ls:List Lnt} {k:Nat} (h:k<ls.length):zdq ls (k+1)=some ls[k]:=by simp [zdq,h]
theorem ync (s:List UInt8):∃r,zf1 (.str s) ysr=some r/\yow (.str []) false r=S (ys7 s):=by
 rcases z8z s with h|⟨h,h1,h2⟩
 ·simp only [yq1,yr5,List.cons_append,List.nil_append,List.mem_cons,List.not_mem_nil,or_false] at h
  rcases h with rfl|rfl|rfl|rfl|rfl|rfl|rfl|rfl|rfl
  all_goals exact⟨_,rfl,rfl⟩
 ·exact⟨_,h,by unfold ys7;rw [h1,h2];rfl⟩
section
variable {E : Oracle} (g : Good E)
include g
theorem yds (a b:Rqt):Fc E zjp [Rqv a,Rqv b] (B (zsf a b)):=by
 refine g.fn rfl rfl ?_
 unfold zsf
 by_cases h1:a.ca=b.ca
 ·rw [decide_eq_true h1]
  by_cases h2:a.nm=b.nm
  ·rw [decide_eq_true h2]
   repeat' ((conv=>whnf);first
   | refine Yz ?_
    | (refine Cmp.tt h1 ?_)
    | (refine Cmp.tt h2 ?_)
    | (refine Ret.mk rfl))
  ·rw [decide_eq_false h2]
   repeat' ((conv=>whnf);first
   | refine Yz ?_
    | (refine Cmp.tt h1 ?_)
    | (refine Cmp.ff h2 ?_)
    | (refine Ret.mk rfl))
 ·rw [decide_eq_false h1]
  repeat' ((conv=>whnf);first
  | refine Yz ?_
   | (refine Cmp.ff h1 ?_)
   | (refine Ret.mk rfl))
theorem z4o (kind:List UInt8) (ls:List Lnt) (k:Nat) (hlt:k<ls.length) {K:Ex->Env->Mem->Prop} {R:V} (hl:ls.length<=1000000) (hK:∀e m,K .ret e m=zw8 m e [.tmp 4,.tmp 5] fun v=>yiu m v fun d=>Ret d R)
  (hF:lnE kind (zdq ls k) ls[k]≠0-> .tup [I k,I (lnE kind (zdq ls k) ls[k])]=R)
  (ih:lnE kind (zdq ls k) ls[k]=0->zaf E ⟨0,1⟩ [0,1,12,13,14] [] zej [(0,S kind),(1,LL ls),(12,LL ls),(13,I ls.length),(14,I (k+1:Nat))] [] K):
  wpC E ⟨0,1⟩ zej [(0,S kind),(1,LL ls),(12,LL ls),(13,I ls.length),(14,I k)] [] (z4w E ⟨0,1⟩ [0,1,12,13,14] [] zej K):=by
 have hcl:=ydj g ls[k]
 obtain⟨r,hf,hr⟩:=ync ls[k].ac
 have fin:∀a b c,lnE kind (zdq ls k) ls[k]=zap [a,b,c]->(zap [a,b,c]=0->lnE kind (zdq ls k) ls[k]=0)/\(zap [a,b,c]≠0-> .tup [I k,I (zap [a,b,c])]=R):=by
  intro a b c h
  rw [<-h]
  exact⟨id,hF⟩
 by_cases hk:ys7 ls[k].ac=kind
 ·by_cases h0:k=0
  ·have hp:zdq ls k=none:=if_pos h0
   by_cases hR:ls[k].ac=[82]
   ·have he:lnE kind (zdq ls k) ls[k]=zap [zrc ls[k],0,11]:=by
     unfold lnE
     rw [hp,if_pos hk]
     simp [hR,zj7,zqj]
    by_cases hz:lnE kind (zdq ls k) ls[k]=0
    all_goals repeat' ((conv=>whnf);first
    | refine Yz ?_
     | (refine zal.rec Lnt.cells_length k rfl hlt ?_)
     | (refine zae.of hcl ?_)
     | (refine zg3.actions g rfl ?_)
     | (refine zpq.mk ⟨_,hf,?_⟩<;>(dsimp only;rw [hr]))
     | (refine Cmp.tt (by assumption) ?_)
     | (refine Cmp.ff (by assumption) ?_)
     | (refine zae.of (za7 g _ _) ?_)
     | (refine zae.of (zbx g _ _ _) ?_)
     | (refine Cmp.tt (he.symm.trans hz) ?_)
     | (refine Cmp.ff (fun h=>hz (he.trans h)) ?_)
     | (refine zaf.to (ih hz) rfl rfl)
     | (refine(hK _ _).mpr ?_)
     | (refine Ret.mk ((fin _ _ _ he).2 (fun h=>hz (he.trans h)))))
   ·have he:lnE kind (zdq ls k) ls[k]=zap [zrc ls[k],0,0]:=by
     unfold lnE
     rw [hp,if_pos hk]
     simp [hR,zj7,zqj]
    by_cases hz:lnE kind (zdq ls k) ls[k]=0
    all_goals repeat' ((conv=>whnf);first
    | refine Yz ?_
     | (refine zal.rec Lnt.cells_length k rfl hlt ?_)
     | (refine zae.of hcl ?_)
     | (refine zg3.actions g rfl ?_)
     | (refine zpq.mk ⟨_,hf,?_⟩<;>(dsimp only;rw [hr]))
     | (refine Cmp.tt (by assumption) ?_)
     | (refine Cmp.ff (by assumption) ?_)
     | (refine zae.of (za7 g _ _) ?_)
     | (refine zae.of (zbx g _ _ _) ?_)
     | (refine Cmp.tt (he.symm.trans hz) ?_)
     | (refine Cmp.ff (fun h=>hz (he.trans h)) ?_)
     | (refine zaf.to (ih hz) rfl rfl)
     | (refine(hK _ _).mpr ?_)
     | (refine Ret.mk ((fin _ _ _ he).2 (fun h=>hz (he.trans h)))))
  ·have hlp:k-1<ls.length:=by omega
   have hp:zdq ls k=some ls[k-1]:=by simp [zdq,h0,hlp]
   have ht:=yds g ls[k-1].rq ls[k].rq
   by_cases hC:ls[k-1].ac=[67]
   ·by_cases hR:ls[k].ac=[82]
    ·cases htw:zsf ls[k-1].rq ls[k].rq
     all_goals rw [htw] at ht
     ·have he:lnE kind (zdq ls k) ls[k]=zap [zrc ls[k],0,11]:=by
       unfold lnE
       rw [hp,if_pos hk]
       simp [hR,hC,htw,zj7,zqj]
      by_cases hz:lnE kind (zdq ls k) ls[k]=0
      all_goals repeat' ((conv=>whnf);first
      | refine Yz ?_
       | (refine zal.rec Lnt.cells_length k rfl hlt ?_)
       | (refine zae.of hcl ?_)
       | (refine zg3.actions g rfl ?_)
       | (refine zpq.mk ⟨_,hf,?_⟩<;>(dsimp only;rw [hr]))
       | (refine zg4.rec Lnt.cells_length (k-1) (by omega) hlp rfl ?_)
       | (refine zal.part Lnt.cells_length (k-1) (by omega) hlp (by decide) rfl ?_)
       | (refine zae.of ht ?_)
       | (refine Cmp.tt (by assumption) ?_)
       | (refine Cmp.ff (by assumption) ?_)
       | (refine zae.of (za7 g _ _) ?_)
       | (refine zae.of (zbx g _ _ _) ?_)
       | (refine Cmp.tt (he.symm.trans hz) ?_)
       | (refine Cmp.ff (fun h=>hz (he.trans h)) ?_)
       | (refine zaf.to (ih hz) rfl rfl)
       | (refine(hK _ _).mpr ?_)
       | (refine Ret.mk ((fin _ _ _ he).2 (fun h=>hz (he.trans h)))))
     ·have he:lnE kind (zdq ls k) ls[k]=zap [zrc ls[k],0,0]:=by
       unfold lnE
       rw [hp,if_pos hk]
       simp [hR,hC,htw,zj7,zqj]
      by_cases hz:lnE kind (zdq ls k) ls[k]=0
      all_goals repeat' ((conv=>whnf);first
      | refine Yz ?_
       | (refine zal.rec Lnt.cells_length k rfl hlt ?_)
       | (refine zae.of hcl ?_)
       | (refine zg3.actions g rfl ?_)
       | (refine zpq.mk ⟨_,hf,?_⟩<;>(dsimp only;rw [hr]))
       | (refine zg4.rec Lnt.cells_length (k-1) (by omega) hlp rfl ?_)
       | (refine zal.part Lnt.cells_length (k-1) (by omega) hlp (by decide) rfl ?_)
       | (refine zae.of ht ?_)
       | (refine Cmp.tt (by assumption) ?_)
       | (refine Cmp.ff (by assumption) ?_)
       | (refine zae.of (za7 g _ _) ?_)
       | (refine zae.of (zbx g _ _ _) ?_)
       | (refine Cmp.tt (he.symm.trans hz) ?_)
       | (refine Cmp.ff (fun h=>hz (he.trans h)) ?_)
       | (refine zaf.to (ih hz) rfl rfl)
       | (refine(hK _ _).mpr ?_)
       | (refine Ret.mk ((fin _ _ _ he).2 (fun h=>hz (he.trans h)))))
    ·have he:lnE kind (zdq ls k) ls[k]=zap [zrc ls[k],0,11]:=by
      unfold lnE
      rw [hp,if_pos hk]
      simp [hR,hC,zj7,zqj]
     by_cases hz:lnE kind (zdq ls k) ls[k]=0
     all_goals repeat' ((conv=>whnf);first
     | refine Yz ?_
      | (refine zal.rec Lnt.cells_length k rfl hlt ?_)
      | (refine zae.of hcl ?_)
      | (refine zg3.actions g rfl ?_)
      | (refine zpq.mk ⟨_,hf,?_⟩<;>(dsimp only;rw [hr]))
      | (refine zg4.rec Lnt.cells_length (k-1) (by omega) hlp rfl ?_)
      | (refine zal.part Lnt.cells_length (k-1) (by omega) hlp (by decide) rfl ?_)
      | (refine zae.of ht ?_)
      | (refine Cmp.tt (by assumption) ?_)
      | (refine Cmp.ff (by assumption) ?_)
      | (refine zae.of (za7 g _ _) ?_)
      | (refine zae.of (zbx g _ _ _) ?_)
      | (refine Cmp.tt (he.symm.trans hz) ?_)
      | (refine Cmp.ff (fun h=>hz (he.trans h)) ?_)
      | (refine zaf.to (ih hz) rfl rfl)
      | (refine(hK _ _).mpr ?_)
      | (refine Ret.mk ((fin _ _ _ he).2 (fun h=>hz (he.trans h)))))
   ·by_cases hR:ls[k].ac=[82]
    ·have he:lnE kind (zdq ls k) ls[k]=zap [zrc ls[k],0,11]:=by
      unfold lnE
      rw [hp,if_pos hk]
      simp [hR,hC,zj7,zqj]
     by_cases hz:lnE kind (zdq ls k) ls[k]=0
     all_goals repeat' ((conv=>whnf);first
     | refine Yz ?_
      | (refine zal.rec Lnt.cells_length k rfl hlt ?_)
      | (refine zae.of hcl ?_)
      | (refine zg3.actions g rfl ?_)
      | (refine zpq.mk ⟨_,hf,?_⟩<;>(dsimp only;rw [hr]))
      | (refine zg4.rec Lnt.cells_length (k-1) (by omega) hlp rfl ?_)
      | (refine zal.part Lnt.cells_length (k-1) (by omega) hlp (by decide) rfl ?_)
      | (refine zae.of ht ?_)
      | (refine Cmp.tt (by assumption) ?_)
      | (refine Cmp.ff (by assumption) ?_)
      | (refine zae.of (za7 g _ _) ?_)
      | (refine zae.of (zbx g _ _ _) ?_)
      | (refine Cmp.tt (he.symm.trans hz) ?_)
      | (refine Cmp.ff (fun h=>hz (he.trans h)) ?_)
      | (refine zaf.to (ih hz) rfl rfl)
      | (refine(hK _ _).mpr ?_)
      | (refine Ret.mk ((fin _ _ _ he).2 (fun h=>hz (he.trans h)))))
    ·have he:lnE kind (zdq ls k) ls[k]=zap [zrc ls[k],0,0]:=by
      unfold lnE
      rw [hp,if_pos hk]
      simp [hR,hC,zj7,zqj]
     by_cases hz:lnE kind (zdq ls k) ls[k]=0
     all_goals repeat' ((conv=>whnf);first
     | refine Yz ?_
      | (refine zal.rec Lnt.cells_length k rfl hlt ?_)
      | (refine zae.of hcl ?_)
      | (refine zg3.actions g rfl ?_)
      | (refine zpq.mk ⟨_,hf,?_⟩<;>(dsimp only;rw [hr]))
      | (refine zg4.rec Lnt.cells_length (k-1) (by omega) hlp rfl ?_)
      | (refine zal.part Lnt.cells_length (k-1) (by omega) hlp (by decide) rfl ?_)
      | (refine zae.of ht ?_)
      | (refine Cmp.tt (by assumption) ?_)
      | (refine Cmp.ff (by assumption) ?_)
      | (refine zae.of (za7 g _ _) ?_)
      | (refine zae.of (zbx g _ _ _) ?_)
      | (refine Cmp.tt (he.symm.trans hz) ?_)
      | (refine Cmp.ff (fun h=>hz (he.trans h)) ?_)
      | (refine zaf.to (ih hz) rfl rfl)
      | (refine(hK _ _).mpr ?_)
      | (refine Ret.mk ((fin _ _ _ he).2 (fun h=>hz (he.trans h)))))
 ·by_cases h0:k=0
  ·have hp:zdq ls k=none:=if_pos h0
   by_cases hR:ls[k].ac=[82]
   ·have he:lnE kind (zdq ls k) ls[k]=zap [zrc ls[k],18,11]:=by
     unfold lnE
     rw [hp,if_neg hk]
     simp [hR,zj7,zqj]
    by_cases hz:lnE kind (zdq ls k) ls[k]=0
    all_goals repeat' ((conv=>whnf);first
    | refine Yz ?_
     | (refine zal.rec Lnt.cells_length k rfl hlt ?_)
     | (refine zae.of hcl ?_)
     | (refine zg3.actions g rfl ?_)
     | (refine zpq.mk ⟨_,hf,?_⟩<;>(dsimp only;rw [hr]))
     | (refine Cmp.tt (by assumption) ?_)
     | (refine Cmp.ff (by assumption) ?_)
     | (refine zae.of (za7 g _ _) ?_)
     | (refine zae.of (zbx g _ _ _) ?_)
     | (refine Cmp.tt (he.symm.trans hz) ?_)
     | (refine Cmp.ff (fun h=>hz (he.trans h)) ?_)
     | (refine zaf.to (ih hz) rfl rfl)
     | (refine(hK _ _).mpr ?_)
     | (refine Ret.mk ((fin _ _ _ he).2 (fun h=>hz (he.trans h)))))
   ·have he:lnE kind (zdq ls k) ls[k]=zap [zrc ls[k],18,0]:=by
     unfold lnE
     rw [hp,if_neg hk]
     simp [hR,zj7,zqj]
    by_cases hz:lnE kind (zdq ls k) ls[k]=0
    all_goals repeat' ((conv=>whnf);first
    | refine Yz ?_
     | (refine zal.rec Lnt.cells_length k rfl hlt ?_)
     | (refine zae.of hcl ?_)
     | (refine zg3.actions g rfl ?_)
     | (refine zpq.mk ⟨_,hf,?_⟩<;>(dsimp only;rw [hr]))
     | (refine Cmp.tt (by assumption) ?_)
     | (refine Cmp.ff (by assumption) ?_)
     | (refine zae.of (za7 g _ _) ?_)
     | (refine zae.of (zbx g _ _ _) ?_)
     | (refine Cmp.tt (he.symm.trans hz) ?_)
     | (refine Cmp.ff (fun h=>hz (he.trans h)) ?_)
     | (refine zaf.to (ih hz) rfl rfl)
     | (refine(hK _ _).mpr ?_)
     | (refine Ret.mk ((fin _ _ _ he).2 (fun h=>hz (he.trans h)))))
  ·have hlp:k-1<ls.length:=by omega
   have hp:zdq ls k=some ls[k-1]:=by simp [zdq,h0,hlp]
   have ht:=yds g ls[k-1].rq ls[k].rq
   by_cases hC:ls[k-1].ac=[67]
   ·by_cases hR:ls[k].ac=[82]
    ·cases htw:zsf ls[k-1].rq ls[k].rq
     all_goals rw [htw] at ht
     ·have he:lnE kind (zdq ls k) ls[k]=zap [zrc ls[k],18,11]:=by
       unfold lnE
       rw [hp,if_neg hk]
       simp [hR,hC,htw,zj7,zqj]
      by_cases hz:lnE kind (zdq ls k) ls[k]=0
      all_goals repeat' ((conv=>whnf);first
      | refine Yz ?_
       | (refine zal.rec Lnt.cells_length k rfl hlt ?_)
       | (refine zae.of hcl ?_)
       | (refine zg3.actions g rfl ?_)
       | (refine zpq.mk ⟨_,hf,?_⟩<;>(dsimp only;rw [hr]))
       | (refine zg4.rec Lnt.cells_length (k-1) (by omega) hlp rfl ?_)
       | (refine zal.part Lnt.cells_length (k-1) (by omega) hlp (by decide) rfl ?_)
       | (refine zae.of ht ?_)
       | (refine Cmp.tt (by assumption) ?_)
       | (refine Cmp.ff (by assumption) ?_)
       | (refine zae.of (za7 g _ _) ?_)
       | (refine zae.of (zbx g _ _ _) ?_)
       | (refine Cmp.tt (he.symm.trans hz) ?_)
       | (refine Cmp.ff (fun h=>hz (he.trans h)) ?_)
       | (refine zaf.to (ih hz) rfl rfl)
       | (refine(hK _ _).mpr ?_)
       | (refine Ret.mk ((fin _ _ _ he).2 (fun h=>hz (he.trans h)))))
     ·have he:lnE kind (zdq ls k) ls[k]=zap [zrc ls[k],18,0]:=by
       unfold lnE
       rw [hp,if_neg hk]
       simp [hR,hC,htw,zj7,zqj]
      by_cases hz:lnE kind (zdq ls k) ls[k]=0
      all_goals repeat' ((conv=>whnf);first
      | refine Yz ?_
       | (refine zal.rec Lnt.cells_length k rfl hlt ?_)
       | (refine zae.of hcl ?_)
       | (refine zg3.actions g rfl ?_)
       | (refine zpq.mk ⟨_,hf,?_⟩<;>(dsimp only;rw [hr]))
       | (refine zg4.rec Lnt.cells_length (k-1) (by omega) hlp rfl ?_)
       | (refine zal.part Lnt.cells_length (k-1) (by omega) hlp (by decide) rfl ?_)
       | (refine zae.of ht ?_)
       | (refine Cmp.tt (by assumption) ?_)
       | (refine Cmp.ff (by assumption) ?_)
       | (refine zae.of (za7 g _ _) ?_)
       | (refine zae.of (zbx g _ _ _) ?_)
       | (refine Cmp.tt (he.symm.trans hz) ?_)
       | (refine Cmp.ff (fun h=>hz (he.trans h)) ?_)
       | (refine zaf.to (ih hz) rfl rfl)
       | (refine(hK _ _).mpr ?_)
       | (refine Ret.mk ((fin _ _ _ he).2 (fun h=>hz (he.trans h)))))
    ·have he:lnE kind (zdq ls k) ls[k]=zap [zrc ls[k],18,11]:=by
      unfold lnE
      rw [hp,if_neg hk]
      simp [hR,hC,zj7,zqj]
     by_cases hz:lnE kind (zdq ls k) ls[k]=0
     all_goals repeat' ((conv=>whnf);first
     | refine Yz ?_
      | (refine zal.rec Lnt.cells_length k rfl hlt ?_)
      | (refine zae.of hcl ?_)
      | (refine zg3.actions g rfl ?_)
      | (refine zpq.mk ⟨_,hf,?_⟩<;>(dsimp only;rw [hr]))
      | (refine zg4.rec Lnt.cells_length (k-1) (by omega) hlp rfl ?_)
      | (refine zal.part Lnt.cells_length (k-1) (by omega) hlp (by decide) rfl ?_)
      | (refine zae.of ht ?_)
      | (refine Cmp.tt (by assumption) ?_)
      | (refine Cmp.ff (by assumption) ?_)
      | (refine zae.of (za7 g _ _) ?_)
      | (refine zae.of (zbx g _ _ _) ?_)
      | (refine Cmp.tt (he.symm.trans hz) ?_)
      | (refine Cmp.ff (fun h=>hz (he.trans h)) ?_)
      | (refine zaf.to (ih hz) rfl rfl)
      | (refine(hK _ _).mpr ?_)
      | (refine Ret.mk ((fin _ _ _ he).2 (fun h=>hz (he.trans h)))))
   ·by_cases hR:ls[k].ac=[82]
    ·have he:lnE kind (zdq ls k) ls[k]=zap [zrc ls[k],18,11]:=by
      unfold lnE
      rw [hp,if_neg hk]
      simp [hR,hC,zj7,zqj]
     by_cases hz:lnE kind (zdq ls k) ls[k]=0
     all_goals repeat' ((conv=>whnf);first
     | refine Yz ?_
      | (refine zal.rec Lnt.cells_length k rfl hlt ?_)
      | (refine zae.of hcl ?_)
      | (refine zg3.actions g rfl ?_)
      | (refine zpq.mk ⟨_,hf,?_⟩<;>(dsimp only;rw [hr]))
      | (refine zg4.rec Lnt.cells_length (k-1) (by omega) hlp rfl ?_)
      | (refine zal.part Lnt.cells_length (k-1) (by omega) hlp (by decide) rfl ?_)
      | (refine zae.of ht ?_)
      | (refine Cmp.tt (by assumption) ?_)
      | (refine Cmp.ff (by assumption) ?_)
      | (refine zae.of (za7 g _ _) ?_)
      | (refine zae.of (zbx g _ _ _) ?_)
      | (refine Cmp.tt (he.symm.trans hz) ?_)
      | (refine Cmp.ff (fun h=>hz (he.trans h)) ?_)
      | (refine zaf.to (ih hz) rfl rfl)
      | (refine(hK _ _).mpr ?_)
      | (refine Ret.mk ((fin _ _ _ he).2 (fun h=>hz (he.trans h)))))
    ·have he:lnE kind (zdq ls k) ls[k]=zap [zrc ls[k],18,0]:=by
      unfold lnE
      rw [hp,if_neg hk]
      simp [hR,hC,zj7,zqj]
     by_cases hz:lnE kind (zdq ls k) ls[k]=0
     all_goals repeat' ((conv=>whnf);first
     | refine Yz ?_
      | (refine zal.rec Lnt.cells_length k rfl hlt ?_)
      | (refine zae.of hcl ?_)
      | (refine zg3.actions g rfl ?_)
      | (refine zpq.mk ⟨_,hf,?_⟩<;>(dsimp only;rw [hr]))
      | (refine zg4.rec Lnt.cells_length (k-1) (by omega) hlp rfl ?_)
      | (refine zal.part Lnt.cells_length (k-1) (by omega) hlp (by decide) rfl ?_)
      | (refine zae.of ht ?_)
      | (refine Cmp.tt (by assumption) ?_)
      | (refine Cmp.ff (by assumption) ?_)
      | (refine zae.of (za7 g _ _) ?_)
      | (refine zae.of (zbx g _ _ _) ?_)
      | (refine Cmp.tt (he.symm.trans hz) ?_)
      | (refine Cmp.ff (fun h=>hz (he.trans h)) ?_)
      | (refine zaf.to (ih hz) rfl rfl)
      | (refine(hK _ _).mpr ?_)
      | (refine Ret.mk ((fin _ _ _ he).2 (fun h=>hz (he.trans h)))))
end
end Go.Proofs.YtkgcnknhkobmjaaGreatDoor.Co
