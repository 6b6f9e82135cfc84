/-
  TopTowerServed: what its law leans on, part 10.
-/
import Derived.Laws.RangeAny
import Derived.Lib.SplitLaws
import Derived.Test.YtkgcnknhkobmjaaGreatDoorEvX
import Derived.Test.YtkgcnknhkobmjaaGreatDoorRead
import Derived.Test.YtkgcnknhkobmjaaGreatDoorSpBase
import Derived.Test.YtkgcnknhkobmjaaGreatDoorTsi
namespace Go.Proofs.YtkgcnknhkobmjaaGreatDoor.Co
open Go Go.Evl
set_option maxHeartbeats 32000000
set_option maxRecDepth 100000
abbrev oA (l:List Ent):Mem:=[(⟨0,2,0⟩,.row true zaa 15 0 []),(⟨0,5,0⟩,.row true zaa 15 l.length (l.flatMap Ent.cells))]
abbrev oB (l1:List Ent) (c:Nat) (l:List Ent):Mem:=[(⟨0,2,0⟩,.row true zaa 15 0 []),(⟨0,5,0⟩,.row true zaa 15 l1.length (l1.flatMap Ent.cells)),(⟨0,75,c⟩,.row true zaa 15 l.length (l.flatMap Ent.cells))]
abbrev eO (ms:List Mst) (o:Evl.Id) (n i:Nat):Env:=[(0,LMs ms),(5,.ref o 0 n n),(6,I ((i-1:Nat):Int)),(7,I 0),(16,LMs ms),(17,I ms.length),(18,I i)]
section
variable {E : Oracle} (g : Good E)
include g
theorem ygi (f p m:Mst) (b1 b2 b3:Bool) (h1:b1= !decide (m.ki=REQ)) (h2:b2= !decide (m.ai=f.ai/\m.se=f.se)) (h3:b3=decide (m.da<p.da)):Fc E zax [.d (.list 4 [DI (ztk m),DI (if b1=true then 13 else 0),DI (if b2=true then 29 else 0),DI (if b3=true then 11 else 0)])] (I (z98 f p m)):=by
 have h:=ylz g (ztk m) (if b1=true then 13 else 0) (if b2=true then 29 else 0) (if b3=true then 11 else 0)
 have e:z98 f p m=zap [ztk m,if b1=true then 13 else 0,if b2=true then 29 else 0,if b3=true then 11 else 0]:=by
  unfold z98
  congr 1
  subst h1 h2 h3
  by_cases q1:m.ki=REQ<;>by_cases q2:m.ai=f.ai/\m.se=f.se<;>by_cases q3:m.da<p.da<;>simp [q1,q2,q3]
 rw [e]
 exact h
theorem yh6 (ms:List Mst) (hms:ms.length<=1000) (hls:∀m∈ms,m.ls.length<=1000000):Fc E zgy [LMs ms] (.tup [LE (ym8 ms).1,I ((ym8 ms).2.1:Nat),I (ym8 ms).2.2]):=by
 refine g.fn rfl rfl ?_
 by_cases h64:64<ms.length
 ·unfold ym8
  rw [if_pos h64]
  repeat' ((conv=>whnf);first
  | refine Yz ?_
   | (refine Ret.mk rfl))
 ·by_cases h0:ms.length=0
  ·obtain rfl:=List.length_eq_zero_iff.1 h0
   repeat' ((conv=>whnf);first
   | refine Yz ?_
    | (refine zaf.step g.lim ?_)
    | (refine Ret.mk rfl))
  ·have hpos:0<ms.length:=by omega
   generalize hR:V.tup [LE (ym8 ms).1,I ((ym8 ms).2.1:Nat),I (ym8 ms).2.2]=R
   rw [yr6 hpos (by omega)] at hR
   rw [zy0 hpos] at hR
   repeat' ((conv=>whnf);first
   | refine Yz ?_)
   refine zaf.to (zaf.by (σ:=Option (List Ent×Nat)×List Ent×Nat) g (fun s=>s.2.1.length<=64/\s.2.2<=ms.length/\yga ms[0] ms[0] 0 [] ms=yga ms[0] (ms.getD (s.2.2-1) ymv) s.2.2 s.2.1 (ms.drop s.2.2)) (fun s=>match s.1 with|none=>eO ms ⟨0,5,0⟩ s.2.1.length s.2.2|some q=>eO ms ⟨0,75,q.2⟩ s.2.1.length s.2.2) (fun s=>match s.1 with|none=>oA s.2.1|some q=>oB q.1 q.2 s.2.1) (fun s=>ms.length-s.2.2) ?_ (none,[],0) ⟨by simp,Nat.zero_le _,by rw [show 0-1=0 from rfl,zy0 hpos];rfl⟩) rfl rfl
   rintro⟨_|⟨l1,d⟩,out,i⟩ ⟨hout,hi,hr⟩ ih
   ·dsimp only at hout hi hr ih ⊢
    rw [hr] at hR
    by_cases hlt:i<ms.length
    ·have hp:i-1<ms.length:=by omega
     have hmem:=List.getElem_mem hlt
     have hC:=ztr g ms[i] (hls _ hmem)
     have hW:=ygi g ms[0] ms[i-1] ms[i] _ _ _ rfl rfl rfl
     rw [zy0 hp] at hR hr
     rw [zw7 hlt] at hR
     by_cases hz:z98 ms[0] ms[i-1] ms[i]=0
     ·rw [if_pos hz] at hR
      have hrd:=fun(h2:(zu0 ms[i].da out ms[i].ls).2=0)=>by
       have e:=hr
       rw [zw7 hlt,if_pos hz,if_pos h2] at e
       exact e
      rw [hz] at hW
      have hz':=hz
      unfold z98 at hz'
      rw [za5] at hz'
      have hzc:=hz' (ztk ms[i]) (by simp)
      have hk:ms[i].ki=REQ:=Decidable.byContradiction fun hn=>by have:=hz' (if ms[i].ki=REQ then 0 else 13) (by simp);rw [if_neg hn] at this;cases this
      have hh:ms[i].ai=ms[0].ai/\ms[i].se=ms[0].se:=Decidable.byContradiction fun hn=>by have:=hz' (if ms[i].ai=ms[0].ai/\ms[i].se=ms[0].se then 0 else 29) (by simp);rw [if_neg hn] at this;cases this
      have hd:¬ms[i].da<ms[i-1].da:=fun hn=>by have:=hz' (if ms[i].da<ms[i-1].da then 11 else 0) (by simp);rw [if_pos hn] at this;cases this
      rw [decide_eq_true hk,decide_eq_true hh,decide_eq_false hd] at hW
      obtain⟨ha,hs⟩:=hh
      have ok:=z7x ms[i].da ms[i].ls out none 0 (by have:=(z0a.1 hzc).ok;rw [hk] at this;exact this) (fun y hy=>by cases hy)
      generalize hres:zu0 ms[i].da out ms[i].ls=res at hR hrd
      have hin:=fun {K}=>ype g ms i ms[i] ms[i-1] out hout (hls _ hmem) ok res hres (K:=K)
      have hbad:∀e:Int,e≠0->res.2=e->V.tup [LE [],I (i:Nat),I e]=R:=fun e h1 h2=>by
       rw [if_neg (show ¬res.2=0 by rw [h2];exact h1),h2] at hR
       exact hR
      clear hz' hR ok hres
      repeat' ((conv=>whnf);first
      | refine Yz ?_
       | (refine zal.rec Mst.cells_length i rfl hlt ?_)
       | (refine zal.rec Mst.cells_length (i-1) (by omega) hp ?_)
       | (refine zg4.rec Mst.cells_length 0 rfl hpos rfl ?_)
       | (refine zae.of (za7 g _ _) ?_)
       | (refine zae.of hC ?_)
       | (refine zae.of hW ?_)
       | (refine Cmp.tt hk ?_)
       | (refine Cmp.tt ha ?_)
       | (refine Cmp.tt hs ?_)
       | (refine Cmp.ff hd ?_)
       | (refine zaf.to (hin (fun l h1 h2=> ?_) (fun l l1 c h1 h2=> ?_) (fun l x e k h1 h2=> ?_) (fun l l1 c x e k h1 h2=> ?_)) rfl rfl)
       | fail)
      ·refine⟨?_⟩
       have ih:=ih (none,l,i+1) ⟨h2,by dsimp only;omega,by dsimp only;rw [hrd (by rw [h1]),h1,Nat.add_sub_cancel,zy0 hlt]⟩ (by dsimp only;omega)
       dsimp only at ih
       repeat' ((conv=>whnf);first
       | refine Yz ?_
        | (refine zaf.to ih rfl rfl))
      ·refine⟨?_⟩
       have ih:=ih (some (l1,c),l,i+1) ⟨h2,by dsimp only;omega,by dsimp only;rw [hrd (by rw [h1]),h1,Nat.add_sub_cancel,zy0 hlt]⟩ (by dsimp only;omega)
       dsimp only at ih
       repeat' ((conv=>whnf);first
       | refine Yz ?_
        | (refine Mt _ (Nat.beq_refl _) ?_)
        | ((refine Mt _ ?_ ?_);focus ((repeat' (first |exact zan rfl|exact zan (Nat.beq_refl _)|((refine zam ?h ?_);(case h=>first |rfl|assumption))));done))
        | ((refine Mf _ ?_ ?_);focus ((repeat' (first |exact rfl|((refine zam ?h ?_);(case h=>first |rfl|assumption))));done))
        | (refine zaf.to ih rfl rfl))
      ·refine⟨?_⟩
       have hb:=hbad e h1 h2
       repeat' ((conv=>whnf);first
       | refine Yz ?_
        | (refine Cmp.ff h1 ?_)
        | (refine Ret.mk hb))
      ·refine⟨?_⟩
       have hb:=hbad e h1 h2
       repeat' ((conv=>whnf);first
       | refine Yz ?_
        | (refine Cmp.ff h1 ?_)
        | (refine Ret.mk hb))
     ·rw [if_neg hz] at hR
      rw [<-hR]
      generalize z98 ms[0] ms[i-1] ms[i]=e at *
      clear ih hr hmem
      by_cases hk:ms[i].ki=REQ<;>by_cases ha:ms[i].ai=ms[0].ai<;>by_cases hs:ms[i].se=ms[0].se<;>by_cases hd:ms[i].da<ms[i-1].da
      all_goals
       first |rw [decide_eq_true hk] at hW|rw [decide_eq_false hk] at hW
       first |rw [decide_eq_true (show ms[i].ai=ms[0].ai/\ms[i].se=ms[0].se from ⟨ha,hs⟩)] at hW|rw [decide_eq_false (show ¬(ms[i].ai=ms[0].ai/\ms[i].se=ms[0].se) from fun h=>ha h.1)] at hW|rw [decide_eq_false (show ¬(ms[i].ai=ms[0].ai/\ms[i].se=ms[0].se) from fun h=>hs h.2)] at hW
       first |rw [decide_eq_true hd] at hW|rw [decide_eq_false hd] at hW
       repeat' ((conv=>whnf);first
       | refine Yz ?_
        | (refine zal.rec Mst.cells_length i rfl hlt ?_)
        | (refine zal.rec Mst.cells_length (i-1) (by omega) hp ?_)
        | (refine zg4.rec Mst.cells_length 0 rfl hpos rfl ?_)
        | (refine zae.of (za7 g _ _) ?_)
        | (refine zae.of hC ?_)
        | (refine zae.of hW ?_)
        | (refine Cmp.tt hk ?_)
        | (refine Cmp.ff hk ?_)
        | (refine Cmp.tt ha ?_)
        | (refine Cmp.ff ha ?_)
        | (refine Cmp.tt hs ?_)
        | (refine Cmp.ff hs ?_)
        | (refine Cmp.tt hd ?_)
        | (refine Cmp.ff hd ?_)
        | (refine Cmp.ff hz ?_)
        | (refine Ret.mk rfl))
    ·obtain rfl:i=ms.length:=by omega
     rw [List.drop_length,yga] at hR
     rw [<-hR]
     repeat' ((conv=>whnf);first
     | refine Yz ?_
      | (rw [if_pos (⟨rfl,rfl⟩:_/\_)])
      | (refine Ret.mk rfl))
   ·dsimp only at hout hi hr ih ⊢
    rw [hr] at hR
    by_cases hlt:i<ms.length
    ·have hp:i-1<ms.length:=by omega
     have hmem:=List.getElem_mem hlt
     have hC:=ztr g ms[i] (hls _ hmem)
     have hW:=ygi g ms[0] ms[i-1] ms[i] _ _ _ rfl rfl rfl
     rw [zy0 hp] at hR hr
     rw [zw7 hlt] at hR
     by_cases hz:z98 ms[0] ms[i-1] ms[i]=0
     ·rw [if_pos hz] at hR
      have hrd:=fun(h2:(zu0 ms[i].da out ms[i].ls).2=0)=>by
       have e:=hr
       rw [zw7 hlt,if_pos hz,if_pos h2] at e
       exact e
      rw [hz] at hW
      have hz':=hz
      unfold z98 at hz'
      rw [za5] at hz'
      have hzc:=hz' (ztk ms[i]) (by simp)
      have hk:ms[i].ki=REQ:=Decidable.byContradiction fun hn=>by have:=hz' (if ms[i].ki=REQ then 0 else 13) (by simp);rw [if_neg hn] at this;cases this
      have hh:ms[i].ai=ms[0].ai/\ms[i].se=ms[0].se:=Decidable.byContradiction fun hn=>by have:=hz' (if ms[i].ai=ms[0].ai/\ms[i].se=ms[0].se then 0 else 29) (by simp);rw [if_neg hn] at this;cases this
      have hd:¬ms[i].da<ms[i-1].da:=fun hn=>by have:=hz' (if ms[i].da<ms[i-1].da then 11 else 0) (by simp);rw [if_pos hn] at this;cases this
      rw [decide_eq_true hk,decide_eq_true hh,decide_eq_false hd] at hW
      obtain⟨ha,hs⟩:=hh
      have ok:=z7x ms[i].da ms[i].ls out none 0 (by have:=(z0a.1 hzc).ok;rw [hk] at this;exact this) (fun y hy=>by cases hy)
      generalize hres:zu0 ms[i].da out ms[i].ls=res at hR hrd
      have hin:=fun {K}=>ypf g ms i ms[i] ms[i-1] l1 d out hout (hls _ hmem) ok res hres (K:=K)
      have hbad:∀e:Int,e≠0->res.2=e->V.tup [LE [],I (i:Nat),I e]=R:=fun e h1 h2=>by
       rw [if_neg (show ¬res.2=0 by rw [h2];exact h1),h2] at hR
       exact hR
      clear hz' hR ok hres
      repeat' ((conv=>whnf);first
      | refine Yz ?_
       | (refine Mt _ (Nat.beq_refl _) ?_)
       | ((refine Mt _ ?_ ?_);focus ((repeat' (first |exact zan rfl|exact zan (Nat.beq_refl _)|((refine zam ?h ?_);(case h=>first |rfl|assumption))));done))
       | ((refine Mf _ ?_ ?_);focus ((repeat' (first |exact rfl|((refine zam ?h ?_);(case h=>first |rfl|assumption))));done))
       | (refine zal.rec Mst.cells_length i rfl hlt ?_)
       | (refine zal.rec Mst.cells_length (i-1) (by omega) hp ?_)
       | (refine zg4.rec Mst.cells_length 0 rfl hpos rfl ?_)
       | (refine zae.of (za7 g _ _) ?_)
       | (refine zae.of hC ?_)
       | (refine zae.of hW ?_)
       | (refine Cmp.tt hk ?_)
       | (refine Cmp.tt ha ?_)
       | (refine Cmp.tt hs ?_)
       | (refine Cmp.ff hd ?_)
       | (refine zaf.to (hin (fun l h1 h2=> ?_) (fun l l2 c h1 h2 h3=> ?_) (fun l x e k h1 h2=> ?_) (fun l l2 c x e k h1 h2 h3=> ?_)) rfl rfl)
       | fail)
      ·refine⟨?_⟩
       have ih:=ih (some (l1,d),l,i+1) ⟨h2,by dsimp only;omega,by dsimp only;rw [hrd (by rw [h1]),h1,Nat.add_sub_cancel,zy0 hlt]⟩ (by dsimp only;omega)
       dsimp only at ih
       repeat' ((conv=>whnf);first
       | refine Yz ?_
        | (refine Mt _ (Nat.beq_refl _) ?_)
        | ((refine Mt _ ?_ ?_);focus ((repeat' (first |exact zan rfl|exact zan (Nat.beq_refl _)|((refine zam ?h ?_);(case h=>first |rfl|assumption))));done))
        | ((refine Mf _ ?_ ?_);focus ((repeat' (first |exact rfl|((refine zam ?h ?_);(case h=>first |rfl|assumption))));done))
        | (refine zaf.to ih rfl rfl))
      ·refine⟨?_⟩
       have b1:Nat.beq d c=false:=zmi (by omega)
       have b2:Nat.beq c d=false:=zmi (by omega)
       have ih:=ih (some (l1,c),l,i+1) ⟨h2,by dsimp only;omega,by dsimp only;rw [hrd (by rw [h1]),h1,Nat.add_sub_cancel,zy0 hlt]⟩ (by dsimp only;omega)
       dsimp only at ih
       repeat' ((conv=>whnf);first
       | refine Yz ?_
        | (refine Mt _ (Nat.beq_refl _) ?_)
        | (refine Mf _ b1 ?_)
        | (refine Mf _ b2 ?_)
        | ((refine Mt _ ?_ ?_);focus ((repeat' (first |exact zan rfl|exact zan (Nat.beq_refl _)|((refine zam ?h ?_);(case h=>first |rfl|assumption))));done))
        | ((refine Mf _ ?_ ?_);focus ((repeat' (first |exact rfl|((refine zam ?h ?_);(case h=>first |rfl|assumption))));done))
        | (refine zaf.to ih rfl rfl))
      ·refine⟨?_⟩
       have hb:=hbad e h1 h2
       repeat' ((conv=>whnf);first
       | refine Yz ?_
        | (refine Cmp.ff h1 ?_)
        | (refine Ret.mk hb))
      ·refine⟨?_⟩
       have hb:=hbad e h1 h2
       repeat' ((conv=>whnf);first
       | refine Yz ?_
        | (refine Cmp.ff h1 ?_)
        | (refine Ret.mk hb))
     ·rw [if_neg hz] at hR
      rw [<-hR]
      generalize z98 ms[0] ms[i-1] ms[i]=e at *
      clear ih hr hmem
      by_cases hk:ms[i].ki=REQ<;>by_cases ha:ms[i].ai=ms[0].ai<;>by_cases hs:ms[i].se=ms[0].se<;>by_cases hd:ms[i].da<ms[i-1].da
      all_goals
       first |rw [decide_eq_true hk] at hW|rw [decide_eq_false hk] at hW
       first |rw [decide_eq_true (show ms[i].ai=ms[0].ai/\ms[i].se=ms[0].se from ⟨ha,hs⟩)] at hW|rw [decide_eq_false (show ¬(ms[i].ai=ms[0].ai/\ms[i].se=ms[0].se) from fun h=>ha h.1)] at hW|rw [decide_eq_false (show ¬(ms[i].ai=ms[0].ai/\ms[i].se=ms[0].se) from fun h=>hs h.2)] at hW
       first |rw [decide_eq_true hd] at hW|rw [decide_eq_false hd] at hW
       repeat' ((conv=>whnf);first
       | refine Yz ?_
        | (refine Mt _ (Nat.beq_refl _) ?_)
        | ((refine Mt _ ?_ ?_);focus ((repeat' (first |exact zan rfl|exact zan (Nat.beq_refl _)|((refine zam ?h ?_);(case h=>first |rfl|assumption))));done))
        | ((refine Mf _ ?_ ?_);focus ((repeat' (first |exact rfl|((refine zam ?h ?_);(case h=>first |rfl|assumption))));done))
        | (refine zal.rec Mst.cells_length i rfl hlt ?_)
        | (refine zal.rec Mst.cells_length (i-1) (by omega) hp ?_)
        | (refine zg4.rec Mst.cells_length 0 rfl hpos rfl ?_)
        | (refine zae.of (za7 g _ _) ?_)
        | (refine zae.of hC ?_)
        | (refine zae.of hW ?_)
        | (refine Cmp.tt hk ?_)
        | (refine Cmp.ff hk ?_)
        | (refine Cmp.tt ha ?_)
        | (refine Cmp.ff ha ?_)
        | (refine Cmp.tt hs ?_)
        | (refine Cmp.ff hs ?_)
        | (refine Cmp.tt hd ?_)
        | (refine Cmp.ff hd ?_)
        | (refine Cmp.ff hz ?_)
        | (refine Ret.mk rfl))
    ·obtain rfl:i=ms.length:=by omega
     rw [List.drop_length,yga] at hR
     rw [<-hR]
     repeat' ((conv=>whnf);first
     | refine Yz ?_
      | (rw [if_pos (⟨rfl,rfl⟩:_/\_)])
      | (refine Mt _ (Nat.beq_refl _) ?_)
      | ((refine Mt _ ?_ ?_);focus ((repeat' (first |exact zan rfl|exact zan (Nat.beq_refl _)|((refine zam ?h ?_);(case h=>first |rfl|assumption))));done))
      | ((refine Mf _ ?_ ?_);focus ((repeat' (first |exact rfl|((refine zam ?h ?_);(case h=>first |rfl|assumption))));done))
      | (refine Ret.mk rfl))
end
end Go.Proofs.YtkgcnknhkobmjaaGreatDoor.Co
