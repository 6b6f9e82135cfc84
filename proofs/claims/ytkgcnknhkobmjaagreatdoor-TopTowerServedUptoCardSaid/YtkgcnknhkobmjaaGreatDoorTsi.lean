/-
  TopTowerServed: what its law leans on, part 9.
-/
import Derived.Laws.RangeAny
import Derived.Lib.SplitLaws
import Derived.Test.YtkgcnknhkobmjaaGreatDoorEvX
import Derived.Test.YtkgcnknhkobmjaaGreatDoorRead
import Derived.Test.YtkgcnknhkobmjaaGreatDoorSpBase
import Derived.Test.YtkgcnknhkobmjaaGreatDoorTsh
namespace Go.Proofs.YtkgcnknhkobmjaaGreatDoor.Co
open Go Go.Evl
set_option maxHeartbeats 32000000
set_option maxRecDepth 100000
abbrev mC (a b:Mst) (l1:List Ent) (c:Nat) (l:List Ent) (x:Lnt):Mem:=[(⟨0,2,0⟩,.row true zaa 15 0 []),(⟨0,5,0⟩,.row true zaa 15 l1.length (l1.flatMap Ent.cells)),(⟨0,75,c⟩,.row true zaa 15 l.length (l.flatMap Ent.cells)),(⟨0,9,0⟩,.cells zab (msV a)),(⟨0,10,0⟩,.cells zab (msV b)),(⟨0,12,0⟩,.cells zac (lnV x))]
abbrev nC (a b:Mst) (l1:List Ent) (c:Nat) (l:List Ent) (x:Lnt):Mem:=[(⟨0,2,0⟩,.row true zaa 15 0 []),(⟨0,5,0⟩,.row true zaa 15 l1.length (l1.flatMap Ent.cells)),(⟨0,75,c⟩,.row true zaa 15 l.length (l.flatMap Ent.cells)),(⟨0,9,0⟩,.cells zab (msV a)),(⟨0,10,0⟩,.cells zab (msV b)),(⟨0,12,0⟩,.cells zac (lnV x)),(⟨1,4,0⟩,.cells zac (lnV x)),(⟨1,6,0⟩,.row true zaa 15 0 [])]
abbrev pC (a b:Mst) (l1:List Ent) (c:Nat) (l:List Ent) (x:Lnt):Mem:=[(⟨0,2,0⟩,.row true zaa 15 0 []),(⟨0,5,0⟩,.row true zaa 15 l1.length (l1.flatMap Ent.cells)),(⟨0,75,c⟩,.row true zaa 15 l.length (l.flatMap Ent.cells)),(⟨0,9,0⟩,.cells zab (msV a)),(⟨0,10,0⟩,.cells zab (msV b)),(⟨0,12,0⟩,.cells zac (lnV x)),(⟨1,4,0⟩,.cells zac (lnV x)),(⟨1,6,0⟩,.row true zaa 15 0 []),(⟨2,3,0⟩,.cells zbl [S x.rq.nm])]
section
variable {E : Oracle} (g : Good E)
include g
theorem yn6 (a b:Mst) (l1:List Ent) (c:Nat) (l:List Ent) (x:Lnt) (hl:l.length<=64) {K:V->Mem->Prop} (hK:K (I (zrg x.rq.nm l)) (pC a b l1 c l x)):In E 2 zcw [.ref ⟨0,75,c⟩ 0 l.length l.length,S x.rq.nm] (nC a b l1 c l x) K:=by
 refine In.enter (f:=zcw) g.lim rfl rfl ?_
 repeat' ((conv=>whnf);first
 | refine Yz ?_
  | (refine Mt _ (Nat.beq_refl _) ?_)
  | ((refine Mt _ ?_ ?_);focus ((repeat' (first |exact zan rfl|exact zan (Nat.beq_refl _)|((refine zam ?h ?_);(case h=>first |rfl|assumption))));done))
  | (refine In.enter (f:=zaq) g.lim rfl rfl ?_))
 refine zaf.to (zaf.upP g (fun k=>[(0,.ref ⟨0,75,c⟩ 0 l.length l.length),(1,.fn za9 [] [.ptr ⟨2,3,0⟩ 0 0]),(7,I l.length),(8,I k)]) (fun _=>pC a b l1 c l x) (fun k=>∀(j:Nat) (hj:j<l.length),j<k->¬l[j].rq.nm=x.rq.nm) l.length (fun k hk hp ih=> ?_) 0 (Nat.zero_le _) (fun j _ h=>absurd h (Nat.not_lt_zero _))) rfl rfl
 by_cases hlt:k<l.length
 ·by_cases he:l[k].rq.nm=x.rq.nm
  ·have e:zrg x.rq.nm l=k:=by unfold zrg;rw [yak hlt hp he]
   rw [e] at hK
   repeat' ((conv=>whnf);first
   | refine Yz ?_
    | (refine zal.rec0 Ent.cells_length k rfl hlt ?_)
    | (refine In.enter (f:=za9) g.lim rfl rfl ?_)
    | (refine Cmp.tt he ?_)
     | (refine Mt _ (Nat.beq_refl _) ?_)
     | ((refine Mt _ ?_ ?_);focus ((repeat' (first |exact zan rfl|exact zan (Nat.beq_refl _)|((refine zam ?h ?_);(case h=>first |rfl|assumption))));done))
    | (exact hK))
  ·have ih:=ih hlt fun j hj hjk=>by
    by_cases e:j=k
    ·subst e;exact he
    ·exact hp j hj (by omega)
   repeat' ((conv=>whnf);first
   | refine Yz ?_
    | (refine zal.rec0 Ent.cells_length k rfl hlt ?_)
    | (refine In.enter (f:=za9) g.lim rfl rfl ?_)
    | (refine Cmp.ff he ?_)
     | (refine Mt _ (Nat.beq_refl _) ?_)
     | ((refine Mt _ ?_ ?_);focus ((repeat' (first |exact zan rfl|exact zan (Nat.beq_refl _)|((refine zam ?h ?_);(case h=>first |rfl|assumption))));done))
    | (refine zaf.to ih rfl rfl))
 ·have e:zrg x.rq.nm l= -1:=by unfold zrg;rw [z2y fun j hj=>hp j hj (by omega)]
  rw [e] at hK
  repeat' ((conv=>whnf);first
  | refine Yz ?_
     | (refine Mt _ (Nat.beq_refl _) ?_)
     | ((refine Mt _ ?_ ?_);focus ((repeat' (first |exact zan rfl|exact zan (Nat.beq_refl _)|((refine zam ?h ?_);(case h=>first |rfl|assumption))));done))
   | (exact hK))
theorem yob (a b:Mst) (l1:List Ent) (c:Nat) (l:List Ent) (x:Lnt) (da:Int) (hl:l.length<=64) (hr:x.ac=[82]->(plc x.rq.nm l).isSome) {K:V->Mem->Prop}
  (hE:∀e:Int,zm7 l x=e->e≠0->K (.tup [.ref ⟨1,6,1⟩ 0 0 0,I e]) (nC a b l1 c l x++[(⟨1,6,1⟩,.row true zaa 15 0 [])]))
  (hS:zm7 l x=0->x.ac≠[68]->K (.tup [.ref ⟨0,75,c⟩ 0 (zja l x da).length (zja l x da).length,I 0]) (nC a b l1 c (zja l x da) x))
  (hD:zm7 l x=0->x.ac=[68]->K (.tup [.ref ⟨1,74,0⟩ 0 (zja l x da).length (zja l x da).length,I 0]) (nC a b l1 c l x++[(⟨1,74,0⟩,.row true zaa 15 (zja l x da).length ((zja l x da).flatMap Ent.cells))])):
  In E 1 zcx [.ref ⟨0,75,c⟩ 0 l.length l.length,Lnv x,I da] (mC a b l1 c l x) K:=by
 have hF:=fun {K}=>yn6 g a b l1 c l x hl (K:=K)
 have hfl:=fun(_:Unit)=>zah Ent.cells 15 Ent.cells_length l
 obtain⟨s,q⟩:=x
 dsimp only at hr hF hS hD
 refine In.enter (f:=zcx) g.lim rfl rfl ?_
 cases hp:plc q.nm l with
 | none=>
  have e:zrg q.nm l= -1:=by unfold zrg;rw [hp]
  rw [e] at hF
  by_cases h1:s=[78]\/s=[72]
  ·obtain⟨eE,eL⟩:=z8m (da:=da) hp h1
   by_cases h64:64<=l.length
   ·have hE:=hE 5 (by rw [eE,if_pos h64]) (by decide)
    rcases h1 with rfl|rfl
    all_goals
     repeat' ((conv=>whnf);first
     | refine Yz ?_
       | (refine Mt _ (Nat.beq_refl _) ?_)
       | ((refine Mt _ ?_ ?_);focus ((repeat' (first |exact zan rfl|exact zan (Nat.beq_refl _)|((refine zam ?h ?_);(case h=>first |rfl|assumption))));done))
      | (refine hF ?_)
      | (refine Cmp.tt rfl ?_)
      | (refine Cmp.ff (by intro h;cases h) ?_)
      | (refine zae.of (za7 g _ _) ?_)
      | (refine zae.of (zcs g _ _) ?_)
      | (exact hE))
   ·rw [if_neg h64] at eE
    rcases h1 with rfl|rfl
    all_goals
     have hS:=hS eE (by decide)
     rw [eL] at hS
     dsimp only [nC] at hS
     rw [List.length_append,List.flatMap_append] at hS
     repeat' ((conv=>whnf);first
     | refine Yz ?_
       | (refine Mt _ (Nat.beq_refl _) ?_)
       | ((refine Mt _ ?_ ?_);focus ((repeat' (first |exact zan rfl|exact zan (Nat.beq_refl _)|((refine zam ?h ?_);(case h=>first |rfl|assumption))));done))
      | (refine hF ?_)
      | (refine Cmp.tt rfl ?_)
      | (refine Cmp.ff (by intro h;cases h) ?_)
      | (refine zae.of (za7 g _ _) ?_)
      | (refine zae.of (zcs g _ _) ?_)
      | (refine ze8.mk ⟨rfl,rfl,rfl,rfl,rfl,rfl,by show (l.length+1)*168<=_;omega,by omega⟩ ?_)
      | (exact hS))
  ·have h2:¬s=[78]:=fun h=>h1 (.inl h)
   have h3:¬s=[72]:=fun h=>h1 (.inr h)
   have h4:¬s=[82]:=fun h=>by have:=hr h;rw [hp] at this;cases this
   have hE:=hE 10 (z0s hp h2 h3 h4) (by decide)
   repeat' ((conv=>whnf);first
   | refine Yz ?_
     | (refine Mt _ (Nat.beq_refl _) ?_)
     | ((refine Mt _ ?_ ?_);focus ((repeat' (first |exact zan rfl|exact zan (Nat.beq_refl _)|((refine zam ?h ?_);(case h=>first |rfl|assumption))));done))
    | (refine hF ?_)
    | (refine Cmp.ff h2 ?_)
    | (refine Cmp.ff h3 ?_)
    | (refine Cmp.ff h4 ?_)
    | (exact hE))
 | some k=>
  have e:zrg q.nm l=k:=by unfold zrg;rw [hp]
  rw [e] at hF
  obtain⟨hk,hnm,_⟩:=zw5 hp
  by_cases h1:s=[78]\/s=[72]
  ·have hE:=hE 9 (zxe hp h1) (by decide)
   rcases h1 with rfl|rfl
   all_goals
    repeat' ((conv=>whnf);first
    | refine Yz ?_
     | (refine Mt _ (Nat.beq_refl _) ?_)
     | ((refine Mt _ ?_ ?_);focus ((repeat' (first |exact zan rfl|exact zan (Nat.beq_refl _)|((refine zam ?h ?_);(case h=>first |rfl|assumption))));done))
     | (refine hF ?_)
     | (refine Cmp.tt rfl ?_)
     | (refine Cmp.ff (by intro h;cases h) ?_)
     | (refine zae.of (za7 g _ _) ?_)
     | (refine zae.of (zcs g _ _) ?_)
     | (exact hE)
     | (refine Cmp.mk (fun h=> ?_) (fun h=> ?_))|(refine Rem.any (by omega) (fun r hr he=> ?_))|(refine Br.mk (fun h=> ?_) (fun h=> ?_))
     | (exfalso;omega))
  ·have h2:¬s=[78]:=fun h=>h1 (.inl h)
   have h3:¬s=[72]:=fun h=>h1 (.inr h)
   by_cases h4:s=[82]
   ·subst h4
    obtain⟨eE,eL⟩:=z0t (da:=da) hp hk
    have hS:=hS eE (by decide)
    have ep:patch (l.flatMap Ent.cells) ((0+((k:Nat):Int).toNat)*15) (Ent.cells ⟨q,l[k].hi,da⟩)=(l.set k ⟨q,l[k].hi,da⟩).flatMap Ent.cells:=by
     rw [show (0+((k:Nat):Int).toNat)*15=k*15 by omega]
     exact zwo l k ⟨q,l[k].hi,da⟩ hk
    rw [eL] at hS
    dsimp only [nC] at hS
    rw [List.length_set,<-ep] at hS
    repeat' ((conv=>whnf);first
    | refine Yz ?_
       | (refine Mt _ (Nat.beq_refl _) ?_)
       | ((refine Mt _ ?_ ?_);focus ((repeat' (first |exact zan rfl|exact zan (Nat.beq_refl _)|((refine zam ?h ?_);(case h=>first |rfl|assumption))));done))
     | (refine hF ?_)
     | (refine Cmp.tt rfl ?_)
     | (refine Cmp.ff (by intro h;cases h) ?_)
     | (refine zg4.rec0 (d:= .bool l[k].hi) Ent.cells_length k rfl hk rfl ?_)
     | (refine ze8.mk ⟨by omega,by omega,rfl,by omega,rfl⟩ ?_)
     | (refine ze8.mk ⟨rfl,by simp only [hfl ()];omega,rfl⟩ ?_)
     | (exact hS))
   ·obtain⟨eE,eL⟩:=z0u (da:=da) hp hk h2 h3 h4
    by_cases hq:l[k].rq=q
    ·rw [if_pos hq] at eE
     have hpp:l[k].rq.nm=q.nm/\l[k].rq.ca=q.ca/\l[k].rq.ki=q.ki/\l[k].rq.te=q.te/\l[k].rq.pa=q.pa/\l[k].rq.li=q.li/\l[k].rq.fr=q.fr/\l[k].rq.to=q.to/\l[k].rq.da=q.da/\l[k].rq.mi=q.mi/\l[k].rq.se=q.se/\l[k].rq.si=q.si/\l[k].rq.no=q.no:=by
      rw [hq]
      exact⟨rfl,rfl,rfl,rfl,rfl,rfl,rfl,rfl,rfl,rfl,rfl,rfl,rfl⟩
     by_cases h5:s=[68]
     ·subst h5
      have hD:=hD eE rfl
      rw [eL,if_pos rfl] at hD
      dsimp only [nC] at hD
      obtain⟨eA,eB⟩:=z0b l k hk
      have eAn:=(congrArg List.length eA).trans (show _=(k-0)*15 by rw [zah Ent.cells 15 Ent.cells_length,List.length_take];omega)
      have eBn:=(congrArg List.length eB).trans (show _=(l.length-(k+1))*15 by rw [zah Ent.cells 15 Ent.cells_length,List.length_drop])
      have hlen:(l.eraseIdx k).length=((l.length:Int)-1).toNat:=by rw [List.length_eraseIdx_of_lt hk];omega
      rw [hlen] at hD
      repeat' ((conv=>whnf);first
      | refine Yz ?_
       | (refine Mt _ (Nat.beq_refl _) ?_)
       | ((refine Mt _ ?_ ?_);focus ((repeat' (first |exact zan rfl|exact zan (Nat.beq_refl _)|((refine zam ?h ?_);(case h=>first |rfl|assumption))));done))
       | (refine hF ?_)
       | (refine Cmp.tt rfl ?_)
       | (refine Cmp.ff (by intro h;cases h) ?_)
       | (refine Cmp.tt hpp ?_)
       | (refine zal.part0 Ent.cells_length (j:=0) k rfl hk (by omega) rfl ?_)
       | (refine zff.at 0 k (by omega) (by omega) (by omega) ?_)
       | (refine zff.at k (l.length-1) (by omega) (by omega) (by omega) ?_)
       | (refine zff.at (k+1) l.length (by omega) (by omega) (by omega) ?_)
       | (refine ze8.mk ⟨rfl,by omega,rfl,eAn⟩ ?_)
       | (refine ze8.mk ⟨rfl,by omega,rfl,eBn⟩ ?_))
      rw [<-z0c l k hk eA eB] at hD
      exact hD
     ·have hS:=hS eE h5
      rw [eL,if_neg h5] at hS
      repeat' ((conv=>whnf);first
      | refine Yz ?_
       | (refine Mt _ (Nat.beq_refl _) ?_)
       | ((refine Mt _ ?_ ?_);focus ((repeat' (first |exact zan rfl|exact zan (Nat.beq_refl _)|((refine zam ?h ?_);(case h=>first |rfl|assumption))));done))
       | (refine hF ?_)
       | (refine Cmp.ff h2 ?_)
       | (refine Cmp.ff h3 ?_)
       | (refine Cmp.ff h4 ?_)
       | (refine Cmp.ff h5 ?_)
       | (refine Cmp.tt hpp ?_)
       | (refine zal.part0 Ent.cells_length (j:=0) k rfl hk (by omega) rfl ?_)
       | (exact hS))
    ·rw [if_neg hq] at eE
     have hE:=hE 29 eE (by decide)
     have hpp:¬(l[k].rq.nm=q.nm/\l[k].rq.ca=q.ca/\l[k].rq.ki=q.ki/\l[k].rq.te=q.te/\l[k].rq.pa=q.pa/\l[k].rq.li=q.li/\l[k].rq.fr=q.fr/\l[k].rq.to=q.to/\l[k].rq.da=q.da/\l[k].rq.mi=q.mi/\l[k].rq.se=q.se/\l[k].rq.si=q.si/\l[k].rq.no=q.no):=fun h=>hq (yap h)
     repeat' ((conv=>whnf);first
     | refine Yz ?_
       | (refine Mt _ (Nat.beq_refl _) ?_)
       | ((refine Mt _ ?_ ?_);focus ((repeat' (first |exact zan rfl|exact zan (Nat.beq_refl _)|((refine zam ?h ?_);(case h=>first |rfl|assumption))));done))
      | (refine hF ?_)
      | (refine Cmp.ff h2 ?_)
      | (refine Cmp.ff h3 ?_)
      | (refine Cmp.ff h4 ?_)
      | (refine Cmp.ff hpp ?_)
      | (refine zal.part0 Ent.cells_length (j:=0) k rfl hk (by omega) rfl ?_)
      | (exact hE))
end
abbrev mD (a b:Mst) (l1 l2:List Ent) (d c:Nat) (l:List Ent) (x:Lnt):Mem:=[(⟨0,2,0⟩,.row true zaa 15 0 []),(⟨0,5,0⟩,.row true zaa 15 l1.length (l1.flatMap Ent.cells)),(⟨0,75,d⟩,.row true zaa 15 l2.length (l2.flatMap Ent.cells)),(⟨0,9,0⟩,.cells zab (msV a)),(⟨0,10,0⟩,.cells zab (msV b)),(⟨0,75,c⟩,.row true zaa 15 l.length (l.flatMap Ent.cells)),(⟨0,12,0⟩,.cells zac (lnV x))]
abbrev nD (a b:Mst) (l1 l2:List Ent) (d c:Nat) (l:List Ent) (x:Lnt):Mem:=[(⟨0,2,0⟩,.row true zaa 15 0 []),(⟨0,5,0⟩,.row true zaa 15 l1.length (l1.flatMap Ent.cells)),(⟨0,75,d⟩,.row true zaa 15 l2.length (l2.flatMap Ent.cells)),(⟨0,9,0⟩,.cells zab (msV a)),(⟨0,10,0⟩,.cells zab (msV b)),(⟨0,75,c⟩,.row true zaa 15 l.length (l.flatMap Ent.cells)),(⟨0,12,0⟩,.cells zac (lnV x)),(⟨1,4,0⟩,.cells zac (lnV x)),(⟨1,6,0⟩,.row true zaa 15 0 [])]
abbrev pD (a b:Mst) (l1 l2:List Ent) (d c:Nat) (l:List Ent) (x:Lnt):Mem:=[(⟨0,2,0⟩,.row true zaa 15 0 []),(⟨0,5,0⟩,.row true zaa 15 l1.length (l1.flatMap Ent.cells)),(⟨0,75,d⟩,.row true zaa 15 l2.length (l2.flatMap Ent.cells)),(⟨0,9,0⟩,.cells zab (msV a)),(⟨0,10,0⟩,.cells zab (msV b)),(⟨0,75,c⟩,.row true zaa 15 l.length (l.flatMap Ent.cells)),(⟨0,12,0⟩,.cells zac (lnV x)),(⟨1,4,0⟩,.cells zac (lnV x)),(⟨1,6,0⟩,.row true zaa 15 0 []),(⟨2,3,0⟩,.cells zbl [S x.rq.nm])]
section
variable {E : Oracle} (g : Good E)
include g
theorem yn7 (a b:Mst) (l1 l2:List Ent) (d c:Nat) (hdc:¬d=c) (l:List Ent) (x:Lnt) (hl:l.length<=64) {K:V->Mem->Prop} (hK:K (I (zrg x.rq.nm l)) (pD a b l1 l2 d c l x)):In E 2 zcw [.ref ⟨0,75,c⟩ 0 l.length l.length,S x.rq.nm] (nD a b l1 l2 d c l x) K:=by
 have b1:=zmi hdc
 have b2:=yp6 hdc
 refine In.enter (f:=zcw) g.lim rfl rfl ?_
 repeat' ((conv=>whnf);first
 | refine Yz ?_
  | (refine Mt _ (Nat.beq_refl _) ?_)
  | (refine Mf _ b1 ?_)
  | (refine Mf _ b2 ?_)
  | ((refine Mt _ ?_ ?_);focus ((repeat' (first |exact zan rfl|exact zan (Nat.beq_refl _)|((refine zam ?h ?_);(case h=>first |rfl|assumption))));done))
  | ((refine Mf _ ?_ ?_);focus ((repeat' (first |exact rfl|((refine zam ?h ?_);(case h=>first |rfl|assumption))));done))
  | (refine In.enter (f:=zaq) g.lim rfl rfl ?_))
 refine zaf.to (zaf.upP g (fun k=>[(0,.ref ⟨0,75,c⟩ 0 l.length l.length),(1,.fn za9 [] [.ptr ⟨2,3,0⟩ 0 0]),(7,I l.length),(8,I k)]) (fun _=>pD a b l1 l2 d c l x) (fun k=>∀(j:Nat) (hj:j<l.length),j<k->¬l[j].rq.nm=x.rq.nm) l.length (fun k hk hp ih=> ?_) 0 (Nat.zero_le _) (fun j _ h=>absurd h (Nat.not_lt_zero _))) rfl rfl
 by_cases hlt:k<l.length
 ·by_cases he:l[k].rq.nm=x.rq.nm
  ·have e:zrg x.rq.nm l=k:=by unfold zrg;rw [yak hlt hp he]
   rw [e] at hK
   repeat' ((conv=>whnf);first
   | refine Yz ?_
    | (refine zal.rec0 Ent.cells_length k rfl hlt ?_)
    | (refine In.enter (f:=za9) g.lim rfl rfl ?_)
    | (refine Cmp.tt he ?_)
     | (refine Mt _ (Nat.beq_refl _) ?_)
     | (refine Mf _ b1 ?_)
     | (refine Mf _ b2 ?_)
     | ((refine Mt _ ?_ ?_);focus ((repeat' (first |exact zan rfl|exact zan (Nat.beq_refl _)|((refine zam ?h ?_);(case h=>first |rfl|assumption))));done))
     | ((refine Mf _ ?_ ?_);focus ((repeat' (first |exact rfl|((refine zam ?h ?_);(case h=>first |rfl|assumption))));done))
    | (exact hK))
  ·have ih:=ih hlt fun j hj hjk=>by
    by_cases e:j=k
    ·subst e;exact he
    ·exact hp j hj (by omega)
   repeat' ((conv=>whnf);first
   | refine Yz ?_
    | (refine zal.rec0 Ent.cells_length k rfl hlt ?_)
    | (refine In.enter (f:=za9) g.lim rfl rfl ?_)
    | (refine Cmp.ff he ?_)
     | (refine Mt _ (Nat.beq_refl _) ?_)
     | (refine Mf _ b1 ?_)
     | (refine Mf _ b2 ?_)
     | ((refine Mt _ ?_ ?_);focus ((repeat' (first |exact zan rfl|exact zan (Nat.beq_refl _)|((refine zam ?h ?_);(case h=>first |rfl|assumption))));done))
     | ((refine Mf _ ?_ ?_);focus ((repeat' (first |exact rfl|((refine zam ?h ?_);(case h=>first |rfl|assumption))));done))
    | (refine zaf.to ih rfl rfl))
 ·have e:zrg x.rq.nm l= -1:=by unfold zrg;rw [z2y fun j hj=>hp j hj (by omega)]
  rw [e] at hK
  repeat' ((conv=>whnf);first
  | refine Yz ?_
     | (refine Mt _ (Nat.beq_refl _) ?_)
     | (refine Mf _ b1 ?_)
     | (refine Mf _ b2 ?_)
     | ((refine Mt _ ?_ ?_);focus ((repeat' (first |exact zan rfl|exact zan (Nat.beq_refl _)|((refine zam ?h ?_);(case h=>first |rfl|assumption))));done))
     | ((refine Mf _ ?_ ?_);focus ((repeat' (first |exact rfl|((refine zam ?h ?_);(case h=>first |rfl|assumption))));done))
   | (exact hK))
theorem yoc (a b:Mst) (l1 l2:List Ent) (d c:Nat) (hdc:¬d=c) (l:List Ent) (x:Lnt) (da:Int) (hl:l.length<=64) (hr:x.ac=[82]->(plc x.rq.nm l).isSome) {K:V->Mem->Prop}
  (hE:∀e:Int,zm7 l x=e->e≠0->K (.tup [.ref ⟨1,6,1⟩ 0 0 0,I e]) (nD a b l1 l2 d c l x++[(⟨1,6,1⟩,.row true zaa 15 0 [])]))
  (hS:zm7 l x=0->x.ac≠[68]->K (.tup [.ref ⟨0,75,c⟩ 0 (zja l x da).length (zja l x da).length,I 0]) (nD a b l1 l2 d c (zja l x da) x))
  (hD:zm7 l x=0->x.ac=[68]->K (.tup [.ref ⟨1,74,0⟩ 0 (zja l x da).length (zja l x da).length,I 0]) (nD a b l1 l2 d c l x++[(⟨1,74,0⟩,.row true zaa 15 (zja l x da).length ((zja l x da).flatMap Ent.cells))])):
  In E 1 zcx [.ref ⟨0,75,c⟩ 0 l.length l.length,Lnv x,I da] (mD a b l1 l2 d c l x) K:=by
 have b1:=zmi hdc
 have b2:=yp6 hdc
 have hF:=fun {K}=>yn7 g a b l1 l2 d c hdc l x hl (K:=K)
 have hfl:=fun(_:Unit)=>zah Ent.cells 15 Ent.cells_length l
 obtain⟨s,q⟩:=x
 dsimp only at hr hF hS hD
 refine In.enter (f:=zcx) g.lim rfl rfl ?_
 cases hp:plc q.nm l with
 | none=>
  have e:zrg q.nm l= -1:=by unfold zrg;rw [hp]
  rw [e] at hF
  by_cases h1:s=[78]\/s=[72]
  ·obtain⟨eE,eL⟩:=z8m (da:=da) hp h1
   by_cases h64:64<=l.length
   ·have hE:=hE 5 (by rw [eE,if_pos h64]) (by decide)
    rcases h1 with rfl|rfl
    all_goals
     repeat' ((conv=>whnf);first
     | refine Yz ?_
       | (refine Mt _ (Nat.beq_refl _) ?_)
       | (refine Mf _ b1 ?_)
       | (refine Mf _ b2 ?_)
       | ((refine Mt _ ?_ ?_);focus ((repeat' (first |exact zan rfl|exact zan (Nat.beq_refl _)|((refine zam ?h ?_);(case h=>first |rfl|assumption))));done))
       | ((refine Mf _ ?_ ?_);focus ((repeat' (first |exact rfl|((refine zam ?h ?_);(case h=>first |rfl|assumption))));done))
      | (refine hF ?_)
      | (refine Cmp.tt rfl ?_)
      | (refine Cmp.ff (by intro h;cases h) ?_)
      | (refine zae.of (za7 g _ _) ?_)
      | (refine zae.of (zcs g _ _) ?_)
      | (exact hE))
   ·rw [if_neg h64] at eE
    rcases h1 with rfl|rfl
    all_goals
     have hS:=hS eE (by decide)
     rw [eL] at hS
     dsimp only [nD] at hS
     rw [List.length_append,List.flatMap_append] at hS
     repeat' ((conv=>whnf);first
     | refine Yz ?_
       | (refine Mt _ (Nat.beq_refl _) ?_)
       | (refine Mf _ b1 ?_)
       | (refine Mf _ b2 ?_)
       | ((refine Mt _ ?_ ?_);focus ((repeat' (first |exact zan rfl|exact zan (Nat.beq_refl _)|((refine zam ?h ?_);(case h=>first |rfl|assumption))));done))
       | ((refine Mf _ ?_ ?_);focus ((repeat' (first |exact rfl|((refine zam ?h ?_);(case h=>first |rfl|assumption))));done))
      | (refine hF ?_)
      | (refine Cmp.tt rfl ?_)
      | (refine Cmp.ff (by intro h;cases h) ?_)
      | (refine zae.of (za7 g _ _) ?_)
      | (refine zae.of (zcs g _ _) ?_)
      | (refine ze8.mk ⟨rfl,rfl,rfl,rfl,rfl,rfl,by show (l.length+1)*168<=_;omega,by omega⟩ ?_)
      | (exact hS))
  ·have h2:¬s=[78]:=fun h=>h1 (.inl h)
   have h3:¬s=[72]:=fun h=>h1 (.inr h)
   have h4:¬s=[82]:=fun h=>by have:=hr h;rw [hp] at this;cases this
   have hE:=hE 10 (z0s hp h2 h3 h4) (by decide)
   repeat' ((conv=>whnf);first
   | refine Yz ?_
     | (refine Mt _ (Nat.beq_refl _) ?_)
     | (refine Mf _ b1 ?_)
     | (refine Mf _ b2 ?_)
     | ((refine Mt _ ?_ ?_);focus ((repeat' (first |exact zan rfl|exact zan (Nat.beq_refl _)|((refine zam ?h ?_);(case h=>first |rfl|assumption))));done))
     | ((refine Mf _ ?_ ?_);focus ((repeat' (first |exact rfl|((refine zam ?h ?_);(case h=>first |rfl|assumption))));done))
    | (refine hF ?_)
    | (refine Cmp.ff h2 ?_)
    | (refine Cmp.ff h3 ?_)
    | (refine Cmp.ff h4 ?_)
    | (exact hE))
 | some k=>
  have e:zrg q.nm l=k:=by unfold zrg;rw [hp]
  rw [e] at hF
  obtain⟨hk,hnm,_⟩:=zw5 hp
  by_cases h1:s=[78]\/s=[72]
  ·have hE:=hE 9 (zxe hp h1) (by decide)
   rcases h1 with rfl|rfl
   all_goals
    repeat' ((conv=>whnf);first
    | refine Yz ?_
     | (refine Mt _ (Nat.beq_refl _) ?_)
     | (refine Mf _ b1 ?_)
     | (refine Mf _ b2 ?_)
     | ((refine Mt _ ?_ ?_);focus ((repeat' (first |exact zan rfl|exact zan (Nat.beq_refl _)|((refine zam ?h ?_);(case h=>first |rfl|assumption))));done))
     | ((refine Mf _ ?_ ?_);focus ((repeat' (first |exact rfl|((refine zam ?h ?_);(case h=>first |rfl|assumption))));done))
     | (refine hF ?_)
     | (refine Cmp.tt rfl ?_)
     | (refine Cmp.ff (by intro h;cases h) ?_)
     | (refine zae.of (za7 g _ _) ?_)
     | (refine zae.of (zcs g _ _) ?_)
     | (exact hE)
     | (refine Cmp.mk (fun h=> ?_) (fun h=> ?_))|(refine Rem.any (by omega) (fun r hr he=> ?_))|(refine Br.mk (fun h=> ?_) (fun h=> ?_))
     | (exfalso;omega))
  ·have h2:¬s=[78]:=fun h=>h1 (.inl h)
   have h3:¬s=[72]:=fun h=>h1 (.inr h)
   by_cases h4:s=[82]
   ·subst h4
    obtain⟨eE,eL⟩:=z0t (da:=da) hp hk
    have hS:=hS eE (by decide)
    have ep:patch (l.flatMap Ent.cells) ((0+((k:Nat):Int).toNat)*15) (Ent.cells ⟨q,l[k].hi,da⟩)=(l.set k ⟨q,l[k].hi,da⟩).flatMap Ent.cells:=by
     rw [show (0+((k:Nat):Int).toNat)*15=k*15 by omega]
     exact zwo l k ⟨q,l[k].hi,da⟩ hk
    rw [eL] at hS
    dsimp only [nD] at hS
    rw [List.length_set,<-ep] at hS
    repeat' ((conv=>whnf);first
    | refine Yz ?_
       | (refine Mt _ (Nat.beq_refl _) ?_)
       | (refine Mf _ b1 ?_)
       | (refine Mf _ b2 ?_)
       | ((refine Mt _ ?_ ?_);focus ((repeat' (first |exact zan rfl|exact zan (Nat.beq_refl _)|((refine zam ?h ?_);(case h=>first |rfl|assumption))));done))
       | ((refine Mf _ ?_ ?_);focus ((repeat' (first |exact rfl|((refine zam ?h ?_);(case h=>first |rfl|assumption))));done))
     | (refine hF ?_)
     | (refine Cmp.tt rfl ?_)
     | (refine Cmp.ff (by intro h;cases h) ?_)
     | (refine zg4.rec0 (d:= .bool l[k].hi) Ent.cells_length k rfl hk rfl ?_)
     | (refine ze8.mk ⟨by omega,by omega,rfl,by omega,rfl⟩ ?_)
     | (refine ze8.mk ⟨rfl,by simp only [hfl ()];omega,rfl⟩ ?_)
     | (exact hS))
   ·obtain⟨eE,eL⟩:=z0u (da:=da) hp hk h2 h3 h4
    by_cases hq:l[k].rq=q
    ·rw [if_pos hq] at eE
     have hpp:l[k].rq.nm=q.nm/\l[k].rq.ca=q.ca/\l[k].rq.ki=q.ki/\l[k].rq.te=q.te/\l[k].rq.pa=q.pa/\l[k].rq.li=q.li/\l[k].rq.fr=q.fr/\l[k].rq.to=q.to/\l[k].rq.da=q.da/\l[k].rq.mi=q.mi/\l[k].rq.se=q.se/\l[k].rq.si=q.si/\l[k].rq.no=q.no:=by
      rw [hq]
      exact⟨rfl,rfl,rfl,rfl,rfl,rfl,rfl,rfl,rfl,rfl,rfl,rfl,rfl⟩
     by_cases h5:s=[68]
     ·subst h5
      have hD:=hD eE rfl
      rw [eL,if_pos rfl] at hD
      dsimp only [nD] at hD
      obtain⟨eA,eB⟩:=z0b l k hk
      have eAn:=(congrArg List.length eA).trans (show _=(k-0)*15 by rw [zah Ent.cells 15 Ent.cells_length,List.length_take];omega)
      have eBn:=(congrArg List.length eB).trans (show _=(l.length-(k+1))*15 by rw [zah Ent.cells 15 Ent.cells_length,List.length_drop])
      have hlen:(l.eraseIdx k).length=((l.length:Int)-1).toNat:=by rw [List.length_eraseIdx_of_lt hk];omega
      rw [hlen] at hD
      repeat' ((conv=>whnf);first
      | refine Yz ?_
       | (refine Mt _ (Nat.beq_refl _) ?_)
       | (refine Mf _ b1 ?_)
       | (refine Mf _ b2 ?_)
       | ((refine Mt _ ?_ ?_);focus ((repeat' (first |exact zan rfl|exact zan (Nat.beq_refl _)|((refine zam ?h ?_);(case h=>first |rfl|assumption))));done))
       | ((refine Mf _ ?_ ?_);focus ((repeat' (first |exact rfl|((refine zam ?h ?_);(case h=>first |rfl|assumption))));done))
       | (refine hF ?_)
       | (refine Cmp.tt rfl ?_)
       | (refine Cmp.ff (by intro h;cases h) ?_)
       | (refine Cmp.tt hpp ?_)
       | (refine zal.part0 Ent.cells_length (j:=0) k rfl hk (by omega) rfl ?_)
       | (refine zff.at 0 k (by omega) (by omega) (by omega) ?_)
       | (refine zff.at k (l.length-1) (by omega) (by omega) (by omega) ?_)
       | (refine zff.at (k+1) l.length (by omega) (by omega) (by omega) ?_)
       | (refine ze8.mk ⟨rfl,by omega,rfl,eAn⟩ ?_)
       | (refine ze8.mk ⟨rfl,by omega,rfl,eBn⟩ ?_))
      rw [<-z0c l k hk eA eB] at hD
      exact hD
     ·have hS:=hS eE h5
      rw [eL,if_neg h5] at hS
      repeat' ((conv=>whnf);first
      | refine Yz ?_
       | (refine Mt _ (Nat.beq_refl _) ?_)
       | (refine Mf _ b1 ?_)
       | (refine Mf _ b2 ?_)
       | ((refine Mt _ ?_ ?_);focus ((repeat' (first |exact zan rfl|exact zan (Nat.beq_refl _)|((refine zam ?h ?_);(case h=>first |rfl|assumption))));done))
       | ((refine Mf _ ?_ ?_);focus ((repeat' (first |exact rfl|((refine zam ?h ?_);(case h=>first |rfl|assumption))));done))
       | (refine hF ?_)
       | (refine Cmp.ff h2 ?_)
       | (refine Cmp.ff h3 ?_)
       | (refine Cmp.ff h4 ?_)
       | (refine Cmp.ff h5 ?_)
       | (refine Cmp.tt hpp ?_)
       | (refine zal.part0 Ent.cells_length (j:=0) k rfl hk (by omega) rfl ?_)
       | (exact hS))
    ·rw [if_neg hq] at eE
     have hE:=hE 29 eE (by decide)
     have hpp:¬(l[k].rq.nm=q.nm/\l[k].rq.ca=q.ca/\l[k].rq.ki=q.ki/\l[k].rq.te=q.te/\l[k].rq.pa=q.pa/\l[k].rq.li=q.li/\l[k].rq.fr=q.fr/\l[k].rq.to=q.to/\l[k].rq.da=q.da/\l[k].rq.mi=q.mi/\l[k].rq.se=q.se/\l[k].rq.si=q.si/\l[k].rq.no=q.no):=fun h=>hq (yap h)
     repeat' ((conv=>whnf);first
     | refine Yz ?_
       | (refine Mt _ (Nat.beq_refl _) ?_)
       | (refine Mf _ b1 ?_)
       | (refine Mf _ b2 ?_)
       | ((refine Mt _ ?_ ?_);focus ((repeat' (first |exact zan rfl|exact zan (Nat.beq_refl _)|((refine zam ?h ?_);(case h=>first |rfl|assumption))));done))
       | ((refine Mf _ ?_ ?_);focus ((repeat' (first |exact rfl|((refine zam ?h ?_);(case h=>first |rfl|assumption))));done))
      | (refine hF ?_)
      | (refine Cmp.ff h2 ?_)
      | (refine Cmp.ff h3 ?_)
      | (refine Cmp.ff h4 ?_)
      | (refine Cmp.ff hpp ?_)
      | (refine zal.part0 Ent.cells_length (j:=0) k rfl hk (by omega) rfl ?_)
      | (exact hE))
end
theorem ydv {cx:Cx} {slot lo:Nat} {old m:Mem} {o:Evl.Id} {off l top:Nat} {x:D} (h:o.lv<lo):Go.Evl.settle cx slot lo old m (.tup [.ref o off l top,.d x])=some (.tup [.ref o off l top,.d x],old):=by
 have hn:¬lo<=o.lv:=by omega
 have hr:Go.Evl.reach lo m 64 (Go.Evl.ids (.tup [.ref o off l top,.d x])) []=[]:=by
  simp [Go.Evl.ids,Go.Evl.idsL,Go.Evl.reach,hn]
 unfold Go.Evl.settle
 simp only [hr]
 rw [if_pos (by simp [Go.Evl.within,Go.Evl.movable,Go.Evl.onceB,Go.Evl.ids,Go.Evl.idsL,h])]
 simp [Go.Evl.number,Go.Evl.ren,Go.Evl.renL,Go.Evl.subst,Go.Evl.moved]
theorem zko.tlow {cx:Cx} {slot lo:Nat} {old m:Mem} {o:Evl.Id} {off l top:Nat} {x:D} {K:V×Mem->Prop} (h:o.lv<lo) (k:K (.tup [.ref o off l top,.d x],old)):zko (Go.Evl.settle cx slot lo old m (.tup [.ref o off l top,.d x])) K:=⟨_,ydv h,k⟩
theorem ydw {cx:Cx} {slot lo:Nat} {old m:Mem} {o:Evl.Id} {off l top:Nat} {x:D} {wr:Bool} {t sz n:Nat} {xs:List D} (hlo:lo<=o.lv) (hl:Evl.look m o=some (.row wr t sz n xs)):
  Go.Evl.settle cx slot lo old m (.tup [.ref o off l top,.d x])=some (.tup [.ref ⟨cx.lv,slot,Go.Evl.freeK cx.lv slot old⟩ off l top,.d x],old++[(⟨cx.lv,slot,Go.Evl.freeK cx.lv slot old⟩,.row wr t sz n xs)]):=by
 have hr:Go.Evl.reach lo m 64 (Go.Evl.ids (.tup [.ref o off l top,.d x])) []=[o]:=by
  simp [Go.Evl.ids,Go.Evl.idsL,Go.Evl.reach,hlo,hl,Go.Evl.idsO]
 unfold Go.Evl.settle
 simp only [hr]
 rw [if_pos (by simp [Go.Evl.within,Go.Evl.movable,Go.Evl.onceB,Go.Evl.ids,Go.Evl.idsL,hl,hlo,Go.Evl.idsO,Go.Evl.isLoop])]
 simp [Go.Evl.number,Go.Evl.ren,Go.Evl.renL,Go.Evl.subst,Go.Evl.moved,hl,Go.Evl.renO]
theorem zko.trow {cx:Cx} {slot lo:Nat} {old m:Mem} {o:Evl.Id} {off l top:Nat} {x:D} {wr:Bool} {t sz n:Nat} {xs:List D} {K:V×Mem->Prop} (c:Nat) (hlo:lo<=o.lv) (hl:Evl.look m o=some (.row wr t sz n xs)) (hf:Go.Evl.freeK cx.lv slot old=c)
  (k:K (.tup [.ref ⟨cx.lv,slot,c⟩ off l top,.d x],old++[(⟨cx.lv,slot,c⟩,.row wr t sz n xs)])):zko (Go.Evl.settle cx slot lo old m (.tup [.ref o off l top,.d x])) K:=⟨_,ydw hlo hl,by rw [hf];exact k⟩
abbrev kA (a b:Mst) (l:List Ent):Mem:=[(⟨0,2,0⟩,.row true zaa 15 0 []),(⟨0,5,0⟩,.row true zaa 15 l.length (l.flatMap Ent.cells)),(⟨0,9,0⟩,.cells zab (msV a)),(⟨0,10,0⟩,.cells zab (msV b))]
abbrev qA (a b:Mst) (l:List Ent) (x:Lnt) (z:Nat):Mem:=[(⟨0,2,0⟩,.row true zaa 15 0 []),(⟨0,5,0⟩,.row true zaa 15 l.length (l.flatMap Ent.cells)),(⟨0,9,0⟩,.cells zab (msV a)),(⟨0,10,0⟩,.cells zab (msV b)),(⟨0,12,0⟩,.cells zac (lnV x)),(⟨0,75,z⟩,.row true zaa 15 0 [])]
abbrev kB (a b:Mst) (l1:List Ent) (c:Nat) (l:List Ent):Mem:=[(⟨0,2,0⟩,.row true zaa 15 0 []),(⟨0,5,0⟩,.row true zaa 15 l1.length (l1.flatMap Ent.cells)),(⟨0,9,0⟩,.cells zab (msV a)),(⟨0,10,0⟩,.cells zab (msV b)),(⟨0,75,c⟩,.row true zaa 15 l.length (l.flatMap Ent.cells))]
abbrev qB (a b:Mst) (l1:List Ent) (c:Nat) (l:List Ent) (x:Lnt) (z:Nat):Mem:=[(⟨0,2,0⟩,.row true zaa 15 0 []),(⟨0,5,0⟩,.row true zaa 15 l1.length (l1.flatMap Ent.cells)),(⟨0,9,0⟩,.cells zab (msV a)),(⟨0,10,0⟩,.cells zab (msV b)),(⟨0,75,c⟩,.row true zaa 15 l.length (l.flatMap Ent.cells)),(⟨0,12,0⟩,.cells zac (lnV x)),(⟨0,75,z⟩,.row true zaa 15 0 [])]
abbrev kC (a b:Mst) (l1:List Ent) (c:Nat) (l:List Ent):Mem:=[(⟨0,2,0⟩,.row true zaa 15 0 []),(⟨0,5,0⟩,.row true zaa 15 l1.length (l1.flatMap Ent.cells)),(⟨0,75,c⟩,.row true zaa 15 l.length (l.flatMap Ent.cells)),(⟨0,9,0⟩,.cells zab (msV a)),(⟨0,10,0⟩,.cells zab (msV b))]
abbrev qC (a b:Mst) (l1:List Ent) (c:Nat) (l:List Ent) (x:Lnt) (z:Nat):Mem:=[(⟨0,2,0⟩,.row true zaa 15 0 []),(⟨0,5,0⟩,.row true zaa 15 l1.length (l1.flatMap Ent.cells)),(⟨0,75,c⟩,.row true zaa 15 l.length (l.flatMap Ent.cells)),(⟨0,9,0⟩,.cells zab (msV a)),(⟨0,10,0⟩,.cells zab (msV b)),(⟨0,12,0⟩,.cells zac (lnV x)),(⟨0,75,z⟩,.row true zaa 15 0 [])]
abbrev kD (a b:Mst) (l1 l2:List Ent) (d c:Nat) (l:List Ent):Mem:=[(⟨0,2,0⟩,.row true zaa 15 0 []),(⟨0,5,0⟩,.row true zaa 15 l1.length (l1.flatMap Ent.cells)),(⟨0,75,d⟩,.row true zaa 15 l2.length (l2.flatMap Ent.cells)),(⟨0,9,0⟩,.cells zab (msV a)),(⟨0,10,0⟩,.cells zab (msV b)),(⟨0,75,c⟩,.row true zaa 15 l.length (l.flatMap Ent.cells))]
abbrev qD (a b:Mst) (l1 l2:List Ent) (d c:Nat) (l:List Ent) (x:Lnt) (z:Nat):Mem:=[(⟨0,2,0⟩,.row true zaa 15 0 []),(⟨0,5,0⟩,.row true zaa 15 l1.length (l1.flatMap Ent.cells)),(⟨0,75,d⟩,.row true zaa 15 l2.length (l2.flatMap Ent.cells)),(⟨0,9,0⟩,.cells zab (msV a)),(⟨0,10,0⟩,.cells zab (msV b)),(⟨0,75,c⟩,.row true zaa 15 l.length (l.flatMap Ent.cells)),(⟨0,12,0⟩,.cells zac (lnV x)),(⟨0,75,z⟩,.row true zaa 15 0 [])]
abbrev eL (ms:List Mst) (i:Nat) (a:Mst) (o:Evl.Id) (n k:Nat):Env:=[(0,LMs ms),(5,.ref o 0 n n),(6,I i),(7,I 0),(9,.ptr ⟨0,9,0⟩ 0 0),(16,LMs ms),(17,I ms.length),(18,I i),(64,LL a.ls),(65,I a.ls.length),(66,I k)]
abbrev eX (ms:List Mst) (i:Nat) (a:Mst) (o:Evl.Id) (n k:Nat):Env:=[(0,LMs ms),(5,.ref o 0 n n),(6,I i),(7,I 0),(9,.ptr ⟨0,9,0⟩ 0 0),(16,LMs ms),(17,I ms.length),(18,I i),(64,LL a.ls),(65,I a.ls.length),(66,I k),(67,B false)]
abbrev eB (ms:List Mst) (i:Nat) (a:Mst) (o:Evl.Id) (e:Int) (k:Nat):Env:=[(0,LMs ms),(5,.ref o 0 0 0),(6,I i),(7,I e),(9,.ptr ⟨0,9,0⟩ 0 0),(16,LMs ms),(17,I ms.length),(18,I i),(64,LL a.ls),(65,I a.ls.length),(66,I k),(67,B true),(79,B true)]
section
variable {E : Oracle} (g : Good E)
include g
theorem ype (ms:List Mst) (i:Nat) (a b:Mst) (l0:List Ent) (hl0:l0.length<=64) (ha:a.ls.length<=1000000) (ok:yhy a.da l0 a.ls) (res:List Ent×Int) (hres:zu0 a.da l0 a.ls=res) {K:Ex->Env->Mem->Prop}
  (okP:∀l:List Ent,res=(l,0)->l.length<=64->ypz (K (.exit 2) (eX ms i a ⟨0,5,0⟩ l.length a.ls.length) (kA a b l)))
  (okQ:∀(l l1:List Ent) (c:Nat),res=(l,0)->l.length<=64->ypz (K (.exit 2) (eX ms i a ⟨0,75,c⟩ l.length a.ls.length) (kB a b l1 c l)))
  (noP:∀(l:List Ent) (x:Lnt) (e:Int) (k:Nat),e≠0->res.2=e->ypz (K (.exit 0) (eB ms i a ⟨0,75,0⟩ e k) (qA a b l x 0)))
  (noQ:∀(l l1:List Ent) (c:Nat) (x:Lnt) (e:Int) (k:Nat),e≠0->res.2=e->ypz (K (.exit 0) (eB ms i a ⟨0,75,(c+1)⟩ e k) (qB a b l1 c l x (c+1)))):
  zaf E ⟨0,0+1⟩ [0,5,6,7,9,16,17,18,64,65,66] [⟨0,2,0⟩,⟨0,5,0⟩,⟨0,9,0⟩,⟨0,10,0⟩] zh0 (eL ms i a ⟨0,5,0⟩ l0.length 0) (kA a b l0) K:=by
 refine zaf.to (zaf.by (σ:=Option (List Ent×Nat)×List Ent×Nat) g (fun s=>s.2.1.length<=64/\s.2.2<=a.ls.length/\zu0 a.da s.2.1 (a.ls.drop s.2.2)=res/\yhy a.da s.2.1 (a.ls.drop s.2.2)/\(∀p,s.1=some p->True)) (fun s=>match s.1 with|none=>eL ms i a ⟨0,5,0⟩ s.2.1.length s.2.2|some p=>eL ms i a ⟨0,75,p.2⟩ s.2.1.length s.2.2) (fun s=>match s.1 with|none=>kA a b s.2.1|some p=>kB a b p.1 p.2 s.2.1) (fun s=>a.ls.length-s.2.2) ?_ (none,l0,0) ⟨hl0,Nat.zero_le _,hres,ok,fun _ h=>by cases h⟩) rfl rfl
 clear hres ok hl0
 rintro⟨_|⟨l1,c⟩,l,k⟩ ⟨hl,hk,hr,hp,hd⟩ ih
 ·dsimp only at hl hk hr hp hd ih ⊢
  clear hd
  by_cases hlt:k<a.ls.length
  ·rw [zwx hlt] at hr
   rw [List.drop_eq_getElem_cons hlt] at hp
   obtain⟨hp1,hp2⟩:=hp
   have hst:=fun {K}=>yn9 g a b l a.ls[k] a.da hl hp1 (K:=K)
   by_cases hz:zm7 l a.ls[k]=0
   ·rw [if_pos hz] at hr
    have hlen:=z8l (da:=a.da) hl hz hp1
    by_cases h68:a.ls[k].ac=[68]
    ·have ih:=ih (some (l,0),zja l a.ls[k] a.da,k+1) ⟨hlen,by dsimp only;omega,hr,hp2 hz,fun _ _=>trivial⟩ (by dsimp only;omega)
     dsimp only at ih
     generalize zja l a.ls[k] a.da=L at *
     repeat' ((conv=>whnf);first
     | refine Yz ?_
      | (refine zal.rec Lnt.cells_length k rfl hlt ?_)
      | (refine hst (fun e h1 h2=>absurd (h1▸hz) h2) (fun _ h=>absurd h68 h) (fun _ _=> ?_))
      | (refine zko.trow 0 (by decide) rfl rfl ?_)
      | (refine zaf.to ih rfl rfl))
    ·have ih:=ih (none,zja l a.ls[k] a.da,k+1) ⟨hlen,by dsimp only;omega,hr,hp2 hz,fun _ h=>by cases h⟩ (by dsimp only;omega)
     dsimp only at ih
     generalize zja l a.ls[k] a.da=L at *
     repeat' ((conv=>whnf);first
     | refine Yz ?_
      | (refine zal.rec Lnt.cells_length k rfl hlt ?_)
      | (refine hst (fun e h1 h2=>absurd (h1▸hz) h2) (fun _ _=> ?_) (fun _ h=>absurd h h68))
      | (refine zko.tlow (Nat.lt_succ_self 0) ?_)
      | (refine zaf.to ih rfl rfl))
   ·rw [if_neg hz] at hr
    have hno:=(noP l a.ls[k] (zm7 l a.ls[k]) k hz (by rw [<-hr])).go
    generalize hez:zm7 l a.ls[k]=ez at *
    repeat' ((conv=>whnf);first
    | refine Yz ?_
     | (refine zal.rec Lnt.cells_length k rfl hlt ?_)
     | (refine hst (fun e h1 h2=> ?_) (fun h _=>absurd h hz) (fun h _=>absurd h hz))
     | (obtain rfl:=h1)
     | (refine zko.trow 0 (by decide) rfl rfl ?_)
     | (refine Cmp.ff hz ?_)
     | (exact hno))
  ·obtain rfl:k=a.ls.length:=by omega
   rw [List.drop_length,zu0] at hr
   have hok:=(okP l hr.symm hl).go
   repeat' ((conv=>whnf);first
   | refine Yz ?_
    | (exact hok))
 ·dsimp only at hl hk hr hp hd ih ⊢
  clear hd
  have b1:Nat.beq c (c+1)=false:=zmi (by omega)
  have b2:Nat.beq (c+1) c=false:=zmi (by omega)
  by_cases hlt:k<a.ls.length
  ·rw [zwx hlt] at hr
   rw [List.drop_eq_getElem_cons hlt] at hp
   obtain⟨hp1,hp2⟩:=hp
   have hst:=fun {K}=>yoa g a b l1 c l a.ls[k] a.da hl hp1 (K:=K)
   by_cases hz:zm7 l a.ls[k]=0
   ·rw [if_pos hz] at hr
    have hlen:=z8l (da:=a.da) hl hz hp1
    by_cases h68:a.ls[k].ac=[68]
    ·have ih:=ih (some (l1,c+1),zja l a.ls[k] a.da,k+1) ⟨hlen,by dsimp only;omega,hr,hp2 hz,fun _ _=>trivial⟩ (by dsimp only;omega)
     dsimp only at ih
     generalize zja l a.ls[k] a.da=L at *
     repeat' ((conv=>whnf);first
     | refine Yz ?_
      | (refine Mt _ (Nat.beq_refl _) ?_)
      | (refine Mf _ b1 ?_)
      | (refine Mf _ b2 ?_)
      | ((refine Mt _ ?_ ?_);focus ((repeat' (first |exact zan rfl|exact zan (Nat.beq_refl _)|((refine zam ?h ?_);(case h=>first |rfl|assumption))));done))
      | ((refine Mf _ ?_ ?_);focus ((repeat' (first |exact rfl|((refine zam ?h ?_);(case h=>first |rfl|assumption))));done))
      | (refine zal.rec Lnt.cells_length k rfl hlt ?_)
      | (refine hst (fun e h1 h2=>absurd (h1▸hz) h2) (fun _ h=>absurd h68 h) (fun _ _=> ?_))
      | (refine zko.trow (c+1) (by decide) rfl (by simp [Go.Evl.freeK]) ?_)
      | (refine zaf.to ih rfl rfl))
    ·have ih:=ih (some (l1,c),zja l a.ls[k] a.da,k+1) ⟨hlen,by dsimp only;omega,hr,hp2 hz,fun _ _=>trivial⟩ (by dsimp only;omega)
     dsimp only at ih
     generalize zja l a.ls[k] a.da=L at *
     repeat' ((conv=>whnf);first
     | refine Yz ?_
      | (refine Mt _ (Nat.beq_refl _) ?_)
      | (refine Mf _ b1 ?_)
      | (refine Mf _ b2 ?_)
      | ((refine Mt _ ?_ ?_);focus ((repeat' (first |exact zan rfl|exact zan (Nat.beq_refl _)|((refine zam ?h ?_);(case h=>first |rfl|assumption))));done))
      | ((refine Mf _ ?_ ?_);focus ((repeat' (first |exact rfl|((refine zam ?h ?_);(case h=>first |rfl|assumption))));done))
      | (refine zal.rec Lnt.cells_length k rfl hlt ?_)
      | (refine hst (fun e h1 h2=>absurd (h1▸hz) h2) (fun _ _=> ?_) (fun _ h=>absurd h h68))
      | (refine zko.tlow (Nat.lt_succ_self 0) ?_)
      | (refine zaf.to ih rfl rfl))
   ·rw [if_neg hz] at hr
    have hno:=(noQ l l1 c a.ls[k] (zm7 l a.ls[k]) k hz (by rw [<-hr])).go
    generalize hez:zm7 l a.ls[k]=ez at *
    repeat' ((conv=>whnf);first
    | refine Yz ?_
     | (refine Mt _ (Nat.beq_refl _) ?_)
     | (refine Mf _ b1 ?_)
     | (refine Mf _ b2 ?_)
     | ((refine Mt _ ?_ ?_);focus ((repeat' (first |exact zan rfl|exact zan (Nat.beq_refl _)|((refine zam ?h ?_);(case h=>first |rfl|assumption))));done))
     | ((refine Mf _ ?_ ?_);focus ((repeat' (first |exact rfl|((refine zam ?h ?_);(case h=>first |rfl|assumption))));done))
     | (refine zal.rec Lnt.cells_length k rfl hlt ?_)
     | (refine hst (fun e h1 h2=> ?_) (fun h _=>absurd h hz) (fun h _=>absurd h hz))
     | (obtain rfl:=h1)
     | (refine zko.trow (c+1) (by decide) rfl (by simp [Go.Evl.freeK]) ?_)
     | (refine Cmp.ff hz ?_)
     | (exact hno))
  ·obtain rfl:k=a.ls.length:=by omega
   rw [List.drop_length,zu0] at hr
   have hok:=(okQ l l1 c hr.symm hl).go
   repeat' ((conv=>whnf);first
   | refine Yz ?_
    | (refine Mt _ (Nat.beq_refl _) ?_)
    | (refine Mf _ b1 ?_)
    | (refine Mf _ b2 ?_)
    | ((refine Mt _ ?_ ?_);focus ((repeat' (first |exact zan rfl|exact zan (Nat.beq_refl _)|((refine zam ?h ?_);(case h=>first |rfl|assumption))));done))
    | ((refine Mf _ ?_ ?_);focus ((repeat' (first |exact rfl|((refine zam ?h ?_);(case h=>first |rfl|assumption))));done))
    | (exact hok))
theorem ypf (ms:List Mst) (i:Nat) (a b:Mst) (l1:List Ent) (d:Nat) (l0:List Ent) (hl0:l0.length<=64) (ha:a.ls.length<=1000000) (ok:yhy a.da l0 a.ls) (res:List Ent×Int) (hres:zu0 a.da l0 a.ls=res) {K:Ex->Env->Mem->Prop}
  (okP:∀l:List Ent,res=(l,0)->l.length<=64->ypz (K (.exit 2) (eX ms i a ⟨0,75,d⟩ l.length a.ls.length) (kC a b l1 d l)))
  (okQ:∀(l l2:List Ent) (c:Nat),res=(l,0)->l.length<=64->d<c->ypz (K (.exit 2) (eX ms i a ⟨0,75,c⟩ l.length a.ls.length) (kD a b l1 l2 d c l)))
  (noP:∀(l:List Ent) (x:Lnt) (e:Int) (k:Nat),e≠0->res.2=e->ypz (K (.exit 0) (eB ms i a ⟨0,75,(d+1)⟩ e k) (qC a b l1 d l x (d+1))))
  (noQ:∀(l l2:List Ent) (c:Nat) (x:Lnt) (e:Int) (k:Nat),e≠0->res.2=e->d<c->ypz (K (.exit 0) (eB ms i a ⟨0,75,(c+1)⟩ e k) (qD a b l1 l2 d c l x (c+1)))):
  zaf E ⟨0,0+1⟩ [0,5,6,7,9,16,17,18,64,65,66] [⟨0,2,0⟩,⟨0,5,0⟩,⟨0,75,d⟩,⟨0,9,0⟩,⟨0,10,0⟩] zh0 (eL ms i a ⟨0,75,d⟩ l0.length 0) (kC a b l1 d l0) K:=by
 refine zaf.to (zaf.by (σ:=Option (List Ent×Nat)×List Ent×Nat) g (fun s=>s.2.1.length<=64/\s.2.2<=a.ls.length/\zu0 a.da s.2.1 (a.ls.drop s.2.2)=res/\yhy a.da s.2.1 (a.ls.drop s.2.2)/\(∀p,s.1=some p->d<p.2)) (fun s=>match s.1 with|none=>eL ms i a ⟨0,75,d⟩ s.2.1.length s.2.2|some p=>eL ms i a ⟨0,75,p.2⟩ s.2.1.length s.2.2) (fun s=>match s.1 with|none=>kC a b l1 d s.2.1|some p=>kD a b l1 p.1 d p.2 s.2.1) (fun s=>a.ls.length-s.2.2) ?_ (none,l0,0) ⟨hl0,Nat.zero_le _,hres,ok,fun _ h=>by cases h⟩) rfl rfl
 clear hres ok hl0
 rintro⟨_|⟨l2,c⟩,l,k⟩ ⟨hl,hk,hr,hp,hd⟩ ih
 ·dsimp only at hl hk hr hp hd ih ⊢
  clear hd
  have b1:Nat.beq d (d+1)=false:=zmi (by omega)
  have b2:Nat.beq (d+1) d=false:=zmi (by omega)
  by_cases hlt:k<a.ls.length
  ·rw [zwx hlt] at hr
   rw [List.drop_eq_getElem_cons hlt] at hp
   obtain⟨hp1,hp2⟩:=hp
   have hst:=fun {K}=>yob g a b l1 d l a.ls[k] a.da hl hp1 (K:=K)
   by_cases hz:zm7 l a.ls[k]=0
   ·rw [if_pos hz] at hr
    have hlen:=z8l (da:=a.da) hl hz hp1
    by_cases h68:a.ls[k].ac=[68]
    ·have ih:=ih (some (l,d+1),zja l a.ls[k] a.da,k+1) ⟨hlen,by dsimp only;omega,hr,hp2 hz,fun p hp=>by cases hp;exact Nat.lt_succ_self _⟩ (by dsimp only;omega)
     dsimp only at ih
     generalize zja l a.ls[k] a.da=L at *
     repeat' ((conv=>whnf);first
     | refine Yz ?_
      | (refine Mt _ (Nat.beq_refl _) ?_)
      | (refine Mf _ b1 ?_)
      | (refine Mf _ b2 ?_)
      | ((refine Mt _ ?_ ?_);focus ((repeat' (first |exact zan rfl|exact zan (Nat.beq_refl _)|((refine zam ?h ?_);(case h=>first |rfl|assumption))));done))
      | ((refine Mf _ ?_ ?_);focus ((repeat' (first |exact rfl|((refine zam ?h ?_);(case h=>first |rfl|assumption))));done))
      | (refine zal.rec Lnt.cells_length k rfl hlt ?_)
      | (refine hst (fun e h1 h2=>absurd (h1▸hz) h2) (fun _ h=>absurd h68 h) (fun _ _=> ?_))
      | (refine zko.trow (d+1) (by decide) rfl (by simp [Go.Evl.freeK]) ?_)
      | (refine zaf.to ih rfl rfl))
    ·have ih:=ih (none,zja l a.ls[k] a.da,k+1) ⟨hlen,by dsimp only;omega,hr,hp2 hz,fun _ h=>by cases h⟩ (by dsimp only;omega)
     dsimp only at ih
     generalize zja l a.ls[k] a.da=L at *
     repeat' ((conv=>whnf);first
     | refine Yz ?_
      | (refine Mt _ (Nat.beq_refl _) ?_)
      | (refine Mf _ b1 ?_)
      | (refine Mf _ b2 ?_)
      | ((refine Mt _ ?_ ?_);focus ((repeat' (first |exact zan rfl|exact zan (Nat.beq_refl _)|((refine zam ?h ?_);(case h=>first |rfl|assumption))));done))
      | ((refine Mf _ ?_ ?_);focus ((repeat' (first |exact rfl|((refine zam ?h ?_);(case h=>first |rfl|assumption))));done))
      | (refine zal.rec Lnt.cells_length k rfl hlt ?_)
      | (refine hst (fun e h1 h2=>absurd (h1▸hz) h2) (fun _ _=> ?_) (fun _ h=>absurd h h68))
      | (refine zko.tlow (Nat.lt_succ_self 0) ?_)
      | (refine zaf.to ih rfl rfl))
   ·rw [if_neg hz] at hr
    have hno:=(noP l a.ls[k] (zm7 l a.ls[k]) k hz (by rw [<-hr])).go
    generalize hez:zm7 l a.ls[k]=ez at *
    repeat' ((conv=>whnf);first
    | refine Yz ?_
     | (refine Mt _ (Nat.beq_refl _) ?_)
     | (refine Mf _ b1 ?_)
     | (refine Mf _ b2 ?_)
     | ((refine Mt _ ?_ ?_);focus ((repeat' (first |exact zan rfl|exact zan (Nat.beq_refl _)|((refine zam ?h ?_);(case h=>first |rfl|assumption))));done))
     | ((refine Mf _ ?_ ?_);focus ((repeat' (first |exact rfl|((refine zam ?h ?_);(case h=>first |rfl|assumption))));done))
     | (refine zal.rec Lnt.cells_length k rfl hlt ?_)
     | (refine hst (fun e h1 h2=> ?_) (fun h _=>absurd h hz) (fun h _=>absurd h hz))
     | (obtain rfl:=h1)
     | (refine zko.trow (d+1) (by decide) rfl (by simp [Go.Evl.freeK]) ?_)
     | (refine Cmp.ff hz ?_)
     | (exact hno))
  ·obtain rfl:k=a.ls.length:=by omega
   rw [List.drop_length,zu0] at hr
   have hok:=(okP l hr.symm hl).go
   repeat' ((conv=>whnf);first
   | refine Yz ?_
    | (refine Mt _ (Nat.beq_refl _) ?_)
    | (refine Mf _ b1 ?_)
    | (refine Mf _ b2 ?_)
    | ((refine Mt _ ?_ ?_);focus ((repeat' (first |exact zan rfl|exact zan (Nat.beq_refl _)|((refine zam ?h ?_);(case h=>first |rfl|assumption))));done))
    | ((refine Mf _ ?_ ?_);focus ((repeat' (first |exact rfl|((refine zam ?h ?_);(case h=>first |rfl|assumption))));done))
    | (exact hok))
 ·dsimp only at hl hk hr hp hd ih ⊢
  have hd:d<c:=hd _ rfl
  have b1:Nat.beq c (c+1)=false:=zmi (by omega)
  have b2:Nat.beq (c+1) c=false:=zmi (by omega)
  have b3:Nat.beq d c=false:=zmi (by omega)
  have b4:Nat.beq c d=false:=zmi (by omega)
  have b5:Nat.beq d (c+1)=false:=zmi (by omega)
  have b6:Nat.beq (c+1) d=false:=zmi (by omega)
  by_cases hlt:k<a.ls.length
  ·rw [zwx hlt] at hr
   rw [List.drop_eq_getElem_cons hlt] at hp
   obtain⟨hp1,hp2⟩:=hp
   have hst:=fun {K}=>yoc g a b l1 l2 d c (show ¬d=c by omega) l a.ls[k] a.da hl hp1 (K:=K)
   by_cases hz:zm7 l a.ls[k]=0
   ·rw [if_pos hz] at hr
    have hlen:=z8l (da:=a.da) hl hz hp1
    by_cases h68:a.ls[k].ac=[68]
    ·have ih:=ih (some (l2,c+1),zja l a.ls[k] a.da,k+1) ⟨hlen,by dsimp only;omega,hr,hp2 hz,fun p hp=>by cases hp;dsimp only;omega⟩ (by dsimp only;omega)
     dsimp only at ih
     generalize zja l a.ls[k] a.da=L at *
     repeat' ((conv=>whnf);first
     | refine Yz ?_
      | (refine Mt _ (Nat.beq_refl _) ?_)
      | (refine Mf _ b1 ?_)
      | (refine Mf _ b2 ?_)
      | (refine Mf _ b3 ?_)
      | (refine Mf _ b4 ?_)
      | (refine Mf _ b5 ?_)
      | (refine Mf _ b6 ?_)
      | ((refine Mt _ ?_ ?_);focus ((repeat' (first |exact zan rfl|exact zan (Nat.beq_refl _)|((refine zam ?h ?_);(case h=>first |rfl|assumption))));done))
      | ((refine Mf _ ?_ ?_);focus ((repeat' (first |exact rfl|((refine zam ?h ?_);(case h=>first |rfl|assumption))));done))
      | (refine zal.rec Lnt.cells_length k rfl hlt ?_)
      | (refine hst (fun e h1 h2=>absurd (h1▸hz) h2) (fun _ h=>absurd h68 h) (fun _ _=> ?_))
      | (refine zko.trow (c+1) (by decide) rfl (by simp [Go.Evl.freeK];omega) ?_)
      | (refine zaf.to ih rfl rfl))
    ·have ih:=ih (some (l2,c),zja l a.ls[k] a.da,k+1) ⟨hlen,by dsimp only;omega,hr,hp2 hz,fun p hp=>by cases hp;exact hd⟩ (by dsimp only;omega)
     dsimp only at ih
     generalize zja l a.ls[k] a.da=L at *
     repeat' ((conv=>whnf);first
     | refine Yz ?_
      | (refine Mt _ (Nat.beq_refl _) ?_)
      | (refine Mf _ b1 ?_)
      | (refine Mf _ b2 ?_)
      | (refine Mf _ b3 ?_)
      | (refine Mf _ b4 ?_)
      | (refine Mf _ b5 ?_)
      | (refine Mf _ b6 ?_)
      | ((refine Mt _ ?_ ?_);focus ((repeat' (first |exact zan rfl|exact zan (Nat.beq_refl _)|((refine zam ?h ?_);(case h=>first |rfl|assumption))));done))
      | ((refine Mf _ ?_ ?_);focus ((repeat' (first |exact rfl|((refine zam ?h ?_);(case h=>first |rfl|assumption))));done))
      | (refine zal.rec Lnt.cells_length k rfl hlt ?_)
      | (refine hst (fun e h1 h2=>absurd (h1▸hz) h2) (fun _ _=> ?_) (fun _ h=>absurd h h68))
      | (refine zko.tlow (Nat.lt_succ_self 0) ?_)
      | (refine zaf.to ih rfl rfl))
   ·rw [if_neg hz] at hr
    have hno:=(noQ l l2 c a.ls[k] (zm7 l a.ls[k]) k hz (by rw [<-hr]) hd).go
    generalize hez:zm7 l a.ls[k]=ez at *
    repeat' ((conv=>whnf);first
    | refine Yz ?_
     | (refine Mt _ (Nat.beq_refl _) ?_)
     | (refine Mf _ b1 ?_)
     | (refine Mf _ b2 ?_)
     | (refine Mf _ b3 ?_)
     | (refine Mf _ b4 ?_)
     | (refine Mf _ b5 ?_)
     | (refine Mf _ b6 ?_)
     | ((refine Mt _ ?_ ?_);focus ((repeat' (first |exact zan rfl|exact zan (Nat.beq_refl _)|((refine zam ?h ?_);(case h=>first |rfl|assumption))));done))
     | ((refine Mf _ ?_ ?_);focus ((repeat' (first |exact rfl|((refine zam ?h ?_);(case h=>first |rfl|assumption))));done))
     | (refine zal.rec Lnt.cells_length k rfl hlt ?_)
     | (refine hst (fun e h1 h2=> ?_) (fun h _=>absurd h hz) (fun h _=>absurd h hz))
     | (obtain rfl:=h1)
     | (refine zko.trow (c+1) (by decide) rfl (by simp [Go.Evl.freeK];omega) ?_)
     | (refine Cmp.ff hz ?_)
     | (exact hno))
  ·obtain rfl:k=a.ls.length:=by omega
   rw [List.drop_length,zu0] at hr
   have hok:=(okQ l l2 c hr.symm hl hd).go
   repeat' ((conv=>whnf);first
   | refine Yz ?_
    | (refine Mt _ (Nat.beq_refl _) ?_)
    | (refine Mf _ b1 ?_)
    | (refine Mf _ b2 ?_)
    | (refine Mf _ b3 ?_)
    | (refine Mf _ b4 ?_)
    | (refine Mf _ b5 ?_)
    | (refine Mf _ b6 ?_)
    | ((refine Mt _ ?_ ?_);focus ((repeat' (first |exact zan rfl|exact zan (Nat.beq_refl _)|((refine zam ?h ?_);(case h=>first |rfl|assumption))));done))
    | ((refine Mf _ ?_ ?_);focus ((repeat' (first |exact rfl|((refine zam ?h ?_);(case h=>first |rfl|assumption))));done))
    | (exact hok))
end
end Go.Proofs.YtkgcnknhkobmjaaGreatDoor.Co
