/-
  TopTowerCrashes returns true, for every argument: the law, and the last part of what it leans on.
-/
import Derived.Laws.RangeAny
import Derived.Lib.SplitLaws
import Derived.Test.YtnabmkmhbncidabGreatDoorEvX
import Derived.Test.YtnabmkmhbncidabGreatDoorEvY
import Derived.Test.YtnabmkmhbncidabGreatDoorEvZ
import Derived.Test.YtnabmkmhbncidabGreatDoorRead
import Derived.Test.YtnabmkmhbncidabGreatDoorSpBase
import Derived.Test.YtnabmkmhbncidabGreatDoorCra
namespace Go.Proofs.YtnabmkmhbncidabGreatDoor.Co
open Go Go.Evl
set_option maxHeartbeats 32000000
set_option maxRecDepth 100000
section
variable {E : Oracle} (g : Good E)
include g
theorem ybc (ev:List Evt) (r:Rgs) (ho:OkR r) (kn:Int) {slot:Nat} {K:V->Mem->Prop} (hK:K (Ws (yf6 r kn)) (mR zaa ev r)):
  In E 1 zcv [.ptr ⟨0,0,0⟩ 1 0,I kn] (mR zaa ev r) fun v m'=>zzc ⟨0,1⟩ slot true v m' K:=by
 have hes:=ho.es
 have hml:(r.es.flatMap Ent.cells).length=r.es.length*8:=zae Ent.cells 8 zot r.es
 refine In.enter (f:=zcv) g.lim rfl rfl ?_
 repeat' ((conv=>whnf);first
 | refine Yz ?_
  | (refine In.enter (f:=zcx) g.lim rfl rfl ?_)
  | fail)
 refine zak.to (zak.by (σ:=Nat×List Ent) g (fun u=>u.1<=r.es.length/\u.2=(r.es.take u.1).filter fun x=>z0q r x kn)
  (fun u=>[(1,.fn zcg [] [.ptr ⟨1,2,0⟩ 0 0,.ptr ⟨1,3,0⟩ 0 0]),(5,.ref ⟨2,5,0⟩ 0 u.2.length u.2.length),(8,.ref ⟨0,0,2⟩ 0 r.es.length r.es.length),(9,I r.es.length),(10,I u.1)])
  (fun u=>mR zaa ev r++[(⟨1,2,0⟩,.cells za9 [.ptr ⟨0,0,0⟩ 1 0]),(⟨1,3,0⟩,.cells zci [I kn]),(⟨2,4,0⟩,.row false zac 8 0 []),(⟨2,5,0⟩,.row false zac 8 u.2.length (u.2.flatMap Ent.cells))])
  (fun u=>r.es.length-u.1) ?_ (0,[]) ⟨Nat.zero_le _,rfl⟩) rfl rfl
 rintro⟨k,out⟩ ⟨h1,h2⟩ ih
 dsimp only at h1 h2 ih ⊢
 have hmo:(out.flatMap Ent.cells).length=out.length*8:=zae Ent.cells 8 zot out
 have hol:out.length<=256:=by
  rw [h2]
  refine Nat.le_trans (List.length_filter_le _ _) ?_
  rw [List.length_take];omega
 by_cases hlt:k<r.es.length
 ·have hwin:win (r.es.flatMap Ent.cells) ((0+((k:Nat):Int).toNat)*8) 8=r.es[k].cells:=by
   rw [Nat.zero_add,Int.toNat_natCast]
   exact zbx Ent.cells 8 zot r.es k hlt
  have hq:=ysd g zaa ev r ho kn k hlt
  cases hc:z0q r r.es[k] kn with
  | true=>
   rw [hc] at hq
   have ih:=ih (k+1,out++[r.es[k]]) ⟨by dsimp only;omega,by dsimp only;rw [zki _ _ _ hlt,<-h2,hc];rfl⟩ (by dsimp only;omega)
   simp only [List.length_append,List.length_cons,List.length_nil,List.flatMap_append,List.flatMap_cons,List.flatMap_nil] at ih
   repeat' ((conv=>whnf);first
   | refine Yz ?_
    | (rw [hwin])
    | (refine In.enter (f:=zcg) g.lim rfl rfl ?_)
    | (refine zlp.of (r':=B true) [⟨0,0,0⟩,⟨0,0,1⟩,⟨0,0,2⟩,⟨0,0,3⟩,⟨0,0,4⟩] rfl rfl rfl rfl hq rfl rfl rfl ?_)
    | (refine zcp.mk ⟨rfl,rfl,rfl,rfl,rfl,rfl,by dsimp only;omega,by dsimp only;omega⟩ ?_)
    | (refine zak.to ih rfl rfl)
    | fail)
  | false=>
   rw [hc] at hq
   have ih:=ih (k+1,out) ⟨by dsimp only;omega,by dsimp only;rw [zki _ _ _ hlt,<-h2,hc];simp⟩ (by dsimp only;omega)
   repeat' ((conv=>whnf);first
   | refine Yz ?_
    | (rw [hwin])
    | (refine In.enter (f:=zcg) g.lim rfl rfl ?_)
    | (refine zlp.of (r':=B false) [⟨0,0,0⟩,⟨0,0,1⟩,⟨0,0,2⟩,⟨0,0,3⟩,⟨0,0,4⟩] rfl rfl rfl rfl hq rfl rfl rfl ?_)
    | (refine zak.to ih rfl rfl)
    | fail)
 ·rw [List.take_of_length_le (by omega)] at h2
  have hcl:yf6 r kn=out.map Ent.nm:=by rw [yf6,<-h2]
  rw [hcl] at hK
  clear hcl h2 ih
  repeat' ((conv=>whnf);first
  | refine Yz ?_
   | (refine zcp.mk ⟨rfl,by omega⟩ ?_)
   | (rw [if_pos ⟨rfl,rfl⟩];refine In.enter (f:=zav) g.lim rfl rfl ?_)
   | (refine In.enter (f:=zav) g.lim rfl rfl ?_)
   | fail)
  refine zak.to (zak.by (σ:=List (List UInt8)) g (fun u=>u.length<=out.length/\u=(out.take u.length).map Ent.nm)
   (fun u=>[(1,.fn zhl [] []),(5,.ref ⟨2,5,0⟩ 0 u.length u.length),(8,.d (.list out.length (out.flatMap Ent.cells))),(9,I out.length),(10,I u.length)])
   (fun u=>mR zaa ev r++[(⟨1,2,0⟩,.cells za9 [.ptr ⟨0,0,0⟩ 1 0]),(⟨1,3,0⟩,.cells zci [I kn]),(⟨2,4,0⟩,.row false zab 1 0 []),(⟨2,5,0⟩,.row false zab 1 u.length (u.map D.str))])
   (fun u=>out.length-u.length) ?_ [] ⟨Nat.zero_le _,rfl⟩) rfl rfl
  rintro u ⟨h3,h4⟩ ih
  dsimp only at h3 h4 ih ⊢
  by_cases hlt2:u.length<out.length
  ·have hwin:win (out.flatMap Ent.cells) (((u.length:Nat):Int).toNat*8) 8=out[u.length].cells:=by
    rw [Int.toNat_natCast]
    exact zbx Ent.cells 8 zot out u.length hlt2
   have ih:=ih (u++[out[u.length].nm]) ⟨by rw [List.length_append,List.length_singleton];omega,by
    rw [List.length_append,List.length_singleton,List.take_succ_eq_append_getElem hlt2,List.map_append,<-h4];rfl⟩ (by rw [List.length_append,List.length_singleton];omega)
   simp only [List.length_append,List.length_cons,List.length_nil,List.map_append,List.map_cons,List.map_nil] at ih
   repeat' ((conv=>whnf);first
   | refine Yz ?_
    | (rw [hwin])
    | (refine In.enter (f:=zhl) g.lim rfl rfl ?_)
    | (refine zcp.mk ⟨rfl,rfl,rfl,rfl,rfl,rfl,by dsimp only;omega,by dsimp only;omega⟩ ?_)
    | (refine zak.to ih rfl rfl)
    | fail)
  ·rw [List.take_of_length_le (by omega)] at h4
   rw [<-h4] at hK
   repeat' ((conv=>whnf);first
   | refine Yz ?_
    | (refine zcp.mk ⟨rfl,by omega⟩ ?_)
    | (rw [if_pos ⟨rfl,rfl⟩];exact hK)
    | (exact hK)
    | fail)
theorem yjm (ev:List Evt) (r:Rgs) (ho:OkR r) (kn:Int):Ui E zcv [.ptr ⟨0,0,0⟩ 1 0,I kn] (mR zaa ev r) (Ws (yf6 r kn)) (mR zaa ev r):=
 ⟨ybc g ev r ho kn ⟨rfl,⟨rfl,rfl,rfl,rfl,rfl,trivial⟩⟩⟩
end
def yuf (r:Rgs) (x:Ent) (on:List UInt8):Bool:=(chF r.es.length r.es x).tail.any fun y=>decide (y.nm=on)
def ys5 (r:Rgs) (on:List UInt8):List (List UInt8):=(r.es.filter fun x=>yuf r x on).map Ent.nm
theorem ynp (x:Ent) (tl:List Ent):win ((x::tl).flatMap Ent.cells) (1*8) ((tl.length+1-1)*8)=tl.flatMap Ent.cells:=by
 unfold win
 rw [List.flatMap_cons]
 rw [Nat.add_sub_cancel,List.drop_append_of_le_length (by rw [zot];decide),List.drop_of_length_le (by rw [zot];decide),List.nil_append,<-zae Ent.cells 8 zot tl,List.take_length]
abbrev mKZ (ev:List Evt) (r:Rgs) (on:List UInt8) (out:List Ent):Mem:=mR zaa ev r++[(⟨1,2,0⟩,.cells za9 [.ptr ⟨0,0,0⟩ 1 0]),(⟨1,3,0⟩,.cells zab [S on]),(⟨2,4,0⟩,.row false zac 8 0 []),(⟨2,5,0⟩,.row false zac 8 out.length (out.flatMap Ent.cells))]
section
variable {E : Oracle} (g : Good E)
include g
theorem ybe (ev:List Evt) (r:Rgs) (ho:OkR r) (on:List UInt8) (out0:List Ent) (k:Nat) (hk:k<r.es.length) (bx:Evl.Id×Ob) (hbx:bx=(⟨2,7,0⟩,.cells zac [S r.es[k].nm,S r.es[k].kd,S r.es[k].sr,S r.es[k].bs,I r.es[k].kn,I r.es[k].fr,I r.es[k].to,I r.es[k].mi])) {slot:Nat} {K:V->Mem->Prop} (hK:K (B (yuf r r.es[k] on)) (mKZ ev r on out0++[bx])):
  In E 3 zco [yuv r.es[k],.ptr ⟨1,2,0⟩ 0 0,.ptr ⟨1,3,0⟩ 0 0] (mKZ ev r on out0++[bx]) fun v m'=>zzc ⟨2,3⟩ slot true v m' K:=by
 have hes:=ho.es
 have hc:=z6c ho.bases r.es.length k (by omega) hk
 have hcl:=ydn r.es r.es.length r.es[k]
 unfold yuf at hK
 generalize chF r.es.length r.es r.es[k]=c at *
 have hml:(r.es.flatMap Ent.cells).length=r.es.length*8:=zae Ent.cells 8 zot r.es
 generalize hx:r.es[k]=x at *
 subst hbx
 refine In.enter (f:=zco) g.lim rfl rfl ?_
 repeat' ((conv=>whnf);first
 | refine Yz ?_
  | (refine In.enter (f:=zdq) g.lim rfl rfl ?_)
  | fail)
 refine zak.to (zak.by (σ:=List Ent×Ent×Nat×List Ent) g (fun u=>(∃hk:u.2.2.1<r.es.length,r.es[u.2.2.1]=u.2.1)/\Ch r.es u.2.2.1 u.2.2.2/\∃pre,u.1=pre++[u.2.1]/\pre++u.2.2.2=c)
  (fun u=>[(0,.ptr ⟨0,0,0⟩ 1 0),(5,.ref ⟨4,8,0⟩ 0 u.1.length u.1.length)])
  (fun u=>mKZ ev r on out0++[(⟨2,7,0⟩,.cells zac [S x.nm,S x.kd,S x.sr,S x.bs,I x.kn,I x.fr,I x.to,I x.mi]),(⟨3,3,0⟩,.cells zac [S x.nm,S x.kd,S x.sr,S x.bs,I x.kn,I x.fr,I x.to,I x.mi]),(⟨4,3,0⟩,.cells zac [S x.nm,S x.kd,S x.sr,S x.bs,I x.kn,I x.fr,I x.to,I x.mi]),(⟨4,4,0⟩,.row false zac 8 0 []),(⟨4,8,0⟩,.row false zac 8 u.1.length (u.1.flatMap Ent.cells))])
  (fun u=>u.2.2.2.length) ?_ ([x],x,k,c) ⟨⟨hk,hx⟩,hc,[],rfl,rfl⟩) rfl rfl
 have hc0:=hc
 clear hc hx
 rintro⟨out,y,k2,tl⟩ ⟨⟨hk2,hy⟩,hc,pre,h1,h2⟩ ih
 dsimp only at hk2 hy hc h1 h2 ih ⊢
 have hol:out.length=pre.length+1:=by rw [h1];simp
 have hlast:out[pre.length]'(by omega)=y:=by simp [h1]
 have hq:=z0e g zaa ev r y.bs (by omega)
 have hcl2:pre.length+tl.length<=257:=by rw [<-List.length_append,h2];omega
 have hmo:(out.flatMap Ent.cells).length=out.length*8:=zae Ent.cells 8 zot out
 cases hc with
 | stop k2 hk' h=>
  rw [hy] at h h2
  rw [h,ydr,if_neg (by decide)] at hq
  obtain rfl:out=c:=h1.trans h2
  obtain⟨z,rest,rfl⟩:∃z rest,out=z::rest:=List.exists_cons_of_ne_nil (by intro e;rw [e] at hol;simp at hol)
  have hll:(z::rest).length=rest.length+1:=rfl
  have hw8:=ynp z rest
  have hmr:(rest.flatMap Ent.cells).length=rest.length*8:=zae Ent.cells 8 zot rest
  rw [List.tail_cons] at hK
  clear ih
  repeat' ((conv=>whnf);first
  | refine Yz ?_
   | (refine zgw.rec0 zot pre.length (by omega) (by omega) rfl ?_;rw [hlast])
   | (refine zlp.of (r':= .d .nilp) isR rfl rfl rfl rfl hq rfl rfl rfl ?_)
   | (rw [if_pos ⟨rfl,rfl⟩])
   | (refine zcp.mk ⟨rfl,by omega⟩ ?_)
   | (refine zc2.at 1 (rest.length+1) rfl (by omega) (by omega) ?_;rw [hw8])
   | (refine In.enter (f:=zas) g.lim rfl rfl ?_)
   | (refine In.enter (f:=zar) g.lim rfl rfl ?_)
   | fail)
  refine zak.to (zak.upP g (fun k=>[(0,.d (.list rest.length (rest.flatMap Ent.cells))),(1,.fn zca [] [.ptr ⟨1,3,0⟩ 0 0]),(7,I rest.length),(8,I k)]) (fun _=>mKZ ev r on out0++[(⟨2,7,0⟩,.cells zac [S x.nm,S x.kd,S x.sr,S x.bs,I x.kn,I x.fr,I x.to,I x.mi]),(⟨3,3,0⟩,.cells zac [S x.nm,S x.kd,S x.sr,S x.bs,I x.kn,I x.fr,I x.to,I x.mi])])
   (fun k=>∀j,(hj:j<rest.length)->j<k->rest[j].nm≠on) rest.length (fun m hm hp ihm=> ?_) 0 (Nat.zero_le _) (fun j _ h=>absurd h (Nat.not_lt_zero _))) rfl rfl
  by_cases hlt:m<rest.length
  ·have hwin:win (rest.flatMap Ent.cells) (((m:Nat):Int).toNat*8) 8=rest[m].cells:=by
    rw [Int.toNat_natCast]
    exact zbx Ent.cells 8 zot rest m hlt
   by_cases hb:rest[m].nm=on
   ·have ha:(rest.any fun y=>decide (y.nm=on))=true:=List.any_eq_true.2 ⟨_,List.getElem_mem hlt,decide_eq_true hb⟩
    rw [ha] at hK
    repeat' ((conv=>whnf);first
    | refine Yz ?_
     | (rw [hwin];refine In.enter (f:=zca) g.lim rfl rfl ?_)
     | (refine Cmp.tt hb ?_)
     | (exact hK)
     | fail)
   ·have ihm:=ihm hlt fun j hj hjm=>by
     by_cases e:j=m
     ·subst e;exact hb
     ·exact hp j hj (by omega)
    repeat' ((conv=>whnf);first
    | refine Yz ?_
     | (rw [hwin];refine In.enter (f:=zca) g.lim rfl rfl ?_)
     | (refine Cmp.ff hb ?_)
     | (refine zak.to ihm rfl rfl)
     | fail)
  ·obtain rfl:m=rest.length:=by omega
   have ha:(rest.any fun y=>decide (y.nm=on))=false:=by
    rw [List.any_eq_false]
    intro z hz
    obtain⟨j,hj,rfl⟩:=List.mem_iff_getElem.1 hz
    simpa using hp j hj hj
   rw [ha] at hK
   repeat' ((conv=>whnf);first
   | refine Yz ?_
    | (exact hK)
    | fail)
 | step k2 j tl hk' h ht=>
  rw [hy] at h h2
  rw [h,ydr,if_pos (by omega)] at hq
  obtain⟨hj,hj'⟩:∃hj:j<r.es.length,True:=by
   cases ht with
   | stop _ hj _=>exact⟨hj,trivial⟩
   | step _ _ _ hj _ _=>exact⟨hj,trivial⟩
  have hwin:win (r.es.flatMap Ent.cells) ((0+((j:Nat):Int).toNat)*8) 8=r.es[j].cells:=by
   rw [Nat.zero_add,Int.toNat_natCast]
   exact zbx Ent.cells 8 zot r.es j hj
  simp only [List.length_cons] at hcl2
  have ih:=ih (out++[r.es[j]],r.es[j],j,tl) ⟨⟨hj,rfl⟩,ht,out,rfl,by rw [h1,List.append_assoc];exact h2⟩ (by simp)
  simp only [List.length_append,List.length_cons,List.length_nil,List.flatMap_append,List.flatMap_cons,List.flatMap_nil] at ih
  repeat' ((conv=>whnf);first
  | refine Yz ?_
   | (refine zgw.rec0 zot pre.length (by omega) (by omega) rfl ?_;rw [hlast])
   | (refine zlp.of (r':= .ptr ⟨0,0,2⟩ ((0+((j:Nat):Int).toNat)*8) r.es.length) isR rfl rfl rfl rfl hq rfl rfl rfl ?_)
   | (rw [hwin])
   | (refine zcp.mk ⟨rfl,rfl,rfl,rfl,rfl,rfl,by dsimp only;omega,by omega⟩ ?_)
   | (refine zak.to ih rfl rfl)
   | fail)
theorem yd3 (ev:List Evt) (r:Rgs) (ho:OkR r) (on:List UInt8) {slot:Nat} {K:V->Mem->Prop} (hK:K (.tup [if zpz r.es on<0 then Ws [] else Ws (ys5 r on),I (if zpz r.es on<0 then 10 else 0)]) (mR zaa ev r)):
  In E 1 zc8 [.ptr ⟨0,0,0⟩ 1 0,S on] (mR zaa ev r) fun v m'=>zzc ⟨0,1⟩ slot true v m' K:=by
 have hes:=ho.es
 have hml:(r.es.flatMap Ent.cells).length=r.es.length*8:=zae Ent.cells 8 zot r.es
 have hq0:=z0e g zaa ev r on (by omega)
 refine In.enter (f:=zc8) g.lim rfl rfl ?_
 by_cases hi:zpz r.es on<0
 ·rw [if_pos hi,if_pos hi] at hK
  rw [ydr,if_neg (by omega)] at hq0
  repeat' ((conv=>whnf);first
  | refine Yz ?_
   | (refine zlp.of (r':= .d .nilp) isR rfl rfl rfl rfl hq0 rfl rfl rfl ?_)
   | (exact hK)
   | fail)
 rw [if_neg hi,if_neg hi] at hK
 rw [ydr,if_pos (by omega)] at hq0
 generalize zpz r.es on=i0 at *
 repeat' ((conv=>whnf);first
 | refine Yz ?_
  | (refine zlp.of (r':= .ptr ⟨0,0,2⟩ ((0+i0.toNat)*8) r.es.length) isR rfl rfl rfl rfl hq0 rfl rfl rfl ?_)
  | (refine In.enter (f:=zcx) g.lim rfl rfl ?_)
  | fail)
 refine zak.to (zak.by (σ:=Nat×List Ent) g (fun u=>u.1<=r.es.length/\u.2=(r.es.take u.1).filter fun x=>yuf r x on)
  (fun u=>[(1,.fn zco [] [.ptr ⟨1,2,0⟩ 0 0,.ptr ⟨1,3,0⟩ 0 0]),(5,.ref ⟨2,5,0⟩ 0 u.2.length u.2.length),(8,.ref ⟨0,0,2⟩ 0 r.es.length r.es.length),(9,I r.es.length),(10,I u.1)])
  (fun u=>mKZ ev r on u.2)
  (fun u=>r.es.length-u.1) ?_ (0,[]) ⟨Nat.zero_le _,rfl⟩) rfl rfl
 rintro⟨k,out⟩ ⟨h1,h2⟩ ih
 dsimp only at h1 h2 ih ⊢
 have hmo:(out.flatMap Ent.cells).length=out.length*8:=zae Ent.cells 8 zot out
 have hol:out.length<=256:=by
  rw [h2]
  refine Nat.le_trans (List.length_filter_le _ _) ?_
  rw [List.length_take];omega
 by_cases hlt:k<r.es.length
 ·have hwin:win (r.es.flatMap Ent.cells) ((0+((k:Nat):Int).toNat)*8) 8=r.es[k].cells:=by
   rw [Nat.zero_add,Int.toNat_natCast]
   exact zbx Ent.cells 8 zot r.es k hlt
  cases hc:yuf r r.es[k] on with
  | true=>
   have ih:=ih (k+1,out++[r.es[k]]) ⟨by dsimp only;omega,by dsimp only;rw [zki _ _ _ hlt,<-h2,hc];rfl⟩ (by dsimp only;omega)
   simp only [List.length_append,List.length_cons,List.length_nil,List.flatMap_append,List.flatMap_cons,List.flatMap_nil,mKZ] at ih
   repeat' ((conv=>whnf);first
   | refine Yz ?_
    | (rw [hwin])
    | (refine ybe g ev r ho on out k hlt _ rfl (slot:=16) ?_;rw [hc])
    | (refine zcp.mk ⟨rfl,rfl,rfl,rfl,rfl,rfl,by dsimp only;omega,by dsimp only;omega⟩ ?_)
    | (refine zak.to ih rfl rfl)
    | fail)
  | false=>
   have ih:=ih (k+1,out) ⟨by dsimp only;omega,by dsimp only;rw [zki _ _ _ hlt,<-h2,hc];simp⟩ (by dsimp only;omega)
   repeat' ((conv=>whnf);first
   | refine Yz ?_
    | (rw [hwin])
    | (refine ybe g ev r ho on out k hlt _ rfl (slot:=16) ?_;rw [hc])
    | (refine zak.to ih rfl rfl)
    | fail)
 ·rw [List.take_of_length_le (by omega)] at h2
  have hcl:ys5 r on=out.map Ent.nm:=by rw [ys5,<-h2]
  rw [hcl] at hK
  clear hcl h2 ih
  repeat' ((conv=>whnf);first
  | refine Yz ?_
   | (refine zcp.mk ⟨rfl,by omega⟩ ?_)
   | (rw [if_pos ⟨rfl,rfl⟩];refine In.enter (f:=zav) g.lim rfl rfl ?_)
   | (refine In.enter (f:=zav) g.lim rfl rfl ?_)
   | fail)
  refine zak.to (zak.by (σ:=List (List UInt8)) g (fun u=>u.length<=out.length/\u=(out.take u.length).map Ent.nm)
   (fun u=>[(1,.fn zhl [] []),(5,.ref ⟨2,5,0⟩ 0 u.length u.length),(8,.d (.list out.length (out.flatMap Ent.cells))),(9,I out.length),(10,I u.length)])
   (fun u=>mR zaa ev r++[(⟨1,2,0⟩,.cells za9 [.ptr ⟨0,0,0⟩ 1 0]),(⟨1,3,0⟩,.cells zab [S on]),(⟨2,4,0⟩,.row false zab 1 0 []),(⟨2,5,0⟩,.row false zab 1 u.length (u.map D.str))])
   (fun u=>out.length-u.length) ?_ [] ⟨Nat.zero_le _,rfl⟩) rfl rfl
  rintro u ⟨h3,h4⟩ ih
  dsimp only at h3 h4 ih ⊢
  by_cases hlt2:u.length<out.length
  ·have hwin:win (out.flatMap Ent.cells) (((u.length:Nat):Int).toNat*8) 8=out[u.length].cells:=by
    rw [Int.toNat_natCast]
    exact zbx Ent.cells 8 zot out u.length hlt2
   have ih:=ih (u++[out[u.length].nm]) ⟨by rw [List.length_append,List.length_singleton];omega,by
    rw [List.length_append,List.length_singleton,List.take_succ_eq_append_getElem hlt2,List.map_append,<-h4];rfl⟩ (by rw [List.length_append,List.length_singleton];omega)
   simp only [List.length_append,List.length_cons,List.length_nil,List.map_append,List.map_cons,List.map_nil] at ih
   repeat' ((conv=>whnf);first
   | refine Yz ?_
    | (rw [hwin])
    | (refine In.enter (f:=zhl) g.lim rfl rfl ?_)
    | (refine zcp.mk ⟨rfl,rfl,rfl,rfl,rfl,rfl,by dsimp only;omega,by dsimp only;omega⟩ ?_)
    | (refine zak.to ih rfl rfl)
    | fail)
  ·rw [List.take_of_length_le (by omega)] at h4
   rw [<-h4] at hK
   repeat' ((conv=>whnf);first
   | refine Yz ?_
    | (refine zcp.mk ⟨rfl,by omega⟩ ?_)
    | (rw [if_pos ⟨rfl,rfl⟩];exact hK)
    | (exact hK)
    | fail)
theorem ynn (ev:List Evt) (r:Rgs) (ho:OkR r) (on:List UInt8):Ui E zc8 [.ptr ⟨0,0,0⟩ 1 0,S on] (mR zaa ev r) (.tup [if zpz r.es on<0 then Ws [] else Ws (ys5 r on),I (if zpz r.es on<0 then 10 else 0)]) (mR zaa ev r):=
 ⟨yd3 g ev r ho on ⟨rfl,⟨rfl,rfl,rfl,rfl,rfl,trivial⟩⟩⟩
end
theorem z50 {α β:Type} {f:α->Option β} {p:β}:∀ {l:List α},(∀a∈l,f a=some p)->yjq f l=some (l.map fun _=>p)
 | [],_=>rfl
 | a::l,h=>by
  unfold yjq
  rw [h a (by simp),Option.bind_some,z50 fun b hb=>h b (by simp [hb])]
  rfl
theorem yfy {α β:Type} {f:α->Option β} {p:α->β}:∀ {l:List α},(∀a∈l,f a=some (p a))->yjq f l=some (l.map p)
 | [],_=>rfl
 | a::l,h=>by
  unfold yjq
  rw [h a (by simp),Option.bind_some,yfy fun b hb=>h b (by simp [hb])]
  rfl
theorem zv1 (sz:Nat):∀(n:Nat) (ds:List D),ds.length=n*sz->(zmm sz n ds).flatten=ds
 | 0,ds,h=>by
  have:ds=[]:=List.length_eq_zero_iff.1 (by omega)
  subst this
  rfl
 | n+1,ds,h=>by
  rw [Nat.succ_mul] at h
  rw [zmm,List.flatten_cons,zv1 sz n (ds.drop sz) (by rw [List.length_drop];omega),List.take_append_drop]
theorem zzy {run:Mem->Option (V×Mem)} {m:Mem} {o:Evl.Id} {a b c t n:Nat} {xs:List D} (hl:Evl.look m o=some (.bag t 1 n xs)) (hx:xs.length=n) (p:V×Mem)
  (hr:∀l:List D,l.Perm xs->run (upd m o (.row true t 1 n l))=some p) (hle:leM m p.2 (znb false m p.2)=true):zq0 run m (.ref o a b c)=some (p.1,znb false m p.2):=by
 have hx1:xs.length=n*1:=by omega
 unfold zq0
 simp only [hl]
 rw [if_pos hx1,hr xs (List.Perm.refl _),Option.bind_some]
 have hall:yjq (fun l=>run (upd m o (.row true t 1 n l.flatten))) (z4d (zmm 1 n xs))=some ((z4d (zmm 1 n xs)).map fun _=>p):=by
  refine z50 fun l hl'=>hr _ ?_
  have h1:=(zrn _ _).1 hl'
  have h2:=h1.flatten
  rwa [zv1 1 n xs hx1] at h2
 rw [hall,Option.bind_some]
 unfold z79
 rw [if_pos]
 rw [List.all_eq_true]
 intro q hq
 obtain⟨_,_,rfl⟩:=List.mem_map.1 hq
 rw [z11,hle]
 rfl
theorem z8o:∀e:Env,yqj e e=true
 | []=>rfl
 | (t,v)::r=>by simp [yqj,z11,z8o r]
theorem z7f {body:Env->Mem->Option (Ex×Env×Mem)} {cx:Cx} {it:Nat} {x:Opd} {out nxt pair:Nat} {live:List Nat} {e1:Env} {m1:Mem} {o:Evl.Id} {es:List (D×V)} (hx:x.ev e1= .mp o) (hl:Evl.look m1 o=some (.map es))
  {i:Evl.Id} {m2:Mem} {e2 e3:Env} (hi:Evl.newId cx it m1=i) (hm:upd (upd m1 i .gone) o .gone=m2) (he:only live (put e1 it (.it i))=e2) (R:List (D×V)->Mem)
  (hr:∀p,p.Perm es->zjp body it i out nxt pair live (zps m2) p e2 m2=some (.normal,e3,R p)) {mj:Mem} (hj:znb true m2 (R es)=mj) (hle:∀p,p.Perm es->leM m2 (R p) mj=true) (hg:Evl.look mj o=some .gone):
  zsx body cx it x out nxt pair live e1 m1=some (.normal,e3,upd mj o (.map es)):=by
 subst hj
 unfold zsx
 simp only [hx,hl,hi,hm,he]
 unfold zxg
 simp only [hr es (List.Perm.refl _),Option.bind_some]
 have hall:yjq (fun p=>zjp body it i out nxt pair live (zps m2) p e2 m2) (z4d es)=some ((z4d es).map fun p=>(.normal,e3,R p)):=yfy fun p hp=>hr p ((zrn _ _).1 hp)
 rw [hall,Option.bind_some]
 unfold z0b
 rw [if_pos]
 ·simp only [Option.bind_some,z4f,hg]
 ·rw [List.all_eq_true]
  intro q hq
  obtain⟨p,hp,rfl⟩:=List.mem_map.1 hq
  dsimp only
  rw [z8o,hle p ((zrn _ _).1 hp)]
  rfl
theorem ygd:∀es:List (D×V),yof es es=true
 | []=>rfl
 | (k,v)::r=>by simp [yof,z4p,z11,ygd r]
inductive LeJ (m0:Mem):Mem->Mem->Prop
 | nil:LeJ m0 [] []
 | cells {i:Evl.Id} {t:Nat} {cs:List V} {r r':Mem} (h:LeJ m0 r r'):LeJ m0 ((i,.cells t cs)::r) ((i,.cells t cs)::r')
 | row {i:Evl.Id} {w:Bool} {t sz n:Nat} {xs:List D} {r r':Mem} (h:LeJ m0 r r'):LeJ m0 ((i,.row w t sz n xs)::r) ((i,.row w t sz n xs)::r')
 | gone {i:Evl.Id} {r r':Mem} (h:LeJ m0 r r'):LeJ m0 ((i,.gone)::r) ((i,.gone)::r')
 | map {i:Evl.Id} {es:List (D×V)} {r r':Mem} (he:yof es es=true) (h:LeJ m0 r r'):LeJ m0 ((i,.map es)::r) ((i,.map es)::r')
 | loop {i:Evl.Id} {e e0:Env} {ps ps0:List Nat} {a b a0 b0:C} {lv lv0:Nat} {bu bu0 ov ov0:Bool} {j j0:Option yjv} {r r':Mem} (hl:Evl.look m0 i=some (.loop e0 ps0 a0 b0 lv0 bu0 ov0 j0)) (hj:yi4 j j=true) (h:LeJ m0 r r'):LeJ m0 ((i,.loop e ps a b lv bu ov j)::r) ((i,.loop e ps a b lv bu ov j)::r')
 | bag {i:Evl.Id} {t sz n:Nat} {xs ys:List D} {r r':Mem} (hb:ynv sz n ys xs=true) (h:LeJ m0 r r'):LeJ m0 ((i,.row true t sz n xs)::r) ((i,.bag t sz n ys)::r')
theorem LeJ.ok {m0 a b:Mem} (h:LeJ m0 a b):leM m0 a b=true:=by
 induction h with
 | nil=>rfl
 | cells h ih=>simp [leM,leO,zou,ih]
 | row h ih=>simp [leM,leO,zma,ih]
 | gone h ih=>simp [leM,leO,ih]
 | map he h ih=>simp [leM,leO,he,ih]
 | loop hl hj h ih=>simp [leM,leO,hl,hj,z8o,ih]
 | bag hb h ih=>simp [leM,leO,hb,ih]
theorem z4x {x:List D}:∀ {l:List (List D)},x∈l->∃r,zxa x l=some r
 | y::r,h=>by
  unfold zxa
  by_cases e:zmx x y=true
  ·exact⟨r,if_pos e⟩
  ·rw [if_neg e]
   rcases List.mem_cons.1 h with rfl|h
   ·exact absurd (zma x) e
   ·obtain⟨q,hq⟩:=z4x h
    exact⟨y::q,by rw [hq];rfl⟩
theorem yhf:∀ {a b:List (List D)},a.Perm b->yex a b=true
 | [],b,h=>by
  have:=List.Perm.nil_eq h
  subst this
  rfl
 | x::r,b,h=>by
  have hx:x∈b:=h.subset (by simp)
  obtain⟨q,hq⟩:=z4x hx
  have h1:=zus x b q hq
  unfold yex
  rw [hq]
  exact yhf ((List.perm_cons x).1 (h.trans h1))
theorem zzz:∀(l:List D),zmm 1 l.length l=l.map fun x=>[x]
 | []=>rfl
 | x::r=>by
  rw [List.length_cons,zmm,List.map_cons]
  have:=zzz r
  simp only [List.take_succ_cons,List.take_zero,List.drop_succ_cons,List.drop_zero]
  rw [this]
theorem yq8 {xs ys:List D} {n:Nat} (h:xs.Perm ys) (hn:ys.length=n):ynv 1 n xs ys=true:=by
 have hx:xs.length=n:=h.length_eq.trans hn
 unfold ynv
 subst hn
 rw [decide_eq_true (by omega),decide_eq_true (by omega),Bool.true_and,Bool.true_and]
 have e1:zmm 1 ys.length xs=xs.map fun x=>[x]:=by rw [<-hx];exact zzz xs
 rw [e1,zzz]
 exact yhf (h.map _)
abbrev zmn (ks:List (List UInt8)):List (D×V):=ks.map fun k=>(D.str k,B true)
theorem zsr:∀ks:List (List UInt8),Evl.idsM (zmn ks)=[]
 | []=>rfl
 | k::ks=>by
  unfold zmn
  rw [List.map_cons,Evl.idsM]
  exact(List.nil_append _).trans (zsr ks)
abbrev lpK:Ob:= .loop [(2,.ptr ⟨4,2,0⟩ 0 0),(4,.ref ⟨4,4,0⟩ 0 0 0),(6,.fn zam [] [.ptr ⟨1,29,0⟩ 0 0])] [7] zfb zfc 4 false false none
abbrev yqu (us:List (List UInt8)):Ob:= .row true zab 1 us.length (us.map D.str)
abbrev eK:Env:=[(0,.yld ⟨4,14,0⟩),(5,.it ⟨5,5,0⟩)]
section
variable {E : Oracle} (g : Good E)
include g
omit g in
theorem ya6 {ks:List (List UInt8)} {p:List (D×V)} (h:p.Perm (zmn ks)):∃us:List (List UInt8),p=zmn us/\us.Perm ks:=by
 refine⟨p.map fun e=>match e.1 with
  | .str s=>s
  | _=>[],?_,?_⟩
 ·unfold zmn
  rw [List.map_map]
  symm
  have:∀x∈p,((fun k=>(D.str k,B true))∘fun e:D×V=>match e.1 with
   | .str s=>s
   | _=>[]) x=x:=fun x hx=>by
   have:=h.subset hx
   obtain⟨k,_,rfl⟩:=List.mem_map.1 this
   rfl
  calc List.map _ p=List.map id p:=List.map_congr_left this
   _=p:=List.map_id p
 ·have h1:=h.map fun e:D×V=>match e.1 with
   | .str s=>s
   | _=>[]
  refine h1.trans ?_
  unfold zmn
  rw [List.map_map]
  have:List.map ((fun e:D×V=>match e.1 with
   | .str s=>s
   | _=>[])∘fun k=>(D.str k,B true)) ks=ks:=by
   calc _=List.map id ks:=List.map_congr_left fun _ _=>rfl
    _=ks:=List.map_id ks
  rw [this]
abbrev e1K:Env:=[(0,.yld ⟨4,14,0⟩),(1,.ptr ⟨1,29,0⟩ 0 0),(4,.mp ⟨1,14,0⟩)]
omit g in
theorem ynf {ks:List (List UInt8)} {p:List D} (h:p.Perm (ks.map D.str)):∃us:List (List UInt8),p=us.map D.str/\us.Perm ks:=by
 refine⟨p.map fun e=>match e with
  | .str s=>s
  | _=>[],?_,?_⟩
 ·rw [List.map_map]
  symm
  have:∀x∈p,(D.str∘fun e:D=>match e with
   | .str s=>s
   | _=>[]) x=x:=fun x hx=>by
   have:=h.subset hx
   obtain⟨k,_,rfl⟩:=List.mem_map.1 this
   rfl
  calc List.map _ p=List.map id p:=List.map_congr_left this
   _=p:=List.map_id p
 ·have h1:=h.map fun e:D=>match e with
   | .str s=>s
   | _=>[]
  refine h1.trans ?_
  rw [List.map_map]
  have:List.map ((fun e:D=>match e with
   | .str s=>s
   | _=>[])∘D.str) ks=ks:=by
   calc _=List.map id ks:=List.map_congr_left fun _ _=>rfl
    _=ks:=List.map_id ks
  rw [this]
omit g in
theorem z7o {a b:List (List UInt8)} (h:a.Perm b):zmz a=zmz b:=by
 have hanti:∀x y:List UInt8,zbs y x=false->zbs x y=false->x=y:=by
  intro x
  induction x with
  | nil=>intro y _ h2;cases y with
   | nil=>rfl
   | cons=>simp [zbs] at h2
  | cons c x ih=>intro y h1 h2;cases y with
   | nil=>simp [zbs] at h1
   | cons d y=>
    simp only [zbs,Bool.or_eq_false_iff,decide_eq_false_iff_not,Bool.and_eq_false_iff,beq_eq_false_iff_ne,ne_eq,UInt8.not_lt] at h1 h2
    have e:c=d:=UInt8.le_antisymm h1.1 h2.1
    subst e
    rw [ih y (h1.2.resolve_left (fun h=>h rfl)) (h2.2.resolve_left (fun h=>h rfl))]
 exact List.Perm.eq_of_pairwise (le:=fun x y=>zbs y x=false) (fun x y _ _ h1 h2=>hanti x y h1 h2) (zqi a) (zqi b) ((zjd a).trans (h.trans (zjd b).symm))
end
structure Slt where
 sr:List UInt8
 mi:Int
def Slt.cells (t:Slt):List D:=[.str t.sr,DI t.mi]
theorem yvv (t:Slt):t.cells.length=2:=rfl
abbrev LS2 (l:List Slt):V:= .d (.list l.length (l.flatMap Slt.cells))
def z4y (ks:List (List UInt8)) (s:List UInt8):List (List UInt8):=if s∈ks then ks else ks++[s]
def srK (es:List Ent):List (List UInt8):=es.foldl (fun ks x=>z4y ks x.sr) []
theorem yp2 (es:List Ent) (k:Nat) (h:k<es.length):srK (es.take (k+1))=z4y (srK (es.take k)) es[k].sr:=by
 unfold srK
 rw [List.take_succ_eq_append_getElem h,List.foldl_append]
 rfl
theorem yn2 (ks:List (List UInt8)) (s:List UInt8):(z4y ks s).length<=ks.length+1:=by
 unfold z4y
 split
 ·omega
 ·simp
theorem ync (es:List Ent):(srK es).length<=es.length:=by
 have key:∀(es:List Ent) (ks:List (List UInt8)),(es.foldl (fun ks x=>z4y ks x.sr) ks).length<=ks.length+es.length:=by
  intro es
  induction es with
  | nil=>intro ks;simp
  | cons x es ih=>
   intro ks
   rw [List.foldl_cons]
   have:=ih (z4y ks x.sr)
   have:=yn2 ks x.sr
   simp only [List.length_cons];omega
 have:=key es []
 simpa [srK] using this
theorem ycm (s:List UInt8):∀ks:List (List UInt8),Evl.setE (.str s) (B true) (zmn ks)=some (zmn (z4y ks s))
 | []=>rfl
 | q::ks=>by
  unfold zmn
  rw [List.map_cons,Evl.setE]
  have he:Evl.eqD (.str s) (.str q)=some (s==q):=rfl
  simp only [he]
  by_cases e:s=q
  ·subst e
   simp [z4y]
  ·have:(s==q)=false:=beq_eq_false_iff_ne.2 e
   rw [this]
   dsimp only
   have ih:=ycm s ks
   unfold zmn at ih
   rw [ih]
   by_cases hm:s∈ks
   ·simp [z4y,hm]
   ·have:¬s∈q::ks:=by simp [e,hm]
    simp [z4y,hm,this]
def ypw (r:Rgs) (kn d:Int) (ks:List (List UInt8)):List Slt:=(ks.filter fun s=>decide (z5l r s kn d≠1440)).map fun s=>⟨s,z5l r s kn d⟩
theorem ya9 (p:List UInt8->Bool) (l:List (List UInt8)) (k:Nat) (h:k<l.length):(l.take (k+1)).filter p=(l.take k).filter p++if p l[k] then [l[k]] else []:=zki p l k h
def z9v (r:Rgs) (kn d:Int):List Slt:=ypw r kn d (zmz (srK r.es))
abbrev mTZ (l:List Evt) (r:Rgs):Mem:=mR zaa l r++[(⟨1,6,0⟩,.row false zcc 2 0 [])]
abbrev mZZ (l:List Evt) (r:Rgs) (ks:List (List UInt8)):Mem:=mTZ l r++[(⟨1,14,0⟩,.map (zmn ks)),(⟨1,10,0⟩,.row false zcc 2 0 []),(⟨1,29,0⟩,.cells zdw [.mp ⟨1,14,0⟩])]
abbrev yg0 (l:List Evt) (r:Rgs):Mem:=mTZ l r++[(⟨1,14,0⟩,.gone),(⟨1,10,0⟩,.row false zcc 2 0 []),(⟨1,29,0⟩,.cells zdw [.mp ⟨1,14,0⟩]),(⟨2,2,0⟩,.row true zab 1 0 []),(⟨3,2,0⟩,.row true zab 1 0 []),(⟨4,2,0⟩,.cells zry [.d .nil]),(⟨4,4,0⟩,.row true zab 1 0 []),(⟨4,14,0⟩,lpK),(⟨5,5,0⟩,.gone)]
abbrev yql (l:List Evt) (r:Rgs) (us:List (List UInt8)) (last:Ob):Mem:=mTZ l r++[(⟨1,14,0⟩,.gone),(⟨1,10,0⟩,.row false zcc 2 0 []),(⟨1,29,0⟩,.cells zdw [.mp ⟨1,14,0⟩]),(⟨2,2,0⟩,.row true zab 1 0 []),(⟨3,2,0⟩,.row true zab 1 0 []),(⟨4,2,0⟩,.cells zry [.ref ⟨4,11,0⟩ 0 us.length us.length]),(⟨4,4,0⟩,.row true zab 1 0 []),(⟨4,14,0⟩,lpK),(⟨5,5,0⟩,.gone),(⟨4,11,0⟩,last)]
section
variable {E : Oracle} (g : Good E)
include g
abbrev yqg (E:Oracle):Env->Mem->Option (Ex×Env×Mem):=fun e m=>(zjo E ⟨5,6⟩ [xq 9 8 0,mq 3 9] e m).bind fun q=>evC E ⟨5,6⟩ zb6 (zd0 [8,9] q.1) q.2
omit g in
theorem yj8 {e:Env} {m:Mem} {K:Ex->Env->Mem->Prop} (h:Evl.wpOps E ⟨5,6⟩ [xq 9 8 0,mq 3 9] e m fun e' m'=>wpC E ⟨5,6⟩ zb6 (zd0 [8,9] e') m' K):∃x e' m',yqg E e m=some (x,e',m')/\K x e' m':=by
 obtain⟨p,h1,h2⟩:=Evl.wpOps_ok _ _ _ _ h
 obtain⟨x,e',m',h3,h4⟩:=Evl.wpC_ok _ _ _ _ h2
 exact⟨x,e',m',by unfold yqg;rw [h1,Option.bind_some];exact h3,h4⟩
theorem ysg (l:List Evt) (r:Rgs) (k:List UInt8):∃x e' m',yqg E (put eK 8 (.tup [S k,B true])) (yg0 l r)=some (x,e',m')/\(x= .normal/\zub (get e' 5) (.it ⟨5,5,0⟩)=true/\only [0,5] e'=eK/\gc (zps (yg0 l r)) eK m'=yql l r [k] (yqu [k])):=by
 refine yj8 ?_
 repeat' ((conv=>whnf);first
 | refine Yz ?_
  | (refine Rnd.enter g.lim ?_)
  | (refine zcp.mk ⟨by decide,rfl,by decide,by decide⟩ ?_)
  | (exact⟨rfl,rfl,rfl,rfl⟩)
  | fail)
theorem ysh (l:List Evt) (r:Rgs) (us:List (List UInt8)) (hu:us.length<=1000000) (k:List UInt8):∃x e' m',yqg E (put eK 8 (.tup [S k,B true])) (yql l r us (yqu us))=some (x,e',m')/\(x= .normal/\zub (get e' 5) (.it ⟨5,5,0⟩)=true/\only [0,5] e'=eK/\gc (zps (yg0 l r)) eK m'=yql l r (us++[k]) (yqu (us++[k]))):=by
 refine yj8 ?_
 repeat' ((conv=>whnf);first
 | refine Yz ?_
  | (refine Rnd.enter g.lim ?_)
  | (refine zcp.mk ⟨rfl,rfl,rfl,rfl,rfl,rfl,by dsimp only;omega,by first |omega|(dsimp only;omega)⟩ ?_)
  | (refine⟨rfl,rfl,rfl,?_⟩)
  | fail)
 simp only [yql,yqu,List.length_append,List.length_cons,List.length_nil,List.map_append,List.map_cons,List.map_nil]
 rfl
theorem ymm (l:List Evt) (r:Rgs):∀(ps us:List (List UInt8)),us.length+ps.length<=1000000->zjp (yqg E) 5 ⟨5,5,0⟩ 0 1 8 [0,5] (zps (yg0 l r)) (zmn ps) eK (yql l r us (yqu us))=some (.normal,eK,yql l r (us++ps) (yqu (us++ps)))
 | [],us,_=>by
  rw [List.append_nil]
  rfl
 | p::ps,us,h=>by
  rw [List.length_cons] at h
  obtain⟨x,e',m',h1,rfl,h2,h3,h4⟩:=ysh g l r us (by omega) p
  unfold zmn
  rw [List.map_cons,zjp,h1,Option.bind_some]
  unfold zlj
  dsimp only [Ex.on]
  rw [if_pos h2,h3,h4]
  have:=ymm l r ps (us++[p]) (by rw [List.length_append,List.length_singleton];omega)
  rw [List.append_assoc] at this
  exact this
theorem ypi (l:List Evt) (r:Rgs) (p:List UInt8) (ps:List (List UInt8)) (hl:ps.length<=100000):zjp (yqg E) 5 ⟨5,5,0⟩ 0 1 8 [0,5] (zps (yg0 l r)) (zmn (p::ps)) eK (yg0 l r)=some (.normal,eK,yql l r (p::ps) (yqu (p::ps))):=by
 obtain⟨x,e',m',h1,rfl,h2,h3,h4⟩:=ysg g l r p
 unfold zmn
 rw [List.map_cons,zjp,h1,Option.bind_some]
 unfold zlj
 dsimp only [Ex.on]
 rw [if_pos h2,h3,h4]
 exact ymm g l r ps [p] (by simp;omega)
abbrev yvo (l:List Evt) (r:Rgs) (ks:List (List UInt8)):Mem:=mTZ l r++[(⟨1,14,0⟩,.map (zmn ks)),(⟨1,10,0⟩,.row false zcc 2 0 []),(⟨1,29,0⟩,.cells zdw [.mp ⟨1,14,0⟩]),(⟨2,2,0⟩,.row true zab 1 0 []),(⟨3,2,0⟩,.row true zab 1 0 []),(⟨4,2,0⟩,.cells zry [.d .nil]),(⟨4,4,0⟩,.row true zab 1 0 []),(⟨4,14,0⟩,lpK)]
abbrev ytw (l:List Evt) (r:Rgs) (mp:Ob) (n:Nat) (last:Ob):Mem:=mTZ l r++[(⟨1,14,0⟩,mp),(⟨1,10,0⟩,.row false zcc 2 0 []),(⟨1,29,0⟩,.cells zdw [.mp ⟨1,14,0⟩]),(⟨2,2,0⟩,.row true zab 1 0 []),(⟨3,2,0⟩,.row true zab 1 0 []),(⟨4,2,0⟩,.cells zry [.ref ⟨4,11,0⟩ 0 n n]),(⟨4,4,0⟩,.row true zab 1 0 []),(⟨4,14,0⟩,lpK),(⟨5,5,0⟩,.gone),(⟨4,11,0⟩,last)]
theorem ytr (l:List Evt) (r:Rgs) (k:List UInt8) (kr:List (List UInt8)) (hl:kr.length<=100000):
  zsx (yqg E) ⟨5,6⟩ 5 (.t 4) 0 1 8 [0,5] e1K (yvo l r (k::kr))=some (.normal,eK,ytw l r (.map (zmn (k::kr))) (kr.length+1) (.bag zab 1 (kr.length+1) ((k::kr).map D.str))):=by
 have hj:znb true (yg0 l r) (ytw l r .gone (kr.length+1) (.row true zab 1 (kr.length+1) ((k::kr).map D.str)))=ytw l r .gone (kr.length+1) (.bag zab 1 (kr.length+1) ((k::kr).map D.str)):=by
  simp [znb,ynw,yda,Evl.look]
 refine(z7f (o:=⟨1,14,0⟩) (es:=zmn (k::kr)) rfl rfl (i:=⟨5,5,0⟩) (m2:=yg0 l r) (e2:=eK) (e3:=eK) rfl rfl rfl
  (fun p=>ytw l r .gone (kr.length+1) (.row true zab 1 (kr.length+1) (p.map fun e=>e.1))) (fun p hp=> ?_) (mj:=ytw l r .gone (kr.length+1) (.bag zab 1 (kr.length+1) ((k::kr).map D.str))) ?_ (fun p hp=> ?_) rfl).trans rfl
 ·obtain⟨us,rfl,hu⟩:=ya6 hp
  have hul:us.length=kr.length+1:=hu.length_eq
  obtain⟨a,b,rfl⟩:∃a b,us=a::b:=List.exists_cons_of_ne_nil (by rintro rfl;simp at hul)
  rw [ypi g l r a b (by simp at hul;omega)]
  dsimp only [yql,yqu]
  rw [hul]
  have:(zmn (a::b)).map (fun e=>e.1)=(a::b).map D.str:=by
   unfold zmn
   rw [List.map_map]
   rfl
  rw [this]
 ·have:(zmn (k::kr)).map (fun e=>e.1)=(k::kr).map D.str:=by
   unfold zmn
   rw [List.map_map]
   rfl
  rw [this]
  exact hj
 ·obtain⟨us,rfl,hu⟩:=ya6 hp
  have:(zmn us).map (fun e=>e.1)=us.map D.str:=by
   unfold zmn
   rw [List.map_map]
   rfl
  rw [this]
  have hb:ynv 1 (kr.length+1) ((k::kr).map D.str) (us.map D.str)=true:=yq8 (hu.symm.map _) (by rw [List.length_map];exact hu.length_eq)
  exact LeJ.ok (.cells<| .row<| .row<| .row<| .row<| .row<| .gone<| .row<| .cells<| .row<| .row<| .cells<| .row<| .loop rfl rfl<| .gone<| .bag hb .nil)
omit g in
theorem yrs (l:List Evt) (r:Rgs):zsx (yqg E) ⟨5,6⟩ 5 (.t 4) 0 1 8 [0,5] e1K (yvo l r [])=some (.normal,eK,yvo l r []++[(⟨5,5,0⟩,.gone)]):=by
 have hj:znb true (yg0 l r) (yg0 l r)=yg0 l r:=by
  simp [znb,ynw,yda,Evl.look]
 refine(z7f (o:=⟨1,14,0⟩) (es:=[]) rfl rfl (i:=⟨5,5,0⟩) (m2:=yg0 l r) (e2:=eK) (e3:=eK) rfl rfl rfl (fun _=>yg0 l r) (fun p hp=> ?_) (mj:=yg0 l r) hj (fun p hp=> ?_) rfl).trans rfl
 ·have:=hp.symm.nil_eq
  subst this
  rfl
 ·exact LeJ.ok (.cells<| .row<| .row<| .row<| .row<| .row<| .gone<| .row<| .cells<| .row<| .row<| .cells<| .row<| .loop rfl rfl<| .gone .nil)
abbrev yir (l:List Evt) (r:Rgs) (ks:List (List UInt8)) (last:Ob):Mem:=mZZ l r ks++[(⟨2,2,0⟩,.row true zab 1 0 []),(⟨2,5,0⟩,last)]
theorem ypy (hx:ext n_slices_Sort_Lstring_string=some sortXS) (l:List Evt) (r:Rgs) (ks:List (List UInt8)) (n slot:Nat) (hn:ks.length=n) (h0:n≠0) (hb:n<=100000):
  zq0 (fun m=>zlw E ⟨2,3⟩ slot true true (.fn n_slices_Sort_Lstring_string [] []) [.ref ⟨2,5,0⟩ 0 n n] m) (yir l r ks (.bag zab 1 n (ks.map D.str))) (.ref ⟨2,5,0⟩ 0 n n)=some (.tup [],yir l r ks (.row true zab 1 n ((zmz ks).map D.str))):=by
 have hj:znb false (yir l r ks (.bag zab 1 n (ks.map D.str))) (yir l r ks (.row true zab 1 n ((zmz ks).map D.str)))=yir l r ks (.row true zab 1 n ((zmz ks).map D.str)):=by
  simp [znb,yda]
 refine(zzy (n:=n) (xs:=ks.map D.str) rfl (by rw [List.length_map];exact hn) (.tup [],yir l r ks (.row true zab 1 n ((zmz ks).map D.str))) (fun p hp=> ?_) ?_).trans (by rw [hj])
 ·obtain⟨us,rfl,hu⟩:=ynf hp
  have hul:us.length=n:=hu.length_eq.trans hn
  have key:Evl.callW E ⟨2,3⟩ slot true true (.fn n_slices_Sort_Lstring_string [] []) [.ref ⟨2,5,0⟩ 0 n n] (yir l r ks (.row true zab 1 n (us.map D.str))) fun v m=>v= .tup []/\m=yir l r ks (.row true zab 1 n ((zmz ks).map D.str)):=by
   repeat' ((conv=>whnf);first
   | refine Yz ?_
    | (simp only [Evl.idsAll,Evl.idsO,zsr,List.nil_append])
    | (refine In.extern (v:= .tup []) (m':=yir l r ks (.row true zab 1 n ((zmz ks).map D.str))) g.lim hx ?_ ?_)
    | (exact⟨rfl,rfl⟩)
    | (exact⟨trivial,rfl⟩)
    | fail)
   rw [<-z7o hu]
   show (if n=0/\n=0/\n=0 then some (V.tup [],yir l r ks (.row true zab 1 n (us.map D.str))) else if n=n/\n=n/\n≠0/\n<4611686018427387904 then(match Evl.strsOf (us.map D.str) with
    | some zs=>some (V.tup [],upd (yir l r ks (.row true zab 1 n (us.map D.str))) ⟨2,5,0⟩ (.row true zab 1 n ((zmz zs).map D.str)))
    | none=>none) else none)=_
   rw [if_neg (fun h=>h0 h.1),if_pos ⟨rfl,rfl,h0,by omega⟩,zu8]
   rfl
  obtain⟨q,h1,h2,h3⟩:=Evl.callW_ok key
  have:(q:V×Mem)=(.tup [],yir l r ks (.row true zab 1 n ((zmz ks).map D.str))):=Prod.ext h2 h3
  rw [<-this]
  exact h1
 ·rw [hj]
  exact LeJ.ok (.cells<| .row<| .row<| .row<| .row<| .row<| .map (ygd _)<| .row<| .cells<| .row<| .row .nil)
theorem ym4 (hx:ext n_slices_Sort_Lstring_string=some sortXS) (l:List Evt) (r:Rgs) (slot:Nat):
  zq0 (fun m=>zlw E ⟨2,3⟩ slot true true (.fn n_slices_Sort_Lstring_string [] []) [.d .nil] m) (mZZ l r []++[(⟨2,2,0⟩,.row true zab 1 0 [])]) (.d .nil)=some (.tup [],mZZ l r []++[(⟨2,2,0⟩,.row true zab 1 0 [])]):=by
 have key:Evl.callW E ⟨2,3⟩ slot true true (.fn n_slices_Sort_Lstring_string [] []) [.d .nil] (mZZ l r []++[(⟨2,2,0⟩,.row true zab 1 0 [])]) fun v m=>v= .tup []/\m=mZZ l r []++[(⟨2,2,0⟩,.row true zab 1 0 [])]:=by
  repeat' ((conv=>whnf);first
  | refine Yz ?_
   | (refine In.extern (v:= .tup []) (m':=mZZ l r []++[(⟨2,2,0⟩,.row true zab 1 0 [])]) g.lim hx rfl ?_)
   | (exact⟨rfl,rfl⟩)
   | (exact⟨trivial,rfl⟩)
   | fail)
 obtain⟨q,h1,h2,h3⟩:=Evl.callW_ok key
 have:(q:V×Mem)=(.tup [],mZZ l r []++[(⟨2,2,0⟩,.row true zab 1 0 [])]):=Prod.ext h2 h3
 rw [<-this]
 exact h1
theorem z6s (hx:ext n_slices_Sort_Lstring_string=some sortXS) (l:List Evt) (r:Rgs) (ks:List (List UInt8)) (hl:ks.length<=1000) {slot:Nat} {K:V->Mem->Prop} (hK0:ks=[]->K (.d .nil) (mZZ l r ks)) (hK:ks≠[]->K (Ws (zmz ks)) (mZZ l r ks)):
  In E 2 zfq [.fn zam [] [.ptr ⟨1,29,0⟩ 0 0]] (mZZ l r ks) fun v m'=>zzc ⟨1,2⟩ slot true v m' K:=by
 refine In.enter (f:=zfq) g.lim rfl rfl ?_
 have hs:=(zjd ks).length_eq
 cases ks with
 | nil=>
  have h0:=yrs (E:=E) l r
  have hK:=hK0 rfl
  repeat' ((conv=>whnf);first
  | refine Yz ?_
   | (refine In.enter (f:=ze2) g.lim rfl rfl ?_)
   | (refine In.enter (f:=zch) g.lim rfl rfl ?_)
   | (refine In.enter (f:=zam) g.lim rfl rfl ?_)
   | (refine⟨_,_,_,h0,?_⟩)
   | (refine ztt.mk ⟨(.d .nil,mZZ l r []++[(⟨2,2,0⟩,.row true zab 1 0 []),(⟨3,2,0⟩,.row true zab 1 0 [])]),rfl,?_⟩)
   | (refine ztt.mk ⟨(.d .nil,mZZ l r []++[(⟨2,2,0⟩,.row true zab 1 0 [])]),rfl,?_⟩)
   | (refine⟨_,ym4 g hx l r 7,?_⟩)
   | (exact hK)
   | fail)
 | cons k kr=>
  have h1:=ytr g l r k kr (by simp at hl;omega)
  have hK:=hK (by simp)
  rw [Ws,hs,List.length_cons] at hK
  repeat' ((conv=>whnf);first
  | refine Yz ?_
   | (simp only [Evl.idsAll,Evl.idsO,zsr,List.nil_append])
   | (refine In.enter (f:=ze2) g.lim rfl rfl ?_)
   | (refine In.enter (f:=zch) g.lim rfl rfl ?_)
   | (refine In.enter (f:=zam) g.lim rfl rfl ?_)
   | (refine⟨_,_,_,h1,?_⟩)
   | (refine ztt.mk ⟨(.ref ⟨3,4,0⟩ 0 (kr.length+1) (kr.length+1),mZZ l r (k::kr)++[(⟨2,2,0⟩,.row true zab 1 0 []),(⟨3,2,0⟩,.row true zab 1 0 []),(⟨3,4,0⟩,.bag zab 1 (kr.length+1) ((k::kr).map D.str))]),rfl,?_⟩)
   | (refine ztt.mk ⟨(.ref ⟨2,5,0⟩ 0 (kr.length+1) (kr.length+1),yir l r (k::kr) (.bag zab 1 (kr.length+1) ((k::kr).map D.str))),rfl,?_⟩)
   | (refine⟨_,ypy g hx l r (k::kr) (kr.length+1) 7 rfl (by omega) (by simp at hl;omega),?_⟩)
   | (refine zcp.mk ⟨rfl,by omega⟩ ?_)
   | (exact hK)
   | (simp only [and_self,if_true];exact hK)
   | fail)
end
section
variable {E : Oracle} (g : Good E)
include g
theorem ykx (hx:ext n_slices_Sort_Lstring_string=some sortXS) (l:List Evt) (r:Rgs) (ho:OkR r) (kn d:Int) {slot:Nat} {K:V->Mem->Prop} (hK:K (LS2 (z9v r kn d)) (mR zaa l r)):
  In E 1 zdr [.ptr ⟨0,0,0⟩ 1 0,I kn,I d] (mR zaa l r) fun v m'=>zzc ⟨0,1⟩ slot true v m' K:=by
 have hes:=ho.es
 have hml:(r.es.flatMap Ent.cells).length=r.es.length*8:=zae Ent.cells 8 zot r.es
 refine In.enter (f:=zdr) g.lim rfl rfl ?_
 repeat' ((conv=>whnf);first
 | refine Yz ?_
  | fail)
 refine zak.to (zak.up g (fun k=>[(0,.ptr ⟨0,0,0⟩ 1 0),(1,I kn),(2,I d),(7,.mp ⟨1,14,0⟩),(18,.ref ⟨0,0,2⟩ 0 r.es.length r.es.length),(19,I r.es.length),(20,I k)])
  (fun k=>mTZ l r++[(⟨1,14,0⟩,.map (zmn (srK (r.es.take k))))]) r.es.length (fun k hk ih=> ?_) 0 (Nat.zero_le _)) rfl rfl
 by_cases hlt:k<r.es.length
 ·have ih:=ih hlt
  rw [yp2 r.es k hlt] at ih
  have hwin:win (r.es.flatMap Ent.cells) ((0+((k:Nat):Int).toNat)*8) 8=r.es[k].cells:=by
   rw [Nat.zero_add,Int.toNat_natCast]
   exact zbx Ent.cells 8 zot r.es k hlt
  have hse:=ycm r.es[k].sr (srK (r.es.take k))
  repeat' ((conv=>whnf);first
  | refine Yz ?_
   | (rw [hwin])
   | (refine yv5.mk ⟨_,hse,?_⟩)
   | (simp only [Evl.idsAll,Evl.idsO,zsr,List.nil_append])
   | (refine zak.to ih rfl rfl)
   | fail)
 clear ih
 rw [List.take_of_length_le (by omega)]
 have hkl:(srK r.es).length<=256:=Nat.le_trans (ync r.es) hes
 unfold z9v at hK
 generalize srK r.es=ks at *
 have hsl:=(zjd ks).length_eq
 by_cases hks:ks=[]
 ·subst hks
  repeat' ((conv=>whnf);first
  | refine Yz ?_
   | (refine In.enter (f:=zbm) g.lim rfl rfl ?_)
   | (refine ztt.mk ⟨(.fn zam [] [.ptr ⟨1,29,0⟩ 0 0],mZZ l r []),rfl,?_⟩)
   | (refine z6s g hx l r [] (by simp) (slot:=30) (fun _=> ?_) (fun h=>absurd rfl h))
   | (refine zak.step g.lim ?_)
   | (refine zcp.mk ⟨rfl,by omega⟩ ?_)
   | (exact hK)
   | fail)
 ·repeat' ((conv=>whnf);first
 | refine Yz ?_
   | (simp only [Evl.idsAll,Evl.idsO,zsr,List.nil_append])
   | (refine In.enter (f:=zbm) g.lim rfl rfl ?_)
   | (refine ztt.mk ⟨(.fn zam [] [.ptr ⟨1,29,0⟩ 0 0],mZZ l r ks),rfl,?_⟩)
   | (refine z6s g hx l r ks (by omega) (slot:=30) (fun h=>absurd h hks) (fun _=> ?_))
   | fail)
  generalize zmz ks=ss at *
  refine zak.to (zak.by (σ:=Nat×List Slt) g (fun u=>u.1<=ss.length/\u.2=ypw r kn d (ss.take u.1))
   (fun u=>[(0,.ptr ⟨0,0,0⟩ 1 0),(1,I kn),(2,I d),(10,.ref ⟨1,10,0⟩ 0 u.2.length u.2.length),(30,Ws ss),(31,I ss.length),(32,I u.1)])
   (fun u=>mTZ l r++[(⟨1,14,0⟩,.map (zmn ks)),(⟨1,10,0⟩,.row false zcc 2 u.2.length (u.2.flatMap Slt.cells)),(⟨1,29,0⟩,.cells zdw [.mp ⟨1,14,0⟩])])
   (fun u=>ss.length-u.1) ?_ (0,[]) ⟨Nat.zero_le _,rfl⟩) rfl rfl
  rintro⟨k,out⟩ ⟨i1,i2⟩ ih
  dsimp only at i1 i2 ih ⊢
  have hmo:(out.flatMap Slt.cells).length=out.length*2:=zae Slt.cells 2 yvv out
  have hol:out.length<=256:=by
   rw [i2,ypw,List.length_map]
   refine Nat.le_trans (List.length_filter_le _ _) ?_
   rw [List.length_take];omega
  by_cases hlt:k<ss.length
  ·have hq:=yhj g zaa l r ho ss[k] kn d
   have ht:ypw r kn d (ss.take (k+1))=out++(if decide (z5l r ss[k] kn d≠1440) then [ss[k]] else []).map fun s=>(⟨s,z5l r s kn d⟩:Slt):=by
    rw [i2,ypw,ya9 _ _ _ hlt,List.map_append]
    rfl
   have hpk:∀ {K:D->Prop},K (.str ss[k])->zgw (ss.map D.str) (((k:Nat):Int).toNat*1) K:=fun h=>zgw.ws k rfl hlt h
   by_cases hy:z5l r ss[k] kn d=1440
   ·have ih:=ih (k+1,out) ⟨by dsimp only;omega,by dsimp only;rw [ht,if_neg (by simp [hy])];simp⟩ (by dsimp only;omega)
    rw [hy] at hq
    generalize ss[k]=s at *
    repeat' ((conv=>whnf);first
    | refine Yz ?_
     | (simp only [Evl.idsAll,Evl.idsO,zsr,List.nil_append])
     | (refine hpk ?_)
     | (refine zlp.of (r':=I 1440) [⟨0,0,0⟩,⟨0,0,1⟩,⟨0,0,2⟩,⟨0,0,3⟩,⟨0,0,4⟩] rfl rfl rfl rfl hq rfl rfl rfl ?_)
     | (refine Cmp.tt rfl ?_)
     | (refine zak.to ih rfl rfl)
     | fail)
   ·have ih:=ih (k+1,out++[⟨ss[k],z5l r ss[k] kn d⟩]) ⟨by dsimp only;omega,by dsimp only;rw [ht,if_pos (decide_eq_true hy)];rfl⟩ (by dsimp only;omega)
    simp only [List.length_append,List.length_cons,List.length_nil,List.flatMap_append,List.flatMap_cons,List.flatMap_nil] at ih
    generalize ss[k]=s at *
    generalize z5l r s kn d=y at *
    repeat' ((conv=>whnf);first
    | refine Yz ?_
     | (simp only [Evl.idsAll,Evl.idsO,zsr,List.nil_append])
     | (refine hpk ?_)
     | (refine zlp.of (r':=I y) [⟨0,0,0⟩,⟨0,0,1⟩,⟨0,0,2⟩,⟨0,0,3⟩,⟨0,0,4⟩] rfl rfl rfl rfl hq rfl rfl rfl ?_)
     | (refine Cmp.tt rfl ?_)
     | (refine Cmp.ff hy ?_)
     | (refine Cmp.ff (fun h=>hy h.2) ?_)
     | (refine Cmp.ff (fun h=>hy h.2.1) ?_)
     | (refine zcp.mk ⟨rfl,rfl,rfl,rfl,rfl,rfl,by dsimp only;omega,by first |omega|(dsimp only;omega)⟩ ?_)
     | (refine zak.to ih rfl rfl)
     | fail)
  ·rw [List.take_of_length_le (by omega)] at i2
   rw [<-i2] at hK
   repeat' ((conv=>whnf);first
   | refine Yz ?_
    | (refine zcp.mk ⟨rfl,by omega⟩ ?_)
    | (refine zcp.mk ⟨trivial,trivial⟩ ?_)
    | (simp only [and_self,if_true];exact hK)
    | fail)
theorem yst (ev:List Evt) (r:Rgs) (ho:OkR r) (kn d:Int):Ui E zdr [.ptr ⟨0,0,0⟩ 1 0,I kn,I d] (mR zaa ev r) (LS2 (z9v r kn d)) (mR zaa ev r):=
 ⟨ykx g rfl ev r ho kn d ⟨rfl,⟨rfl,rfl,rfl,rfl,rfl,trivial⟩⟩⟩
end
theorem Ch.head {es:List Ent} {k:Nat} {c:List Ent} (h:Ch es k c):∃hk:k<es.length,c=es[k]::c.tail:=by
 cases h with
 | stop _ hk _=>exact⟨hk,rfl⟩
 | step _ _ _ hk _ _=>exact⟨hk,rfl⟩
section
variable {E : Oracle} (g : Good E)
include g
theorem zul (r:Rgs) (nm:List UInt8) (hl:r.es.length<=1000000):Fc E zfk [Rgv r,S nm] (I (zpz r.es nm)):=by
 refine g.fn rfl rfl ?_
 have hml:(r.es.flatMap Ent.cells).length=r.es.length*8:=zae Ent.cells 8 zot r.es
 repeat' ((conv=>whnf);first
 | refine Yz ?_
  | fail)
 refine zak.to (zak.upP g (fun k=>[(1,S nm),(2,.ptr ⟨0,2,0⟩ 0 0),(5,I k)]) (fun _=>[(⟨0,2,0⟩,.cells zah [I r.kn,.d (.list r.es.length (r.es.flatMap Ent.cells)),.d (.list r.rs.length (r.rs.flatMap Rmv.cells)),.d (.list r.cs.length (r.cs.flatMap Cpl.cells))])]) (fun k=>∀j,(hj:j<k)->(hj':j<r.es.length)->decide (r.es[j].nm=nm)=false) r.es.length (fun k hk hp ih=> ?_) 0 (Nat.zero_le _) (fun j h _=>absurd h (Nat.not_lt_zero _))) rfl rfl
 by_cases hlt:k<r.es.length
 ·by_cases he:r.es[k].nm=nm
  ·have hi:zpz r.es nm=k:=zow (p:=fun x:Ent=>decide (x.nm=nm)) hlt (decide_eq_true he) fun j hj=>hp j hj (by omega)
   rw [hi]
   repeat' ((conv=>whnf);first
   | refine Yz ?_
    | (refine zgw.rec zot k rfl hlt rfl ?_)
    | (refine Cmp.tt he ?_)
    | (refine Ret.mk rfl)
    | fail)
  ·have ih:=ih hlt fun j hj hj'=>by
    by_cases e:j=k
    ·subst e;exact decide_eq_false he
    ·exact hp j (by omega) hj'
   repeat' ((conv=>whnf);first
   | refine Yz ?_
    | (refine zgw.rec zot k rfl hlt rfl ?_)
    | (refine Cmp.ff he ?_)
    | (refine zak.to ih rfl rfl)
    | fail)
 ·obtain rfl:k=r.es.length:=by omega
  have hi:zpz r.es nm= -1:=zmq (p:=fun x:Ent=>decide (x.nm=nm)) fun j hj=>hp j hj hj
  rw [hi]
  repeat' ((conv=>whnf);first
  | refine Yz ?_
   | (refine Ret.mk rfl)
   | fail)
theorem zsw (r:Rgs) (nm:List UInt8) (hl:r.cs.length<=1000000):Fc E zdg [Rgv r,S nm] (I (zwz r.cs nm)):=by
 refine g.fn rfl rfl ?_
 have hml:(r.cs.flatMap Cpl.cells).length=r.cs.length*5:=zae Cpl.cells 5 zs4 r.cs
 repeat' ((conv=>whnf);first
 | refine Yz ?_
  | fail)
 refine zak.to (zak.upP g (fun k=>[(1,S nm),(2,.ptr ⟨0,2,0⟩ 0 0),(5,I k)]) (fun _=>[(⟨0,2,0⟩,.cells zah [I r.kn,.d (.list r.es.length (r.es.flatMap Ent.cells)),.d (.list r.rs.length (r.rs.flatMap Rmv.cells)),.d (.list r.cs.length (r.cs.flatMap Cpl.cells))])]) (fun k=>∀j,(hj:j<k)->(hj':j<r.cs.length)->decide (r.cs[j].nm=nm)=false) r.cs.length (fun k hk hp ih=> ?_) 0 (Nat.zero_le _) (fun j h _=>absurd h (Nat.not_lt_zero _))) rfl rfl
 by_cases hlt:k<r.cs.length
 ·by_cases he:r.cs[k].nm=nm
  ·have hi:zwz r.cs nm=k:=zow (p:=fun x:Cpl=>decide (x.nm=nm)) hlt (decide_eq_true he) fun j hj=>hp j hj (by omega)
   rw [hi]
   repeat' ((conv=>whnf);first
   | refine Yz ?_
    | (refine zgw.rec zs4 k rfl hlt rfl ?_)
    | (refine Cmp.tt he ?_)
    | (refine Ret.mk rfl)
    | fail)
  ·have ih:=ih hlt fun j hj hj'=>by
    by_cases e:j=k
    ·subst e;exact decide_eq_false he
    ·exact hp j (by omega) hj'
   repeat' ((conv=>whnf);first
   | refine Yz ?_
    | (refine zgw.rec zs4 k rfl hlt rfl ?_)
    | (refine Cmp.ff he ?_)
    | (refine zak.to ih rfl rfl)
    | fail)
 ·obtain rfl:k=r.cs.length:=by omega
  have hi:zwz r.cs nm= -1:=zmq (p:=fun x:Cpl=>decide (x.nm=nm)) fun j hj=>hp j hj hj
  rw [hi]
  repeat' ((conv=>whnf);first
  | refine Yz ?_
   | (refine Ret.mk rfl)
   | fail)
theorem ymb (r:Rgs) (nm:List UInt8) (kn:Int) (hl:r.rs.length<=1000000):Fc E zo7 [Rgv r,S nm,I kn] (B (z4h r.rs nm kn)):=by
 refine g.fn rfl rfl ?_
 have hml:(r.rs.flatMap Rmv.cells).length=r.rs.length*2:=zae Rmv.cells 2 yml r.rs
 repeat' ((conv=>whnf);first
 | refine Yz ?_
  | fail)
 refine zak.to (zak.upP g (fun k=>[(1,S nm),(2,I kn),(3,.ptr ⟨0,3,0⟩ 0 0),(7,I k)]) (fun _=>[(⟨0,3,0⟩,.cells zah [I r.kn,.d (.list r.es.length (r.es.flatMap Ent.cells)),.d (.list r.rs.length (r.rs.flatMap Rmv.cells)),.d (.list r.cs.length (r.cs.flatMap Cpl.cells))])])
  (fun k=>∀j,(hj:j<r.rs.length)->j<k->¬(r.rs[j].en=nm/\r.rs[j].kn<=kn)) r.rs.length (fun k hk hp ih=> ?_) 0 (Nat.zero_le _) (fun j _ h=>absurd h (Nat.not_lt_zero _))) rfl rfl
 by_cases hlt:k<r.rs.length
 ·by_cases he:r.rs[k].en=nm
  ·by_cases hn:r.rs[k].kn<=kn
   ·have hb:z4h r.rs nm kn=true:=List.any_eq_true.2 ⟨_,List.getElem_mem hlt,decide_eq_true ⟨he,hn⟩⟩
    rw [hb]
    repeat' ((conv=>whnf);first
    | refine Yz ?_
     | (refine zgw.rec yml k rfl hlt rfl ?_)
     | (refine Cmp.tt he ?_)
     | (refine Ret.mk rfl)
     | fail)
   ·have ih:=ih hlt fun j hj hjk=>by
     by_cases e:j=k
     ·subst e;exact fun h=>hn h.2
     ·exact hp j hj (by omega)
    repeat' ((conv=>whnf);first
    | refine Yz ?_
     | (refine zgw.rec yml k rfl hlt rfl ?_)
     | (refine Cmp.tt he ?_)
     | (refine zak.to ih rfl rfl)
     | fail)
  ·have ih:=ih hlt fun j hj hjk=>by
    by_cases e:j=k
    ·subst e;exact fun h=>he h.1
    ·exact hp j hj (by omega)
   repeat' ((conv=>whnf);first
   | refine Yz ?_
    | (refine zgw.rec yml k rfl hlt rfl ?_)
    | (refine Cmp.ff he ?_)
    | (refine zak.to ih rfl rfl)
    | fail)
 ·obtain rfl:k=r.rs.length:=by omega
  have hb:z4h r.rs nm kn=false:=by
   unfold z4h
   rw [List.any_eq_false]
   intro z hz
   obtain⟨j,hj,rfl⟩:=List.mem_iff_getElem.1 hz
   simpa using hp j hj hj
  rw [hb]
  repeat' ((conv=>whnf);first
  | refine Yz ?_
   | (refine Ret.mk rfl)
   | fail)
theorem z9m (r:Rgs) (ho:OkR r) (kn:Int):∀(k:Nat) (hk:k<r.es.length),Fc E zh0 [Rgv r,I k,I kn] (B (z0q r r.es[k] kn)):=by
 intro k
 induction k using Nat.strongRecOn with
 | _ k ihk=>
  intro hk
  have hes:=ho.es
  have hrm:=ymb g r r.es[k].nm kn (by have:=ho.rs;omega)
  have hml:(r.es.flatMap Ent.cells).length=r.es.length*8:=zae Ent.cells 8 zot r.es
  have hwin:win (r.es.flatMap Ent.cells) (((k:Nat):Int).toNat*8) 8=r.es[k].cells:=by
   rw [Int.toNat_natCast]
   exact zbx Ent.cells 8 zot r.es k hk
  refine g.fn rfl rfl ?_
  rcases ho.bs k hk with hb|⟨j,hj,hb⟩
  ·rw [z8j ho hk hb]
   by_cases h1:r.es[k].kn<=kn
   ·rw [decide_eq_true h1]
    cases hr:z4h r.rs r.es[k].nm kn
    all_goals
     rw [hr] at hrm
     repeat' ((conv=>whnf);first
     | refine Yz ?_
      | (rw [hwin])
      | (apply zai.of;assumption)
      | (refine Cmp.tt hb ?_)
      | (refine Ret.mk rfl)
      | fail)
   ·rw [decide_eq_false h1]
    repeat' ((conv=>whnf);first
    | refine Yz ?_
     | (rw [hwin])
     | (refine Ret.mk rfl)
     | fail)
  ·rw [z8i ho hk hj hb]
   have hb0:r.es[k].bs≠[]:=fun e=>by rw [e,yds ho.nm] at hb;omega
   have hrec:=ihk j hj (by omega)
   have hea:=zul g r r.es[k].bs (by omega)
   rw [hb] at hea
   by_cases h1:r.es[k].kn<=kn
   ·rw [decide_eq_true h1]
    cases hr:z4h r.rs r.es[k].nm kn
    all_goals
     rw [hr] at hrm
     repeat' ((conv=>whnf);first
     | refine Yz ?_
      | (rw [hwin])
      | (apply zai.of;assumption)
      | (refine Cmp.ff hb0 ?_)
      | (refine Ret.mk rfl)
      | fail)
   ·rw [decide_eq_false h1]
    repeat' ((conv=>whnf);first
    | refine Yz ?_
     | (rw [hwin])
     | (refine Ret.mk rfl)
     | fail)
end
abbrev bxR (sl:Nat) (r:Rgs):Evl.Id×Ob:=(⟨0,sl,0⟩,.cells zah [I r.kn,.d (.list r.es.length (r.es.flatMap Ent.cells)),.d (.list r.rs.length (r.rs.flatMap Rmv.cells)),.d (.list r.cs.length (r.cs.flatMap Cpl.cells))])
def ys4 (r:Rgs) (e:Evt):Int:=if vlN e 0<r.kn then 19 else if 99999<vlN e 0 then 3 else z41 r e
theorem yfv (r:Rgs) (n:Nat) (e:Evt):yac r n e=if e.nu=n+1 then ys4 r e else 11:=by
 unfold yac yqe ys4
 by_cases h1:e.nu=n+1
 ·rw [if_pos h1,if_pos h1]
  by_cases h2:vlN e 0<r.kn
  ·rw [if_pos h2,if_pos h2,show ∀z,zb5 [0,19,z]=19 from fun _=>rfl,if_pos (by decide)]
  ·rw [if_neg h2,if_neg h2]
   by_cases h3:99999<vlN e 0
   ·rw [if_pos h3,if_pos h3];rfl
   ·rw [if_neg h3,if_neg h3];rfl
 ·rw [if_neg h1,if_neg h1,show ∀y z,zb5 [11,y,z]=11 from fun _ _=>rfl,if_pos (by decide)]
section
variable {E : Oracle} (g : Good E)
include g
theorem z5r (r:Rgs) (ho:OkR r) (nu:Int) (ki:List UInt8) (a s:List UInt8) (more:List (List UInt8)) (b:List UInt8) (kn f u m:Int) (tx:List UInt8) (hb:ki=zby->more=[b]):
  Fc E zgu [Rgv r,Evv ⟨nu,ki,a::s::more,[kn,f,u,m],tx⟩] (I (ztu r (decide (ki=zby)) a b kn f u m)):=by
 have hes:=ho.es
 have hq:=zul g r a (by omega)
 have hqb:=zul g r b (by omega)
 have hcn:=z9m g r ho kn
 change Fc E zgu [Rgv r,.d (.agg [DI nu,.str ki,.list (more.length+1+1) (.str a:: .str s::more.map D.str),.list 4 [DI kn,DI f,DI u,DI m],.str tx])] _
 refine g.fn rfl rfl ?_
 unfold ztu ytx
 generalize zpz r.es a=i at *
 by_cases hi:0<=i
 ·rw [if_pos hi,show ∀z,zb5 [9,z]=9 from fun _=>rfl,if_pos (by decide)]
  repeat' ((conv=>whnf);first
  | refine Yz ?_
   | (apply zai.of;assumption)
   | (refine Ret.mk rfl)
   | fail)
 ·rw [if_neg hi]
  by_cases h256:256<=r.es.length
  ·rw [if_pos h256,show zb5 [0,5]=5 from rfl,if_pos (by decide)]
   repeat' ((conv=>whnf);first
   | refine Yz ?_
    | (apply zai.of;assumption)
    | (refine Ret.mk rfl)
    | fail)
  ·rw [if_neg h256,show zb5 [0,0]=0 from rfl,if_neg (by decide)]
   by_cases hf:ki=zby
   ·obtain rfl:=hb hf
    rw [decide_eq_true hf]
    rcases zf0 r.es b with⟨h,_⟩|⟨k,hk,h,_⟩
    ·rw [zyq h,if_pos ⟨rfl,by decide⟩]
     rw [h] at hqb
     repeat' ((conv=>whnf);first
     | refine Yz ?_
      | (apply zai.of;assumption)
      | (refine Cmp.tt hf ?_)
      | (refine Ret.mk rfl)
      | fail)
    ·have hcn:=hcn k hk
     rw [zuk hk h]
     rw [h] at hqb
     cases hc:z0q r r.es[k] kn with
     | false=>
      rw [hc] at hcn
      rw [show (if(false=true) then(0:Int) else 20)=20 from rfl,if_pos ⟨rfl,by decide⟩]
      repeat' ((conv=>whnf);first
      | refine Yz ?_
       | (apply zai.of;assumption)
       | (refine Cmp.tt hf ?_)
       | (refine Ret.mk rfl)
       | fail)
     | true=>
      rw [hc] at hcn
      rw [show (if(true=true) then(0:Int) else 20)=0 from rfl,if_neg (fun h=>h.2 rfl)]
      by_cases c1:99999<f
      all_goals by_cases c2:99999<u
      all_goals by_cases c3:1440<m
      all_goals by_cases c4:u<f
      all_goals
       repeat' ((conv=>whnf);first
       | refine Yz ?_
        | (apply zai.of;assumption)
        | (refine Cmp.tt hf ?_)
        | (exfalso;omega)
        | (refine Ret.mk ?_)
        | fail)
      all_goals simp [c1,c2,c3,c4,zb5]
   ·rw [decide_eq_false hf,if_neg (fun h=>by cases h.1)]
    by_cases c1:99999<f
    all_goals by_cases c2:99999<u
    all_goals by_cases c3:1440<m
    all_goals by_cases c4:u<f
    all_goals
     repeat' ((conv=>whnf);first
     | refine Yz ?_
      | (apply zai.of;assumption)
      | (refine Cmp.ff hf ?_)
      | (exfalso;omega)
      | (refine Ret.mk ?_)
      | fail)
    all_goals simp [c1,c2,c3,c4,zb5]
theorem yma (r:Rgs) (ho:OkR r) (e:Evt) (hc:zml e=0):Fc E zfl [Rgv r,Evv e] (I (ys4 r e)):=by
 have hes:=ho.es
 have hml:(r.es.flatMap Ent.cells).length=r.es.length*8:=zae Ent.cells 8 zot r.es
 have hmc:(r.cs.flatMap Cpl.cells).length=r.cs.length*5:=zae Cpl.cells 5 zs4 r.cs
 have hcs:=ho.cs
 unfold ys4
 rcases zrh hc with⟨nu,ki,a,s,more,kn,f,u,m,rfl,hent,hfol,hki⟩|⟨nu,a,kn,rfl⟩|⟨nu,a,en,kn,rfl⟩|⟨nu,a,kn,v,rfl⟩
 ·obtain⟨b,hb⟩:∃b,ki=zby->more=[b]:=by
   by_cases h:ki=zby
   ·obtain⟨b,hb⟩:=hfol h
    exact⟨b,fun _=>hb⟩
   ·exact⟨[],fun h'=>absurd h' h⟩
  have hask:z41 r ⟨nu,ki,a::s::more,[kn,f,u,m],[]⟩=ztu r (decide (ki=zby)) a b kn f u m:=by
   rw [z41,if_pos hent]
   by_cases h:ki=zby
   ·rw [hb h];rfl
   ·unfold ztu
    rw [decide_eq_false h]
    simp only [Bool.false_eq_true,false_and,if_false]
    rfl
  have hq:=z5r g r ho nu ki a s more b kn f u m [] hb
  rw [<-hask] at hq
  change Fc E zfl _ (I (if kn<r.kn then 19 else if 99999<kn then 3 else z41 r ⟨nu,ki,a::s::more,[kn,f,u,m],[]⟩))
  generalize z41 r ⟨nu,ki,a::s::more,[kn,f,u,m],[]⟩=o at *
  have e1:Evv ⟨nu,ki,a::s::more,[kn,f,u,m],[]⟩= .d (.agg [DI nu,.str ki,.list (more.length+1+1) (.str a:: .str s::more.map D.str),.list 4 [DI kn,DI f,DI u,DI m],.str []]):=rfl
  rw [e1] at hq ⊢
  clear hfol hask hent hb
  refine g.fn rfl rfl ?_
  by_cases c1:kn<r.kn
  ·rw [if_pos c1]
   repeat' ((conv=>whnf);first
   | refine Yz ?_
    | (refine Ret.mk rfl)
    | fail)
  by_cases c2:99999<kn
  ·rw [if_neg c1,if_pos c2]
   repeat' ((conv=>whnf);first
   | refine Yz ?_
    | (refine Ret.mk rfl)
    | fail)
  rw [if_neg c1,if_neg c2]
  rcases hki with rfl|rfl|rfl
  all_goals
   repeat' ((conv=>whnf);first
   | refine Yz ?_
    | (apply zai.of;assumption)
    | (refine Ret.mk rfl)
    | fail)
 ·change Fc E zfl [Rgv r,.d (.agg [DI nu,.str zdo,.list 1 [.str a],.list 1 [DI kn],.str []])] (I (if kn<r.kn then 19 else if 99999<kn then 3 else yaf r a kn))
  refine g.fn rfl rfl ?_
  by_cases c1:kn<r.kn
  ·rw [if_pos c1]
   repeat' ((conv=>whnf);first
   | refine Yz ?_
    | (refine Ret.mk rfl)
    | fail)
  by_cases c2:99999<kn
  ·rw [if_neg c1,if_pos c2]
   repeat' ((conv=>whnf);first
   | refine Yz ?_
    | (refine Ret.mk rfl)
    | fail)
  rw [if_neg c1,if_neg c2]
  unfold yaf
  have hq:=zul g r a (by omega)
  rcases zf0 r.es a with⟨h,_⟩|⟨k,hk,h,hnm,_⟩
  ·rw [h] at hq
   rw [h,if_pos (by decide)]
   repeat' ((conv=>whnf);first
   | refine Yz ?_
    | (apply zai.of;assumption)
    | (refine Ret.mk rfl)
    | fail)
  ·have hgd:r.es.getD k yti=r.es[k]:=by simp [List.getD,hk]
   rw [h] at hq
   rw [zuk hk h,h,if_neg (by omega),Int.toNat_natCast,hgd]
   have hcn:=z9m g r ho kn k hk
   by_cases hkd:r.es[k].kd=zz6
   ·rw [if_pos hkd]
    cases hc':z0q r r.es[k] kn
    all_goals
     rw [hc'] at hcn
     repeat' ((conv=>whnf);first
     | refine Yz ?_
      | (apply zai.of;assumption)
      | (refine zgw.rec zot k rfl hk rfl ?_)
      | (refine Cmp.ff (fun h=>h hkd) ?_)
      | (refine Ret.mk rfl)
      | fail)
   ·rw [if_neg hkd]
    repeat' ((conv=>whnf);first
    | refine Yz ?_
     | (apply zai.of;assumption)
     | (refine zgw.rec zot k rfl hk rfl ?_)
     | (refine Cmp.tt hkd ?_)
     | (refine Ret.mk rfl)
     | fail)
 ·change Fc E zfl [Rgv r,.d (.agg [DI nu,.str zcn,.list 2 [.str a,.str en],.list 1 [DI kn],.str []])] (I (if kn<r.kn then 19 else if 99999<kn then 3 else z55 r a en kn))
  refine g.fn rfl rfl ?_
  by_cases c1:kn<r.kn
  ·rw [if_pos c1]
   repeat' ((conv=>whnf);first
   | refine Yz ?_
    | (refine Ret.mk rfl)
    | fail)
  by_cases c2:99999<kn
  ·rw [if_neg c1,if_pos c2]
   repeat' ((conv=>whnf);first
   | refine Yz ?_
    | (refine Ret.mk rfl)
    | fail)
  rw [if_neg c1,if_neg c2]
  unfold z55
  have hq:=zsw g r a (by omega)
  have hq2:=zul g r en (by omega)
  generalize zwz r.cs a=i at *
  by_cases hi:0<=i
  ·rw [if_pos hi]
   repeat' ((conv=>whnf);first
   | refine Yz ?_
    | (apply zai.of;assumption)
    | (refine Ret.mk rfl)
    | fail)
  rw [if_neg hi]
  by_cases h64:64<=r.cs.length
  ·rw [if_pos h64]
   repeat' ((conv=>whnf);first
   | refine Yz ?_
    | (apply zai.of;assumption)
    | (refine Ret.mk rfl)
    | fail)
  rw [if_neg h64]
  rcases zf0 r.es en with⟨h,_⟩|⟨k,hk,h,_⟩
  ·rw [h] at hq2
   rw [zyq h]
   repeat' ((conv=>whnf);first
   | refine Yz ?_
    | (apply zai.of;assumption)
    | (refine Ret.mk rfl)
    | fail)
  ·rw [h] at hq2
   rw [zuk hk h]
   have hcn:=z9m g r ho kn k hk
   cases hc':z0q r r.es[k] kn
   all_goals
    rw [hc'] at hcn
    repeat' ((conv=>whnf);first
    | refine Yz ?_
     | (apply zai.of;assumption)
     | (refine Ret.mk rfl)
     | fail)
 ·change Fc E zfl [Rgv r,.d (.agg [DI nu,.str zez,.list 1 [.str a],.list 2 [DI kn,DI v],.str []])] (I (if kn<r.kn then 19 else if 99999<kn then 3 else zs1 r a v))
  refine g.fn rfl rfl ?_
  by_cases c1:kn<r.kn
  ·rw [if_pos c1]
   repeat' ((conv=>whnf);first
   | refine Yz ?_
    | (refine Ret.mk rfl)
    | fail)
  by_cases c2:99999<kn
  ·rw [if_neg c1,if_pos c2]
   repeat' ((conv=>whnf);first
   | refine Yz ?_
    | (refine Ret.mk rfl)
    | fail)
  rw [if_neg c1,if_neg c2]
  unfold zs1
  have hq:=zsw g r a (by omega)
  rcases zn7 r.cs a with h|⟨k,hk,h,hnm⟩
  ·rw [h] at hq
   rw [h,if_pos (by decide)]
   repeat' ((conv=>whnf);first
   | refine Yz ?_
    | (apply zai.of;assumption)
    | (refine Ret.mk rfl)
    | fail)
  ·have hgd:r.cs.getD k yf7=r.cs[k]:=by simp [List.getD,hk]
   rw [h] at hq
   rw [h,if_neg (by omega),Int.toNat_natCast,hgd]
   cases hcl:r.cs[k].cl
   ·by_cases hv:1<v
    ·rw [if_pos hv]
     repeat' ((conv=>whnf);first
     | refine Yz ?_
      | (apply zai.of;assumption)
      | (refine zgw.rec zs4 k rfl hk rfl ?_;rw [hcl])
      | (refine Ret.mk rfl)
      | fail)
    ·rw [if_neg hv]
     repeat' ((conv=>whnf);first
     | refine Yz ?_
      | (apply zai.of;assumption)
      | (refine zgw.rec zs4 k rfl hk rfl ?_;rw [hcl])
      | (refine Ret.mk rfl)
      | fail)
   ·repeat' ((conv=>whnf);first
   | refine Yz ?_
     | (apply zai.of;assumption)
     | (refine zgw.rec zs4 k rfl hk rfl ?_;rw [hcl])
     | (refine Ret.mk rfl)
     | fail)
end
theorem z5k (r:Rgs) (k:Nat) (hk:k<r.cs.length) (x:Cpl):patch (r.cs.flatMap Cpl.cells) (((k:Nat):Int).toNat*5) x.cells=(r.cs.set k x).flatMap Cpl.cells:=by
 rw [Int.toNat_natCast]
 have h2:r.cs.set k x=r.cs.take k++x::r.cs.drop (k+1):=by rw [List.set_eq_take_append_cons_drop,if_pos hk]
 rw [h2,List.flatMap_append,List.flatMap_cons]
 have h4:((r.cs.take k).flatMap Cpl.cells).length=k*5:=by
  rw [zae Cpl.cells 5 zs4,List.length_take,Nat.min_eq_left (by omega)]
 have h1:r.cs.flatMap Cpl.cells=(r.cs.take k).flatMap Cpl.cells++(r.cs[k].cells++(r.cs.drop (k+1)).flatMap Cpl.cells):=by
  rw [<-List.flatMap_cons,<-List.flatMap_append,<-List.drop_eq_getElem_cons hk,List.take_append_drop]
 have h5:=zs4 r.cs[k]
 have h6:=zs4 x
 unfold patch
 rw [h1]
 generalize (r.cs.take k).flatMap Cpl.cells=A at *
 generalize (r.cs.drop (k+1)).flatMap Cpl.cells=C at *
 generalize r.cs[k].cells=B at *
 rw [<-h4,List.take_left,List.drop_append,List.drop_of_length_le (by omega),h6,Nat.add_sub_cancel_left,List.nil_append,List.drop_append_of_le_length (by omega),List.drop_of_length_le (by omega),List.nil_append,List.append_assoc]
section
variable {E : Oracle} (g : Good E)
include g
abbrev mA (r:Rgs) (nu:Int) (a:List UInt8) (kn v:Int):Mem:=[bxR 2 r,(⟨0,3,0⟩,.cells zad [I nu,S zez,.d (.list 1 [.str a]),.d (.list 2 [DI kn,DI v]),S []]),(⟨0,4,0⟩,.row false zb7 8 0 []),(⟨0,4,1⟩,.row false zbc 2 0 []),(⟨0,4,2⟩,.row true za3 5 0 []),
 (⟨0,4,3⟩,.cells zah [I 0,.ref ⟨0,4,0⟩ 0 0 0,.ref ⟨0,4,1⟩ 0 0 0,.ref ⟨0,4,2⟩ 0 0 0])]
theorem z5i (r:Rgs) (nu:Int) (a:List UInt8) (kn v:Int) (hl:r.cs.length<=1000000) {slot:Nat} {K:V->Mem->Prop} (hK:K (I (zwz r.cs a)) (mA r nu a kn v)):
  In E 1 zdg [Rgv r,S a] (mA r nu a kn v) fun x m'=>zzc ⟨0,1⟩ slot true x m' K:=by
 refine In.enter (f:=zdg) g.lim rfl rfl ?_
 have hml:(r.cs.flatMap Cpl.cells).length=r.cs.length*5:=zae Cpl.cells 5 zs4 r.cs
 repeat' ((conv=>whnf);first
 | refine Yz ?_
  | fail)
 refine zak.to (zak.upP g (fun k=>[(1,S a),(2,.ptr ⟨1,2,0⟩ 0 0),(5,I k)]) (fun _=>mA r nu a kn v++[(⟨1,2,0⟩,.cells zah [I r.kn,.d (.list r.es.length (r.es.flatMap Ent.cells)),.d (.list r.rs.length (r.rs.flatMap Rmv.cells)),.d (.list r.cs.length (r.cs.flatMap Cpl.cells))])]) (fun k=>∀j,(hj:j<k)->(hj':j<r.cs.length)->decide (r.cs[j].nm=a)=false) r.cs.length (fun k hk hp ih=> ?_) 0 (Nat.zero_le _) (fun j h _=>absurd h (Nat.not_lt_zero _))) rfl rfl
 by_cases hlt:k<r.cs.length
 ·by_cases he:r.cs[k].nm=a
  ·have hi:zwz r.cs a=k:=zow (p:=fun x:Cpl=>decide (x.nm=a)) hlt (decide_eq_true he) fun j hj=>hp j hj (by omega)
   rw [hi] at hK
   repeat' ((conv=>whnf);first
   | refine Yz ?_
    | (refine zgw.rec zs4 k rfl hlt rfl ?_)
    | (refine Cmp.tt he ?_)
    | (exact hK)
    | fail)
  ·have ih:=ih hlt fun j hj hj'=>by
    by_cases e:j=k
    ·subst e;exact decide_eq_false he
    ·exact hp j (by omega) hj'
   repeat' ((conv=>whnf);first
   | refine Yz ?_
    | (refine zgw.rec zs4 k rfl hlt rfl ?_)
    | (refine Cmp.ff he ?_)
    | (refine zak.to ih rfl rfl)
    | fail)
 ·obtain rfl:k=r.cs.length:=by omega
  have hi:zwz r.cs a= -1:=zmq (p:=fun x:Cpl=>decide (x.nm=a)) fun j hj=>hp j hj hj
  rw [hi] at hK
  repeat' ((conv=>whnf);first
  | refine Yz ?_
   | (exact hK)
   | fail)
theorem yse (r:Rgs) (ho:OkR r) (e:Evt) (hc:zml e=0) (hask:z41 r e=0) (hrs:r.rs.length<1000):Fc E zga [Rgv r,Evv e] (Rgv (zq5 r e)):=by
 have hes:=ho.es
 have hcs:=ho.cs
 have hml:(r.es.flatMap Ent.cells).length=r.es.length*8:=zae Ent.cells 8 zot r.es
 have hmr:(r.rs.flatMap Rmv.cells).length=r.rs.length*2:=zae Rmv.cells 2 yml r.rs
 have hmc:(r.cs.flatMap Cpl.cells).length=r.cs.length*5:=zae Cpl.cells 5 zs4 r.cs
 rcases zrh hc with⟨nu,ki,a,s,more,kn,f,u,m,rfl,hent,hfol,hki⟩|⟨nu,a,kn,rfl⟩|⟨nu,a,en,kn,rfl⟩|⟨nu,a,kn,v,rfl⟩
 ·clear hask hc
  by_cases hf:ki=zby
  ·obtain⟨b,rfl⟩:=hfol hf
   subst hf
   have haft:zq5 r ⟨nu,zby,[a,s,b],[kn,f,u,m],[]⟩=⟨kn,r.es++[⟨a,zby,s,b,kn,f,u,m⟩],r.rs,r.cs⟩:=rfl
   rw [haft]
   change Fc E zga [Rgv r,.d (.agg [DI nu,.str zby,.list 3 [.str a,.str s,.str b],.list 4 [DI kn,DI f,DI u,DI m],.str []])] _
   refine g.fn rfl rfl ?_
   repeat' ((conv=>whnf);first
   | refine Yz ?_
    | (refine zcp.mk ⟨rfl,rfl,rfl,rfl,rfl,hml,by dsimp only;omega,by first |omega|(dsimp only;omega)⟩ ?_)
    | (refine zcp.mk ⟨rfl,rfl,rfl,rfl,rfl,rfl,by dsimp only;omega,by first |omega|(dsimp only;omega)⟩ ?_)
    | (refine zcp.mk ⟨rfl,by omega⟩ ?_)
    | (refine zcp.mk ⟨rfl,by decide⟩ ?_)
    | (refine Ret.mk ?_)
    | fail)
   all_goals simp [Ent.cells]
  ·have haft:zq5 r ⟨nu,ki,a::s::more,[kn,f,u,m],[]⟩=⟨kn,r.es++[⟨a,ki,s,[],kn,f,u,m⟩],r.rs,r.cs⟩:=by
    rw [zq5,if_pos hent,z8m,if_neg hf]
    rfl
   rw [haft]
   change Fc E zga [Rgv r,.d (.agg [DI nu,.str ki,.list (more.length+1+1) (.str a:: .str s::more.map D.str),.list 4 [DI kn,DI f,DI u,DI m],.str []])] _
   refine g.fn rfl rfl ?_
   rcases hki with rfl|rfl|rfl
   ·repeat' ((conv=>whnf);first
   | refine Yz ?_
     | (refine zcp.mk ⟨rfl,rfl,rfl,rfl,rfl,hml,by dsimp only;omega,by first |omega|(dsimp only;omega)⟩ ?_)
     | (refine zcp.mk ⟨rfl,rfl,rfl,rfl,rfl,rfl,by dsimp only;omega,by first |omega|(dsimp only;omega)⟩ ?_)
     | (refine zcp.mk ⟨rfl,by omega⟩ ?_)
     | (refine zcp.mk ⟨rfl,by decide⟩ ?_)
     | (refine Ret.mk ?_)
     | fail)
    all_goals simp [Ent.cells]
   ·repeat' ((conv=>whnf);first
   | refine Yz ?_
     | (refine zcp.mk ⟨rfl,rfl,rfl,rfl,rfl,hml,by dsimp only;omega,by first |omega|(dsimp only;omega)⟩ ?_)
     | (refine zcp.mk ⟨rfl,rfl,rfl,rfl,rfl,rfl,by dsimp only;omega,by first |omega|(dsimp only;omega)⟩ ?_)
     | (refine zcp.mk ⟨rfl,by omega⟩ ?_)
     | (refine zcp.mk ⟨rfl,by decide⟩ ?_)
     | (refine Ret.mk ?_)
     | fail)
    all_goals simp [Ent.cells]
   ·exact absurd rfl hf
 ·have haft:zq5 r ⟨nu,zdo,[a],[kn],[]⟩=⟨kn,r.es,r.rs++[⟨a,kn⟩],r.cs⟩:=rfl
  rw [haft]
  change Fc E zga [Rgv r,.d (.agg [DI nu,.str zdo,.list 1 [.str a],.list 1 [DI kn],.str []])] _
  refine g.fn rfl rfl ?_
  repeat' ((conv=>whnf);first
  | refine Yz ?_
   | (refine zcp.mk ⟨rfl,rfl,rfl,rfl,rfl,hmr,by dsimp only;omega,by first |omega|(dsimp only;omega)⟩ ?_)
   | (refine zcp.mk ⟨rfl,rfl,rfl,rfl,rfl,rfl,by dsimp only;omega,by first |omega|(dsimp only;omega)⟩ ?_)
   | (refine zcp.mk ⟨rfl,by omega⟩ ?_)
   | (refine zcp.mk ⟨rfl,by decide⟩ ?_)
   | (refine Ret.mk ?_)
   | fail)
  all_goals simp [Rmv.cells]
 ·have haft:zq5 r ⟨nu,zcn,[a,en],[kn],[]⟩=⟨kn,r.es,r.rs,r.cs++[⟨a,en,kn,false,false⟩]⟩:=rfl
  rw [haft]
  change Fc E zga [Rgv r,.d (.agg [DI nu,.str zcn,.list 2 [.str a,.str en],.list 1 [DI kn],.str []])] _
  refine g.fn rfl rfl ?_
  repeat' ((conv=>whnf);first
  | refine Yz ?_
   | (refine zcp.mk ⟨rfl,rfl,rfl,rfl,rfl,hmc,by dsimp only;omega,by first |omega|(dsimp only;omega)⟩ ?_)
   | (refine zcp.mk ⟨rfl,rfl,rfl,rfl,rfl,rfl,by dsimp only;omega,by first |omega|(dsimp only;omega)⟩ ?_)
   | (refine zcp.mk ⟨rfl,by omega⟩ ?_)
   | (refine zcp.mk ⟨rfl,by decide⟩ ?_)
   | (refine Ret.mk ?_)
   | fail)
  all_goals simp [Cpl.cells]
 ·change zs1 r a v=0 at hask
  rcases zn7 r.cs a with h|⟨k,hk,h,hnm⟩
  ·rw [zs1,h,if_pos (by decide)] at hask
   omega
  have hq:=zsw g r a (by omega)
  rw [h] at hq
  have hgd:r.cs.getD k yf7=r.cs[k]:=by simp [List.getD,hk]
  have haft:zq5 r ⟨nu,zez,[a],[kn,v],[]⟩=⟨kn,r.es,if v=1 then r.rs++[⟨r.cs[k].en,kn⟩] else r.rs,r.cs.set k {r.cs[k] with cl:=true,up:=decide (v=1)}⟩:=by
   change (Rgs.mk kn r.es (if v=1 then r.rs++[⟨(r.cs.getD (zwz r.cs a).toNat yf7).en,kn⟩] else r.rs) (r.cs.set (zwz r.cs a).toNat {r.cs.getD (zwz r.cs a).toNat yf7 with cl:=true,up:=decide (v=1)}))=_
   rw [h,Int.toNat_natCast,hgd]
  rw [haft]
  change Fc E zga [Rgv r,.d (.agg [DI nu,.str zez,.list 1 [.str a],.list 2 [DI kn,DI v],.str []])] _
  have hcl:∀x:Cpl,patch ([]++r.cs.flatMap Cpl.cells) ((0+((k:Nat):Int).toNat)*5) x.cells=(r.cs.set k x).flatMap Cpl.cells:=fun x=>by
   rw [Nat.zero_add,List.nil_append];exact z5k r k hk x
  have hl5:∀x:Cpl,(r.cs.set k x).length=r.cs.length:=fun x=>List.length_set
  have hin:=@z5i E g ⟨kn,r.es,r.rs,r.cs⟩ nu a kn v (by dsimp only;omega) 109
  rw [show zwz (Rgs.mk kn r.es r.rs r.cs).cs a=k from h] at hin
  dsimp only [mA,bxR] at hin
  have hwin:win (r.cs.flatMap Cpl.cells) (((k:Nat):Int).toNat*5) 5=r.cs[k].cells:=by
   rw [Int.toNat_natCast]
   exact zbx Cpl.cells 5 zs4 r.cs k hk
  generalize hx:r.cs[k]=x at *
  by_cases hv:v=1
  ·rw [if_pos hv,decide_eq_true hv]
   have hcx:=hcl {x with cl:=true,up:=true}
   refine g.fn rfl rfl ?_
   repeat' ((conv=>whnf);first
   | refine Yz ?_
    | (refine hin ?_)
    | (rw [hwin])
    | (refine zcp.mk ⟨rfl,rfl,rfl,rfl,rfl,hmc,by dsimp only;omega,by first |omega|(dsimp only;omega)⟩ ?_)
    | (refine zcp.mk ⟨rfl,rfl,rfl,rfl,rfl,hmr,by dsimp only;omega,by first |omega|(dsimp only;omega)⟩ ?_)
    | (refine zcp.mk ⟨rfl,rfl,rfl,rfl,rfl,rfl,by dsimp only;omega,by first |omega|(dsimp only;omega)⟩ ?_)
    | (refine zcp.mk ⟨rfl,by omega⟩ ?_)
    | (refine zcp.mk ⟨rfl,by decide⟩ ?_)
    | (refine zcp.mk ⟨rfl,by rw [List.nil_append];omega,rfl⟩ ?_)
    | (refine Cmp.tt hv ?_)
    | (refine Ret.mk ?_)
    | fail)
   change patch _ _ [D.str x.nm,D.str x.en,DI x.kn,D.bool true,D.bool true]=_ at hcx
   rw [if_pos ⟨rfl,rfl⟩,if_pos ⟨rfl,rfl⟩,hcx]
   simp [Rmv.cells]
  ·rw [if_neg hv,decide_eq_false hv]
   have hcx:=hcl {x with cl:=true,up:=false}
   refine g.fn rfl rfl ?_
   repeat' ((conv=>whnf);first
   | refine Yz ?_
    | (refine hin ?_)
    | (rw [hwin])
    | (refine zcp.mk ⟨rfl,rfl,rfl,rfl,rfl,hmc,by dsimp only;omega,by first |omega|(dsimp only;omega)⟩ ?_)
    | (refine zcp.mk ⟨rfl,by omega⟩ ?_)
    | (refine zcp.mk ⟨rfl,by decide⟩ ?_)
    | (refine zcp.mk ⟨rfl,by rw [List.nil_append];omega,rfl⟩ ?_)
    | (refine Cmp.ff hv ?_)
    | (refine Ret.mk ?_)
    | fail)
   change patch _ _ [D.str x.nm,D.str x.en,DI x.kn,D.bool true,D.bool false]=_ at hcx
   rw [if_pos ⟨rfl,rfl⟩,hcx]
   simp
theorem ypc (l:List Evt) (hl:l.length<=1000) (hb:∀e∈l,e.ns.length<=1000000/\e.vs.length<=1000000):
  Fc E zmc [LE l] (.tup [Rgv (rgL l),I (zdb rg0 0 l).2.1,I (erL l)]):=by
 refine g.fn rfl rfl ?_
 have hml:(l.flatMap Evt.cells).length=l.length*5:=zae Evt.cells 5 evw l
 unfold rgL erL
 generalize hR:zdb rg0 0 l=R
 repeat' ((conv=>whnf);first
 | refine Yz ?_
  | fail)
 refine zak.to (zak.by (σ:=Nat×Rgs) g (fun u=>u.1<=l.length/\OkR u.2/\u.2.rs.length<=u.1/\zdb u.2 u.1 (l.drop u.1)=R)
  (fun u=>[(0,LE l),(2,.ptr ⟨0,2,0⟩ 0 0),(5,.ptr ⟨0,5,0⟩ 0 0),(6,I u.1)]) (fun u=>[(⟨0,2,0⟩,.cells zah [I 0,.d (.list 0 []),.d (.list 0 []),.d (.list 0 [])]),bxR 5 u.2]) (fun u=>l.length-u.1) ?_ (0,rg0) ⟨Nat.zero_le _,ylx,Nat.le_refl _,hR⟩) rfl rfl
 clear hR
 rintro⟨k,r⟩ ⟨h2,ho,h3,hR⟩ ih
 dsimp only at h2 ho h3 hR ih ⊢
 by_cases hlt:k<l.length
 ·rw [yhp hlt] at hR
  have hwin:win (l.flatMap Evt.cells) (((k:Nat):Int).toNat*5) 5=l[k].cells:=by
   rw [Int.toNat_natCast]
   exact zbx Evt.cells 5 evw l k hlt
  obtain⟨hb1,hb2⟩:=hb _ (List.getElem_mem hlt)
  have ih:=fun hz:zia r k l[k]=0=>ih (k+1,zq5 r l[k]) ⟨by dsimp only;omega,ylw ho hz (by omega),by
   have:=yfw r l[k]
   dsimp only
   omega,by
   rw [if_neg (fun h=>h hz)] at hR
   exact hR⟩ (by dsimp only;omega)
  have hnu:zgw (l.flatMap Evt.cells) (((k:Nat):Int).toNat*5+0)=fun K=>zgw (l.flatMap Evt.cells) (((k:Nat):Int).toNat*5+0) K:=rfl
  have hpk:∀ {K:D->Prop},K (DI l[k].nu)->zgw (l.flatMap Evt.cells) (((k:Nat):Int).toNat*5+0) K:=fun h=>zgw.rec evw k rfl hlt rfl h
  clear hnu
  generalize l[k]=e at *
  have hce:=yb6 g e hb1 hb2
  have haft:=yse g r ho e
  by_cases hc:zml e=0
  ·rw [hc] at hce
   have hrf:=yma g r ho e hc
   have hst:zia r k e=yac r k e:=by rw [zia,if_neg (fun h=>h hc)]
   rw [yfv] at hst
   by_cases hn:e.nu=k+1
   ·rw [if_pos hn] at hst
    by_cases ha:ys4 r e=0
    ·rw [ha] at hrf hst
     have haft:=haft hc (z0p (n:=k) (by rw [yfv,if_pos hn];exact ha)).2.2.2 (by omega)
     have ih:=ih hst
     dsimp only [bxR] at ih
     repeat' ((conv=>whnf);first
     | refine Yz ?_
      | (rw [hwin])
      | (apply zai.of;assumption)
      | (refine hpk ?_)
      | (refine Cmp.ff (fun h=>h hn) ?_)
      | (refine zak.to ih rfl rfl)
      | fail)
    ·rw [hst,if_pos ha] at hR
     generalize ys4 r e=x at *
     subst hR
     repeat' ((conv=>whnf);first
     | refine Yz ?_
      | (rw [hwin])
      | (apply zai.of;assumption)
      | (refine hpk ?_)
      | (refine Cmp.ff (fun h=>h hn) ?_)
      | (refine Cmp.ff ha ?_)
      | (refine Cmp.tt ha ?_)
      | (refine Ret.mk rfl)
      | fail)
   ·rw [if_neg hn] at hst
    rw [hst,if_pos (by decide)] at hR
    subst hR
    repeat' ((conv=>whnf);first
    | refine Yz ?_
     | (rw [hwin])
     | (apply zai.of;assumption)
     | (refine hpk ?_)
     | (refine Cmp.tt hn ?_)
     | (refine Ret.mk rfl)
     | fail)
  ·have hst:zia r k e=zml e:=by rw [zia,if_pos hc]
   rw [hst,if_pos hc] at hR
   generalize zml e=x at *
   subst hR
   repeat' ((conv=>whnf);first
   | refine Yz ?_
    | (rw [hwin])
    | (apply zai.of;assumption)
    | (refine Cmp.ff hc ?_)
    | (refine Ret.mk rfl)
    | fail)
 ·rw [List.drop_of_length_le (by omega)] at hR
  subst hR
  repeat' ((conv=>whnf);first
  | refine Yz ?_
   | (refine Ret.mk rfl)
   | fail)
end
theorem ym5 {ks:List (List UInt8)} {s:List UInt8}:zmz (ks++[s])=yky s (zmz ks):=by
 have h:(ks++[s]).Perm (s::ks):=List.perm_append_singleton s ks
 rw [z7o h]
 rfl
theorem ylg {r:Rgs} (ho:OkR r) (s:List UInt8) (kn d:Int):0<=z5l r s kn d/\z5l r s kn d<=1440:=by
 unfold z5l
 have key:∀(l:List Ent) (a:Int),(∀x∈l,0<=x.mi/\x.mi<=1440)->0<=a/\a<=1440->0<=l.foldl (fun o x=>if yim r s kn d x then x.mi else o) a/\l.foldl (fun o x=>if yim r s kn d x then x.mi else o) a<=1440:=by
  intro l
  induction l with
  | nil=>intro a _ h;exact h
  | cons x l ih=>
   intro a h1 h2
   rw [List.foldl_cons]
   refine ih _ (fun y hy=>h1 y (by simp [hy])) ?_
   split
   ·exact h1 x (by simp)
   ·exact h2
 exact key r.es 1440 ho.mi ⟨by decide,by decide⟩
def yk3:List UInt8:=[115,108,111,116]
def z84:List UInt8:=[100,97,121]
def zh7:List UInt8:=[99,111,117,110,116,115]
def ybj:List UInt8:=[114,101,115,116,115]
def yk2:List UInt8:=[111,112,101,110]
def z74 (r:Rgs) (s:List UInt8) (k d:Int):List (List UInt8)×Int:=
 if zb5 [if !zcj s then 8 else 0,rng k 0 99999,rng d 0 99999]≠0 then([],zb5 [if !zcj s then 8 else 0,rng k 0 99999,rng d 0 99999])
 else if z5l r s k d≠1440 then([zau 20 (z5l r s k d).toNat],0) else([],0)
def z52 (r:Rgs) (k:Int):List (List UInt8)×Int:=if rng k 0 99999≠0 then([],rng k 0 99999) else(yf6 r k,0)
def yfz (r:Rgs) (s:List UInt8):List (List UInt8)×Int:=
 if(if !zcj s then(8:Int) else 0)≠0 then([],if !zcj s then 8 else 0) else if zpz r.es s<0 then([],10) else(ys5 r s,0)
abbrev ysx (a:List (List UInt8)×Int):V:= .tup [Ws a.1,I a.2]
section
variable {E : Oracle} (g : Good E)
include g
theorem ywd (ev:List Evt) (r:Rgs) (ho:OkR r) (a s b c:List UInt8) (k d:Int):Ui E zbt [.ptr ⟨0,0,0⟩ 1 0,Ws [a,s,b,c],LI [k,d]] (mR zaa ev r) (ysx (z74 r s k d)) (mR zaa ev r):=by
 refine⟨?_⟩
 have h1:=z9t g s
 have h2:=ycj g k
 have h3:=ycj g d
 have h4:=zmd g (if !zcj s then 8 else 0) (rng k 0 99999) (rng d 0 99999)
 have hq:=yhj g zaa ev r ho s k d
 have hm:=ylg ho s k d
 unfold z74
 generalize (if !zcj s then(8:Int) else 0)=x at *
 generalize rng k 0 99999=y at *
 generalize rng d 0 99999=z at *
 generalize zb5 [x,y,z]=e at *
 generalize z5l r s k d=mi at *
 have hi:=z7k g mi (by omega)
 change In E 1 zbt [.ptr ⟨0,0,0⟩ 1 0,.d (.list 4 [.str a,.str s,.str b,.str c]),.d (.list 2 [DI k,DI d])] _ _
 refine In.enter (f:=zbt) g.lim rfl rfl ?_
 by_cases he:e=0
 ·subst he
  by_cases h0:mi=1440
  ·subst h0
   repeat' ((conv=>whnf);first
   | refine Yz ?_
    | (apply zai.of;assumption)
    | (refine zlp.of (r':=I 1440) isR rfl rfl rfl rfl hq rfl rfl rfl ?_)
    | (refine Cmp.ff (fun h=>h rfl) ?_)
    | (exact⟨rfl,rfl,rfl,rfl,rfl,rfl,trivial⟩)
    | fail)
  ·rw [if_neg (fun h=>h rfl),if_pos h0]
   repeat' ((conv=>whnf);first
   | refine Yz ?_
    | (apply zai.of;assumption)
    | (refine zlp.of (r':=I mi) isR rfl rfl rfl rfl hq rfl rfl rfl ?_)
    | (refine Cmp.tt h0 ?_)
    | (refine Cmp.ff (fun h=>h rfl) ?_)
    | (exact⟨rfl,rfl,rfl,rfl,rfl,rfl,trivial⟩)
    | fail)
 ·rw [if_pos he]
  repeat' ((conv=>whnf);first
  | refine Yz ?_
   | (apply zai.of;assumption)
   | (refine Cmp.tt he ?_)
   | (exact⟨rfl,rfl,rfl,rfl,rfl,rfl,trivial⟩)
   | fail)
theorem ywf (ev:List Evt) (r:Rgs) (ho:OkR r) (w:List (List UInt8)) (k:Int):Ui E zbv [.ptr ⟨0,0,0⟩ 1 0,Ws w,LI [k]] (mR zaa ev r) (ysx (z52 r k)) (mR zaa ev r):=by
 refine⟨?_⟩
 have h2:=ycj g k
 have hu:=yjm g ev r ho k
 unfold z52
 generalize rng k 0 99999=y at *
 change In E 1 zbv [.ptr ⟨0,0,0⟩ 1 0,Ws w,.d (.list 1 [DI k])] _ _
 refine In.enter (f:=zbv) g.lim rfl rfl ?_
 by_cases he:y=0
 ·subst he
  repeat' ((conv=>whnf);first
  | refine Yz ?_
   | (apply zai.of;assumption)
   | (refine zpg.ofI (r':=Ws (yf6 r k)) isR rfl rfl rfl rfl hu rfl rfl rfl rfl ?_)
   | (refine Cmp.ff (fun h=>h rfl) ?_)
   | (exact⟨rfl,rfl,rfl,rfl,rfl,rfl,trivial⟩)
   | fail)
 ·rw [if_pos he]
  repeat' ((conv=>whnf);first
  | refine Yz ?_
   | (apply zai.of;assumption)
   | (refine Cmp.tt he ?_)
   | (exact⟨rfl,rfl,rfl,rfl,rfl,rfl,trivial⟩)
   | fail)
theorem ywg (ev:List Evt) (r:Rgs) (ho:OkR r) (a s:List UInt8):Ui E zbw [.ptr ⟨0,0,0⟩ 1 0,Ws [a,s],LI []] (mR zaa ev r) (ysx (yfz r s)) (mR zaa ev r):=by
 refine⟨?_⟩
 have h1:=z9t g s
 have hu:=ynn g ev r ho s
 unfold yfz
 generalize (if !zcj s then(8:Int) else 0)=y at *
 change In E 1 zbw [.ptr ⟨0,0,0⟩ 1 0,.d (.list 2 [.str a,.str s]),LI []] _ _
 refine In.enter (f:=zbw) g.lim rfl rfl ?_
 by_cases he:y=0
 ·subst he
  rw [if_neg (fun h=>h rfl)]
  by_cases hi:zpz r.es s<0
  ·rw [if_pos hi,if_pos hi] at hu
   rw [if_pos hi]
   repeat' ((conv=>whnf);first
   | refine Yz ?_
    | (apply zai.of;assumption)
    | (refine zpg.ofI (r':= .tup [Ws [],I 10]) isR rfl rfl rfl rfl hu rfl rfl rfl rfl ?_)
    | (refine Cmp.ff (fun h=>h rfl) ?_)
    | (exact⟨rfl,rfl,rfl,rfl,rfl,rfl,trivial⟩)
    | fail)
  ·rw [if_neg hi,if_neg hi] at hu
   rw [if_neg hi]
   repeat' ((conv=>whnf);first
   | refine Yz ?_
    | (apply zai.of;assumption)
    | (refine zpg.ofI (r':= .tup [Ws (ys5 r s),I 0]) isR rfl rfl rfl rfl hu rfl rfl rfl rfl ?_)
    | (refine Cmp.ff (fun h=>h rfl) ?_)
    | (exact⟨rfl,rfl,rfl,rfl,rfl,rfl,trivial⟩)
    | fail)
 ·rw [if_pos he]
  repeat' ((conv=>whnf);first
  | refine Yz ?_
   | (apply zai.of;assumption)
   | (refine Cmp.tt he ?_)
   | (exact⟨rfl,rfl,rfl,rfl,rfl,rfl,trivial⟩)
   | fail)
end
def i64 (n:Int):Prop:= -9223372036854775808<=n/\n<=9223372036854775807
theorem yut {n:Int} (h:(Lit.int .i64 n).wf=true):i64 n:=by
 simp only [Lit.wf,Bool.and_eq_true,decide_eq_true_eq] at h
 exact h
section
variable {P : Program} {n : Nat} {t : Nat} {ds : List D} {x : D}
theorem ytk {k:IntKind} (ht:P.underlying t=some (.int k)) (h:fit P (n+1) t ds):∃i,ds=[.int k i]/\(Lit.int k i).wf=true:=by
 simp only [fit,ht] at h;exact h
theorem yrn (ht:P.underlying t=some .string) (h:fit P (n+1) t ds):∃s,ds=[.str s]/\s.length<=maxLen:=by
 simp only [fit,ht] at h;exact h
theorem yrm {e:Nat} (ht:P.underlying t=some (.slice e)) (h:fit P (n+1) t ds):∃m cs,ds=[.list m cs]/\m<=maxLen/\zp0 (fit P n) (List.replicate m e) cs:=by
 simp only [fit,ht] at h;exact h
theorem ytl {fs:Array Field} (ht:P.underlying t=some (.struct fs)) (h:fit P (n+1) t ds):zp0 (fit P n) (fs.toList.map (·.type)) ds:=by
 simp only [fit,ht] at h;exact h
theorem yvd {k:IntKind} (ht:P.underlying t=some (.int k)) (h:zv2 P t x):∃i,x= .int k i/\(Lit.int k i).wf=true:=by
 simp only [zv2,ht] at h
 obtain⟨i,e,hw⟩:=ytk (n:=7) ht h
 exact⟨i,by simpa using e,hw⟩
theorem yve {e:Nat} (ht:P.underlying t=some (.slice e)) (h:zv2 P t x):∃m cs,x= .list m cs/\m<=maxLen/\zp0 (fit P 7) (List.replicate m e) cs:=by
 simp only [zv2,ht] at h
 obtain⟨m,cs,e,h1,h2⟩:=yrm (n:=7) ht h
 exact⟨m,cs,by simpa using e,h1,h2⟩
end
theorem ykn {k:Nat} {ds:List D} (h:fit Tryz.prog (k+1) 3 ds):∃n,ds=[DI n]/\i64 n:=by
 obtain⟨n,rfl,hw⟩:=ytk Tryz.underlying3 h
 exact⟨n,rfl,yut hw⟩
theorem ygh {k:Nat}:∀(m:Nat) {ds:List D},zp0 (fit Tryz.prog (k+1)) (List.replicate m 3) ds->∃l:List Int,ds=l.map DI/\l.length=m/\∀n∈l,i64 n
 | 0,ds,h=>⟨[],h,rfl,by simp⟩
 | m+1,ds,h=>by
  obtain⟨a,b,rfl,h1,h2⟩:=h
  obtain⟨n,rfl,hn⟩:=ykn h1
  obtain⟨l,rfl,h3,h4⟩:=ygh m h2
  exact⟨n::l,rfl,by simp [h3],by simpa using ⟨hn,h4⟩⟩
theorem yvf {P:Program} {t u:Nat} {xs:List D} (h:z8t P [t,u] xs):∃x y,xs=[x,y]/\zv2 P t x/\zv2 P u y:=by
 obtain⟨x,_,rfl,h1,y,_,rfl,h2,rfl⟩:=h
 exact⟨x,y,rfl,h1,h2⟩
structure yta (e:Evt):Prop where
 ns:e.ns.length<=9223372036854775807
 vs:e.vs.length<=9223372036854775807
 nu:i64 e.nu
 ki:e.ki.length<=9223372036854775807
 tx:e.tx.length<=9223372036854775807
 na:∀x∈e.ns,x.length<=9223372036854775807
theorem ygi {k:Nat}:∀(m:Nat) {ds:List D},zp0 (fit Tryz.prog (k+1)) (List.replicate m 9) ds->∃l:List (List UInt8),ds=l.map D.str/\l.length=m/\∀x∈l,x.length<=9223372036854775807
 | 0,ds,h=>⟨[],h,rfl,fun _ h=>by cases h⟩
 | m+1,ds,h=>by
  obtain⟨a,b,rfl,h1,h2⟩:=h
  obtain⟨s,rfl,hs⟩:=yrn Tryz.underlying9 h1
  obtain⟨l,rfl,h3,h4⟩:=ygi m h2
  refine⟨s::l,rfl,by simp [h3],fun x hx=> ?_⟩
  rcases List.mem_cons.1 hx with rfl|hx
  ·exact Nat.le_trans hs (by decide)
  ·exact h4 x hx
theorem z8u {k:Nat} {ds:List D} (h:zp0 (fit Tryz.prog (k+2)) [3,9,35,36,9] ds):∃e:Evt,ds=e.cells/\yta e:=by
 obtain⟨_,_,rfl,h1,_,_,rfl,h2,_,_,rfl,h3,_,_,rfl,h4,_,_,rfl,h5,rfl⟩:=h
 obtain⟨n,rfl,hn⟩:=ykn h1
 obtain⟨s1,rfl,a1⟩:=yrn Tryz.underlying9 h2
 obtain⟨m,cs,rfl,a2,h6⟩:=yrm Tryz.underlying35 h3
 obtain⟨q,es,rfl,a3,h7⟩:=yrm Tryz.underlying36 h4
 obtain⟨s2,rfl,a4⟩:=yrn Tryz.underlying9 h5
 obtain⟨l,rfl,rfl,b1⟩:=ygi m h6
 obtain⟨v,rfl,rfl,b2⟩:=ygh q h7
 exact⟨⟨n,s1,l,v,s2⟩,rfl,Nat.le_trans a2 (by decide),Nat.le_trans a3 (by decide),hn,Nat.le_trans a1 (by decide),Nat.le_trans a4 (by decide),b1⟩
theorem ykm {k:Nat} {ds:List D} (h:fit Tryz.prog (k+3) 38 ds):∃e:Evt,ds=e.cells/\yta e:=z8u (ytl Tryz.underlying38 h)
theorem z6l {k:Nat}:∀(m:Nat) {ds:List D},zp0 (fit Tryz.prog (k+3)) (List.replicate m 38) ds->∃l:List Evt,ds=l.flatMap Evt.cells/\l.length=m/\∀e∈l,yta e
 | 0,ds,h=>⟨[],h,rfl,fun _ h=>by cases h⟩
 | m+1,ds,h=>by
  obtain⟨a,b,rfl,h1,h2⟩:=h
  obtain⟨x,rfl,b1⟩:=ykm h1
  obtain⟨l,rfl,h3,b2⟩:=z6l m h2
  refine⟨x::l,rfl,by simp [h3],fun e he=> ?_⟩
  rcases List.mem_cons.1 he with rfl|he
  ·exact b1
  ·exact b2 e he
theorem yid {x:D} (h:zv2 Tryz.prog 22 x):∃l:List Evt,x= .list l.length (l.flatMap Evt.cells)/\l.length<=9223372036854775807/\∀e∈l,yta e:=by
 obtain⟨m,cs,rfl,a,h'⟩:=yve Tryz.underlying22 h
 obtain⟨l,rfl,rfl,b⟩:=z6l m h'
 exact⟨l,rfl,Nat.le_trans a (by decide),b⟩
theorem ypr {l:List Evt} {n:Int} (h:(decide ((l.length:Int)<=n)&&l.all zta)=true):(l.length:Int)<=n/\∀e∈l,e.ns.length<=6/\e.vs.length<=8:=by
 rw [Bool.and_eq_true,decide_eq_true_eq,List.all_eq_true] at h
 refine⟨h.1,fun e he=> ?_⟩
 have:=h.2 e he
 simp only [zta,Bool.and_eq_true,decide_eq_true_eq] at this
 exact⟨this.1.1.1.2,this.1.1.2⟩
theorem yh1 {r:Rgs} (ho:OkR r) (kn d:Int):(z9v r kn d).length<=256:=by
 unfold z9v ypw
 rw [List.length_map]
 refine Nat.le_trans (List.length_filter_le _ _) ?_
 rw [(zjd _).length_eq]
 exact Nat.le_trans (ync r.es) ho.es
def okT:yuy->List yuy->Prop
 | _,[]=>True
 | b,t::ts=>b.kn<t.kn/\t.kn<=99999/\t.mi≠b.mi/\okT t ts
theorem z6m {α:Type} (p q:α->Bool) (f:α->Int):∀(l:List α) (a:Int),(∀x∈l,p x=q x)->l.foldl (fun o x=>if p x then f x else o) a=l.foldl (fun o x=>if q x then f x else o) a
 | [],_,_=>rfl
 | x::l,a,h=>by
  rw [List.foldl_cons,List.foldl_cons,h x (by simp)]
  exact z6m p q f l _ fun y hy=>h y (by simp [hy])
theorem yqf (r:Rgs) (e:Evt):(zq5 r e).kn=vlN e 0:=by
 unfold zq5
 split
 ·rfl
 ·split
  ·rfl
  ·split<;>rfl
theorem z0g:∀(l:List Evt) (r:Rgs) (n:Nat),(zdb r n l).2.2=0->(l.map fun e=>vlN e 0).Pairwise (·<=·)/\∀k∈l.map fun e=>vlN e 0,r.kn<=k/\k<=99999
 | [],_,_,_=>⟨List.Pairwise.nil,by simp⟩
 | e::l,r,n,h=>by
  rw [zej] at h
  by_cases hs:zia r n e≠0
  ·rw [if_pos hs] at h;exact absurd h hs
  ·rw [if_neg hs] at h
   obtain⟨h1,h2⟩:=z0g l _ _ h
   obtain⟨_,b2,b3,_⟩:=z0p (zur (Decidable.byContradiction hs)).2
   rw [yqf] at h2
   refine⟨?_,fun k hk=> ?_⟩
   ·rw [List.map_cons,List.pairwise_cons]
    exact⟨fun k hk=>(h2 k hk).1,h1⟩
   ·rw [List.map_cons,List.mem_cons] at hk
    rcases hk with rfl|hk
    ·exact⟨b2,b3⟩
    ·have:=h2 k hk;omega
theorem ykh {es:List Ent} {nm:List UInt8} {k:Nat} (h:zpz es nm=k) (more:List Ent):zpz (es++more) nm=k:=by
 rcases zf0 es nm with⟨e,_⟩|⟨j,hj,e,h2,h3⟩
 ·omega
 ·obtain rfl:j=k:=by omega
  refine zow (p:=fun x:Ent=>decide (x.nm=nm)) (by rw [List.length_append];omega) ?_ ?_
  ·rw [List.getElem_append_left hj];exact decide_eq_true h2
  ·intro i hi
   rw [List.getElem_append_left (by omega)]
   exact decide_eq_false (h3 i hi)
structure Lat (r r':Rgs) (F:Int):Prop where
 es:∃more,r'.es=r.es++more/\∀x∈more,F<x.kn
 rm:∀nm,z4h r'.rs nm F=z4h r.rs nm F
theorem Lat.refl (r:Rgs) (F:Int):Lat r r F:=⟨⟨[],by simp,by simp⟩,fun _=>rfl⟩
theorem Lat.trans {a b c:Rgs} {F:Int} (h:Lat a b F) (k:Lat b c F):Lat a c F:=by
 obtain⟨⟨m1,e1,h1⟩,r1⟩:=h
 obtain⟨⟨m2,e2,h2⟩,r2⟩:=k
 refine⟨⟨m1++m2,by rw [e2,e1,List.append_assoc],fun x hx=> ?_⟩,fun nm=>(r2 nm).trans (r1 nm)⟩
 rcases List.mem_append.1 hx with hx|hx
 ·exact h1 x hx
 ·exact h2 x hx
theorem yhn {rs:List Rmv} {z:Rmv} {nm:List UInt8} {F:Int} (h:F<z.kn):z4h (rs++[z]) nm F=z4h rs nm F:=by
 unfold z4h
 rw [List.any_append,List.any_cons,List.any_nil,decide_eq_false (by omega),Bool.or_false,Bool.or_false]
theorem yq4 (r:Rgs) (e:Evt) {F:Int} (h:F<vlN e 0):Lat r (zq5 r e) F:=by
 unfold zq5
 split
 ·refine⟨⟨[z8m e],rfl,fun x hx=> ?_⟩,fun _=>rfl⟩
  rw [List.mem_singleton] at hx;subst hx
  exact h
 ·split
  ·exact⟨⟨[],by simp,by simp⟩,fun nm=>yhn h⟩
  ·split
   ·exact⟨⟨[],by simp,by simp⟩,fun _=>rfl⟩
   ·refine⟨⟨[],by simp,by simp⟩,fun nm=> ?_⟩
    dsimp only
    split
    ·exact yhn h
    ·rfl
theorem ycd:∀(l:List Evt) (r:Rgs) (n:Nat) {F:Int},(zdb r n l).2.2=0->(∀e∈l,F<vlN e 0)->Lat r (zdb r n l).1 F
 | [],r,_,F,_,_=>Lat.refl r F
 | e::l,r,n,F,h,hd=>by
  rw [zej] at h ⊢
  by_cases hs:zia r n e≠0
  ·rw [if_pos hs] at h;exact absurd h hs
  ·rw [if_neg hs] at h ⊢
   exact(yq4 r e (hd e (by simp))).trans (ycd l _ _ h fun x hx=>hd x (by simp [hx]))
theorem ykb {r r':Rgs} (ho:OkR r) (ho':OkR r') {F:Int} (h:Lat r r' F):∀(k:Nat) (hk:k<r.es.length),z0q r' r.es[k] F=z0q r r.es[k] F:=by
 obtain⟨⟨more,he,_⟩,hr⟩:=h
 intro k
 induction k using Nat.strongRecOn with
 | _ k ih=>
  intro hk
  have hk':k<r'.es.length:=by rw [he,List.length_append];omega
  have hek:r'.es[k]=r.es[k]:=by simp only [he];exact List.getElem_append_left hk
  rcases ho.bs k hk with hb|⟨j,hj,hb⟩
  ·have h1:=z8j ho' hk' (by rw [hek];exact hb) F
   simp only [hek] at h1
   rw [h1,z8j ho hk hb,hr]
  ·have hb':zpz r'.es r.es[k].bs=j:=by rw [he];exact ykh hb more
   have h1:=z8i ho' hk' hj (by rw [hek];exact hb') F
   have hej:r'.es[j]'(by omega)=r.es[j]'(by omega):=by simp only [he];exact List.getElem_append_left (by omega)
   simp only [hek,hej] at h1
   rw [h1,z8i ho hk hj hb,hr,ih j hj (by omega)]
theorem ykc {r:Rgs} {x:Ent} {F:Int} (h:F<x.kn):z0q r x F=false:=by
 unfold z0q
 rw [decide_eq_false (by omega)]
 rfl
theorem yo0 {r r':Rgs} (ho:OkR r) (ho':OkR r') {F:Int} (h:Lat r r' F) (s:List UInt8) (d:Int):z5l r' s F d=z5l r s F d:=by
 have hc:=ykb ho ho' h
 obtain⟨⟨more,he,hm⟩,_⟩:=h
 unfold z5l
 rw [he,List.foldl_append,zyb (yim r' s F d) Ent.mi more _ fun x hx=>by
  unfold yim
  rw [ykc (hm x hx),Bool.and_false]]
 refine z6m _ _ _ _ _ fun x hx=> ?_
 obtain⟨k,hk,rfl⟩:=List.mem_iff_getElem.1 hx
 unfold yim
 rw [hc k hk]
theorem yoa {r r':Rgs} (ho:OkR r) (ho':OkR r') {F:Int} (h:Lat r r' F):yf6 r' F=yf6 r F:=by
 have hc:=ykb ho ho' h
 obtain⟨⟨more,he,hm⟩,_⟩:=h
 unfold yf6
 rw [he,List.filter_append]
 have h1:more.filter (fun x=>z0q r' x F)=[]:=by
  rw [List.filter_eq_nil_iff]
  intro x hx
  rw [ykc (hm x hx)]
  decide
 rw [h1,List.append_nil]
 congr 1
 refine List.filter_congr fun x hx=> ?_
 obtain⟨k,hk,rfl⟩:=List.mem_iff_getElem.1 hx
 exact hc k hk
theorem z3l {p:List UInt8->Bool} {s:List UInt8} (h:p s=false):∀l:List (List UInt8),(yky s l).filter p=l.filter p
 | []=>by simp [yky,h]
 | y::l=>by
  unfold yky
  split
  ·rw [List.filter_cons,List.filter_cons,z3l h l]
  ·rw [List.filter_cons,h]
   rfl
theorem z4s {p:List UInt8->Bool}:∀(more:List Ent) (ks:List (List UInt8)),(∀x∈more,x.sr∈ks\/p x.sr=false)->(zmz (more.foldl (fun ks x=>z4y ks x.sr) ks)).filter p=(zmz ks).filter p
 | [],_,_=>rfl
 | x::more,ks,h=>by
  rw [List.foldl_cons]
  have hx:=h x (by simp)
  have hsub:∀s,s∈ks->s∈z4y ks x.sr:=fun s hs=>by
   unfold z4y
   split
   ·exact hs
   ·simp [hs]
  rw [z4s more (z4y ks x.sr) fun y hy=>(h y (by simp [hy])).imp (hsub _) id]
  unfold z4y
  split
  ·rfl
  ·rename_i hn
   rw [ym5]
   exact z3l (hx.resolve_left hn) _
theorem ysn (es:List Ent):∀x∈es,x.sr∈srK es:=by
 have key:∀(es:List Ent) (ks:List (List UInt8)) (s:List UInt8),(s∈ks\/∃x∈es,x.sr=s)->s∈es.foldl (fun ks x=>z4y ks x.sr) ks:=by
  intro es
  induction es with
  | nil=>
   intro ks s h
   rcases h with h|⟨x,hx,_⟩
   ·exact h
   ·cases hx
  | cons y es ih=>
   intro ks s h
   rw [List.foldl_cons]
   refine ih _ s ?_
   rcases h with h|⟨x,hx,rfl⟩
   ·left;unfold z4y;split
    ·exact h
    ·simp [h]
   ·rcases List.mem_cons.1 hx with rfl|hx
    ·left;unfold z4y;split
     ·assumption
     ·simp
    ·exact .inr ⟨x,hx,rfl⟩
 exact fun x hx=>key es [] x.sr (.inr ⟨x,hx,rfl⟩)
theorem yea {r:Rgs} {s:List UInt8} (h:s∉srK r.es) (kn d:Int):z5l r s kn d=1440:=by
 refine ybs fun j hj=> ?_
 have:r.es[j].sr≠s:=fun e=>h (e▸ysn r.es _ (List.getElem_mem hj))
 unfold yim
 rw [decide_eq_false this]
 rfl
theorem ypv {r r':Rgs} (ho:OkR r) (ho':OkR r') {F:Int} (h:Lat r r' F) (d:Int):z9v r' F d=z9v r F d:=by
 have hm:=fun s=>yo0 ho ho' h s d
 obtain⟨⟨more,he,_⟩,_⟩:=h
 unfold z9v ypw
 simp only [hm]
 congr 1
 rw [he]
 unfold srK
 rw [List.foldl_append]
 refine z4s more _ fun x _=> ?_
 by_cases hx:x.sr∈r.es.foldl (fun ks x=>z4y ks x.sr) []
 ·exact .inl hx
 ·refine .inr (decide_eq_false fun hn=>hn (yea hx F d))
theorem yi7 {r:Rgs} (ho:OkR r) (kn d:Int):∀t∈z9v r kn d,0<=t.mi/\t.mi<1440:=by
 intro t ht
 unfold z9v ypw at ht
 obtain⟨s,hs,rfl⟩:=List.mem_map.1 ht
 have h1:=of_decide_eq_true (List.mem_filter.1 hs).2
 have:=ylg ho s kn d
 dsimp only
 omega
theorem z9q:∀(l:List Evt) (r:Rgs) (n:Nat),(zdb r n l).2.2=0->0<=r.kn/\r.kn<=99999->0<=(zdb r n l).1.kn/\(zdb r n l).1.kn<=99999
 | [],_,_,_,h=>h
 | e::l,r,n,h,hk=>by
  rw [zej] at h ⊢
  by_cases hs:zia r n e≠0
  ·rw [if_pos hs] at h;exact absurd h hs
  ·rw [if_neg hs] at h ⊢
   refine z9q l _ _ h ?_
   obtain⟨_,h2⟩:=zur (Decidable.byContradiction hs)
   obtain⟨_,h3,h4,_⟩:=z0p h2
   rw [yqf]
   omega
theorem ymh {l:List Evt} (n:Nat) (h:erL l=0):erL (l.take n)=0/\zdb (rgL (l.take n)) (l.take n).length (l.drop n)=zdb rg0 0 l:=by
 have h1:=zun (l.take n) rg0 0 (l.drop n)
 rw [List.take_append_drop] at h1
 by_cases hz:(zdb rg0 0 (l.take n)).2.2≠0
 ·rw [if_pos hz] at h1
  have h:(zdb rg0 0 l).2.2=0:=h
  rw [h1] at h
  exact absurd h hz
 ·rw [if_neg hz,Nat.zero_add] at h1
  exact⟨Decidable.byContradiction hz,h1.symm⟩
def ycr (t:Slt):List UInt8:=t.sr++[32]++zau 20 t.mi.toNat
def z54 (r:Rgs) (k d:Int):List (List UInt8)×Int:=
 if zb5 [rng k 0 99999,rng d 0 99999]≠0 then([],zb5 [rng k 0 99999,rng d 0 99999]) else((z9v r k d).map ycr,0)
def yvr (r:Rgs):List Cpl:=r.cs.filter fun c=> !c.cl
def yae (r:Rgs):List (List UInt8)×Int:=((yvr r).map Cpl.nm,0)
theorem yh2:∀(es:List Ent) (ks:List (List UInt8)) (s:List UInt8),s∈es.foldl (fun ks x=>z4y ks x.sr) ks->s∈ks\/∃x∈es,x.sr=s
 | [],_,_,h=> .inl h
 | y::es,ks,s,h=>by
  rw [List.foldl_cons] at h
  rcases yh2 es _ s h with h|⟨x,hx,e⟩
  ·unfold z4y at h
   split at h
   ·exact .inl h
   ·rcases List.mem_append.1 h with h|h
    ·exact .inl h
    ·rw [List.mem_singleton] at h
     exact .inr ⟨y,by simp,h.symm⟩
  ·exact .inr ⟨x,by simp [hx],e⟩
def SrR (r:Rgs):Prop:=∀x∈r.es,zcj x.sr=true
theorem ym3 {r:Rgs} (h:SrR r) (k d:Int):∀t∈z9v r k d,t.sr.length<=24:=by
 intro t ht
 unfold z9v ypw at ht
 obtain⟨s,hs,rfl⟩:=List.mem_map.1 ht
 have h1:=(zjd _).mem_iff.1 (List.mem_filter.1 hs).1
 rcases yh2 r.es [] s h1 with h2|⟨x,hx,rfl⟩
 ·cases h2
 ·exact(of_decide_eq_true (h x hx)).2.1
theorem zsj:∀(f u:Nat),(zau f u).length<=f
 | 0,_=>Nat.le_refl _
 | f+1,u=>by
  unfold zau
  split
  ·simp
  ·have:=zsj f (u/10)
   rw [List.length_append,List.length_singleton];omega
section
variable {E : Oracle} (g : Good E)
include g
theorem ywe (ev:List Evt) (r:Rgs) (ho:OkR r) (hsr:SrR r) (w:List (List UInt8)) (k d:Int):Ui E zbu [.ptr ⟨0,0,0⟩ 1 0,Ws w,LI [k,d]] (mR zaa ev r) (ysx (z54 r k d)) (mR zaa ev r):=by
 refine⟨?_⟩
 have h2:=ycj g k
 have h3:=ycj g d
 have h4:=ze4 g (rng k 0 99999) (rng d 0 99999)
 have hu:=yst g ev r ho k d
 have hsl:=yh1 ho k d
 have hran:=yi7 ho k d
 have hsrl:=ym3 hsr k d
 unfold z54
 generalize rng k 0 99999=y at *
 generalize rng d 0 99999=z at *
 generalize zb5 [y,z]=e at *
 generalize z9v r k d=sl at *
 have hms:(sl.flatMap Slt.cells).length=sl.length*2:=zae Slt.cells 2 yvv sl
 change In E 1 zbu [.ptr ⟨0,0,0⟩ 1 0,Ws w,.d (.list 2 [DI k,DI d])] _ _
 refine In.enter (f:=zbu) g.lim rfl rfl ?_
 by_cases he:e=0
 ·subst he
  rw [if_neg (fun h=>h rfl)]
  repeat' ((conv=>whnf);first
  | refine Yz ?_
   | (apply zai.of;assumption)
   | (refine zpg.ofI (r':=LS2 sl) isR rfl rfl rfl rfl hu rfl rfl rfl rfl ?_)
   | (refine Cmp.ff (fun h=>h rfl) ?_)
   | (refine In.enter (f:=zdm) g.lim rfl rfl ?_)
   | fail)
  refine zak.to (zak.by (σ:=List (List UInt8)) g (fun u=>u.length<=sl.length/\u=(sl.take u.length).map ycr)
   (fun u=>[(1,.fn zfo [] []),(5,.ref ⟨2,5,0⟩ 0 u.length u.length),(8,LS2 sl),(9,I sl.length),(10,I u.length)])
   (fun u=>mR zaa ev r++[(⟨2,4,0⟩,.row false zab 1 0 []),(⟨2,5,0⟩,.row false zab 1 u.length (u.map D.str))])
   (fun u=>sl.length-u.length) ?_ [] ⟨Nat.zero_le _,rfl⟩) rfl rfl
  rintro u ⟨h5,h6⟩ ih
  dsimp only at h5 h6 ih ⊢
  by_cases hlt:u.length<sl.length
  ·have hwin:win (sl.flatMap Slt.cells) (((u.length:Nat):Int).toNat*2) 2=sl[u.length].cells:=by
    rw [Int.toNat_natCast]
    exact zbx Slt.cells 2 yvv sl u.length hlt
   change win _ _ _=[D.str sl[u.length].sr,DI sl[u.length].mi] at hwin
   have hi:=z7k g sl[u.length].mi (by have:=hran _ (List.getElem_mem hlt);omega)
   have ih:=ih (u++[ycr sl[u.length]]) ⟨by rw [List.length_append,List.length_singleton];omega,by
    rw [List.length_append,List.length_singleton,List.take_succ_eq_append_getElem hlt,List.map_append,<-h6];rfl⟩ (by rw [List.length_append,List.length_singleton];omega)
   simp only [List.length_append,List.length_cons,List.length_nil,List.map_append,List.map_cons,List.map_nil] at ih
   have hT:ycr sl[u.length]=sl[u.length].sr++[32]++zau 20 sl[u.length].mi.toNat:=rfl
   rw [hT] at ih
   have hs1:=hsrl _ (List.getElem_mem hlt)
   have hs2:=zsj 20 sl[u.length].mi.toNat
   have hmx:zrm=9223372036854775807:=rfl
   clear hran hsrl
   generalize sl[u.length]=t at *
   repeat' ((conv=>whnf);first
   | refine Yz ?_
    | (rw [hwin])
    | (apply zai.of;assumption)
    | (refine In.enter (f:=zfo) g.lim rfl rfl ?_)
    | (refine zcp.mk (by rw [hmx];simp only [List.length_append,List.length_cons,List.length_nil];omega) ?_)
    | (refine zcp.mk ⟨rfl,rfl,rfl,rfl,rfl,rfl,by dsimp only;omega,by dsimp only;omega⟩ ?_)
    | (refine zak.to ih rfl rfl)
    | fail)
  ·rw [List.take_of_length_le (by omega)] at h6
   rw [<-h6]
   repeat' ((conv=>whnf);first
   | refine Yz ?_
    | (refine zcp.mk ⟨rfl,by omega⟩ ?_)
    | (refine zcp.mk ⟨by simp,rfl,by omega⟩ ?_)
    | (exact⟨by rw [if_pos ⟨rfl,rfl⟩],rfl,rfl,rfl,rfl,rfl,trivial⟩)
    | (exact⟨rfl,rfl,rfl,rfl,rfl,rfl,trivial⟩)
    | fail)
 ·rw [if_pos he]
  repeat' ((conv=>whnf);first
  | refine Yz ?_
   | (apply zai.of;assumption)
   | (refine Cmp.tt he ?_)
   | (exact⟨rfl,rfl,rfl,rfl,rfl,rfl,trivial⟩)
   | fail)
theorem ywh (ev:List Evt) (r:Rgs) (ho:OkR r) (w:List (List UInt8)) (n:List Int):Ui E zcd [.ptr ⟨0,0,0⟩ 1 0,Ws w,LI n] (mR zaa ev r) (ysx (yae r)) (mR zaa ev r):=by
 refine⟨?_⟩
 have hcs:=ho.cs
 have hml:(r.cs.flatMap Cpl.cells).length=r.cs.length*5:=zae Cpl.cells 5 zs4 r.cs
 refine In.enter (f:=zcd) g.lim rfl rfl ?_
 repeat' ((conv=>whnf);first
 | refine Yz ?_
  | (refine In.enter (f:=zeb) g.lim rfl rfl ?_)
  | fail)
 refine zak.to (zak.by (σ:=Nat×List Cpl) g (fun u=>u.1<=r.cs.length/\u.2=(r.cs.take u.1).filter fun c=> !c.cl)
  (fun u=>[(1,.fn zd4 [] []),(5,.ref ⟨2,5,0⟩ 0 u.2.length u.2.length),(8,.ref ⟨0,0,4⟩ 0 r.cs.length r.cs.length),(9,I r.cs.length),(10,I u.1)])
  (fun u=>mR zaa ev r++[(⟨2,4,0⟩,.row false zaj 5 0 []),(⟨2,5,0⟩,.row false zaj 5 u.2.length (u.2.flatMap Cpl.cells))])
  (fun u=>r.cs.length-u.1) ?_ (0,[]) ⟨Nat.zero_le _,rfl⟩) rfl rfl
 rintro⟨k,out⟩ ⟨h1,h2⟩ ih
 dsimp only at h1 h2 ih ⊢
 have hmo:(out.flatMap Cpl.cells).length=out.length*5:=zae Cpl.cells 5 zs4 out
 have hol:out.length<=64:=by
  rw [h2]
  refine Nat.le_trans (List.length_filter_le _ _) ?_
  rw [List.length_take];omega
 by_cases hlt:k<r.cs.length
 ·have hwin:win (r.cs.flatMap Cpl.cells) ((0+((k:Nat):Int).toNat)*5) 5=r.cs[k].cells:=by
   rw [Nat.zero_add,Int.toNat_natCast]
   exact zbx Cpl.cells 5 zs4 r.cs k hlt
  change win _ _ _=[D.str r.cs[k].nm,D.str r.cs[k].en,DI r.cs[k].kn,D.bool r.cs[k].cl,D.bool r.cs[k].up] at hwin
  cases hc:r.cs[k].cl with
  | false=>
   have ih:=ih (k+1,out++[r.cs[k]]) ⟨by dsimp only;omega,by dsimp only;rw [zki _ _ _ hlt,<-h2,hc];rfl⟩ (by dsimp only;omega)
   simp only [List.length_append,List.length_cons,List.length_nil,List.flatMap_append,List.flatMap_cons,List.flatMap_nil] at ih
   have hcc:r.cs[k].cells=[D.str r.cs[k].nm,D.str r.cs[k].en,DI r.cs[k].kn,D.bool false,D.bool r.cs[k].up]:=by rw [<-hc];rfl
   rw [hcc] at ih
   rw [hc] at hwin
   repeat' ((conv=>whnf);first
   | refine Yz ?_
    | (rw [hwin])
    | (refine In.enter (f:=zd4) g.lim rfl rfl ?_)
    | (refine zcp.mk ⟨rfl,rfl,rfl,rfl,rfl,rfl,by dsimp only;omega,by dsimp only;omega⟩ ?_)
    | (refine zak.to ih rfl rfl)
    | fail)
  | true=>
   have ih:=ih (k+1,out) ⟨by dsimp only;omega,by dsimp only;rw [zki _ _ _ hlt,<-h2,hc];simp⟩ (by dsimp only;omega)
   rw [hc] at hwin
   repeat' ((conv=>whnf);first
   | refine Yz ?_
    | (rw [hwin])
    | (refine In.enter (f:=zd4) g.lim rfl rfl ?_)
    | (refine zak.to ih rfl rfl)
    | fail)
 ·rw [List.take_of_length_le (by omega)] at h2
  have hcl:yae r=(out.map Cpl.nm,0):=by rw [yae,yvr,<-h2]
  rw [hcl]
  clear hcl h2 ih
  repeat' ((conv=>whnf);first
  | refine Yz ?_
   | (refine zcp.mk ⟨rfl,by omega⟩ ?_)
   | (rw [if_pos ⟨rfl,rfl⟩];refine In.enter (f:=zbo) g.lim rfl rfl ?_)
   | (refine In.enter (f:=zbo) g.lim rfl rfl ?_)
   | fail)
  refine zak.to (zak.by (σ:=List (List UInt8)) g (fun u=>u.length<=out.length/\u=(out.take u.length).map Cpl.nm)
   (fun u=>[(1,.fn zfp [] []),(5,.ref ⟨2,5,0⟩ 0 u.length u.length),(8,.d (.list out.length (out.flatMap Cpl.cells))),(9,I out.length),(10,I u.length)])
   (fun u=>mR zaa ev r++[(⟨2,4,0⟩,.row false zab 1 0 []),(⟨2,5,0⟩,.row false zab 1 u.length (u.map D.str))])
   (fun u=>out.length-u.length) ?_ [] ⟨Nat.zero_le _,rfl⟩) rfl rfl
  rintro u ⟨h3,h4⟩ ih
  dsimp only at h3 h4 ih ⊢
  by_cases hlt2:u.length<out.length
  ·have hwin:win (out.flatMap Cpl.cells) (((u.length:Nat):Int).toNat*5) 5=out[u.length].cells:=by
    rw [Int.toNat_natCast]
    exact zbx Cpl.cells 5 zs4 out u.length hlt2
   have ih:=ih (u++[out[u.length].nm]) ⟨by rw [List.length_append,List.length_singleton];omega,by
    rw [List.length_append,List.length_singleton,List.take_succ_eq_append_getElem hlt2,List.map_append,<-h4];rfl⟩ (by rw [List.length_append,List.length_singleton];omega)
   simp only [List.length_append,List.length_cons,List.length_nil,List.map_append,List.map_cons,List.map_nil] at ih
   repeat' ((conv=>whnf);first
   | refine Yz ?_
    | (rw [hwin])
    | (refine In.enter (f:=zfp) g.lim rfl rfl ?_)
    | (refine zcp.mk ⟨rfl,rfl,rfl,rfl,rfl,rfl,by dsimp only;omega,by dsimp only;omega⟩ ?_)
    | (refine zak.to ih rfl rfl)
    | fail)
  ·rw [List.take_of_length_le (by omega)] at h4
   rw [<-h4]
   repeat' ((conv=>whnf);first
   | refine Yz ?_
    | (refine zcp.mk ⟨rfl,by omega⟩ ?_)
    | (refine zcp.mk ⟨by simp,rfl,by omega⟩ ?_)
    | (exact⟨by rw [if_pos ⟨rfl,rfl⟩],rfl,rfl,rfl,rfl,rfl,trivial⟩)
    | (exact⟨rfl,rfl,rfl,rfl,rfl,rfl,trivial⟩)
    | fail)
end
theorem zpg.ofJ {E:Oracle} {f:Nat} {first caps args as0 as1:List V} {m m0 m2 m':Mem} {r r':V} {K:V->Mem->Prop} (is:List Evl.Id) (h0:(first ++args++caps).map (zy6 m)=as1) (his:reach 0 m 64 (idsL as1) []=is)
  (hc:(within is 0 (idsL as1)&&movable is 0 m)=true) (has:renL (number ⟨0,0⟩ 0 0 is) as1=as0) (hm:moved (number ⟨0,0⟩ 0 0 is) m (number ⟨0,0⟩ 0 0 is)=m0)
  (hq:Ui E f as0 m0 r m2) (hlow:zjv 1 (zps m0)=true) (hb:zwi (number ⟨0,0⟩ 0 0 is) m2 (number ⟨0,0⟩ 0 0 is) m=some m') (hid:(ids r).all (fun i=>((number ⟨0,0⟩ 0 0 is).map (·.2)).elem i)=true) (hr:ren (zpj (number ⟨0,0⟩ 0 0 is)) r=r') (hk:K r' m'):zpg E true (.fn f first caps) args m K:=by
 subst h0
 exact zpg.ofI is his hc has hm hq hlow hb hid hr hk
theorem yd0 {m:Mem} {o:Evl.Id} {n:Nat} {t sz:Nat} {xs:List D} (h:Evl.look m o=some (.row false t sz n xs)):zy6 m (.ref o 0 n n)= .d (.list n xs):=by
 have h1:Evl.freeze false m (.ref o 0 n n)=some (.list n xs):=by
  have h2:Evl.freeze false m (.ref o 0 n n)=match Evl.look m o with|some (.row wr _ sz n' xs)=>if(wr=false\/false=true)/\n'=n/\0+n<=n' then some (.list n (if 0=0/\n=n' then xs else win xs (0*sz) (n*sz))) else none|_=>none:=rfl
  rw [h2,h]
  dsimp only
  rw [if_pos ⟨.inl rfl,rfl,by omega⟩,if_pos ⟨rfl,rfl⟩]
 simp only [zy6,h1]
def z00 (l:List (List UInt8)):Bool:=l.all fun w=>(ya2 w).2
def zpr (l:List (List UInt8)):List Int:=l.map fun w=>(ya2 w).1
def yq5 (a:List (List UInt8)×Int):List UInt8×Int:=if a.2≠0 then([],a.2) else if a.1=[] then([110,111,110,101],0) else(zjj 32 a.1,0)
def ydh (W I:Nat) (A:List (List UInt8)->List Int->List (List UInt8)×Int) (text:List UInt8):List UInt8×Int:=
 if(parts 32 text).length≠W\/[]∈parts 32 text then([],25)
 else if z00 ((parts 32 text).drop (W-I))=false then([],25)
 else yq5 (A (parts 32 text) (zpr ((parts 32 text).drop (W-I))))
theorem yp8 (l:List (List UInt8)) (a:Nat):win (l.map D.str) (a*1) ((l.length-a)*1)=(l.drop a).map D.str:=by
 unfold win
 rw [Nat.mul_one,Nat.mul_one,List.map_drop,List.take_of_length_le (by rw [List.length_drop,List.length_map];exact Nat.le_refl _)]
theorem ybh (b:UInt8) (n:Nat):∀l:List (List UInt8),(∀w∈l,w.length<=n)->(zjj b l).length<=l.length*(n+1)
 | [],_=>by simp [zjj]
 | [x],h=>by
  have:=h x (by simp)
  simp only [zjj,List.length_cons,List.length_nil]
  omega
 | x::y::r,h=>by
  have h1:=h x (by simp)
  have h2:=ybh b n (y::r) fun w hw=>h w (List.mem_cons_of_mem _ hw)
  rw [List.length_cons,Nat.succ_mul]
  simp only [zjj,List.length_append,List.length_cons] at h2 ⊢
  omega
section
variable {E : Oracle} (g : Good E)
include g
theorem ynl (ev:List Evt) (r:Rgs) (W Iq:Nat) (hI:Iq<=W) (hW:W<=10) (f:Nat) (A:List (List UInt8)->List Int->List (List UInt8)×Int) (text:List UInt8) (ht:text.length<=100000)
  (hq:∀w n,w.length=W->n.length=Iq->Ui E f [.ptr ⟨0,0,0⟩ 1 0,Ws w,LI n] (mR zaa ev r) (ysx (A w n)) (mR zaa ev r))
  (hA:∀w n,(A w n).1.length<=1000/\∀x∈(A w n).1,x.length<=100):
  Ui E zbh [.ptr ⟨0,0,0⟩ 0 0,.agg [I W,I Iq,.fn f [] []],S text] (mR zaa ev r) (.tup [S (ydh W Iq A text).1,I (ydh W Iq A text).2]) (mR zaa ev r):=by
 refine⟨?_⟩
 have hsp:=ymr g text (by omega)
 have hln:=z4b 32 text
 have hpl:∀w∈parts 32 text,w.length<=1000000:=fun w hw=>by
  have:=z9j 32 text w hw
  omega
 have hct:=z4n g (parts 32 text) [] (by omega)
 unfold ydh
 generalize parts 32 text=w at *
 refine In.enter (f:=zbh) g.lim rfl rfl ?_
 by_cases h1:w.length=W
 ·by_cases h2:[]∈w
  ·rw [decide_eq_true h2] at hct
   rw [if_pos (.inr h2)]
   subst h1
   repeat' ((conv=>whnf);first
   | refine Yz ?_
    | (apply zai.of;assumption)
    | (exact⟨rfl,rfl,rfl,rfl,rfl,rfl,trivial⟩)
    | fail)
  ·rw [decide_eq_false h2] at hct
   rw [if_neg (fun h=>h.elim (fun h=>h h1) h2)]
   subst h1
   have hxl:(w.drop (w.length-Iq)).length=w.length-(w.length-Iq):=List.length_drop
   have hxw:∀x∈w.drop (w.length-Iq),x.length<=1000000:=fun x hx=>hpl x (List.mem_of_mem_drop hx)
   have hwd:=yp8 w (w.length-Iq)
   generalize hxs:w.drop (w.length-Iq)=xs at *
   repeat' ((conv=>whnf);first
   | refine Yz ?_
    | (apply zai.of;assumption)
    | (refine zc2.at (w.length-Iq) w.length (by omega) (by omega) (by omega) ?_;rw [hwd])
    | fail)
   rw [<-hxl]
   refine zak.to (zak.upP g (fun k=>[(0,.ptr ⟨0,0,0⟩ 0 0),(4,.ptr ⟨1,4,0⟩ 0 0),(8,LS w),(9,.ref ⟨1,9,0⟩ 0 k k),(33,LS xs),(34,I xs.length),(35,I k)])
    (fun k=>mR zaa ev r++[(⟨1,4,0⟩,.cells zln [I w.length,I Iq,.fn f [] []]),(⟨1,9,0⟩,.row false zci 1 k ((zpr (xs.take k)).map DI))])
    (fun k=>z00 (xs.take k)=true) xs.length (fun k hk hp ih=> ?_) 0 (Nat.zero_le _) rfl) rfl rfl
   by_cases hlt:k<xs.length
   ·have hd:=zyx g xs[k] (hxw _ (List.getElem_mem hlt))
    have hpx:∀ {K:D->Prop},K (.str xs[k])->zgw (xs.map D.str) (((k:Nat):Int).toNat*1) K:=fun h=>zgw.ws k rfl hlt h
    have hmi:((zpr (xs.take k)).map DI).length=k*1:=by rw [List.length_map,zpr,List.length_map,List.length_take];omega
    cases hc:(ya2 xs[k]).2 with
    | false=>
     have hno:z00 xs=false:=by
      unfold z00
      rw [List.all_eq_false]
      exact⟨_,List.getElem_mem hlt,by rw [hc];decide⟩
     rw [hno,if_pos rfl]
     rw [hc] at hd
     clear ih
     repeat' ((conv=>whnf);first
     | refine Yz ?_
      | (refine hpx ?_)
      | (apply zai.of;assumption)
      | (exact⟨rfl,rfl,rfl,rfl,rfl,rfl,trivial⟩)
      | fail)
    | true=>
     rw [hc] at hd
     have e1:z00 (xs.take (k+1))=true:=by
      unfold z00 at hp ⊢
      rw [List.take_succ_eq_append_getElem hlt,List.all_append,hp,List.all_cons,hc]
      rfl
     have e2:(zpr (xs.take (k+1))).map DI=(zpr (xs.take k)).map DI++[DI (ya2 xs[k]).1]:=by
      unfold zpr
      rw [List.take_succ_eq_append_getElem hlt,List.map_append,List.map_append]
      rfl
     have ih:=ih hlt e1
     rw [e2] at ih
     repeat' ((conv=>whnf);first
     | refine Yz ?_
      | (refine hpx ?_)
      | (apply zai.of;assumption)
      | (refine zcp.mk ⟨rfl,rfl,rfl,rfl,rfl,rfl,by dsimp only;omega,by dsimp only;omega⟩ ?_)
      | (refine zak.to ih rfl rfl)
      | fail)
   ·obtain rfl:k=xs.length:=by omega
    clear ih
    rw [List.take_length] at hp ⊢
    rw [hp,if_neg (by decide)]
    have hil:(zpr xs).length=xs.length:=by rw [zpr,List.length_map]
    have hu:=hq w (zpr xs) rfl (by rw [hil,hxl];omega)
    obtain⟨ha1,ha2⟩:=hA w (zpr xs)
    generalize A w (zpr xs)=a at *
    obtain⟨al,ae⟩:=a
    dsimp only at ha1 ha2
    have hus:LI (zpr xs)= .d (.list xs.length ((zpr xs).map DI)):=by rw [<-hil]
    rw [hus] at hu
    have hfz:=fun m (h:Evl.look m ⟨1,9,0⟩=some (.row false zci 1 xs.length ((zpr xs).map DI)))=>yd0 h
    by_cases hae:ae=0
    ·subst hae
     by_cases hal:al=[]
     ·subst hal
      repeat' ((conv=>whnf);first
      | refine Yz ?_
       | (apply zai.of;assumption)
       | (refine zpg.ofJ (as1:=[.ptr ⟨0,0,0⟩ 1 0,LS w,.d (.list xs.length ((zpr xs).map DI))]) (r':= .tup [Ws [],I 0]) isR (by rw [List.nil_append,List.append_nil,List.map_cons,List.map_cons,List.map_cons,List.map_nil,hfz _ rfl];rfl) rfl rfl rfl rfl hu rfl rfl rfl rfl ?_)
       | (refine Cmp.ff (fun h=>h rfl) ?_)
       | (exact⟨rfl,rfl,rfl,rfl,rfl,rfl,trivial⟩)
       | fail)
     ·obtain⟨a0,ar,rfl⟩:=List.exists_cons_of_ne_nil hal
      have hjl:=ybh 32 100 (a0::ar) ha2
      have hj:=yqw g (a0::ar) hal (by omega) (by have:=Nat.mul_le_mul_right (100+1) ha1;omega)
      have hat:yq5 (a0::ar,0)=(zjj 32 (a0::ar),0):=by
       unfold yq5
       rw [if_neg (fun h=>h rfl),if_neg (fun h=>by cases h)]
      rw [hat]
      dsimp only
      have hkl:(a0::ar).length=ar.length+1:=rfl
      repeat' ((conv=>whnf);first
      | refine Yz ?_
       | (apply zai.of;assumption)
       | (refine zpg.ofJ (as1:=[.ptr ⟨0,0,0⟩ 1 0,LS w,.d (.list xs.length ((zpr xs).map DI))]) (r':= .tup [Ws (a0::ar),I 0]) isR (by rw [List.nil_append,List.append_nil,List.map_cons,List.map_cons,List.map_cons,List.map_nil,hfz _ rfl];rfl) rfl rfl rfl rfl hu rfl rfl rfl rfl ?_)
       | (refine Cmp.ff (by omega) ?_)
       | (refine Cmp.ff (fun h=>h rfl) ?_)
       | (exact⟨rfl,rfl,rfl,rfl,rfl,rfl,trivial⟩)
       | fail)
    ·have hat:yq5 (al,ae)=([],ae):=by
      unfold yq5
      rw [if_pos hae]
     rw [hat]
     dsimp only
     repeat' ((conv=>whnf);first
     | refine Yz ?_
      | (apply zai.of;assumption)
      | (refine zpg.ofJ (as1:=[.ptr ⟨0,0,0⟩ 1 0,LS w,.d (.list xs.length ((zpr xs).map DI))]) (r':= .tup [Ws al,I ae]) isR (by rw [List.nil_append,List.append_nil,List.map_cons,List.map_cons,List.map_cons,List.map_nil,hfz _ rfl];rfl) rfl rfl rfl rfl hu rfl rfl rfl rfl ?_)
      | (refine Cmp.tt hae ?_)
      | (exact⟨rfl,rfl,rfl,rfl,rfl,rfl,trivial⟩)
      | fail)
 ·rw [if_pos (.inl h1)]
  repeat' ((conv=>whnf);first
  | refine Yz ?_
   | (apply zai.of;assumption)
   | (refine Cmp.tt (by omega) ?_)
   | (exact⟨rfl,rfl,rfl,rfl,rfl,rfl,trivial⟩)
   | fail)
end
structure NmR (r:Rgs):Prop where
 nm:∀x∈r.es,zcj x.nm=true
 sr:∀x∈r.es,zcj x.sr=true
 cs:∀c∈r.cs,zcj c.nm=true
theorem yef {s:List UInt8} (h:zcj s=true):s.length<=24:=(of_decide_eq_true h).2.1
theorem ytd {r:Rgs} (h:NmR r) {n:Nat} {e:Evt} (hs:zia r n e=0):NmR (zq5 r e):=by
 obtain⟨h1,h2⟩:=zur hs
 obtain⟨_,_,_,h3⟩:=z0p h2
 obtain⟨a1,a2,a3,a4,_⟩:=zs3 h1
 unfold z41 at h3
 unfold zq5
 split at h3
 ·rename_i hk
  rw [if_pos hk]
  obtain⟨_,f2,_⟩:=z6t hk
  have hn:∀x∈r.es++[z8m e],zcj x.nm=true:=fun x hx=>by
   rcases List.mem_append.1 hx with hx|hx
   ·exact h.nm x hx
   ·rw [List.mem_singleton] at hx;subst hx
    exact yg9 a4 (i:=0) (by omega)
  have hs':∀x∈r.es++[z8m e],zcj x.sr=true:=fun x hx=>by
   rcases List.mem_append.1 hx with hx|hx
   ·exact h.sr x hx
   ·rw [List.mem_singleton] at hx;subst hx
    exact yg9 a4 (i:=1) (by omega)
  exact⟨hn,hs',h.cs⟩
 rename_i hk
 rw [if_neg hk]
 split at h3
 ·rename_i hk2
  rw [if_pos hk2]
  exact⟨h.nm,h.sr,h.cs⟩
 rename_i hk2
 rw [if_neg hk2]
 split at h3
 ·rename_i hk3
  rw [if_pos hk3]
  refine⟨h.nm,h.sr,fun c hc=> ?_⟩
  rcases List.mem_append.1 hc with hc|hc
  ·exact h.cs c hc
  ·rw [List.mem_singleton] at hc;subst hc
   exact yg9 a4 (i:=0) (by rw [a2,hk3];decide)
 rename_i hk3
 rw [if_neg hk3]
 refine⟨h.nm,h.sr,fun c hc=> ?_⟩
 rcases List.mem_or_eq_of_mem_set hc with hc|hc
 ·exact h.cs c hc
 ·subst hc
  dsimp only
  have hge:0<=zwz r.cs (nmN e 0):=by
   unfold zs1 at h3
   split at h3
   ·exact absurd h3 (by decide)
   ·omega
  rcases zn7 r.cs (nmN e 0) with e1|⟨k,hk,e1,_⟩
  ·omega
  ·rw [e1,Int.toNat_natCast]
   have:r.cs.getD k yf7=r.cs[k]:=by simp [List.getD,hk]
   rw [this]
   exact h.cs _ (List.getElem_mem hk)
theorem yhq:∀(l:List Evt) (r:Rgs) (n:Nat),NmR r->(zdb r n l).2.2=0->NmR (zdb r n l).1
 | [],_,_,h,_=>h
 | e::l,r,n,h,hz=>by
  rw [zej] at hz ⊢
  by_cases hs:zia r n e≠0
  ·rw [if_pos hs] at hz;exact absurd hz hs
  ·rw [if_neg hs] at hz ⊢
   exact yhq l _ _ (ytd h (Decidable.byContradiction hs)) hz
theorem yty:NmR rg0:=⟨by simp [rg0],by simp [rg0],by simp [rg0]⟩
abbrev A1 (r:Rgs) (w:List (List UInt8)) (n:List Int):=z74 r (w.getD 1 []) (n.getD 0 0) (n.getD 1 0)
abbrev A2 (r:Rgs) (_:List (List UInt8)) (n:List Int):=z54 r (n.getD 0 0) (n.getD 1 0)
abbrev A3 (r:Rgs) (_:List (List UInt8)) (n:List Int):=z52 r (n.getD 0 0)
abbrev A4 (r:Rgs) (w:List (List UInt8)) (_:List Int):=yfz r (w.getD 1 [])
abbrev A5 (r:Rgs) (_:List (List UInt8)) (_:List Int):=yae r
theorem yu7 (r:Rgs) (w:List (List UInt8)) (n:List Int):(A1 r w n).1.length<=1000/\∀x∈(A1 r w n).1,x.length<=100:=by
 unfold A1 z74
 generalize (if !zcj (w.getD 1 []) then(8:Int) else 0)=y
 split
 ·simp
 ·split
  ·refine⟨by simp,fun x hx=> ?_⟩
   rw [List.mem_singleton] at hx;subst hx
   have:=zsj 20 (z5l r (w.getD 1 []) (n.getD 0 0) (n.getD 1 0)).toNat
   omega
  ·simp
theorem yu8 {r:Rgs} (ho:OkR r) (h:NmR r) (w:List (List UInt8)) (n:List Int):(A2 r w n).1.length<=1000/\∀x∈(A2 r w n).1,x.length<=100:=by
 unfold A2 z54
 split
 ·simp
 ·refine⟨by have:=yh1 ho (n.getD 0 0) (n.getD 1 0);dsimp only;rw [List.length_map];omega,fun x hx=> ?_⟩
  obtain⟨t,ht,rfl⟩:=List.mem_map.1 hx
  have h1:=ym3 h.sr _ _ t ht
  have h2:=zsj 20 t.mi.toNat
  unfold ycr
  simp only [List.length_append,List.length_cons,List.length_nil]
  omega
theorem yg6 {r:Rgs} (ho:OkR r) (h:NmR r) (p:Ent->Bool):((r.es.filter p).map Ent.nm).length<=1000/\∀x∈(r.es.filter p).map Ent.nm,x.length<=100:=by
 have hes:=ho.es
 refine⟨by rw [List.length_map];exact Nat.le_trans (List.length_filter_le _ _) (by omega),fun x hx=> ?_⟩
 obtain⟨y,hy,rfl⟩:=List.mem_map.1 hx
 have:=yef (h.nm y (List.mem_filter.1 hy).1)
 omega
theorem yu9 {r:Rgs} (ho:OkR r) (h:NmR r) (w:List (List UInt8)) (n:List Int):(A3 r w n).1.length<=1000/\∀x∈(A3 r w n).1,x.length<=100:=by
 unfold A3 z52
 split
 ·simp
 ·exact yg6 ho h _
theorem yva {r:Rgs} (ho:OkR r) (h:NmR r) (w:List (List UInt8)) (n:List Int):(A4 r w n).1.length<=1000/\∀x∈(A4 r w n).1,x.length<=100:=by
 unfold A4 yfz
 generalize (if !zcj (w.getD 1 []) then(8:Int) else 0)=y
 split
 ·simp
 ·split
  ·simp
  ·exact yg6 ho h _
theorem yvb {r:Rgs} (ho:OkR r) (h:NmR r) (w:List (List UInt8)) (n:List Int):(A5 r w n).1.length<=1000/\∀x∈(A5 r w n).1,x.length<=100:=by
 have hcs:=ho.cs
 unfold A5 yae yvr
 dsimp only
 refine⟨by rw [List.length_map];exact Nat.le_trans (List.length_filter_le _ _) (by omega),fun x hx=> ?_⟩
 obtain⟨y,hy,rfl⟩:=List.mem_map.1 hx
 have:=yef (h.cs y (List.mem_filter.1 hy).1)
 omega
def hdW (s:List UInt8):List UInt8:=(parts 32 s).headD []
section
variable {E : Oracle} (g : Good E)
include g
theorem ymp (s:List UInt8) (hs:s.length<=1000000):∃q b,Fc E zjb [S s,S [32]] (.tup [S (hdW s),S q,B b]):=by
 by_cases h:(32:UInt8)∈s
 ·obtain⟨a,q,rfl,ha⟩:=List.eq_append_cons_of_mem h
  refine⟨q,true,?_⟩
  unfold hdW
  rw [zg8 32 q a ha]
  exact yhz g a q ha hs
 ·refine⟨[],false,?_⟩
  unfold hdW
  rw [zoa 32 s h]
  exact yce g s h
abbrev qsM:List (D×V):=[(.str yk3,.agg [I 4,I 2,.fn zbt [] []]),(.str z84,.agg [I 3,I 2,.fn zbu [] []]),(.str zh7,.agg [I 2,I 1,.fn zbv [] []]),(.str ybj,.agg [I 2,I 0,.fn zbw [] []]),(.str yk2,.agg [I 1,I 0,.fn zcd [] []])]
omit g in
theorem yl8 {k:List UInt8} (h:k≠yk3/\k≠z84/\k≠zh7/\k≠ybj/\k≠yk2):zkj (.str k) qsM=some none:=by
 have e:∀t,k≠t->(k==t)=false:=fun t h=>beq_eq_false_iff_ne.2 h
 obtain⟨h1,h2,h3,h4,h5⟩:=h
 simp only [zkj,eqD,e _ h1,e _ h2,e _ h3,e _ h4,e _ h5]
theorem zcb.questions {cx:Cx} {slot:Nat} {m:Mem} {K:V->Mem->Prop} (hf:Go.Evl.freeK cx.lv slot m=0) (k:K (.mp ⟨cx.lv,slot,0⟩) (m++[(⟨cx.lv,slot,0⟩,.map qsM)])):zcb E zlf [] cx slot m K:=by
 refine⟨.mp ⟨0,1,0⟩,[(⟨0,1,0⟩,.map qsM)],(.mp ⟨cx.lv,slot,0⟩,m++[(⟨cx.lv,slot,0⟩,.map qsM)]),g.lim.of_iter 1000 _ _ (by kernel_rfl),?_,k⟩
 unfold Evl.settle
 rw [hf]
 rfl
abbrev Aqv (a:List UInt8×Int):V:= .tup [S a.1,I a.2]
theorem yum (ev:List Evt) (r:Rgs) (ho:OkR r) (text:List UInt8) (ht:text.length<=100000):Ui E zbh [.ptr ⟨0,0,0⟩ 0 0,.agg [I 4,I 2,.fn zbt [] []],S text] (mR zaa ev r) (Aqv (ydh 4 2 (A1 r) text)) (mR zaa ev r):=by
 refine ynl g ev r 4 2 (by decide) (by decide) zbt (A1 r) text ht (fun w n hw hn=> ?_) (yu7 r)
 match w,n,hw,hn with
 | [a,s,b,c],[k,d],_,_=>exact ywd g ev r ho a s b c k d
theorem yun (ev:List Evt) (r:Rgs) (ho:OkR r) (h:NmR r) (text:List UInt8) (ht:text.length<=100000):Ui E zbh [.ptr ⟨0,0,0⟩ 0 0,.agg [I 3,I 2,.fn zbu [] []],S text] (mR zaa ev r) (Aqv (ydh 3 2 (A2 r) text)) (mR zaa ev r):=by
 refine ynl g ev r 3 2 (by decide) (by decide) zbu (A2 r) text ht (fun w n hw hn=> ?_) (yu8 ho h)
 match n,hn with
 | [k,d],_=>exact ywe g ev r ho h.sr w k d
theorem yuo (ev:List Evt) (r:Rgs) (ho:OkR r) (h:NmR r) (text:List UInt8) (ht:text.length<=100000):Ui E zbh [.ptr ⟨0,0,0⟩ 0 0,.agg [I 2,I 1,.fn zbv [] []],S text] (mR zaa ev r) (Aqv (ydh 2 1 (A3 r) text)) (mR zaa ev r):=by
 refine ynl g ev r 2 1 (by decide) (by decide) zbv (A3 r) text ht (fun w n hw hn=> ?_) (yu9 ho h)
 match n,hn with
 | [k],_=>exact ywf g ev r ho w k
theorem yup (ev:List Evt) (r:Rgs) (ho:OkR r) (h:NmR r) (text:List UInt8) (ht:text.length<=100000):Ui E zbh [.ptr ⟨0,0,0⟩ 0 0,.agg [I 2,I 0,.fn zbw [] []],S text] (mR zaa ev r) (Aqv (ydh 2 0 (A4 r) text)) (mR zaa ev r):=by
 refine ynl g ev r 2 0 (by decide) (by decide) zbw (A4 r) text ht (fun w n hw hn=> ?_) (yva ho h)
 match w,n,hw,hn with
 | [a,s],[],_,_=>exact ywg g ev r ho a s
theorem yuq (ev:List Evt) (r:Rgs) (ho:OkR r) (h:NmR r) (text:List UInt8) (ht:text.length<=100000):Ui E zbh [.ptr ⟨0,0,0⟩ 0 0,.agg [I 1,I 0,.fn zcd [] []],S text] (mR zaa ev r) (Aqv (ydh 1 0 (A5 r) text)) (mR zaa ev r):=by
 refine ynl g ev r 1 0 (by decide) (by decide) zcd (A5 r) text ht (fun w n hw hn=> ?_) (yvb ho h)
 exact ywh g ev r ho w n
end
def ys8 (l:List (List UInt8)):List UInt8:=if l=[] then [110,111,110,101] else zjj 32 l
theorem yj2 (l:List (List UInt8)):yq5 (l,0)=(ys8 l,0):=by
 unfold yq5 ys8
 rw [if_neg (fun h=>h rfl)]
 by_cases h:l=[]
 ·rw [if_pos h,if_pos h]
 ·rw [if_neg h,if_neg h]
def ys0 (r:Rgs) (t:List UInt8):List UInt8×Int:=
 if hdW t=yk3 then ydh 4 2 (A1 r) t
 else if hdW t=z84 then ydh 3 2 (A2 r) t
 else if hdW t=zh7 then ydh 2 1 (A3 r) t
 else if hdW t=ybj then ydh 2 0 (A4 r) t
 else if hdW t=yk2 then ydh 1 0 (A5 r) t
 else([],13)
theorem yvm {b c:List UInt8} (hb:zrj b=true) (hc:zrj c=true):zpr [b,c]=[z5j b,z5j c]:=by
 simp [zpr,(zmr b).2 hb,(zmr c).2 hc]
theorem yvl {b:List UInt8} (hb:zrj b=true):zpr [b]=[z5j b]:=by
 simp [zpr,(zmr b).2 hb]
theorem ykz {b:List UInt8} (h:zrj b=true):b≠[]:=by
 rintro rfl
 exact absurd h (by decide)
section
variable {E : Oracle} (g : Good E)
include g
theorem ynm (ev:List Evt) (r:Rgs) (text:List UInt8) (hl:text.length<=4096) (hne:text≠[]) (nm:List UInt8) (hnm:hdW text=nm) (W Iq:Int) (f:Nat) (a:List UInt8×Int)
  (hf:zkj (.str nm) qsM=some (some (.agg [I W,I Iq,.fn f [] []])))
  (hu:Ui E zbh [.ptr ⟨0,0,0⟩ 0 0,.agg [I W,I Iq,.fn f [] []],S text] (mR zaa ev r) (Aqv a) (mR zaa ev r)):
  Ui E zag [.ptr ⟨0,0,0⟩ 0 0,S text] (mR zaa ev r) (Aqv a) (mR zaa ev r):=by
 refine⟨?_⟩
 obtain⟨q,b,hcut⟩:=ymp g text (by omega)
 rw [hnm] at hcut
 obtain⟨a1,a2⟩:=a
 have hpos:0<text.length:=List.length_pos_iff.2 hne
 refine In.enter (f:=zag) g.lim rfl rfl ?_
 repeat' ((conv=>whnf);first
 | refine Yz ?_
  | (apply zai.of;assumption)
  | (refine zai.of (zg1 g _ _) ?_)
  | (refine zai.of (ze4 g _ _) ?_)
  | (refine zcb.questions g rfl ?_)
  | (refine Cmp.ff hne ?_)
  | (refine zrz.mk ⟨_,hf,?_⟩)
  | (refine zpg.ofI (r':=Aqv (a1,a2)) isR rfl rfl rfl rfl hu rfl rfl rfl rfl ?_)
  | (exact⟨rfl,rfl,rfl,rfl,rfl,rfl,trivial⟩)
  | fail)
end
def z1s (p:Evt) (n:Nat):Evt:=⟨(n:Int)+1,p.ki,p.ns,p.vs,p.tx⟩
def yjr (r:Rgs) (n:Nat) (o:Option Evt):Int:=
 if zb5 [if !o.isSome then 25 else 0,if 1000<=n then 5 else 0]≠0 then zb5 [if !o.isSome then 25 else 0,if 1000<=n then 5 else 0]
 else if zml (z1s (o.getD noE) n)≠0 then zml (z1s (o.getD noE) n) else yac r n (z1s (o.getD noE) n)
def z5h (n:Nat):List UInt8:=[100,111,110,101,32]++zau 20 (n+1)
section
variable {E : Oracle} (g : Good E)
include g
theorem yv1 (ev:List Evt) (r:Rgs):Ui E zag [.ptr ⟨0,0,0⟩ 0 0,S []] (mR zaa ev r) (Aqv ([],25)) (mR zaa ev r):=by
 refine⟨?_⟩
 refine In.enter (f:=zag) g.lim rfl rfl ?_
 repeat' ((conv=>whnf);first
 | refine Yz ?_
  | (apply zai.of;assumption)
  | (refine zai.of (zg1 g _ _) ?_)
  | (refine zai.of (ze4 g _ _) ?_)
  | (exact⟨rfl,rfl,rfl,rfl,rfl,rfl,trivial⟩)
  | fail)
theorem yv0 (ev:List Evt) (r:Rgs) (text:List UInt8) (hl:text.length<=4096) (hne:text≠[]) (hq:zkj (.str (hdW text)) qsM=some none) (hk:zfs (hdW text)=false):Ui E zag [.ptr ⟨0,0,0⟩ 0 0,S text] (mR zaa ev r) (Aqv ([],13)) (mR zaa ev r):=by
 refine⟨?_⟩
 obtain⟨q,b,hcut⟩:=ymp g text (by omega)
 have hfk:=ytq hk
 generalize hdW text=nm at *
 have hpos:0<text.length:=List.length_pos_iff.2 hne
 refine In.enter (f:=zag) g.lim rfl rfl ?_
 repeat' ((conv=>whnf);first
 | refine Yz ?_
  | (apply zai.of;assumption)
  | (refine zai.of (zg1 g _ _) ?_)
  | (refine zai.of (ze4 g _ _) ?_)
  | (refine zcb.questions g rfl ?_)
  | (refine zcb.kinds g rfl ?_)
  | (refine Cmp.ff hne ?_)
  | (refine zrz.mk ⟨_,hq,?_⟩)
  | (refine zrz.mk ⟨_,hfk,?_⟩)
  | (exact⟨rfl,rfl,rfl,rfl,rfl,rfl,trivial⟩)
  | fail)
theorem yvz (ev:List Evt) (r:Rgs) (ho:OkR r) (hrs:r.rs.length<1000) (hev:ev.length<=1000) (text:List UInt8) (hl:text.length<=4096) (hne:text≠[]) (hq:zkj (.str (hdW text)) qsM=some none) (hk:zfs (hdW text)=true)
  (hb:((zxb text).getD noE).ns.length<=1000000/\((zxb text).getD noE).vs.length<=1000000):
  Ui E zag [.ptr ⟨0,0,0⟩ 0 0,S text] (mR zaa ev r) (if yjr r ev.length (zxb text)=0 then Aqv (z5h ev.length,0) else Aqv ([],yjr r ev.length (zxb text)))
   (if yjr r ev.length (zxb text)=0 then mR zaa (ev++[z1s ((zxb text).getD noE) ev.length]) (zq5 r (z1s ((zxb text).getD noE) ev.length)) else mR zaa ev r):=by
 refine⟨?_⟩
 obtain⟨q,b,hcut⟩:=ymp g text (by omega)
 obtain⟨fa,fb,hfk⟩:=yk5 hk
 have hps:=ye2 g text (by omega)
 change Fc E zgn [S text] (.tup [Evv ((zxb text).getD noE),B (zxb text).isSome]) at hps
 generalize hdW text=nm at *
 have hpos:0<text.length:=List.length_pos_iff.2 hne
 generalize zxb text=o at *
 cases o with
 | none=>
  have hbd:yjr r ev.length none=25:=rfl
  rw [hbd,if_neg (show ¬(25:Int)=0 by decide),if_neg (show ¬(25:Int)=0 by decide)]
  change Fc E zgn [S text] (.tup [.d (.agg [DI 0,.str [],.list 0 [],.list 0 [],.str []]),B false]) at hps
  by_cases hfull:1000<=ev.length
  ·refine In.enter (f:=zag) g.lim rfl rfl ?_
   repeat' ((conv=>whnf);first
   | refine Yz ?_
    | (apply zai.of;assumption)
    | (refine zai.of (zg1 g _ _) ?_)
    | (refine zai.of (ze4 g _ _) ?_)
    | (refine zcb.questions g rfl ?_)
    | (refine zcb.kinds g rfl ?_)
    | (refine Cmp.ff hne ?_)
    | (refine zrz.mk ⟨_,hq,?_⟩)
    | (refine zrz.mk ⟨_,hfk,?_⟩)
    | (exact⟨rfl,rfl,rfl,rfl,rfl,rfl,trivial⟩)
    | fail)
  ·refine In.enter (f:=zag) g.lim rfl rfl ?_
   repeat' ((conv=>whnf);first
   | refine Yz ?_
    | (apply zai.of;assumption)
    | (refine zai.of (zg1 g _ _) ?_)
    | (refine zai.of (ze4 g _ _) ?_)
    | (refine zcb.questions g rfl ?_)
    | (refine zcb.kinds g rfl ?_)
    | (refine Cmp.ff hne ?_)
    | (refine zrz.mk ⟨_,hq,?_⟩)
    | (refine zrz.mk ⟨_,hfk,?_⟩)
    | (exact⟨rfl,rfl,rfl,rfl,rfl,rfl,trivial⟩)
    | fail)
 | some p=>
 change p.ns.length<=1000000/\p.vs.length<=1000000 at hb
 have hce:=zuo g (z1s p ev.length) hb.1 hb.2
 have hqa:=fun hc=>yb5 g zaa ev r ho (z1s p ev.length) hc (by omega)
 have hua:=fun hs=>yvy g zaa ev r ho hrs (z1s p ev.length) hs hev
 have hit:=z7k g ((ev.length:Int)+1) (by omega)
 have hdl:=zsj 20 ((ev.length:Int)+1).toNat
 have hmx:zrm=9223372036854775807:=rfl
 have hst:zml (z1s p ev.length)=0->zia r ev.length (z1s p ev.length)=yac r ev.length (z1s p ev.length):=fun h=>by rw [zia,if_neg (fun hn=>hn h)]
 have hbe:yjr r ev.length (some p)=if zb5 [0,if 1000<=ev.length then 5 else 0]≠0 then zb5 [0,if 1000<=ev.length then 5 else 0] else if zml (z1s p ev.length)≠0 then zml (z1s p ev.length) else yac r ev.length (z1s p ev.length):=rfl
 have hgd:(some p).getD noE=p:=rfl
 rw [hgd]
 have hdt:Aqv (z5h ev.length,0)= .tup [S ([100,111,110,101,32]++zau 20 ((ev.length:Int)+1).toNat),I 0]:=rfl
 rw [hdt]
 generalize hbb:yjr r ev.length (some p)=bb at *
 obtain⟨nu,ki,ns,vs,tx⟩:=p
 change Fc E zgn [S text] (.tup [.d (.agg [DI nu,.str ki,.list ns.length (ns.map D.str),.list vs.length (vs.map DI),.str tx]),B true]) at hps
 change Fc E zdf [.d (.agg [DI ((ev.length:Int)+1),.str ki,.list ns.length (ns.map D.str),.list vs.length (vs.map DI),.str tx])] _ at hce
 change ∀hc,Qs E zap [.ptr ⟨0,0,0⟩ 0 0,.d (.agg [DI ((ev.length:Int)+1),.str ki,.list ns.length (ns.map D.str),.list vs.length (vs.map DI),.str tx])] _ _ at hqa
 change ∀hs,Us E zaf [.ptr ⟨0,0,0⟩ 0 0,.d (.agg [DI ((ev.length:Int)+1),.str ki,.list ns.length (ns.map D.str),.list vs.length (vs.map DI),.str tx])] _ _ _ at hua
 by_cases hfull:1000<=ev.length
 ·have hbd:bb=5:=by rw [hbe,if_pos hfull];rfl
  clear hbe hbb
  subst hbd
  rw [if_neg (show ¬(5:Int)=0 by decide),if_neg (show ¬(5:Int)=0 by decide)]
  refine In.enter (f:=zag) g.lim rfl rfl ?_
  repeat' ((conv=>whnf);first
  | refine Yz ?_
   | (apply zai.of;assumption)
   | (refine zai.of (zg1 g _ _) ?_)
   | (refine zai.of (ze4 g _ _) ?_)
   | (refine zcb.questions g rfl ?_)
   | (refine zcb.kinds g rfl ?_)
   | (refine Cmp.ff hne ?_)
   | (refine zrz.mk ⟨_,hq,?_⟩)
   | (refine zrz.mk ⟨_,hfk,?_⟩)
   | (exact⟨rfl,rfl,rfl,rfl,rfl,rfl,trivial⟩)
   | fail)
 rw [if_neg hfull,if_neg (show ¬zb5 [0,0]≠0 by decide)] at hbe
 generalize z1s ⟨nu,ki,ns,vs,tx⟩ ev.length=e' at *
 by_cases hc:zml e'=0
 ·rw [hc,if_neg (fun h=>h rfl)] at hbe
  rw [hc] at hce
  have hqa:=hqa hc
  rw [<-hbe] at hqa
  have hst:=hst hc
  clear hbb
  by_cases ha:bb=0
  ·rw [if_pos ha,if_pos ha]
   have hua:=hua (hst.trans (hbe.symm.trans ha))
   rw [ha] at hqa
   refine In.enter (f:=zag) g.lim rfl rfl ?_
   repeat' ((conv=>whnf);first
   | refine Yz ?_
    | (apply zai.of;assumption)
    | (refine zai.of (zg1 g _ _) ?_)
    | (refine zai.of (ze4 g _ _) ?_)
    | (refine zcb.questions g rfl ?_)
    | (refine zcb.kinds g rfl ?_)
    | (refine Cmp.ff hne ?_)
    | (refine zrz.mk ⟨_,hq,?_⟩)
    | (refine zrz.mk ⟨_,hfk,?_⟩)
    | (refine zlp.of (r':=I 0) isR rfl rfl rfl rfl hqa rfl rfl rfl ?_)
    | (refine zcp.mk (by rw [hmx];simp only [List.length_cons,List.length_nil];omega) ?_)
    | (refine zpg.of (r':= .tup []) isR rfl rfl rfl rfl hua rfl rfl rfl ?_)
    | (refine Cmp.ff (fun h=>h rfl) ?_)
    | (exact⟨rfl,rfl,rfl,rfl,rfl,rfl,trivial⟩)
    | fail)
  ·rw [if_neg ha,if_neg ha]
   refine In.enter (f:=zag) g.lim rfl rfl ?_
   repeat' ((conv=>whnf);first
   | refine Yz ?_
    | (apply zai.of;assumption)
    | (refine zai.of (zg1 g _ _) ?_)
    | (refine zai.of (ze4 g _ _) ?_)
    | (refine zcb.questions g rfl ?_)
    | (refine zcb.kinds g rfl ?_)
    | (refine Cmp.ff hne ?_)
    | (refine zrz.mk ⟨_,hq,?_⟩)
    | (refine zrz.mk ⟨_,hfk,?_⟩)
    | (refine zlp.of (r':=I bb) isR rfl rfl rfl rfl hqa rfl rfl rfl ?_)
    | (refine Cmp.tt ha ?_)
    | (exact⟨rfl,rfl,rfl,rfl,rfl,rfl,trivial⟩)
    | fail)
 ·rw [if_pos hc] at hbe
  rw [<-hbe] at hce hc
  clear hbb
  rw [if_neg hc,if_neg hc]
  refine In.enter (f:=zag) g.lim rfl rfl ?_
  repeat' ((conv=>whnf);first
  | refine Yz ?_
   | (apply zai.of;assumption)
   | (refine zai.of (zg1 g _ _) ?_)
   | (refine zai.of (ze4 g _ _) ?_)
   | (refine zcb.questions g rfl ?_)
   | (refine zcb.kinds g rfl ?_)
   | (refine Cmp.ff hne ?_)
   | (refine zrz.mk ⟨_,hq,?_⟩)
   | (refine zrz.mk ⟨_,hfk,?_⟩)
   | (refine Cmp.tt hc ?_)
   | (refine Cmp.ff hc ?_)
   | (exact⟨rfl,rfl,rfl,rfl,rfl,rfl,trivial⟩)
   | fail)
end
def yf9 (l:List Evt) (t:List UInt8):(List UInt8×Int)×List Evt:=
 if t=[] then(([],25),l)
 else if zfs (hdW t)=false then(ys0 (rgL l) t,l)
 else if yjr (rgL l) l.length (zxb t)=0 then((z5h l.length,0),l++[z1s ((zxb t).getD noE) l.length])
 else(([],yjr (rgL l) l.length (zxb t)),l)
theorem yj6 (r:Rgs) (n:Nat):yjr r n none=25:=rfl
theorem yag {r:Rgs} {n:Nat} (hn:n<1000) (p:Evt):yjr r n (some p)=if zml (z1s p n)≠0 then zml (z1s p n) else yac r n (z1s p n):=by
 unfold yjr
 rw [if_neg (show ¬ 1000<=n by omega)]
 rfl
theorem ysa {t:List UInt8}:((zxb t).getD noE).ns.length<=3/\((zxb t).getD noE).vs.length<=4:=by
 cases h:zxb t with
 | none=>exact⟨by decide,by decide⟩
 | some p=>
  unfold zxb at h
  split at h
  ·cases h
  ·rename_i k r hp
   split at h
   ·obtain rfl:=Option.some.inj h
    rename_i hok
    have ⟨g1,g2⟩:=z3m k
    unfold ydc at hok
    simp only [Bool.and_eq_true,decide_eq_true_eq] at hok
    have:=hok.1.1.2
    unfold evW
    simp only [Option.getD_some,List.length_take,List.length_map,List.length_drop]
    omega
   ·cases h
section
variable {E : Oracle} (g : Good E)
include g
theorem z0m (l:List Evt) (hl:l.length<999) (hz:erL l=0) (hnm:NmR (rgL l)) (hrs:(rgL l).rs.length<1000) (text:List UInt8) (ht:text.length<=4096):
  Ui E zag [.ptr ⟨0,0,0⟩ 0 0,S text] (mR zaa l (rgL l)) (Aqv (yf9 l text).1) (mR zaa (yf9 l text).2 (rgL (yf9 l text).2)):=by
 have ho:=z7j (by omega) hz
 unfold yf9
 by_cases hne:text=[]
 ·subst hne
  rw [if_pos rfl]
  exact yv1 g l (rgL l)
 rw [if_neg hne]
 cases hk:zfs (hdW text) with
 | false=>
  rw [if_pos rfl]
  show Ui E _ _ _ (Aqv (ys0 (rgL l) text)) _
  unfold ys0
  by_cases h1:hdW text=yk3
  ·rw [if_pos h1]
   exact ynm g l (rgL l) text ht hne yk3 h1 4 2 zbt _ rfl (yum g l (rgL l) ho text (by omega))
  rw [if_neg h1]
  by_cases h2:hdW text=z84
  ·rw [if_pos h2]
   exact ynm g l (rgL l) text ht hne z84 h2 3 2 zbu _ rfl (yun g l (rgL l) ho hnm text (by omega))
  rw [if_neg h2]
  by_cases h3:hdW text=zh7
  ·rw [if_pos h3]
   exact ynm g l (rgL l) text ht hne zh7 h3 2 1 zbv _ rfl (yuo g l (rgL l) ho hnm text (by omega))
  rw [if_neg h3]
  by_cases h4:hdW text=ybj
  ·rw [if_pos h4]
   exact ynm g l (rgL l) text ht hne ybj h4 2 0 zbw _ rfl (yup g l (rgL l) ho hnm text (by omega))
  rw [if_neg h4]
  by_cases h5:hdW text=yk2
  ·rw [if_pos h5]
   exact ynm g l (rgL l) text ht hne yk2 h5 1 0 zcd _ rfl (yuq g l (rgL l) ho hnm text (by omega))
  rw [if_neg h5]
  exact yv0 g l (rgL l) text ht hne (yl8 ⟨h1,h2,h3,h4,h5⟩) hk
 | true=>
  rw [if_neg (by decide)]
  have hq:zkj (.str (hdW text)) qsM=some none:=by
   refine yl8 ⟨?_,?_,?_,?_,?_⟩<;>intro h<;>rw [h] at hk<;>exact absurd hk (by decide)
  obtain⟨b1,b2⟩:=ysa (t:=text)
  have h:=yvz g l (rgL l) ho hrs (by omega) text ht hne hq hk ⟨Nat.le_trans b1 (by decide),Nat.le_trans b2 (by decide)⟩
  by_cases hb0:yjr (rgL l) l.length (zxb text)=0
  ·rw [if_pos hb0,if_pos hb0] at h
   rw [if_pos hb0]
   have hr:rgL (l++[z1s ((zxb text).getD noE) l.length])=zq5 (rgL l) (z1s ((zxb text).getD noE) l.length):=by
    cases hpe:zxb text with
    | none=>rw [hpe,yj6] at hb0;exact absurd hb0 (by decide)
    | some p=>
     rw [hpe,yag (by omega)] at hb0
     have hst:zia (rgL l) l.length (z1s p l.length)=0:=hb0
     unfold rgL
     rw [zun,if_neg (show ¬(zdb rg0 0 l).2.2≠0 from fun h=>h hz),Nat.zero_add]
     show (zdb (rgL l) l.length [z1s p l.length]).1=_
     rw [zej,if_neg (fun h=>h hst)]
     rfl
   rw [hr]
   exact h
  ·rw [if_neg hb0,if_neg hb0] at h
   rw [if_neg hb0]
   exact h
end
def yiy (l:List Evt) (at0:Nat):List (List UInt8)->List Evt×Nat×Int
 | []=>(l,at0,0)
 | p::r=>if zm1 p=false then(l,at0,28) else if ydd (ydq p) l.length≠0 then(l,at0,ydd (ydq p) l.length) else yiy (l++[(z7i (ydq p)).1]) (at0+p.length) r
def yu5 (s:List UInt8):List Evt×Nat×Int:=if 1000000<s.length then([],0,26) else yiy [] 0 (pcs s)
abbrev RcV (o:List Evt×Nat×Int):V:= .tup [LE o.1,I (o.2.1:Nat),I o.2.2]
theorem yca {l:List Evt} {i:Nat} {s:List UInt8} (h:s≠[]) (hn:(10:UInt8)∉s):yiy l i (pcs s)=(l,i,28):=by
 have hw:zm1 s=false:=decide_eq_false fun e=>by
  obtain⟨t,e⟩:=List.getLast?_eq_some_iff.1 e
  exact hn (by rw [e];simp)
 rw [yev s h hn,yiy,if_pos hw]
theorem yb9 {l:List Evt} {i:Nat} {a r:List UInt8} (hn:(10:UInt8)∉a):yiy l i (pcs (a++10::r))=if ydd a l.length≠0 then(l,i,ydd a l.length) else yiy (l++[(z7i a).1]) (i+(a.length+1)) (pcs r):=by
 rw [yl3 a r hn,yiy,(z2j _).1,(z2j _).2,if_neg (by decide)]
 simp
theorem ykp {k:List UInt8} (h:zfs k=true):1<=zea k/\1<=zmo k:=by
 rcases zks k with rfl|rfl|rfl|rfl|rfl|rfl|⟨h1,h2,h3,h4,h5,h6⟩
 all_goals (try (exact⟨by decide,by decide⟩))
 exfalso
 unfold zfs at h
 simp only [Bool.or_eq_true,decide_eq_true_eq] at h
 rcases h with((((h|h)|h)|h)|h)|h
 ·exact h1 h
 ·exact h2 h
 ·exact h3 h
 ·exact h4 h
 ·exact h5 h
 ·exact h6 h
theorem yox (e:Evt):zpf [e]=zms e++[10]:=by unfold zpf;simp
theorem z4w {l:List (List UInt8)} {m:Nat} (h:∀x∈l,x.length<=m):(zpc l).length<=l.length*(m+1):=by
 induction l with
 | nil=>simp [zpc]
 | cons x r ih=>
  have:=h x (by simp)
  have ih:=ih fun y hy=>h y (by simp [hy])
  unfold zpc at ih ⊢
  rw [List.flatMap_cons,List.length_append,List.length_cons,List.length_cons,Nat.succ_mul]
  omega
structure ytc (e:Evt):Prop where
 ki:e.ki.length<=60
 ns:e.ns.length<=6
 vs:e.vs.length<=8
 na:∀x∈e.ns,x.length<=60
theorem yrd {e:Evt} (h:zml e=0):(1<=e.nu/\e.nu<=1000)/\zfs e.ki=true/\e.ns.length=zea e.ki/\e.vs.length=zmo e.ki/\far e.vs=false:=by
 unfold zml at h
 rw [zit] at h
 have h1:=h (rng e.nu 1 1000) (by simp)
 have h2:=h (if !zfs e.ki then 13 else 0) (by simp)
 have h3:=h (if e.ns.length≠zea e.ki\/e.vs.length≠zmo e.ki then 2 else 0) (by simp)
 have h5:=h (if far e.vs then 3 else 0) (by simp)
 refine⟨?_,?_,?_,?_,?_⟩
 ·unfold rng at h1
  split at h1
  ·cases h1
  ·omega
 ·cases hk:zfs e.ki with
  | true=>rfl
  | false=>rw [hk] at h2;cases h2
 ·split at h3
  ·cases h3
  ·omega
 ·split at h3
  ·cases h3
  ·omega
 ·cases hk:far e.vs with
  | false=>rfl
  | true=>rw [hk] at h5;cases h5
theorem ypt {e:Evt} (hs:ytc e) (h:zml e=0):PrE e/\(zy3 e).length<=1000:=by
 obtain⟨h1,h2,h3,h4,h5⟩:=yrd h
 have ⟨f1,f2⟩:=ykp h2
 obtain⟨s1,s2,s3,s4⟩:=hs
 have hva:∀x∈e.vs,0<=x/\x<=999999999:=fun x hx=>by
  unfold far at h5
  rw [List.any_eq_false] at h5
  have:=h5 x hx
  unfold yoh at this
  simp only [decide_eq_true_eq] at this
  omega
 have hln:(zy3 e).length<=1000:=by
  rw [yh8]
  have t1:=z4w s4
  have t2:(zpc (e.vs.map zfy)).length<=e.vs.length*21:=by
   have:=z4w (l:=e.vs.map zfy) (m:=20) fun x hx=>by
    obtain⟨y,_,rfl⟩:=List.mem_map.1 hx
    exact yf8 y
   rwa [List.length_map] at this
  have t3:=yf8 e.nu
  have t4:e.ns.length*(60+1)<=6*61:=Nat.mul_le_mul_right _ s2
  have t5:e.vs.length*21<=8*21:=Nat.mul_le_mul_right _ s3
  simp only [List.length_append,List.length_cons,List.length_nil]
  omega
 exact⟨⟨by omega,by omega,by omega,hva,by omega⟩,hln⟩
theorem yht:∀(l:List Evt) (r:Rgs) (n:Nat),(zdb r n l).1.rs.length<=r.rs.length+l.length
 | [],r,n=>Nat.le_refl _
 | e::l,r,n=>by
  rw [zej]
  split
  ·simp [rg0]
  ·have h1:=yht l (zq5 r e) (n+1)
   have h2:=yfw r e
   rw [List.length_cons]
   omega
theorem yhw (l:List Evt):(rgL l).rs.length<=l.length:=by
 have:=yht l rg0 0
 have e:(rgL l)=(zdb rg0 0 l).1:=rfl
 rw [e]
 simpa [rg0] using this
theorem yop {k:List UInt8} (h:zfs k=true):k.length<=60:=by
 rcases zks k with rfl|rfl|rfl|rfl|rfl|rfl|⟨h1,h2,h3,h4,h5,h6⟩
 all_goals (try (exact(by decide)))
 exfalso
 unfold zfs at h
 simp only [Bool.or_eq_true,decide_eq_true_eq] at h
 rcases h with((((h|h)|h)|h)|h)|h
 ·exact h1 h
 ·exact h2 h
 ·exact h3 h
 ·exact h4 h
 ·exact h5 h
 ·exact h6 h
theorem yat {e:Evt} (h:zml e=0):PrE e/\(zy3 e).length<=1000:=by
 obtain⟨a1,a2,a3,a4,_⟩:=zs3 h
 have ⟨f1,f2⟩:=z3m e.ki
 exact ypt ⟨yop a1,by omega,by omega,fun x hx=>Nat.le_trans (yef (a4 x hx)) (by decide)⟩ h
theorem zsk {l:List Evt} (hz:erL l=0):∀e∈l,zml e=0:=ycc l rg0 0 hz
theorem z6i {l:List Evt} (hz:erL l=0):∀e∈l,PrE e:=fun e he=>(yat (zsk hz e he)).1
theorem z6h {l:List Evt} (hz:erL l=0):NmR (rgL l):=yhq l rg0 0 yty hz
theorem ytj {l:List Evt} (hz:erL l=0):∀e∈l,e.ns.length<=1000000/\e.vs.length<=1000000:=fun e he=>by
 obtain⟨_,a2,a3,_⟩:=zs3 (zsk hz e he)
 have ⟨f1,f2⟩:=z3m e.ki
 omega
theorem yd7:∀(l:List Evt),(∀e∈l,(zy3 e).length<=1000)->(zpf l).length<=l.length*1009
 | [],_=>by simp [zpf]
 | e::r,h=>by
  have ih:=yd7 r fun x hx=>h x (List.mem_cons_of_mem _ hx)
  have h1:=h e (by simp)
  have e1:zpf (e::r)=(zms e++[10])++zpf r:=rfl
  rw [e1,List.length_append,List.length_append,yov,List.length_singleton,List.length_cons,Nat.succ_mul]
  omega
theorem ydv {l:List Evt} (hl:l.length<=900) (hz:erL l=0):(zpf l).length<=1000000:=by
 have:=yd7 l fun e he=>(yat (zsk hz e he)).2
 omega
theorem z9c {n:Nat} (h:n<=9):48<=(UInt8.ofNat (48+n)).toNat/\(UInt8.ofNat (48+n)).toNat<=57:=by
 have:(UInt8.ofNat (48+n)).toNat=48+n:=by
  rw [UInt8.toNat_ofNat']
  omega
 omega
theorem z6d:∀(f u:Nat),∀b∈zau f u,48<=b.toNat/\b.toNat<=57
 | 0,_,b,h=>by cases h
 | f+1,u,b,h=>by
  unfold zau at h
  split at h
  ·rw [List.mem_singleton] at h
   subst h
   exact z9c (by omega)
  ·rcases List.mem_append.1 h with h|h
   ·exact z6d f _ b h
   ·rw [List.mem_singleton] at h
    subst h
    exact z9c (by omega)
theorem z94:∀(k:Nat) (n:Int),∀b∈z1z k n,48<=b.toNat/\b.toNat<=57
 | 0,_,b,h=>by cases h
 | k+1,n,b,h=>by
  unfold z1z at h
  rcases List.mem_append.1 h with h|h
  ·exact z94 k _ b h
  ·rw [List.mem_singleton] at h
   subst h
   exact z9c (by omega)
theorem zz7 {b:UInt8} (hb:b.toNat<48) (n:Int):b∉zfy n:=fun h=>by
 have:=z6d 20 n.toNat b h
 omega
theorem yo4 {b:UInt8} (hb:b.toNat<48) {s:List UInt8} (h:zcj s=true):b∉s:=fun hm=>by
 obtain⟨_,_,h3⟩:=of_decide_eq_true h
 obtain⟨i,hi,e⟩:=List.mem_iff_getElem.1 hm
 have:=h3 i hi
 have e2:s.getD i 0=b:=by simp [List.getD,hi,e]
 rw [e2] at this
 unfold ydb at this
 omega
theorem yo3 {b:UInt8} (hb:b.toNat<48) {k:List UInt8} (h:zfs k=true):b∉k:=by
 have key:∀k':List UInt8,(k'.all fun c=>decide (48<=c.toNat))=true->b∉k':=fun k' hk hm=>by
  have:=List.all_eq_true.1 hk b hm
  simp only [decide_eq_true_eq] at this
  omega
 rcases zks k with rfl|rfl|rfl|rfl|rfl|rfl|⟨h1,h2,h3,h4,h5,h6⟩
 all_goals (try (exact key _ (by decide)))
 exfalso
 unfold zfs at h
 simp only [Bool.or_eq_true,decide_eq_true_eq] at h
 rcases h with((((h|h)|h)|h)|h)|h
 ·exact h1 h
 ·exact h2 h
 ·exact h3 h
 ·exact h4 h
 ·exact h5 h
 ·exact h6 h
theorem ybv {b:UInt8} (hb:b.toNat<48) {e:Evt} (h:zml e=0):∀w∈e.ki::(e.ns++e.vs.map zfy),b∉w:=fun w hw=>by
 obtain⟨a1,_,_,a4,_⟩:=zs3 h
 rcases List.mem_cons.1 hw with rfl|hw
 ·exact yo3 hb a1
 ·rcases List.mem_append.1 hw with hw|hw
  ·exact yo4 hb (a4 w hw)
  ·obtain⟨n,_,rfl⟩:=List.mem_map.1 hw
   exact zz7 hb n
theorem z66 {b c:UInt8} (hbc:b≠c):∀l:List (List UInt8),(∀w∈l,b∉w)->b∉zjj c l
 | [],_=>List.not_mem_nil
 | [x],h=>h x (by simp)
 | x::y::r,h=>by
  have ih:=z66 hbc (y::r) fun w hw=>h w (List.mem_cons_of_mem _ hw)
  simp only [zjj,List.mem_append,List.mem_cons,not_or]
  exact⟨h x (by simp),hbc,ih⟩
theorem zn8 {n:Int} (h:0<=n/\n<=999999999):zrj (zfy n)=true/\z5j (zfy n)=n:=by
 have:=z33 h
 obtain⟨h1,h2⟩:=yrr this
 exact⟨h1,by rw [h2];omega⟩
theorem z0c {e:Evt} (h:zml e=0):parts 32 (zmf e)=e.ki::(e.ns++e.vs.map zfy):=
 z02 32 _ (by simp) (ybv (by decide) h)
theorem yb1 {e:Evt} (h:zml e=0):zxb (zmf e)=some {e with nu:=0}:=by
 obtain⟨a1,a2,a3,a4,a5,a6,_⟩:=zs3 h
 unfold zxb
 rw [z0c h]
 have hok:ydc e.ki (e.ns++e.vs.map zfy)=true:=by
  unfold ydc
  rw [a1,decide_eq_true (by rw [List.length_append,List.length_map];omega),<-a2,List.drop_left' rfl]
  have e1:¬ []∈e.ns++e.vs.map zfy:=fun hm=>by
   rcases List.mem_append.1 hm with hm|hm
   ·exact ylh (a4 _ hm) rfl
   ·obtain⟨n,hn,e⟩:=List.mem_map.1 hm
    exact absurd e (zuv 19 n.toNat)
  have e2:(e.vs.map zfy).all zrj=true:=by
   rw [List.all_eq_true]
   intro x hx
   obtain⟨n,hn,rfl⟩:=List.mem_map.1 hx
   exact(zn8 (a5 n hn)).1
  rw [decide_eq_false e1,e2]
  rfl
 dsimp only
 rw [if_pos hok]
 unfold evW
 rw [<-a2,List.take_left' rfl,List.drop_left' rfl,List.map_map]
 have e3:e.vs.map (z5j∘zfy)=e.vs:=by
  conv=>rhs;rw [<-List.map_id e.vs]
  exact List.map_congr_left fun n hn=>(zn8 (a5 n hn)).2
 rw [e3]
 obtain⟨nu,ki,ns,vs,tx⟩:=e
 dsimp only at a6
 subst a6
 rfl
theorem ynj {e:Evt} (h:zml e=0):yc4 (zy3 e)=some e:=by
 obtain⟨_,_,_,_,_,_,a7,a8⟩:=zs3 h
 have hd:=zn8 (n:=e.nu) (by omega)
 unfold yc4 zy3
 rw [zg8 32 (zmf e) (zfy e.nu) (zz7 (by decide) _),z0c h]
 dsimp only
 rw [if_pos hd.1,show zfy e.nu++32::zmf e=(zfy e.nu++[32])++zmf e by simp,List.drop_left' (by simp),yb1 h,hd.2]
 dsimp only
 rw [if_pos h]
theorem ynh (s:List UInt8):z04 (yp4 s)=true:=by
 unfold z04
 rw [z2h,Bool.and_eq_true]
 refine⟨rfl,?_⟩
 rw [List.all_eq_true]
 intro b hb
 exact decide_eq_true (z94 7 _ b hb)
theorem yb8 {e:Evt} (h:zml e=0):z7i (zms e)=(e,0):=by
 unfold zms
 rw [yhl (z2h _),if_neg (by rw [ynh];simp),if_neg (fun h=>h rfl),ynj h]
 rfl
theorem ylb {e:Evt} (h:zml e=0):(10:UInt8)∉zms e:=by
 unfold zms zy3 zmf
 simp only [List.mem_append,List.mem_cons,not_or]
 refine⟨⟨zz7 (by decide) _,by decide,z66 (by decide) _ (ybv (by decide) h)⟩,by decide,fun hm=> ?_⟩
 have:=z94 7 _ _ hm
 exact absurd this.1 (by decide)
def yuw:Nat->List Evt->Prop
 | _,[]=>True
 | n,e::r=>e.nu=n+1/\yuw (n+1) r
theorem yme {e:Evt} (h:zml e=0) (b:Int):ydd (zms e) b=if e.nu≠b+1 then 11 else 0:=by
 unfold ydd
 rw [yb8 h,if_neg (fun h=>h rfl)]
theorem ymf {e:Evt} (h:zml e=0) {b:Int} (hn:e.nu=b+1):ydd (zms e) b=0:=by
 rw [yme h,if_neg (fun h=>h hn)]
theorem ybn (e:Evt) (r:List Evt):zpf (e::r)=(zms e++[10])++zpf r:=rfl
theorem z9r:∀(l:List Evt) (r:Rgs) (n:Nat),(zdb r n l).2.2=0->yuw n l
 | [],_,_,_=>trivial
 | e::l,r,n,h=>by
  rw [zej] at h
  split at h
  ·rename_i h1;exact absurd h h1
  ·rename_i h1
   obtain⟨_,h2⟩:=zur (Classical.not_not.1 h1)
   exact⟨(z0p h2).1,z9r l _ _ h⟩
theorem ytz:∀(l:List Evt) (n:Nat),yuw n l->∀k,(hk:k<l.length)->l[k].nu=n+k+1
 | [],_,_,_,hk=>absurd hk (Nat.not_lt_zero _)
 | e::r,n,h,0,_=>by
  have:=h.1
  simpa using this
 | e::r,n,h,k+1,hk=>by
  have:=ytz r (n+1) h.2 k (by simpa using hk)
  simp only [List.getElem_cons_succ]
  omega
theorem zsl {l:List Evt} (hz:erL l=0) (k:Nat):erL (l.take k)=0:=by
 have h:=zun (l.take k) rg0 0 (l.drop k)
 rw [List.take_append_drop] at h
 unfold erL at hz ⊢
 by_cases h0:(zdb rg0 0 (l.take k)).2.2=0
 ·exact h0
 ·rw [if_pos h0] at h
  rw [h] at hz
  exact absurd hz h0
theorem yog {l:List Evt} (hz:erL l=0) {k:Nat} (hk:k<l.length):zia (rgL (l.take k)) k l[k]=0:=by
 have h:=zsl hz (k+1)
 rw [List.take_succ_eq_append_getElem hk] at h
 have h0:(zdb rg0 0 (l.take k)).2.2=0:=zsl hz k
 unfold erL at h
 rw [zun,if_neg (fun hn=>hn h0),Nat.zero_add,List.length_take,Nat.min_eq_left (by omega),zej] at h
 by_cases hs:zia (rgL (l.take k)) k l[k]=0
 ·exact hs
 ·have hs':zia (zdb rg0 0 (l.take k)).1 k l[k]≠0:=hs
  rw [if_pos hs'] at h
  exact absurd h hs
theorem yga {l:List Evt} (hl:l.length<=900) (hz:erL l=0) {k:Nat} (hk:k<l.length):yf9 (l.take k) (zmf l[k])=((z5h k,0),l.take (k+1)):=by
 have hc:=zsk hz _ (List.getElem_mem hk)
 have hs:=yog hz hk
 have hn:=ytz l 0 (z9r l rg0 0 hz) k hk
 have hlk:(l.take k).length=k:=by rw [List.length_take];omega
 have hp:=z0c hc
 have hh:hdW (zmf l[k])=l[k].ki:=by unfold hdW;rw [hp];rfl
 have hki:=(zs3 hc).1
 have hne:zmf l[k]≠[]:=fun e=>by
  rw [e] at hh
  have:hdW []=[]:=rfl
  rw [this] at hh
  rw [<-hh] at hki
  exact absurd hki (by decide)
 have hev:z1s ({l[k] with nu:=0}:Evt) k=l[k]:=by
  have e1:((k:Nat):Int)+1=l[k].nu:=by omega
  unfold z1s
  dsimp only
  rw [e1]
 unfold yf9
 rw [if_neg hne,hh,hki,if_neg (by decide),hlk,yb1 hc,yag (by omega),hev,Option.getD_some,hev]
 have h0:(if zml l[k]≠0 then zml l[k] else yac (rgL (l.take k)) k l[k])=0:=hs
 rw [h0,if_pos rfl,List.take_succ_eq_append_getElem hk]
def whE:List Evt->Nat->Nat
 | [],_=>0
 | e::r,c=>if(zms e).length+1<=c then whE r (c-((zms e).length+1))+1 else 0
theorem yqz:∀(l:List Evt) (c:Nat),whE l c<=l.length
 | [],_=>Nat.le_refl _
 | e::r,c=>by
  unfold whE
  split
  ·have:=yqz r (c-((zms e).length+1))
   rw [List.length_cons];omega
  ·exact Nat.zero_le _
theorem yhm:∀(l l0:List Evt) (i c:Nat),(∀e∈l,zml e=0)->yuw l0.length l->∃j x,yiy l0 i (pcs ((zpf l).take c))=(l0++l.take (whE l c),j,x)/\(x=0\/x=28)
 | [],l0,i,c,_,_=>⟨i,0,by simp [zpf,yew,yiy],.inl rfl⟩
 | e::r,l0,i,c,h,hn=>by
  have hc:=h e (by simp)
  unfold whE
  by_cases hle:(zms e).length+1<=c
  ·rw [if_pos hle]
   have e1:(zpf (e::r)).take c=zms e++10::(zpf r).take (c-((zms e).length+1)):=by
    rw [ybn,List.take_append,List.take_of_length_le (by simp;omega)]
    simp
   rw [e1,yb9 (ylb hc),if_neg (fun h=>h (ymf hc hn.1)),yb8 hc]
   obtain⟨j,x,h1,h2⟩:=yhm r (l0++[e]) (i+((zms e).length+1)) (c-((zms e).length+1)) (fun x hx=>h x (List.mem_cons_of_mem _ hx)) (by rw [List.length_append];exact hn.2)
   refine⟨j,x,?_,h2⟩
   rw [h1,List.take_succ_cons]
   simp
  ·rw [if_neg hle]
   have e1:(zpf (e::r)).take c=(zms e).take c:=by
    rw [ybn,List.append_assoc,List.take_append_of_le_length (by omega)]
   rw [e1]
   have hno:(10:UInt8)∉(zms e).take c:=fun hm=>ylb hc (List.mem_of_mem_take hm)
   by_cases h0:(zms e).take c=[]
   ·rw [h0,yew,yiy]
    exact⟨i,0,by simp,.inl rfl⟩
   ·rw [yca h0 hno]
    exact⟨i,28,by simp,.inr rfl⟩
theorem ypf {l:List Evt} (hl:l.length<=900) (hz:erL l=0) (c:Nat):∃j x,yu5 ((zpf l).take c)=(l.take (whE l c),j,x)/\(x=0\/x=28):=by
 obtain⟨j,x,h1,h2⟩:=yhm l [] 0 c (zsk hz) (z9r l rg0 0 hz)
 refine⟨j,x,?_,h2⟩
 unfold yu5
 have:=ydv hl hz
 rw [if_neg (by rw [List.length_take];omega),h1,List.nil_append]
section
variable {E : Oracle} (g : Good E)
include g
theorem ysj (s:List UInt8):In E 0 zi1 [S s] [] fun v m'=>v= .fn zd7 [] [.ptr ⟨0,1,0⟩ 0 0]/\m'=[(⟨0,1,0⟩,.cells zab [S s])]:=by
 refine In.enter (f:=zi1) g.lim rfl rfl ?_
 repeat' ((conv=>whnf);first
 | refine Yz ?_
  | (exact⟨rfl,rfl⟩))
theorem zcb.lines {s:List UInt8} {cx:Cx} {slot:Nat} {m:Mem} {K:V->Mem->Prop} (hf:Go.Evl.freeK cx.lv slot m=0) (h:K (.fn zd7 [] [.ptr ⟨cx.lv,slot,0⟩ 0 0]) (m++[(⟨cx.lv,slot,0⟩,.cells zab [S s])])):zcb E zi1 [S s] cx slot m K:=by
 obtain⟨v,m',h1,rfl,rfl⟩:=(ysj g s).got
 refine⟨_,_,(.fn zd7 [] [.ptr ⟨cx.lv,slot,0⟩ 0 0],m++[(⟨cx.lv,slot,0⟩,.cells zab [S s])]),h1,?_,h⟩
 unfold Go.Evl.settle
 rw [hf]
 rfl
theorem ymq (s0:List UInt8):Fc E zhw [S s0] (RcV (yu5 s0)):=by
 refine g.fn rfl rfl ?_
 unfold yu5
 by_cases hl0:1000000<s0.length
 ·rw [if_pos hl0]
  repeat' ((conv=>whnf);first
  | refine Yz ?_
   | (refine Ret.mk rfl)
   | fail)
 rw [if_neg hl0]
 repeat' ((conv=>whnf);first
 | refine Yz ?_
  | (refine zcb.lines g rfl ?_)
  | (refine In.enter (f:=zd7) g.lim rfl rfl ?_)
  | fail)
 refine zak.to (zak.by (σ:=List Evt×Nat×List UInt8) g (fun x=>x.1.length<=x.2.1/\x.2.1+x.2.2.length<=s0.length/\yiy x.1 x.2.1 (pcs x.2.2)=yiy [] 0 (pcs s0))
  (fun _=>[(0,.yld ⟨0,50,0⟩),(1,.ptr ⟨0,16,0⟩ 0 0)])
  (fun x=>[(⟨0,2,0⟩,.row false zad 5 0 []),(⟨0,2,1⟩,.cells zje [.ref ⟨0,2,0⟩ 0 0 0]),(⟨0,3,0⟩,.cells zci [I 0]),(⟨0,4,0⟩,.cells z08 [I 0]),(⟨0,5,0⟩,.row false zad 5 x.1.length (x.1.flatMap Evt.cells)),(⟨0,5,1⟩,.cells zje [.ref ⟨0,5,0⟩ 0 x.1.length x.1.length]),(⟨0,6,0⟩,.cells zci [I x.2.1]),(⟨0,16,0⟩,.cells zab [S x.2.2]),
   (⟨0,50,0⟩,.loop [(2,.ptr ⟨0,2,1⟩ 0 0),(3,.ptr ⟨0,3,0⟩ 0 0),(4,.ptr ⟨0,4,0⟩ 0 0),(14,B false),(5,.ptr ⟨0,5,1⟩ 0 0),(6,.ptr ⟨0,6,0⟩ 0 0),(16,.fn zd7 [] [.ptr ⟨0,16,0⟩ 0 0])] [17] zpx zpy 0 false false none)])
  (fun x=>x.2.2.length) ?_ ([],0,s0) ⟨Nat.le_refl _,by simp,rfl⟩) rfl rfl
 rintro⟨l,i,s⟩ ⟨h1,h2,h3⟩ ih
 simp only at h1 h2 h3 ih
 dsimp only
 have hml:(l.flatMap Evt.cells).length=l.length*5:=zae Evt.cells 5 evw l
 by_cases hs:s=[]
 ·subst hs
  rw [yew,yiy] at h3
  rw [<-h3]
  repeat' ((conv=>whnf);first
  | refine Yz ?_
   | (refine zcp.mk ⟨rfl,by decide⟩ ?_)
   | (refine Ret.mk ?_)
   | fail)
  rw [if_pos ⟨rfl,rfl⟩]
 ·rcases yl2 s hs with⟨hn,hp⟩|⟨a,r,hn,rfl,hp⟩
  ·have hw:zm1 s=false:=decide_eq_false fun e=>by
    obtain⟨t,e⟩:=List.getLast?_eq_some_iff.1 e
    exact hn (by rw [e];simp)
   have he:ydq s=s:=by unfold ydq;rw [hw];rfl
   rw [yca hs hn] at h3
   rw [<-h3]
   have hx:=yci g s
   rw [z0z s hn] at hx
   have hcut:=ymo g s (by omega)
   rw [hw,he] at hcut
   have hpos:s.length≠0:=fun e=>hs (List.length_eq_zero_iff.1 e)
   repeat' ((conv=>whnf);first
   | refine Yz ?_
    | (refine Rnd.enter g.lim ?_)
    | (refine zc2.at 0 (a.length+1) (by omega) (by omega) (by omega) ?_<;>(try dsimp only)<;>(rw [z95]))
    | (refine zc2.at (a.length+1) (a++10::r).length (by omega) (by omega) (by omega) ?_<;>(try dsimp only)<;>(rw [z96]))
    | (refine zc2.at 0 s.length (by omega) (by omega) (by omega) ?_<;>(try dsimp only)<;>(rw [yfq]))
    | (apply zai.of;assumption)
    | (refine zcp.mk ⟨rfl,by decide⟩ ?_)
    | (refine Ret.mk ?_)
    | fail)
   rw [if_pos ⟨rfl,rfl⟩]
  ·have hlen:(a++10::r).length=a.length+(r.length+1):=by simp
   have hlen1:(a++[10]).length=a.length+1:=by simp
   have hx:=yci g (a++10::r)
   rw [z0y a r hn] at hx
   have hcut:=ymo g (a++[10]) (by simp;omega)
   rw [(z2j _).1,(z2j _).2] at hcut
   rw [yb9 hn] at h3
   have hre:=yi3 g a (by omega) l.length (by omega)
   by_cases hz:ydd a l.length=0
   ·rw [if_neg (fun h=>h hz)] at h3
    rw [hz] at hre
    have ih:=ih (l++[(z7i a).1],i+(a.length+1),r) ⟨by simp only [List.length_append,List.length_cons,List.length_nil];omega,by dsimp only;omega,h3⟩ (by dsimp only;omega)
    simp only [List.length_append,List.length_cons,List.length_nil,List.flatMap_append,List.flatMap_cons,List.flatMap_nil] at ih
    have hie:((i+(a.length+1):Nat):Int)=(i:Int)+((a++[10]).length:Int):=by omega
    rw [hie] at ih
    generalize (z7i a).1=e at *
    obtain⟨nu,ki,ns,vs,tx⟩:=e
    simp only [Evt.cells] at ih
    repeat' ((conv=>whnf);first
    | refine Yz ?_
     | (refine Rnd.enter g.lim ?_)
     | (refine zc2.at 0 (a.length+1) (by omega) (by omega) (by omega) ?_<;>(try dsimp only)<;>(rw [z95]))
     | (refine zc2.at (a.length+1) (a++10::r).length (by omega) (by omega) (by omega) ?_<;>(try dsimp only)<;>(rw [z96]))
     | (refine zc2.at 0 s.length (by omega) (by omega) (by omega) ?_<;>(try dsimp only)<;>(rw [yfq]))
     | (apply zai.of;assumption)
     | (refine zcp.mk (by simp only [List.length_cons,List.length_nil];omega) ?_)
     | (refine zcp.mk ⟨rfl,by decide⟩ ?_)
     | (refine zak.to ih rfl rfl)
     | fail)
   ·rw [if_pos hz] at h3
    rw [<-h3]
    generalize (z7i a).1=e at *
    obtain⟨nu,ki,ns,vs,tx⟩:=e
    generalize ydd a l.length=x at *
    repeat' ((conv=>whnf);first
    | refine Yz ?_
     | (refine Rnd.enter g.lim ?_)
     | (refine zc2.at 0 (a.length+1) (by omega) (by omega) (by omega) ?_<;>(try dsimp only)<;>(rw [z95]))
     | (refine zc2.at (a.length+1) (a++10::r).length (by omega) (by omega) (by omega) ?_<;>(try dsimp only)<;>(rw [z96]))
     | (refine zc2.at 0 s.length (by omega) (by omega) (by omega) ?_<;>(try dsimp only)<;>(rw [yfq]))
     | (apply zai.of;assumption)
     | (refine Cmp.ff hz ?_)
     | (refine zcp.mk ⟨rfl,by decide⟩ ?_)
     | (refine Ret.mk ?_)
     | fail)
    rw [if_pos ⟨rfl,rfl⟩]
end
def yv7 (l:List Evt) (n:Nat):List Int:=(List.range n).map fun j=>((zpf (l.take (j+1))).length:Int)
theorem zgw.end {l:List Evt} {n:Nat} {i:Int} {K:D->Prop} (k:Nat) (hi:i=k) (h:k<n) (hk:K (DI ((zpf (l.take (k+1))).length:Int))):zgw ((yv7 l n).map DI) ((0+i.toNat)*1) K:=by
 subst hi
 refine⟨⟨_,?_,hk⟩⟩
 simp [yv7,h]
theorem ybo (l:List Evt) (k:Nat):(zpf (l.take k)).length<=(zpf l).length:=yrv l k
theorem ysu {s:List UInt8} (c:Nat):win s 0 (c-0)=s.take c:=by
 unfold win
 rw [List.drop_zero,Nat.sub_zero]
theorem ya3 {l:List Evt} {t:List UInt8} (hne:t≠[]) (hk:zfs (hdW t)=false):yf9 l t=(ys0 (rgL l) t,l):=by
 unfold yf9
 rw [if_neg hne,hk,if_pos rfl]
theorem z2o (l:List Evt) {m:Int} (hm:0<=m/\m<=99999):yf9 l (zh7++32::zfy m)=((ys8 (yf6 (rgL l) m),0),l):=by
 have hp:parts 32 (zh7++32::zfy m)=[zh7,zfy m]:=by
  rw [zg8 32 _ zh7 (by decide),zoa 32 _ (zz7 (by decide) m)]
 have hh:hdW (zh7++32::zfy m)=zh7:=by unfold hdW;rw [hp];rfl
 rw [ya3 (by simp) (by rw [hh];decide)]
 obtain⟨i1,i2⟩:=zn8 (n:=m) (by omega)
 unfold ys0
 rw [hh,if_neg (by decide),if_neg (by decide),if_pos rfl]
 unfold ydh
 have e1:[zh7,zfy m].drop (2-1)=[zfy m]:=rfl
 rw [hp,e1,yvl i1,i2,if_neg,if_neg]
 ·have e2:A3 (rgL l) [zh7,zfy m] [m]=(yf6 (rgL l) m,0):=by
   show z52 (rgL l) m=_
   unfold z52
   have:rng m 0 99999=0:=by unfold rng;rw [if_neg (by omega)]
   rw [this]
   rfl
  rw [e2,yj2]
 ·simp [z00,(zmr (zfy m)).1,i1]
 ·intro h
  rcases h with h|h
  ·exact h rfl
  ·simp only [List.mem_cons,List.not_mem_nil,or_false] at h
   rcases h with h|h
   ·exact absurd h (by decide)
   ·exact ykz i1 h.symm
theorem yf2 (l:List Evt) {k m:Int} (hk:0<=k/\k<=99999) (hm:0<=m/\m<=99999):yf9 l (z84++32::(zfy k++32::zfy m))=((ys8 ((z9v (rgL l) k m).map ycr),0),l):=by
 have hp:parts 32 (z84++32::(zfy k++32::zfy m))=[z84,zfy k,zfy m]:=by
  rw [zg8 32 _ z84 (by decide),zg8 32 _ (zfy k) (zz7 (by decide) k),zoa 32 _ (zz7 (by decide) m)]
 have hh:hdW (z84++32::(zfy k++32::zfy m))=z84:=by unfold hdW;rw [hp];rfl
 rw [ya3 (by simp) (by rw [hh];decide)]
 obtain⟨i1,i2⟩:=zn8 (n:=m) (by omega)
 obtain⟨j1,j2⟩:=zn8 (n:=k) (by omega)
 unfold ys0
 rw [hh,if_neg (by decide),if_pos rfl]
 unfold ydh
 have e1:[z84,zfy k,zfy m].drop (3-2)=[zfy k,zfy m]:=rfl
 rw [hp,e1,yvm j1 i1,i2,j2,if_neg,if_neg]
 ·have e2:A2 (rgL l) [z84,zfy k,zfy m] [k,m]=((z9v (rgL l) k m).map ycr,0):=by
   show z54 (rgL l) k m=_
   unfold z54
   have h1:rng k 0 99999=0:=by unfold rng;rw [if_neg (by omega)]
   have h2:rng m 0 99999=0:=by unfold rng;rw [if_neg (by omega)]
   rw [h1,h2]
   rfl
  rw [e2,yj2]
 ·simp [z00,(zmr (zfy m)).1,(zmr (zfy k)).1,i1,j1]
 ·intro h
  rcases h with h|h
  ·exact h rfl
  ·simp only [List.mem_cons,List.not_mem_nil,or_false] at h
   rcases h with h|h|h
   ·exact absurd h (by decide)
   ·exact ykz j1 h.symm
   ·exact ykz i1 h.symm
theorem yno (e:Evt):win (zy3 e) ((zfy e.nu).length+1) ((zy3 e).length-((zfy e.nu).length+1))=zmf e:=by
 have h:zy3 e=(zfy e.nu++[32])++zmf e:=by simp [zy3]
 unfold win
 rw [h,List.drop_left' (by simp),List.take_of_length_le (by simp;omega)]
section
variable {E : Oracle} (g : Good E)
include g
theorem yqp (e:Evt) (h:PrE e):Fc E ziy [Evv e] (S (zmf e)):=by
 have hb:=yt8 g e h
 have ht:=z2b g e.nu h.nu
 have hw:=yno e
 have hl:=zy4 e
 have hd:=zsj 20 e.nu.toNat
 have hd2:(zfy e.nu).length<=20:=hd
 generalize zmf e=bo at *
 generalize zy3 e=tx at *
 obtain⟨nu,ki,ns,vs,tx'⟩:=e
 dsimp only at *
 change Fc E zmw [.d (.agg [DI nu,.str ki,.list ns.length (ns.map D.str),.list vs.length (vs.map DI),.str tx'])] _ at hb
 change Fc E ziy [.d (.agg [DI nu,.str ki,.list ns.length (ns.map D.str),.list vs.length (vs.map DI),.str tx'])] _
 refine g.fn rfl rfl ?_
 repeat' ((conv=>whnf);first
 | refine Yz ?_
  | (apply zai.of;assumption)
  | (refine zc2.at ((zfy nu).length+1) tx.length (by omega) (by omega) (by omega) ?_;dsimp only;rw [hw])
  | (refine Ret.mk rfl)
  | fail)
end
def zg2 (l:List Evt) (n:Nat):Int:=if h:n<l.length then vlN l[n] 0-1 else(rgL l).kn
theorem yl1 {l:List Evt} (hz:erL l=0) (n:Nat):∀e∈l.drop n,n<l.length->zg2 l n<vlN e 0:=by
 intro e he hn
 obtain⟨hp,_⟩:=z0g l rg0 0 hz
 obtain⟨i,hi,rfl⟩:=List.getElem_of_mem he
 have hi':n+i<l.length:=by rw [List.length_drop] at hi;omega
 rw [List.getElem_drop]
 have:vlN l[n] 0<=vlN l[n+i] 0:=by
  by_cases h0:i=0
  ·subst h0;exact Int.le_refl _
  ·have:=List.pairwise_iff_getElem.1 hp n (n+i) (by simpa using hn) (by simpa using hi') (by omega)
   simpa using this
 unfold zg2
 rw [dif_pos hn]
 omega
theorem yhe {l:List Evt} (hz:erL l=0) (n:Nat):Lat (rgL (l.take n)) (rgL l) (zg2 l n):=by
 by_cases hn:n<l.length
 ·obtain⟨_,h2⟩:=ymh n hz
  have h3:=ycd (l.drop n) (rgL (l.take n)) (l.take n).length (F:=zg2 l n) (by rw [h2];exact hz) fun e he=>yl1 hz n e he hn
  rw [h2] at h3
  exact h3
 ·rw [List.take_of_length_le (by omega)]
  exact Lat.refl _ _
theorem ysc {l:List Evt} (hz:erL l=0) (n:Nat): -1<=zg2 l n/\zg2 l n<=99999:=by
 obtain⟨_,hp⟩:=z0g l rg0 0 hz
 unfold zg2
 split
 ·rename_i hn
  obtain⟨h1,h2⟩:=hp (vlN l[n] 0) (List.mem_map.2 ⟨l[n],List.getElem_mem hn,rfl⟩)
  have:rg0.kn=0:=rfl
  omega
 ·have:=z9q l rg0 0 hz (by decide)
  unfold rgL
  omega
theorem yeu {l:List Evt} (hl:l.length<=999) (hz:erL l=0) (n:Nat):yf6 (rgL (l.take n)) (zg2 l n)=yf6 (rgL l) (zg2 l n):=
 (yoa (z7j (by rw [List.length_take];omega) (zsl hz n)) (z7j (by omega) hz) (yhe hz n)).symm
theorem yo8 {l:List Evt} (hl:l.length<=999) (hz:erL l=0) (n:Nat) (d:Int):z9v (rgL (l.take n)) (zg2 l n) d=z9v (rgL l) (zg2 l n) d:=
 (ypv (z7j (by rw [List.length_take];omega) (zsl hz n)) (z7j (by omega) hz) (yhe hz n) d).symm
def ypg (n:Nat):List (List UInt8):=(List.range n).map z5h
theorem yph (n:Nat):((ypg n).map D.str).length=n*1:=by simp [ypg]
theorem ymi (n:Nat):(ypg (n+1)).map D.str=(ypg n).map D.str++[D.str (z5h n)]:=by
 unfold ypg
 rw [List.range_succ,List.map_append,List.map_append]
 rfl
theorem zgw.res {n:Nat} {i:Int} {K:D->Prop} (k:Nat) (hi:i=k) (h:k<n) (hk:K (D.str (z5h k))):zgw ((ypg n).map D.str) ((0+i.toNat)*1) K:=by
 subst hi
 refine⟨⟨_,?_,hk⟩⟩
 simp [ypg,h]
theorem yoy {l:List Evt} (h:0<l.length):0<(zpf l).length:=by
 have h1:=ybo l 1
 have h2:(zpf (l.take 1)).length=(zms l[0]).length+1:=by
  rw [List.take_succ_eq_append_getElem h,List.take_zero,List.nil_append,yox];simp
 omega
theorem ybi:∀l:List (List UInt8),Lib.join l []=l.flatten
 | []=>rfl
 | [x]=>by simp [Lib.join,List.intercalate]
 | x::y::r=>by
  have ih:=ybi (y::r)
  simp only [Lib.join,List.intercalate] at ih
  simp [Lib.join,List.intercalate,ih]
theorem ymy {cx:Cx} {slot lo:Nat} {old m:Mem} {f t:Nat} {o p:Evl.Id} {a b:Nat} (hlo:lo<=o.lv) (hp:p.lv<lo) (hl:Evl.look m o=some (.cells t [.ptr p a b])):
  Evl.settle cx slot lo old m (.fn f [] [.ptr o 0 0])=some (.fn f [] [.ptr ⟨cx.lv,slot,Evl.freeK cx.lv slot old⟩ 0 0],old++[(⟨cx.lv,slot,Evl.freeK cx.lv slot old⟩,.cells t [.ptr p a b])]):=by
 have h1:¬lo<=p.lv:=by omega
 have hpo:p≠o:=fun e=>by subst e;omega
 have hr:Evl.reach lo m 64 (Evl.ids (.fn f [] [.ptr o 0 0])) []=[o]:=by
  simp [Evl.ids,Evl.idsL,Evl.reach,hlo,hl,Evl.idsO,h1]
 unfold Evl.settle
 simp only [hr]
 rw [if_pos (by simp [Evl.within,Evl.movable,Evl.onceB,Evl.ids,Evl.idsL,hl,hlo,Evl.idsO,Evl.isLoop,hp])]
 simp [Evl.number,Evl.ren,Evl.renL,Evl.subst,Evl.moved,hl,Evl.renO,hpo.symm]
theorem ztt.fnp {cx:Cx} {slot lo:Nat} {old m:Mem} {f t:Nat} {o p:Evl.Id} {a b:Nat} {K:V×Mem->Prop} (hlo:lo<=o.lv) (hp:p.lv<lo) (hl:Evl.look m o=some (.cells t [.ptr p a b])) (hf:Evl.freeK cx.lv slot old=0)
  (k:K (.fn f [] [.ptr ⟨cx.lv,slot,0⟩ 0 0],old++[(⟨cx.lv,slot,0⟩,.cells t [.ptr p a b])])):ztt (Evl.settle cx slot lo old m (.fn f [] [.ptr o 0 0])) K:=⟨_,ymy hlo hp hl,by rw [hf];exact k⟩
def ype (e:Evt):List UInt8:=zms e++[10]
section
variable {E : Oracle} (g : Good E)
include g
theorem ysi (l:List (List UInt8)) (hl:l.length<=1000000) (hj:l.flatten.length<=1000000):Fc E n_strings_Join [.d (.list l.length (l.map D.str)),S []] (S l.flatten):=by
 refine Fc.extern g.lim (x:=joinX) rfl (v:=S l.flatten) (m':=[]) ?_ rfl
 simp only [joinX,zu8,ybi]
 rw [if_pos ⟨trivial,hj,hl⟩]
theorem yur (ev:List Evt) (r:Rgs) (hev:ev.length<=1000) (hp:∀e∈ev,PrE e) (hln:(zpf ev).length<=1000000):Ui E zev [.ptr ⟨0,0,0⟩ 0 0] (mR zaa ev r) (S (zpf ev)) (mR zaa ev r):=by
 refine⟨?_⟩
 have hlf:(ev.map ype).flatten=zpf ev:=(List.flatMap_def ..).symm
 have hj:=ysi g (ev.map ype) (by rw [List.length_map];omega) (by rw [hlf];exact hln)
 rw [hlf,List.length_map] at hj
 have hme:(ev.flatMap Evt.cells).length=ev.length*5:=zae Evt.cells 5 evw ev
 refine In.enter (f:=zev) g.lim rfl rfl ?_
 repeat' ((conv=>whnf);first
 | refine Yz ?_
  | (refine In.enter (f:=zdz) g.lim rfl rfl ?_)
  | fail)
 refine zak.to (zak.up g (fun k=>[(1,.fn zlg [] []),(5,.ref ⟨2,5,0⟩ 0 k k),(8,.ref ⟨0,0,1⟩ 0 ev.length ev.length),(9,I ev.length),(10,I k)])
  (fun k=>mR zaa ev r++[(⟨2,4,0⟩,.row false zab 1 0 []),(⟨2,5,0⟩,.row false zab 1 k (((ev.take k).map ype).map D.str))]) ev.length (fun k hk ih=> ?_) 0 (Nat.zero_le _)) rfl rfl
 by_cases hlt:k<ev.length
 ·have hwin:win (ev.flatMap Evt.cells) ((0+((k:Nat):Int).toNat)*5) 5=ev[k].cells:=by
   rw [Nat.zero_add,Int.toNat_natCast]
   exact zbx Evt.cells 5 evw ev k hlt
  have ih:=ih hlt
  have hpe:=hp _ (List.getElem_mem hlt)
  have e0:((ev.take (k+1)).map ype).map D.str=((ev.take k).map ype).map D.str++[.str (ype ev[k])]:=by
   rw [List.take_succ_eq_append_getElem hlt,List.map_append,List.map_append]
   rfl
  rw [e0] at ih
  have hmo:(((ev.take k).map ype).map D.str).length=k*1:=by rw [List.length_map,List.length_map,List.length_take];omega
  have hbo:=yug g ev[k] hpe
  have hb:=zy4 ev[k]
  have hd:=yt0 g ev[k].nu hpe.nu
  have hle:=hpe.ln
  have hsm:=yuh g (zy3 ev[k]) hpe.ln
  have e1:(zfy ev[k].nu++[32])++zmf ev[k]=zy3 ev[k]:=by simp [zy3]
  have e2:ype ev[k]=((zy3 ev[k]++[35])++yp4 (zy3 ev[k]))++[10]:=by simp [ype,zms]
  have hs:=z2h (zy3 ev[k])
  rw [e2] at ih
  generalize ht:zy3 ev[k]=t at *
  generalize zmf ev[k]=b at *
  generalize ev[k]=e at *
  obtain⟨nu,ki,ns,vs,tx⟩:=e
  dsimp only at e1 hd hb
  change Fc E zle [.d (.agg [DI nu,.str ki,.list ns.length (ns.map D.str),.list vs.length (vs.map DI),.str tx])] _ at hbo
  clear e0 e2
  repeat' ((conv=>whnf);first
  | refine Yz ?_
   | (rw [hwin])
   | (apply zai.of;assumption)
   | (refine In.enter (f:=zlg) g.lim rfl rfl ?_)
   | (refine zcp.mk (by simp only [zrm,List.length_append,List.length_cons,List.length_nil];omega) ?_;try rw [e1])
   | (refine zcp.mk ⟨rfl,rfl,rfl,rfl,rfl,rfl,by dsimp only;omega,by dsimp only;omega⟩ ?_)
   | (refine zak.to ih rfl rfl)
   | fail)
 ·obtain rfl:k=ev.length:=by omega
  clear ih
  rw [List.take_length]
  repeat' ((conv=>whnf);first
  | refine Yz ?_
   | (refine zcp.mk ⟨rfl,by omega⟩ ?_)
   | (apply zai.of;assumption)
   | (rw [if_pos ⟨rfl,rfl⟩])
   | (exact⟨rfl,rfl,rfl,rfl,rfl,rfl,trivial⟩)
   | fail)
theorem yh9 (ev:List Evt) (r:Rgs) (hev:ev.length<=1000) (hp:∀e∈ev,PrE e):Ui E zds [.ptr ⟨0,0,0⟩ 0 0] (mR zaa ev r) (LE ev) (mR zaa ev r):=by
 refine⟨?_⟩
 have hme:(ev.flatMap Evt.cells).length=ev.length*5:=zae Evt.cells 5 evw ev
 refine In.enter (f:=zds) g.lim rfl rfl ?_
 repeat' ((conv=>whnf);first
 | refine Yz ?_
  | (refine In.enter (f:=zju) g.lim rfl rfl ?_)
  | (refine ztt.fnp (by decide) (by decide) rfl rfl ?_)
  | (refine In.enter (f:=zfn) g.lim rfl rfl ?_)
  | fail)
 refine zak.to (zak.up g (fun k=>[(0,.yld ⟨1,16,0⟩),(9,.ref ⟨0,0,1⟩ 0 ev.length ev.length),(10,I ev.length),(11,I k)])
  (fun k=>mR zaa ev r++[(⟨1,2,0⟩,.row false zad 5 0 []),(⟨1,3,0⟩,.row false zad 5 k ((ev.take k).flatMap Evt.cells)),(⟨1,3,1⟩,.cells zje [.ref ⟨1,3,0⟩ 0 k k]),(⟨1,8,0⟩,.cells zm0 [.ptr ⟨0,0,0⟩ 0 0]),
   (⟨1,16,0⟩,.loop [(2,.ref ⟨1,2,0⟩ 0 0 0),(6,B false),(3,.ptr ⟨1,3,1⟩ 0 0),(8,.fn zfn [] [.ptr ⟨1,8,0⟩ 0 0])] [9] zjw zjx 1 false false none)]) ev.length (fun k hk ih=> ?_) 0 (Nat.zero_le _)) rfl rfl
 by_cases hlt:k<ev.length
 ·have hwin:win (ev.flatMap Evt.cells) ((0+((k:Nat):Int).toNat)*5) 5=ev[k].cells:=by
   rw [Nat.zero_add,Int.toNat_natCast]
   exact zbx Evt.cells 5 evw ev k hlt
  have ih:=ih hlt
  have hpe:=hp _ (List.getElem_mem hlt)
  have e0:(ev.take (k+1)).flatMap Evt.cells=(ev.take k).flatMap Evt.cells++(ev[k].cells++[]):=by
   rw [List.take_succ_eq_append_getElem hlt,List.flatMap_append]
   rfl
  rw [e0] at ih
  have hmo:((ev.take k).flatMap Evt.cells).length=k*5:=by rw [zae Evt.cells 5 evw,List.length_take];omega
  have hc1:=zn3 g ev[k].ns (List.length_pos_iff.1 hpe.ns.1) (by have:=hpe.ns;omega)
  have hc2:=zn2 g ev[k].vs (List.length_pos_iff.1 hpe.vs.1) (by have:=hpe.vs;omega)
  generalize ev[k]=e at *
  obtain⟨nu,ki,ns,vs,tx⟩:=e
  simp only [Evt.cells,List.append_nil] at ih
  clear e0 hpe
  repeat' ((conv=>whnf);first
  | refine Yz ?_
   | (rw [hwin])
   | (apply zai.of;assumption)
   | (refine Rnd.enter g.lim ?_)
   | (refine zcp.mk ⟨rfl,rfl,rfl,rfl,rfl,rfl,by dsimp only;omega,by dsimp only;omega⟩ ?_)
   | (refine zak.to ih rfl rfl)
   | fail)
 ·obtain rfl:k=ev.length:=by omega
  clear ih
  rw [List.take_length]
  repeat' ((conv=>whnf);first
  | refine Yz ?_
   | (refine zcp.mk ⟨rfl,by omega⟩ ?_)
   | (rw [if_pos ⟨rfl,rfl⟩])
   | (exact⟨rfl,rfl,rfl,rfl,rfl,rfl,trivial⟩)
   | fail)
end
abbrev mSs (lv sl:Nat) (ev:List Evt) (r:Rgs):Mem:=[(⟨lv,sl,0⟩,.cells zaa [.ref ⟨lv,sl,1⟩ 0 ev.length ev.length,I r.kn,.ref ⟨lv,sl,2⟩ 0 r.es.length r.es.length,.ref ⟨lv,sl,3⟩ 0 r.rs.length r.rs.length,.ref ⟨lv,sl,4⟩ 0 r.cs.length r.cs.length]),
 (⟨lv,sl,1⟩,.row false zad 5 ev.length (ev.flatMap Evt.cells)),(⟨lv,sl,2⟩,.row false zac 8 r.es.length (r.es.flatMap Ent.cells)),(⟨lv,sl,3⟩,.row false za8 2 r.rs.length (r.rs.flatMap Rmv.cells)),(⟨lv,sl,4⟩,.row true zaj 5 r.cs.length (r.cs.flatMap Cpl.cells))]
section
variable {E : Oracle} (g : Good E)
include g
theorem zcb.open {s:List UInt8} {l:List Evt} {i e:Int} (hr:Fc E zhw [S s] (.tup [LE l,I i,I e])) (he:e=0\/e=28) (hl:l.length<=1000) (hb:∀e∈l,e.ns.length<=1000000/\e.vs.length<=1000000) (hz:erL l=0) {cx:Cx} {slot:Nat} {m:Mem} {K:V->Mem->Prop} (hf:Go.Evl.freeK cx.lv slot m=0)
  (k:K (.tup [.ptr ⟨cx.lv,slot,0⟩ 0 0,I 0]) (m++mSs cx.lv slot l (rgL l))):zcb E zld [S s] cx slot m K:=by
 have h:In E 0 zld [S s] [] fun v m'=>v= .tup [.ptr ⟨0,35,0⟩ 0 0,I 0]/\m'=mS 0 24 l (rgL l)++[(⟨0,35,0⟩,.cells zaa [.ref ⟨0,24,1⟩ 0 l.length l.length,I (rgL l).kn,.ref ⟨0,24,2⟩ 0 (rgL l).es.length (rgL l).es.length,.ref ⟨0,24,3⟩ 0 (rgL l).rs.length (rgL l).rs.length,.ref ⟨0,24,4⟩ 0 (rgL l).cs.length (rgL l).cs.length])]:=by
  have hp:=@zcb.replay E g l hl hb
  refine In.enter (f:=zld) g.lim rfl rfl ?_
  rcases he with rfl|rfl
  all_goals repeat' ((conv=>whnf);first
  | refine Yz ?_
   | (apply zai.of;assumption)
   | (refine hp rfl hz ?_)
   | (refine Cmp.ff (fun h=>h rfl) ?_)
   | (exact⟨rfl,rfl⟩)
   | fail)
 obtain⟨v,m',h1,rfl,rfl⟩:=h.got
 refine⟨_,_,(_,m++mSs cx.lv slot l (rgL l)),h1,?_,k⟩
 unfold Evl.settle
 rw [hf]
 rfl
end
theorem yig {sz:Nat} {o:Evl.Id} {n:Nat} {m:Mem} {wr:Bool} {t:Nat} {xs:List D} (h:Go.Evl.look m o=some (.row wr t sz n xs)) (hn:n<=1000000):cloneX sz [.ref o 0 n n] m=some (.d (.list n xs),m):=by
 have h1:cloneX sz [.ref o 0 n n] m=match Go.Evl.look m o with|some (.row _ _ sz' n' xs)=>if sz'=sz/\n=n'/\n=n'/\n'<=1000000 then some (.d (.list n' xs),m) else none|_=>none:=rfl
 rw [h1,h]
 exact if_pos ⟨rfl,rfl,rfl,hn⟩
theorem yhr:∀(l:List Evt) (r:Rgs) (n:Nat),(zdb r n l).2.2≠0->(zdb r n l).1=rg0
 | [],_,_,h=>absurd rfl h
 | e::l,r,n,h=>by
  rw [zej] at h ⊢
  by_cases hs:zia r n e≠0
  ·rw [if_pos hs]
  ·rw [if_neg hs] at h ⊢
   exact yhr l _ _ h
section
variable {E : Oracle} (g : Good E)
include g
theorem In.clone {sz f:Nat} {lv:Nat} {o:Evl.Id} {n:Nat} {m:Mem} {wr:Bool} {t:Nat} {xs:List D} {K:V->Mem->Prop} (hX:ext f=some (cloneX sz)) (h:Go.Evl.look m o=some (.row wr t sz n xs)) (hn:n<=1000000) (hk:K (.d (.list n xs)) m):In E lv f [.ref o 0 n n] m K:=
 In.extern g.lim hX (yig h hn) hk
theorem ypl (l:List Evt) (hl:l.length<=1000) (hb:∀e∈l,e.ns.length<=1000000/\e.vs.length<=1000000):
  Fc E zo5 [LE l] (.tup [Rgv (rgL l),I (zdb rg0 0 l).2.1,I (erL l)]):=by
 refine g.fn rfl rfl ?_
 by_cases hz:(zdb rg0 0 l).2.2=0
 ·have hat:(zdb rg0 0 l).2.1=0:=by
   have:∀(l:List Evt) (r:Rgs) (n:Nat),(zdb r n l).2.2=0->(zdb r n l).2.1=0:=by
    intro l
    induction l with
    | nil=>intro r n _;rfl
    | cons e l ih=>
     intro r n h
     rw [zej] at h ⊢
     by_cases hs:zia r n e≠0
     ·rw [if_pos hs] at h;exact absurd h hs
     ·rw [if_neg hs] at h ⊢
      exact ih _ _ h
   exact this l rg0 0 hz
  have ho:OkR (rgL l):=z7j hl hz
  have hr:=@zcb.replay E g l hl hb
  unfold erL
  rw [hz,hat]
  change ∀ {cx:Cx} {slot:Nat} {m:Mem} {K:V->Mem->Prop},Go.Evl.freeK cx.lv slot m=0->(zdb rg0 0 l).2.2=0->K (.tup [.ptr ⟨cx.lv,slot,0⟩ 0 0,I 0,I 0]) (m++mS cx.lv slot l (rgL l))->zcb E zec [LE l] cx slot m K at hr
  have h1:=ho.es
  have h2:=ho.rs
  have h3:=ho.cs
  generalize rgL l=r at *
  have m1:(r.es.flatMap Ent.cells).length=r.es.length*8:=zae Ent.cells 8 zot r.es
  repeat' ((conv=>whnf);first
  | refine Yz ?_
   | (refine hr rfl hz ?_)
   | (refine In.enter (f:=zhk) g.lim rfl rfl ?_)
   | (refine In.clone (sz:=2) g rfl rfl (by omega) ?_)
   | (refine In.clone (sz:=5) g rfl rfl (by omega) ?_)
   | (refine zcp.mk ⟨rfl,by omega,rfl,by rw [if_pos ⟨rfl,rfl⟩];exact m1⟩ ?_)
   | (refine Chk.mk (by simp [z86,yoo,z4q,ymv,zll,Evl.look,Evl.win]) ?_)
   | (refine zcp.mk ⟨rfl,by decide⟩ ?_)
   | (refine zcp.mk ⟨by simp,rfl,by omega⟩ ?_)
   | (refine Ret.mk ?_)
   | fail)
  simp only [Int.toNat_natCast,and_self,if_true,Nat.min_self]
  rw [<-m1,List.take_length]
  have hz8:((List.replicate r.es.length [D.str [],D.str [],D.str [],D.str [],D.int IntKind.i64 0,D.int IntKind.i64 0,D.int IntKind.i64 0,D.int IntKind.i64 0]).flatten).length=r.es.length*8:=by simp
  have hpt:patch (List.replicate r.es.length [D.str [],D.str [],D.str [],D.str [],D.int IntKind.i64 0,D.int IntKind.i64 0,D.int IntKind.i64 0,D.int IntKind.i64 0]).flatten (0*8) (r.es.flatMap Ent.cells)=r.es.flatMap Ent.cells:=by
   unfold patch
   rw [Nat.zero_mul,List.take_zero,List.nil_append,Nat.zero_add,List.drop_of_length_le (by rw [hz8,m1];exact Nat.le_refl _),List.append_nil]
  rw [hpt]
  rfl
 ·have hr:=@zcb.replayNo E g l hl hb
  have h0:rgL l=rg0:=yhr l rg0 0 hz
  have hz':erL l≠0:=hz
  have e1:(zdb rg0 0 l).2.2=erL l:=rfl
  rw [e1] at hr
  rw [h0]
  generalize erL l=x at *
  generalize (zdb rg0 0 l).2.1=y at *
  repeat' ((conv=>whnf);first
  | refine Yz ?_
   | (refine hr hz' ?_)
   | (refine Cmp.tt hz' ?_)
   | (refine Ret.mk rfl)
   | fail)
end
def yry:Mem->Mem->Bool
 | [],[]=>true
 | (i,o)::r,(j,o')::q=>decide (i=j)&&(match o,o' with
  | .cells t cs,.cells u ds=>decide (t=u)&&zz1 cs ds
  | .row w t sz n xs,.row w' t' sz' n' ys=>decide (w=w')&&decide (t=t')&&decide (sz=sz')&&decide (n=n')&&zmx xs ys
  | _,_=>false)&&yry r q
 | _,_=>false
theorem yd9:∀(a b:Mem),yry a b=true->a=b
 | [],[],_=>rfl
 | [],_::_,h=>by simp [yry] at h
 | _::_,[],h=>by simp [yry] at h
 | (i,o)::r,(j,o')::q,h=>by
  simp only [yry,Bool.and_eq_true,decide_eq_true_eq] at h
  obtain⟨⟨rfl,h1⟩,h2⟩:=h
  rw [yd9 r q h2]
  split at h1
  ·simp only [Bool.and_eq_true,decide_eq_true_eq] at h1
   obtain⟨rfl,h1⟩:=h1
   rw [znx _ _ h1]
  ·simp only [Bool.and_eq_true,decide_eq_true_eq] at h1
   obtain⟨⟨⟨⟨rfl,rfl⟩,rfl⟩,rfl⟩,h1⟩:=h1
   rw [zg3 _ _ h1]
  ·cases h1
def ytp (o:Option (V×Mem)) (v:V) (m:Mem):Bool:=
 match o with
 | some (v',m')=>zub v' v&&yry m' m
 | none=>false
def yto (cx:Cx) (slot:Nat) (m:Mem) (o:Option Res) (v:V) (m2:Mem):Bool:=
 match o with
 | some (.val v' m')=>(match Evl.settle cx slot 0 m m' v' with
  | some p=>zub p.1 v&&yry p.2 m2
  | none=>false)
 | _=>false
section
variable {E : Oracle} (g : Good E)
include g
theorem ys7 (n:Nat) {imm:Bool} {f:V} {args:List V} {m m2:Mem} {v:V} {K:V->Mem->Prop} (h:ytp (zv0 (iter code ext n) imm f args m) v m2=true) (hK:K v m2):zpg E imm f args m K:=by
 have hc:z99 (fun _=>E) E:=⟨fun _ _ _ h=>h,fun _ _=>⟨fun h=>⟨0,h⟩,fun h=>h.elim fun _ h=>h⟩⟩
 cases hr:zv0 (iter code ext n) imm f args m with
 | none=>rw [hr] at h;cases h
 | some p=>
  rw [hr] at h
  simp only [ytp,Bool.and_eq_true] at h
  obtain⟨h1,h2⟩:=h
  have:=(z3i hc imm f args m).mono _ _ (fun q r=>g.lim.of_iter n q r) p hr
  exact⟨p.1,p.2,this,by rw [zw2 _ _ h1,yd9 _ _ h2];exact hK⟩
theorem yrc (n:Nat) {f slot:Nat} {cx:Cx} {args:List V} {m m2:Mem} {v:V} {K:V->Mem->Prop} (h:yto cx slot m (iter code ext n (.call 0 f args [])) v m2=true) (hK:K v m2):zcb E f args cx slot m K:=by
 cases hr:iter code ext n (.call 0 f args []) with
 | none=>rw [hr] at h;cases h
 | some x=>
  rw [hr] at h
  cases x with
  | st _ _ _=>cases h
  | val v1 m1=>
   simp only [yto] at h
   split at h
   ·rename_i p hp
    simp only [Bool.and_eq_true] at h
    obtain⟨h1,h2⟩:=h
    refine⟨_,_,p,g.lim.of_iter n _ _ hr,hp,?_⟩
    rw [zw2 _ _ h1,yd9 _ _ h2];exact hK
   ·cases h
theorem at1:Fc E zng [] (.d (.agg [.str [115,105,120],.str [84],.str [],DI 60,DI 60,DI 600,DI 600,DI 2,DI 3,DI 127,DI 1])):=g.compR 1000 (by decide+kernel)
theorem at2:Fc E zli [S [97],I 100] (.d (.agg [.str [97],.str [99],.str [65],.str [],.str [102,97,114],.str [],DI 2,DI 3,DI 127,DI 610,DI 100,DI 3,DI 0])):=g.compR 1000 (by decide+kernel)
theorem at3:Fc E zo8 [.d (.agg [.str [97],.str [99],.str [65],.str [],.str [102,97,114],.str [],DI 2,DI 3,DI 127,DI 610,DI 100,DI 3,DI 0])] (.d (.agg [.str [97],.str [99],.str [65],.str [],.str [102,97,114],.str [],DI 2,DI 3,DI 127,DI 610,DI 100,DI 3,DI 0,DI 590,DI 630,DI 20,DI 0,DI 0])):=g.compR 1000 (by decide+kernel)
theorem at4:Fc E znd [.d (.list 1 [.str [115,105,120],.str [84],.str [],DI 60,DI 60,DI 600,DI 600,DI 2,DI 3,DI 127,DI 1]),.d (.list 1 [.str [97],.str [99],.str [65],.str [],.str [102,97,114],.str [],DI 2,DI 3,DI 127,DI 610,DI 100,DI 3,DI 0,DI 590,DI 630,DI 20,DI 0,DI 0])] (.tup [.d (.list 1 [.str [97],DI 610,.bool true]),.d (DI 0)]):=g.compR 1000 (by decide+kernel)
theorem at6:Fc E zf9 [I 610] (S [54,49,48]):=g.compR 1000 (by decide+kernel)
end
abbrev mw0:Mem:=[(⟨0,37,0⟩,.cells zaa [.ref ⟨0,37,1⟩ 0 1 1,.d (DI 5),.ref ⟨0,37,2⟩ 0 1 1,.ref ⟨0,37,3⟩ 0 0 0,.ref ⟨0,37,4⟩ 0 0 0]),(⟨0,37,1⟩,.row false zad 5 1 [DI 1,.str [101,110,116,101,114],.list 2 [.str [101],.str [97]],.list 4 [DI 5,DI 2,DI 3,DI 610],.str []]),(⟨0,37,2⟩,.row false zac 8 1 [.str [101],.str [101,110,116,101,114],.str [97],.str [],DI 5,DI 2,DI 3,DI 610]),(⟨0,37,3⟩,.row false za8 2 0 []),(⟨0,37,4⟩,.row true zaj 5 0 [])]
abbrev mw1:Mem:=[(⟨0,37,0⟩,.cells zaa [.ref ⟨0,37,1⟩ 0 0 0,.d (DI 0),.ref ⟨0,37,2⟩ 0 0 0,.ref ⟨0,37,3⟩ 0 0 0,.ref ⟨0,37,4⟩ 0 0 0]),(⟨0,37,1⟩,.row false zad 5 0 []),(⟨0,37,2⟩,.row false zac 8 0 []),(⟨0,37,3⟩,.row false za8 2 0 []),(⟨0,37,4⟩,.row true zaj 5 0 [])]
abbrev mw2:Mem:=[(⟨0,37,0⟩,.cells zaa [.ref ⟨0,37,1⟩ 0 2 2,.d (DI 8),.ref ⟨0,37,2⟩ 0 2 2,.ref ⟨0,37,3⟩ 0 0 0,.ref ⟨0,37,4⟩ 0 0 0]),(⟨0,37,1⟩,.row false zad 5 2 [DI 1,.str [101,110,116,101,114],.list 2 [.str [101],.str [97]],.list 4 [DI 5,DI 2,DI 3,DI 610],.str [],DI 2,.str [114,117,108,101],.list 2 [.str [114],.str [97]],.list 4 [DI 8,DI 2,DI 3,DI 1440],.str []]),(⟨0,37,2⟩,.row false zac 8 2 [.str [101],.str [101,110,116,101,114],.str [97],.str [],DI 5,DI 2,DI 3,DI 610,.str [114],.str [114,117,108,101],.str [97],.str [],DI 8,DI 2,DI 3,DI 1440]),(⟨0,37,3⟩,.row false za8 2 0 []),(⟨0,37,4⟩,.row true zaj 5 0 [])]
abbrev mw3:Mem:=[(⟨0,37,0⟩,.cells zaa [.ref ⟨0,37,1⟩ 0 3 3,.d (DI 9),.ref ⟨0,37,2⟩ 0 2 2,.ref ⟨0,37,3⟩ 0 1 1,.ref ⟨0,37,4⟩ 0 0 0]),(⟨0,37,1⟩,.row false zad 5 3 [DI 1,.str [101,110,116,101,114],.list 2 [.str [101],.str [97]],.list 4 [DI 5,DI 2,DI 3,DI 610],.str [],DI 2,.str [114,117,108,101],.list 2 [.str [114],.str [97]],.list 4 [DI 8,DI 2,DI 3,DI 1440],.str [],DI 3,.str [114,101,118,101,114,115,101],.list 1 [.str [114]],.list 1 [DI 9],.str []]),(⟨0,37,2⟩,.row false zac 8 2 [.str [101],.str [101,110,116,101,114],.str [97],.str [],DI 5,DI 2,DI 3,DI 610,.str [114],.str [114,117,108,101],.str [97],.str [],DI 8,DI 2,DI 3,DI 1440]),(⟨0,37,3⟩,.row false za8 2 1 [.str [114],DI 9]),(⟨0,37,4⟩,.row true zaj 5 0 [])]
section
variable {E : Oracle} (g : Good E)
include g
theorem is0 {K:V->Mem->Prop} (h:K (.ptr ⟨0,37,0⟩ 0 0) [(⟨0,37,0⟩,.cells zaa [.ref ⟨0,37,1⟩ 0 0 0,.d (DI 0),.ref ⟨0,37,2⟩ 0 0 0,.ref ⟨0,37,3⟩ 0 0 0,.ref ⟨0,37,4⟩ 0 0 0]),(⟨0,37,1⟩,.row false zad 5 0 []),(⟨0,37,2⟩,.row false zac 8 0 []),(⟨0,37,3⟩,.row false za8 2 0 []),(⟨0,37,4⟩,.row true zaj 5 0 [])]):zcb E ziw [] ⟨0,1⟩ 37 [] K:=yrc g 1000 (by decide+kernel) h
theorem is1 {K:V->Mem->Prop} (h:K (.tup [.d (.str [100,111,110,101,32,49]),.d (DI 0)]) mw0):zpg E true (.fn zag [] []) [.ptr ⟨0,37,0⟩ 0 0,.d (.str [101,110,116,101,114,32,101,32,97,32,53,32,50,32,51,32,54,49,48])] mw1 K:=ys7 g 1000 (by decide+kernel) h
theorem is2 {K:V->Mem->Prop} (h:K (.tup [.d (.str [100,111,110,101,32,50]),.d (DI 0)]) mw2):zpg E true (.fn zag [] []) [.ptr ⟨0,37,0⟩ 0 0,.d (.str [114,117,108,101,32,114,32,97,32,56,32,50,32,51,32,49,52,52,48])] mw0 K:=ys7 g 1000 (by decide+kernel) h
theorem is3 {K:V->Mem->Prop} (h:K (.tup [.d (.str [100,111,110,101,32,51]),.d (DI 0)]) mw3):zpg E true (.fn zag [] []) [.ptr ⟨0,37,0⟩ 0 0,.d (.str [114,101,118,101,114,115,101,32,114,32,57])] mw2 K:=ys7 g 1000 (by decide+kernel) h
theorem is4 {K:V->Mem->Prop} (h:K (.tup [.d (.str [54,49,48]),.d (DI 0)]) mw3):zpg E true (.fn zag [] []) [.ptr ⟨0,37,0⟩ 0 0,.d (.str [115,108,111,116,32,97,32,55,32,50])] mw3 K:=ys7 g 1000 (by decide+kernel) h
theorem is5 {K:V->Mem->Prop} (h:K (.tup [.d (.str [110,111,110,101]),.d (DI 0)]) mw3):zpg E true (.fn zag [] []) [.ptr ⟨0,37,0⟩ 0 0,.d (.str [115,108,111,116,32,97,32,56,32,50])] mw3 K:=ys7 g 1000 (by decide+kernel) h
theorem is6 {K:V->Mem->Prop} (h:K (.tup [.d (.str [54,49,48]),.d (DI 0)]) mw3):zpg E true (.fn zag [] []) [.ptr ⟨0,37,0⟩ 0 0,.d (.str [115,108,111,116,32,97,32,57,32,50])] mw3 K:=ys7 g 1000 (by decide+kernel) h
end
section
variable {E : Oracle} (g : Good E)
include g
theorem ysl:Fc E zfa [] (B true):=by
 refine g.fn rfl rfl ?_
 repeat' ((conv=>whnf);first
 | refine Yz ?_
  | (apply zai.of;first |exact at1 g|exact at2 g|exact at3 g|exact at4 g|exact at6 g)
  | (refine is0 g ?_)
  | (first |refine is1 g ?_|refine is2 g ?_|refine is3 g ?_|refine is4 g ?_|refine is5 g ?_|refine is6 g ?_)
  | (refine zcp.mk (by simp only [zrm,List.length_cons,List.length_nil];omega) ?_)
  | (refine zak.step g.lim ?_)
  | (exact Ret.mk rfl))
end
abbrev isA:List Evl.Id:=[⟨0,44,0⟩,⟨0,44,1⟩,⟨0,44,2⟩,⟨0,44,3⟩,⟨0,44,4⟩]
abbrev isB:List Evl.Id:=[⟨0,87,0⟩,⟨0,87,1⟩,⟨0,87,2⟩,⟨0,87,3⟩,⟨0,87,4⟩]
abbrev U16 (a:Int):D:= .int .u16 a
abbrev mTw (r:Rgs):Mem:=[(⟨0,5,0⟩,.cells zah [I r.kn,.d (.list r.es.length (r.es.flatMap Ent.cells)),.d (.list r.rs.length (r.rs.flatMap Rmv.cells)),.d (.list r.cs.length (r.cs.flatMap Cpl.cells))])]
abbrev mRs (n:Nat):Mem:=[(⟨0,9,0⟩,.row false zab 1 n ((ypg n).map D.str))]
section
variable {E : Oracle} (g : Good E)
include g
theorem zcb.new {cx:Cx} {slot:Nat} {m:Mem} {K:V->Mem->Prop} (hf:Go.Evl.freeK cx.lv slot m=0) (k:K (.ptr ⟨cx.lv,slot,0⟩ 0 0) (m++mSs cx.lv slot [] rg0)):zcb E ziw [] cx slot m K:=by
 have h:In E 0 ziw [] [] fun v m'=>v= .ptr ⟨0,2,0⟩ 0 0/\m'=[(⟨0,1,0⟩,.row false zad 5 0 []),(⟨0,1,1⟩,.row false zac 8 0 []),(⟨0,1,2⟩,.row false za8 2 0 []),(⟨0,1,3⟩,.row true zaj 5 0 []),(⟨0,2,0⟩,.cells zaa [.ref ⟨0,1,0⟩ 0 0 0,I 0,.ref ⟨0,1,1⟩ 0 0 0,.ref ⟨0,1,2⟩ 0 0 0,.ref ⟨0,1,3⟩ 0 0 0])]:=by
  refine In.enter (f:=ziw) g.lim rfl rfl ?_
  repeat' ((conv=>whnf);first
  | refine Yz ?_
   | (exact⟨rfl,rfl⟩)
   | fail)
 obtain⟨v,m',h1,rfl,rfl⟩:=h.got
 refine⟨_,_,(_,m++mSs cx.lv slot [] rg0),h1,?_,k⟩
 unfold Evl.settle
 rw [hf]
 rfl
abbrev eCr (l:List Evt) (i:Nat):Env:=[(0,LE l),(5,.ptr ⟨0,5,0⟩ 0 0),(9,.ref ⟨0,9,0⟩ 0 l.length l.length),(14,S (zpf l)),(15,.ptr ⟨0,87,0⟩ 0 0),(25,I i)]
abbrev mCr (l:List Evt) (i:Nat):Mem:=mTw (rgL l)++mSs 0 44 l (rgL l)++mRs l.length++mSs 0 87 (l.take i) (rgL (l.take i))
theorem zz0 (l:List Evt) (hl:l.length<=10) (hz:erL l=0) (w:Nat) (hwl:w<=l.length) {K:Ex->Env->Mem->Prop} (hK:K (.exit 4) (eCr l l.length++[(160,B false)]) (mTw (rgL l)++mSs 0 44 l (rgL l)++mRs l.length++mSs 0 87 l (rgL l))):
  zak E ⟨0,1⟩ [0,5,9,14,15,25] (zps (mCr l w)) zky (eCr l w) (mCr l w) K:=by
 refine zak.to (zak.up g (fun k=>[(0,LE l),(5,.ptr ⟨0,5,0⟩ 0 0),(9,.ref ⟨0,9,0⟩ 0 l.length l.length),(14,S (zpf l)),(15,.ptr ⟨0,87,0⟩ 0 0),(25,I (w+k:Nat))])
  (fun k=>mTw (rgL l)++mSs 0 44 l (rgL l)++mRs l.length++mSs 0 87 (l.take (w+k)) (rgL (l.take (w+k)))) (l.length-w) (fun k hk ih=> ?_) 0 (Nat.zero_le _)) rfl rfl
 by_cases hlt:k<l.length-w
 ·have ih:=ih hlt
  have hlt':w+k<l.length:=by omega
  have hzk:=zsl hz (w+k)
  have hlk:(l.take (w+k)).length=w+k:=by rw [List.length_take];omega
  have hli:=yqp g l[w+k] (z6i hz _ (List.getElem_mem hlt'))
  have htl:=(yat (zsk hz _ (List.getElem_mem hlt'))).2
  have htb:=zy4 l[w+k]
  have hu:=z0m g (l.take (w+k)) (by omega) hzk (z6h hzk) (by have:=yhw (l.take (w+k));omega) (zmf l[w+k]) (by omega)
  rw [yga (by omega) hz hlt'] at hu
  rw [show w+(k+1)=w+k+1 by omega] at ih
  have hwin:win (l.flatMap Evt.cells) (((w+k:Nat):Int).toNat*5) 5=l[w+k].cells:=by
   rw [Int.toNat_natCast]
   exact zbx Evt.cells 5 evw l (w+k) hlt'
  have hml:(l.flatMap Evt.cells).length=l.length*5:=zae Evt.cells 5 evw l
  have hpr:∀ {K:D->Prop},K (D.str (z5h (w+k)))->zgw ((ypg l.length).map D.str) ((0+((w+k:Nat):Int).toNat)*1) K:=fun {K} h=>zgw.res (w+k) rfl hlt' h
  generalize rgL (l.take (w+k))=r1 at *
  generalize rgL (l.take (w+k+1))=r2 at *
  generalize l.take (w+k)=l1 at *
  generalize l.take (w+k+1)=l2 at *
  generalize z5h (w+k)=dt at *
  generalize zmf l[w+k]=bo at *
  generalize l[w+k]=e at *
  obtain⟨nu,ki,ns,vs,tx⟩:=e
  change _=[DI nu,.str ki,.list ns.length (ns.map D.str),.list vs.length (vs.map DI),.str tx] at hwin
  change Fc E ziy [.d (.agg [DI nu,.str ki,.list ns.length (ns.map D.str),.list vs.length (vs.map DI),.str tx])] _ at hli
  repeat' ((conv=>whnf);first
  | refine Yz ?_
   | (rw [hwin])
   | (apply zai.of;assumption)
   | (refine zpg.ofI (r':= .tup [S dt,I 0]) isB rfl rfl rfl rfl hu rfl rfl rfl rfl ?_)
   | (refine hpr ?_)
   | (refine Cmp.tt rfl ?_)
   | (refine Cmp.ff (fun h=>h rfl) ?_)
   | (refine zak.to ih rfl rfl)
   | fail)
 obtain rfl:k=l.length-w:=by omega
 clear ih hlt
 rw [show w+(l.length-w)=l.length by omega,List.take_length]
 repeat' ((conv=>whnf);first
 | refine Yz ?_
  | (exact hK)
  | fail)
theorem z0n (l:List Evt) (hl0:l.length<=9223372036854775807) (hb:∀e∈l,yta e) (a:Int) (ha:0<=a/\a<=65535):Fc E zi2 [LE l,.d (U16 a)] (B true):=by
 have aw:=ysl g
 have hsh:=z9n g l 10 (by decide) hl0 (fun e he=>⟨(hb e he).ns,(hb e he).vs,(hb e he).ki,(hb e he).tx,(hb e he).na⟩)
 cases h1:(decide ((l.length:Int)<=10)&&l.all zta) with
 | false=>
  rw [h1] at hsh
  refine g.fn rfl rfl ?_
  repeat' ((conv=>whnf);first
  | refine Yz ?_
   | (apply zai.of;assumption)
   | (refine Ret.mk rfl)
   | fail)
 | true=>
 rw [h1] at hsh
 obtain⟨hl,hs⟩:=ypr h1
 have hl:l.length<=10:=by omega
 have hs':∀e∈l,e.ns.length<=1000000/\e.vs.length<=1000000:=fun e he=>by have:=hs e he;omega
 have hrp:=ypc g l (by omega) hs'
 generalize (zdb rg0 0 l).2.1=at0 at hrp
 clear hs hl0 hb h1
 by_cases hz:erL l=0
 case neg=>
  generalize erL l=y at *
  generalize rgL l=r0 at *
  obtain⟨kn0,es0,rs0,cs0⟩:=r0
  change Fc E zmc [LE l] (.tup [.d (.agg [DI kn0,.list es0.length (es0.flatMap Ent.cells),.list rs0.length (rs0.flatMap Rmv.cells),.list cs0.length (cs0.flatMap Cpl.cells)]),I at0,I y]) at hrp
  refine g.fn rfl rfl ?_
  repeat' ((conv=>whnf);first
  | refine Yz ?_
   | (apply zai.of;assumption)
   | (refine Cmp.ff hz ?_)
   | (refine Cmp.tt hz ?_)
   | (refine Ret.mk rfl)
   | fail)
 have hr0:(.tup [Rgv (rgL l),I at0,I (erL l)]:V)= .tup [.d (.agg [DI (rgL l).kn,.list (rgL l).es.length ((rgL l).es.flatMap Ent.cells),.list (rgL l).rs.length ((rgL l).rs.flatMap Rmv.cells),.list (rgL l).cs.length ((rgL l).cs.flatMap Cpl.cells)]),I at0,I 0]:=by rw [hz]
 rw [hr0] at hrp
 clear hr0
 have hnew:=@zcb.new E g
 refine g.fn rfl rfl ?_
 repeat' ((conv=>whnf);first
 | refine Yz ?_
  | (apply zai.of;assumption)
  | (refine hnew rfl ?_)
  | (refine Cmp.ff (fun h=>h rfl) ?_)
  | fail)
 refine zak.to (zak.up g (fun k=>[(0,LE l),(1,.d (U16 a)),(5,.ptr ⟨0,5,0⟩ 0 0),(8,.ptr ⟨0,44,0⟩ 0 0),(9,.ref ⟨0,9,0⟩ 0 k k),(47,LE l),(48,I l.length),(49,I k)])
  (fun k=>mTw (rgL l)++mSs 0 44 (l.take k) (rgL (l.take k))++mRs k) l.length (fun k hk ih=> ?_) 0 (Nat.zero_le _)) rfl rfl
 by_cases hlt:k<l.length
 ·have ih:=ih hlt
  have hzk:=zsl hz k
  have hlk:(l.take k).length=k:=by rw [List.length_take];omega
  have hli:=yqp g l[k] (z6i hz _ (List.getElem_mem hlt))
  have htl:=(yat (zsk hz _ (List.getElem_mem hlt))).2
  have htb:=zy4 l[k]
  have hu:=z0m g (l.take k) (by omega) hzk (z6h hzk) (by have:=yhw (l.take k);omega) (zmf l[k]) (by omega)
  rw [yga (by omega) hz hlt] at hu
  have hwin:win (l.flatMap Evt.cells) (((k:Nat):Int).toNat*5) 5=l[k].cells:=by
   rw [Int.toNat_natCast]
   exact zbx Evt.cells 5 evw l k hlt
  have hml:(l.flatMap Evt.cells).length=l.length*5:=zae Evt.cells 5 evw l
  have hel:=yph k
  simp only [mRs] at ih
  rw [ymi] at ih
  generalize rgL (l.take k)=r1 at *
  generalize rgL (l.take (k+1))=r2 at *
  generalize l.take k=l1 at *
  generalize l.take (k+1)=l2 at *
  generalize z5h k=dt at *
  generalize zmf l[k]=bo at *
  generalize l[k]=e at *
  obtain⟨nu,ki,ns,vs,tx⟩:=e
  change Fc E ziy [.d (.agg [DI nu,.str ki,.list ns.length (ns.map D.str),.list vs.length (vs.map DI),.str tx])] _ at hli
  repeat' ((conv=>whnf);first
  | refine Yz ?_
   | (rw [hwin])
   | (apply zai.of;assumption)
   | (refine zpg.ofI (r':= .tup [S dt,I 0]) isA rfl rfl rfl rfl hu rfl rfl rfl rfl ?_)
   | (refine zcp.mk ⟨rfl,rfl,rfl,rfl,rfl,hel,by dsimp only;omega,by dsimp only;omega⟩ ?_)
   | (refine Cmp.ff (fun h=>h rfl) ?_)
   | (refine zak.to ih rfl rfl)
   | fail)
 obtain rfl:k=l.length:=by omega
 clear ih
 rw [List.take_length]
 have hlog:=yur g l (rgL l) (by omega) (z6i hz) (ydv (by omega) hz)
 have hlg0:=yd7 l fun e he=>(yat (zsk hz e he)).2
 have hbt:∀k,(zpf (l.take k)).length<=(zpf l).length:=ybo l
 by_cases hl1:l.length=0
 ·obtain rfl:l=[]:=List.length_eq_zero_iff.1 hl1
  repeat' ((conv=>whnf);first
  | refine Yz ?_
   | (apply zai.of;assumption)
   | (refine zpg.ofI (r':=S (zpf [])) isA rfl rfl rfl rfl hlog rfl rfl rfl rfl ?_)
   | (refine Ret.mk rfl)
   | fail)
 have hpos:0<l.length:=by omega
 have hlp:=yoy hpos
 repeat' ((conv=>whnf);first
 | refine Yz ?_
  | (refine zpg.ofI (r':=S (zpf l)) isA rfl rfl rfl rfl hlog rfl rfl rfl rfl ?_)
  | (refine Cmp.ff (by omega) ?_)
  | fail)
 -- how many records end before the cut
 have hcb:0<=a%(((zpf l).length:Int)+1)/\a%(((zpf l).length:Int)+1)<=(zpf l).length:=by
  have h1:=Int.emod_nonneg a (show (((zpf l).length:Int)+1)≠0 by omega)
  have h2:=Int.emod_lt_of_pos a (show 0<(((zpf l).length:Int)+1) by omega)
  omega
 generalize a%(((zpf l).length:Int)+1)=cut at *
 obtain⟨cu,rfl⟩:∃n:Nat,cut=n:=⟨cut.toNat,by omega⟩
 have hcu:cu<=(zpf l).length:=by omega
 have hwl:=yqz l cu
 obtain⟨j,x,hrc,hx⟩:=ypf (l:=l) (by omega) hz cu
 have q1:=ymq g ((zpf l).take cu)
 rw [hrc] at q1
 generalize hw:whE l cu=w at *
 change Fc E zhw [S ((zpf l).take cu)] (.tup [LE (l.take w),I (j:Nat),I x]) at q1
 have hlw:(l.take w).length=w:=by rw [List.length_take];omega
 have hzw:=zsl hz w
 have o1:=@zcb.open E g _ _ _ _ q1 hx (by omega) (ytj hzw) hzw
 have hwc:=ysu (s:=zpf l) cu
 have hev:=yh9 g (l.take w) (rgL (l.take w)) (by omega) (z6i hzw)
 have hLE:LE (l.take w)= .d (.list w ((l.take w).flatMap Evt.cells)):=by
  show V.d (.list (l.take w).length _)=_
  rw [hlw]
 rw [hLE] at hev
 clear hrc
 -- what was known on the day before
 have hF:=ysc hz w
 have hFw:∀h:w<l.length,vlN l[w] 0-1=zg2 l w:=fun h=>by unfold zg2;rw [dif_pos h]
 have hFn:¬w<l.length->(rgL l).kn=zg2 l w:=fun h=>by unfold zg2;rw [dif_neg h]
 have hlog:=yur g l (rgL l) (by omega) (z6i hz) (ydv (by omega) hz)
 have hevl:=yh9 g l (rgL l) (by omega) (z6i hz)
 have hrq:=ypl g l (by omega) hs'
 generalize (zdb rg0 0 l).2.1=at1 at hrq
 have hr0:(.tup [Rgv (rgL l),I at1,I (erL l)]:V)= .tup [.d (.agg [DI (rgL l).kn,.list (rgL l).es.length ((rgL l).es.flatMap Ent.cells),.list (rgL l).rs.length ((rgL l).rs.flatMap Rmv.cells),.list (rgL l).cs.length ((rgL l).cs.flatMap Cpl.cells)]),I at1,I 0]:=by rw [hz]
 rw [hr0] at hrq
 clear hr0 q1 hrp
 -- the questions of that day
 have hrsw:=yhw (l.take w)
 have hrsl:=yhw l
 have c1:=yeu (by omega) hz w
 have c2:=yo8 (by omega) hz w 16
 have v1:=fun h=>z2o (l.take w) (m:=zg2 l w) h
 have v2:=fun h=>z2o l (m:=zg2 l w) h
 have v3:=fun h=>yf2 (l.take w) (k:=zg2 l w) (m:=16) h (by decide)
 have v4:=fun h=>yf2 l (k:=zg2 l w) (m:=16) h (by decide)
 rw [c1] at v1
 rw [c2] at v3
 generalize ys8 (yf6 (rgL l) (zg2 l w))=t1 at *
 generalize ys8 ((z9v (rgL l) (zg2 l w) 16).map ycr)=t2 at *
 clear c1 c2
 have ht:=z2b g (zg2 l w)
 have d16:zfy 16=[49,54]:=by decide
 have dl:(zfy (zg2 l w)).length<=20:=zsj 20 (zg2 l w).toNat
 have kd1:z84.length=3:=rfl
 have kd2:zh7.length=6:=rfl
 have e1:zh7++32::zfy (zg2 l w)=[99,111,117,110,116,115,32]++zfy (zg2 l w):=rfl
 have e2:z84++32::(zfy (zg2 l w)++32::zfy 16)=([100,97,121,32]++zfy (zg2 l w))++[32,49,54]:=by
  rw [d16]
  simp [z84]
 have lb1:(zh7++32::zfy (zg2 l w)).length<=4096:=by simp only [List.length_append,List.length_cons];omega
 have lb2:(z84++32::(zfy (zg2 l w)++32::zfy 16)).length<=4096:=by rw [d16];simp only [List.length_append,List.length_cons,List.length_nil];omega
 have u1:=z0m g (l.take w) (by omega) hzw (z6h hzw) (by omega) _ lb1
 have u2:=z0m g l (by omega) hz (z6h hz) (by omega) _ lb1
 have u3:=z0m g (l.take w) (by omega) hzw (z6h hzw) (by omega) _ lb2
 have u4:=z0m g l (by omega) hz (z6h hz) (by omega) _ lb2
 have hmx:zrm=9223372036854775807:=rfl
 have wgo:0<=zg2 l w->(yf9 (l.take w) (zh7++32::zfy (zg2 l w))=((t1,0),l.take w)/\yf9 l (zh7++32::zfy (zg2 l w))=((t1,0),l))/\
   yf9 (l.take w) (z84++32::(zfy (zg2 l w)++32::zfy 16))=((t2,0),l.take w)/\yf9 l (z84++32::(zfy (zg2 l w)++32::zfy 16))=((t2,0),l):=fun h=>⟨⟨v1 ⟨h,hF.2⟩,v2 ⟨h,hF.2⟩⟩,v3 ⟨h,hF.2⟩,v4 ⟨h,hF.2⟩⟩
 clear v1 v2 v3 v4
 by_cases hwn:w<l.length
 ·have hwin:win (l.flatMap Evt.cells) (((w:Nat):Int).toNat*5) 5=l[w].cells:=by
   rw [Int.toNat_natCast]
   exact zbx Evt.cells 5 evw l w hwn
  have hml:(l.flatMap Evt.cells).length=l.length*5:=zae Evt.cells 5 evw l
  have hvs:1<=l[w].vs.length:=by
   obtain⟨a1,_,a3,_⟩:=zs3 (zsk hz _ (List.getElem_mem hwn))
   have:=ykp a1
   omega
  replace hFw:=hFw hwn
  generalize l[w]=e at hwin hvs hFw
  obtain⟨nu,ki,ns,vs,tx⟩:=e
  dsimp only at hvs
  cases vs with
  | nil=>cases hvs
  | cons v0 vs=>
  change v0-1=zg2 l w at hFw
  have hpk:∀ {K:D->Prop},K (.list (vs.length+1) (DI v0::vs.map DI))->zgw (l.flatMap Evt.cells) (((w:Nat):Int).toNat*5+3) K:=fun {K} hK=>by
   refine⟨⟨_,?_,hK⟩⟩
   have h:=congrArg (fun x=>x[3]?) hwin
   simp only [win,List.getElem?_take,List.getElem?_drop] at h
   simpa [Evt.cells] using h
  by_cases hc:0<=zg2 l w
  ·obtain⟨⟨w1,w2⟩,w3,w4⟩:=wgo hc
   rw [w1] at u1
   rw [w2] at u2
   rw [w3] at u3
   rw [w4] at u4
   rw [e1] at u1 u2
   rw [e2] at u3 u4
   replace ht:=ht (by omega)
   clear w1 w2 w3 w4 wgo e1 e2 lb1 lb2
   clear hFn
   generalize zg2 l w=F at *
   subst hFw
   repeat' ((conv=>whnf);first
   | refine Yz ?_
    | (refine hpk ?_)
    | (apply zai.of;assumption)
    | (refine zc2.at 0 cu (by omega) (by omega) (by omega) ?_;(try dsimp only);rw [hwc])
    | (refine o1 rfl ?_)
    | (refine zpg.ofI (r':= .d (.list w ((l.take w).flatMap Evt.cells))) isB rfl rfl rfl rfl hev rfl rfl rfl rfl ?_)
    | (refine Cmp.ff (fun h=>h rfl) ?_)
    | (refine Cmp.ff (Int.not_lt.2 (Int.ofNat_le.2 hwl)) ?_)
    | (refine Cmp.tt rfl ?_)
    | with_reducible (refine zak.step (live:=[0,5,8,9,14,15,17,126,127,128]) g.lim ?_)
    | (refine zpg.ofI (r':=Aqv (t1,0)) isB rfl rfl rfl rfl u1 rfl rfl rfl rfl ?_)
    | (refine zpg.ofI (r':=Aqv (t1,0)) isA rfl rfl rfl rfl u2 rfl rfl rfl rfl ?_)
    | (refine zpg.ofI (r':=Aqv (t2,0)) isB rfl rfl rfl rfl u3 rfl rfl rfl rfl ?_)
    | (refine zpg.ofI (r':=Aqv (t2,0)) isA rfl rfl rfl rfl u4 rfl rfl rfl rfl ?_)
    | (refine zcp.mk (by rw [hmx];simp only [List.length_append,List.length_cons,List.length_nil];omega) ?_)
    | (refine zak.to (zz0 g l hl hz w hwl ?_) rfl rfl)
    | (refine zpg.ofI (r':=LE l) isB rfl rfl rfl rfl hevl rfl rfl rfl rfl ?_)
    | (refine zpg.ofI (r':=S (zpf l)) isB rfl rfl rfl rfl hlog rfl rfl rfl rfl ?_)
    | (refine Ret.mk rfl)
    | fail)
  ·clear wgo e1 e2 lb1 lb2 u1 u2 u3 u4 ht hFn
   generalize zg2 l w=F at *
   subst hFw
   repeat' ((conv=>whnf);first
   | refine Yz ?_
    | (refine hpk ?_)
    | (apply zai.of;assumption)
    | (refine zc2.at 0 cu (by omega) (by omega) (by omega) ?_;(try dsimp only);rw [hwc])
    | (refine o1 rfl ?_)
    | (refine zpg.ofI (r':= .d (.list w ((l.take w).flatMap Evt.cells))) isB rfl rfl rfl rfl hev rfl rfl rfl rfl ?_)
    | (refine Cmp.ff (fun h=>h rfl) ?_)
    | (refine Cmp.ff (Int.not_lt.2 (Int.ofNat_le.2 hwl)) ?_)
    | (refine Cmp.tt rfl ?_)
    | (refine zak.to (zz0 g l hl hz w hwl ?_) rfl rfl)
    | (refine zpg.ofI (r':=LE l) isB rfl rfl rfl rfl hevl rfl rfl rfl rfl ?_)
    | (refine zpg.ofI (r':=S (zpf l)) isB rfl rfl rfl rfl hlog rfl rfl rfl rfl ?_)
    | (refine Ret.mk rfl)
    | fail)
 ·have hc:0<=zg2 l w:=by
   rw [<-hFn hwn]
   exact(z9q l rg0 0 hz (by decide)).1
  obtain⟨⟨w1,w2⟩,w3,w4⟩:=wgo hc
  rw [w1] at u1
  rw [w2] at u2
  rw [w3] at u3
  rw [w4] at u4
  rw [e1] at u1 u2
  rw [e2] at u3 u4
  replace ht:=ht (by omega)
  clear w1 w2 w3 w4 wgo e1 e2 lb1 lb2
  clear hFw
  replace hFn:=hFn hwn
  generalize zg2 l w=F at *
  subst hFn
  repeat' ((conv=>whnf);first
  | refine Yz ?_
   | (apply zai.of;assumption)
   | (refine zc2.at 0 cu (by omega) (by omega) (by omega) ?_;(try dsimp only);rw [hwc])
   | (refine o1 rfl ?_)
   | (refine zpg.ofI (r':= .d (.list w ((l.take w).flatMap Evt.cells))) isB rfl rfl rfl rfl hev rfl rfl rfl rfl ?_)
   | (refine Cmp.ff (fun h=>h rfl) ?_)
   | (refine Cmp.ff (Int.not_lt.2 (Int.ofNat_le.2 hwl)) ?_)
   | (refine Cmp.tt rfl ?_)
   | with_reducible (refine zak.step (live:=[0,5,8,9,14,15,17,126,127,128]) g.lim ?_)
   | (refine zpg.ofI (r':=Aqv (t1,0)) isB rfl rfl rfl rfl u1 rfl rfl rfl rfl ?_)
   | (refine zpg.ofI (r':=Aqv (t1,0)) isA rfl rfl rfl rfl u2 rfl rfl rfl rfl ?_)
   | (refine zpg.ofI (r':=Aqv (t2,0)) isB rfl rfl rfl rfl u3 rfl rfl rfl rfl ?_)
   | (refine zpg.ofI (r':=Aqv (t2,0)) isA rfl rfl rfl rfl u4 rfl rfl rfl rfl ?_)
   | (refine zcp.mk (by rw [hmx];simp only [List.length_append,List.length_cons,List.length_nil];omega) ?_)
   | (refine zak.to (zz0 g l hl hz w hwl ?_) rfl rfl)
   | (refine zpg.ofI (r':=LE l) isB rfl rfl rfl rfl hevl rfl rfl rfl rfl ?_)
   | (refine zpg.ofI (r':=S (zpf l)) isB rfl rfl rfl rfl hlog rfl rfl rfl rfl ?_)
   | (refine Ret.mk rfl)
   | fail)
end
theorem yi2 {E:Oracle} (g:Good E) {xs:List D} (h:z8t Tryz.prog [22,23] xs):Fc E zi2 (asV xs) (B true):=by
 obtain⟨x,y,rfl,h1,h2⟩:=yvf h
 obtain⟨l,rfl,hl,hb⟩:=yid h1
 obtain⟨a,rfl,ha⟩:=yvd Tryz.underlying23 h2
 simp only [Lit.wf,Bool.and_eq_true,decide_eq_true_eq] at ha
 exact z0n g l hl hb a ha
end Go.Proofs.YtnabmkmhbncidabGreatDoor.Co
