/-
  OfficeSessions: what its law leans on, part 2.
-/
import Derived.Laws.RangeAny
import Derived.Lib.SplitLaws
import Derived.Test.YtnabmkmhbncidaaGreatDoorAwR
import Derived.Test.YtnabmkmhbncidaaGreatDoorEvX
import Derived.Test.YtnabmkmhbncidaaGreatDoorEvY
import Derived.Test.YtnabmkmhbncidaaGreatDoorRead
import Derived.Test.YtnabmkmhbncidaaGreatDoorSpBase
import Derived.Test.YtnabmkmhbncidaaGreatDoorOsa
namespace Go.Proofs.YtnabmkmhbncidaaGreatDoor.Co
open Go Go.Evl
set_option maxHeartbeats 32000000
set_option maxRecDepth 100000
abbrev mS (lv sl:Nat) (ev:List Evt) (r:Rgs):Mem:=[(⟨lv,sl,0⟩,.cells zgh [.ref ⟨lv,sl,1⟩ 0 ev.length ev.length,I r.kn,.ref ⟨lv,sl,2⟩ 0 r.es.length r.es.length,.ref ⟨lv,sl,3⟩ 0 r.rs.length r.rs.length,.ref ⟨lv,sl,4⟩ 0 r.cs.length r.cs.length]),
 (⟨lv,sl,1⟩,.row false zac 5 ev.length (ev.flatMap Evt.cells)),(⟨lv,sl,2⟩,.row false zae 8 r.es.length (r.es.flatMap Ent.cells)),(⟨lv,sl,3⟩,.row false zam 2 r.rs.length (r.rs.flatMap Rmv.cells)),(⟨lv,sl,4⟩,.row true zai 5 r.cs.length (r.cs.flatMap Cpl.cells))]
theorem yd4 {r:Rgs} {l:List Evt} {k:Nat} (hk:k<l.length):zeh r k (l.drop k)=if zie r k l[k]≠0 then(rg0,k+1,zie r k l[k]) else zeh (zp8 r l[k]) (k+1) (l.drop (k+1)):=by
 rw [List.drop_eq_getElem_cons hk,zh2]
section
variable {E : Oracle} (g : Good E)
include g
theorem z8m (l:List Evt) (hl:l.length<=1000) (hb:∀e∈l,e.ns.length<=1000000/\e.vs.length<=1000000):
  In E 0 ze5 [LE l] [] fun v m'=>((zeh rg0 0 l).2.2=0->v= .tup [.ptr ⟨0,13,0⟩ 0 0,I 0,I 0]/\m'=mH l (zeh rg0 0 l).1)/\((zeh rg0 0 l).2.2≠0->v= .tup [.d .nilp,I (zeh rg0 0 l).2.1,I (zeh rg0 0 l).2.2]):=by
 refine In.enter (f:=ze5) g.lim rfl rfl ?_
 have hml:(l.flatMap Evt.cells).length=l.length*5:=zag Evt.cells 5 evw l
 generalize hR:zeh rg0 0 l=R
 repeat' ((conv=>whnf);first
 | refine Yz ?_
  | fail)
 refine zak.to (zak.by (σ:=List Evt×Rgs) g (fun u=>u.1=l.take u.1.length/\u.1.length<=l.length/\OkR u.2/\u.2.rs.length<=u.1.length/\zeh u.2 u.1.length (l.drop u.1.length)=R)
  (fun u=>[(5,.ptr ⟨0,13,0⟩ 0 0),(14,LE l),(15,I l.length),(16,I u.1.length)]) (fun u=>mH u.1 u.2) (fun u=>l.length-u.1.length) ?_ ([],rg0) ⟨rfl,Nat.zero_le _,yh5,Nat.le_refl _,hR⟩) rfl rfl
 clear hR
 rintro⟨ev,r⟩ ⟨h1,h2,ho,h3,hR⟩ ih
 dsimp only at h1 h2 ho h3 hR ih ⊢
 by_cases hlt:ev.length<l.length
 ·rw [yd4 hlt] at hR
  have hwin:win (l.flatMap Evt.cells) (((ev.length:Nat):Int).toNat*5) 5=l[ev.length].cells:=by
   rw [Int.toNat_natCast]
   exact zb9 Evt.cells 5 evw l ev.length hlt
  obtain⟨hb1,hb2⟩:=hb _ (List.getElem_mem hlt)
  have ih:=fun hz:zie r ev.length l[ev.length]=0=>ih (ev++[l[ev.length]],zp8 r l[ev.length]) ⟨by
   rw [List.length_append,List.length_singleton,List.take_succ_eq_append_getElem hlt,<-h1],by
   rw [List.length_append,List.length_singleton];omega,yh4 ho hz (by omega),by
   have:=ycl r l[ev.length]
   dsimp only
   rw [List.length_append,List.length_singleton];omega,by
   rw [if_neg (fun h=>h hz)] at hR
   rw [List.length_append,List.length_singleton];exact hR⟩ (by rw [List.length_append,List.length_singleton];omega)
  simp only [List.length_append,List.length_cons,List.length_nil] at ih
  generalize l[ev.length]=e at *
  have hce:=zrb g e hb1 hb2
  by_cases hc:zi8 e=0
  ·rw [hc] at hce
   have hq:=z9a g zgh ev r ho e hc (by omega)
   have hst:zie r ev.length e=z12 r ev.length e:=by rw [zie,if_neg (fun h=>h hc)]
   by_cases ha:z12 r ev.length e=0
   ·rw [ha] at hq hst
    have ih:=ih hst
    repeat' ((conv=>whnf);first
    | refine Yz ?_
     | (rw [hwin])
     | (apply zah.of;assumption)
     | (refine zj6.of (r':=I 0) isH rfl rfl rfl rfl hq rfl rfl rfl ?_)
     | (refine ypy g ev r ho (by omega) e hst (by omega) (slot:=35) ?_)
     | (refine zak.to ih rfl rfl)
     | fail)
   ·rw [hst,if_pos ha] at hR
    generalize z12 r ev.length e=x at *
    subst hR
    repeat' ((conv=>whnf);first
    | refine Yz ?_
     | (rw [hwin])
     | (apply zah.of;assumption)
     | (refine zj6.of (r':=I x) isH rfl rfl rfl rfl hq rfl rfl rfl ?_)
     | (refine Cmp.ff ha ?_)
     | (exact⟨fun h=>absurd h ha,fun _=>rfl⟩)
     | fail)
  ·have hst:zie r ev.length e=zi8 e:=by rw [zie,if_pos hc]
   rw [hst,if_pos hc] at hR
   generalize zi8 e=x at *
   subst hR
   repeat' ((conv=>whnf);first
   | refine Yz ?_
    | (rw [hwin])
    | (apply zah.of;assumption)
    | (refine Cmp.ff hc ?_)
    | (exact⟨fun h=>absurd h hc,fun _=>rfl⟩)
    | fail)
 ·have e1:ev=l:=by rw [h1,List.take_of_length_le (by omega)]
  subst e1
  rw [List.drop_of_length_le (by omega)] at hR
  subst hR
  repeat' ((conv=>whnf);first
  | refine Yz ?_
   | (exact⟨fun _=>⟨rfl,rfl⟩,fun h=>absurd rfl h⟩)
   | fail)
theorem zb8.replay {l:List Evt} (hl:l.length<=1000) (hb:∀e∈l,e.ns.length<=1000000/\e.vs.length<=1000000) {cx:Cx} {slot:Nat} {m:Mem} {K:V->Mem->Prop} (hf:Go.Evl.freeK cx.lv slot m=0) (hz:(zeh rg0 0 l).2.2=0)
  (k:K (.tup [.ptr ⟨cx.lv,slot,0⟩ 0 0,I 0,I 0]) (m++mS cx.lv slot l (zeh rg0 0 l).1)):zb8 E ze5 [LE l] cx slot m K:=by
 obtain⟨v,m',h1,h2,_⟩:=(z8m g l hl hb).got
 obtain⟨rfl,rfl⟩:=h2 hz
 refine⟨_,_,(_,m++mS cx.lv slot l (zeh rg0 0 l).1),h1,?_,k⟩
 unfold Evl.settle
 rw [hf]
 rfl
theorem zb8.replayNo {l:List Evt} (hl:l.length<=1000) (hb:∀e∈l,e.ns.length<=1000000/\e.vs.length<=1000000) {cx:Cx} {slot:Nat} {m:Mem} {K:V->Mem->Prop} (hz:(zeh rg0 0 l).2.2≠0)
  (k:K (.tup [.d .nilp,I (zeh rg0 0 l).2.1,I (zeh rg0 0 l).2.2]) (m++[])):zb8 E ze5 [LE l] cx slot m K:=by
 obtain⟨v,m',h1,_,h2⟩:=(z8m g l hl hb).got
 obtain rfl:=h2 hz
 exact⟨_,_,(_,m++[]),h1,rfl,k⟩
end
def yau (r:Rgs) (s:List UInt8) (kn d:Int) (x:Ent):Bool:=decide (x.sr=s)&&decide (x.fr<=d)&&decide (d<=x.to)&&zxa r x kn
def zu2 (r:Rgs) (s:List UInt8) (kn d:Int):Int:=r.es.foldl (fun o x=>if yau r s kn d x then x.mi else o) 1440
theorem z0q {α:Type} (p:α->Bool) (f:α->Int):∀(l:List α) (a:Int),(∀x∈l,p x=false)->l.foldl (fun o x=>if p x then f x else o) a=a
 | [],a,_=>rfl
 | x::l,a,h=>by
  rw [List.foldl_cons,h x (by simp)]
  exact z0q p f l a fun y hy=>h y (by simp [hy])
theorem yk0 {α:Type} (p:α->Bool) (f:α->Int) (l:List α) (a:Int) {k:Nat} (hk:k<l.length) (h:p l[k]=true) (hn:∀j,(hj:j<l.length)->k<j->p l[j]=false):l.foldl (fun o x=>if p x then f x else o) a=f l[k]:=by
 have h1:l=l.take k++l[k]::l.drop (k+1):=by rw [<-List.drop_eq_getElem_cons hk,List.take_append_drop]
 have h2:∀x∈l.drop (k+1),p x=false:=fun x hx=>by
  obtain⟨j,hj,rfl⟩:=List.mem_iff_getElem.1 hx
  rw [List.length_drop] at hj
  rw [List.getElem_drop]
  exact hn _ (by omega) (by omega)
 have h3:(l.take k++l[k]::l.drop (k+1)).foldl (fun o x=>if p x then f x else o) a=f l[k]:=by
  rw [List.foldl_append,List.foldl_cons,z0q p f _ _ h2,h]
  rfl
 rw [<-h1] at h3
 exact h3
theorem ylh {r:Rgs} {s:List UInt8} {kn d:Int} {k:Nat} (hk:k<r.es.length) (h:yau r s kn d r.es[k]=true) (hn:∀j,(hj:j<r.es.length)->k<j->yau r s kn d r.es[j]=false):zu2 r s kn d=r.es[k].mi:=yk0 _ _ _ _ hk h hn
theorem yhq {r:Rgs} {s:List UInt8} {kn d:Int} (hn:∀j,(hj:j<r.es.length)->yau r s kn d r.es[j]=false):zu2 r s kn d=1440:=z0q _ _ _ _ fun x hx=>by
 obtain⟨j,hj,rfl⟩:=List.mem_iff_getElem.1 hx
 exact hn j hj
section
variable {E : Oracle} (g : Good E)
include g
theorem zb8.backward {n:Nat} {cs:List D} {cx:Cx} {slot:Nat} {m:Mem} {K:V->Mem->Prop} (hf:Go.Evl.freeK cx.lv slot m=0)
  (k:K (.fn zat [] [.ptr ⟨cx.lv,slot,0⟩ 0 0]) (m++[(⟨cx.lv,slot,0⟩,.cells zix [.d (.list n cs)])])):zb8 E za0 [.d (.list n cs)] cx slot m K:=by
 have h:In E 0 za0 [.d (.list n cs)] [] fun v m'=>v= .fn zat [] [.ptr ⟨0,1,0⟩ 0 0]/\m'=[(⟨0,1,0⟩,.cells zix [.d (.list n cs)])]:=by
  refine In.enter (f:=za0) g.lim rfl rfl ?_
  repeat' ((conv=>whnf);first
  | refine Yz ?_
   | (exact⟨rfl,rfl⟩)
   | fail)
 obtain⟨v,m',h1,rfl,rfl⟩:=h.got
 refine⟨_,_,(_,_),h1,?_,k⟩
 unfold Evl.settle
 rw [hf]
 rfl
theorem ydz (t:Nat) (ev:List Evt) (r:Rgs) (ho:OkR r) (s:List UInt8) (kn d:Int):Qs E zba [.ptr ⟨0,0,0⟩ 1 0,S s,I kn,I d] (mR t ev r) (I (zu2 r s kn d)):=by
 refine⟨?_⟩
 have hes:=ho.es
 have hml:(r.es.flatMap Ent.cells).length=r.es.length*8:=zag Ent.cells 8 zj5 r.es
 refine In.enter (f:=zba) g.lim rfl rfl ?_
 repeat' ((conv=>whnf);first
 | refine Yz ?_
  | (rw [if_pos ⟨rfl,rfl⟩];refine zb8.backward g rfl ?_)
  | (refine zb8.backward g rfl ?_)
  | (refine In.enter (f:=zat) g.lim rfl rfl ?_)
  | fail)
 refine zak.to (zak.by (σ:=Nat) g (fun n=>n<=r.es.length/\∀j,(hj:j<r.es.length)->n<=j->yau r s kn d r.es[j]=false)
  (fun n=>[(0,.yld ⟨1,43,0⟩),(1,.ptr ⟨1,15,0⟩ 0 0),(3,I ((n:Int)-1))])
  (fun _=>mR t ev r++[(⟨1,4,0⟩,.cells za3 [.ptr ⟨0,0,0⟩ 1 0]),(⟨1,5,0⟩,.cells zab [S s]),(⟨1,6,0⟩,.cells zbq [I kn]),(⟨1,7,0⟩,.cells zbq [I d]),(⟨1,8,0⟩,.cells zbq [I 0]),(⟨1,15,0⟩,.cells zix [.d (.list r.es.length (r.es.flatMap Ent.cells))]),
   (⟨1,43,0⟩,.loop [(4,.ptr ⟨1,4,0⟩ 0 0),(5,.ptr ⟨1,5,0⟩ 0 0),(6,.ptr ⟨1,6,0⟩ 0 0),(7,.ptr ⟨1,7,0⟩ 0 0),(8,.ptr ⟨1,8,0⟩ 0 0),(15,.fn zat [] [.ptr ⟨1,15,0⟩ 0 0])] [16,17] zh5 zh6 1 false false none)])
  (fun n=>n) ?_ r.es.length ⟨Nat.le_refl _,fun j hj h=>absurd hj (by omega)⟩) rfl rfl
 rintro n ⟨h1,h2⟩ ih
 dsimp only at ih ⊢
 rcases Nat.eq_zero_or_pos n with rfl|hn
 ·rw [yhq fun j hj=>h2 j hj (Nat.zero_le _)]
  repeat' ((conv=>whnf);first
  | refine Yz ?_
   | (exact⟨rfl,rfl,rfl,rfl,rfl,rfl,trivial⟩)
   | fail)
 ·obtain⟨k,rfl⟩:∃k,n=k+1:=⟨n-1,by omega⟩
  have hk:k<r.es.length:=by omega
  have e1:((k+1:Nat):Int)-1=k:=by omega
  have hwin:win (r.es.flatMap Ent.cells) (((k:Nat):Int).toNat*8) 8=r.es[k].cells:=by
   rw [Int.toNat_natCast]
   exact zb9 Ent.cells 8 zj5 r.es k hk
  have hq:=yoj g t ev r ho kn k hk
  have ih:=fun h:yau r s kn d r.es[k]=false=>ih k ⟨by omega,fun j hj hkj=>by
   by_cases e:j=k
   ·subst e;exact h
   ·exact h2 j hj (by omega)⟩ (by omega)
  rw [e1]
  have hhit:yau r s kn d r.es[k]=(decide (r.es[k].sr=s)&&decide (r.es[k].fr<=d)&&decide (d<=r.es[k].to)&&zxa r r.es[k] kn):=rfl
  by_cases hs:r.es[k].sr=s
  ·by_cases hf:r.es[k].fr<=d
   ·by_cases ht:d<=r.es[k].to
    ·cases hc:zxa r r.es[k] kn with
     | true=>
      rw [hc] at hq
      rw [ylh hk (by rw [hhit,decide_eq_true hs,decide_eq_true hf,decide_eq_true ht,hc];rfl) fun j hj hjk=>h2 j hj (by omega)]
      repeat' ((conv=>whnf);first
      | refine Yz ?_
       | (rw [hwin])
       | (refine Rnd.enter g.lim ?_)
       | (refine Cmp.tt hs ?_)
       | (refine zj6.of (r':=B true) isR rfl rfl rfl rfl hq rfl rfl rfl ?_)
       | (exact⟨rfl,rfl,rfl,rfl,rfl,rfl,trivial⟩)
       | fail)
     | false=>
      rw [hc] at hq
      have ih:=ih (by rw [hhit,hc,Bool.and_false])
      repeat' ((conv=>whnf);first
      | refine Yz ?_
       | (rw [hwin])
       | (refine Rnd.enter g.lim ?_)
       | (refine Cmp.tt hs ?_)
       | (refine zj6.of (r':=B false) isR rfl rfl rfl rfl hq rfl rfl rfl ?_)
       | (refine zak.to ih rfl rfl)
       | fail)
    ·have ih:=ih (by rw [hhit,decide_eq_false ht,Bool.and_false,Bool.false_and])
     repeat' ((conv=>whnf);first
     | refine Yz ?_
      | (rw [hwin])
      | (refine Rnd.enter g.lim ?_)
      | (refine Cmp.tt hs ?_)
      | (refine zak.to ih rfl rfl)
      | fail)
   ·have ih:=ih (by rw [hhit,decide_eq_false hf,Bool.and_false,Bool.false_and,Bool.false_and])
    repeat' ((conv=>whnf);first
    | refine Yz ?_
     | (rw [hwin])
     | (refine Rnd.enter g.lim ?_)
     | (refine Cmp.tt hs ?_)
     | (refine zak.to ih rfl rfl)
     | fail)
  ·have ih:=ih (by rw [hhit,decide_eq_false hs,Bool.false_and,Bool.false_and,Bool.false_and])
   repeat' ((conv=>whnf);first
   | refine Yz ?_
    | (rw [hwin])
    | (refine Rnd.enter g.lim ?_)
    | (refine Cmp.ff hs ?_)
    | (refine zak.to ih rfl rfl)
    | fail)
end
abbrev rgL (l:List Evt):Rgs:=(zeh rg0 0 l).1
abbrev erL (l:List Evt):Int:=(zeh rg0 0 l).2.2
structure yrb where
 kn:Int
 mi:Int
def yrb.cells (t:yrb):List D:=[DI t.kn,DI t.mi]
theorem z9d:∀(l:List Evt) (r:Rgs) (n:Nat),(zeh r n l).2.2=0->∀e∈l,zi8 e=0
 | [],_,_,_,e,he=>absurd he (by simp)
 | x::l,r,n,h,e,he=>by
  rw [zh2] at h
  by_cases hs:zie r n x≠0
  ·rw [if_pos hs] at h;exact absurd h hs
  ·rw [if_neg hs] at h
   rcases List.mem_cons.1 he with rfl|he
   ·exact(z1x (Decidable.byContradiction hs)).1
   ·exact z9d l _ _ h e he
theorem z4l {l:List Evt} (hl:l.length<=1000) (h:erL l=0):OkR (rgL l):=yd6 l rg0 0 yh5 (Nat.le_refl _) (by omega) h
section
variable {E : Oracle} (g : Good E)
include g
theorem z9j (n:Int):Fc E za1 [I n] (I (rng n 0 99999)):=by
 refine g.fn rfl rfl ?_
 have h:=z1t g n 0 99999
 repeat' ((conv=>whnf);first
 | refine Yz ?_
  | (apply zah.of;assumption)
  | (refine Ret.mk rfl)
  | fail)
theorem yk3 (l:List Evt) (hl:l.length<=1000) (hb:∀e∈l,e.ns.length<=1000000/\e.vs.length<=1000000) (fs:List Int) (hfs:fs.length<=1000):
  In E 0 zdh [LE l,LI fs] [] fun v m'=>(zar [erL l,zar fs]=0->v= .tup [.ptr ⟨0,11,0⟩ 1 0,I 0]/\m'=mS 0 11 l (rgL l))/\(zar [erL l,zar fs]≠0->v= .tup [.d .nilp,I (zar [erL l,zar fs])]):=by
 have hf:=zy0 g fs (by omega)
 have hf2:=zec g (erL l) (zar fs)
 refine In.enter (f:=zdh) g.lim rfl rfl ?_
 by_cases hz:erL l=0
 ·have hr:=@zb8.replay E g l hl hb
  rw [hz] at hf2 ⊢
  have e0:zar [0,zar fs]=zar fs:=by
   have h1:∀x:Int,zar [x]=x:=fun x=>by
    by_cases h:x=0
    ·subst h;rfl
    ·unfold zar;rw [if_neg h]
   exact h1 _
  rw [e0] at hf2 ⊢
  generalize zar fs=x at *
  by_cases hx:x=0
  ·subst hx
   repeat' ((conv=>whnf);first
   | refine Yz ?_
    | (refine hr rfl hz ?_)
    | (apply zah.of;assumption)
    | (exact⟨fun _=>⟨rfl,rfl⟩,fun h=>absurd rfl h⟩)
    | fail)
  ·repeat' ((conv=>whnf);first
  | refine Yz ?_
    | (refine hr rfl hz ?_)
    | (apply zah.of;assumption)
    | (refine Cmp.ff hx ?_)
    | (exact⟨fun h=>absurd h hx,fun _=>rfl⟩)
    | fail)
 ·have hr:=@zb8.replayNo E g l hl hb
  have e0:zar [erL l,zar fs]=erL l:=by unfold zar;rw [if_neg hz]
  rw [e0] at hf2 ⊢
  generalize zar fs=x at *
  unfold erL at *
  generalize (zeh rg0 0 l).2.2=z at *
  repeat' ((conv=>whnf);first
  | refine Yz ?_
   | (refine hr hz ?_)
   | (apply zah.of;assumption)
   | (refine Cmp.ff hz ?_)
   | (exact⟨fun h=>absurd h hz,fun _=>rfl⟩)
   | fail)
theorem zb8.asked {l:List Evt} (hl:l.length<=1000) (hb:∀e∈l,e.ns.length<=1000000/\e.vs.length<=1000000) {fs:List Int} (hfs:fs.length<=1000) {cx:Cx} {slot:Nat} {m:Mem} {K:V->Mem->Prop} (hf:Go.Evl.freeK cx.lv slot m=0) (hz:zar [erL l,zar fs]=0)
  (k:K (.tup [.ptr ⟨cx.lv,slot,0⟩ 1 0,I 0]) (m++mS cx.lv slot l (rgL l))):zb8 E zdh [LE l,LI fs] cx slot m K:=by
 obtain⟨v,m',h1,h2,_⟩:=(yk3 g l hl hb fs hfs).got
 obtain⟨rfl,rfl⟩:=h2 hz
 refine⟨_,_,(_,m++mS cx.lv slot l (rgL l)),h1,?_,k⟩
 unfold Evl.settle
 rw [hf]
 rfl
end
def ygl (r:Rgs) (kn:Int):List (List UInt8):=(r.es.filter fun x=>zxa r x kn).map Ent.nm
theorem zd3 {α:Type} (p:α->Bool) (l:List α) (k:Nat) (h:k<l.length):(l.take (k+1)).filter p=(l.take k).filter p++if p l[k] then [l[k]] else []:=by
 rw [List.take_succ_eq_append_getElem h,List.filter_append]
 cases hp:p l[k]<;>simp [hp]
structure Us (E:Oracle) (f:Nat) (as0:List V) (m0:Mem) (r:V) (m2:Mem):Prop where
 got:In E 1 f as0 m0 fun v m1=>v=r/\z4y m1 m2
theorem z3x (m1:Mem):∀(m:Mem) (i:Evl.Id) (o:Ob),z4y m1 m->Evl.look m i=some o->Evl.look m1 i=some o
 | [],_,_,_,h=>by simp [Evl.look] at h
 | (j,x)::r,i,o,⟨h1,h2⟩,h=>by
  simp only [Evl.look] at h
  split at h
  ·rename_i e
   subst e
   obtain rfl:=Option.some.inj h
   exact h1
  ·exact z3x m1 r i o h2 h
theorem zvz {σ:List (Evl.Id×Evl.Id)} {m1 m2:Mem} (hk:z4y m1 m2):∀(l:List (Evl.Id×Evl.Id)) (m m':Mem),zs3 σ m2 l m=some m'->zs3 σ m1 l m=some m'
 | [],_,_,h=>h
 | (a,b)::r,m,m',h=>by
  simp only [zs3] at h ⊢
  cases hl:Evl.look m2 b with
  | none=>rw [hl] at h;cases h
  | some o=>
   rw [hl] at h
   rw [z3x m1 m2 b o hk hl]
   dsimp only at h ⊢
   split at h
   ·rename_i hc
    rw [if_pos hc]
    exact zvz hk r _ m' h
   ·cases h
theorem zqp.of {E:Oracle} {f:Nat} {first caps args as0:List V} {m m0 m2 m':Mem} {r r':V} {K:V->Mem->Prop} (is:List Evl.Id) (his:reach 0 m 64 (idsL ((first ++args++caps).map (zvq m))) []=is)
  (hc:(within is 0 (idsL ((first ++args++caps).map (zvq m)))&&movable is 0 m)=true) (has:renL (number ⟨0,0⟩ 0 0 is) ((first ++args++caps).map (zvq m))=as0) (hm:moved (number ⟨0,0⟩ 0 0 is) m (number ⟨0,0⟩ 0 0 is)=m0)
  (hq:Us E f as0 m0 r m2) (hb:zs3 (number ⟨0,0⟩ 0 0 is) m2 (number ⟨0,0⟩ 0 0 is) m=some m') (hid:(ids r).all (fun i=>((number ⟨0,0⟩ 0 0 is).map (·.2)).elem i)=true) (hr:ren (znd (number ⟨0,0⟩ 0 0 is)) r=r') (hk:K r' m'):zqp E false (.fn f first caps) args m K:=by
 obtain⟨v,m1,h1,rfl,h3⟩:=hq.got
 refine⟨r',m',?_,hk⟩
 simp only [zsj,his,hc,if_true,has,hm,h1]
 rw [if_neg (by decide),hid,zvz h3 _ _ _ hb,<-hr]
 rfl
structure Ui (E:Oracle) (f:Nat) (as0:List V) (m0:Mem) (r:V) (m2:Mem):Prop where
 got:In E 1 f as0 m0 fun v m1=>zv0 ⟨0,1⟩ 0 true v m1 fun v' m'=>v'=r/\z4y m' m2
theorem zqp.ofI {E:Oracle} {f:Nat} {first caps args as0:List V} {m m0 m2 m':Mem} {r r':V} {K:V->Mem->Prop} (is:List Evl.Id) (his:reach 0 m 64 (idsL ((first ++args++caps).map (zvq m))) []=is)
  (hc:(within is 0 (idsL ((first ++args++caps).map (zvq m)))&&movable is 0 m)=true) (has:renL (number ⟨0,0⟩ 0 0 is) ((first ++args++caps).map (zvq m))=as0) (hm:moved (number ⟨0,0⟩ 0 0 is) m (number ⟨0,0⟩ 0 0 is)=m0)
  (hq:Ui E f as0 m0 r m2) (hlow:zig 1 (znr m0)=true) (hb:zs3 (number ⟨0,0⟩ 0 0 is) m2 (number ⟨0,0⟩ 0 0 is) m=some m') (hid:(ids r).all (fun i=>((number ⟨0,0⟩ 0 0 is).map (·.2)).elem i)=true) (hr:ren (znd (number ⟨0,0⟩ 0 0 is)) r=r') (hk:K r' m'):zqp E true (.fn f first caps) args m K:=by
 obtain⟨v,m1,h1,h2⟩:=hq.got
 obtain⟨⟨v',mm⟩,h5,h6,h3⟩:=z5a h2
 dsimp only at h5 h6 h3
 split at h5
 case isFalse=>cases h5
 rename_i h4
 subst h6
 refine⟨r',m',?_,hk⟩
 simp only [zsj,his,hc,if_true,has,hm,h1]
 rw [hlow,show zig 1 (idsAll (zel 1 m1))=true from h4]
 simp only [Bool.and_self,if_true]
 rw [show znk ⟨0,1⟩ 0 1 true (zel 1 m1) m1 v=some (v',mm) from h5]
 dsimp only
 rw [hid,zvz h3 _ _ _ hb,<-hr]
 rfl
section
variable {E : Oracle} (g : Good E)
include g
theorem yn0 (t:Nat) (ev:List Evt) (r:Rgs) (ho:OkR r) (hrs:r.rs.length<1000) (e:Evt) (hs:zie r ev.length e=0) (hev:ev.length<=1000) {K:V->Mem->Prop} (hK:∀m1,z4y m1 (mR t (ev++[e]) (zp8 r e))->K (.tup []) m1):
  In E 1 zaj [.ptr ⟨0,0,0⟩ 0 0,Evv e] (mR t ev r) K:=by
 obtain⟨hc,ha⟩:=z1x hs
 obtain⟨_,_,_,hask⟩:=z7i ha
 have hes:=ho.es
 have hcs:=ho.cs
 have hme:(ev.flatMap Evt.cells).length=ev.length*5:=zag Evt.cells 5 evw ev
 rcases zoq hc with⟨nu,ki,a,s,more,kn,f,u,m,rfl,hent,hfol,hki⟩|⟨nu,a,kn,rfl⟩|⟨nu,a,en,kn,rfl⟩|⟨nu,a,kn,v,rfl⟩
 ·have hc1:=zmi g (a::s::more) (by simp) (by
   have h:=(z0c hc).2.1
   dsimp only at h
   rw [h]
   rcases hki with rfl|rfl|rfl
   ·decide
   ·decide
   ·decide)
  have hc2:=zmh g [kn,f,u,m] (by simp) (by simp)
  rw [z18,if_pos hent] at hask
  obtain⟨_,hl,_⟩:=zzc hask
  have hml:(r.es.flatMap Ent.cells).length=r.es.length*8:=zag Ent.cells 8 zj5 r.es
  clear hs hc ha hask
  by_cases hf:ki=zb3
  ·obtain⟨b,rfl⟩:=hfol hf
   subst hf
   have haft:zp8 r ⟨nu,zb3,[a,s,b],[kn,f,u,m],[]⟩=⟨kn,r.es++[⟨a,zb3,s,b,kn,f,u,m⟩],r.rs,r.cs⟩:=rfl
   rw [haft] at hK
   simp only [List.length_append,List.length_cons,List.length_nil,List.flatMap_append,List.flatMap_cons,List.flatMap_nil,mR] at hK
   change Fc E _ [.d (.list 3 [.str a,.str s,.str b])] (.d (.list 3 [.str a,.str s,.str b])) at hc1
   change Fc E _ [.d (.list 4 [DI kn,DI f,DI u,DI m])] (.d (.list 4 [DI kn,DI f,DI u,DI m])) at hc2
   change In E 1 zaj [.ptr ⟨0,0,0⟩ 0 0,.d (.agg [DI nu,.str zb3,.list 3 [.str a,.str s,.str b],.list 4 [DI kn,DI f,DI u,DI m],.str []])] _ _
   refine In.enter (f:=zaj) g.lim rfl rfl ?_
   repeat' ((conv=>whnf);first
   | refine Yz ?_
    | (apply zah.of;assumption)
    | (refine zbd.mk ⟨rfl,rfl,rfl,rfl,rfl,rfl,by dsimp only;omega,by dsimp only;omega⟩ ?_)
    | (refine zb8.kinds g rfl ?_)
    | (refine zht.mk ⟨_,rfl,?_⟩)
    | (refine In.enter (f:=zap) g.lim rfl rfl ?_)
    | (exact hK _ ⟨rfl,rfl,rfl,rfl,rfl,trivial⟩)
    | fail)
  ·have haft:zp8 r ⟨nu,ki,a::s::more,[kn,f,u,m],[]⟩=⟨kn,r.es++[⟨a,ki,s,[],kn,f,u,m⟩],r.rs,r.cs⟩:=by
    rw [zp8,if_pos hent,z8f,if_neg hf]
    rfl
   rw [haft] at hK
   simp only [List.length_append,List.length_cons,List.length_nil,List.flatMap_append,List.flatMap_cons,List.flatMap_nil,mR] at hK
   change Fc E _ [.d (.list (more.length+1+1) (.str a:: .str s::more.map D.str))] (.d (.list (more.length+1+1) (.str a:: .str s::more.map D.str))) at hc1
   change Fc E _ [.d (.list 4 [DI kn,DI f,DI u,DI m])] (.d (.list 4 [DI kn,DI f,DI u,DI m])) at hc2
   change In E 1 zaj [.ptr ⟨0,0,0⟩ 0 0,.d (.agg [DI nu,.str ki,.list (more.length+1+1) (.str a:: .str s::more.map D.str),.list 4 [DI kn,DI f,DI u,DI m],.str []])] _ _
   rcases hki with rfl|rfl|rfl
   ·refine In.enter (f:=zaj) g.lim rfl rfl ?_
    repeat' ((conv=>whnf);first
    | refine Yz ?_
     | (apply zah.of;assumption)
     | (refine zbd.mk ⟨rfl,rfl,rfl,rfl,rfl,rfl,by dsimp only;omega,by dsimp only;omega⟩ ?_)
     | (refine zb8.kinds g rfl ?_)
     | (refine zht.mk ⟨_,rfl,?_⟩)
     | (refine In.enter (f:=zap) g.lim rfl rfl ?_)
     | (exact hK _ ⟨rfl,rfl,rfl,rfl,rfl,trivial⟩)
     | fail)
   ·refine In.enter (f:=zaj) g.lim rfl rfl ?_
    repeat' ((conv=>whnf);first
    | refine Yz ?_
     | (apply zah.of;assumption)
     | (refine zbd.mk ⟨rfl,rfl,rfl,rfl,rfl,rfl,by dsimp only;omega,by dsimp only;omega⟩ ?_)
     | (refine zb8.kinds g rfl ?_)
     | (refine zht.mk ⟨_,rfl,?_⟩)
     | (refine In.enter (f:=zap) g.lim rfl rfl ?_)
     | (exact hK _ ⟨rfl,rfl,rfl,rfl,rfl,trivial⟩)
     | fail)
   ·exact absurd rfl hf
 ·have hc1:=zmi g [a] (by simp) (by simp)
  have hc2:=zmh g [kn] (by simp) (by simp)
  have hml:(r.rs.flatMap Rmv.cells).length=r.rs.length*2:=zag Rmv.cells 2 yiz r.rs
  clear hs hc ha hask
  have haft:zp8 r ⟨nu,zdk,[a],[kn],[]⟩=⟨kn,r.es,r.rs++[⟨a,kn⟩],r.cs⟩:=rfl
  rw [haft] at hK
  simp only [List.length_append,List.length_cons,List.length_nil,List.flatMap_append,List.flatMap_cons,List.flatMap_nil,mR] at hK
  change Fc E _ [.d (.list 1 [.str a])] (.d (.list 1 [.str a])) at hc1
  change Fc E _ [.d (.list 1 [DI kn])] (.d (.list 1 [DI kn])) at hc2
  change In E 1 zaj [.ptr ⟨0,0,0⟩ 0 0,.d (.agg [DI nu,.str zdk,.list 1 [.str a],.list 1 [DI kn],.str []])] _ _
  refine In.enter (f:=zaj) g.lim rfl rfl ?_
  repeat' ((conv=>whnf);first
  | refine Yz ?_
   | (apply zah.of;assumption)
   | (refine zbd.mk ⟨rfl,rfl,rfl,rfl,rfl,rfl,by dsimp only;omega,by dsimp only;omega⟩ ?_)
   | (refine zb8.kinds g rfl ?_)
   | (refine zht.mk ⟨_,rfl,?_⟩)
   | (refine In.enter (f:=zg1) g.lim rfl rfl ?_)
   | (refine In.enter (f:=zbb) g.lim rfl rfl ?_)
   | (exact hK _ ⟨rfl,rfl,rfl,rfl,rfl,trivial⟩)
   | fail)
 ·have hc1:=zmi g [a,en] (by simp) (by simp)
  have hc2:=zmh g [kn] (by simp) (by simp)
  have hml:(r.cs.flatMap Cpl.cells).length=r.cs.length*5:=zag Cpl.cells 5 zop r.cs
  clear hs hc ha hask
  have haft:zp8 r ⟨nu,zco,[a,en],[kn],[]⟩=⟨kn,r.es,r.rs,r.cs++[⟨a,en,kn,false,false⟩]⟩:=rfl
  rw [haft] at hK
  simp only [List.length_append,List.length_cons,List.length_nil,List.flatMap_append,List.flatMap_cons,List.flatMap_nil,mR] at hK
  change Fc E _ [.d (.list 2 [.str a,.str en])] (.d (.list 2 [.str a,.str en])) at hc1
  change Fc E _ [.d (.list 1 [DI kn])] (.d (.list 1 [DI kn])) at hc2
  change In E 1 zaj [.ptr ⟨0,0,0⟩ 0 0,.d (.agg [DI nu,.str zco,.list 2 [.str a,.str en],.list 1 [DI kn],.str []])] _ _
  refine In.enter (f:=zaj) g.lim rfl rfl ?_
  repeat' ((conv=>whnf);first
  | refine Yz ?_
   | (apply zah.of;assumption)
   | (refine zbd.mk ⟨rfl,rfl,rfl,rfl,rfl,rfl,by dsimp only;omega,by dsimp only;omega⟩ ?_)
   | (refine zb8.kinds g rfl ?_)
   | (refine zht.mk ⟨_,rfl,?_⟩)
   | (refine In.enter (f:=zb6) g.lim rfl rfl ?_)
   | (exact hK _ ⟨rfl,rfl,rfl,rfl,rfl,trivial⟩)
   | fail)
 ·have hc1:=zmi g [a] (by simp) (by simp)
  have hc2:=zmh g [kn,v] (by simp) (by simp)
  have hml:(r.rs.flatMap Rmv.cells).length=r.rs.length*2:=zag Rmv.cells 2 yiz r.rs
  have hmc:(r.cs.flatMap Cpl.cells).length=r.cs.length*5:=zag Cpl.cells 5 zop r.cs
  change zp2 r a v=0 at hask
  rcases zmn r.cs a with h|⟨k,hk,h,hnm⟩
  ·rw [zp2,h,if_pos (by decide)] at hask
   omega
  have hgd:r.cs.getD k ycs=r.cs[k]:=by simp [List.getD,hk]
  have haft:zp8 r ⟨nu,zeo,[a],[kn,v],[]⟩=⟨kn,r.es,if v=1 then r.rs++[⟨r.cs[k].en,kn⟩] else r.rs,r.cs.set k {r.cs[k] with cl:=true,up:=decide (v=1)}⟩:=by
   change (Rgs.mk kn r.es (if v=1 then r.rs++[⟨(r.cs.getD (zth r.cs a).toNat ycs).en,kn⟩] else r.rs) (r.cs.set (zth r.cs a).toNat {r.cs.getD (zth r.cs a).toNat ycs with cl:=true,up:=decide (v=1)}))=_
   rw [h,Int.toNat_natCast,hgd]
  rw [haft] at hK
  have hq:=zpt g t (ev++[⟨nu,zeo,[a],[kn,v],[]⟩]) ⟨kn,r.es,r.rs,r.cs⟩ a (by dsimp only;omega)
  rw [show zth (Rgs.mk kn r.es r.rs r.cs).cs a=k from h,yks,if_pos (by omega)] at hq
  simp only [List.length_append,List.length_cons,List.length_nil,List.flatMap_append,List.flatMap_cons,List.flatMap_nil,mR] at hq
  clear hs hc ha hask haft
  have hp1:patch (r.cs.flatMap Cpl.cells) ((0+((k:Nat):Int).toNat)*5+3) [.bool true]=(r.cs.set k {r.cs[k] with cl:=true}).flatMap Cpl.cells:=by
   rw [Nat.zero_add,Int.toNat_natCast]
   exact zrg Cpl.cells 5 zop r.cs k 3 hk (by decide) _ _ rfl
  have hm1:((r.cs.set k {r.cs[k] with cl:=true}).flatMap Cpl.cells).length=r.cs.length*5:=by rw [zag Cpl.cells 5 zop,List.length_set]
  have hk1:k<(r.cs.set k {r.cs[k] with cl:=true}).length:=by rw [List.length_set];exact hk
  have hp2:∀b,patch ((r.cs.set k {r.cs[k] with cl:=true}).flatMap Cpl.cells) ((0+((k:Nat):Int).toNat)*5+4) [.bool b]=(r.cs.set k {r.cs[k] with cl:=true,up:=b}).flatMap Cpl.cells:=by
   intro b
   rw [Nat.zero_add,Int.toNat_natCast]
   have:=zrg Cpl.cells 5 zop (r.cs.set k {r.cs[k] with cl:=true}) k 4 hk1 (by decide) (.bool b) {r.cs[k] with cl:=true,up:=b} (by rw [List.getElem_set_self];rfl)
   rw [this,List.set_set]
  have hp3:∀b,k<(r.cs.set k {r.cs[k] with cl:=true,up:=b}).length:=fun b=>by rw [List.length_set];exact hk
  have hp4:∀b,(r.cs.set k {r.cs[k] with cl:=true,up:=b})[k]'(hp3 b)={r.cs[k] with cl:=true,up:=b}:=fun b=>List.getElem_set_self _
  change Fc E _ [.d (.list 1 [.str a])] (.d (.list 1 [.str a])) at hc1
  change Fc E _ [.d (.list 2 [DI kn,DI v])] (.d (.list 2 [DI kn,DI v])) at hc2
  change In E 1 zaj [.ptr ⟨0,0,0⟩ 0 0,.d (.agg [DI nu,.str zeo,.list 1 [.str a],.list 2 [DI kn,DI v],.str []])] _ _
  by_cases hv:v=1
  ·rw [if_pos hv,decide_eq_true hv] at hK
   simp only [List.length_append,List.length_cons,List.length_nil,List.flatMap_append,List.flatMap_cons,List.flatMap_nil,List.length_set,mR] at hK
   refine In.enter (f:=zaj) g.lim rfl rfl ?_
   repeat' ((conv=>whnf);first
   | refine Yz ?_
    | (apply zah.of;assumption)
    | (refine zbd.mk ⟨rfl,rfl,rfl,rfl,rfl,rfl,by dsimp only;omega,by dsimp only;omega⟩ ?_)
    | (refine zb8.kinds g rfl ?_)
    | (refine zht.mk ⟨_,rfl,?_⟩)
    | (refine Cmp.tt hv ?_)
    | (refine In.enter (f:=za7) g.lim rfl rfl ?_)
    | (refine zj6.of (r':= .ptr ⟨0,0,4⟩ ((0+((k:Nat):Int).toNat)*5) r.cs.length) isR rfl rfl rfl rfl hq rfl rfl rfl ?_)
    | (refine zbd.mk ⟨rfl,by omega,rfl⟩ ?_;first |rw [hp1]|rw [hp2])
    | (refine zfa.rec0 zop k rfl (hp3 true) (by rw [hp4];rfl) ?_)
    | (refine In.enter (f:=zbb) g.lim rfl rfl ?_)
    | (exact hK _ ⟨rfl,rfl,rfl,rfl,rfl,trivial⟩)
    | fail)
  ·rw [if_neg hv,decide_eq_false hv] at hK
   simp only [List.length_append,List.length_cons,List.length_nil,List.flatMap_append,List.flatMap_cons,List.flatMap_nil,List.length_set,mR] at hK
   refine In.enter (f:=zaj) g.lim rfl rfl ?_
   repeat' ((conv=>whnf);first
   | refine Yz ?_
    | (apply zah.of;assumption)
    | (refine zbd.mk ⟨rfl,rfl,rfl,rfl,rfl,rfl,by dsimp only;omega,by dsimp only;omega⟩ ?_)
    | (refine zb8.kinds g rfl ?_)
    | (refine zht.mk ⟨_,rfl,?_⟩)
    | (refine Cmp.ff hv ?_)
    | (refine In.enter (f:=za7) g.lim rfl rfl ?_)
    | (refine zj6.of (r':= .ptr ⟨0,0,4⟩ ((0+((k:Nat):Int).toNat)*5) r.cs.length) isR rfl rfl rfl rfl hq rfl rfl rfl ?_)
    | (refine zbd.mk ⟨rfl,by omega,rfl⟩ ?_;first |rw [hp1]|rw [hp2])
    | (refine zfa.rec0 zop k rfl (hp3 false) (by rw [hp4];rfl) ?_)
    | (refine In.enter (f:=zbb) g.lim rfl rfl ?_)
    | (exact hK _ ⟨rfl,rfl,rfl,rfl,rfl,trivial⟩)
    | fail)
theorem ysb (t:Nat) (ev:List Evt) (r:Rgs) (ho:OkR r) (hrs:r.rs.length<1000) (e:Evt) (hs:zie r ev.length e=0) (hev:ev.length<=1000):Us E zaj [.ptr ⟨0,0,0⟩ 0 0,Evv e] (mR t ev r) (.tup []) (mR t (ev++[e]) (zp8 r e)):=
 ⟨yn0 g t ev r ho hrs e hs hev fun _ h=>⟨rfl,h⟩⟩
end
section
variable {E : Oracle} (g : Good E)
include g
theorem z8l (ev:List Evt) (r:Rgs) (ho:OkR r) (kn:Int) {slot:Nat} {K:V->Mem->Prop} (hK:K (Ws (ygl r kn)) (mR zaa ev r)):
  In E 1 zcb [.ptr ⟨0,0,0⟩ 1 0,I kn] (mR zaa ev r) fun v m'=>zv0 ⟨0,1⟩ slot true v m' K:=by
 have hes:=ho.es
 have hml:(r.es.flatMap Ent.cells).length=r.es.length*8:=zag Ent.cells 8 zj5 r.es
 refine In.enter (f:=zcb) g.lim rfl rfl ?_
 repeat' ((conv=>whnf);first
 | refine Yz ?_
  | (refine In.enter (f:=zcx) g.lim rfl rfl ?_)
  | fail)
 refine zak.to (zak.by (σ:=Nat×List Ent) g (fun u=>u.1<=r.es.length/\u.2=(r.es.take u.1).filter fun x=>zxa r x kn)
  (fun u=>[(1,.fn zcl [] [.ptr ⟨1,2,0⟩ 0 0,.ptr ⟨1,3,0⟩ 0 0]),(5,.ref ⟨2,5,0⟩ 0 u.2.length u.2.length),(8,.ref ⟨0,0,2⟩ 0 r.es.length r.es.length),(9,I r.es.length),(10,I u.1)])
  (fun u=>mR zaa ev r++[(⟨1,2,0⟩,.cells za3 [.ptr ⟨0,0,0⟩ 1 0]),(⟨1,3,0⟩,.cells zbq [I kn]),(⟨2,4,0⟩,.row false zae 8 0 []),(⟨2,5,0⟩,.row false zae 8 u.2.length (u.2.flatMap Ent.cells))])
  (fun u=>r.es.length-u.1) ?_ (0,[]) ⟨Nat.zero_le _,rfl⟩) rfl rfl
 rintro⟨k,out⟩ ⟨h1,h2⟩ ih
 dsimp only at h1 h2 ih ⊢
 have hmo:(out.flatMap Ent.cells).length=out.length*8:=zag Ent.cells 8 zj5 out
 have hol:out.length<=256:=by
  rw [h2]
  refine Nat.le_trans (List.length_filter_le _ _) ?_
  rw [List.length_take];omega
 by_cases hlt:k<r.es.length
 ·have hwin:win (r.es.flatMap Ent.cells) ((0+((k:Nat):Int).toNat)*8) 8=r.es[k].cells:=by
   rw [Nat.zero_add,Int.toNat_natCast]
   exact zb9 Ent.cells 8 zj5 r.es k hlt
  have hq:=yoj g zaa ev r ho kn k hlt
  cases hc:zxa r r.es[k] kn with
  | true=>
   rw [hc] at hq
   have ih:=ih (k+1,out++[r.es[k]]) ⟨by dsimp only;omega,by dsimp only;rw [zd3 _ _ _ hlt,<-h2,hc];rfl⟩ (by dsimp only;omega)
   simp only [List.length_append,List.length_cons,List.length_nil,List.flatMap_append,List.flatMap_cons,List.flatMap_nil] at ih
   repeat' ((conv=>whnf);first
   | refine Yz ?_
    | (rw [hwin])
    | (refine In.enter (f:=zcl) g.lim rfl rfl ?_)
    | (refine zj6.of (r':=B true) [⟨0,0,0⟩,⟨0,0,1⟩,⟨0,0,2⟩,⟨0,0,3⟩,⟨0,0,4⟩] rfl rfl rfl rfl hq rfl rfl rfl ?_)
    | (refine zbd.mk ⟨rfl,rfl,rfl,rfl,rfl,rfl,by dsimp only;omega,by dsimp only;omega⟩ ?_)
    | (refine zak.to ih rfl rfl)
    | fail)
  | false=>
   rw [hc] at hq
   have ih:=ih (k+1,out) ⟨by dsimp only;omega,by dsimp only;rw [zd3 _ _ _ hlt,<-h2,hc];simp⟩ (by dsimp only;omega)
   repeat' ((conv=>whnf);first
   | refine Yz ?_
    | (rw [hwin])
    | (refine In.enter (f:=zcl) g.lim rfl rfl ?_)
    | (refine zj6.of (r':=B false) [⟨0,0,0⟩,⟨0,0,1⟩,⟨0,0,2⟩,⟨0,0,3⟩,⟨0,0,4⟩] rfl rfl rfl rfl hq rfl rfl rfl ?_)
    | (refine zak.to ih rfl rfl)
    | fail)
 ·rw [List.take_of_length_le (by omega)] at h2
  have hcl:ygl r kn=out.map Ent.nm:=by rw [ygl,<-h2]
  rw [hcl] at hK
  clear hcl h2 ih
  repeat' ((conv=>whnf);first
  | refine Yz ?_
   | (refine zbd.mk ⟨rfl,by omega⟩ ?_)
   | (rw [if_pos ⟨rfl,rfl⟩];refine In.enter (f:=zaz) g.lim rfl rfl ?_)
   | (refine In.enter (f:=zaz) g.lim rfl rfl ?_)
   | fail)
  refine zak.to (zak.by (σ:=List (List UInt8)) g (fun u=>u.length<=out.length/\u=(out.take u.length).map Ent.nm)
   (fun u=>[(1,.fn zgu [] []),(5,.ref ⟨2,5,0⟩ 0 u.length u.length),(8,.d (.list out.length (out.flatMap Ent.cells))),(9,I out.length),(10,I u.length)])
   (fun u=>mR zaa ev r++[(⟨1,2,0⟩,.cells za3 [.ptr ⟨0,0,0⟩ 1 0]),(⟨1,3,0⟩,.cells zbq [I kn]),(⟨2,4,0⟩,.row false zab 1 0 []),(⟨2,5,0⟩,.row false zab 1 u.length (u.map D.str))])
   (fun u=>out.length-u.length) ?_ [] ⟨Nat.zero_le _,rfl⟩) rfl rfl
  rintro u ⟨h3,h4⟩ ih
  dsimp only at h3 h4 ih ⊢
  by_cases hlt2:u.length<out.length
  ·have hwin:win (out.flatMap Ent.cells) (((u.length:Nat):Int).toNat*8) 8=out[u.length].cells:=by
    rw [Int.toNat_natCast]
    exact zb9 Ent.cells 8 zj5 out u.length hlt2
   have ih:=ih (u++[out[u.length].nm]) ⟨by rw [List.length_append,List.length_singleton];omega,by
    rw [List.length_append,List.length_singleton,List.take_succ_eq_append_getElem hlt2,List.map_append,<-h4];rfl⟩ (by rw [List.length_append,List.length_singleton];omega)
   simp only [List.length_append,List.length_cons,List.length_nil,List.map_append,List.map_cons,List.map_nil] at ih
   repeat' ((conv=>whnf);first
   | refine Yz ?_
    | (rw [hwin])
    | (refine In.enter (f:=zgu) g.lim rfl rfl ?_)
    | (refine zbd.mk ⟨rfl,rfl,rfl,rfl,rfl,rfl,by dsimp only;omega,by dsimp only;omega⟩ ?_)
    | (refine zak.to ih rfl rfl)
    | fail)
  ·rw [List.take_of_length_le (by omega)] at h4
   rw [<-h4] at hK
   repeat' ((conv=>whnf);first
   | refine Yz ?_
    | (refine zbd.mk ⟨rfl,by omega⟩ ?_)
    | (rw [if_pos ⟨rfl,rfl⟩];exact hK)
    | (exact hK)
    | fail)
theorem yfu (ev:List Evt) (r:Rgs) (ho:OkR r) (kn:Int):Ui E zcb [.ptr ⟨0,0,0⟩ 1 0,I kn] (mR zaa ev r) (Ws (ygl r kn)) (mR zaa ev r):=
 ⟨z8l g ev r ho kn ⟨rfl,⟨rfl,rfl,rfl,rfl,rfl,trivial⟩⟩⟩
end
def yec (r:Rgs) (x:Ent) (on:List UInt8):Bool:=(chF r.es.length r.es x).tail.any fun y=>decide (y.nm=on)
def yi2 (r:Rgs) (on:List UInt8):List (List UInt8):=(r.es.filter fun x=>yec r x on).map Ent.nm
theorem yj5 (x:Ent) (tl:List Ent):win ((x::tl).flatMap Ent.cells) (1*8) ((tl.length+1-1)*8)=tl.flatMap Ent.cells:=by
 unfold win
 rw [List.flatMap_cons]
 rw [Nat.add_sub_cancel,List.drop_append_of_le_length (by rw [zj5];decide),List.drop_of_length_le (by rw [zj5];decide),List.nil_append,<-zag Ent.cells 8 zj5 tl,List.take_length]
abbrev mKZ (ev:List Evt) (r:Rgs) (on:List UInt8) (out:List Ent):Mem:=mR zaa ev r++[(⟨1,2,0⟩,.cells za3 [.ptr ⟨0,0,0⟩ 1 0]),(⟨1,3,0⟩,.cells zab [S on]),(⟨2,4,0⟩,.row false zae 8 0 []),(⟨2,5,0⟩,.row false zae 8 out.length (out.flatMap Ent.cells))]
section
variable {E : Oracle} (g : Good E)
include g
theorem z8n (ev:List Evt) (r:Rgs) (ho:OkR r) (on:List UInt8) (out0:List Ent) (k:Nat) (hk:k<r.es.length) (bx:Evl.Id×Ob) (hbx:bx=(⟨2,7,0⟩,.cells zae [S r.es[k].nm,S r.es[k].kd,S r.es[k].sr,S r.es[k].bs,I r.es[k].kn,I r.es[k].fr,I r.es[k].to,I r.es[k].mi])) {slot:Nat} {K:V->Mem->Prop} (hK:K (B (yec r r.es[k] on)) (mKZ ev r on out0++[bx])):
  In E 3 zcp [yq9 r.es[k],.ptr ⟨1,2,0⟩ 0 0,.ptr ⟨1,3,0⟩ 0 0] (mKZ ev r on out0++[bx]) fun v m'=>zv0 ⟨2,3⟩ slot true v m' K:=by
 have hes:=ho.es
 have hc:=zuq ho.bases r.es.length k (by omega) hk
 have hcl:=yaj r.es r.es.length r.es[k]
 unfold yec at hK
 generalize chF r.es.length r.es r.es[k]=c at *
 have hml:(r.es.flatMap Ent.cells).length=r.es.length*8:=zag Ent.cells 8 zj5 r.es
 generalize hx:r.es[k]=x at *
 subst hbx
 refine In.enter (f:=zcp) g.lim rfl rfl ?_
 repeat' ((conv=>whnf);first
 | refine Yz ?_
  | (refine In.enter (f:=zdo) g.lim rfl rfl ?_)
  | fail)
 refine zak.to (zak.by (σ:=List Ent×Ent×Nat×List Ent) g (fun u=>(∃hk:u.2.2.1<r.es.length,r.es[u.2.2.1]=u.2.1)/\Ch r.es u.2.2.1 u.2.2.2/\∃pre,u.1=pre++[u.2.1]/\pre++u.2.2.2=c)
  (fun u=>[(0,.ptr ⟨0,0,0⟩ 1 0),(5,.ref ⟨4,8,0⟩ 0 u.1.length u.1.length)])
  (fun u=>mKZ ev r on out0++[(⟨2,7,0⟩,.cells zae [S x.nm,S x.kd,S x.sr,S x.bs,I x.kn,I x.fr,I x.to,I x.mi]),(⟨3,3,0⟩,.cells zae [S x.nm,S x.kd,S x.sr,S x.bs,I x.kn,I x.fr,I x.to,I x.mi]),(⟨4,3,0⟩,.cells zae [S x.nm,S x.kd,S x.sr,S x.bs,I x.kn,I x.fr,I x.to,I x.mi]),(⟨4,4,0⟩,.row false zae 8 0 []),(⟨4,8,0⟩,.row false zae 8 u.1.length (u.1.flatMap Ent.cells))])
  (fun u=>u.2.2.2.length) ?_ ([x],x,k,c) ⟨⟨hk,hx⟩,hc,[],rfl,rfl⟩) rfl rfl
 have hc0:=hc
 clear hc hx
 rintro⟨out,y,k2,tl⟩ ⟨⟨hk2,hy⟩,hc,pre,h1,h2⟩ ih
 dsimp only at hk2 hy hc h1 h2 ih ⊢
 have hol:out.length=pre.length+1:=by rw [h1];simp
 have hlast:out[pre.length]'(by omega)=y:=by simp [h1]
 have hq:=zw1 g zaa ev r y.bs (by omega)
 have hcl2:pre.length+tl.length<=257:=by rw [<-List.length_append,h2];omega
 have hmo:(out.flatMap Ent.cells).length=out.length*8:=zag Ent.cells 8 zj5 out
 cases hc with
 | stop k2 hk' h=>
  rw [hy] at h h2
  rw [h,yam,if_neg (by decide)] at hq
  obtain rfl:out=c:=h1.trans h2
  obtain⟨z,rest,rfl⟩:∃z rest,out=z::rest:=List.exists_cons_of_ne_nil (by intro e;rw [e] at hol;simp at hol)
  have hll:(z::rest).length=rest.length+1:=rfl
  have hw8:=yj5 z rest
  have hmr:(rest.flatMap Ent.cells).length=rest.length*8:=zag Ent.cells 8 zj5 rest
  rw [List.tail_cons] at hK
  clear ih
  repeat' ((conv=>whnf);first
  | refine Yz ?_
   | (refine zfa.rec0 zj5 pre.length (by omega) (by omega) rfl ?_;rw [hlast])
   | (refine zj6.of (r':= .d .nilp) isR rfl rfl rfl rfl hq rfl rfl rfl ?_)
   | (rw [if_pos ⟨rfl,rfl⟩])
   | (refine zbd.mk ⟨rfl,by omega⟩ ?_)
   | (refine za9.at 1 (rest.length+1) rfl (by omega) (by omega) ?_;rw [hw8])
   | (refine In.enter (f:=zaw) g.lim rfl rfl ?_)
   | (refine In.enter (f:=zau) g.lim rfl rfl ?_)
   | fail)
  refine zak.to (zak.upP g (fun k=>[(0,.d (.list rest.length (rest.flatMap Ent.cells))),(1,.fn zcg [] [.ptr ⟨1,3,0⟩ 0 0]),(7,I rest.length),(8,I k)]) (fun _=>mKZ ev r on out0++[(⟨2,7,0⟩,.cells zae [S x.nm,S x.kd,S x.sr,S x.bs,I x.kn,I x.fr,I x.to,I x.mi]),(⟨3,3,0⟩,.cells zae [S x.nm,S x.kd,S x.sr,S x.bs,I x.kn,I x.fr,I x.to,I x.mi])])
   (fun k=>∀j,(hj:j<rest.length)->j<k->rest[j].nm≠on) rest.length (fun m hm hp ihm=> ?_) 0 (Nat.zero_le _) (fun j _ h=>absurd h (Nat.not_lt_zero _))) rfl rfl
  by_cases hlt:m<rest.length
  ·have hwin:win (rest.flatMap Ent.cells) (((m:Nat):Int).toNat*8) 8=rest[m].cells:=by
    rw [Int.toNat_natCast]
    exact zb9 Ent.cells 8 zj5 rest m hlt
   by_cases hb:rest[m].nm=on
   ·have ha:(rest.any fun y=>decide (y.nm=on))=true:=List.any_eq_true.2 ⟨_,List.getElem_mem hlt,decide_eq_true hb⟩
    rw [ha] at hK
    repeat' ((conv=>whnf);first
    | refine Yz ?_
     | (rw [hwin];refine In.enter (f:=zcg) g.lim rfl rfl ?_)
     | (refine Cmp.tt hb ?_)
     | (exact hK)
     | fail)
   ·have ihm:=ihm hlt fun j hj hjm=>by
     by_cases e:j=m
     ·subst e;exact hb
     ·exact hp j hj (by omega)
    repeat' ((conv=>whnf);first
    | refine Yz ?_
     | (rw [hwin];refine In.enter (f:=zcg) g.lim rfl rfl ?_)
     | (refine Cmp.ff hb ?_)
     | (refine zak.to ihm rfl rfl)
     | fail)
  ·obtain rfl:m=rest.length:=by omega
   have ha:(rest.any fun y=>decide (y.nm=on))=false:=by
    rw [List.any_eq_false]
    intro z hz
    obtain⟨j,hj,rfl⟩:=List.mem_iff_getElem.1 hz
    simpa using hp j hj hj
   rw [ha] at hK
   repeat' ((conv=>whnf);first
   | refine Yz ?_
    | (exact hK)
    | fail)
 | step k2 j tl hk' h ht=>
  rw [hy] at h h2
  rw [h,yam,if_pos (by omega)] at hq
  obtain⟨hj,hj'⟩:∃hj:j<r.es.length,True:=by
   cases ht with
   | stop _ hj _=>exact⟨hj,trivial⟩
   | step _ _ _ hj _ _=>exact⟨hj,trivial⟩
  have hwin:win (r.es.flatMap Ent.cells) ((0+((j:Nat):Int).toNat)*8) 8=r.es[j].cells:=by
   rw [Nat.zero_add,Int.toNat_natCast]
   exact zb9 Ent.cells 8 zj5 r.es j hj
  simp only [List.length_cons] at hcl2
  have ih:=ih (out++[r.es[j]],r.es[j],j,tl) ⟨⟨hj,rfl⟩,ht,out,rfl,by rw [h1,List.append_assoc];exact h2⟩ (by simp)
  simp only [List.length_append,List.length_cons,List.length_nil,List.flatMap_append,List.flatMap_cons,List.flatMap_nil] at ih
  repeat' ((conv=>whnf);first
  | refine Yz ?_
   | (refine zfa.rec0 zj5 pre.length (by omega) (by omega) rfl ?_;rw [hlast])
   | (refine zj6.of (r':= .ptr ⟨0,0,2⟩ ((0+((j:Nat):Int).toNat)*8) r.es.length) isR rfl rfl rfl rfl hq rfl rfl rfl ?_)
   | (rw [hwin])
   | (refine zbd.mk ⟨rfl,rfl,rfl,rfl,rfl,rfl,by dsimp only;omega,by omega⟩ ?_)
   | (refine zak.to ih rfl rfl)
   | fail)
theorem yax (ev:List Evt) (r:Rgs) (ho:OkR r) (on:List UInt8) {slot:Nat} {K:V->Mem->Prop} (hK:K (.tup [if zls r.es on<0 then Ws [] else Ws (yi2 r on),I (if zls r.es on<0 then 10 else 0)]) (mR zaa ev r)):
  In E 1 zci [.ptr ⟨0,0,0⟩ 1 0,S on] (mR zaa ev r) fun v m'=>zv0 ⟨0,1⟩ slot true v m' K:=by
 have hes:=ho.es
 have hml:(r.es.flatMap Ent.cells).length=r.es.length*8:=zag Ent.cells 8 zj5 r.es
 have hq0:=zw1 g zaa ev r on (by omega)
 refine In.enter (f:=zci) g.lim rfl rfl ?_
 by_cases hi:zls r.es on<0
 ·rw [if_pos hi,if_pos hi] at hK
  rw [yam,if_neg (by omega)] at hq0
  repeat' ((conv=>whnf);first
  | refine Yz ?_
   | (refine zj6.of (r':= .d .nilp) isR rfl rfl rfl rfl hq0 rfl rfl rfl ?_)
   | (exact hK)
   | fail)
 rw [if_neg hi,if_neg hi] at hK
 rw [yam,if_pos (by omega)] at hq0
 generalize zls r.es on=i0 at *
 repeat' ((conv=>whnf);first
 | refine Yz ?_
  | (refine zj6.of (r':= .ptr ⟨0,0,2⟩ ((0+i0.toNat)*8) r.es.length) isR rfl rfl rfl rfl hq0 rfl rfl rfl ?_)
  | (refine In.enter (f:=zcx) g.lim rfl rfl ?_)
  | fail)
 refine zak.to (zak.by (σ:=Nat×List Ent) g (fun u=>u.1<=r.es.length/\u.2=(r.es.take u.1).filter fun x=>yec r x on)
  (fun u=>[(1,.fn zcp [] [.ptr ⟨1,2,0⟩ 0 0,.ptr ⟨1,3,0⟩ 0 0]),(5,.ref ⟨2,5,0⟩ 0 u.2.length u.2.length),(8,.ref ⟨0,0,2⟩ 0 r.es.length r.es.length),(9,I r.es.length),(10,I u.1)])
  (fun u=>mKZ ev r on u.2)
  (fun u=>r.es.length-u.1) ?_ (0,[]) ⟨Nat.zero_le _,rfl⟩) rfl rfl
 rintro⟨k,out⟩ ⟨h1,h2⟩ ih
 dsimp only at h1 h2 ih ⊢
 have hmo:(out.flatMap Ent.cells).length=out.length*8:=zag Ent.cells 8 zj5 out
 have hol:out.length<=256:=by
  rw [h2]
  refine Nat.le_trans (List.length_filter_le _ _) ?_
  rw [List.length_take];omega
 by_cases hlt:k<r.es.length
 ·have hwin:win (r.es.flatMap Ent.cells) ((0+((k:Nat):Int).toNat)*8) 8=r.es[k].cells:=by
   rw [Nat.zero_add,Int.toNat_natCast]
   exact zb9 Ent.cells 8 zj5 r.es k hlt
  cases hc:yec r r.es[k] on with
  | true=>
   have ih:=ih (k+1,out++[r.es[k]]) ⟨by dsimp only;omega,by dsimp only;rw [zd3 _ _ _ hlt,<-h2,hc];rfl⟩ (by dsimp only;omega)
   simp only [List.length_append,List.length_cons,List.length_nil,List.flatMap_append,List.flatMap_cons,List.flatMap_nil,mKZ] at ih
   repeat' ((conv=>whnf);first
   | refine Yz ?_
    | (rw [hwin])
    | (refine z8n g ev r ho on out k hlt _ rfl (slot:=16) ?_;rw [hc])
    | (refine zbd.mk ⟨rfl,rfl,rfl,rfl,rfl,rfl,by dsimp only;omega,by dsimp only;omega⟩ ?_)
    | (refine zak.to ih rfl rfl)
    | fail)
  | false=>
   have ih:=ih (k+1,out) ⟨by dsimp only;omega,by dsimp only;rw [zd3 _ _ _ hlt,<-h2,hc];simp⟩ (by dsimp only;omega)
   repeat' ((conv=>whnf);first
   | refine Yz ?_
    | (rw [hwin])
    | (refine z8n g ev r ho on out k hlt _ rfl (slot:=16) ?_;rw [hc])
    | (refine zak.to ih rfl rfl)
    | fail)
 ·rw [List.take_of_length_le (by omega)] at h2
  have hcl:yi2 r on=out.map Ent.nm:=by rw [yi2,<-h2]
  rw [hcl] at hK
  clear hcl h2 ih
  repeat' ((conv=>whnf);first
  | refine Yz ?_
   | (refine zbd.mk ⟨rfl,by omega⟩ ?_)
   | (rw [if_pos ⟨rfl,rfl⟩];refine In.enter (f:=zaz) g.lim rfl rfl ?_)
   | (refine In.enter (f:=zaz) g.lim rfl rfl ?_)
   | fail)
  refine zak.to (zak.by (σ:=List (List UInt8)) g (fun u=>u.length<=out.length/\u=(out.take u.length).map Ent.nm)
   (fun u=>[(1,.fn zgu [] []),(5,.ref ⟨2,5,0⟩ 0 u.length u.length),(8,.d (.list out.length (out.flatMap Ent.cells))),(9,I out.length),(10,I u.length)])
   (fun u=>mR zaa ev r++[(⟨1,2,0⟩,.cells za3 [.ptr ⟨0,0,0⟩ 1 0]),(⟨1,3,0⟩,.cells zab [S on]),(⟨2,4,0⟩,.row false zab 1 0 []),(⟨2,5,0⟩,.row false zab 1 u.length (u.map D.str))])
   (fun u=>out.length-u.length) ?_ [] ⟨Nat.zero_le _,rfl⟩) rfl rfl
  rintro u ⟨h3,h4⟩ ih
  dsimp only at h3 h4 ih ⊢
  by_cases hlt2:u.length<out.length
  ·have hwin:win (out.flatMap Ent.cells) (((u.length:Nat):Int).toNat*8) 8=out[u.length].cells:=by
    rw [Int.toNat_natCast]
    exact zb9 Ent.cells 8 zj5 out u.length hlt2
   have ih:=ih (u++[out[u.length].nm]) ⟨by rw [List.length_append,List.length_singleton];omega,by
    rw [List.length_append,List.length_singleton,List.take_succ_eq_append_getElem hlt2,List.map_append,<-h4];rfl⟩ (by rw [List.length_append,List.length_singleton];omega)
   simp only [List.length_append,List.length_cons,List.length_nil,List.map_append,List.map_cons,List.map_nil] at ih
   repeat' ((conv=>whnf);first
   | refine Yz ?_
    | (rw [hwin])
    | (refine In.enter (f:=zgu) g.lim rfl rfl ?_)
    | (refine zbd.mk ⟨rfl,rfl,rfl,rfl,rfl,rfl,by dsimp only;omega,by dsimp only;omega⟩ ?_)
    | (refine zak.to ih rfl rfl)
    | fail)
  ·rw [List.take_of_length_le (by omega)] at h4
   rw [<-h4] at hK
   repeat' ((conv=>whnf);first
   | refine Yz ?_
    | (refine zbd.mk ⟨rfl,by omega⟩ ?_)
    | (rw [if_pos ⟨rfl,rfl⟩];exact hK)
    | (exact hK)
    | fail)
theorem yj2 (ev:List Evt) (r:Rgs) (ho:OkR r) (on:List UInt8):Ui E zci [.ptr ⟨0,0,0⟩ 1 0,S on] (mR zaa ev r) (.tup [if zls r.es on<0 then Ws [] else Ws (yi2 r on),I (if zls r.es on<0 then 10 else 0)]) (mR zaa ev r):=
 ⟨yax g ev r ho on ⟨rfl,⟨rfl,rfl,rfl,rfl,rfl,trivial⟩⟩⟩
end
theorem z3c {α β:Type} {f:α->Option β} {p:β}:∀ {l:List α},(∀a∈l,f a=some p)->yfy f l=some (l.map fun _=>p)
 | [],_=>rfl
 | a::l,h=>by
  unfold yfy
  rw [h a (by simp),Option.bind_some,z3c fun b hb=>h b (by simp [hb])]
  rfl
theorem ycn {α β:Type} {f:α->Option β} {p:α->β}:∀ {l:List α},(∀a∈l,f a=some (p a))->yfy f l=some (l.map p)
 | [],_=>rfl
 | a::l,h=>by
  unfold yfy
  rw [h a (by simp),Option.bind_some,ycn fun b hb=>h b (by simp [hb])]
  rfl
theorem zsk (sz:Nat):∀(n:Nat) (ds:List D),ds.length=n*sz->(zk6 sz n ds).flatten=ds
 | 0,ds,h=>by
  have:ds=[]:=List.length_eq_zero_iff.1 (by omega)
  subst this
  rfl
 | n+1,ds,h=>by
  rw [Nat.succ_mul] at h
  rw [zk6,List.flatten_cons,zsk sz n (ds.drop sz) (by rw [List.length_drop];omega),List.take_append_drop]
theorem zwo {run:Mem->Option (V×Mem)} {m:Mem} {o:Evl.Id} {a b c t n:Nat} {xs:List D} (hl:Evl.look m o=some (.bag t 1 n xs)) (hx:xs.length=n) (p:V×Mem)
  (hr:∀l:List D,l.Perm xs->run (upd m o (.row true t 1 n l))=some p) (hle:leM m p.2 (zlt false m p.2)=true):zn8 run m (.ref o a b c)=some (p.1,zlt false m p.2):=by
 have hx1:xs.length=n*1:=by omega
 unfold zn8
 simp only [hl]
 rw [if_pos hx1,hr xs (List.Perm.refl _),Option.bind_some]
 have hall:yfy (fun l=>run (upd m o (.row true t 1 n l.flatten))) (z1h (zk6 1 n xs))=some ((z1h (zk6 1 n xs)).map fun _=>p):=by
  refine z3c fun l hl'=>hr _ ?_
  have h1:=(zou _ _).1 hl'
  have h2:=h1.flatten
  rwa [zsk 1 n xs hx1] at h2
 rw [hall,Option.bind_some]
 unfold z5b
 rw [if_pos]
 rw [List.all_eq_true]
 intro q hq
 obtain⟨_,_,rfl⟩:=List.mem_map.1 hq
 rw [zym,hle]
 rfl
theorem z5v:∀e:Env,ymx e e=true
 | []=>rfl
 | (t,v)::r=>by simp [ymx,zym,z5v r]
theorem z4h {body:Env->Mem->Option (Ex×Env×Mem)} {cx:Cx} {it:Nat} {x:Opd} {out nxt pair:Nat} {live:List Nat} {e1:Env} {m1:Mem} {o:Evl.Id} {es:List (D×V)} (hx:x.ev e1= .mp o) (hl:Evl.look m1 o=some (.map es))
  {i:Evl.Id} {m2:Mem} {e2 e3:Env} (hi:Evl.newId cx it m1=i) (hm:upd (upd m1 i .gone) o .gone=m2) (he:only live (put e1 it (.it i))=e2) (R:List (D×V)->Mem)
  (hr:∀p,p.Perm es->zib body it i out nxt pair live (znr m2) p e2 m2=some (.normal,e3,R p)) {mj:Mem} (hj:zlt true m2 (R es)=mj) (hle:∀p,p.Perm es->leM m2 (R p) mj=true) (hg:Evl.look mj o=some .gone):
  zpv body cx it x out nxt pair live e1 m1=some (.normal,e3,upd mj o (.map es)):=by
 subst hj
 unfold zpv
 simp only [hx,hl,hi,hm,he]
 unfold zt4
 simp only [hr es (List.Perm.refl _),Option.bind_some]
 have hall:yfy (fun p=>zib body it i out nxt pair live (znr m2) p e2 m2) (z1h es)=some ((z1h es).map fun p=>(.normal,e3,R p)):=ycn fun p hp=>hr p ((zou _ _).1 hp)
 rw [hall,Option.bind_some]
 unfold zw0
 rw [if_pos]
 ·simp only [Option.bind_some,z1l,hg]
 ·rw [List.all_eq_true]
  intro q hq
  obtain⟨p,hp,rfl⟩:=List.mem_map.1 hq
  dsimp only
  rw [z5v,hle p ((zou _ _).1 hp)]
  rfl
theorem ycy:∀es:List (D×V),yky es es=true
 | []=>rfl
 | (k,v)::r=>by simp [yky,z1u,zym,ycy r]
inductive LeJ (m0:Mem):Mem->Mem->Prop
 | nil:LeJ m0 [] []
 | cells {i:Evl.Id} {t:Nat} {cs:List V} {r r':Mem} (h:LeJ m0 r r'):LeJ m0 ((i,.cells t cs)::r) ((i,.cells t cs)::r')
 | row {i:Evl.Id} {w:Bool} {t sz n:Nat} {xs:List D} {r r':Mem} (h:LeJ m0 r r'):LeJ m0 ((i,.row w t sz n xs)::r) ((i,.row w t sz n xs)::r')
 | gone {i:Evl.Id} {r r':Mem} (h:LeJ m0 r r'):LeJ m0 ((i,.gone)::r) ((i,.gone)::r')
 | map {i:Evl.Id} {es:List (D×V)} {r r':Mem} (he:yky es es=true) (h:LeJ m0 r r'):LeJ m0 ((i,.map es)::r) ((i,.map es)::r')
 | loop {i:Evl.Id} {e e0:Env} {ps ps0:List Nat} {a b a0 b0:C} {lv lv0:Nat} {bu bu0 ov ov0:Bool} {j j0:Option yf7} {r r':Mem} (hl:Evl.look m0 i=some (.loop e0 ps0 a0 b0 lv0 bu0 ov0 j0)) (hj:yfi j j=true) (h:LeJ m0 r r'):LeJ m0 ((i,.loop e ps a b lv bu ov j)::r) ((i,.loop e ps a b lv bu ov j)::r')
 | bag {i:Evl.Id} {t sz n:Nat} {xs ys:List D} {r r':Mem} (hb:ykc sz n ys xs=true) (h:LeJ m0 r r'):LeJ m0 ((i,.row true t sz n xs)::r) ((i,.bag t sz n ys)::r')
theorem LeJ.ok {m0 a b:Mem} (h:LeJ m0 a b):leM m0 a b=true:=by
 induction h with
 | nil=>rfl
 | cells h ih=>simp [leM,leO,zmw,ih]
 | row h ih=>simp [leM,leO,zkx,ih]
 | gone h ih=>simp [leM,leO,ih]
 | map he h ih=>simp [leM,leO,he,ih]
 | loop hl hj h ih=>simp [leM,leO,hl,hj,z5v,ih]
 | bag hb h ih=>simp [leM,leO,hb,ih]
theorem z10 {x:List D}:∀ {l:List (List D)},x∈l->∃r,ztz x l=some r
 | y::r,h=>by
  unfold ztz
  by_cases e:zlh x y=true
  ·exact⟨r,if_pos e⟩
  ·rw [if_neg e]
   rcases List.mem_cons.1 h with rfl|h
   ·exact absurd (zkx x) e
   ·obtain⟨q,hq⟩:=z10 h
    exact⟨y::q,by rw [hq];rfl⟩
theorem ydv:∀ {a b:List (List D)},a.Perm b->ybl a b=true
 | [],b,h=>by
  have:=List.Perm.nil_eq h
  subst this
  rfl
 | x::r,b,h=>by
  have hx:x∈b:=h.subset (by simp)
  obtain⟨q,hq⟩:=z10 hx
  have h1:=zre x b q hq
  unfold ybl
  rw [hq]
  exact ydv ((List.perm_cons x).1 (h.trans h1))
theorem zwp:∀(l:List D),zk6 1 l.length l=l.map fun x=>[x]
 | []=>rfl
 | x::r=>by
  rw [List.length_cons,zk6,List.map_cons]
  have:=zwp r
  simp only [List.take_succ_cons,List.take_zero,List.drop_succ_cons,List.drop_zero]
  rw [this]
theorem ynk {xs ys:List D} {n:Nat} (h:xs.Perm ys) (hn:ys.length=n):ykc 1 n xs ys=true:=by
 have hx:xs.length=n:=h.length_eq.trans hn
 unfold ykc
 subst hn
 rw [decide_eq_true (by omega),decide_eq_true (by omega),Bool.true_and,Bool.true_and]
 have e1:zk6 1 ys.length xs=xs.map fun x=>[x]:=by rw [<-hx];exact zwp xs
 rw [e1,zwp]
 exact ydv (h.map _)
section
variable {E : Oracle} (g : Good E)
include g
def erA (l:List Evt) (e:Evt):Int:=if zar [erL l,zi8 e,if 1000<=l.length then 5 else 0]≠0 then zar [erL l,zi8 e,if 1000<=l.length then 5 else 0] else z12 (rgL l) l.length e
end
abbrev zk8 (ks:List (List UInt8)):List (D×V):=ks.map fun k=>(D.str k,B true)
theorem zpj:∀ks:List (List UInt8),Evl.idsM (zk8 ks)=[]
 | []=>rfl
 | k::ks=>by
  unfold zk8
  rw [List.map_cons,Evl.idsM]
  exact(List.nil_append _).trans (zpj ks)
abbrev lpK:Ob:= .loop [(2,.ptr ⟨4,2,0⟩ 0 0),(4,.ref ⟨4,4,0⟩ 0 0 0),(6,.fn zao [] [.ptr ⟨1,29,0⟩ 0 0])] [7] ze0 ze1 4 false false none
abbrev ync (us:List (List UInt8)):Ob:= .row true zab 1 us.length (us.map D.str)
abbrev eK:Env:=[(0,.yld ⟨4,14,0⟩),(5,.it ⟨5,5,0⟩)]
section
variable {E : Oracle} (g : Good E)
include g
omit g in
theorem z8g {ks:List (List UInt8)} {p:List (D×V)} (h:p.Perm (zk8 ks)):∃us:List (List UInt8),p=zk8 us/\us.Perm ks:=by
 refine⟨p.map fun e=>match e.1 with
  | .str s=>s
  | _=>[],?_,?_⟩
 ·unfold zk8
  rw [List.map_map]
  symm
  have:∀x∈p,((fun k=>(D.str k,B true))∘fun e:D×V=>match e.1 with
   | .str s=>s
   | _=>[]) x=x:=fun x hx=>by
   have:=h.subset hx
   obtain⟨k,_,rfl⟩:=List.mem_map.1 this
   rfl
  calc List.map _ p=List.map id p:=List.map_congr_left this
   _=p:=List.map_id p
 ·have h1:=h.map fun e:D×V=>match e.1 with
   | .str s=>s
   | _=>[]
  refine h1.trans ?_
  unfold zk8
  rw [List.map_map]
  have:List.map ((fun e:D×V=>match e.1 with
   | .str s=>s
   | _=>[])∘fun k=>(D.str k,B true)) ks=ks:=by
   calc _=List.map id ks:=List.map_congr_left fun _ _=>rfl
    _=ks:=List.map_id ks
  rw [this]
abbrev e1K:Env:=[(0,.yld ⟨4,14,0⟩),(1,.ptr ⟨1,29,0⟩ 0 0),(4,.mp ⟨1,14,0⟩)]
omit g in
theorem yjt {ks:List (List UInt8)} {p:List D} (h:p.Perm (ks.map D.str)):∃us:List (List UInt8),p=us.map D.str/\us.Perm ks:=by
 refine⟨p.map fun e=>match e with
  | .str s=>s
  | _=>[],?_,?_⟩
 ·rw [List.map_map]
  symm
  have:∀x∈p,(D.str∘fun e:D=>match e with
   | .str s=>s
   | _=>[]) x=x:=fun x hx=>by
   have:=h.subset hx
   obtain⟨k,_,rfl⟩:=List.mem_map.1 this
   rfl
  calc List.map _ p=List.map id p:=List.map_congr_left this
   _=p:=List.map_id p
 ·have h1:=h.map fun e:D=>match e with
   | .str s=>s
   | _=>[]
  refine h1.trans ?_
  rw [List.map_map]
  have:List.map ((fun e:D=>match e with
   | .str s=>s
   | _=>[])∘D.str) ks=ks:=by
   calc _=List.map id ks:=List.map_congr_left fun _ _=>rfl
    _=ks:=List.map_id ks
  rw [this]
omit g in
theorem z4p {a b:List (List UInt8)} (h:a.Perm b):zi7 a=zi7 b:=by
 have hanti:∀x y:List UInt8,zax y x=false->zax x y=false->x=y:=by
  intro x
  induction x with
  | nil=>intro y _ h2;cases y with
   | nil=>rfl
   | cons=>simp [zax] at h2
  | cons c x ih=>intro y h1 h2;cases y with
   | nil=>simp [zax] at h1
   | cons d y=>
    simp only [zax,Bool.or_eq_false_iff,decide_eq_false_iff_not,Bool.and_eq_false_iff,beq_eq_false_iff_ne,ne_eq,UInt8.not_lt] at h1 h2
    have e:c=d:=UInt8.le_antisymm h1.1 h2.1
    subst e
    rw [ih y (h1.2.resolve_left (fun h=>h rfl)) (h2.2.resolve_left (fun h=>h rfl))]
 exact List.Perm.eq_of_pairwise (le:=fun x y=>zax y x=false) (fun x y _ _ h1 h2=>hanti x y h1 h2) (zlj a) (zlj b) ((zex a).trans (h.trans (zex b).symm))
end
structure Slt where
 sr:List UInt8
 mi:Int
def Slt.cells (t:Slt):List D:=[.str t.sr,DI t.mi]
theorem ypk (t:Slt):t.cells.length=2:=rfl
abbrev LS2 (l:List Slt):V:= .d (.list l.length (l.flatMap Slt.cells))
def z7j (ks:List (List UInt8)) (s:List UInt8):List (List UInt8):=if s∈ks then ks else ks++[s]
def srK (es:List Ent):List (List UInt8):=es.foldl (fun ks x=>z7j ks x.sr) []
theorem yef (es:List Ent) (k:Nat) (h:k<es.length):srK (es.take (k+1))=z7j (srK (es.take k)) es[k].sr:=by
 unfold srK
 rw [List.take_succ_eq_append_getElem h,List.foldl_append]
 rfl
theorem ykh (ks:List (List UInt8)) (s:List UInt8):(z7j ks s).length<=ks.length+1:=by
 unfold z7j
 split
 ·omega
 ·simp
theorem z69 (es:List Ent):(srK es).length<=es.length:=by
 have key:∀(es:List Ent) (ks:List (List UInt8)),(es.foldl (fun ks x=>z7j ks x.sr) ks).length<=ks.length+es.length:=by
  intro es
  induction es with
  | nil=>intro ks;simp
  | cons x es ih=>
   intro ks
   rw [List.foldl_cons]
   have:=ih (z7j ks x.sr)
   have:=ykh ks x.sr
   simp only [List.length_cons];omega
 have:=key es []
 simpa [srK] using this
theorem z9m (s:List UInt8):∀ks:List (List UInt8),Evl.setE (.str s) (B true) (zk8 ks)=some (zk8 (z7j ks s))
 | []=>rfl
 | q::ks=>by
  unfold zk8
  rw [List.map_cons,Evl.setE]
  have he:Evl.eqD (.str s) (.str q)=some (s==q):=rfl
  simp only [he]
  by_cases e:s=q
  ·subst e
   simp [z7j]
  ·have:(s==q)=false:=beq_eq_false_iff_ne.2 e
   rw [this]
   dsimp only
   have ih:=z9m s ks
   unfold zk8 at ih
   rw [ih]
   by_cases hm:s∈ks
   ·simp [z7j,hm]
   ·have:¬s∈q::ks:=by simp [e,hm]
    simp [z7j,hm,this]
def yf5 (r:Rgs) (kn d:Int) (ks:List (List UInt8)):List Slt:=(ks.filter fun s=>decide (zu2 r s kn d≠1440)).map fun s=>⟨s,zu2 r s kn d⟩
theorem zxg (p:List UInt8->Bool) (l:List (List UInt8)) (k:Nat) (h:k<l.length):(l.take (k+1)).filter p=(l.take k).filter p++if p l[k] then [l[k]] else []:=zd3 p l k h
def z97 (r:Rgs) (kn d:Int):List Slt:=yf5 r kn d (zi7 (srK r.es))
abbrev mTZ (l:List Evt) (r:Rgs):Mem:=mR zaa l r++[(⟨1,6,0⟩,.row false zb7 2 0 [])]
abbrev mZZ (l:List Evt) (r:Rgs) (ks:List (List UInt8)):Mem:=mTZ l r++[(⟨1,14,0⟩,.map (zk8 ks)),(⟨1,10,0⟩,.row false zb7 2 0 []),(⟨1,29,0⟩,.cells zdr [.mp ⟨1,14,0⟩])]
abbrev ydl (l:List Evt) (r:Rgs):Mem:=mTZ l r++[(⟨1,14,0⟩,.gone),(⟨1,10,0⟩,.row false zb7 2 0 []),(⟨1,29,0⟩,.cells zdr [.mp ⟨1,14,0⟩]),(⟨2,2,0⟩,.row true zab 1 0 []),(⟨3,2,0⟩,.row true zab 1 0 []),(⟨4,2,0⟩,.cells zo5 [.d .nil]),(⟨4,4,0⟩,.row true zab 1 0 []),(⟨4,14,0⟩,lpK),(⟨5,5,0⟩,.gone)]
abbrev ym1 (l:List Evt) (r:Rgs) (us:List (List UInt8)) (last:Ob):Mem:=mTZ l r++[(⟨1,14,0⟩,.gone),(⟨1,10,0⟩,.row false zb7 2 0 []),(⟨1,29,0⟩,.cells zdr [.mp ⟨1,14,0⟩]),(⟨2,2,0⟩,.row true zab 1 0 []),(⟨3,2,0⟩,.row true zab 1 0 []),(⟨4,2,0⟩,.cells zo5 [.ref ⟨4,11,0⟩ 0 us.length us.length]),(⟨4,4,0⟩,.row true zab 1 0 []),(⟨4,14,0⟩,lpK),(⟨5,5,0⟩,.gone),(⟨4,11,0⟩,last)]
section
variable {E : Oracle} (g : Good E)
include g
abbrev ymt (E:Oracle):Env->Mem->Option (Ex×Env×Mem):=fun e m=>(zk9 E ⟨5,6⟩ [xq 9 8 0,mq 3 9] e m).bind fun q=>evC E ⟨5,6⟩ zcc (zj4 [8,9] q.1) q.2
omit g in
theorem ygh {e:Env} {m:Mem} {K:Ex->Env->Mem->Prop} (h:Evl.wpOps E ⟨5,6⟩ [xq 9 8 0,mq 3 9] e m fun e' m'=>wpC E ⟨5,6⟩ zcc (zj4 [8,9] e') m' K):∃x e' m',ymt E e m=some (x,e',m')/\K x e' m':=by
 obtain⟨p,h1,h2⟩:=Evl.wpOps_ok _ _ _ _ h
 obtain⟨x,e',m',h3,h4⟩:=Evl.wpC_ok _ _ _ _ h2
 exact⟨x,e',m',by unfold ymt;rw [h1,Option.bind_some];exact h3,h4⟩
theorem yoq (l:List Evt) (r:Rgs) (k:List UInt8):∃x e' m',ymt E (put eK 8 (.tup [S k,B true])) (ydl l r)=some (x,e',m')/\(x= .normal/\zqz (get e' 5) (.it ⟨5,5,0⟩)=true/\only [0,5] e'=eK/\gc (znr (ydl l r)) eK m'=ym1 l r [k] (ync [k])):=by
 refine ygh ?_
 repeat' ((conv=>whnf);first
 | refine Yz ?_
  | (refine Rnd.enter g.lim ?_)
  | (refine zbd.mk ⟨by decide,rfl,by decide,by decide⟩ ?_)
  | (exact⟨rfl,rfl,rfl,rfl⟩)
  | fail)
theorem yor (l:List Evt) (r:Rgs) (us:List (List UInt8)) (hu:us.length<=1000000) (k:List UInt8):∃x e' m',ymt E (put eK 8 (.tup [S k,B true])) (ym1 l r us (ync us))=some (x,e',m')/\(x= .normal/\zqz (get e' 5) (.it ⟨5,5,0⟩)=true/\only [0,5] e'=eK/\gc (znr (ydl l r)) eK m'=ym1 l r (us++[k]) (ync (us++[k]))):=by
 refine ygh ?_
 repeat' ((conv=>whnf);first
 | refine Yz ?_
  | (refine Rnd.enter g.lim ?_)
  | (refine zbd.mk ⟨rfl,rfl,rfl,rfl,rfl,rfl,by dsimp only;omega,by first |omega|(dsimp only;omega)⟩ ?_)
  | (refine⟨rfl,rfl,rfl,?_⟩)
  | fail)
 simp only [ym1,ync,List.length_append,List.length_cons,List.length_nil,List.map_append,List.map_cons,List.map_nil]
 rfl
theorem yi0 (l:List Evt) (r:Rgs):∀(ps us:List (List UInt8)),us.length+ps.length<=1000000->zib (ymt E) 5 ⟨5,5,0⟩ 0 1 8 [0,5] (znr (ydl l r)) (zk8 ps) eK (ym1 l r us (ync us))=some (.normal,eK,ym1 l r (us++ps) (ync (us++ps)))
 | [],us,_=>by
  rw [List.append_nil]
  rfl
 | p::ps,us,h=>by
  rw [List.length_cons] at h
  obtain⟨x,e',m',h1,rfl,h2,h3,h4⟩:=yor g l r us (by omega) p
  unfold zk8
  rw [List.map_cons,zib,h1,Option.bind_some]
  unfold zj0
  dsimp only [Ex.on]
  rw [if_pos h2,h3,h4]
  have:=yi0 l r ps (us++[p]) (by rw [List.length_append,List.length_singleton];omega)
  rw [List.append_assoc] at this
  exact this
theorem ylv (l:List Evt) (r:Rgs) (p:List UInt8) (ps:List (List UInt8)) (hl:ps.length<=100000):zib (ymt E) 5 ⟨5,5,0⟩ 0 1 8 [0,5] (znr (ydl l r)) (zk8 (p::ps)) eK (ydl l r)=some (.normal,eK,ym1 l r (p::ps) (ync (p::ps))):=by
 obtain⟨x,e',m',h1,rfl,h2,h3,h4⟩:=yoq g l r p
 unfold zk8
 rw [List.map_cons,zib,h1,Option.bind_some]
 unfold zj0
 dsimp only [Ex.on]
 rw [if_pos h2,h3,h4]
 exact yi0 g l r ps [p] (by simp;omega)
abbrev yr2 (l:List Evt) (r:Rgs) (ks:List (List UInt8)):Mem:=mTZ l r++[(⟨1,14,0⟩,.map (zk8 ks)),(⟨1,10,0⟩,.row false zb7 2 0 []),(⟨1,29,0⟩,.cells zdr [.mp ⟨1,14,0⟩]),(⟨2,2,0⟩,.row true zab 1 0 []),(⟨3,2,0⟩,.row true zab 1 0 []),(⟨4,2,0⟩,.cells zo5 [.d .nil]),(⟨4,4,0⟩,.row true zab 1 0 []),(⟨4,14,0⟩,lpK)]
abbrev yp9 (l:List Evt) (r:Rgs) (mp:Ob) (n:Nat) (last:Ob):Mem:=mTZ l r++[(⟨1,14,0⟩,mp),(⟨1,10,0⟩,.row false zb7 2 0 []),(⟨1,29,0⟩,.cells zdr [.mp ⟨1,14,0⟩]),(⟨2,2,0⟩,.row true zab 1 0 []),(⟨3,2,0⟩,.row true zab 1 0 []),(⟨4,2,0⟩,.cells zo5 [.ref ⟨4,11,0⟩ 0 n n]),(⟨4,4,0⟩,.row true zab 1 0 []),(⟨4,14,0⟩,lpK),(⟨5,5,0⟩,.gone),(⟨4,11,0⟩,last)]
theorem yp4 (l:List Evt) (r:Rgs) (k:List UInt8) (kr:List (List UInt8)) (hl:kr.length<=100000):
  zpv (ymt E) ⟨5,6⟩ 5 (.t 4) 0 1 8 [0,5] e1K (yr2 l r (k::kr))=some (.normal,eK,yp9 l r (.map (zk8 (k::kr))) (kr.length+1) (.bag zab 1 (kr.length+1) ((k::kr).map D.str))):=by
 have hj:zlt true (ydl l r) (yp9 l r .gone (kr.length+1) (.row true zab 1 (kr.length+1) ((k::kr).map D.str)))=yp9 l r .gone (kr.length+1) (.bag zab 1 (kr.length+1) ((k::kr).map D.str)):=by
  simp [zlt,ykd,z96,Evl.look]
 refine(z4h (o:=⟨1,14,0⟩) (es:=zk8 (k::kr)) rfl rfl (i:=⟨5,5,0⟩) (m2:=ydl l r) (e2:=eK) (e3:=eK) rfl rfl rfl
  (fun p=>yp9 l r .gone (kr.length+1) (.row true zab 1 (kr.length+1) (p.map fun e=>e.1))) (fun p hp=> ?_) (mj:=yp9 l r .gone (kr.length+1) (.bag zab 1 (kr.length+1) ((k::kr).map D.str))) ?_ (fun p hp=> ?_) rfl).trans rfl
 ·obtain⟨us,rfl,hu⟩:=z8g hp
  have hul:us.length=kr.length+1:=hu.length_eq
  obtain⟨a,b,rfl⟩:∃a b,us=a::b:=List.exists_cons_of_ne_nil (by rintro rfl;simp at hul)
  rw [ylv g l r a b (by simp at hul;omega)]
  dsimp only [ym1,ync]
  rw [hul]
  have:(zk8 (a::b)).map (fun e=>e.1)=(a::b).map D.str:=by
   unfold zk8
   rw [List.map_map]
   rfl
  rw [this]
 ·have:(zk8 (k::kr)).map (fun e=>e.1)=(k::kr).map D.str:=by
   unfold zk8
   rw [List.map_map]
   rfl
  rw [this]
  exact hj
 ·obtain⟨us,rfl,hu⟩:=z8g hp
  have:(zk8 us).map (fun e=>e.1)=us.map D.str:=by
   unfold zk8
   rw [List.map_map]
   rfl
  rw [this]
  have hb:ykc 1 (kr.length+1) ((k::kr).map D.str) (us.map D.str)=true:=ynk (hu.symm.map _) (by rw [List.length_map];exact hu.length_eq)
  exact LeJ.ok (.cells<| .row<| .row<| .row<| .row<| .row<| .gone<| .row<| .cells<| .row<| .row<| .cells<| .row<| .loop rfl rfl<| .gone<| .bag hb .nil)
omit g in
theorem yn2 (l:List Evt) (r:Rgs):zpv (ymt E) ⟨5,6⟩ 5 (.t 4) 0 1 8 [0,5] e1K (yr2 l r [])=some (.normal,eK,yr2 l r []++[(⟨5,5,0⟩,.gone)]):=by
 have hj:zlt true (ydl l r) (ydl l r)=ydl l r:=by
  simp [zlt,ykd,z96,Evl.look]
 refine(z4h (o:=⟨1,14,0⟩) (es:=[]) rfl rfl (i:=⟨5,5,0⟩) (m2:=ydl l r) (e2:=eK) (e3:=eK) rfl rfl rfl (fun _=>ydl l r) (fun p hp=> ?_) (mj:=ydl l r) hj (fun p hp=> ?_) rfl).trans rfl
 ·have:=hp.symm.nil_eq
  subst this
  rfl
 ·exact LeJ.ok (.cells<| .row<| .row<| .row<| .row<| .row<| .gone<| .row<| .cells<| .row<| .row<| .cells<| .row<| .loop rfl rfl<| .gone .nil)
abbrev ye7 (l:List Evt) (r:Rgs) (ks:List (List UInt8)) (last:Ob):Mem:=mZZ l r ks++[(⟨2,2,0⟩,.row true zab 1 0 []),(⟨2,5,0⟩,last)]
theorem yma (hx:ext n_slices_Sort_Lstring_string=some sortXS) (l:List Evt) (r:Rgs) (ks:List (List UInt8)) (n slot:Nat) (hn:ks.length=n) (h0:n≠0) (hb:n<=100000):
  zn8 (fun m=>zkd E ⟨2,3⟩ slot true true (.fn n_slices_Sort_Lstring_string [] []) [.ref ⟨2,5,0⟩ 0 n n] m) (ye7 l r ks (.bag zab 1 n (ks.map D.str))) (.ref ⟨2,5,0⟩ 0 n n)=some (.tup [],ye7 l r ks (.row true zab 1 n ((zi7 ks).map D.str))):=by
 have hj:zlt false (ye7 l r ks (.bag zab 1 n (ks.map D.str))) (ye7 l r ks (.row true zab 1 n ((zi7 ks).map D.str)))=ye7 l r ks (.row true zab 1 n ((zi7 ks).map D.str)):=by
  simp [zlt,z96]
 refine(zwo (n:=n) (xs:=ks.map D.str) rfl (by rw [List.length_map];exact hn) (.tup [],ye7 l r ks (.row true zab 1 n ((zi7 ks).map D.str))) (fun p hp=> ?_) ?_).trans (by rw [hj])
 ·obtain⟨us,rfl,hu⟩:=yjt hp
  have hul:us.length=n:=hu.length_eq.trans hn
  have key:Evl.callW E ⟨2,3⟩ slot true true (.fn n_slices_Sort_Lstring_string [] []) [.ref ⟨2,5,0⟩ 0 n n] (ye7 l r ks (.row true zab 1 n (us.map D.str))) fun v m=>v= .tup []/\m=ye7 l r ks (.row true zab 1 n ((zi7 ks).map D.str)):=by
   repeat' ((conv=>whnf);first
   | refine Yz ?_
    | (simp only [Evl.idsAll,Evl.idsO,zpj,List.nil_append])
    | (refine In.extern (v:= .tup []) (m':=ye7 l r ks (.row true zab 1 n ((zi7 ks).map D.str))) g.lim hx ?_ ?_)
    | (exact⟨rfl,rfl⟩)
    | (exact⟨trivial,rfl⟩)
    | fail)
   rw [<-z4p hu]
   show (if n=0/\n=0/\n=0 then some (V.tup [],ye7 l r ks (.row true zab 1 n (us.map D.str))) else if n=n/\n=n/\n≠0/\n<4611686018427387904 then(match Evl.strsOf (us.map D.str) with
    | some zs=>some (V.tup [],upd (ye7 l r ks (.row true zab 1 n (us.map D.str))) ⟨2,5,0⟩ (.row true zab 1 n ((zi7 zs).map D.str)))
    | none=>none) else none)=_
   rw [if_neg (fun h=>h0 h.1),if_pos ⟨rfl,rfl,h0,by omega⟩,zrt]
   rfl
  obtain⟨q,h1,h2,h3⟩:=Evl.callW_ok key
  have:(q:V×Mem)=(.tup [],ye7 l r ks (.row true zab 1 n ((zi7 ks).map D.str))):=Prod.ext h2 h3
  rw [<-this]
  exact h1
 ·rw [hj]
  exact LeJ.ok (.cells<| .row<| .row<| .row<| .row<| .row<| .map (ycy _)<| .row<| .cells<| .row<| .row .nil)
theorem yji (hx:ext n_slices_Sort_Lstring_string=some sortXS) (l:List Evt) (r:Rgs) (slot:Nat):
  zn8 (fun m=>zkd E ⟨2,3⟩ slot true true (.fn n_slices_Sort_Lstring_string [] []) [.d .nil] m) (mZZ l r []++[(⟨2,2,0⟩,.row true zab 1 0 [])]) (.d .nil)=some (.tup [],mZZ l r []++[(⟨2,2,0⟩,.row true zab 1 0 [])]):=by
 have key:Evl.callW E ⟨2,3⟩ slot true true (.fn n_slices_Sort_Lstring_string [] []) [.d .nil] (mZZ l r []++[(⟨2,2,0⟩,.row true zab 1 0 [])]) fun v m=>v= .tup []/\m=mZZ l r []++[(⟨2,2,0⟩,.row true zab 1 0 [])]:=by
  repeat' ((conv=>whnf);first
  | refine Yz ?_
   | (refine In.extern (v:= .tup []) (m':=mZZ l r []++[(⟨2,2,0⟩,.row true zab 1 0 [])]) g.lim hx rfl ?_)
   | (exact⟨rfl,rfl⟩)
   | (exact⟨trivial,rfl⟩)
   | fail)
 obtain⟨q,h1,h2,h3⟩:=Evl.callW_ok key
 have:(q:V×Mem)=(.tup [],mZZ l r []++[(⟨2,2,0⟩,.row true zab 1 0 [])]):=Prod.ext h2 h3
 rw [<-this]
 exact h1
theorem z3u (hx:ext n_slices_Sort_Lstring_string=some sortXS) (l:List Evt) (r:Rgs) (ks:List (List UInt8)) (hl:ks.length<=1000) {slot:Nat} {K:V->Mem->Prop} (hK0:ks=[]->K (.d .nil) (mZZ l r ks)) (hK:ks≠[]->K (Ws (zi7 ks)) (mZZ l r ks)):
  In E 2 zd0 [.fn zao [] [.ptr ⟨1,29,0⟩ 0 0]] (mZZ l r ks) fun v m'=>zv0 ⟨1,2⟩ slot true v m' K:=by
 refine In.enter (f:=zd0) g.lim rfl rfl ?_
 have hs:=(zex ks).length_eq
 cases ks with
 | nil=>
  have h0:=yn2 (E:=E) l r
  have hK:=hK0 rfl
  repeat' ((conv=>whnf);first
  | refine Yz ?_
   | (refine In.enter (f:=zer) g.lim rfl rfl ?_)
   | (refine In.enter (f:=zcm) g.lim rfl rfl ?_)
   | (refine In.enter (f:=zao) g.lim rfl rfl ?_)
   | (refine⟨_,_,_,h0,?_⟩)
   | (refine zrv.mk ⟨(.d .nil,mZZ l r []++[(⟨2,2,0⟩,.row true zab 1 0 []),(⟨3,2,0⟩,.row true zab 1 0 [])]),rfl,?_⟩)
   | (refine zrv.mk ⟨(.d .nil,mZZ l r []++[(⟨2,2,0⟩,.row true zab 1 0 [])]),rfl,?_⟩)
   | (refine⟨_,yji g hx l r 7,?_⟩)
   | (exact hK)
   | fail)
 | cons k kr=>
  have h1:=yp4 g l r k kr (by simp at hl;omega)
  have hK:=hK (by simp)
  rw [Ws,hs,List.length_cons] at hK
  repeat' ((conv=>whnf);first
  | refine Yz ?_
   | (simp only [Evl.idsAll,Evl.idsO,zpj,List.nil_append])
   | (refine In.enter (f:=zer) g.lim rfl rfl ?_)
   | (refine In.enter (f:=zcm) g.lim rfl rfl ?_)
   | (refine In.enter (f:=zao) g.lim rfl rfl ?_)
   | (refine⟨_,_,_,h1,?_⟩)
   | (refine zrv.mk ⟨(.ref ⟨3,4,0⟩ 0 (kr.length+1) (kr.length+1),mZZ l r (k::kr)++[(⟨2,2,0⟩,.row true zab 1 0 []),(⟨3,2,0⟩,.row true zab 1 0 []),(⟨3,4,0⟩,.bag zab 1 (kr.length+1) ((k::kr).map D.str))]),rfl,?_⟩)
   | (refine zrv.mk ⟨(.ref ⟨2,5,0⟩ 0 (kr.length+1) (kr.length+1),ye7 l r (k::kr) (.bag zab 1 (kr.length+1) ((k::kr).map D.str))),rfl,?_⟩)
   | (refine⟨_,yma g hx l r (k::kr) (kr.length+1) 7 rfl (by omega) (by simp at hl;omega),?_⟩)
   | (refine zbd.mk ⟨rfl,by omega⟩ ?_)
   | (exact hK)
   | (simp only [and_self,if_true];exact hK)
   | fail)
end
section
variable {E : Oracle} (g : Good E)
include g
theorem yg6 (hx:ext n_slices_Sort_Lstring_string=some sortXS) (l:List Evt) (r:Rgs) (ho:OkR r) (kn d:Int) {slot:Nat} {K:V->Mem->Prop} (hK:K (LS2 (z97 r kn d)) (mR zaa l r)):
  In E 1 zcu [.ptr ⟨0,0,0⟩ 1 0,I kn,I d] (mR zaa l r) fun v m'=>zv0 ⟨0,1⟩ slot true v m' K:=by
 have hes:=ho.es
 have hml:(r.es.flatMap Ent.cells).length=r.es.length*8:=zag Ent.cells 8 zj5 r.es
 refine In.enter (f:=zcu) g.lim rfl rfl ?_
 repeat' ((conv=>whnf);first
 | refine Yz ?_
  | fail)
 refine zak.to (zak.up g (fun k=>[(0,.ptr ⟨0,0,0⟩ 1 0),(1,I kn),(2,I d),(7,.mp ⟨1,14,0⟩),(18,.ref ⟨0,0,2⟩ 0 r.es.length r.es.length),(19,I r.es.length),(20,I k)])
  (fun k=>mTZ l r++[(⟨1,14,0⟩,.map (zk8 (srK (r.es.take k))))]) r.es.length (fun k hk ih=> ?_) 0 (Nat.zero_le _)) rfl rfl
 by_cases hlt:k<r.es.length
 ·have ih:=ih hlt
  rw [yef r.es k hlt] at ih
  have hwin:win (r.es.flatMap Ent.cells) ((0+((k:Nat):Int).toNat)*8) 8=r.es[k].cells:=by
   rw [Nat.zero_add,Int.toNat_natCast]
   exact zb9 Ent.cells 8 zj5 r.es k hlt
  have hse:=z9m r.es[k].sr (srK (r.es.take k))
  repeat' ((conv=>whnf);first
  | refine Yz ?_
   | (rw [hwin])
   | (refine zsf.mk ⟨_,hse,?_⟩)
   | (simp only [Evl.idsAll,Evl.idsO,zpj,List.nil_append])
   | (refine zak.to ih rfl rfl)
   | fail)
 clear ih
 rw [List.take_of_length_le (by omega)]
 have hkl:(srK r.es).length<=256:=Nat.le_trans (z69 r.es) hes
 unfold z97 at hK
 generalize srK r.es=ks at *
 have hsl:=(zex ks).length_eq
 by_cases hks:ks=[]
 ·subst hks
  repeat' ((conv=>whnf);first
  | refine Yz ?_
   | (refine In.enter (f:=zbr) g.lim rfl rfl ?_)
   | (refine zrv.mk ⟨(.fn zao [] [.ptr ⟨1,29,0⟩ 0 0],mZZ l r []),rfl,?_⟩)
   | (refine z3u g hx l r [] (by simp) (slot:=30) (fun _=> ?_) (fun h=>absurd rfl h))
   | (refine zak.step g.lim ?_)
   | (refine zbd.mk ⟨rfl,by omega⟩ ?_)
   | (exact hK)
   | fail)
 ·repeat' ((conv=>whnf);first
 | refine Yz ?_
   | (simp only [Evl.idsAll,Evl.idsO,zpj,List.nil_append])
   | (refine In.enter (f:=zbr) g.lim rfl rfl ?_)
   | (refine zrv.mk ⟨(.fn zao [] [.ptr ⟨1,29,0⟩ 0 0],mZZ l r ks),rfl,?_⟩)
   | (refine z3u g hx l r ks (by omega) (slot:=30) (fun h=>absurd h hks) (fun _=> ?_))
   | fail)
  generalize zi7 ks=ss at *
  refine zak.to (zak.by (σ:=Nat×List Slt) g (fun u=>u.1<=ss.length/\u.2=yf5 r kn d (ss.take u.1))
   (fun u=>[(0,.ptr ⟨0,0,0⟩ 1 0),(1,I kn),(2,I d),(10,.ref ⟨1,10,0⟩ 0 u.2.length u.2.length),(30,Ws ss),(31,I ss.length),(32,I u.1)])
   (fun u=>mTZ l r++[(⟨1,14,0⟩,.map (zk8 ks)),(⟨1,10,0⟩,.row false zb7 2 u.2.length (u.2.flatMap Slt.cells)),(⟨1,29,0⟩,.cells zdr [.mp ⟨1,14,0⟩])])
   (fun u=>ss.length-u.1) ?_ (0,[]) ⟨Nat.zero_le _,rfl⟩) rfl rfl
  rintro⟨k,out⟩ ⟨i1,i2⟩ ih
  dsimp only at i1 i2 ih ⊢
  have hmo:(out.flatMap Slt.cells).length=out.length*2:=zag Slt.cells 2 ypk out
  have hol:out.length<=256:=by
   rw [i2,yf5,List.length_map]
   refine Nat.le_trans (List.length_filter_le _ _) ?_
   rw [List.length_take];omega
  by_cases hlt:k<ss.length
  ·have hq:=ydz g zaa l r ho ss[k] kn d
   have ht:yf5 r kn d (ss.take (k+1))=out++(if decide (zu2 r ss[k] kn d≠1440) then [ss[k]] else []).map fun s=>(⟨s,zu2 r s kn d⟩:Slt):=by
    rw [i2,yf5,zxg _ _ _ hlt,List.map_append]
    rfl
   have hpk:∀ {K:D->Prop},K (.str ss[k])->zfa (ss.map D.str) (((k:Nat):Int).toNat*1) K:=fun h=>zfa.ws k rfl hlt h
   by_cases hy:zu2 r ss[k] kn d=1440
   ·have ih:=ih (k+1,out) ⟨by dsimp only;omega,by dsimp only;rw [ht,if_neg (by simp [hy])];simp⟩ (by dsimp only;omega)
    rw [hy] at hq
    generalize ss[k]=s at *
    repeat' ((conv=>whnf);first
    | refine Yz ?_
     | (simp only [Evl.idsAll,Evl.idsO,zpj,List.nil_append])
     | (refine hpk ?_)
     | (refine zj6.of (r':=I 1440) [⟨0,0,0⟩,⟨0,0,1⟩,⟨0,0,2⟩,⟨0,0,3⟩,⟨0,0,4⟩] rfl rfl rfl rfl hq rfl rfl rfl ?_)
     | (refine Cmp.tt rfl ?_)
     | (refine zak.to ih rfl rfl)
     | fail)
   ·have ih:=ih (k+1,out++[⟨ss[k],zu2 r ss[k] kn d⟩]) ⟨by dsimp only;omega,by dsimp only;rw [ht,if_pos (decide_eq_true hy)];rfl⟩ (by dsimp only;omega)
    simp only [List.length_append,List.length_cons,List.length_nil,List.flatMap_append,List.flatMap_cons,List.flatMap_nil] at ih
    generalize ss[k]=s at *
    generalize zu2 r s kn d=y at *
    repeat' ((conv=>whnf);first
    | refine Yz ?_
     | (simp only [Evl.idsAll,Evl.idsO,zpj,List.nil_append])
     | (refine hpk ?_)
     | (refine zj6.of (r':=I y) [⟨0,0,0⟩,⟨0,0,1⟩,⟨0,0,2⟩,⟨0,0,3⟩,⟨0,0,4⟩] rfl rfl rfl rfl hq rfl rfl rfl ?_)
     | (refine Cmp.tt rfl ?_)
     | (refine Cmp.ff hy ?_)
     | (refine Cmp.ff (fun h=>hy h.2) ?_)
     | (refine Cmp.ff (fun h=>hy h.2.1) ?_)
     | (refine zbd.mk ⟨rfl,rfl,rfl,rfl,rfl,rfl,by dsimp only;omega,by first |omega|(dsimp only;omega)⟩ ?_)
     | (refine zak.to ih rfl rfl)
     | fail)
  ·rw [List.take_of_length_le (by omega)] at i2
   rw [<-i2] at hK
   repeat' ((conv=>whnf);first
   | refine Yz ?_
    | (refine zbd.mk ⟨rfl,by omega⟩ ?_)
    | (refine zbd.mk ⟨trivial,trivial⟩ ?_)
    | (simp only [and_self,if_true];exact hK)
    | fail)
theorem yo7 (ev:List Evt) (r:Rgs) (ho:OkR r) (kn d:Int):Ui E zcu [.ptr ⟨0,0,0⟩ 1 0,I kn,I d] (mR zaa ev r) (LS2 (z97 r kn d)) (mR zaa ev r):=
 ⟨yg6 g rfl ev r ho kn d ⟨rfl,⟨rfl,rfl,rfl,rfl,rfl,trivial⟩⟩⟩
end
theorem ylx {r:Rgs} (ho:OkR r) {k:Nat} (hk:k<r.es.length) (h:r.es[k].bs=[]) (on:List UInt8):yec r r.es[k] on=false:=by
 have h1:=zuq ho.bases r.es.length k (by omega) hk
 have h2:Ch r.es k [r.es[k]]:= .stop k hk (by rw [h];exact z0m ho.nm)
 unfold yec
 rw [h1.det h2]
 rfl
theorem Ch.head {es:List Ent} {k:Nat} {c:List Ent} (h:Ch es k c):∃hk:k<es.length,c=es[k]::c.tail:=by
 cases h with
 | stop _ hk _=>exact⟨hk,rfl⟩
 | step _ _ _ hk _ _=>exact⟨hk,rfl⟩
theorem ylw {r:Rgs} (ho:OkR r) {k j:Nat} (hk:k<r.es.length) (hj:j<k) (h:zls r.es r.es[k].bs=j) (on:List UInt8):yec r r.es[k] on=(decide (r.es[k].bs=on)||yec r (r.es[j]'(by omega)) on):=by
 have hjl:j<r.es.length:=by omega
 have h1:=zuq ho.bases r.es.length k (by omega) hk
 have h3:=zuq ho.bases r.es.length j (by omega) hjl
 have h2:Ch r.es k (r.es[k]::chF r.es.length r.es r.es[j]):= .step k j _ hk h h3
 unfold yec
 rw [h1.det h2,List.tail_cons]
 obtain⟨_,he⟩:=h3.head
 rw [he,List.any_cons,List.tail_cons]
 rcases zfp r.es r.es[k].bs with⟨e,_⟩|⟨i,hi,e,hn,_⟩
 ·omega
 ·have hij:i=j:=by omega
  subst hij
  exact congrArg (fun z=>(decide (z=on)||_)) hn
section
variable {E : Oracle} (g : Good E)
include g
theorem zm7 (r:Rgs) (nm:List UInt8) (hl:r.es.length<=1000000):Fc E zc3 [Rgv r,S nm] (I (zls r.es nm)):=by
 refine g.fn rfl rfl ?_
 have hml:(r.es.flatMap Ent.cells).length=r.es.length*8:=zag Ent.cells 8 zj5 r.es
 repeat' ((conv=>whnf);first
 | refine Yz ?_
  | fail)
 refine zak.to (zak.upP g (fun k=>[(1,S nm),(2,.ptr ⟨0,2,0⟩ 0 0),(5,I k)]) (fun _=>[(⟨0,2,0⟩,.cells zaf [I r.kn,.d (.list r.es.length (r.es.flatMap Ent.cells)),.d (.list r.rs.length (r.rs.flatMap Rmv.cells)),.d (.list r.cs.length (r.cs.flatMap Cpl.cells))])]) (fun k=>∀j,(hj:j<k)->(hj':j<r.es.length)->decide (r.es[j].nm=nm)=false) r.es.length (fun k hk hp ih=> ?_) 0 (Nat.zero_le _) (fun j h _=>absurd h (Nat.not_lt_zero _))) rfl rfl
 by_cases hlt:k<r.es.length
 ·by_cases he:r.es[k].nm=nm
  ·have hi:zls r.es nm=k:=zn9 (p:=fun x:Ent=>decide (x.nm=nm)) hlt (decide_eq_true he) fun j hj=>hp j hj (by omega)
   rw [hi]
   repeat' ((conv=>whnf);first
   | refine Yz ?_
    | (refine zfa.rec zj5 k rfl hlt rfl ?_)
    | (refine Cmp.tt he ?_)
    | (refine Ret.mk rfl)
    | fail)
  ·have ih:=ih hlt fun j hj hj'=>by
    by_cases e:j=k
    ·subst e;exact decide_eq_false he
    ·exact hp j (by omega) hj'
   repeat' ((conv=>whnf);first
   | refine Yz ?_
    | (refine zfa.rec zj5 k rfl hlt rfl ?_)
    | (refine Cmp.ff he ?_)
    | (refine zak.to ih rfl rfl)
    | fail)
 ·obtain rfl:k=r.es.length:=by omega
  have hi:zls r.es nm= -1:=zlb (p:=fun x:Ent=>decide (x.nm=nm)) fun j hj=>hp j hj hj
  rw [hi]
  repeat' ((conv=>whnf);first
  | refine Yz ?_
   | (refine Ret.mk rfl)
   | fail)
theorem zpu (r:Rgs) (nm:List UInt8) (hl:r.cs.length<=1000000):Fc E zda [Rgv r,S nm] (I (zth r.cs nm)):=by
 refine g.fn rfl rfl ?_
 have hml:(r.cs.flatMap Cpl.cells).length=r.cs.length*5:=zag Cpl.cells 5 zop r.cs
 repeat' ((conv=>whnf);first
 | refine Yz ?_
  | fail)
 refine zak.to (zak.upP g (fun k=>[(1,S nm),(2,.ptr ⟨0,2,0⟩ 0 0),(5,I k)]) (fun _=>[(⟨0,2,0⟩,.cells zaf [I r.kn,.d (.list r.es.length (r.es.flatMap Ent.cells)),.d (.list r.rs.length (r.rs.flatMap Rmv.cells)),.d (.list r.cs.length (r.cs.flatMap Cpl.cells))])]) (fun k=>∀j,(hj:j<k)->(hj':j<r.cs.length)->decide (r.cs[j].nm=nm)=false) r.cs.length (fun k hk hp ih=> ?_) 0 (Nat.zero_le _) (fun j h _=>absurd h (Nat.not_lt_zero _))) rfl rfl
 by_cases hlt:k<r.cs.length
 ·by_cases he:r.cs[k].nm=nm
  ·have hi:zth r.cs nm=k:=zn9 (p:=fun x:Cpl=>decide (x.nm=nm)) hlt (decide_eq_true he) fun j hj=>hp j hj (by omega)
   rw [hi]
   repeat' ((conv=>whnf);first
   | refine Yz ?_
    | (refine zfa.rec zop k rfl hlt rfl ?_)
    | (refine Cmp.tt he ?_)
    | (refine Ret.mk rfl)
    | fail)
  ·have ih:=ih hlt fun j hj hj'=>by
    by_cases e:j=k
    ·subst e;exact decide_eq_false he
    ·exact hp j (by omega) hj'
   repeat' ((conv=>whnf);first
   | refine Yz ?_
    | (refine zfa.rec zop k rfl hlt rfl ?_)
    | (refine Cmp.ff he ?_)
    | (refine zak.to ih rfl rfl)
    | fail)
 ·obtain rfl:k=r.cs.length:=by omega
  have hi:zth r.cs nm= -1:=zlb (p:=fun x:Cpl=>decide (x.nm=nm)) fun j hj=>hp j hj hj
  rw [hi]
  repeat' ((conv=>whnf);first
  | refine Yz ?_
   | (refine Ret.mk rfl)
   | fail)
theorem yir (r:Rgs) (nm:List UInt8) (kn:Int) (hl:r.rs.length<=1000000):Fc E zm6 [Rgv r,S nm,I kn] (B (z4k r.rs nm kn)):=by
 refine g.fn rfl rfl ?_
 have hml:(r.rs.flatMap Rmv.cells).length=r.rs.length*2:=zag Rmv.cells 2 yiz r.rs
 repeat' ((conv=>whnf);first
 | refine Yz ?_
  | fail)
 refine zak.to (zak.upP g (fun k=>[(1,S nm),(2,I kn),(3,.ptr ⟨0,3,0⟩ 0 0),(7,I k)]) (fun _=>[(⟨0,3,0⟩,.cells zaf [I r.kn,.d (.list r.es.length (r.es.flatMap Ent.cells)),.d (.list r.rs.length (r.rs.flatMap Rmv.cells)),.d (.list r.cs.length (r.cs.flatMap Cpl.cells))])])
  (fun k=>∀j,(hj:j<r.rs.length)->j<k->¬(r.rs[j].en=nm/\r.rs[j].kn<=kn)) r.rs.length (fun k hk hp ih=> ?_) 0 (Nat.zero_le _) (fun j _ h=>absurd h (Nat.not_lt_zero _))) rfl rfl
 by_cases hlt:k<r.rs.length
 ·by_cases he:r.rs[k].en=nm
  ·by_cases hn:r.rs[k].kn<=kn
   ·have hb:z4k r.rs nm kn=true:=List.any_eq_true.2 ⟨_,List.getElem_mem hlt,decide_eq_true ⟨he,hn⟩⟩
    rw [hb]
    repeat' ((conv=>whnf);first
    | refine Yz ?_
     | (refine zfa.rec yiz k rfl hlt rfl ?_)
     | (refine Cmp.tt he ?_)
     | (refine Ret.mk rfl)
     | fail)
   ·have ih:=ih hlt fun j hj hjk=>by
     by_cases e:j=k
     ·subst e;exact fun h=>hn h.2
     ·exact hp j hj (by omega)
    repeat' ((conv=>whnf);first
    | refine Yz ?_
     | (refine zfa.rec yiz k rfl hlt rfl ?_)
     | (refine Cmp.tt he ?_)
     | (refine zak.to ih rfl rfl)
     | fail)
  ·have ih:=ih hlt fun j hj hjk=>by
    by_cases e:j=k
    ·subst e;exact fun h=>he h.1
    ·exact hp j hj (by omega)
   repeat' ((conv=>whnf);first
   | refine Yz ?_
    | (refine zfa.rec yiz k rfl hlt rfl ?_)
    | (refine Cmp.ff he ?_)
    | (refine zak.to ih rfl rfl)
    | fail)
 ·obtain rfl:k=r.rs.length:=by omega
  have hb:z4k r.rs nm kn=false:=by
   unfold z4k
   rw [List.any_eq_false]
   intro z hz
   obtain⟨j,hj,rfl⟩:=List.mem_iff_getElem.1 hz
   simpa using hp j hj hj
  rw [hb]
  repeat' ((conv=>whnf);first
  | refine Yz ?_
   | (refine Ret.mk rfl)
   | fail)
theorem zve (r:Rgs) (ho:OkR r) (kn:Int):∀(k:Nat) (hk:k<r.es.length),Fc E zeu [Rgv r,I k,I kn] (B (zxa r r.es[k] kn)):=by
 intro k
 induction k using Nat.strongRecOn with
 | _ k ihk=>
  intro hk
  have hes:=ho.es
  have hrm:=yir g r r.es[k].nm kn (by have:=ho.rs;omega)
  have hml:(r.es.flatMap Ent.cells).length=r.es.length*8:=zag Ent.cells 8 zj5 r.es
  have hwin:win (r.es.flatMap Ent.cells) (((k:Nat):Int).toNat*8) 8=r.es[k].cells:=by
   rw [Int.toNat_natCast]
   exact zb9 Ent.cells 8 zj5 r.es k hk
  refine g.fn rfl rfl ?_
  rcases ho.bs k hk with hb|⟨j,hj,hb⟩
  ·rw [ykr ho hk hb]
   by_cases h1:r.es[k].kn<=kn
   ·rw [decide_eq_true h1]
    cases hr:z4k r.rs r.es[k].nm kn
    all_goals
     rw [hr] at hrm
     repeat' ((conv=>whnf);first
     | refine Yz ?_
      | (rw [hwin])
      | (apply zah.of;assumption)
      | (refine Cmp.tt hb ?_)
      | (refine Ret.mk rfl)
      | fail)
   ·rw [decide_eq_false h1]
    repeat' ((conv=>whnf);first
    | refine Yz ?_
     | (rw [hwin])
     | (refine Ret.mk rfl)
     | fail)
  ·rw [ykq ho hk hj hb]
   have hb0:r.es[k].bs≠[]:=fun e=>by rw [e,z0m ho.nm] at hb;omega
   have hrec:=ihk j hj (by omega)
   have hea:=zm7 g r r.es[k].bs (by omega)
   rw [hb] at hea
   by_cases h1:r.es[k].kn<=kn
   ·rw [decide_eq_true h1]
    cases hr:z4k r.rs r.es[k].nm kn
    all_goals
     rw [hr] at hrm
     repeat' ((conv=>whnf);first
     | refine Yz ?_
      | (rw [hwin])
      | (apply zah.of;assumption)
      | (refine Cmp.ff hb0 ?_)
      | (refine Ret.mk rfl)
      | fail)
   ·rw [decide_eq_false h1]
    repeat' ((conv=>whnf);first
    | refine Yz ?_
     | (rw [hwin])
     | (refine Ret.mk rfl)
     | fail)
theorem yok (r:Rgs) (ho:OkR r) (on:List UInt8):∀(k:Nat) (hk:k<r.es.length),Fc E zmf [Rgv r,I k,S on] (B (yec r r.es[k] on)):=by
 intro k
 induction k using Nat.strongRecOn with
 | _ k ihk=>
  intro hk
  have hes:=ho.es
  have hml:(r.es.flatMap Ent.cells).length=r.es.length*8:=zag Ent.cells 8 zj5 r.es
  refine g.fn rfl rfl ?_
  rcases ho.bs k hk with hb|⟨j,hj,hb⟩
  ·rw [ylx ho hk hb]
   repeat' ((conv=>whnf);first
   | refine Yz ?_
    | (refine zfa.rec zj5 k rfl hk rfl ?_)
    | (refine Cmp.ff (fun h=>h hb) ?_)
    | (refine Ret.mk rfl)
    | fail)
  ·rw [ylw ho hk hj hb]
   have hb0:r.es[k].bs≠[]:=fun e=>by rw [e,z0m ho.nm] at hb;omega
   have hrec:=ihk j hj (by omega)
   have hea:=zm7 g r r.es[k].bs (by omega)
   rw [hb] at hea
   by_cases h1:r.es[k].bs=on
   ·rw [decide_eq_true h1]
    repeat' ((conv=>whnf);first
    | refine Yz ?_
     | (refine zfa.rec zj5 k rfl hk rfl ?_)
     | (refine Cmp.tt hb0 ?_)
     | (refine Cmp.tt h1 ?_)
     | (refine Ret.mk rfl)
     | fail)
   ·rw [decide_eq_false h1]
    repeat' ((conv=>whnf);first
    | refine Yz ?_
     | (refine zfa.rec zj5 k rfl hk rfl ?_)
     | (refine Cmp.tt hb0 ?_)
     | (refine Cmp.ff h1 ?_)
     | (apply zah.of;assumption)
     | (refine Ret.mk rfl)
     | fail)
end
abbrev bxR (sl:Nat) (r:Rgs):Evl.Id×Ob:=(⟨0,sl,0⟩,.cells zaf [I r.kn,.d (.list r.es.length (r.es.flatMap Ent.cells)),.d (.list r.rs.length (r.rs.flatMap Rmv.cells)),.d (.list r.cs.length (r.cs.flatMap Cpl.cells))])
section
variable {E : Oracle} (g : Good E)
include g
theorem yfd (r:Rgs) (ho:OkR r) (kn:Int):Fc E ziw [Rgv r,I kn] (Ws (ygl r kn)):=by
 refine g.fn rfl rfl ?_
 have hes:=ho.es
 have hml:(r.es.flatMap Ent.cells).length=r.es.length*8:=zag Ent.cells 8 zj5 r.es
 repeat' ((conv=>whnf);first
 | refine Yz ?_
  | fail)
 refine zak.to (zak.by (σ:=Nat×List (List UInt8)) g (fun u=>u.1<=r.es.length/\u.2=((r.es.take u.1).filter fun x=>zxa r x kn).map Ent.nm)
  (fun u=>[(1,I kn),(2,.ptr ⟨0,2,0⟩ 0 0),(5,.ref ⟨0,5,0⟩ 0 u.2.length u.2.length),(6,I u.1)])
  (fun u=>[bxR 2 r,(⟨0,4,0⟩,.row false zab 1 0 []),(⟨0,5,0⟩,.row false zab 1 u.2.length (u.2.map D.str))])
  (fun u=>r.es.length-u.1) ?_ (0,[]) ⟨Nat.zero_le _,rfl⟩) rfl rfl
 rintro⟨k,out⟩ ⟨h1,h2⟩ ih
 dsimp only at h1 h2 ih ⊢
 have hol:out.length<=256:=by
  rw [h2,List.length_map]
  refine Nat.le_trans (List.length_filter_le _ _) ?_
  rw [List.length_take];omega
 by_cases hlt:k<r.es.length
 ·have hq:=zve g r ho kn k hlt
  cases hc:zxa r r.es[k] kn with
  | true=>
   rw [hc] at hq
   have ih:=ih (k+1,out++[r.es[k].nm]) ⟨by dsimp only;omega,by dsimp only;rw [zd3 _ _ _ hlt,hc,List.map_append,<-h2];rfl⟩ (by dsimp only;omega)
   simp only [List.length_append,List.length_cons,List.length_nil,List.map_append,List.map_cons,List.map_nil] at ih
   repeat' ((conv=>whnf);first
   | refine Yz ?_
    | (apply zah.of;assumption)
    | (refine zfa.rec zj5 k rfl hlt rfl ?_)
    | (refine zbd.mk ⟨rfl,rfl,rfl,rfl,rfl,by simp,by dsimp only;omega,by dsimp only;omega⟩ ?_)
    | (refine zak.to ih rfl rfl)
    | fail)
  | false=>
   rw [hc] at hq
   have ih:=ih (k+1,out) ⟨by dsimp only;omega,by dsimp only;rw [zd3 _ _ _ hlt,hc,h2];simp⟩ (by dsimp only;omega)
   repeat' ((conv=>whnf);first
   | refine Yz ?_
    | (apply zah.of;assumption)
    | (refine zak.to ih rfl rfl)
    | fail)
 ·rw [List.take_of_length_le (by omega)] at h2
  rw [ygl,<-h2]
  repeat' ((conv=>whnf);first
  | refine Yz ?_
   | (refine zbd.mk ⟨rfl,by omega⟩ ?_)
   | (refine Ret.mk ?_)
   | fail)
  all_goals simp
theorem yio (r:Rgs) (ho:OkR r) (on:List UInt8):Fc E zjv [Rgv r,S on] (Ws (yi2 r on)):=by
 refine g.fn rfl rfl ?_
 have hes:=ho.es
 have hml:(r.es.flatMap Ent.cells).length=r.es.length*8:=zag Ent.cells 8 zj5 r.es
 repeat' ((conv=>whnf);first
 | refine Yz ?_
  | fail)
 refine zak.to (zak.by (σ:=Nat×List (List UInt8)) g (fun u=>u.1<=r.es.length/\u.2=((r.es.take u.1).filter fun x=>yec r x on).map Ent.nm)
  (fun u=>[(1,S on),(2,.ptr ⟨0,2,0⟩ 0 0),(5,.ref ⟨0,5,0⟩ 0 u.2.length u.2.length),(6,I u.1)])
  (fun u=>[bxR 2 r,(⟨0,4,0⟩,.row false zab 1 0 []),(⟨0,5,0⟩,.row false zab 1 u.2.length (u.2.map D.str))])
  (fun u=>r.es.length-u.1) ?_ (0,[]) ⟨Nat.zero_le _,rfl⟩) rfl rfl
 rintro⟨k,out⟩ ⟨h1,h2⟩ ih
 dsimp only at h1 h2 ih ⊢
 have hol:out.length<=256:=by
  rw [h2,List.length_map]
  refine Nat.le_trans (List.length_filter_le _ _) ?_
  rw [List.length_take];omega
 by_cases hlt:k<r.es.length
 ·have hq:=yok g r ho on k hlt
  cases hc:yec r r.es[k] on with
  | true=>
   rw [hc] at hq
   have ih:=ih (k+1,out++[r.es[k].nm]) ⟨by dsimp only;omega,by dsimp only;rw [zd3 _ _ _ hlt,hc,List.map_append,<-h2];rfl⟩ (by dsimp only;omega)
   simp only [List.length_append,List.length_cons,List.length_nil,List.map_append,List.map_cons,List.map_nil] at ih
   repeat' ((conv=>whnf);first
   | refine Yz ?_
    | (apply zah.of;assumption)
    | (refine zfa.rec zj5 k rfl hlt rfl ?_)
    | (refine zbd.mk ⟨rfl,rfl,rfl,rfl,rfl,by simp,by dsimp only;omega,by dsimp only;omega⟩ ?_)
    | (refine zak.to ih rfl rfl)
    | fail)
  | false=>
   rw [hc] at hq
   have ih:=ih (k+1,out) ⟨by dsimp only;omega,by dsimp only;rw [zd3 _ _ _ hlt,hc,h2];simp⟩ (by dsimp only;omega)
   repeat' ((conv=>whnf);first
   | refine Yz ?_
    | (apply zah.of;assumption)
    | (refine zak.to ih rfl rfl)
    | fail)
 ·rw [List.take_of_length_le (by omega)] at h2
  rw [yi2,<-h2]
  repeat' ((conv=>whnf);first
  | refine Yz ?_
   | (refine zbd.mk ⟨rfl,by omega⟩ ?_)
   | (refine Ret.mk ?_)
   | fail)
  all_goals simp
theorem yd0 (r:Rgs) (ho:OkR r) (s:List UInt8) (kn d:Int):Fc E ziq [Rgv r,S s,I kn,I d] (I (zu2 r s kn d)):=by
 refine g.fn rfl rfl ?_
 have hes:=ho.es
 have hml:(r.es.flatMap Ent.cells).length=r.es.length*8:=zag Ent.cells 8 zj5 r.es
 repeat' ((conv=>whnf);first
 | refine Yz ?_
  | fail)
 refine zak.to (zak.by (σ:=Nat×Int) g (fun u=>u.1<=r.es.length/\u.2=(r.es.take u.1).foldl (fun o x=>if yau r s kn d x then x.mi else o) 1440)
  (fun u=>[(1,S s),(2,I kn),(3,I d),(4,.ptr ⟨0,4,0⟩ 0 0),(9,I u.2),(10,I u.1)])
  (fun u=>[bxR 4 r])
  (fun u=>r.es.length-u.1) ?_ (0,1440) ⟨Nat.zero_le _,rfl⟩) rfl rfl
 rintro⟨k,out⟩ ⟨h1,h2⟩ ih
 dsimp only at h1 h2 ih ⊢
 by_cases hlt:k<r.es.length
 ·have hq:=zve g r ho kn k hlt
  have hwin:win (r.es.flatMap Ent.cells) (((k:Nat):Int).toNat*8) 8=r.es[k].cells:=by
   rw [Int.toNat_natCast]
   exact zb9 Ent.cells 8 zj5 r.es k hlt
  have hhit:yau r s kn d r.es[k]=(decide (r.es[k].sr=s)&&decide (r.es[k].fr<=d)&&decide (d<=r.es[k].to)&&zxa r r.es[k] kn):=rfl
  have ht:(r.es.take (k+1)).foldl (fun o x=>if yau r s kn d x then x.mi else o) 1440=if yau r s kn d r.es[k] then r.es[k].mi else out:=by
   rw [List.take_succ_eq_append_getElem hlt,List.foldl_append,<-h2]
   rfl
  have ihT:=fun h:yau r s kn d r.es[k]=true=>ih (k+1,r.es[k].mi) ⟨by dsimp only;omega,by dsimp only;rw [ht,h];rfl⟩ (by dsimp only;omega)
  have ihF:=fun h:yau r s kn d r.es[k]=false=>ih (k+1,out) ⟨by dsimp only;omega,by dsimp only;rw [ht,h];rfl⟩ (by dsimp only;omega)
  clear ih ht
  by_cases hs:r.es[k].sr=s
  ·by_cases hf:r.es[k].fr<=d
   ·by_cases ht:d<=r.es[k].to
    ·cases hc:zxa r r.es[k] kn with
     | true=>
      rw [hc] at hq
      have ih:=ihT (by rw [hhit,decide_eq_true hs,decide_eq_true hf,decide_eq_true ht,hc];rfl)
      repeat' ((conv=>whnf);first
      | refine Yz ?_
       | (rw [hwin])
       | (apply zah.of;assumption)
       | (refine Cmp.tt hs ?_)
       | (refine zak.to ih rfl rfl)
       | fail)
     | false=>
      rw [hc] at hq
      have ih:=ihF (by rw [hhit,hc,Bool.and_false])
      repeat' ((conv=>whnf);first
      | refine Yz ?_
       | (rw [hwin])
       | (apply zah.of;assumption)
       | (refine Cmp.tt hs ?_)
       | (refine zak.to ih rfl rfl)
       | fail)
    ·have ih:=ihF (by rw [hhit,decide_eq_false ht,Bool.and_false,Bool.false_and])
     repeat' ((conv=>whnf);first
     | refine Yz ?_
      | (rw [hwin])
      | (refine Cmp.tt hs ?_)
      | (refine zak.to ih rfl rfl)
      | fail)
   ·have ih:=ihF (by rw [hhit,decide_eq_false hf,Bool.and_false,Bool.false_and,Bool.false_and])
    repeat' ((conv=>whnf);first
    | refine Yz ?_
     | (rw [hwin])
     | (refine Cmp.tt hs ?_)
     | (refine zak.to ih rfl rfl)
     | fail)
  ·have ih:=ihF (by rw [hhit,decide_eq_false hs,Bool.false_and,Bool.false_and,Bool.false_and])
   repeat' ((conv=>whnf);first
   | refine Yz ?_
    | (rw [hwin])
    | (refine Cmp.ff hs ?_)
    | (refine zak.to ih rfl rfl)
    | fail)
 ·rw [List.take_of_length_le (by omega)] at h2
  rw [zu2,<-h2]
  repeat' ((conv=>whnf);first
  | refine Yz ?_
   | (refine Ret.mk rfl)
   | fail)
def zyg (l:List Int):Int:=zar (l.map fun n=>rng n 0 99999)
theorem ztv (l:List Int) (hl:l.length<=1000000):Fc E zdb [LI l] (I (zyg l)):=by
 refine g.fn rfl rfl ?_
 repeat' ((conv=>whnf);first
 | refine Yz ?_
  | fail)
 refine zak.to (zak.upP g (fun k=>[(0,LI l),(3,I k)]) (fun _=>[]) (fun k=>zyg l=zyg (l.drop k)) l.length (fun k hk hp ih=> ?_) 0 (Nat.zero_le _) (by simp)) rfl rfl
 by_cases hlt:k<l.length
 ·have ho:=z1j g l[k] 0 99999
  have hs:zyg (l.drop k)=if rng l[k] 0 99999=0 then zyg (l.drop (k+1)) else rng l[k] 0 99999:=by
   rw [List.drop_eq_getElem_cons hlt,zyg,List.map_cons,zar,zyg]
  rw [hp,hs]
  by_cases h:l[k]<0\/99999<l[k]
  ·have hr:rng l[k] 0 99999=3:=if_pos h
   rw [decide_eq_true h] at ho
   rw [hr,if_neg (by decide)]
   repeat' ((conv=>whnf);first
   | refine Yz ?_
    | (refine zfa.iw k rfl hlt ?_)
    | (apply zah.of;assumption)
    | (refine Ret.mk rfl)
    | fail)
  ·have hr:rng l[k] 0 99999=0:=if_neg h
   rw [decide_eq_false h] at ho
   rw [hr,if_pos rfl] at hs ⊢
   have ih:=ih hlt (by rw [hp,hs])
   rw [hp,hs] at ih
   repeat' ((conv=>whnf);first
   | refine Yz ?_
    | (refine zfa.iw k rfl hlt ?_)
    | (apply zah.of;assumption)
    | (refine zak.to ih rfl rfl)
    | fail)
 ·rw [hp,List.drop_of_length_le (by omega)]
  repeat' ((conv=>whnf);first
  | refine Yz ?_
   | (refine Ret.mk rfl)
   | fail)
end
def ypj (r:Rgs) (e:Evt):Int:=if vlN e 0<r.kn then 19 else if 99999<vlN e 0 then 3 else z18 r e
theorem yck (r:Rgs) (n:Nat) (e:Evt):z12 r n e=if e.nu=n+1 then ypj r e else 11:=by
 unfold z12 yms ypj
 by_cases h1:e.nu=n+1
 ·rw [if_pos h1,if_pos h1]
  by_cases h2:vlN e 0<r.kn
  ·rw [if_pos h2,if_pos h2,show ∀z,zar [0,19,z]=19 from fun _=>rfl,if_pos (by decide)]
  ·rw [if_neg h2,if_neg h2]
   by_cases h3:99999<vlN e 0
   ·rw [if_pos h3,if_pos h3];rfl
   ·rw [if_neg h3,if_neg h3];rfl
 ·rw [if_neg h1,if_neg h1,show ∀y z,zar [11,y,z]=11 from fun _ _=>rfl,if_pos (by decide)]
section
variable {E : Oracle} (g : Good E)
include g
theorem z22 (r:Rgs) (ho:OkR r) (nu:Int) (ki:List UInt8) (a s:List UInt8) (more:List (List UInt8)) (b:List UInt8) (kn f u m:Int) (tx:List UInt8) (hb:ki=zb3->more=[b]):
  Fc E zf5 [Rgv r,Evv ⟨nu,ki,a::s::more,[kn,f,u,m],tx⟩] (I (zqq r (decide (ki=zb3)) a b kn f u m)):=by
 have hes:=ho.es
 have hq:=zm7 g r a (by omega)
 have hqb:=zm7 g r b (by omega)
 have hcn:=zve g r ho kn
 change Fc E zf5 [Rgv r,.d (.agg [DI nu,.str ki,.list (more.length+1+1) (.str a:: .str s::more.map D.str),.list 4 [DI kn,DI f,DI u,DI m],.str tx])] _
 refine g.fn rfl rfl ?_
 unfold zqq yqa
 generalize zls r.es a=i at *
 by_cases hi:0<=i
 ·rw [if_pos hi,show ∀z,zar [9,z]=9 from fun _=>rfl,if_pos (by decide)]
  repeat' ((conv=>whnf);first
  | refine Yz ?_
   | (apply zah.of;assumption)
   | (refine Ret.mk rfl)
   | fail)
 ·rw [if_neg hi]
  by_cases h256:256<=r.es.length
  ·rw [if_pos h256,show zar [0,5]=5 from rfl,if_pos (by decide)]
   repeat' ((conv=>whnf);first
   | refine Yz ?_
    | (apply zah.of;assumption)
    | (refine Ret.mk rfl)
    | fail)
  ·rw [if_neg h256,show zar [0,0]=0 from rfl,if_neg (by decide)]
   by_cases hf:ki=zb3
   ·obtain rfl:=hb hf
    rw [decide_eq_true hf]
    rcases zfp r.es b with⟨h,_⟩|⟨k,hk,h,_⟩
    ·rw [zu9 h,if_pos ⟨rfl,by decide⟩]
     rw [h] at hqb
     repeat' ((conv=>whnf);first
     | refine Yz ?_
      | (apply zah.of;assumption)
      | (refine Cmp.tt hf ?_)
      | (refine Ret.mk rfl)
      | fail)
    ·have hcn:=hcn k hk
     rw [zq7 hk h]
     rw [h] at hqb
     cases hc:zxa r r.es[k] kn with
     | false=>
      rw [hc] at hcn
      rw [show (if(false=true) then(0:Int) else 20)=20 from rfl,if_pos ⟨rfl,by decide⟩]
      repeat' ((conv=>whnf);first
      | refine Yz ?_
       | (apply zah.of;assumption)
       | (refine Cmp.tt hf ?_)
       | (refine Ret.mk rfl)
       | fail)
     | true=>
      rw [hc] at hcn
      rw [show (if(true=true) then(0:Int) else 20)=0 from rfl,if_neg (fun h=>h.2 rfl)]
      by_cases c1:99999<f
      all_goals by_cases c2:99999<u
      all_goals by_cases c3:1440<m
      all_goals by_cases c4:u<f
      all_goals
       repeat' ((conv=>whnf);first
       | refine Yz ?_
        | (apply zah.of;assumption)
        | (refine Cmp.tt hf ?_)
        | (exfalso;omega)
        | (refine Ret.mk ?_)
        | fail)
      all_goals simp [c1,c2,c3,c4,zar]
   ·rw [decide_eq_false hf,if_neg (fun h=>by cases h.1)]
    by_cases c1:99999<f
    all_goals by_cases c2:99999<u
    all_goals by_cases c3:1440<m
    all_goals by_cases c4:u<f
    all_goals
     repeat' ((conv=>whnf);first
     | refine Yz ?_
      | (apply zah.of;assumption)
      | (refine Cmp.ff hf ?_)
      | (exfalso;omega)
      | (refine Ret.mk ?_)
      | fail)
    all_goals simp [c1,c2,c3,c4,zar]
theorem yiq (r:Rgs) (ho:OkR r) (e:Evt) (hc:zi8 e=0):Fc E ze7 [Rgv r,Evv e] (I (ypj r e)):=by
 have hes:=ho.es
 have hml:(r.es.flatMap Ent.cells).length=r.es.length*8:=zag Ent.cells 8 zj5 r.es
 have hmc:(r.cs.flatMap Cpl.cells).length=r.cs.length*5:=zag Cpl.cells 5 zop r.cs
 have hcs:=ho.cs
 unfold ypj
 rcases zoq hc with⟨nu,ki,a,s,more,kn,f,u,m,rfl,hent,hfol,hki⟩|⟨nu,a,kn,rfl⟩|⟨nu,a,en,kn,rfl⟩|⟨nu,a,kn,v,rfl⟩
 ·obtain⟨b,hb⟩:∃b,ki=zb3->more=[b]:=by
   by_cases h:ki=zb3
   ·obtain⟨b,hb⟩:=hfol h
    exact⟨b,fun _=>hb⟩
   ·exact⟨[],fun h'=>absurd h' h⟩
  have hask:z18 r ⟨nu,ki,a::s::more,[kn,f,u,m],[]⟩=zqq r (decide (ki=zb3)) a b kn f u m:=by
   rw [z18,if_pos hent]
   by_cases h:ki=zb3
   ·rw [hb h];rfl
   ·unfold zqq
    rw [decide_eq_false h]
    simp only [Bool.false_eq_true,false_and,if_false]
    rfl
  have hq:=z22 g r ho nu ki a s more b kn f u m [] hb
  rw [<-hask] at hq
  change Fc E ze7 _ (I (if kn<r.kn then 19 else if 99999<kn then 3 else z18 r ⟨nu,ki,a::s::more,[kn,f,u,m],[]⟩))
  generalize z18 r ⟨nu,ki,a::s::more,[kn,f,u,m],[]⟩=o at *
  have e1:Evv ⟨nu,ki,a::s::more,[kn,f,u,m],[]⟩= .d (.agg [DI nu,.str ki,.list (more.length+1+1) (.str a:: .str s::more.map D.str),.list 4 [DI kn,DI f,DI u,DI m],.str []]):=rfl
  rw [e1] at hq ⊢
  clear hfol hask hent hb
  refine g.fn rfl rfl ?_
  by_cases c1:kn<r.kn
  ·rw [if_pos c1]
   repeat' ((conv=>whnf);first
   | refine Yz ?_
    | (refine Ret.mk rfl)
    | fail)
  by_cases c2:99999<kn
  ·rw [if_neg c1,if_pos c2]
   repeat' ((conv=>whnf);first
   | refine Yz ?_
    | (refine Ret.mk rfl)
    | fail)
  rw [if_neg c1,if_neg c2]
  rcases hki with rfl|rfl|rfl
  all_goals
   repeat' ((conv=>whnf);first
   | refine Yz ?_
    | (apply zah.of;assumption)
    | (refine Ret.mk rfl)
    | fail)
 ·change Fc E ze7 [Rgv r,.d (.agg [DI nu,.str zdk,.list 1 [.str a],.list 1 [DI kn],.str []])] (I (if kn<r.kn then 19 else if 99999<kn then 3 else z7m r a kn))
  refine g.fn rfl rfl ?_
  by_cases c1:kn<r.kn
  ·rw [if_pos c1]
   repeat' ((conv=>whnf);first
   | refine Yz ?_
    | (refine Ret.mk rfl)
    | fail)
  by_cases c2:99999<kn
  ·rw [if_neg c1,if_pos c2]
   repeat' ((conv=>whnf);first
   | refine Yz ?_
    | (refine Ret.mk rfl)
    | fail)
  rw [if_neg c1,if_neg c2]
  unfold z7m
  have hq:=zm7 g r a (by omega)
  rcases zfp r.es a with⟨h,_⟩|⟨k,hk,h,hnm,_⟩
  ·rw [h] at hq
   rw [h,if_pos (by decide)]
   repeat' ((conv=>whnf);first
   | refine Yz ?_
    | (apply zah.of;assumption)
    | (refine Ret.mk rfl)
    | fail)
  ·have hgd:r.es.getD k ypv=r.es[k]:=by simp [List.getD,hk]
   rw [h] at hq
   rw [zq7 hk h,h,if_neg (by omega),Int.toNat_natCast,hgd]
   have hcn:=zve g r ho kn k hk
   by_cases hkd:r.es[k].kd=zwv
   ·rw [if_pos hkd]
    cases hc':zxa r r.es[k] kn
    all_goals
     rw [hc'] at hcn
     repeat' ((conv=>whnf);first
     | refine Yz ?_
      | (apply zah.of;assumption)
      | (refine zfa.rec zj5 k rfl hk rfl ?_)
      | (refine Cmp.ff (fun h=>h hkd) ?_)
      | (refine Ret.mk rfl)
      | fail)
   ·rw [if_neg hkd]
    repeat' ((conv=>whnf);first
    | refine Yz ?_
     | (apply zah.of;assumption)
     | (refine zfa.rec zj5 k rfl hk rfl ?_)
     | (refine Cmp.tt hkd ?_)
     | (refine Ret.mk rfl)
     | fail)
 ·change Fc E ze7 [Rgv r,.d (.agg [DI nu,.str zco,.list 2 [.str a,.str en],.list 1 [DI kn],.str []])] (I (if kn<r.kn then 19 else if 99999<kn then 3 else z3d r a en kn))
  refine g.fn rfl rfl ?_
  by_cases c1:kn<r.kn
  ·rw [if_pos c1]
   repeat' ((conv=>whnf);first
   | refine Yz ?_
    | (refine Ret.mk rfl)
    | fail)
  by_cases c2:99999<kn
  ·rw [if_neg c1,if_pos c2]
   repeat' ((conv=>whnf);first
   | refine Yz ?_
    | (refine Ret.mk rfl)
    | fail)
  rw [if_neg c1,if_neg c2]
  unfold z3d
  have hq:=zpu g r a (by omega)
  have hq2:=zm7 g r en (by omega)
  generalize zth r.cs a=i at *
  by_cases hi:0<=i
  ·rw [if_pos hi]
   repeat' ((conv=>whnf);first
   | refine Yz ?_
    | (apply zah.of;assumption)
    | (refine Ret.mk rfl)
    | fail)
  rw [if_neg hi]
  by_cases h64:64<=r.cs.length
  ·rw [if_pos h64]
   repeat' ((conv=>whnf);first
   | refine Yz ?_
    | (apply zah.of;assumption)
    | (refine Ret.mk rfl)
    | fail)
  rw [if_neg h64]
  rcases zfp r.es en with⟨h,_⟩|⟨k,hk,h,_⟩
  ·rw [h] at hq2
   rw [zu9 h]
   repeat' ((conv=>whnf);first
   | refine Yz ?_
    | (apply zah.of;assumption)
    | (refine Ret.mk rfl)
    | fail)
  ·rw [h] at hq2
   rw [zq7 hk h]
   have hcn:=zve g r ho kn k hk
   cases hc':zxa r r.es[k] kn
   all_goals
    rw [hc'] at hcn
    repeat' ((conv=>whnf);first
    | refine Yz ?_
     | (apply zah.of;assumption)
     | (refine Ret.mk rfl)
     | fail)
 ·change Fc E ze7 [Rgv r,.d (.agg [DI nu,.str zeo,.list 1 [.str a],.list 2 [DI kn,DI v],.str []])] (I (if kn<r.kn then 19 else if 99999<kn then 3 else zp2 r a v))
  refine g.fn rfl rfl ?_
  by_cases c1:kn<r.kn
  ·rw [if_pos c1]
   repeat' ((conv=>whnf);first
   | refine Yz ?_
    | (refine Ret.mk rfl)
    | fail)
  by_cases c2:99999<kn
  ·rw [if_neg c1,if_pos c2]
   repeat' ((conv=>whnf);first
   | refine Yz ?_
    | (refine Ret.mk rfl)
    | fail)
  rw [if_neg c1,if_neg c2]
  unfold zp2
  have hq:=zpu g r a (by omega)
  rcases zmn r.cs a with h|⟨k,hk,h,hnm⟩
  ·rw [h] at hq
   rw [h,if_pos (by decide)]
   repeat' ((conv=>whnf);first
   | refine Yz ?_
    | (apply zah.of;assumption)
    | (refine Ret.mk rfl)
    | fail)
  ·have hgd:r.cs.getD k ycs=r.cs[k]:=by simp [List.getD,hk]
   rw [h] at hq
   rw [h,if_neg (by omega),Int.toNat_natCast,hgd]
   cases hcl:r.cs[k].cl
   ·by_cases hv:1<v
    ·rw [if_pos hv]
     repeat' ((conv=>whnf);first
     | refine Yz ?_
      | (apply zah.of;assumption)
      | (refine zfa.rec zop k rfl hk rfl ?_;rw [hcl])
      | (refine Ret.mk rfl)
      | fail)
    ·rw [if_neg hv]
     repeat' ((conv=>whnf);first
     | refine Yz ?_
      | (apply zah.of;assumption)
      | (refine zfa.rec zop k rfl hk rfl ?_;rw [hcl])
      | (refine Ret.mk rfl)
      | fail)
   ·repeat' ((conv=>whnf);first
   | refine Yz ?_
     | (apply zah.of;assumption)
     | (refine zfa.rec zop k rfl hk rfl ?_;rw [hcl])
     | (refine Ret.mk rfl)
     | fail)
end
theorem z2u (r:Rgs) (k:Nat) (hk:k<r.cs.length) (x:Cpl):patch (r.cs.flatMap Cpl.cells) (((k:Nat):Int).toNat*5) x.cells=(r.cs.set k x).flatMap Cpl.cells:=by
 rw [Int.toNat_natCast]
 have h2:r.cs.set k x=r.cs.take k++x::r.cs.drop (k+1):=by rw [List.set_eq_take_append_cons_drop,if_pos hk]
 rw [h2,List.flatMap_append,List.flatMap_cons]
 have h4:((r.cs.take k).flatMap Cpl.cells).length=k*5:=by
  rw [zag Cpl.cells 5 zop,List.length_take,Nat.min_eq_left (by omega)]
 have h1:r.cs.flatMap Cpl.cells=(r.cs.take k).flatMap Cpl.cells++(r.cs[k].cells++(r.cs.drop (k+1)).flatMap Cpl.cells):=by
  rw [<-List.flatMap_cons,<-List.flatMap_append,<-List.drop_eq_getElem_cons hk,List.take_append_drop]
 have h5:=zop r.cs[k]
 have h6:=zop x
 unfold patch
 rw [h1]
 generalize (r.cs.take k).flatMap Cpl.cells=A at *
 generalize (r.cs.drop (k+1)).flatMap Cpl.cells=C at *
 generalize r.cs[k].cells=B at *
 rw [<-h4,List.take_left,List.drop_append,List.drop_of_length_le (by omega),h6,Nat.add_sub_cancel_left,List.nil_append,List.drop_append_of_le_length (by omega),List.drop_of_length_le (by omega),List.nil_append,List.append_assoc]
section
variable {E : Oracle} (g : Good E)
include g
abbrev mA (r:Rgs) (nu:Int) (a:List UInt8) (kn v:Int):Mem:=[bxR 2 r,(⟨0,3,0⟩,.cells zac [I nu,S zeo,.d (.list 1 [.str a]),.d (.list 2 [DI kn,DI v]),S []]),(⟨0,4,0⟩,.row false zbv 8 0 []),(⟨0,4,1⟩,.row false zbf 2 0 []),(⟨0,4,2⟩,.row true za8 5 0 []),
 (⟨0,4,3⟩,.cells zaf [I 0,.ref ⟨0,4,0⟩ 0 0 0,.ref ⟨0,4,1⟩ 0 0 0,.ref ⟨0,4,2⟩ 0 0 0])]
theorem z2t (r:Rgs) (nu:Int) (a:List UInt8) (kn v:Int) (hl:r.cs.length<=1000000) {slot:Nat} {K:V->Mem->Prop} (hK:K (I (zth r.cs a)) (mA r nu a kn v)):
  In E 1 zda [Rgv r,S a] (mA r nu a kn v) fun x m'=>zv0 ⟨0,1⟩ slot true x m' K:=by
 refine In.enter (f:=zda) g.lim rfl rfl ?_
 have hml:(r.cs.flatMap Cpl.cells).length=r.cs.length*5:=zag Cpl.cells 5 zop r.cs
 repeat' ((conv=>whnf);first
 | refine Yz ?_
  | fail)
 refine zak.to (zak.upP g (fun k=>[(1,S a),(2,.ptr ⟨1,2,0⟩ 0 0),(5,I k)]) (fun _=>mA r nu a kn v++[(⟨1,2,0⟩,.cells zaf [I r.kn,.d (.list r.es.length (r.es.flatMap Ent.cells)),.d (.list r.rs.length (r.rs.flatMap Rmv.cells)),.d (.list r.cs.length (r.cs.flatMap Cpl.cells))])]) (fun k=>∀j,(hj:j<k)->(hj':j<r.cs.length)->decide (r.cs[j].nm=a)=false) r.cs.length (fun k hk hp ih=> ?_) 0 (Nat.zero_le _) (fun j h _=>absurd h (Nat.not_lt_zero _))) rfl rfl
 by_cases hlt:k<r.cs.length
 ·by_cases he:r.cs[k].nm=a
  ·have hi:zth r.cs a=k:=zn9 (p:=fun x:Cpl=>decide (x.nm=a)) hlt (decide_eq_true he) fun j hj=>hp j hj (by omega)
   rw [hi] at hK
   repeat' ((conv=>whnf);first
   | refine Yz ?_
    | (refine zfa.rec zop k rfl hlt rfl ?_)
    | (refine Cmp.tt he ?_)
    | (exact hK)
    | fail)
  ·have ih:=ih hlt fun j hj hj'=>by
    by_cases e:j=k
    ·subst e;exact decide_eq_false he
    ·exact hp j (by omega) hj'
   repeat' ((conv=>whnf);first
   | refine Yz ?_
    | (refine zfa.rec zop k rfl hlt rfl ?_)
    | (refine Cmp.ff he ?_)
    | (refine zak.to ih rfl rfl)
    | fail)
 ·obtain rfl:k=r.cs.length:=by omega
  have hi:zth r.cs a= -1:=zlb (p:=fun x:Cpl=>decide (x.nm=a)) fun j hj=>hp j hj hj
  rw [hi] at hK
  repeat' ((conv=>whnf);first
  | refine Yz ?_
   | (exact hK)
   | fail)
theorem yoo (r:Rgs) (ho:OkR r) (e:Evt) (hc:zi8 e=0) (hask:z18 r e=0) (hrs:r.rs.length<1000):Fc E zfx [Rgv r,Evv e] (Rgv (zp8 r e)):=by
 have hes:=ho.es
 have hcs:=ho.cs
 have hml:(r.es.flatMap Ent.cells).length=r.es.length*8:=zag Ent.cells 8 zj5 r.es
 have hmr:(r.rs.flatMap Rmv.cells).length=r.rs.length*2:=zag Rmv.cells 2 yiz r.rs
 have hmc:(r.cs.flatMap Cpl.cells).length=r.cs.length*5:=zag Cpl.cells 5 zop r.cs
 rcases zoq hc with⟨nu,ki,a,s,more,kn,f,u,m,rfl,hent,hfol,hki⟩|⟨nu,a,kn,rfl⟩|⟨nu,a,en,kn,rfl⟩|⟨nu,a,kn,v,rfl⟩
 ·clear hask hc
  by_cases hf:ki=zb3
  ·obtain⟨b,rfl⟩:=hfol hf
   subst hf
   have haft:zp8 r ⟨nu,zb3,[a,s,b],[kn,f,u,m],[]⟩=⟨kn,r.es++[⟨a,zb3,s,b,kn,f,u,m⟩],r.rs,r.cs⟩:=rfl
   rw [haft]
   change Fc E zfx [Rgv r,.d (.agg [DI nu,.str zb3,.list 3 [.str a,.str s,.str b],.list 4 [DI kn,DI f,DI u,DI m],.str []])] _
   refine g.fn rfl rfl ?_
   repeat' ((conv=>whnf);first
   | refine Yz ?_
    | (refine zbd.mk ⟨rfl,rfl,rfl,rfl,rfl,hml,by dsimp only;omega,by first |omega|(dsimp only;omega)⟩ ?_)
    | (refine zbd.mk ⟨rfl,rfl,rfl,rfl,rfl,rfl,by dsimp only;omega,by first |omega|(dsimp only;omega)⟩ ?_)
    | (refine zbd.mk ⟨rfl,by omega⟩ ?_)
    | (refine zbd.mk ⟨rfl,by decide⟩ ?_)
    | (refine Ret.mk ?_)
    | fail)
   all_goals simp [Ent.cells]
  ·have haft:zp8 r ⟨nu,ki,a::s::more,[kn,f,u,m],[]⟩=⟨kn,r.es++[⟨a,ki,s,[],kn,f,u,m⟩],r.rs,r.cs⟩:=by
    rw [zp8,if_pos hent,z8f,if_neg hf]
    rfl
   rw [haft]
   change Fc E zfx [Rgv r,.d (.agg [DI nu,.str ki,.list (more.length+1+1) (.str a:: .str s::more.map D.str),.list 4 [DI kn,DI f,DI u,DI m],.str []])] _
   refine g.fn rfl rfl ?_
   rcases hki with rfl|rfl|rfl
   ·repeat' ((conv=>whnf);first
   | refine Yz ?_
     | (refine zbd.mk ⟨rfl,rfl,rfl,rfl,rfl,hml,by dsimp only;omega,by first |omega|(dsimp only;omega)⟩ ?_)
     | (refine zbd.mk ⟨rfl,rfl,rfl,rfl,rfl,rfl,by dsimp only;omega,by first |omega|(dsimp only;omega)⟩ ?_)
     | (refine zbd.mk ⟨rfl,by omega⟩ ?_)
     | (refine zbd.mk ⟨rfl,by decide⟩ ?_)
     | (refine Ret.mk ?_)
     | fail)
    all_goals simp [Ent.cells]
   ·repeat' ((conv=>whnf);first
   | refine Yz ?_
     | (refine zbd.mk ⟨rfl,rfl,rfl,rfl,rfl,hml,by dsimp only;omega,by first |omega|(dsimp only;omega)⟩ ?_)
     | (refine zbd.mk ⟨rfl,rfl,rfl,rfl,rfl,rfl,by dsimp only;omega,by first |omega|(dsimp only;omega)⟩ ?_)
     | (refine zbd.mk ⟨rfl,by omega⟩ ?_)
     | (refine zbd.mk ⟨rfl,by decide⟩ ?_)
     | (refine Ret.mk ?_)
     | fail)
    all_goals simp [Ent.cells]
   ·exact absurd rfl hf
 ·have haft:zp8 r ⟨nu,zdk,[a],[kn],[]⟩=⟨kn,r.es,r.rs++[⟨a,kn⟩],r.cs⟩:=rfl
  rw [haft]
  change Fc E zfx [Rgv r,.d (.agg [DI nu,.str zdk,.list 1 [.str a],.list 1 [DI kn],.str []])] _
  refine g.fn rfl rfl ?_
  repeat' ((conv=>whnf);first
  | refine Yz ?_
   | (refine zbd.mk ⟨rfl,rfl,rfl,rfl,rfl,hmr,by dsimp only;omega,by first |omega|(dsimp only;omega)⟩ ?_)
   | (refine zbd.mk ⟨rfl,rfl,rfl,rfl,rfl,rfl,by dsimp only;omega,by first |omega|(dsimp only;omega)⟩ ?_)
   | (refine zbd.mk ⟨rfl,by omega⟩ ?_)
   | (refine zbd.mk ⟨rfl,by decide⟩ ?_)
   | (refine Ret.mk ?_)
   | fail)
  all_goals simp [Rmv.cells]
 ·have haft:zp8 r ⟨nu,zco,[a,en],[kn],[]⟩=⟨kn,r.es,r.rs,r.cs++[⟨a,en,kn,false,false⟩]⟩:=rfl
  rw [haft]
  change Fc E zfx [Rgv r,.d (.agg [DI nu,.str zco,.list 2 [.str a,.str en],.list 1 [DI kn],.str []])] _
  refine g.fn rfl rfl ?_
  repeat' ((conv=>whnf);first
  | refine Yz ?_
   | (refine zbd.mk ⟨rfl,rfl,rfl,rfl,rfl,hmc,by dsimp only;omega,by first |omega|(dsimp only;omega)⟩ ?_)
   | (refine zbd.mk ⟨rfl,rfl,rfl,rfl,rfl,rfl,by dsimp only;omega,by first |omega|(dsimp only;omega)⟩ ?_)
   | (refine zbd.mk ⟨rfl,by omega⟩ ?_)
   | (refine zbd.mk ⟨rfl,by decide⟩ ?_)
   | (refine Ret.mk ?_)
   | fail)
  all_goals simp [Cpl.cells]
 ·change zp2 r a v=0 at hask
  rcases zmn r.cs a with h|⟨k,hk,h,hnm⟩
  ·rw [zp2,h,if_pos (by decide)] at hask
   omega
  have hq:=zpu g r a (by omega)
  rw [h] at hq
  have hgd:r.cs.getD k ycs=r.cs[k]:=by simp [List.getD,hk]
  have haft:zp8 r ⟨nu,zeo,[a],[kn,v],[]⟩=⟨kn,r.es,if v=1 then r.rs++[⟨r.cs[k].en,kn⟩] else r.rs,r.cs.set k {r.cs[k] with cl:=true,up:=decide (v=1)}⟩:=by
   change (Rgs.mk kn r.es (if v=1 then r.rs++[⟨(r.cs.getD (zth r.cs a).toNat ycs).en,kn⟩] else r.rs) (r.cs.set (zth r.cs a).toNat {r.cs.getD (zth r.cs a).toNat ycs with cl:=true,up:=decide (v=1)}))=_
   rw [h,Int.toNat_natCast,hgd]
  rw [haft]
  change Fc E zfx [Rgv r,.d (.agg [DI nu,.str zeo,.list 1 [.str a],.list 2 [DI kn,DI v],.str []])] _
  have hcl:∀x:Cpl,patch ([]++r.cs.flatMap Cpl.cells) ((0+((k:Nat):Int).toNat)*5) x.cells=(r.cs.set k x).flatMap Cpl.cells:=fun x=>by
   rw [Nat.zero_add,List.nil_append];exact z2u r k hk x
  have hl5:∀x:Cpl,(r.cs.set k x).length=r.cs.length:=fun x=>List.length_set
  have hin:=@z2t E g ⟨kn,r.es,r.rs,r.cs⟩ nu a kn v (by dsimp only;omega) 109
  rw [show zth (Rgs.mk kn r.es r.rs r.cs).cs a=k from h] at hin
  dsimp only [mA,bxR] at hin
  have hwin:win (r.cs.flatMap Cpl.cells) (((k:Nat):Int).toNat*5) 5=r.cs[k].cells:=by
   rw [Int.toNat_natCast]
   exact zb9 Cpl.cells 5 zop r.cs k hk
  generalize hx:r.cs[k]=x at *
  by_cases hv:v=1
  ·rw [if_pos hv,decide_eq_true hv]
   have hcx:=hcl {x with cl:=true,up:=true}
   refine g.fn rfl rfl ?_
   repeat' ((conv=>whnf);first
   | refine Yz ?_
    | (refine hin ?_)
    | (rw [hwin])
    | (refine zbd.mk ⟨rfl,rfl,rfl,rfl,rfl,hmc,by dsimp only;omega,by first |omega|(dsimp only;omega)⟩ ?_)
    | (refine zbd.mk ⟨rfl,rfl,rfl,rfl,rfl,hmr,by dsimp only;omega,by first |omega|(dsimp only;omega)⟩ ?_)
    | (refine zbd.mk ⟨rfl,rfl,rfl,rfl,rfl,rfl,by dsimp only;omega,by first |omega|(dsimp only;omega)⟩ ?_)
    | (refine zbd.mk ⟨rfl,by omega⟩ ?_)
    | (refine zbd.mk ⟨rfl,by decide⟩ ?_)
    | (refine zbd.mk ⟨rfl,by rw [List.nil_append];omega,rfl⟩ ?_)
    | (refine Cmp.tt hv ?_)
    | (refine Ret.mk ?_)
    | fail)
   change patch _ _ [D.str x.nm,D.str x.en,DI x.kn,D.bool true,D.bool true]=_ at hcx
   rw [if_pos ⟨rfl,rfl⟩,if_pos ⟨rfl,rfl⟩,hcx]
   simp [Rmv.cells]
  ·rw [if_neg hv,decide_eq_false hv]
   have hcx:=hcl {x with cl:=true,up:=false}
   refine g.fn rfl rfl ?_
   repeat' ((conv=>whnf);first
   | refine Yz ?_
    | (refine hin ?_)
    | (rw [hwin])
    | (refine zbd.mk ⟨rfl,rfl,rfl,rfl,rfl,hmc,by dsimp only;omega,by first |omega|(dsimp only;omega)⟩ ?_)
    | (refine zbd.mk ⟨rfl,by omega⟩ ?_)
    | (refine zbd.mk ⟨rfl,by decide⟩ ?_)
    | (refine zbd.mk ⟨rfl,by rw [List.nil_append];omega,rfl⟩ ?_)
    | (refine Cmp.ff hv ?_)
    | (refine Ret.mk ?_)
    | fail)
   change patch _ _ [D.str x.nm,D.str x.en,DI x.kn,D.bool true,D.bool false]=_ at hcx
   rw [if_pos ⟨rfl,rfl⟩,hcx]
   simp
theorem zn0 (l:List Evt) (hl:l.length<=1000) (hb:∀e∈l,e.ns.length<=1000000/\e.vs.length<=1000000):
  Fc E zcr [LE l] (.tup [Rgv (rgL l),I (zeh rg0 0 l).2.1,I (erL l)]):=by
 refine g.fn rfl rfl ?_
 have hml:(l.flatMap Evt.cells).length=l.length*5:=zag Evt.cells 5 evw l
 unfold rgL erL
 generalize hR:zeh rg0 0 l=R
 repeat' ((conv=>whnf);first
 | refine Yz ?_
  | fail)
 refine zak.to (zak.by (σ:=Nat×Rgs) g (fun u=>u.1<=l.length/\OkR u.2/\u.2.rs.length<=u.1/\zeh u.2 u.1 (l.drop u.1)=R)
  (fun u=>[(0,LE l),(2,.ptr ⟨0,2,0⟩ 0 0),(5,.ptr ⟨0,5,0⟩ 0 0),(6,I u.1)]) (fun u=>[(⟨0,2,0⟩,.cells zaf [I 0,.d (.list 0 []),.d (.list 0 []),.d (.list 0 [])]),bxR 5 u.2]) (fun u=>l.length-u.1) ?_ (0,rg0) ⟨Nat.zero_le _,yh5,Nat.le_refl _,hR⟩) rfl rfl
 clear hR
 rintro⟨k,r⟩ ⟨h2,ho,h3,hR⟩ ih
 dsimp only at h2 ho h3 hR ih ⊢
 by_cases hlt:k<l.length
 ·rw [yd4 hlt] at hR
  have hwin:win (l.flatMap Evt.cells) (((k:Nat):Int).toNat*5) 5=l[k].cells:=by
   rw [Int.toNat_natCast]
   exact zb9 Evt.cells 5 evw l k hlt
  obtain⟨hb1,hb2⟩:=hb _ (List.getElem_mem hlt)
  have ih:=fun hz:zie r k l[k]=0=>ih (k+1,zp8 r l[k]) ⟨by dsimp only;omega,yh4 ho hz (by omega),by
   have:=ycl r l[k]
   dsimp only
   omega,by
   rw [if_neg (fun h=>h hz)] at hR
   exact hR⟩ (by dsimp only;omega)
  have hnu:zfa (l.flatMap Evt.cells) (((k:Nat):Int).toNat*5+0)=fun K=>zfa (l.flatMap Evt.cells) (((k:Nat):Int).toNat*5+0) K:=rfl
  have hpk:∀ {K:D->Prop},K (DI l[k].nu)->zfa (l.flatMap Evt.cells) (((k:Nat):Int).toNat*5+0) K:=fun h=>zfa.rec evw k rfl hlt rfl h
  clear hnu
  generalize l[k]=e at *
  have hce:=zq9 g e hb1 hb2
  have haft:=yoo g r ho e
  by_cases hc:zi8 e=0
  ·rw [hc] at hce
   have hrf:=yiq g r ho e hc
   have hst:zie r k e=z12 r k e:=by rw [zie,if_neg (fun h=>h hc)]
   rw [yck] at hst
   by_cases hn:e.nu=k+1
   ·rw [if_pos hn] at hst
    by_cases ha:ypj r e=0
    ·rw [ha] at hrf hst
     have haft:=haft hc (z7i (n:=k) (by rw [yck,if_pos hn];exact ha)).2.2.2 (by omega)
     have ih:=ih hst
     dsimp only [bxR] at ih
     repeat' ((conv=>whnf);first
     | refine Yz ?_
      | (rw [hwin])
      | (apply zah.of;assumption)
      | (refine hpk ?_)
      | (refine Cmp.ff (fun h=>h hn) ?_)
      | (refine zak.to ih rfl rfl)
      | fail)
    ·rw [hst,if_pos ha] at hR
     generalize ypj r e=x at *
     subst hR
     repeat' ((conv=>whnf);first
     | refine Yz ?_
      | (rw [hwin])
      | (apply zah.of;assumption)
      | (refine hpk ?_)
      | (refine Cmp.ff (fun h=>h hn) ?_)
      | (refine Cmp.ff ha ?_)
      | (refine Cmp.tt ha ?_)
      | (refine Ret.mk rfl)
      | fail)
   ·rw [if_neg hn] at hst
    rw [hst,if_pos (by decide)] at hR
    subst hR
    repeat' ((conv=>whnf);first
    | refine Yz ?_
     | (rw [hwin])
     | (apply zah.of;assumption)
     | (refine hpk ?_)
     | (refine Cmp.tt hn ?_)
     | (refine Ret.mk rfl)
     | fail)
  ·have hst:zie r k e=zi8 e:=by rw [zie,if_pos hc]
   rw [hst,if_pos hc] at hR
   generalize zi8 e=x at *
   subst hR
   repeat' ((conv=>whnf);first
   | refine Yz ?_
    | (rw [hwin])
    | (apply zah.of;assumption)
    | (refine Cmp.ff hc ?_)
    | (refine Ret.mk rfl)
    | fail)
 ·rw [List.drop_of_length_le (by omega)] at hR
  subst hR
  repeat' ((conv=>whnf);first
  | refine Yz ?_
   | (refine Ret.mk rfl)
   | fail)
end
theorem Nf {A B:Prop}:(b:Bool)->b=false->B->(match b with|true=>A|false=>B)
 | false,_,k=>k
 | true,h,_=>Bool.noConfusion h
theorem Nt {A B:Prop}:(b:Bool)->b=true->A->(match b with|true=>A|false=>B)
 | true,_,k=>k
 | false,h,_=>Bool.noConfusion h
theorem zso {u t:Evl.Id} {l:List Evl.Id} (h:idB u t=true):yhm (u::l) t=true:=by
 unfold yhm
 rw [h]
theorem ztr {u t:Evl.Id} {l:List Evl.Id} {b:Bool} (h:idB u t=false) (k:yhm l t=b):yhm (u::l) t=b:=by
 unfold yhm
 rw [h]
 exact k
theorem ygi {a b:Nat} (h:¬a=b):Nat.beq a b=false:=by
 cases hb:Nat.beq a b with
 | false=>rfl
 | true=>exact absurd (Nat.eq_of_beq_eq_true hb) h
def yrn (l:List (List UInt8)):Prop:=l.Pairwise fun a b=>zax a b=true
theorem zty (x y:List UInt8) (h:zax y x=false) (hn:x≠y):zax x y=true:=by
 cases hh:zax x y with
 | true=>rfl
 | false=>
  exfalso
  apply hn
  have key:∀x y:List UInt8,zax y x=false->zax x y=false->x=y:=by
   intro x
   induction x with
   | nil=>intro y _ h2;cases y with
    | nil=>rfl
    | cons=>simp [zax] at h2
   | cons c x ih=>intro y h1 h2;cases y with
    | nil=>simp [zax] at h1
    | cons d y=>
     simp only [zax,Bool.or_eq_false_iff,decide_eq_false_iff_not,Bool.and_eq_false_iff,beq_eq_false_iff_ne,ne_eq,UInt8.not_lt] at h1 h2
     have e:c=d:=UInt8.le_antisymm h1.1 h2.1
     subst e
     rw [ih y (h1.2.resolve_left (fun h=>h rfl)) (h2.2.resolve_left (fun h=>h rfl))]
  exact key x y h hh
theorem yg7 (s:List UInt8):∀(l:List (List UInt8)) (k:Nat),k<=l.length->(∀j,(hj:j<l.length)->j<k->zax l[j] s=true)->(∀j,(hj:j<l.length)->k<=j->zax s l[j]=true)->yf1 s l=l.take k++s::l.drop k
 | [],k,_,_,_=>by simp [yf1]
 | y::l,0,_,_,h2=>by
  have:=h2 0 (by simp) (Nat.le_refl _)
  simp only [List.getElem_cons_zero] at this
  unfold yf1
  rw [zh3 _ _ this]
  rfl
 | y::l,k+1,hk,h1,h2=>by
  have:=h1 0 (by simp) (by omega)
  simp only [List.getElem_cons_zero] at this
  unfold yf1
  rw [if_pos this,List.take_succ_cons,List.drop_succ_cons,List.cons_append]
  congr 1
  refine yg7 s l k (by simpa using hk) (fun j hj hjk=> ?_) (fun j hj hjk=> ?_)
  ·have:=h1 (j+1) (by simp;omega) (by omega)
   simpa using this
  ·have:=h2 (j+1) (by simp;omega) (by omega)
   simpa using this
theorem yjj {ks:List (List UInt8)} {s:List UInt8}:zi7 (ks++[s])=yf1 s (zi7 ks):=by
 have h:(ks++[s]).Perm (s::ks):=List.perm_append_singleton s ks
 rw [z4p h]
 rfl
theorem yjk {ks:List (List UInt8)} (h:ks.Nodup):yrn (zi7 ks):=by
 have h1:=zlj ks
 have h2:(zi7 ks).Nodup:=(zex ks).nodup_iff.2 h
 unfold yrn
 exact(h1.and h2).imp fun h=>zty _ _ h.1 h.2
theorem yet {ks:List (List UInt8)} {s:List UInt8} (h:ks.Nodup):(z7j ks s).Nodup:=by
 unfold z7j
 split
 ·exact h
 ·rename_i hn
  rw [List.nodup_append]
  refine⟨h,by simp,fun a ha b hb=> ?_⟩
  rw [List.mem_singleton] at hb
  subst hb
  rintro rfl
  exact hn ha
theorem yjq (es:List Ent):(srK es).Nodup:=by
 have key:∀(es:List Ent) (ks:List (List UInt8)),ks.Nodup->(es.foldl (fun ks x=>z7j ks x.sr) ks).Nodup:=by
  intro es
  induction es with
  | nil=>intro ks h;exact h
  | cons x es ih=>intro ks h;exact ih _ (yet h)
 exact key es [] List.nodup_nil
theorem z6d {r:Rgs} (ho:OkR r) (s:List UInt8) (kn d:Int):0<=zu2 r s kn d/\zu2 r s kn d<=1440:=by
 unfold zu2
 have key:∀(l:List Ent) (a:Int),(∀x∈l,0<=x.mi/\x.mi<=1440)->0<=a/\a<=1440->0<=l.foldl (fun o x=>if yau r s kn d x then x.mi else o) a/\l.foldl (fun o x=>if yau r s kn d x then x.mi else o) a<=1440:=by
  intro l
  induction l with
  | nil=>intro a _ h;exact h
  | cons x l ih=>
   intro a h1 h2
   rw [List.foldl_cons]
   refine ih _ (fun y hy=>h1 y (by simp [hy])) ?_
   split
   ·exact h1 x (by simp)
   ·exact h2
 exact key r.es 1440 ho.mi ⟨by decide,by decide⟩
section
variable {E : Oracle} (g : Good E)
include g
theorem ylq (r:Rgs) (hes:r.es.length<=256):Fc E zoc [Rgv r] (Ws (zi7 (srK r.es))):=by
 refine g.fn rfl rfl ?_
 have hml:(r.es.flatMap Ent.cells).length=r.es.length*8:=zag Ent.cells 8 zj5 r.es
 repeat' ((conv=>whnf);first
 | refine Yz ?_
  | fail)
 refine zak.to (zak.by (σ:=Nat×List (List UInt8)×Option Nat) g (fun u=>u.1<=r.es.length/\u.2.1=zi7 (srK (r.es.take u.1))/\(u.2.2=none->u.2.1=[]))
  (fun u=>[(1,.ptr ⟨0,1,0⟩ 0 0),(3,match u.2.2 with
   | none=> .ref ⟨0,3,0⟩ 0 0 0
   | some c=> .ref ⟨0,38,c⟩ 0 u.2.1.length u.2.1.length),(4,I u.1)])
  (fun u=>[bxR 1 r,(⟨0,2,0⟩,.row false zab 1 0 []),(⟨0,3,0⟩,.row false zab 1 0 [])]++match u.2.2 with
   | none=>[]
   | some c=>[(⟨0,38,c⟩,.row false zab 1 u.2.1.length (u.2.1.map D.str))])
  (fun u=>r.es.length-u.1) ?_ (0,[],none) ⟨Nat.zero_le _,rfl,fun _=>rfl⟩) rfl rfl
 rintro⟨k,out,co⟩ ⟨h1,h2,h3⟩ ih
 dsimp only at h1 h2 h3
 have hasc:yrn out:=by rw [h2];exact yjk (yjq _)
 have hol:out.length<=256:=by
  rw [h2,(zex _).length_eq]
  refine Nat.le_trans (z69 _) ?_
  rw [List.length_take];omega
 by_cases hlt:k<r.es.length
 ·have hmem:∀s,s∈out↔s∈srK (r.es.take k):=fun s=>by rw [h2];exact(zex _).mem_iff
  have hk1:=yef r.es k hlt
  have hpk:∀ {K:D->Prop},K (.str r.es[k].sr)->zfa (r.es.flatMap Ent.cells) (((k:Nat):Int).toNat*8+2) K:=fun h=>zfa.rec zj5 k rfl hlt rfl h
  generalize r.es[k].sr=s at *
  have hw:=yim g out s (by omega)
  have hins:s∉out->∀a:Nat,a<=out.length->(∀j,(hj:j<out.length)->j<a->zax out[j] s=true)->(∀j,(hj:j<out.length)->a<=j->zax s out[j]=true)->zi7 (srK (r.es.take (k+1)))=out.take a++s::out.drop a:=fun hm a ha h3 h4=>by
   rw [hk1,z7j,if_neg (fun h=>hm ((hmem s).2 h)),yjj,<-h2]
   exact yg7 s out a ha h3 h4
  cases co with
  | none=>
   obtain rfl:=h3 rfl
   have hm:s∉([]:List (List UInt8)):=by simp
   rw [decide_eq_false hm] at hw
   have ih:=ih (k+1,[s],some 0) ⟨by dsimp only;omega,(hins hm 0 (Nat.le_refl _) (fun j hj=>absurd hj (Nat.not_lt_zero _)) (fun j hj=>absurd hj (Nat.not_lt_zero _))).symm,fun h=>by cases h⟩ (by dsimp only;omega)
   dsimp only at ih ⊢
   repeat' ((conv=>whnf);first
   | refine Yz ?_
    | (refine hpk ?_)
    | (rw [if_pos ⟨rfl,rfl⟩])
    | (apply zah.of;assumption)
    | (refine zak.to ih rfl rfl)
    | (refine zak.step g.lim ?_)
    | (refine zbd.mk ⟨rfl,by omega⟩ ?_)
    | (refine zbd.mk ⟨rfl,by omega,rfl⟩ ?_)
    | (refine za9.at 0 0 rfl rfl ⟨by omega,by omega⟩ ?_)
    | (refine zbd.mk ⟨rfl,rfl,rfl,rfl,rfl,rfl,by dsimp only;omega,by first |omega|(dsimp only;omega)|decide⟩ ?_)
    | (refine zbd.mk ⟨rfl,rfl,rfl,rfl,rfl,rfl,by decide,by decide⟩ ?_)
    | (refine zak.to ih rfl rfl)
    | fail)
  | some c=>
   clear h3
   dsimp only
   by_cases hm:s∈out
   ·rw [decide_eq_true hm] at hw
    have ih:=ih (k+1,out,some c) ⟨by dsimp only;omega,by dsimp only;rw [hk1,z7j,if_pos ((hmem s).1 hm),h2],fun h=>by cases h⟩ (by dsimp only;omega)
    dsimp only at ih
    repeat' ((conv=>whnf);first
    | refine Yz ?_
     | (refine hpk ?_)
     | (refine Nt _ (Nat.beq_refl _) ?_)
     | ((refine Nt _ ?_ ?_);focus ((repeat' (first |exact zso rfl|exact zso (Nat.beq_refl _)|((refine ztr ?h ?_);(case h=>first |rfl|assumption))));done))
     | (rw [if_pos ⟨rfl,rfl⟩])
     | (apply zah.of;assumption)
     | (refine zbd.mk ⟨rfl,by omega⟩ ?_)
     | (refine zak.to ih rfl rfl)
     | fail)
   ·rw [decide_eq_false hm] at hw
    have hins:=hins hm
    have b1:Nat.beq c (c+1)=false:=ygi (by omega)
    have b2:Nat.beq (c+1) c=false:=ygi (by omega)
    have ih:=fun(a:Nat) (ha:a<=out.length) (h3:∀j,(hj:j<out.length)->j<a->zax out[j] s=true) (h4:∀j,(hj:j<out.length)->a<=j->zax s out[j]=true)=>ih (k+1,out.take a++s::out.drop a,some (c+1)) ⟨by dsimp only;omega,(hins a ha h3 h4).symm,fun h=>by cases h⟩ (by dsimp only;omega)
    clear hins hmem hk1 h2
    dsimp only at ih
    repeat' ((conv=>whnf);first
    | refine Yz ?_
     | (refine hpk ?_)
     | (refine Nt _ (Nat.beq_refl _) ?_)
     | ((refine Nt _ ?_ ?_);focus ((repeat' (first |exact zso rfl|exact zso (Nat.beq_refl _)|((refine ztr ?h ?_);(case h=>first |rfl|assumption))));done))
     | (rw [if_pos ⟨rfl,rfl⟩])
     | (apply zah.of;assumption)
     | (refine zbd.mk ⟨rfl,by omega⟩ ?_)
     | fail)
    refine zak.to (zak.by (σ:=Nat) g (fun a=>a<=out.length/\∀j,(hj:j<out.length)->a<=j->zax s out[j]=true)
     (fun a=>[(1,.ptr ⟨0,1,0⟩ 0 0),(3,.ref ⟨0,38,c⟩ 0 out.length out.length),(4,I k),(5,S s),(6,I a)])
     (fun _=>[bxR 1 r,(⟨0,2,0⟩,.row false zab 1 0 []),(⟨0,3,0⟩,.row false zab 1 0 []),(⟨0,38,c⟩,.row false zab 1 out.length (out.map D.str))]) (fun a=>a) ?_ out.length ⟨Nat.le_refl _,fun j hj h=>absurd hj (by omega)⟩) rfl rfl
    rintro a ⟨a1,a2⟩ iha
    have fin:(∀j,(hj:j<out.length)->j<a->zax out[j] s=true)->_:=fun h3=>ih a a1 h3 a2
    have hwa:win (out.map D.str) ((0+0)*1) ((a-0)*1)=(out.take a).map D.str:=by
     unfold win
     rw [Nat.mul_one,Nat.mul_one,Nat.zero_add,Nat.sub_zero,List.drop_zero,List.map_take]
    have hwb:win (out.map D.str) ((0+a)*1) ((out.length-a)*1)=(out.drop a).map D.str:=by
     unfold win
     rw [Nat.mul_one,Nat.mul_one,Nat.zero_add,List.map_drop,List.take_of_length_le (by rw [List.length_drop,List.length_map];exact Nat.le_refl _)]
    have hla:(out.take a).length=a:=by rw [List.length_take,Nat.min_eq_left a1]
    have hlb:(out.drop a).length=out.length-a:=List.length_drop
    have hml2:(out.take a++s::out.drop a).length=out.length+1:=by
     rw [List.length_append,List.length_cons,hla,hlb];omega
    have hL:out.length+1=0+(a-0)+1+(out.length-a):=by omega
    rw [hml2] at fin
    simp only [List.map_append,List.map_cons] at fin
    have htr:∀x y z:List UInt8,zax x y=true->zax y z=true->zax x z=true:=fun x y z k1 k2=>by
     refine zty x z (zpz _ _ _ (zh3 _ _ k1) (zh3 _ _ k2)) ?_
     rintro rfl
     rw [zh3 _ _ k1] at k2
     cases k2
    clear ih
    cases a with
    | zero=>
     have fin2:=fin fun j hj h=>absurd h (Nat.not_lt_zero _)
     clear iha fin
     repeat' ((conv=>whnf);first
     | refine Yz ?_
      | (refine Nt _ (Nat.beq_refl _) ?_)
      | (refine Nf _ b1 ?_)
      | (refine Nf _ b2 ?_)
      | ((refine Nt _ ?_ ?_);focus ((repeat' (first |exact zso rfl|exact zso (Nat.beq_refl _)|((refine ztr ?h ?_);(case h=>first |rfl|assumption))));done))
      | ((refine Nf _ ?_ ?_);focus ((repeat' (first |exact rfl|((refine ztr ?h ?_);(case h=>first |rfl|assumption))));done))
      | (refine zbd.mk ⟨rfl,by omega,rfl⟩ ?_)
      | (refine za9.at 0 0 rfl (by omega) ⟨Nat.zero_le _,a1⟩ ?_;rw [hwa])
      | (refine za9.at 0 out.length (by omega) rfl ⟨a1,Nat.le_refl _⟩ ?_;rw [hwb])
      | (refine zbd.mk ⟨rfl,rfl,rfl,rfl,rfl,by first |rfl|(rw [List.length_map];omega),by dsimp only;omega,by first |omega|(dsimp only;omega)⟩ ?_)
      | (refine Chk.mk (by simp [yku,Evl.get,Evl.ids]) ?_)
      | (refine zak.to fin2 ?_ ?_)
      | fail)
     ·rw [hL]
      rfl
     ·rw [hL]
      simp
    | succ b=>
     have hbo:b<out.length:=by omega
     have hpb:∀ {K:D->Prop},K (.str out[b])->zfa (out.map D.str) ((0+(((b+1:Nat):Int)-1).toNat)*1) K:=fun h=>by
      rw [Nat.zero_add]
      exact zfa.ws b (by omega) hbo h
     cases hlb2:zax out[b] s with
     | true=>
      have fin2:=fin fun j hj hjb=>by
       by_cases e:j=b
       ·subst e;exact hlb2
       ·exact htr _ _ _ (List.pairwise_iff_getElem.1 hasc j b hj hbo (by omega)) hlb2
      have hgt:(!(zax out[b] s||out[b]==s))=false:=by rw [hlb2];rfl
      clear iha fin
      repeat' ((conv=>whnf);first
      | refine Yz ?_
       | (refine hpb ?_)
       | (rw [hgt])
       | (refine Nt _ (Nat.beq_refl _) ?_)
       | (refine Nf _ b1 ?_)
       | (refine Nf _ b2 ?_)
       | ((refine Nt _ ?_ ?_);focus ((repeat' (first |exact zso rfl|exact zso (Nat.beq_refl _)|((refine ztr ?h ?_);(case h=>first |rfl|assumption))));done))
       | ((refine Nf _ ?_ ?_);focus ((repeat' (first |exact rfl|((refine ztr ?h ?_);(case h=>first |rfl|assumption))));done))
       | (refine zbd.mk ⟨rfl,by omega,rfl⟩ ?_)
       | (refine za9.at 0 (b+1) rfl (by omega) ⟨Nat.zero_le _,a1⟩ ?_;rw [hwa])
       | (refine za9.at (b+1) out.length (by omega) rfl ⟨a1,Nat.le_refl _⟩ ?_;rw [hwb])
       | (refine zbd.mk ⟨rfl,rfl,rfl,rfl,rfl,by first |rfl|(rw [List.length_map];omega),by dsimp only;omega,by first |omega|(dsimp only;omega)⟩ ?_)
       | (refine Chk.mk (by simp [yku,Evl.get,Evl.ids]) ?_)
       | (refine zak.to fin2 ?_ ?_)
       | fail)
      ·rw [hL]
       rfl
      ·rw [hL]
       simp
     | false=>
      have hne:out[b]≠s:=fun e=>hm (by rw [<-e];exact List.getElem_mem hbo)
      have hsb:zax s out[b]=true:=zty _ _ hlb2 (Ne.symm hne)
      have hgt:(!(zax out[b] s||out[b]==s))=true:=by rw [hlb2,beq_eq_false_iff_ne.2 hne];rfl
      have iha:=iha b ⟨by omega,fun j hj hbj=>by
       by_cases e:j=b
       ·subst e;exact hsb
       ·exact a2 j hj (by omega)⟩ (by omega)
      have e1:(((b+1:Nat):Int)-1)=b:=by omega
      clear fin
      repeat' ((conv=>whnf);first
      | refine Yz ?_
       | (refine hpb ?_)
       | (rw [hgt])
       | (refine Nt _ (Nat.beq_refl _) ?_)
       | ((refine Nt _ ?_ ?_);focus ((repeat' (first |exact zso rfl|exact zso (Nat.beq_refl _)|((refine ztr ?h ?_);(case h=>first |rfl|assumption))));done))
       | (refine zak.to iha (by rw [<-e1]) rfl)
       | fail)
 ·rw [List.take_of_length_le (by omega)] at h2
  rw [<-h2]
  cases co with
  | none=>
   obtain rfl:=h3 rfl
   repeat' ((conv=>whnf);first
   | refine Yz ?_
    | (refine zbd.mk ⟨rfl,by omega⟩ ?_)
    | (refine Ret.mk ?_)
    | fail)
   all_goals simp
  | some c=>
   repeat' ((conv=>whnf);first
   | refine Yz ?_
    | (refine Nt _ (Nat.beq_refl _) ?_)
    | (refine zbd.mk ⟨rfl,by omega⟩ ?_)
    | (refine Ret.mk ?_)
    | fail)
   all_goals simp
theorem yqh (r:Rgs) (ho:OkR r) (kn d:Int):Fc E znu [Rgv r,I kn,I d] (LS2 (z97 r kn d)):=by
 refine g.fn rfl rfl ?_
 have hs:=ylq g r ho.es
 have hkl:(zi7 (srK r.es)).length<=256:=by rw [(zex _).length_eq];exact Nat.le_trans (z69 r.es) ho.es
 unfold z97
 generalize zi7 (srK r.es)=ss at *
 repeat' ((conv=>whnf);first
 | refine Yz ?_
  | (apply zah.of;assumption)
  | fail)
 refine zak.to (zak.by (σ:=Nat×List Slt) g (fun u=>u.1<=ss.length/\u.2=yf5 r kn d (ss.take u.1))
  (fun u=>[(1,I kn),(2,I d),(3,.ptr ⟨0,3,0⟩ 0 0),(7,Ws ss),(8,.ref ⟨0,8,0⟩ 0 u.2.length u.2.length),(9,I u.1)])
  (fun u=>[bxR 3 r,(⟨0,6,0⟩,.row false zbk 2 0 []),(⟨0,8,0⟩,.row false zbk 2 u.2.length (u.2.flatMap Slt.cells))])
  (fun u=>ss.length-u.1) ?_ (0,[]) ⟨Nat.zero_le _,rfl⟩) rfl rfl
 rintro⟨k,out⟩ ⟨i1,i2⟩ ih
 dsimp only at i1 i2 ih ⊢
 have hmo:(out.flatMap Slt.cells).length=out.length*2:=zag Slt.cells 2 ypk out
 have hol:out.length<=256:=by
  rw [i2,yf5,List.length_map]
  refine Nat.le_trans (List.length_filter_le _ _) ?_
  rw [List.length_take];omega
 by_cases hlt:k<ss.length
 ·have hq:=yd0 g r ho ss[k] kn d
  have hle:=(z6d ho ss[k] kn d).2
  have ht:yf5 r kn d (ss.take (k+1))=out++(if decide (zu2 r ss[k] kn d≠1440) then [ss[k]] else []).map fun s=>(⟨s,zu2 r s kn d⟩:Slt):=by
   rw [i2,yf5,zxg _ _ _ hlt,List.map_append]
   rfl
  have hpk:∀ {K:D->Prop},K (.str ss[k])->zfa (ss.map D.str) (((k:Nat):Int).toNat*1) K:=fun h=>zfa.ws k rfl hlt h
  by_cases hy:zu2 r ss[k] kn d=1440
  ·have ih:=ih (k+1,out) ⟨by dsimp only;omega,by dsimp only;rw [ht,if_neg (by simp [hy])];simp⟩ (by dsimp only;omega)
   rw [hy] at hq
   generalize ss[k]=s at *
   repeat' ((conv=>whnf);first
   | refine Yz ?_
    | (refine hpk ?_)
    | (apply zah.of;assumption)
    | (refine zak.to ih rfl rfl)
    | fail)
  ·have ih:=ih (k+1,out++[⟨ss[k],zu2 r ss[k] kn d⟩]) ⟨by dsimp only;omega,by dsimp only;rw [ht,if_pos (decide_eq_true hy)];rfl⟩ (by dsimp only;omega)
   simp only [List.length_append,List.length_cons,List.length_nil,List.flatMap_append,List.flatMap_cons,List.flatMap_nil] at ih
   generalize ss[k]=s at *
   generalize zu2 r s kn d=y at *
   repeat' ((conv=>whnf);first
   | refine Yz ?_
    | (refine hpk ?_)
    | (apply zah.of;assumption)
    | (refine zbd.mk ⟨rfl,rfl,rfl,rfl,rfl,rfl,by dsimp only;omega,by first |omega|(dsimp only;omega)⟩ ?_)
    | (refine zak.to ih rfl rfl)
    | fail)
 ·rw [List.take_of_length_le (by omega)] at i2
  rw [<-i2]
  repeat' ((conv=>whnf);first
  | refine Yz ?_
   | (refine zbd.mk ⟨rfl,by omega⟩ ?_)
   | (refine Ret.mk ?_)
   | fail)
  all_goals simp
end
def zkl:List UInt8:=[115,108,111,116]
def zwu:List UInt8:=[100,97,121]
def zfn:List UInt8:=[99,111,117,110,116,115]
def zl1:List UInt8:=[114,101,115,116,115]
def zse:List UInt8:=[111,112,101,110]
def zss (r:Rgs) (s:List UInt8) (k d:Int):List (List UInt8)×Int:=
 if zar [if !zbi s then 8 else 0,rng k 0 99999,rng d 0 99999]≠0 then([],zar [if !zbi s then 8 else 0,rng k 0 99999,rng d 0 99999])
 else if zu2 r s k d≠1440 then([zav 20 (zu2 r s k d).toNat],0) else([],0)
def zy9 (r:Rgs) (k:Int):List (List UInt8)×Int:=if rng k 0 99999≠0 then([],rng k 0 99999) else(ygl r k,0)
def zzb (r:Rgs) (s:List UInt8):List (List UInt8)×Int:=
 if(if !zbi s then(8:Int) else 0)≠0 then([],if !zbi s then 8 else 0) else if zls r.es s<0 then([],10) else(yi2 r s,0)
abbrev ypc (a:List (List UInt8)×Int):V:= .tup [Ws a.1,I a.2]
section
variable {E : Oracle} (g : Good E)
include g
theorem ytk (ev:List Evt) (r:Rgs) (ho:OkR r) (a s b c:List UInt8) (k d:Int):Ui E zby [.ptr ⟨0,0,0⟩ 1 0,Ws [a,s,b,c],LI [k,d]] (mR zaa ev r) (ypc (zss r s k d)) (mR zaa ev r):=by
 refine⟨?_⟩
 have h1:=z6z g s
 have h2:=z9j g k
 have h3:=z9j g d
 have h4:=zky g (if !zbi s then 8 else 0) (rng k 0 99999) (rng d 0 99999)
 have hq:=ydz g zaa ev r ho s k d
 have hm:=z6d ho s k d
 unfold zss
 generalize (if !zbi s then(8:Int) else 0)=x at *
 generalize rng k 0 99999=y at *
 generalize rng d 0 99999=z at *
 generalize zar [x,y,z]=e at *
 generalize zu2 r s k d=mi at *
 have hi:=z4m g mi (by omega)
 change In E 1 zby [.ptr ⟨0,0,0⟩ 1 0,.d (.list 4 [.str a,.str s,.str b,.str c]),.d (.list 2 [DI k,DI d])] _ _
 refine In.enter (f:=zby) g.lim rfl rfl ?_
 by_cases he:e=0
 ·subst he
  by_cases h0:mi=1440
  ·subst h0
   repeat' ((conv=>whnf);first
   | refine Yz ?_
    | (apply zah.of;assumption)
    | (refine zj6.of (r':=I 1440) isR rfl rfl rfl rfl hq rfl rfl rfl ?_)
    | (refine Cmp.ff (fun h=>h rfl) ?_)
    | (exact⟨rfl,rfl,rfl,rfl,rfl,rfl,trivial⟩)
    | fail)
  ·rw [if_neg (fun h=>h rfl),if_pos h0]
   repeat' ((conv=>whnf);first
   | refine Yz ?_
    | (apply zah.of;assumption)
    | (refine zj6.of (r':=I mi) isR rfl rfl rfl rfl hq rfl rfl rfl ?_)
    | (refine Cmp.tt h0 ?_)
    | (refine Cmp.ff (fun h=>h rfl) ?_)
    | (exact⟨rfl,rfl,rfl,rfl,rfl,rfl,trivial⟩)
    | fail)
 ·rw [if_pos he]
  repeat' ((conv=>whnf);first
  | refine Yz ?_
   | (apply zah.of;assumption)
   | (refine Cmp.tt he ?_)
   | (exact⟨rfl,rfl,rfl,rfl,rfl,rfl,trivial⟩)
   | fail)
theorem ytm (ev:List Evt) (r:Rgs) (ho:OkR r) (w:List (List UInt8)) (k:Int):Ui E zb0 [.ptr ⟨0,0,0⟩ 1 0,Ws w,LI [k]] (mR zaa ev r) (ypc (zy9 r k)) (mR zaa ev r):=by
 refine⟨?_⟩
 have h2:=z9j g k
 have hu:=yfu g ev r ho k
 unfold zy9
 generalize rng k 0 99999=y at *
 change In E 1 zb0 [.ptr ⟨0,0,0⟩ 1 0,Ws w,.d (.list 1 [DI k])] _ _
 refine In.enter (f:=zb0) g.lim rfl rfl ?_
 by_cases he:y=0
 ·subst he
  repeat' ((conv=>whnf);first
  | refine Yz ?_
   | (apply zah.of;assumption)
   | (refine zqp.ofI (r':=Ws (ygl r k)) isR rfl rfl rfl rfl hu rfl rfl rfl rfl ?_)
   | (refine Cmp.ff (fun h=>h rfl) ?_)
   | (exact⟨rfl,rfl,rfl,rfl,rfl,rfl,trivial⟩)
   | fail)
 ·rw [if_pos he]
  repeat' ((conv=>whnf);first
  | refine Yz ?_
   | (apply zah.of;assumption)
   | (refine Cmp.tt he ?_)
   | (exact⟨rfl,rfl,rfl,rfl,rfl,rfl,trivial⟩)
   | fail)
theorem ytn (ev:List Evt) (r:Rgs) (ho:OkR r) (a s:List UInt8):Ui E zb1 [.ptr ⟨0,0,0⟩ 1 0,Ws [a,s],LI []] (mR zaa ev r) (ypc (zzb r s)) (mR zaa ev r):=by
 refine⟨?_⟩
 have h1:=z6z g s
 have hu:=yj2 g ev r ho s
 unfold zzb
 generalize (if !zbi s then(8:Int) else 0)=y at *
 change In E 1 zb1 [.ptr ⟨0,0,0⟩ 1 0,.d (.list 2 [.str a,.str s]),LI []] _ _
 refine In.enter (f:=zb1) g.lim rfl rfl ?_
 by_cases he:y=0
 ·subst he
  rw [if_neg (fun h=>h rfl)]
  by_cases hi:zls r.es s<0
  ·rw [if_pos hi,if_pos hi] at hu
   rw [if_pos hi]
   repeat' ((conv=>whnf);first
   | refine Yz ?_
    | (apply zah.of;assumption)
    | (refine zqp.ofI (r':= .tup [Ws [],I 10]) isR rfl rfl rfl rfl hu rfl rfl rfl rfl ?_)
    | (refine Cmp.ff (fun h=>h rfl) ?_)
    | (exact⟨rfl,rfl,rfl,rfl,rfl,rfl,trivial⟩)
    | fail)
  ·rw [if_neg hi,if_neg hi] at hu
   rw [if_neg hi]
   repeat' ((conv=>whnf);first
   | refine Yz ?_
    | (apply zah.of;assumption)
    | (refine zqp.ofI (r':= .tup [Ws (yi2 r s),I 0]) isR rfl rfl rfl rfl hu rfl rfl rfl rfl ?_)
    | (refine Cmp.ff (fun h=>h rfl) ?_)
    | (exact⟨rfl,rfl,rfl,rfl,rfl,rfl,trivial⟩)
    | fail)
 ·rw [if_pos he]
  repeat' ((conv=>whnf);first
  | refine Yz ?_
   | (apply zah.of;assumption)
   | (refine Cmp.tt he ?_)
   | (exact⟨rfl,rfl,rfl,rfl,rfl,rfl,trivial⟩)
   | fail)
end
section
variable {E : Oracle} (g : Good E)
include g
theorem yon (l:List (List UInt8)) (hl:l.length<=1000000):Fc E zcv [Ws l,Ws l] (B true):=by
 refine g.fn rfl rfl ?_
 repeat' ((conv=>whnf);first
 | refine Yz ?_)
 refine zak.to (zak.up g (fun k=>[(0,Ws l),(1,Ws l),(5,I k)]) (fun _=>[]) l.length (fun k hk ih=> ?_) 0 (Nat.zero_le _)) rfl rfl
 by_cases hlt:k<l.length
 ·have ih:=ih hlt
  repeat' ((conv=>whnf);first
  | refine Yz ?_
   | (refine zfa.ws k rfl hlt ?_)
   | (refine Cmp.tt rfl ?_)
   | (refine zak.to ih rfl rfl))
 ·repeat' ((conv=>whnf);first
 | refine Yz ?_
   | (refine Ret.mk rfl))
theorem yom (l:List Int) (hl:l.length<=1000000):Fc E zee [LI l,LI l] (B true):=by
 refine g.fn rfl rfl ?_
 repeat' ((conv=>whnf);first
 | refine Yz ?_)
 refine zak.to (zak.up g (fun k=>[(0,LI l),(1,LI l),(5,I k)]) (fun _=>[]) l.length (fun k hk ih=> ?_) 0 (Nat.zero_le _)) rfl rfl
 by_cases hlt:k<l.length
 ·have ih:=ih hlt
  repeat' ((conv=>whnf);first
  | refine Yz ?_
   | (refine zfa.iw k rfl hlt ?_)
   | (refine zak.to ih rfl rfl))
 ·repeat' ((conv=>whnf);first
 | refine Yz ?_
   | (refine Ret.mk rfl))
theorem yol (l:List Evt) (hl:l.length<=1000000) (h:∀e∈l,e.ns.length<=1000000/\e.vs.length<=1000000):Fc E zjw [LE l,LE l] (B true):=by
 refine g.fn rfl rfl ?_
 repeat' ((conv=>whnf);first
 | refine Yz ?_)
 refine zak.to (zak.up g (fun k=>[(0,LE l),(1,LE l),(5,I k)]) (fun _=>[]) l.length (fun k hk ih=> ?_) 0 (Nat.zero_le _)) rfl rfl
 by_cases hlt:k<l.length
 ·have ih:=ih hlt
  obtain⟨b1,b2⟩:=h _ (List.getElem_mem hlt)
  have hw:=yon g l[k].ns b1
  have hi:=yom g l[k].vs b2
  repeat' ((conv=>whnf);first
  | refine Yz ?_
   | (refine zfa.rec evw k rfl hlt rfl ?_)
   | (refine Cmp.tt rfl ?_)
   | (apply zah.of;assumption)
   | (refine zak.to ih rfl rfl)
   | fail)
 ·repeat' ((conv=>whnf);first
 | refine Yz ?_
   | (refine Ret.mk rfl))
end
def i64 (n:Int):Prop:= -9223372036854775808<=n/\n<=9223372036854775807
section
variable {P : Program} {n : Nat} {t : Nat} {ds : List D} {x : D}
theorem ypx (ht:P.underlying t=some .string) (h:fit P (n+1) t ds):∃s,ds=[.str s]/\s.length<=maxLen:=by
 simp only [fit,ht] at h;exact h
theorem yrz {e:Nat} (ht:P.underlying t=some (.slice e)) (h:fit P (n+1) t ds):∃m cs,ds=[.list m cs]/\m<=maxLen/\zsl (fit P n) (List.replicate m e) cs:=by
 simp only [fit,ht] at h;exact h
theorem yrp (ht:P.underlying t=some .string) (h:zsm P t x):∃s,x= .str s/\s.length<=maxLen:=by
 simp only [zsm,ht] at h
 obtain⟨i,e,hw⟩:=ypx (n:=7) ht h
 exact⟨i,by simpa using e,hw⟩
theorem yro {e:Nat} (ht:P.underlying t=some (.slice e)) (h:zsm P t x):∃m cs,x= .list m cs/\m<=maxLen/\zsl (fit P 7) (List.replicate m e) cs:=by
 simp only [zsm,ht] at h
 obtain⟨m,cs,e,h1,h2⟩:=yrz (n:=7) ht h
 exact⟨m,cs,by simpa using e,h1,h2⟩
end
theorem yrq {P:Program} {t u:Nat} {xs:List D} (h:z50 P [t,u] xs):∃x y,xs=[x,y]/\zsm P t x/\zsm P u y:=by
 obtain⟨x,_,rfl,h1,y,_,rfl,h2,rfl⟩:=h
 exact⟨x,y,rfl,h1,h2⟩
theorem yc2 {k:Nat}:∀(m:Nat) {ds:List D},zsl (fit Tryz.prog (k+1)) (List.replicate m 9) ds->∃l:List (List UInt8),ds=l.map D.str/\l.length=m/\∀x∈l,x.length<=9223372036854775807
 | 0,ds,h=>⟨[],h,rfl,fun _ h=>by cases h⟩
 | m+1,ds,h=>by
  obtain⟨a,b,rfl,h1,h2⟩:=h
  obtain⟨s,rfl,hs⟩:=ypx Tryz.underlying9 h1
  obtain⟨l,rfl,h3,h4⟩:=yc2 m h2
  refine⟨s::l,rfl,by simp [h3],fun x hx=> ?_⟩
  rcases List.mem_cons.1 hx with rfl|hx
  ·exact Nat.le_trans hs (by decide)
  ·exact h4 x hx
section
variable {E : Oracle} (g : Good E)
include g
theorem yo8 (l:List Int) (hl:l.length<=140737488355328):Fc E zjq [LI l] (I (zar l)):=by
 refine g.fn rfl rfl ?_
 conv=>whnf
 refine zak.upP g (fun k=>[(5,LI l),(6,I l.length),(7,I k)]) (fun _=>[]) (fun k=>zar l=zar (l.drop k)) l.length (fun k hk hp ih=> ?_) 0 (Nat.zero_le _) (by simp)
 by_cases hlt:k<l.length
 ·have hd:=z0p l k hlt
  repeat' ((conv=>whnf);first
  | refine Yz ?_
   | (refine zfa.int (by omega) ?_)
   | (refine Cmp.mk (fun h=> ?_) (fun h=> ?_))|(refine Rem.any (by omega) (fun r hr he=> ?_))|(refine Br.mk (fun h=> ?_) (fun h=> ?_))
   | (refine zak.to (ih hlt ?_) ?_ rfl)
   | (refine Ret.mk ?_))
  all_goals simp_all
 ·have:l.drop k=[]:=List.drop_eq_nil_of_le (by omega)
  repeat' ((conv=>whnf);first
  | refine Yz ?_
   | (refine Ret.mk ?_))
  simp [hp,this,zar]
theorem yep (a b:Int):Fc E zjq [.d (.list 2 [DI a,DI b])] (I (zar [a,b])):=yo8 g [a,b] (by simp)
theorem yj4 (b:Bool) (e:Int):Fc E zlc [B b,I e] (I (if b then e else 0)):=by
 refine g.fn rfl rfl ?_
 cases b
 all_goals repeat' ((conv=>whnf);first
 | refine Yz ?_
  | (refine Ret.mk rfl))
end
theorem z62 {r:Rgs} (ho:OkR r) (kn d:Int):(z97 r kn d).length<=256:=by
 unfold z97 yf5
 rw [List.length_map]
 refine Nat.le_trans (List.length_filter_le _ _) ?_
 rw [(zex _).length_eq]
 exact Nat.le_trans (z69 r.es) ho.es
def okT:yrb->List yrb->Prop
 | _,[]=>True
 | b,t::ts=>b.kn<t.kn/\t.kn<=99999/\t.mi≠b.mi/\okT t ts
structure Lat (r r':Rgs) (F:Int):Prop where
 es:∃more,r'.es=r.es++more/\∀x∈more,F<x.kn
 rm:∀nm,z4k r'.rs nm F=z4k r.rs nm F
theorem Lat.refl (r:Rgs) (F:Int):Lat r r F:=⟨⟨[],by simp,by simp⟩,fun _=>rfl⟩
theorem Lat.trans {a b c:Rgs} {F:Int} (h:Lat a b F) (k:Lat b c F):Lat a c F:=by
 obtain⟨⟨m1,e1,h1⟩,r1⟩:=h
 obtain⟨⟨m2,e2,h2⟩,r2⟩:=k
 refine⟨⟨m1++m2,by rw [e2,e1,List.append_assoc],fun x hx=> ?_⟩,fun nm=>(r2 nm).trans (r1 nm)⟩
 rcases List.mem_append.1 hx with hx|hx
 ·exact h1 x hx
 ·exact h2 x hx
theorem z4o {r:Rgs} (ho:OkR r) (kn d:Int):∀t∈z97 r kn d,0<=t.mi/\t.mi<1440:=by
 intro t ht
 unfold z97 yf5 at ht
 obtain⟨s,hs,rfl⟩:=List.mem_map.1 ht
 have h1:=of_decide_eq_true (List.mem_filter.1 hs).2
 have:=z6d ho s kn d
 dsimp only
 omega
def z61 (t:Slt):List UInt8:=t.sr++[32]++zav 20 t.mi.toNat
def zza (r:Rgs) (k d:Int):List (List UInt8)×Int:=
 if zar [rng k 0 99999,rng d 0 99999]≠0 then([],zar [rng k 0 99999,rng d 0 99999]) else((z97 r k d).map z61,0)
def ym4 (r:Rgs):List Cpl:=r.cs.filter fun c=> !c.cl
def z7l (r:Rgs):List (List UInt8)×Int:=((ym4 r).map Cpl.nm,0)
theorem yee:∀(es:List Ent) (ks:List (List UInt8)) (s:List UInt8),s∈es.foldl (fun ks x=>z7j ks x.sr) ks->s∈ks\/∃x∈es,x.sr=s
 | [],_,_,h=> .inl h
 | y::es,ks,s,h=>by
  rw [List.foldl_cons] at h
  rcases yee es _ s h with h|⟨x,hx,e⟩
  ·unfold z7j at h
   split at h
   ·exact .inl h
   ·rcases List.mem_append.1 h with h|h
    ·exact .inl h
    ·rw [List.mem_singleton] at h
     exact .inr ⟨y,by simp,h.symm⟩
  ·exact .inr ⟨x,by simp [hx],e⟩
def SrR (r:Rgs):Prop:=∀x∈r.es,zbi x.sr=true
theorem ybx {r:Rgs} (h:SrR r) (k d:Int):∀t∈z97 r k d,t.sr.length<=24:=by
 intro t ht
 unfold z97 yf5 at ht
 obtain⟨s,hs,rfl⟩:=List.mem_map.1 ht
 have h1:=(zex _).mem_iff.1 (List.mem_filter.1 hs).1
 rcases yee r.es [] s h1 with h2|⟨x,hx,rfl⟩
 ·cases h2
 ·exact(of_decide_eq_true (h x hx)).2.1
theorem zpe:∀(f u:Nat),(zav f u).length<=f
 | 0,_=>Nat.le_refl _
 | f+1,u=>by
  unfold zav
  split
  ·simp
  ·have:=zpe f (u/10)
   rw [List.length_append,List.length_singleton];omega
section
variable {E : Oracle} (g : Good E)
include g
theorem ytl (ev:List Evt) (r:Rgs) (ho:OkR r) (hsr:SrR r) (w:List (List UInt8)) (k d:Int):Ui E zbz [.ptr ⟨0,0,0⟩ 1 0,Ws w,LI [k,d]] (mR zaa ev r) (ypc (zza r k d)) (mR zaa ev r):=by
 refine⟨?_⟩
 have h2:=z9j g k
 have h3:=z9j g d
 have h4:=zec g (rng k 0 99999) (rng d 0 99999)
 have hu:=yo7 g ev r ho k d
 have hsl:=z62 ho k d
 have hran:=z4o ho k d
 have hsrl:=ybx hsr k d
 unfold zza
 generalize rng k 0 99999=y at *
 generalize rng d 0 99999=z at *
 generalize zar [y,z]=e at *
 generalize z97 r k d=sl at *
 have hms:(sl.flatMap Slt.cells).length=sl.length*2:=zag Slt.cells 2 ypk sl
 change In E 1 zbz [.ptr ⟨0,0,0⟩ 1 0,Ws w,.d (.list 2 [DI k,DI d])] _ _
 refine In.enter (f:=zbz) g.lim rfl rfl ?_
 by_cases he:e=0
 ·subst he
  rw [if_neg (fun h=>h rfl)]
  repeat' ((conv=>whnf);first
  | refine Yz ?_
   | (apply zah.of;assumption)
   | (refine zqp.ofI (r':=LS2 sl) isR rfl rfl rfl rfl hu rfl rfl rfl rfl ?_)
   | (refine Cmp.ff (fun h=>h rfl) ?_)
   | (refine In.enter (f:=zde) g.lim rfl rfl ?_)
   | fail)
  refine zak.to (zak.by (σ:=List (List UInt8)) g (fun u=>u.length<=sl.length/\u=(sl.take u.length).map z61)
   (fun u=>[(1,.fn zfc [] []),(5,.ref ⟨2,5,0⟩ 0 u.length u.length),(8,LS2 sl),(9,I sl.length),(10,I u.length)])
   (fun u=>mR zaa ev r++[(⟨2,4,0⟩,.row false zab 1 0 []),(⟨2,5,0⟩,.row false zab 1 u.length (u.map D.str))])
   (fun u=>sl.length-u.length) ?_ [] ⟨Nat.zero_le _,rfl⟩) rfl rfl
  rintro u ⟨h5,h6⟩ ih
  dsimp only at h5 h6 ih ⊢
  by_cases hlt:u.length<sl.length
  ·have hwin:win (sl.flatMap Slt.cells) (((u.length:Nat):Int).toNat*2) 2=sl[u.length].cells:=by
    rw [Int.toNat_natCast]
    exact zb9 Slt.cells 2 ypk sl u.length hlt
   change win _ _ _=[D.str sl[u.length].sr,DI sl[u.length].mi] at hwin
   have hi:=z4m g sl[u.length].mi (by have:=hran _ (List.getElem_mem hlt);omega)
   have ih:=ih (u++[z61 sl[u.length]]) ⟨by rw [List.length_append,List.length_singleton];omega,by
    rw [List.length_append,List.length_singleton,List.take_succ_eq_append_getElem hlt,List.map_append,<-h6];rfl⟩ (by rw [List.length_append,List.length_singleton];omega)
   simp only [List.length_append,List.length_cons,List.length_nil,List.map_append,List.map_cons,List.map_nil] at ih
   have hT:z61 sl[u.length]=sl[u.length].sr++[32]++zav 20 sl[u.length].mi.toNat:=rfl
   rw [hT] at ih
   have hs1:=hsrl _ (List.getElem_mem hlt)
   have hs2:=zpe 20 sl[u.length].mi.toNat
   have hmx:zmy=9223372036854775807:=rfl
   clear hran hsrl
   generalize sl[u.length]=t at *
   repeat' ((conv=>whnf);first
   | refine Yz ?_
    | (rw [hwin])
    | (apply zah.of;assumption)
    | (refine In.enter (f:=zfc) g.lim rfl rfl ?_)
    | (refine zbd.mk (by rw [hmx];simp only [List.length_append,List.length_cons,List.length_nil];omega) ?_)
    | (refine zbd.mk ⟨rfl,rfl,rfl,rfl,rfl,rfl,by dsimp only;omega,by dsimp only;omega⟩ ?_)
    | (refine zak.to ih rfl rfl)
    | fail)
  ·rw [List.take_of_length_le (by omega)] at h6
   rw [<-h6]
   repeat' ((conv=>whnf);first
   | refine Yz ?_
    | (refine zbd.mk ⟨rfl,by omega⟩ ?_)
    | (refine zbd.mk ⟨by simp,rfl,by omega⟩ ?_)
    | (exact⟨by rw [if_pos ⟨rfl,rfl⟩],rfl,rfl,rfl,rfl,rfl,trivial⟩)
    | (exact⟨rfl,rfl,rfl,rfl,rfl,rfl,trivial⟩)
    | fail)
 ·rw [if_pos he]
  repeat' ((conv=>whnf);first
  | refine Yz ?_
   | (apply zah.of;assumption)
   | (refine Cmp.tt he ?_)
   | (exact⟨rfl,rfl,rfl,rfl,rfl,rfl,trivial⟩)
   | fail)
theorem yto (ev:List Evt) (r:Rgs) (ho:OkR r) (w:List (List UInt8)) (n:List Int):Ui E zcj [.ptr ⟨0,0,0⟩ 1 0,Ws w,LI n] (mR zaa ev r) (ypc (z7l r)) (mR zaa ev r):=by
 refine⟨?_⟩
 have hcs:=ho.cs
 have hml:(r.cs.flatMap Cpl.cells).length=r.cs.length*5:=zag Cpl.cells 5 zop r.cs
 refine In.enter (f:=zcj) g.lim rfl rfl ?_
 repeat' ((conv=>whnf);first
 | refine Yz ?_
  | (refine In.enter (f:=zd7) g.lim rfl rfl ?_)
  | fail)
 refine zak.to (zak.by (σ:=Nat×List Cpl) g (fun u=>u.1<=r.cs.length/\u.2=(r.cs.take u.1).filter fun c=> !c.cl)
  (fun u=>[(1,.fn zdz [] []),(5,.ref ⟨2,5,0⟩ 0 u.2.length u.2.length),(8,.ref ⟨0,0,4⟩ 0 r.cs.length r.cs.length),(9,I r.cs.length),(10,I u.1)])
  (fun u=>mR zaa ev r++[(⟨2,4,0⟩,.row false zai 5 0 []),(⟨2,5,0⟩,.row false zai 5 u.2.length (u.2.flatMap Cpl.cells))])
  (fun u=>r.cs.length-u.1) ?_ (0,[]) ⟨Nat.zero_le _,rfl⟩) rfl rfl
 rintro⟨k,out⟩ ⟨h1,h2⟩ ih
 dsimp only at h1 h2 ih ⊢
 have hmo:(out.flatMap Cpl.cells).length=out.length*5:=zag Cpl.cells 5 zop out
 have hol:out.length<=64:=by
  rw [h2]
  refine Nat.le_trans (List.length_filter_le _ _) ?_
  rw [List.length_take];omega
 by_cases hlt:k<r.cs.length
 ·have hwin:win (r.cs.flatMap Cpl.cells) ((0+((k:Nat):Int).toNat)*5) 5=r.cs[k].cells:=by
   rw [Nat.zero_add,Int.toNat_natCast]
   exact zb9 Cpl.cells 5 zop r.cs k hlt
  change win _ _ _=[D.str r.cs[k].nm,D.str r.cs[k].en,DI r.cs[k].kn,D.bool r.cs[k].cl,D.bool r.cs[k].up] at hwin
  cases hc:r.cs[k].cl with
  | false=>
   have ih:=ih (k+1,out++[r.cs[k]]) ⟨by dsimp only;omega,by dsimp only;rw [zd3 _ _ _ hlt,<-h2,hc];rfl⟩ (by dsimp only;omega)
   simp only [List.length_append,List.length_cons,List.length_nil,List.flatMap_append,List.flatMap_cons,List.flatMap_nil] at ih
   have hcc:r.cs[k].cells=[D.str r.cs[k].nm,D.str r.cs[k].en,DI r.cs[k].kn,D.bool false,D.bool r.cs[k].up]:=by rw [<-hc];rfl
   rw [hcc] at ih
   rw [hc] at hwin
   repeat' ((conv=>whnf);first
   | refine Yz ?_
    | (rw [hwin])
    | (refine In.enter (f:=zdz) g.lim rfl rfl ?_)
    | (refine zbd.mk ⟨rfl,rfl,rfl,rfl,rfl,rfl,by dsimp only;omega,by dsimp only;omega⟩ ?_)
    | (refine zak.to ih rfl rfl)
    | fail)
  | true=>
   have ih:=ih (k+1,out) ⟨by dsimp only;omega,by dsimp only;rw [zd3 _ _ _ hlt,<-h2,hc];simp⟩ (by dsimp only;omega)
   rw [hc] at hwin
   repeat' ((conv=>whnf);first
   | refine Yz ?_
    | (rw [hwin])
    | (refine In.enter (f:=zdz) g.lim rfl rfl ?_)
    | (refine zak.to ih rfl rfl)
    | fail)
 ·rw [List.take_of_length_le (by omega)] at h2
  have hcl:z7l r=(out.map Cpl.nm,0):=by rw [z7l,ym4,<-h2]
  rw [hcl]
  clear hcl h2 ih
  repeat' ((conv=>whnf);first
  | refine Yz ?_
   | (refine zbd.mk ⟨rfl,by omega⟩ ?_)
   | (rw [if_pos ⟨rfl,rfl⟩];refine In.enter (f:=zbu) g.lim rfl rfl ?_)
   | (refine In.enter (f:=zbu) g.lim rfl rfl ?_)
   | fail)
  refine zak.to (zak.by (σ:=List (List UInt8)) g (fun u=>u.length<=out.length/\u=(out.take u.length).map Cpl.nm)
   (fun u=>[(1,.fn zfd [] []),(5,.ref ⟨2,5,0⟩ 0 u.length u.length),(8,.d (.list out.length (out.flatMap Cpl.cells))),(9,I out.length),(10,I u.length)])
   (fun u=>mR zaa ev r++[(⟨2,4,0⟩,.row false zab 1 0 []),(⟨2,5,0⟩,.row false zab 1 u.length (u.map D.str))])
   (fun u=>out.length-u.length) ?_ [] ⟨Nat.zero_le _,rfl⟩) rfl rfl
  rintro u ⟨h3,h4⟩ ih
  dsimp only at h3 h4 ih ⊢
  by_cases hlt2:u.length<out.length
  ·have hwin:win (out.flatMap Cpl.cells) (((u.length:Nat):Int).toNat*5) 5=out[u.length].cells:=by
    rw [Int.toNat_natCast]
    exact zb9 Cpl.cells 5 zop out u.length hlt2
   have ih:=ih (u++[out[u.length].nm]) ⟨by rw [List.length_append,List.length_singleton];omega,by
    rw [List.length_append,List.length_singleton,List.take_succ_eq_append_getElem hlt2,List.map_append,<-h4];rfl⟩ (by rw [List.length_append,List.length_singleton];omega)
   simp only [List.length_append,List.length_cons,List.length_nil,List.map_append,List.map_cons,List.map_nil] at ih
   repeat' ((conv=>whnf);first
   | refine Yz ?_
    | (rw [hwin])
    | (refine In.enter (f:=zfd) g.lim rfl rfl ?_)
    | (refine zbd.mk ⟨rfl,rfl,rfl,rfl,rfl,rfl,by dsimp only;omega,by dsimp only;omega⟩ ?_)
    | (refine zak.to ih rfl rfl)
    | fail)
  ·rw [List.take_of_length_le (by omega)] at h4
   rw [<-h4]
   repeat' ((conv=>whnf);first
   | refine Yz ?_
    | (refine zbd.mk ⟨rfl,by omega⟩ ?_)
    | (refine zbd.mk ⟨by simp,rfl,by omega⟩ ?_)
    | (exact⟨by rw [if_pos ⟨rfl,rfl⟩],rfl,rfl,rfl,rfl,rfl,trivial⟩)
    | (exact⟨rfl,rfl,rfl,rfl,rfl,rfl,trivial⟩)
    | fail)
end
theorem zqp.ofJ {E:Oracle} {f:Nat} {first caps args as0 as1:List V} {m m0 m2 m':Mem} {r r':V} {K:V->Mem->Prop} (is:List Evl.Id) (h0:(first ++args++caps).map (zvq m)=as1) (his:reach 0 m 64 (idsL as1) []=is)
  (hc:(within is 0 (idsL as1)&&movable is 0 m)=true) (has:renL (number ⟨0,0⟩ 0 0 is) as1=as0) (hm:moved (number ⟨0,0⟩ 0 0 is) m (number ⟨0,0⟩ 0 0 is)=m0)
  (hq:Ui E f as0 m0 r m2) (hlow:zig 1 (znr m0)=true) (hb:zs3 (number ⟨0,0⟩ 0 0 is) m2 (number ⟨0,0⟩ 0 0 is) m=some m') (hid:(ids r).all (fun i=>((number ⟨0,0⟩ 0 0 is).map (·.2)).elem i)=true) (hr:ren (znd (number ⟨0,0⟩ 0 0 is)) r=r') (hk:K r' m'):zqp E true (.fn f first caps) args m K:=by
 subst h0
 exact zqp.ofI is his hc has hm hq hlow hb hid hr hk
theorem yat {m:Mem} {o:Evl.Id} {n:Nat} {t sz:Nat} {xs:List D} (h:Evl.look m o=some (.row false t sz n xs)):zvq m (.ref o 0 n n)= .d (.list n xs):=by
 have h1:Evl.freeze false m (.ref o 0 n n)=some (.list n xs):=by
  have h2:Evl.freeze false m (.ref o 0 n n)=match Evl.look m o with|some (.row wr _ sz n' xs)=>if(wr=false\/false=true)/\n'=n/\0+n<=n' then some (.list n (if 0=0/\n=n' then xs else win xs (0*sz) (n*sz))) else none|_=>none:=rfl
  rw [h2,h]
  dsimp only
  rw [if_pos ⟨.inl rfl,rfl,by omega⟩,if_pos ⟨rfl,rfl⟩]
 simp only [zvq,h1]
def zfl (l:List (List UInt8)):Bool:=l.all fun w=>(z8c w).2
def zin (l:List (List UInt8)):List Int:=l.map fun w=>(z8c w).1
def zvp (a:List (List UInt8)×Int):List UInt8×Int:=if a.2≠0 then([],a.2) else if a.1=[] then([110,111,110,101],0) else(zga 32 a.1,0)
def zxt (W I:Nat) (A:List (List UInt8)->List Int->List (List UInt8)×Int) (text:List UInt8):List UInt8×Int:=
 if(parts 32 text).length≠W\/[]∈parts 32 text then([],25)
 else if zfl ((parts 32 text).drop (W-I))=false then([],25)
 else zvp (A (parts 32 text) (zin ((parts 32 text).drop (W-I))))
theorem ymj (l:List (List UInt8)) (a:Nat):win (l.map D.str) (a*1) ((l.length-a)*1)=(l.drop a).map D.str:=by
 unfold win
 rw [Nat.mul_one,Nat.mul_one,List.map_drop,List.take_of_length_le (by rw [List.length_drop,List.length_map];exact Nat.le_refl _)]
theorem z0z (b:UInt8) (n:Nat):∀l:List (List UInt8),(∀w∈l,w.length<=n)->(zga b l).length<=l.length*(n+1)
 | [],_=>by simp [zga]
 | [x],h=>by
  have:=h x (by simp)
  simp only [zga,List.length_cons,List.length_nil]
  omega
 | x::y::r,h=>by
  have h1:=h x (by simp)
  have h2:=z0z b n (y::r) fun w hw=>h w (List.mem_cons_of_mem _ hw)
  rw [List.length_cons,Nat.succ_mul]
  simp only [zga,List.length_append,List.length_cons] at h2 ⊢
  omega
section
variable {E : Oracle} (g : Good E)
include g
theorem yj0 (ev:List Evt) (r:Rgs) (W Iq:Nat) (hI:Iq<=W) (hW:W<=10) (f:Nat) (A:List (List UInt8)->List Int->List (List UInt8)×Int) (text:List UInt8) (ht:text.length<=100000)
  (hq:∀w n,w.length=W->n.length=Iq->Ui E f [.ptr ⟨0,0,0⟩ 1 0,Ws w,LI n] (mR zaa ev r) (ypc (A w n)) (mR zaa ev r))
  (hA:∀w n,(A w n).1.length<=1000/\∀x∈(A w n).1,x.length<=100):
  Ui E zbl [.ptr ⟨0,0,0⟩ 0 0,.agg [I W,I Iq,.fn f [] []],S text] (mR zaa ev r) (.tup [S (zxt W Iq A text).1,I (zxt W Iq A text).2]) (mR zaa ev r):=by
 refine⟨?_⟩
 have hsp:=zpx g text (by omega)
 have hln:=zjy 32 text
 have hpl:∀w∈parts 32 text,w.length<=1000000:=fun w hw=>by
  have:=z6o 32 text w hw
  omega
 have hct:=z1s g (parts 32 text) [] (by omega)
 unfold zxt
 generalize parts 32 text=w at *
 refine In.enter (f:=zbl) g.lim rfl rfl ?_
 by_cases h1:w.length=W
 ·by_cases h2:[]∈w
  ·rw [decide_eq_true h2] at hct
   rw [if_pos (.inr h2)]
   subst h1
   repeat' ((conv=>whnf);first
   | refine Yz ?_
    | (apply zah.of;assumption)
    | (exact⟨rfl,rfl,rfl,rfl,rfl,rfl,trivial⟩)
    | fail)
  ·rw [decide_eq_false h2] at hct
   rw [if_neg (fun h=>h.elim (fun h=>h h1) h2)]
   subst h1
   have hxl:(w.drop (w.length-Iq)).length=w.length-(w.length-Iq):=List.length_drop
   have hxw:∀x∈w.drop (w.length-Iq),x.length<=1000000:=fun x hx=>hpl x (List.mem_of_mem_drop hx)
   have hwd:=ymj w (w.length-Iq)
   generalize hxs:w.drop (w.length-Iq)=xs at *
   repeat' ((conv=>whnf);first
   | refine Yz ?_
    | (apply zah.of;assumption)
    | (refine za9.at (w.length-Iq) w.length (by omega) (by omega) (by omega) ?_;rw [hwd])
    | fail)
   rw [<-hxl]
   refine zak.to (zak.upP g (fun k=>[(0,.ptr ⟨0,0,0⟩ 0 0),(4,.ptr ⟨1,4,0⟩ 0 0),(8,LS w),(9,.ref ⟨1,9,0⟩ 0 k k),(33,LS xs),(34,I xs.length),(35,I k)])
    (fun k=>mR zaa ev r++[(⟨1,4,0⟩,.cells zj3 [I w.length,I Iq,.fn f [] []]),(⟨1,9,0⟩,.row false zbq 1 k ((zin (xs.take k)).map DI))])
    (fun k=>zfl (xs.take k)=true) xs.length (fun k hk hp ih=> ?_) 0 (Nat.zero_le _) rfl) rfl rfl
   by_cases hlt:k<xs.length
   ·have hd:=zvj g xs[k] (hxw _ (List.getElem_mem hlt))
    have hpx:∀ {K:D->Prop},K (.str xs[k])->zfa (xs.map D.str) (((k:Nat):Int).toNat*1) K:=fun h=>zfa.ws k rfl hlt h
    have hmi:((zin (xs.take k)).map DI).length=k*1:=by rw [List.length_map,zin,List.length_map,List.length_take];omega
    cases hc:(z8c xs[k]).2 with
    | false=>
     have hno:zfl xs=false:=by
      unfold zfl
      rw [List.all_eq_false]
      exact⟨_,List.getElem_mem hlt,by rw [hc];decide⟩
     rw [hno,if_pos rfl]
     rw [hc] at hd
     clear ih
     repeat' ((conv=>whnf);first
     | refine Yz ?_
      | (refine hpx ?_)
      | (apply zah.of;assumption)
      | (exact⟨rfl,rfl,rfl,rfl,rfl,rfl,trivial⟩)
      | fail)
    | true=>
     rw [hc] at hd
     have e1:zfl (xs.take (k+1))=true:=by
      unfold zfl at hp ⊢
      rw [List.take_succ_eq_append_getElem hlt,List.all_append,hp,List.all_cons,hc]
      rfl
     have e2:(zin (xs.take (k+1))).map DI=(zin (xs.take k)).map DI++[DI (z8c xs[k]).1]:=by
      unfold zin
      rw [List.take_succ_eq_append_getElem hlt,List.map_append,List.map_append]
      rfl
     have ih:=ih hlt e1
     rw [e2] at ih
     repeat' ((conv=>whnf);first
     | refine Yz ?_
      | (refine hpx ?_)
      | (apply zah.of;assumption)
      | (refine zbd.mk ⟨rfl,rfl,rfl,rfl,rfl,rfl,by dsimp only;omega,by dsimp only;omega⟩ ?_)
      | (refine zak.to ih rfl rfl)
      | fail)
   ·obtain rfl:k=xs.length:=by omega
    clear ih
    rw [List.take_length] at hp ⊢
    rw [hp,if_neg (by decide)]
    have hil:(zin xs).length=xs.length:=by rw [zin,List.length_map]
    have hu:=hq w (zin xs) rfl (by rw [hil,hxl];omega)
    obtain⟨ha1,ha2⟩:=hA w (zin xs)
    generalize A w (zin xs)=a at *
    obtain⟨al,ae⟩:=a
    dsimp only at ha1 ha2
    have hus:LI (zin xs)= .d (.list xs.length ((zin xs).map DI)):=by rw [<-hil]
    rw [hus] at hu
    have hfz:=fun m (h:Evl.look m ⟨1,9,0⟩=some (.row false zbq 1 xs.length ((zin xs).map DI)))=>yat h
    by_cases hae:ae=0
    ·subst hae
     by_cases hal:al=[]
     ·subst hal
      repeat' ((conv=>whnf);first
      | refine Yz ?_
       | (apply zah.of;assumption)
       | (refine zqp.ofJ (as1:=[.ptr ⟨0,0,0⟩ 1 0,LS w,.d (.list xs.length ((zin xs).map DI))]) (r':= .tup [Ws [],I 0]) isR (by rw [List.nil_append,List.append_nil,List.map_cons,List.map_cons,List.map_cons,List.map_nil,hfz _ rfl];rfl) rfl rfl rfl rfl hu rfl rfl rfl rfl ?_)
       | (refine Cmp.ff (fun h=>h rfl) ?_)
       | (exact⟨rfl,rfl,rfl,rfl,rfl,rfl,trivial⟩)
       | fail)
     ·obtain⟨a0,ar,rfl⟩:=List.exists_cons_of_ne_nil hal
      have hjl:=z0z 32 100 (a0::ar) ha2
      have hj:=yi6 g (a0::ar) hal (by omega) (by have:=Nat.mul_le_mul_right (100+1) ha1;omega)
      have hat:zvp (a0::ar,0)=(zga 32 (a0::ar),0):=by
       unfold zvp
       rw [if_neg (fun h=>h rfl),if_neg (fun h=>by cases h)]
      rw [hat]
      dsimp only
      have hkl:(a0::ar).length=ar.length+1:=rfl
      repeat' ((conv=>whnf);first
      | refine Yz ?_
       | (apply zah.of;assumption)
       | (refine zqp.ofJ (as1:=[.ptr ⟨0,0,0⟩ 1 0,LS w,.d (.list xs.length ((zin xs).map DI))]) (r':= .tup [Ws (a0::ar),I 0]) isR (by rw [List.nil_append,List.append_nil,List.map_cons,List.map_cons,List.map_cons,List.map_nil,hfz _ rfl];rfl) rfl rfl rfl rfl hu rfl rfl rfl rfl ?_)
       | (refine Cmp.ff (by omega) ?_)
       | (refine Cmp.ff (fun h=>h rfl) ?_)
       | (exact⟨rfl,rfl,rfl,rfl,rfl,rfl,trivial⟩)
       | fail)
    ·have hat:zvp (al,ae)=([],ae):=by
      unfold zvp
      rw [if_pos hae]
     rw [hat]
     dsimp only
     repeat' ((conv=>whnf);first
     | refine Yz ?_
      | (apply zah.of;assumption)
      | (refine zqp.ofJ (as1:=[.ptr ⟨0,0,0⟩ 1 0,LS w,.d (.list xs.length ((zin xs).map DI))]) (r':= .tup [Ws al,I ae]) isR (by rw [List.nil_append,List.append_nil,List.map_cons,List.map_cons,List.map_cons,List.map_nil,hfz _ rfl];rfl) rfl rfl rfl rfl hu rfl rfl rfl rfl ?_)
      | (refine Cmp.tt hae ?_)
      | (exact⟨rfl,rfl,rfl,rfl,rfl,rfl,trivial⟩)
      | fail)
 ·rw [if_pos (.inl h1)]
  repeat' ((conv=>whnf);first
  | refine Yz ?_
   | (apply zah.of;assumption)
   | (refine Cmp.tt (by omega) ?_)
   | (exact⟨rfl,rfl,rfl,rfl,rfl,rfl,trivial⟩)
   | fail)
end
structure NmR (r:Rgs):Prop where
 nm:∀x∈r.es,zbi x.nm=true
 sr:∀x∈r.es,zbi x.sr=true
 cs:∀c∈r.cs,zbi c.nm=true
theorem ya6 {s:List UInt8} (h:zbi s=true):s.length<=24:=(of_decide_eq_true h).2.1
theorem ypp {r:Rgs} (h:NmR r) {n:Nat} {e:Evt} (hs:zie r n e=0):NmR (zp8 r e):=by
 obtain⟨h1,h2⟩:=z1x hs
 obtain⟨_,_,_,h3⟩:=z7i h2
 obtain⟨a1,a2,a3,a4,_⟩:=z0c h1
 unfold z18 at h3
 unfold zp8
 split at h3
 ·rename_i hk
  rw [if_pos hk]
  obtain⟨_,f2,_⟩:=z3v hk
  have hn:∀x∈r.es++[z8f e],zbi x.nm=true:=fun x hx=>by
   rcases List.mem_append.1 hx with hx|hx
   ·exact h.nm x hx
   ·rw [List.mem_singleton] at hx;subst hx
    exact ydt a4 (i:=0) (by omega)
  have hs':∀x∈r.es++[z8f e],zbi x.sr=true:=fun x hx=>by
   rcases List.mem_append.1 hx with hx|hx
   ·exact h.sr x hx
   ·rw [List.mem_singleton] at hx;subst hx
    exact ydt a4 (i:=1) (by omega)
  exact⟨hn,hs',h.cs⟩
 rename_i hk
 rw [if_neg hk]
 split at h3
 ·rename_i hk2
  rw [if_pos hk2]
  exact⟨h.nm,h.sr,h.cs⟩
 rename_i hk2
 rw [if_neg hk2]
 split at h3
 ·rename_i hk3
  rw [if_pos hk3]
  refine⟨h.nm,h.sr,fun c hc=> ?_⟩
  rcases List.mem_append.1 hc with hc|hc
  ·exact h.cs c hc
  ·rw [List.mem_singleton] at hc;subst hc
   exact ydt a4 (i:=0) (by rw [a2,hk3];decide)
 rename_i hk3
 rw [if_neg hk3]
 refine⟨h.nm,h.sr,fun c hc=> ?_⟩
 rcases List.mem_or_eq_of_mem_set hc with hc|hc
 ·exact h.cs c hc
 ·subst hc
  dsimp only
  have hge:0<=zth r.cs (nmN e 0):=by
   unfold zp2 at h3
   split at h3
   ·exact absurd h3 (by decide)
   ·omega
  rcases zmn r.cs (nmN e 0) with e1|⟨k,hk,e1,_⟩
  ·omega
  ·rw [e1,Int.toNat_natCast]
   have:r.cs.getD k ycs=r.cs[k]:=by simp [List.getD,hk]
   rw [this]
   exact h.cs _ (List.getElem_mem hk)
theorem yd5:∀(l:List Evt) (r:Rgs) (n:Nat),NmR r->(zeh r n l).2.2=0->NmR (zeh r n l).1
 | [],_,_,h,_=>h
 | e::l,r,n,h,hz=>by
  rw [zh2] at hz ⊢
  by_cases hs:zie r n e≠0
  ·rw [if_pos hs] at hz;exact absurd hz hs
  ·rw [if_neg hs] at hz ⊢
   exact yd5 l _ _ (ypp h (Decidable.byContradiction hs)) hz
theorem yqb:NmR rg0:=⟨by simp [rg0],by simp [rg0],by simp [rg0]⟩
abbrev A1 (r:Rgs) (w:List (List UInt8)) (n:List Int):=zss r (w.getD 1 []) (n.getD 0 0) (n.getD 1 0)
abbrev A2 (r:Rgs) (_:List (List UInt8)) (n:List Int):=zza r (n.getD 0 0) (n.getD 1 0)
abbrev A3 (r:Rgs) (_:List (List UInt8)) (n:List Int):=zy9 r (n.getD 0 0)
abbrev A4 (r:Rgs) (w:List (List UInt8)) (_:List Int):=zzb r (w.getD 1 [])
abbrev A5 (r:Rgs) (_:List (List UInt8)) (_:List Int):=z7l r
theorem yrj (r:Rgs) (w:List (List UInt8)) (n:List Int):(A1 r w n).1.length<=1000/\∀x∈(A1 r w n).1,x.length<=100:=by
 unfold A1 zss
 generalize (if !zbi (w.getD 1 []) then(8:Int) else 0)=y
 split
 ·simp
 ·split
  ·refine⟨by simp,fun x hx=> ?_⟩
   rw [List.mem_singleton] at hx;subst hx
   have:=zpe 20 (zu2 r (w.getD 1 []) (n.getD 0 0) (n.getD 1 0)).toNat
   omega
  ·simp
theorem yrk {r:Rgs} (ho:OkR r) (h:NmR r) (w:List (List UInt8)) (n:List Int):(A2 r w n).1.length<=1000/\∀x∈(A2 r w n).1,x.length<=100:=by
 unfold A2 zza
 split
 ·simp
 ·refine⟨by have:=z62 ho (n.getD 0 0) (n.getD 1 0);dsimp only;rw [List.length_map];omega,fun x hx=> ?_⟩
  obtain⟨t,ht,rfl⟩:=List.mem_map.1 hx
  have h1:=ybx h.sr _ _ t ht
  have h2:=zpe 20 t.mi.toNat
  unfold z61
  simp only [List.length_append,List.length_cons,List.length_nil]
  omega
theorem zyr {r:Rgs} (ho:OkR r) (h:NmR r) (p:Ent->Bool):((r.es.filter p).map Ent.nm).length<=1000/\∀x∈(r.es.filter p).map Ent.nm,x.length<=100:=by
 have hes:=ho.es
 refine⟨by rw [List.length_map];exact Nat.le_trans (List.length_filter_le _ _) (by omega),fun x hx=> ?_⟩
 obtain⟨y,hy,rfl⟩:=List.mem_map.1 hx
 have:=ya6 (h.nm y (List.mem_filter.1 hy).1)
 omega
theorem yrl {r:Rgs} (ho:OkR r) (h:NmR r) (w:List (List UInt8)) (n:List Int):(A3 r w n).1.length<=1000/\∀x∈(A3 r w n).1,x.length<=100:=by
 unfold A3 zy9
 split
 ·simp
 ·exact zyr ho h _
theorem yrm {r:Rgs} (ho:OkR r) (h:NmR r) (w:List (List UInt8)) (n:List Int):(A4 r w n).1.length<=1000/\∀x∈(A4 r w n).1,x.length<=100:=by
 unfold A4 zzb
 generalize (if !zbi (w.getD 1 []) then(8:Int) else 0)=y
 split
 ·simp
 ·split
  ·simp
  ·exact zyr ho h _
theorem ypm {r:Rgs} (ho:OkR r) (h:NmR r) (w:List (List UInt8)) (n:List Int):(A5 r w n).1.length<=1000/\∀x∈(A5 r w n).1,x.length<=100:=by
 have hcs:=ho.cs
 unfold A5 z7l ym4
 dsimp only
 refine⟨by rw [List.length_map];exact Nat.le_trans (List.length_filter_le _ _) (by omega),fun x hx=> ?_⟩
 obtain⟨y,hy,rfl⟩:=List.mem_map.1 hx
 have:=ya6 (h.cs y (List.mem_filter.1 hy).1)
 omega
def hdW (s:List UInt8):List UInt8:=(parts 32 s).headD []
section
variable {E : Oracle} (g : Good E)
include g
theorem yi5 (s:List UInt8) (hs:s.length<=1000000):∃q b,Fc E zh1 [S s,S [32]] (.tup [S (hdW s),S q,B b]):=by
 by_cases h:(32:UInt8)∈s
 ·obtain⟨a,q,rfl,ha⟩:=List.eq_append_cons_of_mem h
  refine⟨q,true,?_⟩
  unfold hdW
  rw [zny 32 q a ha]
  exact yed g a q ha hs
 ·refine⟨[],false,?_⟩
  unfold hdW
  rw [zrp 32 s h]
  exact z9e g s h
abbrev qsM:List (D×V):=[(.str zkl,.agg [I 4,I 2,.fn zby [] []]),(.str zwu,.agg [I 3,I 2,.fn zbz [] []]),(.str zfn,.agg [I 2,I 1,.fn zb0 [] []]),(.str zl1,.agg [I 2,I 0,.fn zb1 [] []]),(.str zse,.agg [I 1,I 0,.fn zcj [] []])]
omit g in
theorem yii {k:List UInt8} (h:k≠zkl/\k≠zwu/\k≠zfn/\k≠zl1/\k≠zse):zpf (.str k) qsM=some none:=by
 have e:∀t,k≠t->(k==t)=false:=fun t h=>beq_eq_false_iff_ne.2 h
 obtain⟨h1,h2,h3,h4,h5⟩:=h
 simp only [zpf,eqD,e _ h1,e _ h2,e _ h3,e _ h4,e _ h5]
theorem zb8.questions {cx:Cx} {slot:Nat} {m:Mem} {K:V->Mem->Prop} (hf:Go.Evl.freeK cx.lv slot m=0) (k:K (.mp ⟨cx.lv,slot,0⟩) (m++[(⟨cx.lv,slot,0⟩,.map qsM)])):zb8 E zjs [] cx slot m K:=by
 refine⟨.mp ⟨0,1,0⟩,[(⟨0,1,0⟩,.map qsM)],(.mp ⟨cx.lv,slot,0⟩,m++[(⟨cx.lv,slot,0⟩,.map qsM)]),g.lim.of_iter 1000 _ _ (by kernel_rfl),?_,k⟩
 unfold Evl.settle
 rw [hf]
 rfl
abbrev Aqv (a:List UInt8×Int):V:= .tup [S a.1,I a.2]
theorem yqw (ev:List Evt) (r:Rgs) (ho:OkR r) (text:List UInt8) (ht:text.length<=100000):Ui E zbl [.ptr ⟨0,0,0⟩ 0 0,.agg [I 4,I 2,.fn zby [] []],S text] (mR zaa ev r) (Aqv (zxt 4 2 (A1 r) text)) (mR zaa ev r):=by
 refine yj0 g ev r 4 2 (by decide) (by decide) zby (A1 r) text ht (fun w n hw hn=> ?_) (yrj r)
 match w,n,hw,hn with
 | [a,s,b,c],[k,d],_,_=>exact ytk g ev r ho a s b c k d
theorem yqx (ev:List Evt) (r:Rgs) (ho:OkR r) (h:NmR r) (text:List UInt8) (ht:text.length<=100000):Ui E zbl [.ptr ⟨0,0,0⟩ 0 0,.agg [I 3,I 2,.fn zbz [] []],S text] (mR zaa ev r) (Aqv (zxt 3 2 (A2 r) text)) (mR zaa ev r):=by
 refine yj0 g ev r 3 2 (by decide) (by decide) zbz (A2 r) text ht (fun w n hw hn=> ?_) (yrk ho h)
 match n,hn with
 | [k,d],_=>exact ytl g ev r ho h.sr w k d
theorem yqy (ev:List Evt) (r:Rgs) (ho:OkR r) (h:NmR r) (text:List UInt8) (ht:text.length<=100000):Ui E zbl [.ptr ⟨0,0,0⟩ 0 0,.agg [I 2,I 1,.fn zb0 [] []],S text] (mR zaa ev r) (Aqv (zxt 2 1 (A3 r) text)) (mR zaa ev r):=by
 refine yj0 g ev r 2 1 (by decide) (by decide) zb0 (A3 r) text ht (fun w n hw hn=> ?_) (yrl ho h)
 match n,hn with
 | [k],_=>exact ytm g ev r ho w k
theorem yqz (ev:List Evt) (r:Rgs) (ho:OkR r) (h:NmR r) (text:List UInt8) (ht:text.length<=100000):Ui E zbl [.ptr ⟨0,0,0⟩ 0 0,.agg [I 2,I 0,.fn zb1 [] []],S text] (mR zaa ev r) (Aqv (zxt 2 0 (A4 r) text)) (mR zaa ev r):=by
 refine yj0 g ev r 2 0 (by decide) (by decide) zb1 (A4 r) text ht (fun w n hw hn=> ?_) (yrm ho h)
 match w,n,hw,hn with
 | [a,s],[],_,_=>exact ytn g ev r ho a s
theorem yq0 (ev:List Evt) (r:Rgs) (ho:OkR r) (h:NmR r) (text:List UInt8) (ht:text.length<=100000):Ui E zbl [.ptr ⟨0,0,0⟩ 0 0,.agg [I 1,I 0,.fn zcj [] []],S text] (mR zaa ev r) (Aqv (zxt 1 0 (A5 r) text)) (mR zaa ev r):=by
 refine yj0 g ev r 1 0 (by decide) (by decide) zcj (A5 r) text ht (fun w n hw hn=> ?_) (ypm ho h)
 exact yto g ev r ho w n
end
theorem yrv (k:Int):zyg [k]=rng k 0 99999:=by
 unfold zyg
 simp only [List.map_cons,List.map_nil,zar]
 split<;>simp_all
theorem ynx (x k d:Int):zar [x,zyg [k,d]]=zar [x,rng k 0 99999,rng d 0 99999]:=by
 unfold zyg
 simp only [List.map_cons,List.map_nil]
 generalize rng k 0 99999=y
 generalize rng d 0 99999=z
 by_cases h1:x=0<;>by_cases h2:y=0<;>by_cases h3:z=0<;>simp [zar,h1,h2,h3]
theorem yrw (k d:Int):zyg [k,d]=zar [rng k 0 99999,rng d 0 99999]:=rfl
def yf6 (l:List (List UInt8)):List UInt8:=if l=[] then [110,111,110,101] else zga 32 l
theorem z44 (l:List (List UInt8)):zvp (l,0)=(yf6 l,0):=by
 unfold zvp yf6
 rw [if_neg (fun h=>h rfl)]
 by_cases h:l=[]
 ·rw [if_pos h,if_pos h]
 ·rw [if_neg h,if_neg h]
theorem z43 {e:Int} (h:e≠0) (l:List (List UInt8)):zvp (l,e)=([],e):=by
 unfold zvp
 rw [if_pos h]
theorem zxk:∀l:List Slt,zga 32 (l.map z61)=zga 32 (l.flatMap fun t=>[t.sr,zjm t.mi])
 | []=>rfl
 | [t]=>by simp [zga,z61,zjm]
 | t::u::r=>by
  have ih:=zxk (u::r)
  simp only [List.map_cons,List.flatMap_cons,List.cons_append,List.nil_append] at ih ⊢
  simp only [zga,ih]
  simp [z61,zjm]
theorem yj7 (l:List Slt):yf6 (l.map z61)=yf6 (l.flatMap fun t=>[t.sr,zjm t.mi]):=by
 unfold yf6
 rw [zxk]
 cases l with
 | nil=>rfl
 | cons t r=>simp
def ypr (r:Rgs) (t:List UInt8):List UInt8×Int:=
 if hdW t=zkl then zxt 4 2 (A1 r) t
 else if hdW t=zwu then zxt 3 2 (A2 r) t
 else if hdW t=zfn then zxt 2 1 (A3 r) t
 else if hdW t=zl1 then zxt 2 0 (A4 r) t
 else if hdW t=zse then zxt 1 0 (A5 r) t
 else([],13)
abbrev szM:List (D×V):=[(.str zkl,I 4),(.str zwu,I 3),(.str zfn,I 2),(.str zl1,I 2),(.str zse,I 1)]
theorem yo2 {k:List UInt8} (h:k≠zkl/\k≠zwu/\k≠zfn/\k≠zl1/\k≠zse):zpf (.str k) szM=some none:=by
 have e:∀t,k≠t->(k==t)=false:=fun t h=>beq_eq_false_iff_ne.2 h
 obtain⟨h1,h2,h3,h4,h5⟩:=h
 simp only [zpf,eqD,e _ h1,e _ h2,e _ h3,e _ h4,e _ h5]
theorem ypz {b c:List UInt8} (hb:zgz b=true) (hc:zgz c=true):zin [b,c]=[zna b,zna c]:=by
 simp [zin,(ze4 b).2 hb,(ze4 c).2 hc]
theorem yr0 {b:List UInt8} (hb:zgz b=true):zin [b]=[zna b]:=by
 simp [zin,(ze4 b).2 hb]
theorem zt8 {W Iq:Nat} {A:List (List UInt8)->List Int->List (List UInt8)×Int} {t:List UInt8} (h:(parts 32 t).length≠W):zxt W Iq A t=([],25):=by
 unfold zxt
 rw [if_pos (.inl h)]
section
variable {E : Oracle} (g : Good E)
include g
theorem z7b (l:List (List UInt8)) (hl:l.length<=1000) (hw:∀x∈l,x.length<=100):Fc E zgt [Ws l] (S (yf6 l)):=by
 refine g.fn rfl rfl ?_
 unfold yf6
 by_cases h:l=[]
 ·subst h
  rw [if_pos rfl]
  repeat' ((conv=>whnf);first
  | refine Yz ?_
   | (refine Ret.mk rfl)
   | fail)
 ·have hj:=yi6 g l h (by omega) (by have:=z0z 32 100 l hw;have:=Nat.mul_le_mul_right (100+1) hl;omega)
  rw [if_neg h]
  have hp:=List.length_pos_iff.2 h
  repeat' ((conv=>whnf);first
  | refine Yz ?_
   | (refine Cmp.ff (by omega) ?_)
   | (apply zah.of;assumption)
   | (refine Ret.mk rfl)
   | fail)
theorem ybp (r:Rgs) (hcs:r.cs.length<=64):Fc E zh0 [Rgv r] (Ws ((ym4 r).map Cpl.nm)):=by
 refine g.fn rfl rfl ?_
 repeat' ((conv=>whnf);first
 | refine Yz ?_
  | fail)
 refine zak.to (zak.by (σ:=Nat×List (List UInt8)) g (fun u=>u.1<=r.cs.length/\u.2=((r.cs.take u.1).filter fun c=> !c.cl).map Cpl.nm)
  (fun u=>[(1,.ptr ⟨0,1,0⟩ 0 0),(3,.ref ⟨0,3,0⟩ 0 u.2.length u.2.length),(4,I u.1)])
  (fun u=>[bxR 1 r,(⟨0,2,0⟩,.row false zab 1 0 []),(⟨0,3,0⟩,.row false zab 1 u.2.length (u.2.map D.str))])
  (fun u=>r.cs.length-u.1) ?_ (0,[]) ⟨Nat.zero_le _,rfl⟩) rfl rfl
 rintro⟨k,out⟩ ⟨h1,h2⟩ ih
 dsimp only at h1 h2 ih ⊢
 have hol:out.length<=64:=by
  rw [h2,List.length_map]
  refine Nat.le_trans (List.length_filter_le _ _) ?_
  rw [List.length_take];omega
 by_cases hlt:k<r.cs.length
 ·cases hc:r.cs[k].cl with
  | false=>
   have ih:=ih (k+1,out++[r.cs[k].nm]) ⟨by dsimp only;omega,by dsimp only;rw [zd3 _ _ _ hlt,hc,List.map_append,<-h2];rfl⟩ (by dsimp only;omega)
   simp only [List.length_append,List.length_cons,List.length_nil,List.map_append,List.map_cons,List.map_nil] at ih
   repeat' ((conv=>whnf);first
   | refine Yz ?_
    | (refine zfa.rec zop k rfl hlt rfl ?_;try rw [hc])
    | (refine zfa.rec (j:=0) zop k rfl hlt rfl ?_)
    | (refine zbd.mk ⟨rfl,rfl,rfl,rfl,rfl,by simp,by dsimp only;omega,by dsimp only;omega⟩ ?_)
    | (refine zak.to ih rfl rfl)
    | fail)
  | true=>
   have ih:=ih (k+1,out) ⟨by dsimp only;omega,by dsimp only;rw [zd3 _ _ _ hlt,hc,h2];simp⟩ (by dsimp only;omega)
   repeat' ((conv=>whnf);first
   | refine Yz ?_
    | (refine zfa.rec zop k rfl hlt rfl ?_;try rw [hc])
    | (refine zak.to ih rfl rfl)
    | fail)
 ·rw [List.take_of_length_le (by omega)] at h2
  rw [ym4,<-h2]
  repeat' ((conv=>whnf);first
  | refine Yz ?_
   | (refine zbd.mk ⟨rfl,by omega⟩ ?_)
   | (refine Ret.mk ?_)
   | fail)
  all_goals simp
theorem yq3 (l:List Evt) (hl:l.length<=1000) (hb:∀e∈l,e.ns.length<=1000000/\e.vs.length<=1000000) (hz:erL l=0) (text:List UInt8) (ht:text.length<=100000) (rest:List (List UInt8)) (hp:parts 32 text=zkl::rest):
  Fc E zft [LE l,S text] (Aqv (zxt 4 2 (A1 (rgL l)) text)):=by
 have hsp:=zpx g text (by omega)
 have hrl:=zjy 32 text
 have hrp:=zn0 g l hl hb
 have ho:=z4l hl hz
 rw [hz] at hrp
 generalize (zeh rg0 0 l).2.1=at0 at hrp
 generalize rgL l=r at *
 rw [hp] at hsp hrl
 rw [List.length_cons] at hrl
 change Fc E n_strings_Split [S text,S [32]] (.d (.list (rest.length+1) (.str zkl::rest.map D.str))) at hsp
 by_cases h3:rest.length=3
 ·obtain⟨s,b,c,rfl⟩:∃s b c,rest=[s,b,c]:=by
   match rest,h3 with
   | [s,b,c],_=>exact⟨s,b,c,rfl⟩
  clear hrl h3
  change Fc E n_strings_Split [S text,S [32]] (.d (.list 4 [.str zkl,.str s,.str b,.str c])) at hsp
  unfold zxt
  rw [hp]
  have hib:=zlg g b
  have hic:=zlg g c
  by_cases hs:s=[]
  ·rw [if_pos (.inr (by simp [hs]))]
   refine g.fn rfl rfl ?_
   repeat' ((conv=>whnf);first
   | refine Yz ?_
    | (apply zah.of;assumption)
    | (refine zsf.mk ⟨_,rfl,?_⟩)
    | (refine zht.mk ⟨_,rfl,?_⟩)
    | (refine zak.step g.lim ?_)
    | (refine Cmp.tt hs ?_)
    | (refine Ret.mk rfl)
    | fail)
  by_cases hb0:b=[]
  ·rw [if_pos (.inr (by simp [hb0]))]
   refine g.fn rfl rfl ?_
   repeat' ((conv=>whnf);first
   | refine Yz ?_
    | (apply zah.of;assumption)
    | (refine zsf.mk ⟨_,rfl,?_⟩)
    | (refine zht.mk ⟨_,rfl,?_⟩)
    | (refine zak.step g.lim ?_)
    | (refine Cmp.ff hs ?_)
    | (refine Cmp.tt hb0 ?_)
    | (refine Ret.mk rfl)
    | fail)
  by_cases hb1:zgz b=true
  case neg=>
   have hb1:zgz b=false:=by simpa using hb1
   have hx:(if [zkl,s,b,c].length≠4\/[]∈[zkl,s,b,c] then(([],25):List UInt8×Int) else if zfl ([zkl,s,b,c].drop (4-2))=false then([],25) else zvp (A1 r [zkl,s,b,c] (zin ([zkl,s,b,c].drop (4-2)))))=([],25):=by
    rw [if_pos (c:=zfl _=false) (by simp [zfl,(ze4 b).1,hb1])]
    split<;>rfl
   rw [hx]
   unfold z4x at hib
   rw [hb1] at hib
   refine g.fn rfl rfl ?_
   repeat' ((conv=>whnf);first
   | refine Yz ?_
    | (apply zah.of;assumption)
    | (refine zsf.mk ⟨_,rfl,?_⟩)
    | (refine zht.mk ⟨_,rfl,?_⟩)
    | (refine zak.step g.lim ?_)
    | (refine Cmp.ff hs ?_)
    | (refine Cmp.ff hb0 ?_)
    | (refine Ret.mk rfl)
    | fail)
  unfold z4x at hib
  rw [hb1] at hib
  by_cases hc0:c=[]
  ·rw [if_pos (.inr (by simp [hc0]))]
   refine g.fn rfl rfl ?_
   repeat' ((conv=>whnf);first
   | refine Yz ?_
    | (apply zah.of;assumption)
    | (refine zsf.mk ⟨_,rfl,?_⟩)
    | (refine zht.mk ⟨_,rfl,?_⟩)
    | (refine zak.step g.lim ?_)
    | (refine Cmp.ff hs ?_)
    | (refine Cmp.ff hb0 ?_)
    | (refine Cmp.tt hc0 ?_)
    | (refine zbd.mk ⟨rfl,rfl,rfl,rfl,rfl,rfl,by decide,by decide⟩ ?_)
    | (refine Ret.mk rfl)
    | fail)
  by_cases hc1:zgz c=true
  case neg=>
   have hc1:zgz c=false:=by simpa using hc1
   have hx:(if [zkl,s,b,c].length≠4\/[]∈[zkl,s,b,c] then(([],25):List UInt8×Int) else if zfl ([zkl,s,b,c].drop (4-2))=false then([],25) else zvp (A1 r [zkl,s,b,c] (zin ([zkl,s,b,c].drop (4-2)))))=([],25):=by
    rw [if_pos (c:=zfl _=false) (by simp [zfl,(ze4 c).1,hc1])]
    split<;>rfl
   rw [hx]
   unfold z4x at hic
   rw [hc1] at hic
   refine g.fn rfl rfl ?_
   repeat' ((conv=>whnf);first
   | refine Yz ?_
    | (apply zah.of;assumption)
    | (refine zsf.mk ⟨_,rfl,?_⟩)
    | (refine zht.mk ⟨_,rfl,?_⟩)
    | (refine zak.step g.lim ?_)
    | (refine Cmp.ff hs ?_)
    | (refine Cmp.ff hb0 ?_)
    | (refine Cmp.ff hc0 ?_)
    | (refine zbd.mk ⟨rfl,rfl,rfl,rfl,rfl,rfl,by decide,by decide⟩ ?_)
    | (refine Ret.mk rfl)
    | fail)
  unfold z4x at hic
  rw [hc1] at hic
  have hx:(if [zkl,s,b,c].length≠4\/[]∈[zkl,s,b,c] then(([],25):List UInt8×Int) else if zfl ([zkl,s,b,c].drop (4-2))=false then([],25) else zvp (A1 r [zkl,s,b,c] (zin ([zkl,s,b,c].drop (4-2)))))=zvp (zss r s (zna b) (zna c)):=by
   have e1:[zkl,s,b,c].drop (4-2)=[b,c]:=rfl
   rw [e1,ypz hb1 hc1,if_neg,if_neg]
   ·rfl
   ·simp [zfl,(ze4 b).1,(ze4 c).1,hb1,hc1]
   ·intro h
    rcases h with h|h
    ·exact h rfl
    ·simp only [List.mem_cons,List.not_mem_nil,or_false] at h
     rcases h with h|h|h|h
     ·exact absurd h (by decide)
     ·exact hs h.symm
     ·exact hb0 h.symm
     ·exact hc0 h.symm
  rw [hx]
  generalize zna b=k at *
  generalize zna c=d at *
  have hn:=z6s g s
  have hw:=yj4 g (!zbi s) 8
  have hcd:=ztv g [k,d] (by simp)
  have hf:=yep g (if !zbi s then 8 else 0) (zyg [k,d])
  have hm:=yd0 g r ho s k d
  have hmi:=z6d ho s k d
  have hT:=zrq g (zu2 r s k d) (by omega)
  have hA:zvp (zss r s k d)=if zar [if !zbi s then 8 else 0,zyg [k,d]]=0 then(if zu2 r s k d<1440 then(zjm (zu2 r s k d),0) else([110,111,110,101],0)) else([],zar [if !zbi s then 8 else 0,zyg [k,d]]):=by
   rw [ynx]
   unfold zss
   generalize zar [if !zbi s then 8 else 0,rng k 0 99999,rng d 0 99999]=y
   by_cases hy:y=0
   ·rw [if_pos hy,if_neg (fun h=>h hy)]
    by_cases h0:zu2 r s k d=1440
    ·rw [if_neg (fun h=>h h0),if_neg (by omega)]
     rfl
    ·rw [if_pos h0,if_pos (by omega)]
     rfl
   ·rw [if_neg hy,if_pos hy,z43 hy]
  rw [hA]
  generalize (if !zbi s then(8:Int) else 0)=x at *
  generalize zu2 r s k d=mi at *
  generalize zjm mi=tx at *
  change Fc E zdb [.d (.list 2 [DI k,DI d])] (I (zyg [k,d])) at hcd
  generalize zyg [k,d]=y at *
  obtain⟨kn,es,rs,cs⟩:=r
  change Fc E zcr [LE l] (.tup [.d (.agg [DI kn,.list es.length (es.flatMap Ent.cells),.list rs.length (rs.flatMap Rmv.cells),.list cs.length (cs.flatMap Cpl.cells)]),I at0,I 0]) at hrp
  change Fc E ziq [.d (.agg [DI kn,.list es.length (es.flatMap Ent.cells),.list rs.length (rs.flatMap Rmv.cells),.list cs.length (cs.flatMap Cpl.cells)]),S s,I k,I d] (I mi) at hm
  generalize hz':zar [x,y]=z at *
  by_cases hzz:z=0
  ·rw [if_pos hzz]
   by_cases hlt:mi<1440
   ·rw [if_pos hlt]
    refine g.fn rfl rfl ?_
    repeat' ((conv=>whnf);first
    | refine Yz ?_
     | (apply zah.of;assumption)
     | (refine zsf.mk ⟨_,rfl,?_⟩)
     | (refine zht.mk ⟨_,rfl,?_⟩)
     | (refine zak.step g.lim ?_)
     | (refine Cmp.ff hs ?_)
     | (refine Cmp.ff hb0 ?_)
     | (refine Cmp.ff hc0 ?_)
     | (refine Cmp.ff (fun h=>h hzz) ?_)
     | (refine zbd.mk ⟨rfl,rfl,rfl,rfl,rfl,rfl,by decide,by decide⟩ ?_)
     | (refine zbd.mk ⟨rfl,by decide⟩ ?_)
     | (refine Ret.mk rfl)
     | fail)
   ·rw [if_neg hlt]
    refine g.fn rfl rfl ?_
    repeat' ((conv=>whnf);first
    | refine Yz ?_
     | (apply zah.of;assumption)
     | (refine zsf.mk ⟨_,rfl,?_⟩)
     | (refine zht.mk ⟨_,rfl,?_⟩)
     | (refine zak.step g.lim ?_)
     | (refine Cmp.ff hs ?_)
     | (refine Cmp.ff hb0 ?_)
     | (refine Cmp.ff hc0 ?_)
     | (refine Cmp.ff (fun h=>h hzz) ?_)
     | (refine zbd.mk ⟨rfl,rfl,rfl,rfl,rfl,rfl,by decide,by decide⟩ ?_)
     | (refine zbd.mk ⟨rfl,by decide⟩ ?_)
     | (refine Ret.mk rfl)
     | fail)
  ·rw [if_neg hzz]
   refine g.fn rfl rfl ?_
   repeat' ((conv=>whnf);first
   | refine Yz ?_
    | (apply zah.of;assumption)
    | (refine zsf.mk ⟨_,rfl,?_⟩)
    | (refine zht.mk ⟨_,rfl,?_⟩)
    | (refine zak.step g.lim ?_)
    | (refine Cmp.ff hs ?_)
    | (refine Cmp.ff hb0 ?_)
    | (refine Cmp.ff hc0 ?_)
    | (refine Cmp.tt hzz ?_)
    | (refine zbd.mk ⟨rfl,rfl,rfl,rfl,rfl,rfl,by decide,by decide⟩ ?_)
    | (refine zbd.mk ⟨rfl,by decide⟩ ?_)
    | (refine Ret.mk rfl)
    | fail)
 ·rw [zt8 (by rw [hp,List.length_cons];omega)]
  refine g.fn rfl rfl ?_
  repeat' ((conv=>whnf);first
  | refine Yz ?_
   | (apply zah.of;assumption)
   | (refine zsf.mk ⟨_,rfl,?_⟩)
   | (refine zht.mk ⟨_,rfl,?_⟩)
   | (refine Cmp.tt (by omega) ?_)
   | (refine Ret.mk rfl)
   | fail)
end
end Go.Proofs.YtnabmkmhbncidaaGreatDoor.Co
