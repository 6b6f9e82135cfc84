/-
  OfficeNotes returns true, for every argument: the law, and the last part of what it leans on.
-/
import Derived.Laws.RangeAny
import Derived.Lib.SplitLaws
import Derived.Test.YtmbofbehkalgkaaGreatDoorAwR
import Derived.Test.YtmbofbehkalgkaaGreatDoorEvN
import Derived.Test.YtmbofbehkalgkaaGreatDoorEvX
import Derived.Test.YtmbofbehkalgkaaGreatDoorEvY
import Derived.Test.YtmbofbehkalgkaaGreatDoorRead
import Derived.Test.YtmbofbehkalgkaaGreatDoorSpBase
import Derived.Test.YtmbofbehkalgkaaGreatDoorOnd
namespace Go.Proofs.YtmbofbehkalgkaaGreatDoor.Co
open Go Go.Evl
set_option maxHeartbeats 32000000
set_option maxRecDepth 100000
def ybr (l:List Nte) (ds:List (List UInt8)):List (List UInt8×List Int):=(ds.map fun d=>(d,zu6 (zdz l) d (zol l d-1).toNat)).filter fun p=> !p.2.isEmpty
theorem yef (l:List Nte) (ds:List (List UInt8)) (k:Nat) (hk:k<ds.length):
  ybr l (ds.take (k+1))=ybr l (ds.take k)++if(zu6 (zdz l) ds[k] (zol l ds[k]-1).toNat).isEmpty=true then [] else [(ds[k],zu6 (zdz l) ds[k] (zol l ds[k]-1).toNat)]:=by
 unfold ybr
 rw [List.take_add_one,List.getElem?_eq_getElem hk,List.map_append,List.filter_append]
 congr 1
 simp only [Option.toList_some,List.map_cons,List.map_nil,List.filter_cons,List.filter_nil]
 cases (zu6 (zdz l) ds[k] (zol l ds[k]-1).toNat).isEmpty<;>simp
theorem yhf {l:List Nte} (hz:zdc l=0):ybr l (zfg (dkK l))=yhe l:=by
 unfold ybr yhe zx5
 rw [<-yg0 hz]
 congr 1
 refine List.map_congr_left fun d hd=> ?_
 obtain⟨x,hx,rfl⟩:=(z6q l d).1 ((zc7 _).mem_iff.1 hd)
 rw [zu4 hz hx]
 rfl
section
variable {E : Oracle} (g : Good E)
include g
theorem z2b (l:List Nte) (hl:l.length<=1048576) (hz:zdc l≠0):Fc E zfn [LNt l] (.tup [LMs [],I (zdc l)]):=by
 have h1:=z2a g l hl
 refine g.fn rfl rfl ?_
 repeat' ((conv=>whnf);first
 | refine Yz ?_
  | (apply zaz.of;assumption)
  | (refine Cmp.tt hz ?_)
  | (refine Ret.mk rfl)
  | fail)
theorem z4x (l:List Nte) (hl:l.length<=256) (hz:zdc l=0) (R:V) (hR:(∀x∈l,zol l x.dk<=1000)->R= .tup [LMs (ybr l (zfg (dkK l))),I 0]) (hF:(∃x∈l,1000<zol l x.dk)->R= .tup [LMs [],I 22]):Fc E zfn [LNt l] R:=by
 have h1:=z2a g l (by omega)
 rw [hz] at h1
 refine g.fn rfl rfl ?_
 repeat' ((conv=>whnf);first
 | refine Yz ?_
  | (apply zaz.of;assumption)
  | fail)
 refine zao.to (zao.by (σ:=Nat×List (List UInt8)×Option Nat) g (fun u=>u.1<=l.length/\u.2.1=zfg (dkK (l.take u.1))/\(u.2.2=none->u.2.1=[])/\∀j,(h:j<l.length)->j<u.1->zol l l[j].dk<=1000)
  (fun u=>[(0,LNt l),(5,match u.2.2 with
   | none=> .ref ⟨0,5,0⟩ 0 0 0
   | some c=> .ref ⟨0,55,c⟩ 0 u.2.1.length u.2.1.length),(6,I u.1)])
  (fun u=>[(⟨0,2,0⟩,.row false zal 2 0 []),(⟨0,5,0⟩,.row false zac 1 0 [])]++match u.2.2 with
   | none=>[]
   | some c=>[(⟨0,55,c⟩,.row false zac 1 u.2.1.length (u.2.1.map D.str))])
  (fun u=>l.length-u.1) ?_ (0,[],none) ⟨Nat.zero_le _,rfl,fun _=>rfl,fun _ _ h=>absurd h (Nat.not_lt_zero _)⟩) rfl rfl
 rintro⟨k,out,co⟩ ⟨hk1,h2,h3,h4⟩ ih
 dsimp only at hk1 h2 h3 h4
 have hasc:ym8 out:=by rw [h2];exact yfv (z3s _)
 have hol:out.length<=256:=by
  rw [h2,(zc7 _).length_eq]
  refine Nat.le_trans (yjs _) ?_
  rw [List.length_take];omega
 by_cases hlt:k<l.length
 ·have hg:=zz5 g l (by omega) l[k].dk
  by_cases hfar:1000<zol l l[k].dk
  ·rw [hF ⟨l[k],List.getElem_mem hlt,hfar⟩]
   generalize zol l l[k].dk=G at *
   cases co with
   | none=>
    repeat' ((conv=>whnf);first
    | refine Yz ?_
     | (refine zgz.rec zjn k rfl hlt rfl ?_)
     | (apply zaz.of;assumption)
     | (refine zez.mk ⟨rfl,by omega⟩ ?_)
     | (refine Ret.mk rfl)
     | fail)
   | some c=>
    repeat' ((conv=>whnf);first
    | refine Yz ?_
     | (refine zgz.rec zjn k rfl hlt rfl ?_)
     | (apply zaz.of;assumption)
     | (refine Nt _ (Nat.beq_refl _) ?_)
     | ((refine Nt _ ?_ ?_);focus ((repeat' (first |exact zdp rfl|exact zdp (Nat.beq_refl _)|((refine zcg ?h ?_);(case h=>first |rfl|assumption))));done))
     | ((refine Nf _ ?_ ?_);focus ((repeat' (first |exact rfl|((refine zcg ?h ?_);(case h=>first |rfl|assumption))));done))
     | (refine zez.mk ⟨rfl,by omega⟩ ?_)
     | (refine Ret.mk rfl)
     | fail)
  ·have h4':∀j,(h:j<l.length)->j<k+1->zol l l[j].dk<=1000:=fun j h hj=>by
    by_cases e:j=k
    ·subst e;omega
    ·exact h4 j h (by omega)
   have hmem:∀s,s∈out↔s∈dkK (l.take k):=fun s=>by rw [h2];exact(zc7 _).mem_iff
   have hk2:=yg1 l k hlt
   have hpk:∀ {K:D->Prop},K (.str l[k].dk)->zgz (l.flatMap Nte.cells) (((k:Nat):Int).toNat*4+0) K:=fun h=>zgz.rec zjn k rfl hlt rfl h
   generalize zol l l[k].dk=G at *
   generalize l[k].dk=s at *
   have hw:=ye6 g out s (by omega)
   have hins:s∉out->∀a:Nat,a<=out.length->(∀j,(hj:j<out.length)->j<a->zag out[j] s=true)->(∀j,(hj:j<out.length)->a<=j->zag s out[j]=true)->zfg (dkK (l.take (k+1)))=out.take a++s::out.drop a:=fun hm a ha h3 h4=>by
    rw [hk2,z8o,if_neg (fun h=>hm ((hmem s).2 h)),yfu,<-h2]
    exact yd1 s out a ha h3 h4
   cases co with
   | none=>
    obtain rfl:=h3 rfl
    have hm:s∉([]:List (List UInt8)):=by simp
    rw [decide_eq_false hm] at hw
    have ih:=ih (k+1,[s],some 0) ⟨by dsimp only;omega,(hins hm 0 (Nat.le_refl _) (fun j hj=>absurd hj (Nat.not_lt_zero _)) (fun j hj=>absurd hj (Nat.not_lt_zero _))).symm,fun h=>(by cases h),h4'⟩ (by dsimp only;omega)
    dsimp only at ih ⊢
    repeat' ((conv=>whnf);first
    | refine Yz ?_
     | (refine hpk ?_)
     | (rw [if_pos ⟨rfl,rfl⟩])
     | (apply zaz.of;assumption)
     | (refine zao.to ih rfl rfl)
     | (refine zao.step g.lim ?_)
     | (refine zez.mk ⟨rfl,by omega⟩ ?_)
     | (refine zez.mk ⟨rfl,by omega,rfl⟩ ?_)
     | (refine zjw.at 0 0 rfl rfl ⟨by omega,by omega⟩ ?_)
     | (refine zez.mk ⟨rfl,rfl,rfl,rfl,rfl,rfl,by dsimp only;omega,by first |omega|(dsimp only;omega)|decide⟩ ?_)
     | (refine zez.mk ⟨rfl,rfl,rfl,rfl,rfl,rfl,by decide,by decide⟩ ?_)
     | fail)
   | some c=>
    clear h3
    dsimp only
    by_cases hm:s∈out
    ·rw [decide_eq_true hm] at hw
     have ih:=ih (k+1,out,some c) ⟨by dsimp only;omega,by dsimp only;rw [hk2,z8o,if_pos ((hmem s).1 hm),h2],fun h=>(by cases h),h4'⟩ (by dsimp only;omega)
     dsimp only at ih
     repeat' ((conv=>whnf);first
     | refine Yz ?_
      | (refine hpk ?_)
      | (refine Nt _ (Nat.beq_refl _) ?_)
      | ((refine Nt _ ?_ ?_);focus ((repeat' (first |exact zdp rfl|exact zdp (Nat.beq_refl _)|((refine zcg ?h ?_);(case h=>first |rfl|assumption))));done))
      | ((refine Nf _ ?_ ?_);focus ((repeat' (first |exact rfl|((refine zcg ?h ?_);(case h=>first |rfl|assumption))));done))
      | (rw [if_pos ⟨rfl,rfl⟩])
      | (apply zaz.of;assumption)
      | (refine zez.mk ⟨rfl,by omega⟩ ?_)
      | (refine zao.to ih rfl rfl)
      | fail)
    ·rw [decide_eq_false hm] at hw
     have hins:=hins hm
     have b1:Nat.beq c (c+1)=false:=z0s (by omega)
     have b2:Nat.beq (c+1) c=false:=z0s (by omega)
     have ih:=fun(a:Nat) (ha:a<=out.length) (h3:∀j,(hj:j<out.length)->j<a->zag out[j] s=true) (h5:∀j,(hj:j<out.length)->a<=j->zag s out[j]=true)=>ih (k+1,out.take a++s::out.drop a,some (c+1)) ⟨by dsimp only;omega,(hins a ha h3 h5).symm,fun h=>(by cases h),h4'⟩ (by dsimp only;omega)
     clear hins hmem hk2 h2 h4' h4 hR hF
     dsimp only at ih
     repeat' ((conv=>whnf);first
     | refine Yz ?_
      | (refine hpk ?_)
      | (refine Nt _ (Nat.beq_refl _) ?_)
      | ((refine Nt _ ?_ ?_);focus ((repeat' (first |exact zdp rfl|exact zdp (Nat.beq_refl _)|((refine zcg ?h ?_);(case h=>first |rfl|assumption))));done))
      | ((refine Nf _ ?_ ?_);focus ((repeat' (first |exact rfl|((refine zcg ?h ?_);(case h=>first |rfl|assumption))));done))
      | (rw [if_pos ⟨rfl,rfl⟩])
      | (apply zaz.of;assumption)
      | (refine zez.mk ⟨rfl,by omega⟩ ?_)
      | fail)
     refine zao.to (zao.by (σ:=Nat) g (fun a=>a<=out.length/\∀j,(hj:j<out.length)->j<a->zag out[j] s=true)
      (fun a=>[(0,LNt l),(5,.ref ⟨0,55,c⟩ 0 out.length out.length),(6,I k),(7,I a)])
      (fun _=>[(⟨0,2,0⟩,.row false zal 2 0 []),(⟨0,5,0⟩,.row false zac 1 0 []),(⟨0,55,c⟩,.row false zac 1 out.length (out.map D.str))]) (fun a=>out.length-a) ?_ 0 ⟨Nat.zero_le _,fun j hj h=>absurd h (Nat.not_lt_zero _)⟩) rfl rfl
     rintro a ⟨a1,a2⟩ iha
     have hpb:∀(h:a<out.length) {K:D->Prop},K (.str out[a])->zgz (out.map D.str) ((0+((a:Nat):Int).toNat)*1) K:=fun h _ hh=>by
      rw [Nat.zero_add]
      exact zgz.ws a rfl h hh
     by_cases hgo:∃h:a<out.length,zag out[a] s=true
     ·obtain⟨hao,hls⟩:=hgo
      have hpb:=fun {K}=>hpb hao (K:=K)
      have iha:=iha (a+1) ⟨by omega,fun j hj hja=>by
       by_cases e:j=a
       ·subst e;exact hls
       ·exact a2 j hj (by omega)⟩ (by omega)
      clear ih
      repeat' ((conv=>whnf);first
      | refine Yz ?_
       | (refine hpk ?_)
       | (refine hpb ?_)
       | (rw [hls])
       | (refine Nt _ (Nat.beq_refl _) ?_)
       | ((refine Nt _ ?_ ?_);focus ((repeat' (first |exact zdp rfl|exact zdp (Nat.beq_refl _)|((refine zcg ?h ?_);(case h=>first |rfl|assumption))));done))
       | ((refine Nf _ ?_ ?_);focus ((repeat' (first |exact rfl|((refine zcg ?h ?_);(case h=>first |rfl|assumption))));done))
       | (refine zao.to iha rfl rfl)
       | fail)
     ·have fin:=ih a a1 a2 fun j hj haj=>by
       have hao:a<out.length:=by omega
       have hna:zag out[a] s=false:=Bool.eq_false_iff.2 fun h=>hgo ⟨hao,h⟩
       have hsa:zag s out[a]=true:=zx1 _ _ hna fun e=>hm (by rw [e];exact List.getElem_mem hao)
       by_cases e:j=a
       ·subst e;exact hsa
       ·have h6:=List.pairwise_iff_getElem.1 hasc a j hao hj (by omega)
        exact strLess_trans hsa h6
      clear ih iha
      have hwa:win (out.map D.str) ((0+0)*1) ((a-0)*1)=(out.take a).map D.str:=by
       unfold win
       rw [Nat.mul_one,Nat.mul_one,Nat.zero_add,Nat.sub_zero,List.drop_zero,List.map_take]
      have hwb:win (out.map D.str) ((0+a)*1) ((out.length-a)*1)=(out.drop a).map D.str:=by
       unfold win
       rw [Nat.mul_one,Nat.mul_one,Nat.zero_add,List.map_drop,List.take_of_length_le (by rw [List.length_drop,List.length_map];exact Nat.le_refl _)]
      have hla:(out.take a).length=a:=by rw [List.length_take,Nat.min_eq_left a1]
      have hlb:(out.drop a).length=out.length-a:=List.length_drop
      have hml2:(out.take a++s::out.drop a).length=out.length+1:=by
       rw [List.length_append,List.length_cons,hla,hlb];omega
      have hL:out.length+1=0+(a-0)+1+(out.length-a):=by omega
      rw [hml2] at fin
      simp only [List.map_append,List.map_cons] at fin
      by_cases hao:a<out.length
      ·have hls:zag out[a] s=false:=Bool.eq_false_iff.2 fun h=>hgo ⟨hao,h⟩
       have hpb:=fun {K}=>hpb hao (K:=K)
       repeat' ((conv=>whnf);first
       | refine Yz ?_
        | (refine hpk ?_)
        | (refine hpb ?_)
        | (rw [hls])
        | (refine Nt _ (Nat.beq_refl _) ?_)
        | (refine Nf _ b1 ?_)
        | (refine Nf _ b2 ?_)
        | ((refine Nt _ ?_ ?_);focus ((repeat' (first |exact zdp rfl|exact zdp (Nat.beq_refl _)|((refine zcg ?h ?_);(case h=>first |rfl|assumption))));done))
        | ((refine Nf _ ?_ ?_);focus ((repeat' (first |exact rfl|((refine zcg ?h ?_);(case h=>first |rfl|assumption))));done))
        | (refine zez.mk ⟨rfl,by omega,rfl⟩ ?_)
        | (refine zjw.at 0 a rfl rfl ⟨Nat.zero_le _,a1⟩ ?_;rw [hwa])
        | (refine zjw.at a out.length rfl rfl ⟨a1,Nat.le_refl _⟩ ?_;rw [hwb])
        | (refine zez.mk ⟨rfl,rfl,rfl,rfl,rfl,by first |rfl|(rw [List.length_map];omega),by dsimp only;omega,by first |omega|(dsimp only;omega)⟩ ?_)
        | (refine Chk.mk (by simp [ydf,Evl.get,Evl.ids]) ?_)
        | (refine zao.to fin ?_ ?_)
        | fail)
       ·rw [hL]
        rfl
       ·rw [hL]
        simp
      ·repeat' ((conv=>whnf);first
      | refine Yz ?_
        | (refine hpk ?_)
        | (refine Nt _ (Nat.beq_refl _) ?_)
        | (refine Nf _ b1 ?_)
        | (refine Nf _ b2 ?_)
        | ((refine Nt _ ?_ ?_);focus ((repeat' (first |exact zdp rfl|exact zdp (Nat.beq_refl _)|((refine zcg ?h ?_);(case h=>first |rfl|assumption))));done))
        | ((refine Nf _ ?_ ?_);focus ((repeat' (first |exact rfl|((refine zcg ?h ?_);(case h=>first |rfl|assumption))));done))
        | (refine zez.mk ⟨rfl,by omega,rfl⟩ ?_)
        | (refine zjw.at 0 a rfl rfl ⟨Nat.zero_le _,a1⟩ ?_;rw [hwa])
        | (refine zjw.at a out.length rfl rfl ⟨a1,Nat.le_refl _⟩ ?_;rw [hwb])
        | (refine zez.mk ⟨rfl,rfl,rfl,rfl,rfl,by first |rfl|(rw [List.length_map];omega),by dsimp only;omega,by first |omega|(dsimp only;omega)⟩ ?_)
        | (refine Chk.mk (by simp [ydf,Evl.get,Evl.ids]) ?_)
        | (refine zao.to fin ?_ ?_)
        | fail)
       ·rw [hL]
        rfl
       ·rw [hL]
        simp
 ·obtain rfl:k=l.length:=by omega
  have hall:∀x∈l,zol l x.dk<=1000:=fun x hx=>by
   obtain⟨j,hj,rfl⟩:=List.getElem_of_mem hx
   exact h4 j hj hj
  rw [hR hall]
  rw [List.take_length] at h2
  rw [<-h2]
  have hdk:∀d∈out,zol l d<=1000:=fun d hd=>by
   rw [h2] at hd
   obtain⟨x,hx,rfl⟩:=(z6q l d).1 ((zc7 _).mem_iff.1 hd)
   exact hall x hx
  clear hall h4 hR hF ih h2
  cases co with
  | none=>
   rw [h3 rfl]
   repeat' ((conv=>whnf);first
   | refine Yz ?_
    | (refine zez.mk ⟨rfl,by omega⟩ ?_)
    | (refine zao.step g.lim ?_)
    | (refine Ret.mk rfl)
    | fail)
  | some c=>
   clear h3
   dsimp only
   repeat' ((conv=>whnf);first
   | refine Yz ?_
    | (refine Nt _ (Nat.beq_refl _) ?_)
    | ((refine Nt _ ?_ ?_);focus ((repeat' (first |exact zdp rfl|exact zdp (Nat.beq_refl _)|((refine zcg ?h ?_);(case h=>first |rfl|assumption))));done))
    | ((refine Nf _ ?_ ?_);focus ((repeat' (first |exact rfl|((refine zcg ?h ?_);(case h=>first |rfl|assumption))));done))
    | fail)
   refine zao.to (zao.up g (fun k=>[(0,LNt l),(5,.ref ⟨0,55,c⟩ 0 out.length out.length),(8,.ref ⟨0,8,0⟩ 0 (ybr l (out.take k)).length (ybr l (out.take k)).length),(9,I k)])
    (fun k=>[(⟨0,2,0⟩,.row false zal 2 0 []),(⟨0,5,0⟩,.row false zac 1 0 []),(⟨0,55,c⟩,.row false zac 1 out.length (out.map D.str)),(⟨0,8,0⟩,.row false zal 2 (ybr l (out.take k)).length ((ybr l (out.take k)).flatMap zwh))]) out.length (fun k hk ih=> ?_) 0 (Nat.zero_le _)) rfl rfl
   have hml:(ybr l (out.take k)).length<=256:=by
    unfold ybr
    refine Nat.le_trans (List.length_filter_le _ _) ?_
    rw [List.length_map,List.length_take];omega
   by_cases hko:k<out.length
   ·have ih:=ih hko
    have hlk:=ykp g l (by omega) hz out[k] (hdk _ (List.getElem_mem hko))
    have hpb:∀ {K:D->Prop},K (.str out[k])->zgz (out.map D.str) ((0+((k:Nat):Int).toNat)*1) K:=fun hh=>by
     rw [Nat.zero_add]
     exact zgz.ws k rfl hko hh
    rw [yef l out k hko] at ih
    generalize zu6 (zdz l) out[k] (zol l out[k]-1).toNat=xs at *
    generalize ybr l (out.take k)=ms at *
    cases xs with
    | nil=>
     simp only [List.isEmpty_nil,if_true,List.append_nil] at ih
     repeat' ((conv=>whnf);first
     | refine Yz ?_
      | (refine hpb ?_)
      | (apply zaz.of;assumption)
      | (refine Nt _ (Nat.beq_refl _) ?_)
      | ((refine Nt _ ?_ ?_);focus ((repeat' (first |exact zdp rfl|exact zdp (Nat.beq_refl _)|((refine zcg ?h ?_);(case h=>first |rfl|assumption))));done))
      | ((refine Nf _ ?_ ?_);focus ((repeat' (first |exact rfl|((refine zcg ?h ?_);(case h=>first |rfl|assumption))));done))
      | (refine zao.to ih rfl rfl)
      | fail)
    | cons x xr=>
     simp only [List.isEmpty_cons,Bool.false_eq_true,if_false] at ih
     rw [List.length_append,List.flatMap_append] at ih
     repeat' ((conv=>whnf);first
     | refine Yz ?_
      | (refine hpb ?_)
      | (apply zaz.of;assumption)
      | (refine Cmp.tt (by simp only [List.length_cons];omega) ?_)
      | (refine Nt _ (Nat.beq_refl _) ?_)
      | ((refine Nt _ ?_ ?_);focus ((repeat' (first |exact zdp rfl|exact zdp (Nat.beq_refl _)|((refine zcg ?h ?_);(case h=>first |rfl|assumption))));done))
      | ((refine Nf _ ?_ ?_);focus ((repeat' (first |exact rfl|((refine zcg ?h ?_);(case h=>first |rfl|assumption))));done))
      | (refine zez.mk ⟨rfl,rfl,rfl,rfl,rfl,rfl,by dsimp only;omega,by first |omega|(dsimp only;omega)⟩ ?_)
      | (refine zao.to ih rfl (by simp [ynn]))
      | fail)
   ·obtain rfl:k=out.length:=by omega
    clear ih
    rw [List.take_length] at *
    repeat' ((conv=>whnf);first
    | refine Yz ?_
     | (refine Nt _ (Nat.beq_refl _) ?_)
     | ((refine Nt _ ?_ ?_);focus ((repeat' (first |exact zdp rfl|exact zdp (Nat.beq_refl _)|((refine zcg ?h ?_);(case h=>first |rfl|assumption))));done))
     | ((refine Nf _ ?_ ?_);focus ((repeat' (first |exact rfl|((refine zcg ?h ?_);(case h=>first |rfl|assumption))));done))
     | (refine zez.mk ⟨rfl,by omega⟩ ?_)
     | (refine Ret.mk ?_)
     | fail)
    all_goals simp
end
def z2q (n:Nte):List Nte->List Nte
 | []=>[n]
 | y::r=>if zna y n=true then y::z2q n r else if y=n then y::r else n::y::r
def ylj (l:List Nte):List Nte:=l.foldl (fun out n=>z2q n out) []
theorem z1l (n:Nte):∀(l:List Nte) (y:Nte),y∈z2q n l↔y=n\/y∈l
 | [],y=>by simp [z2q]
 | x::r,y=>by
  unfold z2q
  split
  ·rw [List.mem_cons,z1l n r y,List.mem_cons]
   constructor
   ·rintro(h|h|h)
    ·exact .inr (.inl h)
    ·exact .inl h
    ·exact .inr (.inr h)
   ·rintro(h|h|h)
    ·exact .inr (.inl h)
    ·exact .inl h
    ·exact .inr (.inr h)
  ·split
   ·rename_i e
    subst e
    simp
   ·simp
theorem z9o (n:Nte):∀l:List Nte,(∀y∈l,y=n\/¬(y.dk=n.dk/\y.nu=n.nu))->(l.Pairwise fun a b=>zna a b=true)->(z2q n l).Pairwise fun a b=>zna a b=true
 | [],_,_=>List.pairwise_singleton ..
 | x::r,hk,h=>by
  have h0:=List.pairwise_cons.1 h
  unfold z2q
  split
  ·rename_i c
   refine List.pairwise_cons.2 ⟨fun z hz=> ?_,z9o n r (fun y hy=>hk y (by simp [hy])) h0.2⟩
   rcases (z1l n r z).1 hz with rfl|hz
   ·exact c
   ·exact h0.1 z hz
  ·rename_i c
   split
   ·exact h
   ·rename_i e
    have hx:¬(x.dk=n.dk/\x.nu=n.nu):=(hk x (by simp)).resolve_left e
    have hnx:=z1s x n hx (by simpa using c)
    refine List.pairwise_cons.2 ⟨fun z hz=> ?_,h⟩
    rcases List.mem_cons.1 hz with rfl|hz
    ·exact hnx
    ·exact z4g _ _ _ hnx (h0.1 z hz)
theorem ydy {L:List Nte} (hL:∀a∈L,∀b∈L,a.dk=b.dk->a.nu=b.nu->a=b):∀(r out p:List Nte),(∀y,y∈out↔y∈p)->(out.Pairwise fun a b=>zna a b=true)->(∀y∈p,y∈L)->(∀y∈r,y∈L)->
  (∀y,y∈r.foldl (fun out n=>z2q n out) out↔y∈p\/y∈r)/\(r.foldl (fun out n=>z2q n out) out).Pairwise fun a b=>zna a b=true
 | [],out,p,h1,h2,_,_=>by simpa [h1] using h2
 | n::r,out,p,h1,h2,h3,h4=>by
  have hn:=h4 n (by simp)
  have ho:(z2q n out).Pairwise fun a b=>zna a b=true:=z9o n out (fun y hy=>by
   by_cases hk:y.dk=n.dk/\y.nu=n.nu
   ·exact .inl (hL y (h3 y ((h1 y).1 hy)) n hn hk.1 hk.2)
   ·exact .inr hk) h2
  have:=ydy hL r (z2q n out) (p++[n]) (fun y=>by rw [z1l,h1,List.mem_append,List.mem_singleton,or_comm]) ho (fun y hy=>by
   rcases List.mem_append.1 hy with hy|hy
   ·exact h3 y hy
   ·rw [List.mem_singleton] at hy;rw [hy];exact hn) fun y hy=>h4 y (by simp [hy])
  refine⟨fun y=> ?_,this.2⟩
  rw [List.foldl_cons,this.1 y,List.mem_append,List.mem_singleton,List.mem_cons,or_assoc]
theorem z4p {s:List Nte} (h:s.Pairwise fun a b=>zna a b=true):s.Nodup:=h.imp fun {a b} hab e=>by
 rw [e,z1r] at hab
 cases hab
theorem yj2 {l:List Nte} (hz:zdc l=0):ylj l=yf3 (zdz l):=by
 obtain⟨_,_,hL⟩:=zlq.1 hz
 obtain⟨h1,h2⟩:=ydy hL l [] [] (fun _=>Iff.rfl) .nil (fun _ h=>by cases h) fun _ h=>h
 refine z2m z1r z4g ((List.perm_ext_iff_of_nodup (z4p h2) (z4p (zsd _ (zuz l)))).2 fun y=> ?_) h2 (zsd _ (zuz l))
 show y∈l.foldl (fun out n=>z2q n out) []↔_
 rw [h1 y,(zl5 (zdz l)).mem_iff,zfs hz]
 simp
def zr2 (n:Nte) (l:List Nte):Nat:=(l.takeWhile fun y=>zna y n).length
theorem ykn (n:Nte) (l:List Nte):zr2 n l<=l.length:=by
 unfold zr2
 have:=(List.takeWhile_prefix (l:=l) fun y=>zna y n).length_le
 exact this
theorem ye1 {n:Nte}:∀ {l:List Nte} {j:Nat} (h:j<l.length),j<zr2 n l->zna l[j] n=true
 | x::r,j,h,hj=>by
  unfold zr2 at hj
  rw [List.takeWhile_cons] at hj
  split at hj
  ·rename_i c
   cases j with
   | zero=>exact c
   | succ j=>
    have:j<zr2 n r:=by unfold zr2;simpa using hj
    exact ye1 (l:=r) (by simpa using h) this
  ·simp at hj
theorem ye0 {n:Nte}:∀ {l:List Nte} (h:zr2 n l<l.length),zna l[zr2 n l] n=false
 | x::r,h=>by
  cases c:zna x n with
  | true=>
   have e:zr2 n (x::r)=zr2 n r+1:=by unfold zr2;rw [List.takeWhile_cons,if_pos c];rfl
   have h':zr2 n r<r.length:=by rw [e] at h;simpa using h
   have:=ye0 (l:=r) h'
   simp only [e,List.getElem_cons_succ]
   exact this
  | false=>
   have e:zr2 n (x::r)=0:=by unfold zr2;rw [List.takeWhile_cons,if_neg (by simp [c])];rfl
   simp only [e,List.getElem_cons_zero]
   exact c
theorem z1m (n:Nte):∀l:List Nte,z2q n l=if l[zr2 n l]? =some n then l else l.take (zr2 n l)++n::l.drop (zr2 n l)
 | []=>by simp [z2q,zr2]
 | x::r=>by
  unfold z2q
  cases c:zna x n with
  | true=>
   have e:zr2 n (x::r)=zr2 n r+1:=by unfold zr2;rw [List.takeWhile_cons,if_pos c];rfl
   rw [if_pos rfl,e,z1m n r]
   simp only [List.getElem?_cons_succ,List.take_succ_cons,List.drop_succ_cons]
   split<;>rfl
  | false=>
   have e:zr2 n (x::r)=0:=by unfold zr2;rw [List.takeWhile_cons,if_neg (by simp [c])];rfl
   rw [if_neg (by decide),e]
   simp
section
variable {E : Oracle} (g : Good E)
include g
theorem yab (a b:Nte):Fc E zle [Ntv a,Ntv b] (B (zna a b)):=by
 have hi:=zxd a b
 refine g.fn rfl rfl ?_
 by_cases h1:a.da=b.da
 ·by_cases h2:a.dk=b.dk
  ·have e:zna a b=decide (a.nu<b.nu):=by
    rw [Bool.eq_iff_iff,hi,decide_eq_true_eq,h2,strLess_irr]
    simp [h1]
   rw [e]
   by_cases h3:a.nu<b.nu
   ·rw [decide_eq_true h3]
    repeat' ((conv=>whnf);first
    | refine Yz ?_
     | (refine Cmp.tt h1 ?_)
     | (refine Cmp.tt h2 ?_)
     | (refine Ret.mk rfl)
     | fail)
   ·rw [decide_eq_false h3]
    repeat' ((conv=>whnf);first
    | refine Yz ?_
     | (refine Cmp.tt h1 ?_)
     | (refine Cmp.tt h2 ?_)
     | (refine Ret.mk rfl)
     | fail)
  ·have e:zna a b=zag a.dk b.dk:=by
    rw [Bool.eq_iff_iff,hi]
    simp [h1,h2]
   rw [e]
   repeat' ((conv=>whnf);first
   | refine Yz ?_
    | (refine Cmp.tt h1 ?_)
    | (refine Cmp.ff h2 ?_)
    | (refine Ret.mk rfl)
    | fail)
 ·have e:zna a b=decide (a.da<b.da):=by
   rw [Bool.eq_iff_iff,hi,decide_eq_true_eq]
   simp [h1]
  rw [e]
  by_cases h3:a.da<b.da
  ·rw [decide_eq_true h3]
   repeat' ((conv=>whnf);first
   | refine Yz ?_
    | (refine Cmp.ff h1 ?_)
    | (refine Ret.mk rfl)
    | fail)
  ·rw [decide_eq_false h3]
   repeat' ((conv=>whnf);first
   | refine Yz ?_
    | (refine Cmp.ff h1 ?_)
    | (refine Ret.mk rfl)
    | fail)
omit g in
theorem ydx (l:List Nte) (k:Nat) (h:k<l.length):ylj (l.take (k+1))=z2q l[k] (ylj (l.take k)):=by
 unfold ylj
 rw [List.take_add_one,List.getElem?_eq_getElem h,List.foldl_append]
 rfl
omit g in
theorem z9n (n:Nte):∀l:List Nte,(z2q n l).length<=l.length+1
 | []=>Nat.le_refl _
 | x::r=>by
  have:=z9n n r
  unfold z2q
  repeat' split
  all_goals simp only [List.length_cons];omega
abbrev TN:Nat:=zam
theorem yhp (l:List Nte) (hl:l.length<=1000):Fc E zld [LNt l] (LNt (ylj l)):=by
 refine g.fn rfl rfl ?_
 repeat' ((conv=>whnf);first
 | refine Yz ?_
  | fail)
 refine zao.to (zao.by (σ:=Nat×List Nte×Option Nat) g (fun u=>u.1<=l.length/\u.2.1=ylj (l.take u.1)/\u.2.1.length<=u.1/\(u.2.2=none->u.2.1=[]))
  (fun u=>[(0,LNt l),(3,match u.2.2 with
   | none=> .ref ⟨0,3,0⟩ 0 0 0
   | some c=> .ref ⟨0,44,c⟩ 0 u.2.1.length u.2.1.length),(4,I u.1)])
  (fun u=>[(⟨0,2,0⟩,.row false TN 4 0 []),(⟨0,3,0⟩,.row false TN 4 0 [])]++match u.2.2 with
   | none=>[]
   | some c=>[(⟨0,44,c⟩,.row false TN 4 u.2.1.length (u.2.1.flatMap Nte.cells))])
  (fun u=>l.length-u.1) ?_ (0,[],none) ⟨Nat.zero_le _,rfl,Nat.le_refl _,fun _=>rfl⟩) rfl rfl
 rintro⟨k,out,co⟩ ⟨h1,ho,hlen,h3⟩ ih
 dsimp only at h1 ho hlen h3
 by_cases hlt:k<l.length
 ·have hg1:=ydx l k hlt
  rw [<-ho,z1m] at hg1
  have hil:=z9n l[k] out
  rw [z1m] at hil
  cases co with
  | none=>
   obtain rfl:=h3 rfl
   have ih:=ih (k+1,[l[k]],some 0) ⟨by dsimp only;omega,by dsimp only;rw [hg1];rfl,by dsimp only;simp,fun h=>by cases h⟩ (by dsimp only;omega)
   dsimp only at ih ⊢
   clear hg1 hil
   repeat' ((conv=>whnf);first
   | refine Yz ?_
    | (refine zf8.rec zjn k rfl hlt ?_)
    | (refine zao.to ih rfl rfl)
    | (refine zao.step g.lim ?_)
    | (refine zez.mk ⟨rfl,by omega⟩ ?_)
    | (refine zez.mk ⟨rfl,by omega,rfl⟩ ?_)
    | (refine zjw.at 0 0 rfl rfl ⟨by omega,by omega⟩ ?_)
    | (refine zez.mk ⟨rfl,rfl,rfl,rfl,rfl,rfl,by dsimp only;omega,by first |omega|(dsimp only;omega)|decide⟩ ?_)
    | (refine zez.mk ⟨rfl,rfl,rfl,rfl,rfl,rfl,by decide,by decide⟩ ?_)
    | fail)
  | some c=>
   clear h3
   dsimp only
   have b1:Nat.beq c (c+1)=false:=z0s (by omega)
   have b2:Nat.beq (c+1) c=false:=z0s (by omega)
   have ihA:=fun(h:out[zr2 l[k] out]? =some l[k])=>ih (k+1,out,some c) ⟨by dsimp only;omega,by dsimp only;rw [hg1,if_pos h],by dsimp only;omega,fun h=>by cases h⟩ (by dsimp only;omega)
   have ihB:=fun(h:¬out[zr2 l[k] out]? =some l[k])=>ih (k+1,out.take (zr2 l[k] out)++l[k]::out.drop (zr2 l[k] out),some (c+1)) ⟨by dsimp only;omega,by dsimp only;rw [hg1,if_neg h],by rw [if_neg h] at hil;dsimp only at hil ⊢;omega,fun h=>by cases h⟩ (by dsimp only;omega)
   clear ih hg1 hil
   dsimp only at ihA ihB
   have hp:=ykn l[k] out
   have hpl:=fun {j} (h:j<out.length) (hj:j<zr2 l[k] out)=>ye1 (n:=l[k]) (l:=out) h hj
   have hpa:=ye0 (n:=l[k]) (l:=out)
   generalize zr2 l[k] out=p at *
   repeat' ((conv=>whnf);first
   | refine Yz ?_
    | (refine zf8.rec zjn k rfl hlt ?_)
    | (refine Nt _ (Nat.beq_refl _) ?_)
    | (refine Nf _ b1 ?_)
    | (refine Nf _ b2 ?_)
    | ((refine Nt _ ?_ ?_);focus ((repeat' (first |exact zdp rfl|exact zdp (Nat.beq_refl _)|((refine zcg ?h ?_);(case h=>first |rfl|assumption))));done))
    | ((refine Nf _ ?_ ?_);focus ((repeat' (first |exact rfl|((refine zcg ?h ?_);(case h=>first |rfl|assumption))));done))
    | fail)
   refine zao.to (zao.upP g (fun a=>[(0,LNt l),(3,.ref ⟨0,44,c⟩ 0 out.length out.length),(4,I k),(5,I a)])
    (fun _=>[(⟨0,2,0⟩,.row false TN 4 0 []),(⟨0,3,0⟩,.row false TN 4 0 []),(⟨0,44,c⟩,.row false TN 4 out.length (out.flatMap Nte.cells))]) (fun _=>True) p (fun a a1 _ iha=> ?_) 0 (Nat.zero_le _) trivial) rfl rfl
   by_cases hap:a<p
   ·have iha:=iha hap trivial
    have hao:a<out.length:=by omega
    have hbf:=yab g out[a] l[k]
    rw [hpl hao hap] at hbf
    repeat' ((conv=>whnf);first
    | refine Yz ?_
     | (refine zf8.rec zjn k rfl hlt ?_)
     | (refine zf8.rec0 zjn a rfl hao ?_)
     | (refine zaz.of hbf ?_)
     | (refine Nt _ (Nat.beq_refl _) ?_)
     | (refine Nf _ b1 ?_)
     | (refine Nf _ b2 ?_)
     | ((refine Nt _ ?_ ?_);focus ((repeat' (first |exact zdp rfl|exact zdp (Nat.beq_refl _)|((refine zcg ?h ?_);(case h=>first |rfl|assumption))));done))
     | ((refine Nf _ ?_ ?_);focus ((repeat' (first |exact rfl|((refine zcg ?h ?_);(case h=>first |rfl|assumption))));done))
     | (refine zao.to iha rfl rfl)
     | fail)
   ·obtain rfl:a=p:=by omega
    clear iha
    have hla:(out.take a).length=a:=by rw [List.length_take,Nat.min_eq_left hp]
    have hlb:(out.drop a).length=out.length-a:=List.length_drop
    have hla7:((out.take a).flatMap Nte.cells).length=(a-0)*4:=by rw [zay Nte.cells 4 zjn,hla,Nat.sub_zero]
    have hlb7:((out.drop a).flatMap Nte.cells).length=(out.length-a)*4:=by rw [zay Nte.cells 4 zjn,hlb]
    have hwa:win (out.flatMap Nte.cells) ((0+0)*4) ((a-0)*4)=(out.take a).flatMap Nte.cells:=by
     have:=ygc Nte.cells 4 zjn out a hp
     rw [Nat.add_zero,Nat.zero_mul,Nat.sub_zero];exact this
    have hwb:win (out.flatMap Nte.cells) ((0+a)*4) ((out.length-a)*4)=(out.drop a).flatMap Nte.cells:=by
     unfold win
     rw [Nat.zero_add,zoj Nte.cells 4 zjn]
     refine List.take_of_length_le ?_
     rw [zay Nte.cells 4 zjn,hlb]
     exact Nat.le_refl _
    have hml2:(out.take a++l[k]::out.drop a).length=out.length+1:=by
     rw [List.length_append,List.length_cons,hla,hlb];omega
    have hL:out.length+1=0+(a-0)+1+(out.length-a):=by omega
    rw [hml2] at ihB
    simp only [List.flatMap_append,List.flatMap_cons] at ihB
    by_cases hao:a<out.length
    ·have hbf:=yab g out[a] l[k]
     rw [hpa hao] at hbf
     by_cases he:out[a]=l[k]
     ·have ihA:=ihA (by rw [List.getElem?_eq_getElem hao,he])
      have he4:out[a].dk=l[k].dk/\out[a].nu=l[k].nu/\out[a].da=l[k].da/\out[a].tx=l[k].tx:=by rw [he];exact⟨rfl,rfl,rfl,rfl⟩
      repeat' ((conv=>whnf);first
      | refine Yz ?_
       | (refine zf8.rec zjn k rfl hlt ?_)
       | (refine zf8.rec0 zjn a rfl hao ?_)
       | (refine zaz.of hbf ?_)
       | (refine Cmp.tt he4 ?_)
       | (refine Nt _ (Nat.beq_refl _) ?_)
       | (refine Nf _ b1 ?_)
       | (refine Nf _ b2 ?_)
       | ((refine Nt _ ?_ ?_);focus ((repeat' (first |exact zdp rfl|exact zdp (Nat.beq_refl _)|((refine zcg ?h ?_);(case h=>first |rfl|assumption))));done))
       | ((refine Nf _ ?_ ?_);focus ((repeat' (first |exact rfl|((refine zcg ?h ?_);(case h=>first |rfl|assumption))));done))
       | (refine zao.to ihA rfl rfl)
       | fail)
     ·have ihB:=ihB (by rw [List.getElem?_eq_getElem hao];simpa using he)
      have he4:¬(out[a].dk=l[k].dk/\out[a].nu=l[k].nu/\out[a].da=l[k].da/\out[a].tx=l[k].tx):=fun h=>he (Nte.ext4 h)
      repeat' ((conv=>whnf);first
      | refine Yz ?_
       | (refine zf8.rec zjn k rfl hlt ?_)
       | (refine zf8.rec0 zjn a rfl hao ?_)
       | (refine zaz.of hbf ?_)
       | (refine Cmp.ff he4 ?_)
       | (refine Nt _ (Nat.beq_refl _) ?_)
       | (refine Nf _ b1 ?_)
       | (refine Nf _ b2 ?_)
       | ((refine Nt _ ?_ ?_);focus ((repeat' (first |exact zdp rfl|exact zdp (Nat.beq_refl _)|((refine zcg ?h ?_);(case h=>first |rfl|assumption))));done))
       | ((refine Nf _ ?_ ?_);focus ((repeat' (first |exact rfl|((refine zcg ?h ?_);(case h=>first |rfl|assumption))));done))
       | (refine zez.mk ⟨rfl,by omega,rfl⟩ ?_)
       | (refine zjw.at 0 a rfl rfl ⟨Nat.zero_le _,hp⟩ ?_;rw [hwa])
       | (refine zjw.at a out.length rfl rfl ⟨hp,Nat.le_refl _⟩ ?_;rw [hwb])
       | (refine zez.mk ⟨rfl,rfl,rfl,rfl,rfl,by first |rfl|exact hla7|exact hlb7|omega,by dsimp only;omega,by first |omega|(dsimp only;omega)⟩ ?_)
       | (refine Chk.mk (by simp [ydf,Evl.get,Evl.ids]) ?_)
       | (refine zao.to ihB ?_ ?_)
       | fail)
      ·rw [hL]
       rfl
      ·rw [hL]
       simp
    ·have ihB:=ihB (by rw [List.getElem?_eq_none (by omega)];simp)
     repeat' ((conv=>whnf);first
     | refine Yz ?_
      | (refine zf8.rec zjn k rfl hlt ?_)
      | (refine Nt _ (Nat.beq_refl _) ?_)
      | (refine Nf _ b1 ?_)
      | (refine Nf _ b2 ?_)
      | ((refine Nt _ ?_ ?_);focus ((repeat' (first |exact zdp rfl|exact zdp (Nat.beq_refl _)|((refine zcg ?h ?_);(case h=>first |rfl|assumption))));done))
      | ((refine Nf _ ?_ ?_);focus ((repeat' (first |exact rfl|((refine zcg ?h ?_);(case h=>first |rfl|assumption))));done))
      | (refine zez.mk ⟨rfl,by omega,rfl⟩ ?_)
      | (refine zjw.at 0 a rfl rfl ⟨Nat.zero_le _,hp⟩ ?_;rw [hwa])
      | (refine zjw.at a out.length rfl rfl ⟨hp,Nat.le_refl _⟩ ?_;rw [hwb])
      | (refine zez.mk ⟨rfl,rfl,rfl,rfl,rfl,by first |rfl|exact hla7|exact hlb7|omega,by dsimp only;omega,by first |omega|(dsimp only;omega)⟩ ?_)
      | (refine Chk.mk (by simp [ydf,Evl.get,Evl.ids]) ?_)
      | (refine zao.to ihB ?_ ?_)
      | fail)
     ·rw [hL]
      rfl
     ·rw [hL]
      simp
 ·obtain rfl:k=l.length:=by omega
  rw [List.take_length] at ho
  subst ho
  cases co with
  | none=>
   have hR:=h3 rfl
   rw [hR]
   repeat' ((conv=>whnf);first
   | refine Yz ?_
    | (refine zez.mk ⟨rfl,by omega⟩ ?_)
    | (refine Ret.mk ?_)
    | fail)
   all_goals simp
  | some c=>
   repeat' ((conv=>whnf);first
   | refine Yz ?_
    | (refine Nt _ (Nat.beq_refl _) ?_)
    | (refine zez.mk ⟨rfl,by omega⟩ ?_)
    | (refine Ret.mk ?_)
    | fail)
   all_goals simp
end
section
variable {E : Oracle} (g : Good E)
include g
theorem yko (l:List Int) (hl:l.length<=1000000):Fc E zc9 [LI l,LI l] (B true):=by
 refine g.fn rfl rfl ?_
 repeat' ((conv=>whnf);first
 | refine Yz ?_)
 refine zao.to (zao.up g (fun k=>[(0,LI l),(1,LI l),(5,I k)]) (fun _=>[]) l.length (fun k hk ih=> ?_) 0 (Nat.zero_le _)) rfl rfl
 by_cases hlt:k<l.length
 ·have ih:=ih hlt
  repeat' ((conv=>whnf);first
  | refine Yz ?_
   | (refine zgz.iw k rfl hlt ?_)
   | (refine zao.to ih rfl rfl))
 ·repeat' ((conv=>whnf);first
 | refine Yz ?_
   | (refine Ret.mk rfl))
end
section
variable {E : Oracle} (g : Good E)
include g
theorem zej.collect_bad (l:List Nte) (hl:l.length<=1048576) (hz:zdc l≠0) {cx:Cx} {slot:Nat} {mm:Mem} {K:V->Mem->Prop} (h:K (.tup [.d .nilm,I (zdc l)]) mm):zej E zb8 [LNt l] cx slot mm K:=by
 obtain⟨v,m',h1,_,h2⟩:=(zxv g l hl).got
 obtain rfl:=h2 hz
 exact⟨_,_,_,h1,zxx rfl rfl,h⟩
theorem z42 (l:List Nte) (hl:l.length<=1048576):Fc E zgn [LNt l] (I (zdc l)):=by
 refine g.fn rfl rfl ?_
 by_cases hz:zdc l=0
 ·rw [hz]
  repeat' ((conv=>whnf);first
  | refine Yz ?_
   | (refine zej.collect g l hl hz rfl ?_)
   | (refine Ret.mk rfl)
   | fail)
 ·repeat' ((conv=>whnf);first
 | refine Yz ?_
   | (refine zej.collect_bad g l hl hz ?_)
   | (refine Ret.mk rfl)
   | fail)
theorem z2e (l:List Nte) (hl:l.length<=1048576) (hz:zdc l≠0):Fc E zbu [LNt l] (.tup [LMs [],I (zdc l)]):=by
 refine g.fn rfl rfl ?_
 repeat' ((conv=>whnf);first
 | refine Yz ?_
  | (refine zej.collect_bad g l hl hz ?_)
  | (refine Cmp.tt hz ?_)
  | (refine Ret.mk rfl)
  | fail)
theorem z5x (ms:List (List UInt8×List Int)) (hl:ms.length<=1000):Fc E zj8 [LMs ms] (LMs ms):=by
 refine g.fn rfl rfl ?_
 repeat' ((conv=>whnf);first
 | refine Yz ?_)
 refine zao.to (zao.up g (fun k=>[(3,.ref ⟨0,3,0⟩ 0 k k),(6,LMs ms),(7,I ms.length),(8,I k)])
  (fun k=>[(⟨0,2,0⟩,.row false zal 2 0 []),(⟨0,3,0⟩,.row false zal 2 k ((ms.take k).flatMap zwh))]) ms.length (fun k hk ih=> ?_) 0 (Nat.zero_le _)) rfl rfl
 by_cases hlt:k<ms.length
 ·have ih:=ih hlt
  have e:(ms.take (k+1)).flatMap zwh=(ms.take k).flatMap zwh++zwh ms[k]:=by
   rw [List.take_add_one,List.getElem?_eq_getElem hlt,List.flatMap_append]
   simp
  rw [e] at ih
  repeat' ((conv=>whnf);first
  | refine Yz ?_
   | (refine zf8.rec (cell:=zwh) (fun _=>rfl) k rfl hlt ?_)
   | (refine zao.to ih rfl rfl)
   | fail)
 ·obtain rfl:k=ms.length:=by omega
  clear ih
  rw [List.take_length]
  repeat' ((conv=>whnf);first
  | refine Yz ?_
   | (refine Ret.mk ?_)
   | fail)
  all_goals simp
theorem ye7 (ms:List (List UInt8×List Int)) (hl:ms.length<=1000) (hx:∀p∈ms,p.2.length<=1000):Fc E zgo [LMs ms,LMs ms] (B true):=by
 refine g.fn rfl rfl ?_
 repeat' ((conv=>whnf);first
 | refine Yz ?_
  | (refine Cmp.tt rfl ?_)
  | fail)
 refine zao.to (zao.up g (fun k=>[(0,LMs ms),(1,LMs ms),(5,I k)]) (fun _=>[]) ms.length (fun k hk ih=> ?_) 0 (Nat.zero_le _)) rfl rfl
 by_cases hlt:k<ms.length
 ·have ih:=ih hlt
  have h1:=yko g ms[k].2 (by have:=hx _ (List.getElem_mem hlt);omega)
  repeat' ((conv=>whnf);first
  | refine Yz ?_
   | (refine zgz.rec (cell:=zwh) (fun _=>rfl) k rfl hlt rfl ?_)
   | (refine Cmp.tt rfl ?_)
   | (apply zaz.of;assumption)
   | (refine zao.to ih rfl rfl)
   | fail)
 ·repeat' ((conv=>whnf);first
 | refine Yz ?_
   | (refine Ret.mk rfl)
   | fail)
end
def i64 (n:Int):Prop:= -9223372036854775808<=n/\n<=9223372036854775807
theorem ymt {n:Int} (h:(Lit.int .i64 n).wf=true):i64 n:=by
 simp only [Lit.wf,Bool.and_eq_true,decide_eq_true_eq] at h
 exact h
section
variable {P : Program} {n : Nat} {t : Nat} {ds : List D} {x : D}
theorem ynj {k:IntKind} (ht:P.underlying t=some (.int k)) (h:fit P (n+1) t ds):∃i,ds=[.int k i]/\(Lit.int k i).wf=true:=by
 simp only [fit,ht] at h;exact h
theorem ylx (ht:P.underlying t=some .string) (h:fit P (n+1) t ds):∃s,ds=[.str s]/\s.length<=maxLen:=by
 simp only [fit,ht] at h;exact h
theorem ynk {e:Nat} (ht:P.underlying t=some (.slice e)) (h:fit P (n+1) t ds):∃m cs,ds=[.list m cs]/\m<=maxLen/\zns (fit P n) (List.replicate m e) cs:=by
 simp only [fit,ht] at h;exact h
theorem yly {fs:Array Field} (ht:P.underlying t=some (.struct fs)) (h:fit P (n+1) t ds):zns (fit P n) (fs.toList.map (·.type)) ds:=by
 simp only [fit,ht] at h;exact h
theorem ynb {e:Nat} (ht:P.underlying t=some (.slice e)) (h:zww P t x):∃m cs,x= .list m cs/\m<=maxLen/\zns (fit P 7) (List.replicate m e) cs:=by
 simp only [zww,ht] at h
 obtain⟨m,cs,e,h1,h2⟩:=ynk (n:=7) ht h
 exact⟨m,cs,by simpa using e,h1,h2⟩
end
theorem ydo {k:Nat} {ds:List D} (h:fit Tryz.prog (k+1) 3 ds):∃n,ds=[DI n]/\i64 n:=by
 obtain⟨n,rfl,hw⟩:=ynj Tryz.underlying3 h
 exact⟨n,rfl,ymt hw⟩
theorem ync {P:Program} {t:Nat} {xs:List D} (h:z1c P [t] xs):∃x,xs=[x]/\zww P t x:=by
 obtain⟨x,_,rfl,h1,rfl⟩:=h
 exact⟨x,rfl,h1⟩
theorem yg4 {k:Nat} {ds:List D} (h:fit Tryz.prog (k+3) 29 ds):∃n:Nte,ds=n.cells:=by
 obtain⟨_,_,rfl,h1,_,_,rfl,h2,_,_,rfl,h3,_,_,rfl,h4,rfl⟩:=yly Tryz.underlying29 h
 obtain⟨s1,rfl,_⟩:=ylx Tryz.underlying9 h1
 obtain⟨n,rfl,_⟩:=ydo h2
 obtain⟨d,rfl,_⟩:=ydo h3
 obtain⟨s2,rfl,_⟩:=ylx Tryz.underlying9 h4
 exact⟨⟨s1,n,d,s2⟩,rfl⟩
theorem z32 {k:Nat}:∀(m:Nat) {ds:List D},zns (fit Tryz.prog (k+3)) (List.replicate m 29) ds->∃l:List Nte,ds=l.flatMap Nte.cells/\l.length=m
 | 0,ds,h=>⟨[],h,rfl⟩
 | m+1,ds,h=>by
  obtain⟨a,b,rfl,h1,h2⟩:=h
  obtain⟨x,rfl⟩:=yg4 h1
  obtain⟨l,rfl,h3⟩:=z32 m h2
  exact⟨x::l,rfl,by simp [h3]⟩
theorem yc0 {x:D} (h:zww Tryz.prog 22 x):∃l:List Nte,x= .list l.length (l.flatMap Nte.cells):=by
 obtain⟨m,cs,rfl,_,h'⟩:=ynb Tryz.underlying22 h
 obtain⟨l,rfl,rfl⟩:=z32 m h'
 exact⟨l,rfl⟩
section
variable {E : Oracle} (g : Good E)
include g
theorem yky:Fc E zhc [] (B true):=by
 refine g.fn rfl rfl ?_
 repeat' ((conv=>whnf);first
 | refine Yz ?_
  | (apply zaz.of;first |exact ao1 g|exact ao2 g|exact ao3 g|exact ao4 g|exact ao5 g|exact ao6 g|exact ao7 g|exact ao8 g|exact ao9 g|exact yod g|exact yoe g|exact yof g|exact yog g|exact yoh g|exact yoi g|exact yoj g|exact yok g|exact yol g|exact yom g|exact yon g|exact yoo g|exact yop g|exact yoq g|exact yor g|exact yos g|exact yot g|exact yov g)
  | (refine is0 g ?_)
  | (first |refine is1 g ?_|refine is2 g ?_|refine is3 g ?_|refine is4 g ?_|refine is5 g ?_|refine is6 g ?_|refine is7 g ?_|refine is8 g ?_|refine is9 g ?_|refine yow g ?_|refine yox g ?_)
  | (refine zez.mk (by simp only [z90,List.length_cons,List.length_nil];omega) ?_)
  | (refine zao.step g.lim ?_)
  | (exact Ret.mk rfl))
end
section
variable {E : Oracle} (g : Good E)
include g
omit g in
theorem yee (l:List Nte):(yhe l).length<=(zdz l).length:=by
 have h1:=z6z (zdz l) []
 have h2:=(zc7 ((grN (zdz l)).map (·.1))).length_eq
 unfold yhe zx5
 refine Nat.le_trans (List.length_filter_le _ _) ?_
 rw [List.length_map,h2,List.length_map]
 unfold grN
 simpa using h1
omit g in
theorem ybq {l:List Nte} (hz:zdc l=0) (hf:∀p∈grN (zdz l),p.2<=1000):∀p∈yhe l,p.2.length<=1000:=by
 have hI:=z35 hz
 have hp:=zc7 ((grN (zdz l)).map (·.1))
 intro p h
 unfold yhe zx5 at h
 obtain⟨e,he,rfl⟩:=List.mem_map.1 (List.mem_filter.1 h).1
 obtain⟨q,hq,rfl⟩:=List.mem_map.1 (hp.mem_iff.1 he)
 obtain⟨a,b⟩:=q
 have hg:=(zks hI.one).2 hq
 have:=hf _ hq
 dsimp only at this ⊢
 rw [hg]
 refine Nat.le_trans (zu7 _ _ _) ?_
 simp only [Option.getD_some]
 omega
omit g in
theorem ydl {l:List Nte} (hz:zdc l=0):(∃p∈grN (zdz l),1000<p.2)↔∃x∈l,1000<zol l x.dk:=by
 have hI:=z35 hz
 constructor
 ·rintro⟨⟨d,G⟩,hp,h⟩
  have hg:=(zks hI.one).2 hp
  obtain⟨⟨n,hn,h1,_⟩,_⟩:=(hI.val _ _).1 hg
  have hn:n∈l:=(zfs hz).1 (by simpa using hn)
  have h2:=zu4 hz hn
  rw [h1,hg] at h2
  exact⟨n,hn,by rw [h1,<-Option.some.inj h2];exact h⟩
 ·rintro⟨x,hx,h⟩
  exact⟨_,(zks hI.one).1 (zu4 hz hx),h⟩
theorem yd5 (l:List Nte) (hl:l.length<=256) (hz:zdc l=0):∃(ms:List (List UInt8×List Int)) (e:Int),ms.length<=256/\(∀p∈ms,p.2.length<=1000)/\Fc E zbu [LNt l] (.tup [LMs ms,I e])/\Fc E zfn [LNt l] (.tup [LMs ms,I e]):=by
 by_cases hfar:∃p∈grN (zdz l),1000<p.2
 ·refine⟨[],22,by simp,by simp,zyu g l (by omega) hz hfar,z4x g l hl hz _ (fun h=> ?_) (fun _=>rfl)⟩
  obtain⟨x,hx,h2⟩:=(ydl hz).1 hfar
  have:=h x hx
  omega
 ·have hf:∀p∈grN (zdz l),p.2<=1000:=fun p hp=>Int.not_lt.1 fun h=>hfar ⟨p,hp,h⟩
  refine⟨yhe l,0,by have:=yee l;have:=zuy l;omega,ybq hz hf,?_,z4x g l hl hz _ (fun _=>by rw [yhf hz]) (fun h=>absurd ((ydl hz).2 h) hfar)⟩
  cases l with
  | nil=>exact yb0 g
  | cons x r=>exact yb1 g (x::r) (by omega) hz hf (n:=x) (by simp)
theorem yla (l:List Nte) (hlb:l.length<=1048576) (aw:Fc E zhc [] (B true)):Fc E zgm [LNt l] (B true):=by
 have h1:=z8k g l hlb
 have h2:=yhr g l 16
 have h3:=z2a g l hlb
 have h4:=z42 g l hlb
 cases hs:yk4 l 16 with
 | false=>
  rw [hs] at h2
  refine g.fn rfl rfl ?_
  repeat' ((conv=>whnf);first
  | refine Yz ?_
   | (apply zaz.of;assumption)
   | (refine Ret.mk rfl)
   | fail)
 | true=>
  rw [hs] at h2
  by_cases hz:zdc l=0
  ·have hl:l.length<=256:=(zlq.1 hz).1
   have g1:=yhy g l hlb hz (zuz l) (by have:=zuy l;omega) (yf3 (zdz l)) (zl5 _) (zsd _ (zuz l))
   have g2:=yhp g l (by omega)
   rw [yj2 hz] at g2
   obtain⟨ms,e,m1,m2,k1,k2⟩:=yd5 g l hl hz
   have k3:=z5x g ms (by omega)
   have k4:=ye7 g ms (by omega) m2
   have hsl:(yf3 (zdz l)).length<=256:=by
    rw [(zl5 _).length_eq]
    have:=zuy l
    omega
   rw [hz] at h3 h4
   generalize yf3 (zdz l)=s at *
   have g4:=ye8 g s (by omega)
   cases s with
   | nil=>
    have g3:Fc E zhd [.d .nil] (LNt []):=g.compR 1000 (by decide+kernel)
    have g1:Fc E zc3 [LNt l] (.tup [.d .nil,I 0]):=g1
    refine g.fn rfl rfl ?_
    repeat' ((conv=>whnf);first
    | refine Yz ?_
     | (apply zaz.of;assumption)
     | (refine Cmp.tt rfl ?_)
     | (refine Ret.mk rfl)
     | fail)
   | cons x r=>
    have g3:=z8k g (x::r) (by omega)
    have g1:Fc E zc3 [LNt l] (.tup [LNt (x::r),I 0]):=g1
    refine g.fn rfl rfl ?_
    repeat' ((conv=>whnf);first
    | refine Yz ?_
     | (apply zaz.of;assumption)
     | (refine Cmp.tt rfl ?_)
     | (refine Ret.mk rfl)
     | fail)
  ·have g1:=z43 g l hlb hz
   have k1:=z2e g l hlb hz
   have k2:=z2b g l hlb hz
   have g3:=z8k g [] (by simp)
   have g4:=ye8 g [] (by simp)
   have k3:=z5x g [] (by simp)
   have k4:=ye7 g [] (by simp) (by simp)
   generalize zdc l=e at *
   refine g.fn rfl rfl ?_
   repeat' ((conv=>whnf);first
   | refine Yz ?_
    | (apply zaz.of;assumption)
    | (refine Cmp.tt rfl ?_)
    | (refine Cmp.ff hz ?_)
    | (refine zaz.of g3 ?_)
    | (refine zaz.of g4 ?_)
    | (refine zaz.of k3 ?_)
    | (refine zaz.of k4 ?_)
    | (refine Ret.mk rfl)
    | fail)
end
theorem yh0 {E:Oracle} (g:Good E) {xs:List D} (h:z1c Tryz.prog [22] xs) (hb:zhx 1048576 xs):Fc E zgm (asV xs) (B true):=by
 obtain⟨x,rfl,h1⟩:=ync h
 obtain⟨l,rfl⟩:=yc0 h1
 exact yla g l hb.1.1 (yky g)
end Go.Proofs.YtmbofbehkalgkaaGreatDoor.Co
