/-
  TopTowerKnown returns true, for every argument: the law, and the last part of what it leans on.
-/
import Derived.Laws.RangeAny
import Derived.Lib.SplitLaws
import Derived.Test.YtnabmkmhbncidabGreatDoorEvX
import Derived.Test.YtnabmkmhbncidabGreatDoorEvY
import Derived.Test.YtnabmkmhbncidabGreatDoorRead
import Derived.Test.YtnabmkmhbncidabGreatDoorSpBase
import Derived.Test.YtnabmkmhbncidabGreatDoorKna
namespace Go.Proofs.YtnabmkmhbncidabGreatDoor.Co
open Go Go.Evl
set_option maxHeartbeats 32000000
set_option maxRecDepth 100000
theorem Nf {A B:Prop}:(b:Bool)->b=false->B->(match b with|true=>A|false=>B)
 | false,_,k=>k
 | true,h,_=>Bool.noConfusion h
theorem Nt {A B:Prop}:(b:Bool)->b=true->A->(match b with|true=>A|false=>B)
 | true,_,k=>k
 | false,h,_=>Bool.noConfusion h
theorem zt8 {u t:Evl.Id} {l:List Evl.Id} (h:idB u t=true):yg1 (u::l) t=true:=by
 unfold yg1
 rw [h]
theorem zu6 {u t:Evl.Id} {l:List Evl.Id} {b:Bool} (h:idB u t=false) (k:yg1 l t=b):yg1 (u::l) t=b:=by
 unfold yg1
 rw [h]
 exact k
theorem yf3 {a b:Nat} (h:¬a=b):Nat.beq a b=false:=by
 cases hb:Nat.beq a b with
 | false=>rfl
 | true=>exact absurd (Nat.eq_of_beq_eq_true hb) h
def ypc (l:List (List UInt8)):Prop:=l.Pairwise fun a b=>zap a b=true
theorem zvb (x y:List UInt8) (h:zap y x=false) (hn:x≠y):zap x y=true:=by
 cases hh:zap x y with
 | true=>rfl
 | false=>
  exfalso
  apply hn
  have key:∀x y:List UInt8,zap y x=false->zap x y=false->x=y:=by
   intro x
   induction x with
   | nil=>intro y _ h2;cases y with
    | nil=>rfl
    | cons=>simp [zap] at h2
   | cons c x ih=>intro y h1 h2;cases y with
    | nil=>simp [zap] at h1
    | cons d y=>
     simp only [zap,Bool.or_eq_false_iff,decide_eq_false_iff_not,Bool.and_eq_false_iff,beq_eq_false_iff_ne,ne_eq,UInt8.not_lt] at h1 h2
     have e:c=d:=UInt8.le_antisymm h1.1 h2.1
     subst e
     rw [ih y (h1.2.resolve_left (fun h=>h rfl)) (h2.2.resolve_left (fun h=>h rfl))]
  exact key x y h hh
theorem ygr (s:List UInt8):∀(l:List (List UInt8)) (k:Nat),k<=l.length->(∀j,(hj:j<l.length)->j<k->zap l[j] s=true)->(∀j,(hj:j<l.length)->k<=j->zap s l[j]=true)->yfm s l=l.take k++s::l.drop k
 | [],k,_,_,_=>by simp [yfm]
 | y::l,0,_,_,h2=>by
  have:=h2 0 (by simp) (Nat.le_refl _)
  simp only [List.getElem_cons_zero] at this
  unfold yfm
  rw [zik _ _ this]
  rfl
 | y::l,k+1,hk,h1,h2=>by
  have:=h1 0 (by simp) (by omega)
  simp only [List.getElem_cons_zero] at this
  unfold yfm
  rw [if_pos this,List.take_succ_cons,List.drop_succ_cons,List.cons_append]
  congr 1
  refine ygr s l k (by simpa using hk) (fun j hj hjk=> ?_) (fun j hj hjk=> ?_)
  ·have:=h1 (j+1) (by simp;omega) (by omega)
   simpa using this
  ·have:=h2 (j+1) (by simp;omega) (by omega)
   simpa using this
theorem yic {ks:List (List UInt8)} {s:List UInt8}:zju (ks++[s])=yfm s (zju ks):=by
 have h:(ks++[s]).Perm (s::ks):=List.perm_append_singleton s ks
 rw [z40 h]
 rfl
theorem yid {ks:List (List UInt8)} (h:ks.Nodup):ypc (zju ks):=by
 have h1:=zlt ks
 have h2:(zju ks).Nodup:=(zdh ks).nodup_iff.2 h
 unfold ypc
 exact(h1.and h2).imp fun h=>zvb _ _ h.1 h.2
theorem yea {ks:List (List UInt8)} {s:List UInt8} (h:ks.Nodup):(z3k ks s).Nodup:=by
 unfold z3k
 split
 ·exact h
 ·rename_i hn
  rw [List.nodup_append]
  refine⟨h,by simp,fun a ha b hb=> ?_⟩
  rw [List.mem_singleton] at hb
  subst hb
  rintro rfl
  exact hn ha
theorem zw4 (es:List Ent):(srK es).Nodup:=by
 have key:∀(es:List Ent) (ks:List (List UInt8)),ks.Nodup->(es.foldl (fun ks x=>z3k ks x.sr) ks).Nodup:=by
  intro es
  induction es with
  | nil=>intro ks h;exact h
  | cons x es ih=>intro ks h;exact ih _ (yea h)
 exact key es [] List.nodup_nil
section
variable {E : Oracle} (g : Good E)
include g
theorem yka (r:Rgs) (hes:r.es.length<=256):Fc E zpo [Rgv r] (Ws (zju (srK r.es))):=by
 refine g.fn rfl rfl ?_
 have hml:(r.es.flatMap Ent.cells).length=r.es.length*8:=zaf Ent.cells 8 zwf r.es
 repeat' ((conv=>whnf);first
 | refine Yz ?_
  | fail)
 refine zaj.to (zaj.by (σ:=Nat×List (List UInt8)×Option Nat) g (fun u=>u.1<=r.es.length/\u.2.1=zju (srK (r.es.take u.1))/\(u.2.2=none->u.2.1=[]))
  (fun u=>[(1,.ptr ⟨0,1,0⟩ 0 0),(3,match u.2.2 with
   | none=> .ref ⟨0,3,0⟩ 0 0 0
   | some c=> .ref ⟨0,38,c⟩ 0 u.2.1.length u.2.1.length),(4,I u.1)])
  (fun u=>[bxR 1 r,(⟨0,2,0⟩,.row false zab 1 0 []),(⟨0,3,0⟩,.row false zab 1 0 [])]++match u.2.2 with
   | none=>[]
   | some c=>[(⟨0,38,c⟩,.row false zab 1 u.2.1.length (u.2.1.map D.str))])
  (fun u=>r.es.length-u.1) ?_ (0,[],none) ⟨Nat.zero_le _,rfl,fun _=>rfl⟩) rfl rfl
 rintro⟨k,out,co⟩ ⟨h1,h2,h3⟩ ih
 dsimp only at h1 h2 h3
 have hasc:ypc out:=by rw [h2];exact yid (zw4 _)
 have hol:out.length<=256:=by
  rw [h2,(zdh _).length_eq]
  refine Nat.le_trans (yik _) ?_
  rw [List.length_take];omega
 by_cases hlt:k<r.es.length
 ·have hmem:∀s,s∈out↔s∈srK (r.es.take k):=fun s=>by rw [h2];exact(zdh _).mem_iff
  have hk1:=yd0 r.es k hlt
  have hpk:∀ {K:D->Prop},K (.str r.es[k].sr)->zf3 (r.es.flatMap Ent.cells) (((k:Nat):Int).toNat*8+2) K:=fun h=>zf3.rec zwf k rfl hlt rfl h
  generalize r.es[k].sr=s at *
  have hw:=yhs g out s (by omega)
  have hins:s∉out->∀a:Nat,a<=out.length->(∀j,(hj:j<out.length)->j<a->zap out[j] s=true)->(∀j,(hj:j<out.length)->a<=j->zap s out[j]=true)->zju (srK (r.es.take (k+1)))=out.take a++s::out.drop a:=fun hm a ha h3 h4=>by
   rw [hk1,z3k,if_neg (fun h=>hm ((hmem s).2 h)),yic,<-h2]
   exact ygr s out a ha h3 h4
  cases co with
  | none=>
   obtain rfl:=h3 rfl
   have hm:s∉([]:List (List UInt8)):=by simp
   rw [decide_eq_false hm] at hw
   have ih:=ih (k+1,[s],some 0) ⟨by dsimp only;omega,(hins hm 0 (Nat.le_refl _) (fun j hj=>absurd hj (Nat.not_lt_zero _)) (fun j hj=>absurd hj (Nat.not_lt_zero _))).symm,fun h=>by cases h⟩ (by dsimp only;omega)
   dsimp only at ih ⊢
   repeat' ((conv=>whnf);first
   | refine Yz ?_
    | (refine hpk ?_)
    | (rw [if_pos ⟨rfl,rfl⟩])
    | (apply zah.of;assumption)
    | (refine zaj.to ih rfl rfl)
    | (refine zaj.step g.lim ?_)
    | (refine zeb.mk ⟨rfl,by omega⟩ ?_)
    | (refine zeb.mk ⟨rfl,by omega,rfl⟩ ?_)
    | (refine zt3.at 0 0 rfl rfl ⟨by omega,by omega⟩ ?_)
    | (refine zeb.mk ⟨rfl,rfl,rfl,rfl,rfl,rfl,by dsimp only;omega,by first |omega|(dsimp only;omega)|decide⟩ ?_)
    | (refine zeb.mk ⟨rfl,rfl,rfl,rfl,rfl,rfl,by decide,by decide⟩ ?_)
    | (refine zaj.to ih rfl rfl)
    | fail)
  | some c=>
   clear h3
   dsimp only
   by_cases hm:s∈out
   ·rw [decide_eq_true hm] at hw
    have ih:=ih (k+1,out,some c) ⟨by dsimp only;omega,by dsimp only;rw [hk1,z3k,if_pos ((hmem s).1 hm),h2],fun h=>by cases h⟩ (by dsimp only;omega)
    dsimp only at ih
    repeat' ((conv=>whnf);first
    | refine Yz ?_
     | (refine hpk ?_)
     | (refine Nt _ (Nat.beq_refl _) ?_)
     | ((refine Nt _ ?_ ?_);focus ((repeat' (first |exact zt8 rfl|exact zt8 (Nat.beq_refl _)|((refine zu6 ?h ?_);(case h=>first |rfl|assumption))));done))
     | (rw [if_pos ⟨rfl,rfl⟩])
     | (apply zah.of;assumption)
     | (refine zeb.mk ⟨rfl,by omega⟩ ?_)
     | (refine zaj.to ih rfl rfl)
     | fail)
   ·rw [decide_eq_false hm] at hw
    have hins:=hins hm
    have b1:Nat.beq c (c+1)=false:=yf3 (by omega)
    have b2:Nat.beq (c+1) c=false:=yf3 (by omega)
    have ih:=fun(a:Nat) (ha:a<=out.length) (h3:∀j,(hj:j<out.length)->j<a->zap out[j] s=true) (h4:∀j,(hj:j<out.length)->a<=j->zap s out[j]=true)=>ih (k+1,out.take a++s::out.drop a,some (c+1)) ⟨by dsimp only;omega,(hins a ha h3 h4).symm,fun h=>by cases h⟩ (by dsimp only;omega)
    clear hins hmem hk1 h2
    dsimp only at ih
    repeat' ((conv=>whnf);first
    | refine Yz ?_
     | (refine hpk ?_)
     | (refine Nt _ (Nat.beq_refl _) ?_)
     | ((refine Nt _ ?_ ?_);focus ((repeat' (first |exact zt8 rfl|exact zt8 (Nat.beq_refl _)|((refine zu6 ?h ?_);(case h=>first |rfl|assumption))));done))
     | (rw [if_pos ⟨rfl,rfl⟩])
     | (apply zah.of;assumption)
     | (refine zeb.mk ⟨rfl,by omega⟩ ?_)
     | fail)
    refine zaj.to (zaj.by (σ:=Nat) g (fun a=>a<=out.length/\∀j,(hj:j<out.length)->a<=j->zap s out[j]=true)
     (fun a=>[(1,.ptr ⟨0,1,0⟩ 0 0),(3,.ref ⟨0,38,c⟩ 0 out.length out.length),(4,I k),(5,S s),(6,I a)])
     (fun _=>[bxR 1 r,(⟨0,2,0⟩,.row false zab 1 0 []),(⟨0,3,0⟩,.row false zab 1 0 []),(⟨0,38,c⟩,.row false zab 1 out.length (out.map D.str))]) (fun a=>a) ?_ out.length ⟨Nat.le_refl _,fun j hj h=>absurd hj (by omega)⟩) rfl rfl
    rintro a ⟨a1,a2⟩ iha
    have fin:(∀j,(hj:j<out.length)->j<a->zap out[j] s=true)->_:=fun h3=>ih a a1 h3 a2
    have hwa:win (out.map D.str) ((0+0)*1) ((a-0)*1)=(out.take a).map D.str:=by
     unfold win
     rw [Nat.mul_one,Nat.mul_one,Nat.zero_add,Nat.sub_zero,List.drop_zero,List.map_take]
    have hwb:win (out.map D.str) ((0+a)*1) ((out.length-a)*1)=(out.drop a).map D.str:=by
     unfold win
     rw [Nat.mul_one,Nat.mul_one,Nat.zero_add,List.map_drop,List.take_of_length_le (by rw [List.length_drop,List.length_map];exact Nat.le_refl _)]
    have hla:(out.take a).length=a:=by rw [List.length_take,Nat.min_eq_left a1]
    have hlb:(out.drop a).length=out.length-a:=List.length_drop
    have hml2:(out.take a++s::out.drop a).length=out.length+1:=by
     rw [List.length_append,List.length_cons,hla,hlb];omega
    have hL:out.length+1=0+(a-0)+1+(out.length-a):=by omega
    rw [hml2] at fin
    simp only [List.map_append,List.map_cons] at fin
    have htr:∀x y z:List UInt8,zap x y=true->zap y z=true->zap x z=true:=fun x y z k1 k2=>by
     refine zvb x z (zrd _ _ _ (zik _ _ k1) (zik _ _ k2)) ?_
     rintro rfl
     rw [zik _ _ k1] at k2
     cases k2
    clear ih
    cases a with
    | zero=>
     have fin2:=fin fun j hj h=>absurd h (Nat.not_lt_zero _)
     clear iha fin
     repeat' ((conv=>whnf);first
     | refine Yz ?_
      | (refine Nt _ (Nat.beq_refl _) ?_)
      | (refine Nf _ b1 ?_)
      | (refine Nf _ b2 ?_)
      | ((refine Nt _ ?_ ?_);focus ((repeat' (first |exact zt8 rfl|exact zt8 (Nat.beq_refl _)|((refine zu6 ?h ?_);(case h=>first |rfl|assumption))));done))
      | ((refine Nf _ ?_ ?_);focus ((repeat' (first |exact rfl|((refine zu6 ?h ?_);(case h=>first |rfl|assumption))));done))
      | (refine zeb.mk ⟨rfl,by omega,rfl⟩ ?_)
      | (refine zt3.at 0 0 rfl (by omega) ⟨Nat.zero_le _,a1⟩ ?_;rw [hwa])
      | (refine zt3.at 0 out.length (by omega) rfl ⟨a1,Nat.le_refl _⟩ ?_;rw [hwb])
      | (refine zeb.mk ⟨rfl,rfl,rfl,rfl,rfl,by first |rfl|(rw [List.length_map];omega),by dsimp only;omega,by first |omega|(dsimp only;omega)⟩ ?_)
      | (refine Chk.mk (by simp [yje,Evl.get,Evl.ids]) ?_)
      | (refine zaj.to fin2 ?_ ?_)
      | fail)
     ·rw [hL]
      rfl
     ·rw [hL]
      simp
    | succ b=>
     have hbo:b<out.length:=by omega
     have hpb:∀ {K:D->Prop},K (.str out[b])->zf3 (out.map D.str) ((0+(((b+1:Nat):Int)-1).toNat)*1) K:=fun h=>by
      rw [Nat.zero_add]
      exact zf3.ws b (by omega) hbo h
     cases hlb2:zap out[b] s with
     | true=>
      have fin2:=fin fun j hj hjb=>by
       by_cases e:j=b
       ·subst e;exact hlb2
       ·exact htr _ _ _ (List.pairwise_iff_getElem.1 hasc j b hj hbo (by omega)) hlb2
      have hgt:(!(zap out[b] s||out[b]==s))=false:=by rw [hlb2];rfl
      clear iha fin
      repeat' ((conv=>whnf);first
      | refine Yz ?_
       | (refine hpb ?_)
       | (rw [hgt])
       | (refine Nt _ (Nat.beq_refl _) ?_)
       | (refine Nf _ b1 ?_)
       | (refine Nf _ b2 ?_)
       | ((refine Nt _ ?_ ?_);focus ((repeat' (first |exact zt8 rfl|exact zt8 (Nat.beq_refl _)|((refine zu6 ?h ?_);(case h=>first |rfl|assumption))));done))
       | ((refine Nf _ ?_ ?_);focus ((repeat' (first |exact rfl|((refine zu6 ?h ?_);(case h=>first |rfl|assumption))));done))
       | (refine zeb.mk ⟨rfl,by omega,rfl⟩ ?_)
       | (refine zt3.at 0 (b+1) rfl (by omega) ⟨Nat.zero_le _,a1⟩ ?_;rw [hwa])
       | (refine zt3.at (b+1) out.length (by omega) rfl ⟨a1,Nat.le_refl _⟩ ?_;rw [hwb])
       | (refine zeb.mk ⟨rfl,rfl,rfl,rfl,rfl,by first |rfl|(rw [List.length_map];omega),by dsimp only;omega,by first |omega|(dsimp only;omega)⟩ ?_)
       | (refine Chk.mk (by simp [yje,Evl.get,Evl.ids]) ?_)
       | (refine zaj.to fin2 ?_ ?_)
       | fail)
      ·rw [hL]
       rfl
      ·rw [hL]
       simp
     | false=>
      have hne:out[b]≠s:=fun e=>hm (by rw [<-e];exact List.getElem_mem hbo)
      have hsb:zap s out[b]=true:=zvb _ _ hlb2 (Ne.symm hne)
      have hgt:(!(zap out[b] s||out[b]==s))=true:=by rw [hlb2,beq_eq_false_iff_ne.2 hne];rfl
      have iha:=iha b ⟨by omega,fun j hj hbj=>by
       by_cases e:j=b
       ·subst e;exact hsb
       ·exact a2 j hj (by omega)⟩ (by omega)
      have e1:(((b+1:Nat):Int)-1)=b:=by omega
      clear fin
      repeat' ((conv=>whnf);first
      | refine Yz ?_
       | (refine hpb ?_)
       | (rw [hgt])
       | (refine Nt _ (Nat.beq_refl _) ?_)
       | ((refine Nt _ ?_ ?_);focus ((repeat' (first |exact zt8 rfl|exact zt8 (Nat.beq_refl _)|((refine zu6 ?h ?_);(case h=>first |rfl|assumption))));done))
       | (refine zaj.to iha (by rw [<-e1]) rfl)
       | fail)
 ·rw [List.take_of_length_le (by omega)] at h2
  rw [<-h2]
  cases co with
  | none=>
   obtain rfl:=h3 rfl
   repeat' ((conv=>whnf);first
   | refine Yz ?_
    | (refine zeb.mk ⟨rfl,by omega⟩ ?_)
    | (refine Ret.mk ?_)
    | fail)
   all_goals simp
  | some c=>
   repeat' ((conv=>whnf);first
   | refine Yz ?_
    | (refine Nt _ (Nat.beq_refl _) ?_)
    | (refine zeb.mk ⟨rfl,by omega⟩ ?_)
    | (refine Ret.mk ?_)
    | fail)
   all_goals simp
end
theorem z7x {es:List Ent} {nm:List UInt8} {k:Nat} (h:zll es nm=k) (more:List Ent):zll (es++more) nm=k:=by
 rcases zdb es nm with⟨e,_⟩|⟨j,hj,e,h2,h3⟩
 ·omega
 ·obtain rfl:j=k:=by omega
  refine zpj (p:=fun x:Ent=>decide (x.nm=nm)) (by rw [List.length_append];omega) ?_ ?_
  ·rw [List.getElem_append_left hj];exact decide_eq_true h2
  ·intro i hi
   rw [List.getElem_append_left (by omega)]
   exact decide_eq_false (h3 i hi)
structure Lat (r r':Rgs) (F:Int):Prop where
 es:∃more,r'.es=r.es++more/\∀x∈more,F<x.kn
 rm:∀nm,zzg r'.rs nm F=zzg r.rs nm F
theorem Lat.refl (r:Rgs) (F:Int):Lat r r F:=⟨⟨[],by simp,by simp⟩,fun _=>rfl⟩
theorem Lat.trans {a b c:Rgs} {F:Int} (h:Lat a b F) (k:Lat b c F):Lat a c F:=by
 obtain⟨⟨m1,e1,h1⟩,r1⟩:=h
 obtain⟨⟨m2,e2,h2⟩,r2⟩:=k
 refine⟨⟨m1++m2,by rw [e2,e1,List.append_assoc],fun x hx=> ?_⟩,fun nm=>(r2 nm).trans (r1 nm)⟩
 rcases List.mem_append.1 hx with hx|hx
 ·exact h1 x hx
 ·exact h2 x hx
theorem ydm {rs:List Rmv} {z:Rmv} {nm:List UInt8} {F:Int} (h:F<z.kn):zzg (rs++[z]) nm F=zzg rs nm F:=by
 unfold zzg
 rw [List.any_append,List.any_cons,List.any_nil,decide_eq_false (by omega),Bool.or_false,Bool.or_false]
theorem ylu (r:Rgs) (e:Evt) {F:Int} (h:F<vlN e 0):Lat r (zqi r e) F:=by
 unfold zqi
 split
 ·refine⟨⟨[z7y e],rfl,fun x hx=> ?_⟩,fun _=>rfl⟩
  rw [List.mem_singleton] at hx;subst hx
  exact h
 ·split
  ·exact⟨⟨[],by simp,by simp⟩,fun nm=>ydm h⟩
  ·split
   ·exact⟨⟨[],by simp,by simp⟩,fun _=>rfl⟩
   ·refine⟨⟨[],by simp,by simp⟩,fun nm=> ?_⟩
    dsimp only
    split
    ·exact ydm h
    ·rfl
theorem yl7 {r r':Rgs} (ho:OkR r) (ho':OkR r') {F:Int} (h:Lat r r' F):∀(k:Nat) (hk:k<r.es.length),z2g r' r.es[k] F=z2g r r.es[k] F:=by
 obtain⟨⟨more,he,_⟩,hr⟩:=h
 intro k
 induction k using Nat.strongRecOn with
 | _ k ih=>
  intro hk
  have hk':k<r'.es.length:=by rw [he,List.length_append];omega
  have hek:r'.es[k]=r.es[k]:=by simp only [he];exact List.getElem_append_left hk
  rcases ho.bs k hk with hb|⟨j,hj,hb⟩
  ·have h1:=zzp ho' hk' (by rw [hek];exact hb) F
   simp only [hek] at h1
   rw [h1,zzp ho hk hb,hr]
  ·have hb':zll r'.es r.es[k].bs=j:=by rw [he];exact z7x hb more
   have h1:=z5n ho' hk' hj (by rw [hek];exact hb') F
   have hej:r'.es[j]'(by omega)=r.es[j]'(by omega):=by simp only [he];exact List.getElem_append_left (by omega)
   simp only [hek,hej] at h1
   rw [h1,z5n ho hk hj hb,hr,ih j hj (by omega)]
theorem yl8 {r:Rgs} {x:Ent} {F:Int} (h:F<x.kn):z2g r x F=false:=by
 unfold z2g
 rw [decide_eq_false (by omega)]
 rfl
theorem yjx {r r':Rgs} (ho:OkR r) (ho':OkR r') {F:Int} (h:Lat r r' F) (s:List UInt8) (d:Int):zmz r' s F d=zmz r s F d:=by
 have hc:=yl7 ho ho' h
 obtain⟨⟨more,he,hm⟩,_⟩:=h
 unfold zmz
 rw [he,List.foldl_append,zwi (ygo r' s F d) Ent.mi more _ fun x hx=>by
  unfold ygo
  rw [yl8 (hm x hx),Bool.and_false]]
 refine z3z _ _ _ _ _ fun x hx=> ?_
 obtain⟨k,hk,rfl⟩:=List.mem_iff_getElem.1 hx
 unfold ygo
 rw [hc k hk]
theorem ydp:∀(l:List Evt) (r:Rgs) (n:Nat),(zew r n l).2.2=0->0<=r.kn/\r.kn<=99999->0<=(zew r n l).1.kn/\(zew r n l).1.kn<=99999
 | [],_,_,_,h=>h
 | e::l,r,n,h,hk=>by
  rw [zjy] at h ⊢
  by_cases hs:zj2 r n e≠0
  ·rw [if_pos hs] at h;exact absurd h hs
  ·rw [if_neg hs] at h ⊢
   refine ydp l _ _ h ?_
   obtain⟨_,h2⟩:=z2c (Decidable.byContradiction hs)
   obtain⟨_,h3,h4,_⟩:=z3j h2
   rw [ynu]
   omega
def yql:List UInt8:=[116,111,112]
def sS:List UInt8:=[115]
structure RmE (r:Rgs):Prop where
 rs:∀z∈r.rs,0<=zll r.es z.en
 cs:∀c∈r.cs,0<=zll r.es c.en
theorem z7w {es:List Ent} {nm:List UInt8} (h:0<=zll es nm) (more:List Ent):0<=zll (es++more) nm:=by
 rcases zdb es nm with⟨e,_⟩|⟨k,_,e,_⟩
 ·omega
 ·rw [z7x e];omega
theorem yj2 {r:Rgs} {b:List UInt8} {kn:Int} (h:zsz r b kn=0):0<=zll r.es b:=by
 obtain⟨j,_,e,_⟩:=yhk h
 omega
theorem ylv {r:Rgs} (hr:RmE r) {n:Nat} {e:Evt} (h:zj2 r n e=0):RmE (zqi r e):=by
 obtain⟨_,h2⟩:=z2c h
 obtain⟨_,_,_,h3⟩:=z3j h2
 unfold zzn at h3
 unfold zqi
 split at h3
 ·rename_i hk
  rw [if_pos hk]
  exact⟨fun z hz=>z7w (hr.rs z hz) _,fun c hc=>z7w (hr.cs c hc) _⟩
 rename_i hk
 rw [if_neg hk]
 split at h3
 ·rename_i hk2
  rw [if_pos hk2]
  refine⟨fun z hz=> ?_,hr.cs⟩
  rcases List.mem_append.1 hz with hz|hz
  ·exact hr.rs z hz
  ·rw [List.mem_singleton] at hz;subst hz
   dsimp only
   unfold z3m at h3
   split at h3
   ·exact absurd h3 (by decide)
   ·omega
 rename_i hk2
 rw [if_neg hk2]
 split at h3
 ·rename_i hk3
  rw [if_pos hk3]
  refine⟨hr.rs,fun c hc=> ?_⟩
  rcases List.mem_append.1 hc with hc|hc
  ·exact hr.cs c hc
  ·rw [List.mem_singleton] at hc;subst hc
   dsimp only
   unfold z0f at h3
   rw [zdu] at h3
   exact yj2 (h3 (zsz r (nmN e 1) (vlN e 0)) (by simp))
 rename_i hk3
 rw [if_neg hk3]
 have hge:0<=zwe r.cs (nmN e 0):=by
  unfold zr7 at h3
  split at h3
  ·exact absurd h3 (by decide)
  ·omega
 have hc0:0<=zll r.es (r.cs.getD (zwe r.cs (nmN e 0)).toNat yej).en:=by
  rcases zm6 r.cs (nmN e 0) with e1|⟨k,hk,e1,_⟩
  ·omega
  ·rw [e1,Int.toNat_natCast]
   have:r.cs.getD k yej=r.cs[k]:=by simp [List.getD,hk]
   rw [this]
   exact hr.cs _ (List.getElem_mem hk)
 refine⟨fun z hz=> ?_,fun c hc=> ?_⟩
 ·dsimp only at hz
  split at hz
  ·rcases List.mem_append.1 hz with hz|hz
   ·exact hr.rs z hz
   ·rw [List.mem_singleton] at hz;subst hz
    exact hc0
  ·exact hr.rs z hz
 ·rcases List.mem_or_eq_of_mem_set hc with hc|hc
  ·exact hr.cs c hc
  ·subst hc
   exact hc0
theorem z82:∀(l:List Evt) (r:Rgs) (n:Nat),RmE r->(zew r n l).2.2=0->RmE (zew r n l).1
 | [],r,_,hr,_=>hr
 | e::l,r,n,hr,h=>by
  rw [zjy] at h ⊢
  by_cases hs:zj2 r n e≠0
  ·rw [if_pos hs] at h;exact absurd h hs
  ·rw [if_neg hs] at h ⊢
   exact z82 l _ _ (ylv hr (Decidable.byContradiction hs)) h
theorem yhy {r:Rgs} (hr:RmE r) {nm:List UInt8} (h:zll r.es nm= -1) (kn:Int):zzg r.rs nm kn=false:=by
 unfold zzg
 rw [List.any_eq_false]
 intro z hz
 rw [decide_eq_true_eq]
 rintro⟨e,_⟩
 have:=hr.rs z hz
 rw [e] at this
 omega
theorem ynt (r:Rgs) (e:Evt):(zqi r e).es.length<=r.es.length+1:=by
 unfold zqi
 split
 ·simp
 ·split
  ·simp
  ·split
   ·simp
   ·simp
theorem z6r:∀(l:List Evt) (r:Rgs) (n:Nat),(zew r n l).2.2=0->(zew r n l).1.es.length<=r.es.length+l.length
 | [],r,_,_=>by simp [zew]
 | e::l,r,n,h=>by
  rw [zjy] at h ⊢
  by_cases hs:zj2 r n e≠0
  ·rw [if_pos hs] at h;exact absurd h hs
  ·rw [if_neg hs] at h ⊢
   have h1:=z6r l _ _ h
   have h2:=ynt r e
   rw [List.length_cons]
   omega
theorem ymc {l:List Evt} {e:Evt} (h:erL l=0) (hs:zj2 (rgL l) l.length e=0):erL (l++[e])=0/\rgL (l++[e])=zqi (rgL l) e:=by
 have h1:=z81 l rg0 0 [e]
 have h0:(zew rg0 0 l).2.2=0:=h
 rw [if_neg (fun hn=>hn h0),Nat.zero_add] at h1
 have h2:zew (zew rg0 0 l).1 l.length [e]=(zqi (rgL l) e,0,0):=by
  rw [zjy]
  rw [if_neg (fun hn=>hn hs)]
  rfl
 rw [h2] at h1
 exact⟨by unfold erL;rw [h1],by unfold rgL;rw [h1]⟩
structure yo1 (r0 r:Rgs) (own:List (List UInt8)):Prop where
 ex:∃xs:List Ent,r.es=r0.es++xs/\xs.map Ent.nm=own/\∀i,(hi:i<xs.length)->xs[i].kn=r0.kn/\xs[i].sr=sS/\xs[i].fr=0/\xs[i].to=9/\xs[i].mi=(if i=0 then 600 else 601)/\(i=0->xs[i].bs=[]/\xs[i].kd=zwl)/\(0<i->∃j,∃hj:j<i,xs[i].bs=(xs[j]'(by omega)).nm)
 rs:r.rs=r0.rs
 kn:r.kn=r0.kn
 no:own.Nodup
 fr:∀nm∈own,zll r0.es nm= -1
 hd:own.head? =some yql
theorem yo1.len {r0 r:Rgs} {own:List (List UInt8)} (h:yo1 r0 r own):r.es.length=r0.es.length+own.length:=by
 obtain⟨xs,h1,h2,_⟩:=h.ex
 rw [h1,List.length_append,<-h2,List.length_map]
theorem yo1.at {r0 r:Rgs} {own:List (List UInt8)} (h:yo1 r0 r own) {i:Nat} (hi:i<own.length):zll r.es own[i]=(r0.es.length+i:Nat)/\(r.es[r0.es.length+i]'(by rw [h.len];omega)).nm=own[i]:=by
 obtain⟨xs,h1,h2,_⟩:=h.ex
 have hx:xs.length=own.length:=by rw [<-h2,List.length_map]
 have hn:∀j,(hj:j<own.length)->(xs[j]'(by omega)).nm=own[j]:=fun j hj=>by simp only [<-h2,List.getElem_map]
 have hfr:=h.fr _ (List.getElem_mem hi)
 have hno:∀j,(hj:j<r0.es.length)->r0.es[j].nm≠own[i]:=by
  rcases zdb r0.es own[i] with⟨_,h3⟩|⟨j,hj,e,_⟩
  ·exact h3
  ·omega
 have he:(r.es[r0.es.length+i]'(by rw [h.len];omega)).nm=own[i]:=by
  simp only [h1]
  rw [List.getElem_append_right (by omega)]
  simp only [Nat.add_sub_cancel_left]
  exact hn i hi
 refine⟨zpj (p:=fun x:Ent=>decide (x.nm=own[i])) (by rw [h.len];omega) (decide_eq_true he) fun j hj=>decide_eq_false ?_,he⟩
 by_cases hl:j<r0.es.length
 ·simp only [h1]
  rw [List.getElem_append_left hl]
  exact hno j hl
 ·simp only [h1]
  rw [List.getElem_append_right (by omega)]
  rw [hn (j-r0.es.length) (by omega)]
  intro e
  have:=(List.getElem_inj h.no).1 e
  omega
theorem yin {r:Rgs} {n:Nat} {e:Evt} (hc:zwb e=0) (ha:z9w r n e=0):zj2 r n e=0:=by
 unfold zj2
 rw [if_neg (fun h=>h hc)]
 exact ha
theorem yfu {r:Rgs} {n:Nat} {e:Evt} (hn:e.nu=n+1) (hk:r.kn<=vlN e 0) (hk2:vlN e 0<=99999):yft r n e=0:=by
 unfold yft
 rw [if_pos hn,if_neg (by omega),if_neg (by omega)]
 rfl
theorem yi3 {r:Rgs} {n:Nat} {e:Evt} (h:yft r n e=0):z9w r n e=zzn r e:=by
 unfold z9w
 rw [if_neg (fun hn=>hn h)]
theorem ylz {r:Rgs} {e:Evt} (h:z56 e.ki=true):zzn r e=zoi r (decide (e.ki=zb0)) (nmN e 0) (nmN e 2) (vlN e 0) (vlN e 1) (vlN e 2) (vlN e 3):=by
 unfold zzn
 rw [if_pos h]
theorem yi5 {r:Rgs} {fol:Bool} {nm b:List UInt8} {kn f t m:Int} (h1:zll r.es nm= -1) (h2:r.es.length<256) (h3:fol=true->zsz r b kn=0) (h4:f<=99999) (h5:t<=99999) (h6:m<=1440) (h7:f<=t):zoi r fol nm b kn f t m=0:=by
 have hn:ymw r nm=0:=by
  unfold ymw
  rw [h1,if_neg (by omega),if_neg (by omega)]
  rfl
 unfold zoi
 rw [if_neg (fun h=>h hn),if_neg (fun h=>h.2 (h3 h.1)),if_neg (by omega),if_neg (by omega)]
 rfl
theorem yjc {e:Evt} (h1:1<=e.nu/\e.nu<=1000) (h2:zrh e.ki=true) (h3:e.ns.length=zx3 e.ki/\e.vs.length=zzf e.ki) (h4:∀s∈e.ns,zbr s=true) (h5:∀v∈e.vs,0<=v/\v<=999999999) (h6:e.tx=[]):zwb e=0:=by
 have hn:zla e.ns=false:=by
  unfold zla
  rw [List.any_eq_false]
  intro s hs
  rw [h4 s hs]
  decide
 have hf:far e.vs=false:=by
  unfold far
  rw [List.any_eq_false]
  intro v hv
  have:=h5 v hv
  unfold yji
  rw [decide_eq_true_eq]
  omega
 have hr:rng e.nu 1 1000=0:=if_neg (by omega)
 have hs:¬(e.ns.length≠zx3 e.ki\/e.vs.length≠zzf e.ki):=fun h=>h.elim (fun h=>h h3.1) (fun h=>h h3.2)
 have hx:¬(e.tx≠[]):=fun h=>h h6
 unfold zwb
 rw [hr,h2,hn,hf,if_neg hs,if_neg hx]
 rfl
abbrev Dfm:=List (List UInt8×List Int)
def zyj (s:List UInt8) (d:Int):Dfm->Dfm
 | []=>[(s,[d])]
 | p::r=>if p.1=s then(p.1,p.2++[d])::r else p::zyj s d r
def zvd (s:List UInt8):Dfm->Option (List Int)
 | []=>none
 | p::r=>if p.1=s then some p.2 else zvd s r
def z66 (s:List UInt8):Dfm->Nat
 | []=>0
 | p::r=>if p.1=s then 0 else z66 s r+1
abbrev idD (j:Nat):Evl.Id:=⟨0,238,j⟩
def z5o:Nat->Dfm->List (D×V)
 | _,[]=>[]
 | j,p::r=>(.str p.1,.ref (idD j) 0 p.2.length p.2.length)::z5o (j+1) r
def z83:Nat->Dfm->Mem
 | _,[]=>[]
 | j,p::r=>(idD j,.row false za6 1 p.2.length (p.2.map DI))::z83 (j+1) r
theorem z08 (s t:List UInt8):eqD (.str s) (.str t)=some (decide (s=t)):=by
 by_cases h:s=t<;>simp [eqD,h]
theorem z1c (s:List UInt8):∀(es:Dfm) (j:Nat),zkb (.str s) (z5o j es)=some ((zvd s es).map fun ds=>V.ref (idD (j+z66 s es)) 0 ds.length ds.length)
 | [],_=>rfl
 | p::r,j=>by
  simp only [z5o,zkb,zvd,z66]
  by_cases h:p.1=s
  ·subst h
   simp [z08]
  ·have h':¬s=p.1:=fun e=>h e.symm
   simp [z08,h,h',z1c s r (j+1),Nat.add_assoc,Nat.add_comm 1]
theorem ygp {a b:Nat} (h:a≠b):idD a≠idD b:=fun e=>h (by simpa [idD] using e)
theorem z8k (s:List UInt8):∀(es:Dfm) (j:Nat) {ds:List Int},zvd s es=some ds->Evl.look (z83 j es) (idD (j+z66 s es))=some (.row false za6 1 ds.length (ds.map DI))
 | p::r,j,ds,h=>by
  simp only [zvd] at h
  simp only [z83,z66,Evl.look]
  by_cases e:p.1=s
  ·rw [if_pos e] at h
   obtain rfl:=Option.some.inj h
   simp [e]
  ·rw [if_neg e] at h
   rw [if_neg e,if_neg (ygp (by omega)),show j+(z66 s r+1)=j+1+z66 s r by omega]
   exact z8k s r (j+1) h
theorem yd7 (s:List UInt8) (d:Int):∀(es:Dfm) (j:Nat) {ds:List Int},zvd s es=some ds->upd (z83 j es) (idD (j+z66 s es)) (.row false za6 1 (ds.length+1) (ds.map DI++[DI d]))=z83 j (zyj s d es)
 | p::r,j,ds,h=>by
  simp only [zvd] at h
  simp only [z83,z66,upd,zyj]
  by_cases e:p.1=s
  ·rw [if_pos e] at h
   obtain rfl:=Option.some.inj h
   simp [e,z83]
  ·rw [if_neg e] at h
   rw [if_neg e,if_neg (ygp (by omega)),if_neg e,show j+(z66 s r+1)=j+1+z66 s r by omega,yd7 s d r (j+1) h]
   rfl
theorem yd8 (s:List UInt8) (d:Int):∀(es:Dfm) (j:Nat),zvd s es=none->upd (z83 j es) (idD (j+es.length)) (.row false za6 1 1 [DI d])=z83 j (zyj s d es)
 | [],j,_=>by simp [z83,upd,zyj]
 | p::r,j,h=>by
  simp only [zvd] at h
  by_cases e:p.1=s
  ·rw [if_pos e] at h;cases h
  ·rw [if_neg e] at h
   simp only [z83,upd,zyj,List.length_cons]
   rw [if_neg (ygp (by omega)),if_neg e,show j+(r.length+1)=j+1+r.length by omega,yd8 s d r (j+1) h]
   rfl
theorem ydy (s:List UInt8) (d:Int):∀(es:Dfm) (j:Nat) {ds:List Int},zvd s es=some ds->setE (.str s) (V.ref (idD (j+z66 s es)) 0 (ds.length+1) (ds.length+1)) (z5o j es)=some (z5o j (zyj s d es))
 | p::r,j,ds,h=>by
  simp only [zvd] at h
  by_cases e:p.1=s
  ·rw [if_pos e] at h
   obtain rfl:=Option.some.inj h
   subst e
   simp [z5o,setE,z66,zyj,z08]
  ·rw [if_neg e] at h
   have e':¬s=p.1:=fun h=>e h.symm
   have:=ydy s d r (j+1) h
   have e3:j+z66 s (p::r)=j+1+z66 s r:=by
    simp only [z66]
    rw [if_neg e]
    omega
   rw [e3]
   simp [z5o,setE,zyj,z08,e,e',this]
theorem ydz (s:List UInt8) (d:Int):∀(es:Dfm) (j:Nat),zvd s es=none->setE (.str s) (V.ref (idD (j+es.length)) 0 1 1) (z5o j es)=some (z5o j (zyj s d es))
 | [],j,_=>by simp [z5o,setE,zyj]
 | p::r,j,h=>by
  simp only [zvd] at h
  by_cases e:p.1=s
  ·rw [if_pos e] at h;cases h
  ·rw [if_neg e] at h
   have e':¬s=p.1:=fun h=>e h.symm
   have:=ydz s d r (j+1) h
   have e3:j+(p::r).length=j+1+r.length:=by
    rw [List.length_cons]
    omega
   rw [e3]
   simp [z5o,setE,zyj,z08,e,e',this]
theorem z79:∀(es:Dfm) (j:Nat),freeK 0 238 (z83 j es)=if es=[] then 0 else j+es.length
 | [],_=>rfl
 | p::r,j=>by
  simp only [z83,freeK,z79 r (j+1)]
  cases r with
  | nil=>simp
  | cons q r=>simp;omega
theorem ygi (s t:List UInt8) (d:Int):∀es:Dfm,zvd t (zyj s d es)=if s=t then some ((zvd s es).getD []++[d]) else zvd t es
 | []=>by
  by_cases e:s=t
  ·subst e;simp [zyj,zvd]
  ·simp [zyj,zvd,e]
 | p::r=>by
  simp only [zyj,zvd]
  by_cases e:p.1=s
  ·subst e
   by_cases e2:p.1=t
   ·subst e2;simp [zvd]
   ·simp [zvd,e2]
  ·rw [if_neg e]
   simp only [zvd,ygi s t d r]
   by_cases e2:p.1=t
   ·subst e2
    have:¬s=p.1:=fun h=>e h.symm
    simp [this]
   ·simp [e,e2]
def stD (p:List UInt8->Int->Bool) (d:Int) (es:Dfm) (ks:List (List UInt8)):Dfm:=ks.foldl (fun es s=>if p s d then zyj s d es else es) es
def stA (p:List UInt8->Int->Bool) (ks:List (List UInt8)) (ds:List Int):Dfm:=ds.foldl (fun es d=>stD p d es ks) []
def gtD (s:List UInt8) (es:Dfm):List Int:=(zvd s es).getD []
theorem yle (s t:List UInt8) (d:Int) (es:Dfm):gtD t (zyj s d es)=if s=t then gtD t es++[d] else gtD t es:=by
 unfold gtD
 rw [ygi]
 by_cases e:s=t
 ·subst e;simp
 ·simp [e]
theorem ymk (p:List UInt8->Int->Bool) (d:Int) (t:List UInt8):∀(ks:List (List UInt8)) (es:Dfm),ks.Nodup->gtD t (stD p d es ks)=if t∈ks/\p t d=true then gtD t es++[d] else gtD t es
 | [],es,_=>by simp [stD]
 | s::ks,es,h=>by
  rw [List.nodup_cons] at h
  have ih:=ymk p d t ks (if p s d then zyj s d es else es) h.2
  have e0:stD p d es (s::ks)=stD p d (if p s d then zyj s d es else es) ks:=rfl
  rw [e0,ih]
  by_cases e:t=s
  ·subst e
   rw [if_neg (fun hh=>h.1 hh.1)]
   by_cases hp:p t d=true
   ·simp [hp,yle]
   ·simp [hp]
  ·have e':¬s=t:=fun h=>e h.symm
   have:gtD t (if p s d then zyj s d es else es)=gtD t es:=by
    split
    ·rw [yle,if_neg e']
    ·rfl
   rw [this]
   simp [e]
theorem ylf (p:List UInt8->Int->Bool) (ks:List (List UInt8)) (hk:ks.Nodup) (t:List UInt8) (ht:t∈ks):∀(ds:List Int) (es:Dfm),gtD t (ds.foldl (fun es d=>stD p d es ks) es)=gtD t es++ds.filter (p t)
 | [],es=>by simp
 | d::ds,es=>by
  rw [List.foldl_cons,ylf p ks hk t ht ds,ymk p d t ks es hk,List.filter_cons]
  by_cases hp:p t d=true
  ·simp [ht,hp]
  ·simp [hp]
abbrev sTw:List UInt8:=[116,111,119,101,114]
abbrev sTa:List UInt8:=[97]
def evT (l:List Evt):Evt:=⟨l.length+1,zkc,[sTw,sTa],[(rgL l).kn+1,0,99999,5],[]⟩
theorem ych {l:List Evt} (hz:erL l=0) (hl:l.length<=12) (hk:(rgL l).kn<99999) (hk0:0<=(rgL l).kn) (hn:zll (rgL l).es sTw<0):
  erL (l++[evT l])=0/\rgL (l++[evT l])=zqi (rgL l) (evT l):=by
 have h1:zll (rgL l).es sTw= -1:=by
  rcases zdb (rgL l).es sTw with⟨h,_⟩|⟨k,_,h,_⟩
  ·exact h
  ·omega
 have hle:(rgL l).es.length<=l.length:=by
  have:=z6r l rg0 0 hz
  simp only [rg0,List.length_nil,Nat.zero_add] at this
  exact this
 have hc:zwb (evT l)=0:=by
  refine yjc ⟨?_,?_⟩ (show zrh zkc=true by decide) ⟨rfl,rfl⟩ (fun s hs=> ?_) (fun v hv=> ?_) rfl
  ·show (1:Int)<=l.length+1;omega
  ·show (l.length:Int)+1<=1000;omega
  ·have:s=sTw\/s=sTa:=by simpa [evT] using hs
   rcases this with rfl|rfl<;>decide
  ·have:v=(rgL l).kn+1\/v=0\/v=99999\/v=5:=by simpa [evT] using hv
   omega
 have ha:z9w (rgL l) l.length (evT l)=0:=by
  rw [yi3 (e:=evT l) (yfu rfl (show (rgL l).kn<=(rgL l).kn+1 by omega) (show (rgL l).kn+1<=99999 by omega)),ylz (show z56 zkc=true by decide)]
  exact yi5 h1 (by omega) (fun h=>absurd h (by show ¬decide (zkc=zb0)=true;decide)) (show (0:Int)<=99999 by decide) (show (99999:Int)<=99999 by decide) (show (5:Int)<=1440 by decide) (show (0:Int)<=99999 by decide)
 exact ymc (e:=evT l) hz (yin hc ha)
theorem yjh {l:List Evt} (hz:erL l=0) (hl:l.length<=12) (hk:(rgL l).kn<99999) (hk0:0<=(rgL l).kn) (hn:zll (rgL l).es sTw<0) (s:List UInt8) (d:Int):
  zmz (rgL (l++[evT l])) s (rgL l).kn d=zmz (rgL l) s (rgL l).kn d:=by
 obtain⟨e1,e2⟩:=ych hz hl hk hk0 hn
 refine yjx (z4u (by omega) hz) (z4u (by rw [List.length_append];simp;omega) e1) ?_ s d
 rw [e2]
 exact ylu _ _ (show (rgL l).kn<(rgL l).kn+1 by omega)
theorem ymd {l:List Evt} (hz:erL l=0) (hl:l.length<=12) (hk:(rgL l).kn<99999) (hk0:0<=(rgL l).kn) (hn:zll (rgL l).es sTw<0) {d:Int} (hd:0<=d/\d<=99999):
  zmz (rgL (l++[evT l])) sTa ((rgL l).kn+1) d=5:=by
 obtain⟨e1,e2⟩:=ych hz hl hk hk0 hn
 have ho:=z4u (l:=l++[evT l]) (by rw [List.length_append];simp;omega) e1
 have h1:zll (rgL l).es sTw= -1:=by
  rcases zdb (rgL l).es sTw with⟨h,_⟩|⟨k,_,h,_⟩
  ·exact h
  ·omega
 have hrm:RmE (rgL l):=z82 l rg0 0 ⟨by simp [rg0],by simp [rg0]⟩ hz
 have hrf:=yhy hrm h1 ((rgL l).kn+1)
 have e3:zqi (rgL l) (evT l)={rgL l with kn:=(rgL l).kn+1,es:=(rgL l).es++[⟨sTw,zkc,sTa,[],(rgL l).kn+1,0,99999,5⟩]}:=by
  unfold zqi
  rw [if_pos (show z56 (evT l).ki=true from (by decide:z56 zkc=true))]
  rfl
 rw [e2] at ho ⊢
 rw [e3] at ho ⊢
 generalize (rgL l).kn+1=kn at *
 have hlt:(rgL l).es.length<((rgL l).es++[(⟨sTw,zkc,sTa,[],kn,0,99999,5⟩:Ent)]).length:=by simp
 have hat:((rgL l).es++[(⟨sTw,zkc,sTa,[],kn,0,99999,5⟩:Ent)])[(rgL l).es.length]'hlt=⟨sTw,zkc,sTa,[],kn,0,99999,5⟩:=by simp
 refine(yc6 (k:=(rgL l).es.length) hlt ?_ ?_).trans (by rw [hat])
 ·have hc:=zzp ho hlt (by rw [hat]) kn
  unfold ygo
  rw [hc]
  dsimp only
  rw [hat]
  dsimp only
  rw [hrf]
  simp
  omega
 ·intro j hj hk
  simp at hj
  omega
def i64 (n:Int):Prop:= -9223372036854775808<=n/\n<=9223372036854775807
theorem yoz {n:Int} (h:(Lit.int .i64 n).wf=true):i64 n:=by
 simp only [Lit.wf,Bool.and_eq_true,decide_eq_true_eq] at h
 exact h
section
variable {P : Program} {n : Nat} {t : Nat} {ds : List D} {x : D}
theorem ypn {k:IntKind} (ht:P.underlying t=some (.int k)) (h:fit P (n+1) t ds):∃i,ds=[.int k i]/\(Lit.int k i).wf=true:=by
 simp only [fit,ht] at h;exact h
theorem ymh (ht:P.underlying t=some .string) (h:fit P (n+1) t ds):∃s,ds=[.str s]/\s.length<=maxLen:=by
 simp only [fit,ht] at h;exact h
theorem ymg {e:Nat} (ht:P.underlying t=some (.slice e)) (h:fit P (n+1) t ds):∃m cs,ds=[.list m cs]/\m<=maxLen/\zln (fit P n) (List.replicate m e) cs:=by
 simp only [fit,ht] at h;exact h
theorem yla {fs:Array Field} (ht:P.underlying t=some (.struct fs)) (h:fit P (n+1) t ds):zln (fit P n) (fs.toList.map (·.type)) ds:=by
 simp only [fit,ht] at h;exact h
theorem yn1 {m e:Nat} (ht:P.underlying t=some (.array m e)) (h:fit P (n+1) t ds):zln (fit P n) (List.replicate m e) ds:=by
 simp only [fit,ht] at h;exact h
theorem ypg {e:Nat} (ht:P.underlying t=some (.slice e)) (h:zoj P t x):∃m cs,x= .list m cs/\m<=maxLen/\zln (fit P 7) (List.replicate m e) cs:=by
 simp only [zoj,ht] at h
 obtain⟨m,cs,e,h1,h2⟩:=ymg (n:=7) ht h
 exact⟨m,cs,by simpa using e,h1,h2⟩
theorem yny {fs:Array Field} (ht:P.underlying t=some (.struct fs)) (h:zoj P t x):∃ds,x= .agg ds/\zln (fit P 7) (fs.toList.map (·.type)) ds:=by
 simp only [zoj,ht] at h
 obtain⟨ds,rfl,h⟩:=h
 exact⟨ds,rfl,yla ht h⟩
theorem ynw {m e:Nat} (ht:P.underlying t=some (.array m e)) (h:zoj P t x):∃ds,x= .agg ds/\zln (fit P 7) (List.replicate m e) ds:=by
 simp only [zoj,ht] at h
 obtain⟨ds,rfl,h⟩:=h
 exact⟨ds,rfl,yn1 ht h⟩
end
theorem z1e {k:Nat} {ds:List D} (h:fit Tryz.prog (k+1) 3 ds):∃n,ds=[DI n]/\i64 n:=by
 obtain⟨n,rfl,hw⟩:=ypn Tryz.underlying3 h
 exact⟨n,rfl,yoz hw⟩
theorem z5x {k:Nat}:∀(m:Nat) {ds:List D},zln (fit Tryz.prog (k+1)) (List.replicate m 3) ds->∃l:List Int,ds=l.map DI/\l.length=m/\∀n∈l,i64 n
 | 0,ds,h=>⟨[],h,rfl,by simp⟩
 | m+1,ds,h=>by
  obtain⟨a,b,rfl,h1,h2⟩:=h
  obtain⟨n,rfl,hn⟩:=z1e h1
  obtain⟨l,rfl,h3,h4⟩:=z5x m h2
  exact⟨n::l,rfl,by simp [h3],by simpa using ⟨hn,h4⟩⟩
theorem ylx {x:D} (h:zoj Tryz.prog 58 x):∃f t d,x= .agg [DI f,DI t,DI d]/\i64 f/\i64 t/\i64 d:=by
 obtain⟨ds,rfl,_,_,rfl,h1,_,_,rfl,h2,_,_,rfl,h3,rfl⟩:=yny Tryz.underlying58 h
 obtain⟨f,rfl,hf⟩:=z1e h1
 obtain⟨t,rfl,ht⟩:=z1e h2
 obtain⟨d,rfl,hd⟩:=z1e h3
 exact⟨f,t,d,rfl,hf,ht,hd⟩
theorem yph {P:Program} {t u v:Nat} {xs:List D} (h:z5v P [t,u,v] xs):∃x y z,xs=[x,y,z]/\zoj P t x/\zoj P u y/\zoj P v z:=by
 obtain⟨x,_,rfl,h1,y,_,rfl,h2,z,_,rfl,h3,rfl⟩:=h
 exact⟨x,y,z,rfl,h1,h2,h3⟩
structure ynr (e:Evt):Prop where
 ns:e.ns.length<=9223372036854775807
 vs:e.vs.length<=9223372036854775807
 nu:i64 e.nu
 ki:e.ki.length<=9223372036854775807
 tx:e.tx.length<=9223372036854775807
 na:∀x∈e.ns,x.length<=9223372036854775807
theorem ycl {k:Nat}:∀(m:Nat) {ds:List D},zln (fit Tryz.prog (k+1)) (List.replicate m 9) ds->∃l:List (List UInt8),ds=l.map D.str/\l.length=m/\∀x∈l,x.length<=9223372036854775807
 | 0,ds,h=>⟨[],h,rfl,fun _ h=>by cases h⟩
 | m+1,ds,h=>by
  obtain⟨a,b,rfl,h1,h2⟩:=h
  obtain⟨s,rfl,hs⟩:=ymh Tryz.underlying9 h1
  obtain⟨l,rfl,h3,h4⟩:=ycl m h2
  refine⟨s::l,rfl,by simp [h3],fun x hx=> ?_⟩
  rcases List.mem_cons.1 hx with rfl|hx
  ·exact Nat.le_trans hs (by decide)
  ·exact h4 x hx
theorem z5w {k:Nat} {ds:List D} (h:zln (fit Tryz.prog (k+2)) [3,9,35,36,9] ds):∃e:Evt,ds=e.cells/\ynr e:=by
 obtain⟨_,_,rfl,h1,_,_,rfl,h2,_,_,rfl,h3,_,_,rfl,h4,_,_,rfl,h5,rfl⟩:=h
 obtain⟨n,rfl,hn⟩:=z1e h1
 obtain⟨s1,rfl,a1⟩:=ymh Tryz.underlying9 h2
 obtain⟨m,cs,rfl,a2,h6⟩:=ymg Tryz.underlying35 h3
 obtain⟨q,es,rfl,a3,h7⟩:=ymg Tryz.underlying36 h4
 obtain⟨s2,rfl,a4⟩:=ymh Tryz.underlying9 h5
 obtain⟨l,rfl,rfl,b1⟩:=ycl m h6
 obtain⟨v,rfl,rfl,b2⟩:=z5x q h7
 exact⟨⟨n,s1,l,v,s2⟩,rfl,Nat.le_trans a2 (by decide),Nat.le_trans a3 (by decide),hn,Nat.le_trans a1 (by decide),Nat.le_trans a4 (by decide),b1⟩
theorem ygg {k:Nat} {ds:List D} (h:fit Tryz.prog (k+3) 38 ds):∃e:Evt,ds=e.cells/\ynr e:=z5w (yla Tryz.underlying38 h)
theorem z3x {k:Nat}:∀(m:Nat) {ds:List D},zln (fit Tryz.prog (k+3)) (List.replicate m 38) ds->∃l:List Evt,ds=l.flatMap Evt.cells/\l.length=m/\∀e∈l,ynr e
 | 0,ds,h=>⟨[],h,rfl,fun _ h=>by cases h⟩
 | m+1,ds,h=>by
  obtain⟨a,b,rfl,h1,h2⟩:=h
  obtain⟨x,rfl,b1⟩:=ygg h1
  obtain⟨l,rfl,h3,b2⟩:=z3x m h2
  refine⟨x::l,rfl,by simp [h3],fun e he=> ?_⟩
  rcases List.mem_cons.1 he with rfl|he
  ·exact b1
  ·exact b2 e he
theorem yed {x:D} (h:zoj Tryz.prog 22 x):∃l:List Evt,x= .list l.length (l.flatMap Evt.cells)/\l.length<=9223372036854775807/\∀e∈l,ynr e:=by
 obtain⟨m,cs,rfl,a,h'⟩:=ypg Tryz.underlying22 h
 obtain⟨l,rfl,rfl,b⟩:=z3x m h'
 exact⟨l,rfl,Nat.le_trans a (by decide),b⟩
theorem ykn {l:List Evt} {n:Int} (h:(decide ((l.length:Int)<=n)&&l.all zrn)=true):(l.length:Int)<=n/\∀e∈l,e.ns.length<=6/\e.vs.length<=8:=by
 rw [Bool.and_eq_true,decide_eq_true_eq,List.all_eq_true] at h
 refine⟨h.1,fun e he=> ?_⟩
 have:=h.2 e he
 simp only [zrn,Bool.and_eq_true,decide_eq_true_eq] at this
 exact⟨this.1.1.1.2,this.1.1.2⟩
structure Us (E:Oracle) (f:Nat) (as0:List V) (m0:Mem) (r:V) (m2:Mem):Prop where
 got:In E 1 f as0 m0 fun v m1=>v=r/\z91 m1 m2
theorem z38 (m1:Mem):∀(m:Mem) (i:Evl.Id) (o:Ob),z91 m1 m->Evl.look m i=some o->Evl.look m1 i=some o
 | [],_,_,_,h=>by simp [Evl.look] at h
 | (j,x)::r,i,o,⟨h1,h2⟩,h=>by
  simp only [Evl.look] at h
  split at h
  ·rename_i e
   subst e
   obtain rfl:=Option.some.inj h
   exact h1
  ·exact z38 m1 r i o h2 h
theorem z3n {σ:List (Evl.Id×Evl.Id)} {m1 m2:Mem} (hk:z91 m1 m2):∀(l:List (Evl.Id×Evl.Id)) (m m':Mem),zxc σ m2 l m=some m'->zxc σ m1 l m=some m'
 | [],_,_,h=>h
 | (a,b)::r,m,m',h=>by
  simp only [zxc] at h ⊢
  cases hl:Evl.look m2 b with
  | none=>rw [hl] at h;cases h
  | some o=>
   rw [hl] at h
   rw [z38 m1 m2 b o hk hl]
   dsimp only at h ⊢
   split at h
   ·rename_i hc
    rw [if_pos hc]
    exact z3n hk r _ m' h
   ·cases h
theorem yiu.of {E:Oracle} {f:Nat} {first caps args as0:List V} {m m0 m2 m':Mem} {r r':V} {K:V->Mem->Prop} (is:List Evl.Id) (his:reach 0 m 64 (ze1 ((first ++args++caps).map (z2h m))) []=is)
  (hc:(within is 0 (ze1 ((first ++args++caps).map (z2h m)))&&movable is 0 m)=true) (has:zwy (number ⟨0,0⟩ 0 0 is) ((first ++args++caps).map (z2h m))=as0) (hm:moved (number ⟨0,0⟩ 0 0 is) m (number ⟨0,0⟩ 0 0 is)=m0)
  (hq:Us E f as0 m0 r m2) (hb:zxc (number ⟨0,0⟩ 0 0 is) m2 (number ⟨0,0⟩ 0 0 is) m=some m') (hid:(ids r).all (fun i=>((number ⟨0,0⟩ 0 0 is).map (·.2)).elem i)=true) (hr:ren (zpw (number ⟨0,0⟩ 0 0 is)) r=r') (hk:K r' m'):yiu E false (.fn f first caps) args m K:=by
 obtain⟨v,m1,h1,rfl,h3⟩:=hq.got
 refine⟨r',m',?_,hk⟩
 simp only [zwa,his,hc,if_true,has,hm,h1]
 rw [if_neg (by decide),hid,z3n h3 _ _ _ hb,<-hr]
 rfl
structure NmR (r:Rgs):Prop where
 nm:∀x∈r.es,zbr x.nm=true
 sr:∀x∈r.es,zbr x.sr=true
 cs:∀c∈r.cs,zbr c.nm=true
theorem ynv {r:Rgs} (h:NmR r) {n:Nat} {e:Evt} (hs:zj2 r n e=0):NmR (zqi r e):=by
 obtain⟨h1,h2⟩:=z2c hs
 obtain⟨_,_,_,h3⟩:=z3j h2
 obtain⟨a1,a2,a3,a4,_⟩:=yb9 h1
 unfold zzn at h3
 unfold zqi
 split at h3
 ·rename_i hk
  rw [if_pos hk]
  obtain⟨_,f2,_⟩:=z35 hk
  have hn:∀x∈r.es++[z7y e],zbr x.nm=true:=fun x hx=>by
   rcases List.mem_append.1 hx with hx|hx
   ·exact h.nm x hx
   ·rw [List.mem_singleton] at hx;subst hx
    exact ydd a4 (i:=0) (by omega)
  have hs':∀x∈r.es++[z7y e],zbr x.sr=true:=fun x hx=>by
   rcases List.mem_append.1 hx with hx|hx
   ·exact h.sr x hx
   ·rw [List.mem_singleton] at hx;subst hx
    exact ydd a4 (i:=1) (by omega)
  exact⟨hn,hs',h.cs⟩
 rename_i hk
 rw [if_neg hk]
 split at h3
 ·rename_i hk2
  rw [if_pos hk2]
  exact⟨h.nm,h.sr,h.cs⟩
 rename_i hk2
 rw [if_neg hk2]
 split at h3
 ·rename_i hk3
  rw [if_pos hk3]
  refine⟨h.nm,h.sr,fun c hc=> ?_⟩
  rcases List.mem_append.1 hc with hc|hc
  ·exact h.cs c hc
  ·rw [List.mem_singleton] at hc;subst hc
   exact ydd a4 (i:=0) (by rw [a2,hk3];decide)
 rename_i hk3
 rw [if_neg hk3]
 refine⟨h.nm,h.sr,fun c hc=> ?_⟩
 rcases List.mem_or_eq_of_mem_set hc with hc|hc
 ·exact h.cs c hc
 ·subst hc
  dsimp only
  have hge:0<=zwe r.cs (nmN e 0):=by
   unfold zr7 at h3
   split at h3
   ·exact absurd h3 (by decide)
   ·omega
  rcases zm6 r.cs (nmN e 0) with e1|⟨k,hk,e1,_⟩
  ·omega
  ·rw [e1,Int.toNat_natCast]
   have:r.cs.getD k yej=r.cs[k]:=by simp [List.getD,hk]
   rw [this]
   exact h.cs _ (List.getElem_mem hk)
theorem ydq:∀(l:List Evt) (r:Rgs) (n:Nat),NmR r->(zew r n l).2.2=0->NmR (zew r n l).1
 | [],_,_,h,_=>h
 | e::l,r,n,h,hz=>by
  rw [zjy] at hz ⊢
  by_cases hs:zj2 r n e≠0
  ·rw [if_pos hs] at hz;exact absurd hz hs
  ·rw [if_neg hs] at hz ⊢
   exact ydq l _ _ (ynv h (Decidable.byContradiction hs)) hz
theorem yod:NmR rg0:=⟨by simp [rg0],by simp [rg0],by simp [rg0]⟩
section
variable {E : Oracle} (g : Good E)
include g
theorem yey (a b:List Int) (ha:a.length<=140737488355328):Fc E zji [LI a,LI b] (B (decide (a=b))):=by
 refine g.fn rfl rfl ?_
 by_cases hl:a.length=b.length
 ·repeat' ((conv=>whnf);first
 | refine Yz ?_)
  refine zaj.upP g (fun k=>[(0,LI a),(1,LI b),(5,I k)]) (fun _=>[]) (fun k=>a.take k=b.take k) a.length (fun k hk hp ih=> ?_) 0 (Nat.zero_le _) (by simp)
  by_cases hlt:k<a.length
  ·have hs:a.take (k+1)=b.take (k+1)↔a.getD k 0=b.getD k 0:=by
    have hlb:k<b.length:=by omega
    have e1:a.take (k+1)=b.take k++[a.getD k 0]:=by rw [List.take_add_one,hp];simp [List.getD,hlt]
    have e2:b.take (k+1)=b.take k++[b.getD k 0]:=by rw [List.take_add_one];simp [List.getD,hlb]
    rw [e1,e2]
    simp
   repeat' ((conv=>whnf);first
   | refine Yz ?_
    | (refine zf3.int (by omega) ?_)
    | (refine Cmp.mk (fun h=> ?_) (fun h=> ?_))
    | (refine zaj.to (ih hlt ?_) ?_ rfl)
    | (refine Ret.mk ?_))
   ·exact hs.2 (by simpa using h)
   ·simp
   ·have:¬a=b:=fun e=>by subst e;exact h rfl
    simp [this]
  ·have hk':k=a.length:=by omega
   subst hk'
   repeat' ((conv=>whnf);first
   | refine Yz ?_
    | (refine Ret.mk ?_))
   rw [List.take_of_length_le (Nat.le_refl _),List.take_of_length_le (by omega)] at hp
   simp [hp]
 ·have:¬a=b:=fun e=>hl (by rw [e])
  repeat' ((conv=>whnf);first
  | refine Yz ?_
   | (refine Ret.mk ?_))
  simp [this]
end
theorem yai {keep:List Evl.Id} {m:Mem} (h:∀p∈m,p.1∈keep\/p.1∈Evl.idsAll m) (e:Env):Evl.gc1 keep e m=m:=by
 unfold Evl.gc1
 rw [List.filter_eq_self]
 intro p hp
 rcases h p hp with h|h
 ·simp [h]
 ·simp [h]
theorem ylc {keep:List Evl.Id} {m:Mem} (h:∀p∈m,p.1∈keep\/p.1∈Evl.idsAll m) (e:Env):gc keep e m=m:=by
 unfold gc
 rw [yai h,yai h,yai h]
theorem ygm (m:Mem) (e:Env):gc (zmy m) e m=m:=ylc (fun p hp=> .inl (List.mem_map.2 ⟨p,hp,rfl⟩)) e
theorem zrq {m:Mem} {i:Evl.Id} {o:Ob} {K:Option Ob->Prop} (h:Evl.look m i=some o) (k:K (some o)):zl4 m i K:=by
 rw [zc4,h];exact k
theorem yp8 {m:Mem} {i:Evl.Id} {o:Ob} {K:Mem->Prop} (k:K (upd m i o)):zzm m i o K:=by
 rw [zex];exact k
theorem yqc {lv slot n:Nat} {m:Mem} {K:Nat->Prop} (h:freeK lv slot m=n) (k:K n):z1g lv slot m K:=by
 rw [zso,h];exact k
theorem yi1 {key:D} {es:List (D×V)} {r:Option V} {K:Option V->Prop} (h:zkb key es=some r) (k:K r):z90 key es K:=⟨⟨r,h,k⟩⟩
theorem yp7 {key:D} {x:V} {es es':List (D×V)} {K:List (D×V)->Prop} (h:setE key x es=some es') (k:K es'):ypf key x es K:=⟨⟨es',h,k⟩⟩
theorem yfp {m:Mem} {e:Env} {F:List Evl.Id->Mem->Prop} (h:F (zmy m) m):z8g m fun ks=>gcK ks e m fun m'=>F ks m':=by
 rw [zs9,z8a,ygm];exact h
theorem ymf {α:Type} {p:α->Bool} {ds:List α} {j:Nat} (hj:j<ds.length) (hp:p ds[j]=true):∃h:((ds.take j).filter p).length<(ds.filter p).length,(ds.filter p)[((ds.take j).filter p).length]=ds[j]:=by
 have h1:ds=ds.take j++ds[j]::ds.drop (j+1):=by rw [<-List.drop_eq_getElem_cons hj,List.take_append_drop]
 have h2:ds.filter p=(ds.take j).filter p++ds[j]::(ds.drop (j+1)).filter p:=by
  have:(ds.take j++ds[j]::ds.drop (j+1)).filter p=(ds.take j).filter p++ds[j]::(ds.drop (j+1)).filter p:=by
   rw [List.filter_append,List.filter_cons,if_pos hp]
  rw [<-h1] at this
  exact this
 refine⟨by rw [h2];simp,?_⟩
 simp [h2]
theorem ygf {α:Type} (p:α->Bool) (ds:List α) {j:Nat} (hj:j<ds.length):((ds.take (j+1)).filter p).length=((ds.take j).filter p).length+if p ds[j] then 1 else 0:=by
 rw [List.take_succ_eq_append_getElem hj,List.filter_append,List.length_append,List.filter_cons]
 split<;>simp
abbrev knN (l:List Evt):List (List UInt8):=zju (srK (rgL l).es)
abbrev knE (l:List Evt):List Evt:=l++[evT l]
@[irreducible] def knM (l:List Evt) (f c a b w:Int) (es:Dfm):Mem:=
 [(⟨0,4,0⟩,.cells yd6 [I f,I c]),(⟨0,5,0⟩,.cells za8 [I a,I b,I w]),(⟨0,9,0⟩,.cells zaa [I (rgL l).kn,.d (.list (rgL l).es.length ((rgL l).es.flatMap Ent.cells)),.d (.list (rgL l).rs.length ((rgL l).rs.flatMap Rmv.cells)),.d (.list (rgL l).cs.length ((rgL l).cs.flatMap Cpl.cells))]),
  (⟨0,85,0⟩,.row false zad 5 (knE l).length ((knE l).flatMap Evt.cells)),(⟨0,103,0⟩,.map (z5o 0 es))]++z83 0 es
abbrev isK:List Evl.Id:=[⟨0,4,0⟩,⟨0,5,0⟩,⟨0,9,0⟩,⟨0,85,0⟩,⟨0,103,0⟩]
section
variable (l : List Evt) (f c a b w : Int) (es : Dfm)
theorem ypp:Evl.look (knM l f c a b w es) ⟨0,5,0⟩=some (.cells za8 [I a,I b,I w]):=by unfold knM;rfl
theorem yjq:Evl.look (knM l f c a b w es) ⟨0,9,0⟩=some (.cells zaa [I (rgL l).kn,.d (.list (rgL l).es.length ((rgL l).es.flatMap Ent.cells)),.d (.list (rgL l).rs.length ((rgL l).rs.flatMap Rmv.cells)),.d (.list (rgL l).cs.length ((rgL l).cs.flatMap Cpl.cells))]):=by unfold knM;rfl
theorem ycx:Evl.look (knM l f c a b w es) ⟨0,85,0⟩=some (.row false zad 5 (knE l).length ((knE l).flatMap Evt.cells)):=by unfold knM;rfl
theorem z1p:Evl.look (knM l f c a b w es) ⟨0,103,0⟩=some (.map (z5o 0 es)):=by unfold knM;rfl
theorem ygv {s:List UInt8} {ds:List Int} (h:zvd s es=some ds):Evl.look (knM l f c a b w es) (idD (z66 s es))=some (.row false za6 1 ds.length (ds.map DI)):=by
 have:=z8k s es 0 h
 rw [Nat.zero_add] at this
 rw [<-this]
 unfold knM
 simp [Evl.look]
theorem yjr:freeK 0 238 (knM l f c a b w es)=es.length:=by
 have:=z79 es 0
 unfold knM
 simp only [List.cons_append,List.nil_append,freeK]
 simp only [this]
 cases es<;>simp
theorem ymm {s:List UInt8} {ds:List Int} (d:Int) (h:zvd s es=some ds):
  upd (upd (knM l f c a b w es) (idD (z66 s es)) (.row false za6 1 (ds.length+1) (ds.map DI++[DI d]))) ⟨0,103,0⟩ (.map (z5o 0 (zyj s d es)))=knM l f c a b w (zyj s d es):=by
 have:=yd7 s d es 0 h
 rw [Nat.zero_add] at this
 unfold knM
 rw [<-this]
 simp [upd]
theorem yjs {s:List UInt8} (d:Int) (h:zvd s es=none):
  upd (upd (knM l f c a b w es) (idD es.length) (.row false za6 1 1 [DI d])) ⟨0,103,0⟩ (.map (z5o 0 (zyj s d es)))=knM l f c a b w (zyj s d es):=by
 have:=yd8 s d es 0 h
 rw [Nat.zero_add] at this
 unfold knM
 rw [<-this]
 simp [upd]
end
theorem z84:∀(es:Dfm) (j:Nat),∀p∈z83 j es,p.1∈Evl.idsM (z5o j es)
 | [],_,p,hp=>by simp [z83] at hp
 | q::r,j,p,hp=>by
  have e:Evl.idsM (z5o j (q::r))=idD j::Evl.idsM (z5o (j+1) r):=rfl
  rw [e]
  simp only [z83,List.mem_cons] at hp
  rcases hp with rfl|hp
  ·simp
  ·exact List.mem_cons.2 (.inr (z84 r (j+1) p hp))
theorem z4f {x:Evl.Id} {i:Evl.Id} {o:Ob}:∀ {m:Mem},(i,o)∈m->x∈Evl.idsO o->x∈Evl.idsAll m
 | [],h,_=>by cases h
 | (j,q)::m,h,hx=>by
  have e:Evl.idsAll ((j,q)::m)=Evl.idsO q++Evl.idsAll m:=rfl
  rw [e]
  rcases List.mem_cons.1 h with h|h
  ·cases h
   exact List.mem_append.2 (.inl hx)
  ·exact List.mem_append.2 (.inr (z4f h hx))
theorem ygu {keep:List Evl.Id} (hk:∀i∈isK,i∈keep) (l:List Evt) (f c a b w:Int) (es:Dfm) (e:Env):gc keep e (knM l f c a b w es)=knM l f c a b w es:=by
 refine ylc (fun p hp=> ?_) e
 unfold knM at hp ⊢
 rcases List.mem_append.1 hp with hp|hp
 ·left
  refine hk _ ?_
  simp only [List.mem_cons,List.not_mem_nil,or_false] at hp
  rcases hp with rfl|rfl|rfl|rfl|rfl<;>simp
 ·right
  have:=z84 es 0 p hp
  exact z4f (i:=⟨0,103,0⟩) (o:= .map (z5o 0 es)) (List.mem_append.2 (.inl (by simp))) this
def yf7 (l:List Evt) (k d:Int) (j:Nat):Nat:=(((knN l).take j).filter fun s=>decide (zmz (rgL l) s k d≠1440)).length
theorem yna (l:List Evt) (k d:Int):(z9j (rgL l) k d).length=yf7 l k d (knN l).length:=by
 unfold z9j ykq yf7
 rw [List.length_map,List.take_length]
theorem ylq (l:List Evt) (k d:Int):(z9j (rgL l) k d).length<=(knN l).length:=by
 unfold z9j ykq
 rw [List.length_map]
 exact List.length_filter_le _ _
theorem yot {l:List Evt} {k d:Int} {j:Nat} (hj:j<(knN l).length) (hm:zmz (rgL l) (knN l)[j] k d≠1440):
  yf7 l k d j<(z9j (rgL l) k d).length/\win ((z9j (rgL l) k d).flatMap Slt.cells) (((yf7 l k d j:Nat):Int).toNat*2) 2=[.str (knN l)[j],DI (zmz (rgL l) (knN l)[j] k d)]:=by
 obtain⟨h1,h2⟩:=ymf (p:=fun s=>decide (zmz (rgL l) s k d≠1440)) hj (decide_eq_true hm)
 have h3:yf7 l k d j<(z9j (rgL l) k d).length:=by
  unfold z9j ykq
  rw [List.length_map]
  exact h1
 refine⟨h3,?_⟩
 rw [Int.toNat_natCast,zfj Slt.cells 2 yp2 _ _ h3]
 have h4:(z9j (rgL l) k d)[yf7 l k d j]? =some ⟨(knN l)[j],zmz (rgL l) (knN l)[j] k d⟩:=by
  unfold z9j ykq
  rw [List.getElem?_map]
  have:((zju (srK (rgL l).es)).filter fun s=>decide (zmz (rgL l) s k d≠1440))[yf7 l k d j]? =some (knN l)[j]:=by
   rw [<-h2]
   exact List.getElem?_eq_getElem h1
  rw [this]
  rfl
 rw [List.getElem?_eq_getElem h3] at h4
 rw [Option.some.inj h4]
 rfl
theorem yjd {l:List Evt} (k d:Int) {j:Nat} (hj:j<(knN l).length):yf7 l k d (j+1)=yf7 l k d j+if zmz (rgL l) (knN l)[j] k d=1440 then 0 else 1:=by
 unfold yf7
 rw [ygf _ _ hj]
 by_cases h:zmz (rgL l) (knN l)[j] k d=1440<;>simp [h]
theorem z58 {l:List Evt} (hz:erL l=0) {j:Nat} (hj:j<(knN l).length):zbr (knN l)[j]=true:=by
 have h1:(knN l)[j]∈srK (rgL l).es:=(zdh _).mem_iff.1 (List.getElem_mem hj)
 have key:∀(es:List Ent) (ks:List (List UInt8)),(∀x∈es,zbr x.sr=true)->(∀s∈ks,zbr s=true)->∀s∈es.foldl (fun ks x=>z3k ks x.sr) ks,zbr s=true:=by
  intro es
  induction es with
  | nil=>intro ks _ h;exact h
  | cons x es ih=>
   intro ks h1 h2
   refine ih _ (fun y hy=>h1 y (by simp [hy])) fun s hs=> ?_
   have hs:s∈z3k ks x.sr:=hs
   unfold z3k at hs
   split at hs
   ·exact h2 s hs
   ·rcases List.mem_append.1 hs with hs|hs
    ·exact h2 s hs
    ·rw [List.mem_singleton] at hs;subst hs;exact h1 x (by simp)
 exact key _ _ (ydq l rg0 0 yod hz).sr (by simp) _ h1
theorem yjg {l:List Evt} (hz:erL l=0) {s:List UInt8} (hs:zbr s=true) {k d:Int} (hk:0<=k/\k<=99999) (hd:0<=d/\d<=99999):erM l s k d=0:=by
 unfold erM
 rw [hz,hs,zlc.2 hk,zlc.2 hd]
 rfl
section
variable {E : Oracle} (g : Good E)
include g
theorem zaj.upG {cx:Cx} {live:List Nat} {keep:List Evl.Id} {body:C} {K:Ex->Env->Mem->Prop} (env:Nat->Env) (mem:Nat->Mem) (b:Nat) (hgc:∀k e,gc keep e (mem k)=mem k)
  (h:∀k,k<=b->∀K2:Ex->Env->Mem->Prop,(k<b->∀e,only live e=env (k+1)->K2 .normal e (mem (k+1)))->(∀i e m,K (.exit i) e m->K2 (.exit i) e m)->wpC E cx body (env k) (mem k) K2):
  zaj E cx live keep body (env 0) (mem 0) K:=by
 have key:∀n a,a+n=b->zaj E cx live keep body (env a) (mem a) K:=by
  intro n
  induction n with
  | zero=>
   intro a ha
   exact zaj.step g.lim (h a (by omega) _ (fun hlt=>absurd hlt (by omega)) fun i e m hk=>hk)
  | succ n ih=>
   intro a ha
   refine zaj.step g.lim (h a (by omega) _ (fun hlt e he=> ?_) fun i e m hk=>hk)
   show yev e live fun e2=>gcK keep e2 (mem (a+1)) fun m2=>zaj E cx live keep body e2 m2 K
   rw [zzz,z8a,hgc,he]
   exact ih (a+1) (by omega)
 exact key b 0 (by omega)
theorem z4v {l:List Evt} (hl:l.length<=1000) (hb:∀e∈l,e.ns.length<=1000000/\e.vs.length<=1000000) (hz:erL l=0) {s:List UInt8} (hs:zbr s=true) {k d:Int} (hk:0<=k/\k<=99999) (hd:0<=d/\d<=99999):
  Fc E zbd [LE l,S s,I k,I d] (.tup [I (zmz (rgL l) s k d),I 0]):=by
 have h:=yke g l hl hb s k d
 rw [yjg hz hs hk hd,if_pos rfl] at h
 exact h
abbrev eK1 (l:List Evt) (f c d k:Int) (ds:List Int) (i x j:Nat):Env:=[(0,LE l),(5,.ptr ⟨0,5,0⟩ 0 0),(7,I f),(8,I c),(9,.ptr ⟨0,9,0⟩ 0 0),(12,Ws (knN l)),(13,.ref ⟨0,85,0⟩ 0 (knE l).length (knE l).length),(14,.mp ⟨0,103,0⟩),
 (16,I d),(18,I k),(19,LS2 (z9j (rgL l) k d)),(21,I (yf7 l k d j:Nat)),(105,LI ds),(106,I ds.length),(107,I i),(113,.d (.list 2 [DI f,DI c])),(114,I 2),(115,I x),(135,Ws (knN l)),(136,I (knN l).length),(137,I j)]
theorem yqg {l:List Evt} (hl:l.length<=12) (hb:∀e∈l,e.ns.length<=1000000/\e.vs.length<=1000000) (hz:erL l=0) (f c:Int) {d k:Int} (hk:0<=k/\k<=99999) (hd:0<=d/\d<=99999) (ds:List Int) (i x:Nat) (m:Mem) (hN:(knN l).length<=256)
  {K:Ex->Env->Mem->Prop} (hK:K (.exit 4) (eK1 l f c d k ds i x (knN l).length++[(138,B false)]) m):
  zaj E ⟨0,1⟩ [0,5,7,8,9,12,13,14,16,18,19,21,105,106,107,113,114,115,135,136,137] (zmy m) zle (eK1 l f c d k ds i x 0) m K:=by
 refine zaj.upG g (eK1 l f c d k ds i x) (fun _=>m) (knN l).length (fun _ e=>ygm m e) fun j hj K2 hn hx=> ?_
 by_cases hlt:j<(knN l).length
 ·have hn:=hn hlt
  have hmi:=z4v g (by omega) hb hz (z58 hz hlt) hk hd
  have hcs:=yjd k d hlt
  have hat:=@yot l k d j hlt
  have hle:=ylq l k d
  have hml:((z9j (rgL l) k d).flatMap Slt.cells).length=(z9j (rgL l) k d).length*2:=zaf Slt.cells 2 yp2 _
  have hpk:∀ {K:D->Prop},K (D.str (knN l)[j])->zf3 ((knN l).map D.str) (((j:Nat):Int).toNat*1) K:=fun {K} h=>zf3.ws j rfl hlt h
  simp only [eK1] at hn
  rw [hcs] at hn
  generalize (knN l)[j]=s at *
  generalize zmz (rgL l) s k d=mi at *
  by_cases hm:mi=1440
  ·rw [if_pos hm,Nat.add_zero] at hn
   clear hat
   repeat' ((conv=>whnf);first
   | refine Yz ?_
    | (apply zah.of;assumption)
    | (refine hpk ?_)
    | (refine Cmp.ff (fun h=>h rfl) ?_)
    | (refine Cmp.tt hm ?_)
    | (exact hn _ rfl)
    | fail)
  ·rw [if_neg hm] at hn
   obtain⟨hat1,hat2⟩:=hat hm
   repeat' ((conv=>whnf);first
   | refine Yz ?_
    | (apply zah.of;assumption)
    | (refine hpk ?_)
    | (rw [hat2])
    | (refine Cmp.ff (fun h=>h rfl) ?_)
    | (refine Cmp.ff hm ?_)
    | (refine Cmp.tt ⟨rfl,rfl⟩ ?_)
    | (exact hn _ rfl)
    | fail)
 ·obtain rfl:j=(knN l).length:=by omega
  repeat' ((conv=>whnf);first
  | refine Yz ?_
   | (exact hx _ _ _ hK)
   | fail)
theorem ypz {l:List Evt} (hl:l.length<=1000) (hb:∀e∈l,e.ns.length<=1000000/\e.vs.length<=1000000) (hz:erL l=0) {k d:Int} (hk:0<=k/\k<=99999) (hd:0<=d/\d<=99999):
  Fc E zm0 [LE l,I k,I d] (.tup [LS2 (z9j (rgL l) k d),I 0]):=by
 have h:=yor g rfl l hl hb k d
 have e:erS l k d=0:=by
  unfold erS
  rw [hz,zlc.2 hk,zlc.2 hd]
  rfl
 rw [e,if_pos rfl] at h
 exact h
abbrev eK2 (l:List Evt) (f c d:Int) (ds:List Int) (i x:Nat):Env:=[(0,LE l),(5,.ptr ⟨0,5,0⟩ 0 0),(7,I f),(8,I c),(9,.ptr ⟨0,9,0⟩ 0 0),(12,Ws (knN l)),(13,.ref ⟨0,85,0⟩ 0 (knE l).length (knE l).length),(14,.mp ⟨0,103,0⟩),
 (16,I d),(105,LI ds),(106,I ds.length),(107,I i),(113,.d (.list 2 [DI f,DI c])),(114,I 2),(115,I x)]
theorem yqh {l:List Evt} (hl:l.length<=12) (hb:∀e∈l,e.ns.length<=1000000/\e.vs.length<=1000000) (hz:erL l=0) {f c d:Int} (hf:0<=f/\f<=99999) (hc:0<=c/\c<=99999) (hd:0<=d/\d<=99999) (ds:List Int) (i:Nat) (m:Mem) (hN:(knN l).length<=256)
  {K:Ex->Env->Mem->Prop} (hK:K (.exit 2) (eK2 l f c d ds i 2++[(116,B false)]) m):
  zaj E ⟨0,1⟩ [0,5,7,8,9,12,13,14,16,105,106,107,113,114,115] (zmy m) zlf (eK2 l f c d ds i 0) m K:=by
 refine zaj.upG g (eK2 l f c d ds i) (fun _=>m) 2 (fun _ e=>ygm m e) fun x hx2 K2 hn hx=> ?_
 have hcase:(x=0\/x=1)\/x=2:=by omega
 rcases hcase with hcase|rfl
 ·have hn:=hn (by omega)
  obtain⟨k,hk,hpk⟩:∃k,(0<=k/\k<=99999)/\∀ {K:D->Prop},K (DI k)->zf3 [DI f,DI c] (((x:Nat):Int).toNat*1) K:=by
   rcases hcase with rfl|rfl
   ·exact⟨f,hf,fun {K} h=>⟨⟨_,rfl,h⟩⟩⟩
   ·exact⟨c,hc,fun {K} h=>⟨⟨_,rfl,h⟩⟩⟩
  have has:=ypz g (by omega) hb hz hk hd
  have hle:=ylq l k d
  have hsl:=yna l k d
  have hlo:=@yqg E g l hl hb hz f c d k hk hd ds i x m hN
  have hx2':(x:Int)<2:=by omega
  repeat' ((conv=>whnf);first
  | refine Yz ?_
   | (apply zah.of;assumption)
   | (refine hpk ?_)
   | (refine yfp ?_)
   | (refine zaj.to (hlo ?_) rfl rfl)
   | (refine Cmp.ff (fun h=>h rfl) ?_)
   | (refine Cmp.ff (by omega) ?_)
   | (exact hn _ rfl)
   | fail)
 ·repeat' ((conv=>whnf);first
 | refine Yz ?_
   | (exact hx _ _ _ hK)
   | fail)
omit g in
theorem zah.fz {E:Oracle} {f n:Nat} {xs ys:List D} {args:List V} {K:V->Prop} (h:zah E f (.d (.list n xs)::args) K):zah E f (.d (.list n (if 0=0/\n=n then xs else ys))::args) K:=by
 rw [if_pos ⟨rfl,rfl⟩]
 exact h
def pK (l:List Evt) (f c:Int) (s:List UInt8) (d:Int):Bool:=decide (zmz (rgL l) s f d≠zmz (rgL l) s c d)
omit g in
theorem ync (p:List UInt8->Int->Bool) (d:Int) (es:Dfm) (ks:List (List UInt8)) {j:Nat} (hj:j<ks.length):stD p d es (ks.take (j+1))=if p ks[j] d then zyj ks[j] d (stD p d es (ks.take j)) else stD p d es (ks.take j):=by
 unfold stD
 rw [List.take_succ_eq_append_getElem hj,List.foldl_append]
 rfl
structure KnA (l:List Evt):Prop where
 hl:l.length<=12
 hb:∀e∈l,e.ns.length<=1000000/\e.vs.length<=1000000
 hz:erL l=0
 hk:(rgL l).kn<99999
 hk0:0<=(rgL l).kn
 hn:zll (rgL l).es sTw<0
 hN:(knN l).length<=256
omit g in
theorem KnA.bm {l:List Evt} (h:KnA l):∀e∈knE l,e.ns.length<=1000000/\e.vs.length<=1000000:=fun e he=>by
 rcases List.mem_append.1 he with he|he
 ·exact h.hb e he
 ·rw [List.mem_singleton] at he;subst he
  exact⟨by simp [evT],by simp [evT]⟩
theorem KnA.past {l:List Evt} (h:KnA l) {s:List UInt8} (hs:zbr s=true) {d:Int} (hd:0<=d/\d<=99999):Fc E zbd [LE (knE l),S s,I (rgL l).kn,I d] (.tup [I (zmz (rgL l) s (rgL l).kn d),I 0]):=by
 have h1:=h.hl
 have:=z4v g (l:=knE l) (by rw [List.length_append];simp;omega) h.bm (ych h.hz h.hl h.hk h.hk0 h.hn).1 hs (k:=(rgL l).kn) ⟨h.hk0,by have:=h.hk;omega⟩ hd
 rw [yjh h.hz h.hl h.hk h.hk0 h.hn] at this
 exact this
theorem KnA.now {l:List Evt} (h:KnA l) {d:Int} (hd:0<=d/\d<=99999):Fc E zbd [LE (knE l),S sTa,I ((rgL l).kn+1),I d] (.tup [I 5,I 0]):=by
 have h1:=h.hl
 have h2:=h.hk0
 have:=z4v g (l:=knE l) (by rw [List.length_append];simp;omega) h.bm (ych h.hz h.hl h.hk h.hk0 h.hn).1 (s:=sTa) (by decide) (k:=(rgL l).kn+1) ⟨by omega,by have:=h.hk;omega⟩ hd
 rw [ymd h.hz h.hl h.hk h.hk0 h.hn hd] at this
 exact this
abbrev eK3 (l:List Evt) (f c d:Int) (ds:List Int) (i j:Nat):Env:=[(0,LE l),(5,.ptr ⟨0,5,0⟩ 0 0),(7,I f),(8,I c),(9,.ptr ⟨0,9,0⟩ 0 0),(12,Ws (knN l)),(13,.ref ⟨0,85,0⟩ 0 (knE l).length (knE l).length),(14,.mp ⟨0,103,0⟩),
 (16,I d),(105,LI ds),(106,I ds.length),(107,I i),(175,Ws (knN l)),(176,I (knN l).length),(177,I j)]
structure Kn3 (E:Oracle) (l:List Evt) (f c d:Int) (s:List UInt8):Prop where
 m1:Fc E zbd [LE l,S s,I f,I d] (.tup [I (zmz (rgL l) s f d),I 0])
 m2:Fc E zbd [LE l,S s,I c,I d] (.tup [I (zmz (rgL l) s c d),I 0])
 m3:Fc E zbd [LE (knE l),S s,I (rgL l).kn,I d] (.tup [I (zmz (rgL l) s (rgL l).kn d),I 0])
 m4:Fc E zbd [LE l,S s,I (rgL l).kn,I d] (.tup [I (zmz (rgL l) s (rgL l).kn d),I 0])
omit g in
theorem yqd {l:List Evt} {f c d:Int} {s:List UInt8} (h3:Kn3 E l f c d s) (hN:(knN l).length<=256) (ds:List Int) (i:Nat) {j:Nat} (hlt:j<(knN l).length) (hpk:∀ {K:D->Prop},K (D.str s)->zf3 ((knN l).map D.str) (((j:Nat):Int).toNat*1) K) {m:Mem}
  (l9:Evl.look m ⟨0,9,0⟩=some (.cells zaa [I (rgL l).kn,.d (.list (rgL l).es.length ((rgL l).es.flatMap Ent.cells)),.d (.list (rgL l).rs.length ((rgL l).rs.flatMap Rmv.cells)),.d (.list (rgL l).cs.length ((rgL l).cs.flatMap Cpl.cells))]))
  (l85:Evl.look m ⟨0,85,0⟩=some (.row false zad 5 (knE l).length ((knE l).flatMap Evt.cells))) (hp:zmz (rgL l) s f d=zmz (rgL l) s c d) {K2:Ex->Env->Mem->Prop}
  (hn:∀e,only [0,5,7,8,9,12,13,14,16,105,106,107,175,176,177] e=eK3 l f c d ds i (j+1)->K2 .normal e m):wpC E ⟨0,1⟩ zcc (eK3 l f c d ds i j) m K2:=by
 obtain⟨m1,m2,m3,m4⟩:=h3
 repeat' ((conv=>whnf);first
 | refine Yz ?_
  | (refine zrq l9 ?_)
  | (refine zrq l85 ?_)
  | (refine zah.fz (xs:=(knE l).flatMap Evt.cells) ?_)
  | (refine zah.of m1 ?_)
  | (refine zah.of m2 ?_)
  | (refine zah.of m3 ?_)
  | (refine zah.of m4 ?_)
  | (refine hpk ?_)
  | (refine Cmp.ff (fun h=>h rfl) ?_)
  | (refine Cmp.tt rfl ?_)
  | (refine Cmp.ff (fun h=>h hp) ?_)
  | (exact hn _ rfl)
  | fail)
omit g in
theorem ypq {l:List Evt} {f c d:Int} {s:List UInt8} (h3:Kn3 E l f c d s) (hN:(knN l).length<=256) (ds:List Int) (i:Nat) {j:Nat} (hlt:j<(knN l).length) (hpk:∀ {K:D->Prop},K (D.str s)->zf3 ((knN l).map D.str) (((j:Nat):Int).toNat*1) K) {m:Mem}
  (l9:Evl.look m ⟨0,9,0⟩=some (.cells zaa [I (rgL l).kn,.d (.list (rgL l).es.length ((rgL l).es.flatMap Ent.cells)),.d (.list (rgL l).rs.length ((rgL l).rs.flatMap Rmv.cells)),.d (.list (rgL l).cs.length ((rgL l).cs.flatMap Cpl.cells))]))
  (l85:Evl.look m ⟨0,85,0⟩=some (.row false zad 5 (knE l).length ((knE l).flatMap Evt.cells))) (hp:¬zmz (rgL l) s f d=zmz (rgL l) s c d) {K2:Ex->Env->Mem->Prop} {em em':List (D×V)} (l103:Evl.look m ⟨0,103,0⟩=some (.map em)) (hfi:zkb (.str s) em=some none) {n:Nat} (hfr:freeK 0 238 m=n) (hse:setE (.str s) (V.ref (idD n) 0 1 1) em=some em')
  (l104:Evl.look (upd m (idD n) (.row false za6 1 1 [DI d])) ⟨0,103,0⟩=some (.map em))
  (hn:∀e,only [0,5,7,8,9,12,13,14,16,105,106,107,175,176,177] e=eK3 l f c d ds i (j+1)->K2 .normal e (upd (upd m (idD n) (.row false za6 1 1 [DI d])) ⟨0,103,0⟩ (.map em'))):wpC E ⟨0,1⟩ zcc (eK3 l f c d ds i j) m K2:=by
 obtain⟨m1,m2,m3,m4⟩:=h3
 repeat' ((conv=>whnf);first
 | refine Yz ?_
  | (refine zrq l9 ?_)
  | (refine zrq l85 ?_)
  | (refine zrq l103 ?_)
  | (refine zrq l104 ?_)
  | (refine yi1 hfi ?_)
  | (refine yp7 hse ?_)
  | (refine yp8 ?_)
  | (refine zah.fz (xs:=(knE l).flatMap Evt.cells) ?_)
  | (refine zah.of m1 ?_)
  | (refine zah.of m2 ?_)
  | (refine zah.of m3 ?_)
  | (refine zah.of m4 ?_)
  | (refine hpk ?_)
  | (refine Cmp.ff (fun h=>h rfl) ?_)
  | (refine Cmp.tt rfl ?_)
  | (refine Cmp.tt hp ?_)
  | (exact hn _ rfl)
  | (refine yqc hfr ?_)
  | fail)
omit g in
theorem ypr {l:List Evt} {f c d:Int} {s:List UInt8} (h3:Kn3 E l f c d s) (hN:(knN l).length<=256) (ds:List Int) (i:Nat) {j:Nat} (hlt:j<(knN l).length) (hpk:∀ {K:D->Prop},K (D.str s)->zf3 ((knN l).map D.str) (((j:Nat):Int).toNat*1) K) {m:Mem}
  (l9:Evl.look m ⟨0,9,0⟩=some (.cells zaa [I (rgL l).kn,.d (.list (rgL l).es.length ((rgL l).es.flatMap Ent.cells)),.d (.list (rgL l).rs.length ((rgL l).rs.flatMap Rmv.cells)),.d (.list (rgL l).cs.length ((rgL l).cs.flatMap Cpl.cells))]))
  (l85:Evl.look m ⟨0,85,0⟩=some (.row false zad 5 (knE l).length ((knE l).flatMap Evt.cells))) (hp:¬zmz (rgL l) s f d=zmz (rgL l) s c d) {K2:Ex->Env->Mem->Prop} {em em':List (D×V)} (l103:Evl.look m ⟨0,103,0⟩=some (.map em)) {q n:Nat} (hfi:zkb (.str s) em=some (some (.ref (idD q) 0 n n))) {xs:List D} (l238:Evl.look m (idD q)=some (.row false za6 1 n xs)) (hnb:n<=1000000) (hse:setE (.str s) (V.ref (idD q) 0 (n+1) (n+1)) em=some em')
  (l104:Evl.look (upd m (idD q) (.row false za6 1 (n+1) (xs++[DI d]))) ⟨0,103,0⟩=some (.map em))
  (hn:∀e,only [0,5,7,8,9,12,13,14,16,105,106,107,175,176,177] e=eK3 l f c d ds i (j+1)->K2 .normal e (upd (upd m (idD q) (.row false za6 1 (n+1) (xs++[DI d]))) ⟨0,103,0⟩ (.map em'))):wpC E ⟨0,1⟩ zcc (eK3 l f c d ds i j) m K2:=by
 obtain⟨m1,m2,m3,m4⟩:=h3
 repeat' ((conv=>whnf);first
 | refine Yz ?_
  | (refine zrq l9 ?_)
  | (refine zrq l85 ?_)
  | (refine zrq l103 ?_)
  | (refine zrq l104 ?_)
  | (refine yi1 hfi ?_)
  | (refine yp7 hse ?_)
  | (refine yp8 ?_)
  | (refine zah.fz (xs:=(knE l).flatMap Evt.cells) ?_)
  | (refine zah.of m1 ?_)
  | (refine zah.of m2 ?_)
  | (refine zah.of m3 ?_)
  | (refine zah.of m4 ?_)
  | (refine hpk ?_)
  | (refine Cmp.ff (fun h=>h rfl) ?_)
  | (refine Cmp.tt rfl ?_)
  | (refine Cmp.tt hp ?_)
  | (exact hn _ rfl)
  | (refine zrq l238 ?_)
  | (refine zeb.mk ⟨rfl,rfl,rfl,rfl,rfl,rfl,by dsimp only;omega,by first |omega|(dsimp only;omega)⟩ ?_)
  | fail)
omit g in
theorem ymp:∀(m:Mem) {i k:Evl.Id} (o:Ob),i≠k->Evl.look (upd m i o) k=Evl.look m k
 | [],i,k,o,h=>by simp [upd,Evl.look,h]
 | (j,x)::r,i,k,o,h=>by
  simp only [upd]
  split
  ·rename_i e
   subst e
   simp [Evl.look,h]
  ·simp only [Evl.look]
   rw [ymp r o h]
omit g in
theorem yps {l:List Evt} {f c d:Int} (ds:List Int) (i:Nat) {m:Mem} {K2:Ex->Env->Mem->Prop} (hK:K2 (.exit 6) (eK3 l f c d ds i (knN l).length++[(178,B false)]) m):wpC E ⟨0,1⟩ zcc (eK3 l f c d ds i (knN l).length) m K2:=by
 repeat' ((conv=>whnf);first
 | refine Yz ?_
  | (exact hK)
  | fail)
omit g in
theorem yn2 {s:List UInt8} {es:Dfm} {n:Nat} (h:(gtD s es).length<=n):∀ {ds:List Int},zvd s es=some ds->ds.length<=n:=fun {ds} h2=>by
 unfold gtD at h
 rw [h2] at h
 exact h
theorem yqi {l:List Evt} (ha:KnA l) {f c d:Int} (hf:0<=f/\f<=99999) (hc:0<=c/\c<=99999) (hd:0<=d/\d<=99999) (a b w:Int) (ds:List Int) (i:Nat) (es:Dfm) {keep:List Evl.Id} (hkp:∀i∈isK,i∈keep) (hle:∀s∈knN l,(gtD s es).length<=1000)
  {K:Ex->Env->Mem->Prop} (hK:K (.exit 6) (eK3 l f c d ds i (knN l).length++[(178,B false)]) (knM l f c a b w (stD (pK l f c) d es (knN l)))):
  zaj E ⟨0,1⟩ [0,5,7,8,9,12,13,14,16,105,106,107,175,176,177] keep zcc (eK3 l f c d ds i 0) (knM l f c a b w es) K:=by
 refine zaj.upG g (eK3 l f c d ds i) (fun j=>knM l f c a b w (stD (pK l f c) d es ((knN l).take j))) (knN l).length (fun _ e=>ygu hkp l f c a b w _ e) fun j hj K2 hn hx=> ?_
 by_cases hlt:j<(knN l).length
 ·have hn:=hn hlt
  have hs:=z58 ha.hz hlt
  have hl:=ha.hl
  have h3:Kn3 E l f c d (knN l)[j]:=⟨z4v g (by omega) ha.hb ha.hz hs hf hd,z4v g (by omega) ha.hb ha.hz hs hc hd,ha.past g hs hd,z4v g (by omega) ha.hb ha.hz hs (k:=(rgL l).kn) ⟨ha.hk0,by have:=ha.hk;omega⟩ hd⟩
  have hpk:∀ {K:D->Prop},K (D.str (knN l)[j])->zf3 ((knN l).map D.str) (((j:Nat):Int).toNat*1) K:=fun {K} h=>zf3.ws j rfl hlt h
  have hnd:(knN l).Nodup:=(zdh _).nodup_iff.2 (zw4 _)
  have hg:(gtD (knN l)[j] (stD (pK l f c) d es ((knN l).take j))).length<=1001:=by
   have h1:=ymk (pK l f c) d (knN l)[j] ((knN l).take j) es (hnd.sublist (List.take_sublist _ _))
   have h2:=hle (knN l)[j] (List.getElem_mem hlt)
   rw [h1]
   split
   ·simp;omega
   ·omega
  rw [ync _ _ _ _ hlt] at hn
  by_cases hp:zmz (rgL l) (knN l)[j] f d=zmz (rgL l) (knN l)[j] c d
  ·rw [if_neg (show ¬pK l f c (knN l)[j] d=true from fun h=>of_decide_eq_true h hp)] at hn
   exact yqd h3 ha.hN ds i hlt hpk (yjq l f c a b w _) (ycx l f c a b w _) hp hn
  ·rw [if_pos (show pK l f c (knN l)[j] d=true from decide_eq_true hp)] at hn
   have hfi:=z1c (knN l)[j] (stD (pK l f c) d es ((knN l).take j)) 0
   generalize stD (pK l f c) d es ((knN l).take j)=es1 at *
   cases hr:zvd (knN l)[j] es1 with
   | none=>
    rw [hr] at hfi
    have hse:=ydz (knN l)[j] d es1 0 hr
    rw [Nat.zero_add] at hse
    refine ypq h3 ha.hN ds i hlt hpk (yjq l f c a b w _) (ycx l f c a b w _) hp (z1p l f c a b w _) hfi (yjr l f c a b w _) hse ?_ ?_
    ·rw [ymp _ _ (by simp [idD]),z1p]
    ·rw [yjs l f c a b w es1 d hr]
     exact hn
   | some dd=>
    rw [hr,Option.map_some,Nat.zero_add] at hfi
    have hse:=ydy (knN l)[j] d es1 0 hr
    rw [Nat.zero_add] at hse
    refine ypr h3 ha.hN ds i hlt hpk (yjq l f c a b w _) (ycx l f c a b w _) hp (z1p l f c a b w _) hfi (ygv l f c a b w _ hr) (by have:=yn2 hg hr;omega) hse ?_ ?_
    ·rw [ymp _ _ (by simp [idD]),z1p]
    ·rw [ymm l f c a b w es1 d hr]
     exact hn
 ·obtain rfl:j=(knN l).length:=by omega
  refine yps ds i (hx _ _ _ ?_)
  rw [List.take_length]
  exact hK
abbrev eK4 (l:List Evt) (f c:Int) (ds:List Int) (i:Nat):Env:=[(0,LE l),(5,.ptr ⟨0,5,0⟩ 0 0),(7,I f),(8,I c),(9,.ptr ⟨0,9,0⟩ 0 0),(12,Ws (knN l)),(13,.ref ⟨0,85,0⟩ 0 (knE l).length (knE l).length),(14,.mp ⟨0,103,0⟩),(105,LI ds),(106,I ds.length),(107,I i)]
theorem yqe {l:List Evt} (ha:KnA l) {f c d:Int} (hf:0<=f/\f<=99999) (hc:0<=c/\c<=99999) (hd:0<=d/\d<=99999) {ds:List Int} (hds:ds.length<=400) {i:Nat} (hlt:i<ds.length) (hpk:∀ {K:D->Prop},K (DI d)->zf3 (ds.map DI) (((i:Nat):Int).toNat*1) K) {m m':Mem}
  (h3:∀ {K:Ex->Env->Mem->Prop},K (.exit 6) (eK3 l f c d ds i (knN l).length++[(178,B false)]) m'->zaj E ⟨0,1⟩ [0,5,7,8,9,12,13,14,16,105,106,107,175,176,177] (zmy m) zcc (eK3 l f c d ds i 0) m K)
  (l9:Evl.look m' ⟨0,9,0⟩=some (.cells zaa [I (rgL l).kn,.d (.list (rgL l).es.length ((rgL l).es.flatMap Ent.cells)),.d (.list (rgL l).rs.length ((rgL l).rs.flatMap Rmv.cells)),.d (.list (rgL l).cs.length ((rgL l).cs.flatMap Cpl.cells))]))
  (l85:Evl.look m' ⟨0,85,0⟩=some (.row false zad 5 (knE l).length ((knE l).flatMap Evt.cells))) {K2:Ex->Env->Mem->Prop}
  (hn:∀e,only [0,5,7,8,9,12,13,14,105,106,107] e=eK4 l f c ds (i+1)->K2 .normal e m'):wpC E ⟨0,1⟩ zfg (eK4 l f c ds i) m K2:=by
 have h2:=@yqh E g l ha.hl ha.hb ha.hz f c d hf hc hd ds i m ha.hN
 have hno:=ha.now g hd
 have hk0:=ha.hk0
 have hk:=ha.hk
 have hN:=ha.hN
 repeat' ((conv=>whnf);first
 | refine Yz ?_
  | (refine zrq l9 ?_)
  | (refine zrq l85 ?_)
  | (refine yfp ?_)
  | (refine zaj.to (h2 ?_) rfl rfl)
  | (refine zaj.to (h3 ?_) rfl rfl)
  | (refine zah.fz (xs:=(knE l).flatMap Evt.cells) ?_)
  | (refine zah.of hno ?_)
  | (refine hpk ?_)
  | (refine Cmp.ff (fun h=>h rfl) ?_)
  | (exact hn _ rfl)
  | fail)
omit g in
theorem ypt {l:List Evt} {f c:Int} {ds:List Int} {m:Mem} {K2:Ex->Env->Mem->Prop} (hK:K2 (.exit 0) (eK4 l f c ds ds.length++[(108,B false)]) m):wpC E ⟨0,1⟩ zfg (eK4 l f c ds ds.length) m K2:=by
 repeat' ((conv=>whnf);first
 | refine Yz ?_
  | (exact hK)
  | fail)
omit g in
theorem ycy (l:List Evt) (f c a b w:Int) (es:Dfm):∀i∈isK,i∈zmy (knM l f c a b w es):=by
 intro i hi
 unfold knM
 unfold zmy
 rw [List.map_append]
 exact List.mem_append.2 (.inl hi)
omit g in
theorem ykx (p:List UInt8->Int->Bool) (ks:List (List UInt8)) (ds:List Int) {j:Nat} (hj:j<ds.length):stA p ks (ds.take (j+1))=stD p ds[j] (stA p ks (ds.take j)) ks:=by
 unfold stA
 rw [List.take_succ_eq_append_getElem hj,List.foldl_append]
 rfl
omit g in
theorem ylg (p:List UInt8->Int->Bool) {ks:List (List UInt8)} (hk:ks.Nodup) {t:List UInt8} (ht:t∈ks) (ds:List Int):gtD t (stA p ks ds)=ds.filter (p t):=by
 have:=ylf p ks hk t ht ds []
 unfold stA
 rw [this]
 simp [gtD,zvd]
theorem yqj {l:List Evt} (ha:KnA l) {f c:Int} (hf:0<=f/\f<=99999) (hc:0<=c/\c<=99999) (a b w:Int) {ds:List Int} (hds:ds.length<=400) (hda:∀d∈ds,0<=d/\d<=99999)
  {K:Ex->Env->Mem->Prop} (hK:K (.exit 0) (eK4 l f c ds ds.length++[(108,B false)]) (knM l f c a b w (stA (pK l f c) (knN l) ds))):
  zaj E ⟨0,1⟩ [0,5,7,8,9,12,13,14,105,106,107] isK zfg (eK4 l f c ds 0) (knM l f c a b w []) K:=by
 have hnd:(knN l).Nodup:=(zdh _).nodup_iff.2 (zw4 _)
 refine zaj.upG g (eK4 l f c ds) (fun i=>knM l f c a b w (stA (pK l f c) (knN l) (ds.take i))) ds.length (fun _ e=>ygu (fun _ h=>h) l f c a b w _ e) fun i hi K2 hn hx=> ?_
 by_cases hlt:i<ds.length
 ·have hn:=hn hlt
  rw [ykx _ _ _ hlt] at hn
  refine yqe g ha hf hc (hda _ (List.getElem_mem hlt)) hds hlt (fun {K} h=>zf3.iw i rfl hlt h) (fun {K} h=>yqi g ha hf hc (hda _ (List.getElem_mem hlt)) a b w ds i _ (ycy l f c a b w _) (fun s hs=> ?_) h) (yjq l f c a b w _) (ycx l f c a b w _) hn
  rw [ylg _ hnd hs]
  have h1:=List.length_filter_le (pK l f c s) (ds.take i)
  rw [List.length_take] at h1
  omega
 ·obtain rfl:i=ds.length:=by omega
  refine ypt (hx _ _ _ ?_)
  rw [List.take_length]
  exact hK
abbrev eK5 (l:List Evt) (f c:Int) (j:Nat):Env:=[(0,LE l),(5,.ptr ⟨0,5,0⟩ 0 0),(7,I f),(8,I c),(14,.mp ⟨0,103,0⟩),(256,Ws (knN l)),(257,I (knN l).length),(258,I j)]
omit g in
theorem zah.fz2 {f n:Nat} {x:V} {xs ys:List D} {args:List V} {K:V->Prop} (h:zah E f (x:: .d (.list n xs)::args) K):zah E f (x:: .d (.list n (if 0=0/\n=n then xs else ys))::args) K:=by
 rw [if_pos ⟨rfl,rfl⟩]
 exact h
omit g in
theorem yqf {l:List Evt} {f c a b w:Int} {s:List UInt8} (hN:(knN l).length<=256) {j:Nat} (hlt:j<(knN l).length) (hpk:∀ {K:D->Prop},K (D.str s)->zf3 ((knN l).map D.str) (((j:Nat):Int).toNat*1) K) {m:Mem} {dif:List Int}
  (hdf:Fc E zf9 [LE l,S s,I f,I c,Per a b w] (.tup [LI dif,I 0])) (l5:Evl.look m ⟨0,5,0⟩=some (.cells za8 [I a,I b,I w])) {em:List (D×V)} (l103:Evl.look m ⟨0,103,0⟩=some (.map em)) {r:Option V} (hfi:zkb (.str s) em=some r)
  (hr:(r=none/\dif=[])\/∃q,r=some (.ref (idD q) 0 dif.length dif.length)/\Evl.look m (idD q)=some (.row false za6 1 dif.length (dif.map DI))) (hsi:Fc E zji [LI dif,LI dif] (B true)) {K2:Ex->Env->Mem->Prop}
  (hn:∀e,only [0,5,7,8,14,256,257,258] e=eK5 l f c (j+1)->K2 .normal e m):wpC E ⟨0,1⟩ zfh (eK5 l f c j) m K2:=by
 rcases hr with⟨rfl,rfl⟩|⟨q,rfl,l238⟩
 ·repeat' ((conv=>whnf);first
 | refine Yz ?_
   | (refine zrq l5 ?_)
   | (refine zrq l103 ?_)
   | (refine yi1 hfi ?_)
   | (refine zah.of hdf ?_)
   | (refine zah.of hsi ?_)
   | (refine hpk ?_)
   | (refine Cmp.ff (fun h=>h rfl) ?_)
   | (exact hn _ rfl)
   | fail)
 ·repeat' ((conv=>whnf);first
 | refine Yz ?_
   | (refine zrq l5 ?_)
   | (refine zrq l103 ?_)
   | (refine zrq l238 ?_)
   | (refine yi1 hfi ?_)
   | (refine zah.of hdf ?_)
   | (refine zah.fz2 (xs:=dif.map DI) ?_)
   | (refine zah.of hsi ?_)
   | (refine hpk ?_)
   | (refine Cmp.ff (fun h=>h rfl) ?_)
   | (exact hn _ rfl)
   | fail)
omit g in
theorem ypu {l:List Evt} {f c:Int} {m:Mem} {K2:Ex->Env->Mem->Prop} (hK:K2 (.exit 8) (eK5 l f c (knN l).length++[(259,B false)]) m):wpC E ⟨0,1⟩ zfh (eK5 l f c (knN l).length) m K2:=by
 repeat' ((conv=>whnf);first
 | refine Yz ?_
  | (exact hK)
  | fail)
theorem yqk {l:List Evt} (ha:KnA l) {f c a b w:Int} (hf:0<=f/\f<=99999) (hc:0<=c/\c<=99999) (hp:zh3 a b w=0) (hba:b-a<20) {keep:List Evl.Id} (hkp:∀i∈isK,i∈keep)
  {K:Ex->Env->Mem->Prop} (hK:K (.exit 8) (eK5 l f c (knN l).length++[(259,B false)]) (knM l f c a b w (stA (pK l f c) (knN l) (zgg a w (b-a+1).toNat)))):
  zaj E ⟨0,1⟩ [0,5,7,8,14,256,257,258] keep zfh (eK5 l f c 0) (knM l f c a b w (stA (pK l f c) (knN l) (zgg a w (b-a+1).toNat))) K:=by
 have hnd:(knN l).Nodup:=(zdh _).nodup_iff.2 (zw4 _)
 refine zaj.upG g (eK5 l f c) (fun _=>knM l f c a b w (stA (pK l f c) (knN l) (zgg a w (b-a+1).toNat))) (knN l).length (fun _ e=>ygu hkp l f c a b w _ e) fun j hj K2 hn hx=> ?_
 by_cases hlt:j<(knN l).length
 ·have hl:=ha.hl
  have hs:=z58 ha.hz hlt
  have hdf:=z6t g l (by omega) ha.hb (knN l)[j] f c a b w
  have e0:erD l (knN l)[j] f c a b w=0:=by
   unfold erD
   rw [ha.hz,hs,zlc.2 hf,zlc.2 hc,hp]
   rfl
  rw [e0,if_pos rfl] at hdf
  have hgt:=ylg (pK l f c) hnd (List.getElem_mem hlt) (zgg a w (b-a+1).toNat)
  have hfl:(zgg a w (b-a+1).toNat).filter (pK l f c (knN l)[j])=yiy (rgL l) (knN l)[j] f c (zgg a w (b-a+1).toNat):=rfl
  rw [hfl] at hgt
  have hlen:(yiy (rgL l) (knN l)[j] f c (zgg a w (b-a+1).toNat)).length<=1000:=by
   have h1:(yiy (rgL l) (knN l)[j] f c (zgg a w (b-a+1).toNat)).length<=(zgg a w (b-a+1).toNat).length:=List.length_filter_le _ _
   have h2:=zjw a w (b-a+1).toNat
   omega
  have hsi:=yey g (yiy (rgL l) (knN l)[j] f c (zgg a w (b-a+1).toNat)) (yiy (rgL l) (knN l)[j] f c (zgg a w (b-a+1).toNat)) (by omega)
  rw [decide_eq_true rfl] at hsi
  have hfi:=z1c (knN l)[j] (stA (pK l f c) (knN l) (zgg a w (b-a+1).toNat)) 0
  rw [Nat.zero_add] at hfi
  refine yqf ha.hN hlt (fun {K} h=>zf3.ws j rfl hlt h) hdf (ypp l f c a b w _) (z1p l f c a b w _) hfi ?_ hsi (hn hlt)
  unfold gtD at hgt
  cases hr:zvd (knN l)[j] (stA (pK l f c) (knN l) (zgg a w (b-a+1).toNat)) with
  | none=>
   rw [hr] at hgt
   exact .inl ⟨rfl,hgt.symm⟩
  | some dd=>
   rw [hr] at hgt
   obtain rfl:dd=_:=hgt
   exact .inr ⟨_,rfl,ygv l f c a b w _ hr⟩
 ·obtain rfl:j=(knN l).length:=by omega
  exact ypu (hx _ _ _ hK)
end
def yms:Mem->Mem->Bool
 | [],[]=>true
 | (i,o)::r,(j,o')::q=>decide (i=j)&&(match o,o' with
  | .cells t cs,.cells u ds=>decide (t=u)&&zxz cs ds
  | .row w t sz n xs,.row w' t' sz' n' ys=>decide (w=w')&&decide (t=t')&&decide (sz=sz')&&decide (n=n')&&zlr xs ys
  | _,_=>false)&&yms r q
 | _,_=>false
theorem yao:∀(a b:Mem),yms a b=true->a=b
 | [],[],_=>rfl
 | [],_::_,h=>by simp [yms] at h
 | _::_,[],h=>by simp [yms] at h
 | (i,o)::r,(j,o')::q,h=>by
  simp only [yms,Bool.and_eq_true,decide_eq_true_eq] at h
  obtain⟨⟨rfl,h1⟩,h2⟩:=h
  rw [yao r q h2]
  split at h1
  ·simp only [Bool.and_eq_true,decide_eq_true_eq] at h1
   obtain⟨rfl,h1⟩:=h1
   rw [zmv _ _ h1]
  ·simp only [Bool.and_eq_true,decide_eq_true_eq] at h1
   obtain⟨⟨⟨⟨rfl,rfl⟩,rfl⟩,rfl⟩,h1⟩:=h1
   rw [zgj _ _ h1]
  ·cases h1
def yn6 (o:Option (V×Mem)) (v:V) (m:Mem):Bool:=
 match o with
 | some (v',m')=>zsl v' v&&yms m' m
 | none=>false
def yn5 (cx:Cx) (slot:Nat) (m:Mem) (o:Option Res) (v:V) (m2:Mem):Bool:=
 match o with
 | some (.val v' m')=>(match Evl.settle cx slot 0 m m' v' with
  | some p=>zsl p.1 v&&yms p.2 m2
  | none=>false)
 | _=>false
section
variable {E : Oracle} (g : Good E)
include g
theorem ynp (n:Nat) {imm:Bool} {f:V} {args:List V} {m m2:Mem} {v:V} {K:V->Mem->Prop} (h:yn6 (zwa (iter code ext n) imm f args m) v m2=true) (hK:K v m2):yiu E imm f args m K:=by
 have hc:z68 (fun _=>E) E:=⟨fun _ _ _ h=>h,fun _ _=>⟨fun h=>⟨0,h⟩,fun h=>h.elim fun _ h=>h⟩⟩
 cases hr:zwa (iter code ext n) imm f args m with
 | none=>rw [hr] at h;cases h
 | some p=>
  rw [hr] at h
  simp only [yn6,Bool.and_eq_true] at h
  obtain⟨h1,h2⟩:=h
  have:=(z04 hc imm f args m).mono _ _ (fun q r=>g.lim.of_iter n q r) p hr
  exact⟨p.1,p.2,this,by rw [zu1 _ _ h1,yao _ _ h2];exact hK⟩
theorem yl4 (n:Nat) {f slot:Nat} {cx:Cx} {args:List V} {m m2:Mem} {v:V} {K:V->Mem->Prop} (h:yn5 cx slot m (iter code ext n (.call 0 f args [])) v m2=true) (hK:K v m2):zf2 E f args cx slot m K:=by
 cases hr:iter code ext n (.call 0 f args []) with
 | none=>rw [hr] at h;cases h
 | some x=>
  rw [hr] at h
  cases x with
  | st _ _ _=>cases h
  | val v1 m1=>
   simp only [yn5] at h
   split at h
   ·rename_i p hp
    simp only [Bool.and_eq_true] at h
    obtain⟨h1,h2⟩:=h
    refine⟨_,_,p,g.lim.of_iter n _ _ hr,hp,?_⟩
    rw [zu1 _ _ h1,yao _ _ h2];exact hK
   ·cases h
theorem at1:Fc E zl9 [] (.d (.agg [.str [115,105,120],.str [84],.str [],DI 60,DI 60,DI 600,DI 600,DI 2,DI 3,DI 127,DI 1])):=g.compR 1000 (by decide+kernel)
theorem at2:Fc E zkj [S [97],I 100] (.d (.agg [.str [97],.str [99],.str [65],.str [],.str [102,97,114],.str [],DI 2,DI 3,DI 127,DI 610,DI 100,DI 3,DI 0])):=g.compR 1000 (by decide+kernel)
theorem at3:Fc E zn3 [.d (.agg [.str [97],.str [99],.str [65],.str [],.str [102,97,114],.str [],DI 2,DI 3,DI 127,DI 610,DI 100,DI 3,DI 0])] (.d (.agg [.str [97],.str [99],.str [65],.str [],.str [102,97,114],.str [],DI 2,DI 3,DI 127,DI 610,DI 100,DI 3,DI 0,DI 590,DI 630,DI 20,DI 0,DI 0])):=g.compR 1000 (by decide+kernel)
theorem at4:Fc E zl5 [.d (.list 1 [.str [115,105,120],.str [84],.str [],DI 60,DI 60,DI 600,DI 600,DI 2,DI 3,DI 127,DI 1]),.d (.list 1 [.str [97],.str [99],.str [65],.str [],.str [102,97,114],.str [],DI 2,DI 3,DI 127,DI 610,DI 100,DI 3,DI 0,DI 590,DI 630,DI 20,DI 0,DI 0])] (.tup [.d (.list 1 [.str [97],DI 610,.bool true]),.d (DI 0)]):=g.compR 1000 (by decide+kernel)
theorem at6:Fc E zsv [I 610] (S [54,49,48]):=g.compR 1000 (by decide+kernel)
end
abbrev mw0:Mem:=[(⟨0,37,0⟩,.cells zeh [.ref ⟨0,37,1⟩ 0 1 1,.d (DI 5),.ref ⟨0,37,2⟩ 0 1 1,.ref ⟨0,37,3⟩ 0 0 0,.ref ⟨0,37,4⟩ 0 0 0]),(⟨0,37,1⟩,.row false zad 5 1 [DI 1,.str [101,110,116,101,114],.list 2 [.str [101],.str [97]],.list 4 [DI 5,DI 2,DI 3,DI 610],.str []]),(⟨0,37,2⟩,.row false zac 8 1 [.str [101],.str [101,110,116,101,114],.str [97],.str [],DI 5,DI 2,DI 3,DI 610]),(⟨0,37,3⟩,.row false zbl 2 0 []),(⟨0,37,4⟩,.row true zai 5 0 [])]
abbrev mw1:Mem:=[(⟨0,37,0⟩,.cells zeh [.ref ⟨0,37,1⟩ 0 0 0,.d (DI 0),.ref ⟨0,37,2⟩ 0 0 0,.ref ⟨0,37,3⟩ 0 0 0,.ref ⟨0,37,4⟩ 0 0 0]),(⟨0,37,1⟩,.row false zad 5 0 []),(⟨0,37,2⟩,.row false zac 8 0 []),(⟨0,37,3⟩,.row false zbl 2 0 []),(⟨0,37,4⟩,.row true zai 5 0 [])]
abbrev mw2:Mem:=[(⟨0,37,0⟩,.cells zeh [.ref ⟨0,37,1⟩ 0 2 2,.d (DI 8),.ref ⟨0,37,2⟩ 0 2 2,.ref ⟨0,37,3⟩ 0 0 0,.ref ⟨0,37,4⟩ 0 0 0]),(⟨0,37,1⟩,.row false zad 5 2 [DI 1,.str [101,110,116,101,114],.list 2 [.str [101],.str [97]],.list 4 [DI 5,DI 2,DI 3,DI 610],.str [],DI 2,.str [114,117,108,101],.list 2 [.str [114],.str [97]],.list 4 [DI 8,DI 2,DI 3,DI 1440],.str []]),(⟨0,37,2⟩,.row false zac 8 2 [.str [101],.str [101,110,116,101,114],.str [97],.str [],DI 5,DI 2,DI 3,DI 610,.str [114],.str [114,117,108,101],.str [97],.str [],DI 8,DI 2,DI 3,DI 1440]),(⟨0,37,3⟩,.row false zbl 2 0 []),(⟨0,37,4⟩,.row true zai 5 0 [])]
abbrev mw3:Mem:=[(⟨0,37,0⟩,.cells zeh [.ref ⟨0,37,1⟩ 0 3 3,.d (DI 9),.ref ⟨0,37,2⟩ 0 2 2,.ref ⟨0,37,3⟩ 0 1 1,.ref ⟨0,37,4⟩ 0 0 0]),(⟨0,37,1⟩,.row false zad 5 3 [DI 1,.str [101,110,116,101,114],.list 2 [.str [101],.str [97]],.list 4 [DI 5,DI 2,DI 3,DI 610],.str [],DI 2,.str [114,117,108,101],.list 2 [.str [114],.str [97]],.list 4 [DI 8,DI 2,DI 3,DI 1440],.str [],DI 3,.str [114,101,118,101,114,115,101],.list 1 [.str [114]],.list 1 [DI 9],.str []]),(⟨0,37,2⟩,.row false zac 8 2 [.str [101],.str [101,110,116,101,114],.str [97],.str [],DI 5,DI 2,DI 3,DI 610,.str [114],.str [114,117,108,101],.str [97],.str [],DI 8,DI 2,DI 3,DI 1440]),(⟨0,37,3⟩,.row false zbl 2 1 [.str [114],DI 9]),(⟨0,37,4⟩,.row true zai 5 0 [])]
section
variable {E : Oracle} (g : Good E)
include g
theorem is0 {K:V->Mem->Prop} (h:K (.ptr ⟨0,37,0⟩ 0 0) [(⟨0,37,0⟩,.cells zeh [.ref ⟨0,37,1⟩ 0 0 0,.d (DI 0),.ref ⟨0,37,2⟩ 0 0 0,.ref ⟨0,37,3⟩ 0 0 0,.ref ⟨0,37,4⟩ 0 0 0]),(⟨0,37,1⟩,.row false zad 5 0 []),(⟨0,37,2⟩,.row false zac 8 0 []),(⟨0,37,3⟩,.row false zbl 2 0 []),(⟨0,37,4⟩,.row true zai 5 0 [])]):zf2 E zst [] ⟨0,1⟩ 37 [] K:=yl4 g 1000 (by decide+kernel) h
theorem is1 {K:V->Mem->Prop} (h:K (.tup [.d (.str [100,111,110,101,32,49]),.d (DI 0)]) mw0):yiu E true (.fn zbe [] []) [.ptr ⟨0,37,0⟩ 0 0,.d (.str [101,110,116,101,114,32,101,32,97,32,53,32,50,32,51,32,54,49,48])] mw1 K:=ynp g 1000 (by decide+kernel) h
theorem is2 {K:V->Mem->Prop} (h:K (.tup [.d (.str [100,111,110,101,32,50]),.d (DI 0)]) mw2):yiu E true (.fn zbe [] []) [.ptr ⟨0,37,0⟩ 0 0,.d (.str [114,117,108,101,32,114,32,97,32,56,32,50,32,51,32,49,52,52,48])] mw0 K:=ynp g 1000 (by decide+kernel) h
theorem is3 {K:V->Mem->Prop} (h:K (.tup [.d (.str [100,111,110,101,32,51]),.d (DI 0)]) mw3):yiu E true (.fn zbe [] []) [.ptr ⟨0,37,0⟩ 0 0,.d (.str [114,101,118,101,114,115,101,32,114,32,57])] mw2 K:=ynp g 1000 (by decide+kernel) h
theorem is4 {K:V->Mem->Prop} (h:K (.tup [.d (.str [54,49,48]),.d (DI 0)]) mw3):yiu E true (.fn zbe [] []) [.ptr ⟨0,37,0⟩ 0 0,.d (.str [115,108,111,116,32,97,32,55,32,50])] mw3 K:=ynp g 1000 (by decide+kernel) h
theorem is5 {K:V->Mem->Prop} (h:K (.tup [.d (.str [110,111,110,101]),.d (DI 0)]) mw3):yiu E true (.fn zbe [] []) [.ptr ⟨0,37,0⟩ 0 0,.d (.str [115,108,111,116,32,97,32,56,32,50])] mw3 K:=ynp g 1000 (by decide+kernel) h
theorem is6 {K:V->Mem->Prop} (h:K (.tup [.d (.str [54,49,48]),.d (DI 0)]) mw3):yiu E true (.fn zbe [] []) [.ptr ⟨0,37,0⟩ 0 0,.d (.str [115,108,111,116,32,97,32,57,32,50])] mw3 K:=ynp g 1000 (by decide+kernel) h
end
section
variable {E : Oracle} (g : Good E)
include g
theorem ym7:Fc E zeg [] (B true):=by
 refine g.fn rfl rfl ?_
 repeat' ((conv=>whnf);first
 | refine Yz ?_
  | (apply zah.of;first |exact at1 g|exact at2 g|exact at3 g|exact at4 g|exact at6 g)
  | (refine is0 g ?_)
  | (first |refine is1 g ?_|refine is2 g ?_|refine is3 g ?_|refine is4 g ?_|refine is5 g ?_|refine is6 g ?_)
  | (refine zeb.mk (by simp only [yc5,List.length_cons,List.length_nil];omega) ?_)
  | (refine zaj.step g.lim ?_)
  | (exact Ret.mk rfl))
end
theorem ycc (f w:Int):∀(n:Nat),∀d∈zgg f w n,f<=d/\d<f+n
 | 0,d,h=>by simp [zgg] at h
 | n+1,d,h=>by
  simp only [zgg] at h
  rcases List.mem_append.1 h with h|h
  ·have:=ycc f w n d h
   omega
  ·split at h
   ·rw [List.mem_singleton] at h
    omega
   ·cases h
section
variable {E : Oracle} (g : Good E)
include g
theorem z2f (l:List Evt) (hl0:l.length<=9223372036854775807) (hb:∀e∈l,ynr e) (f c a b w:Int):Fc E zjt [LE l,.d (.agg [DI f,DI c]),Per a b w] (B true):=by
 have aw:=ym7 g
 have hsh:=z6o g l 12 (by decide) hl0 (fun e he=>⟨(hb e he).ns,(hb e he).vs,(hb e he).ki,(hb e he).tx,(hb e he).na⟩)
 cases h1:(decide ((l.length:Int)<=12)&&l.all zrn) with
 | false=>
  rw [h1] at hsh
  refine g.fn rfl rfl ?_
  repeat' ((conv=>whnf);first
  | refine Yz ?_
   | (apply zah.of;assumption)
   | (refine Ret.mk rfl)
   | fail)
 | true=>
 rw [h1] at hsh
 obtain⟨hl,hs⟩:=ykn h1
 have hl:l.length<=12:=by omega
 have hs':∀e∈l,e.ns.length<=1000000/\e.vs.length<=1000000:=fun e he=>by have:=hs e he;omega
 have hrp:=yj9 g l (by omega) hs'
 generalize (zew rg0 0 l).2.1=at0 at hrp
 clear hs hl0 hb h1
 have c1:=zyb g f
 have c2:=zyb g c
 have c3:=z6m g a b w
 have b1:0<=rng f 0 99999/\rng f 0 99999<=3:=by unfold rng;split<;>omega
 have b2:0<=rng c 0 99999/\rng c 0 99999<=3:=by unfold rng;split<;>omega
 have b3:0<=zh3 a b w/\zh3 a b w<=11:=by unfold zh3 rng;repeat' split<;>omega
 by_cases hg:(rng f 0 99999=0/\rng c 0 99999=0)/\zh3 a b w=0/\b-a<20
 case neg=>
  have z1:(rng f 0 99999+rng c 0 99999)+zh3 a b w=0->0<=a/\a<=b/\b<=99999/\20<=b-a:=fun h=>by
   have:=(@znq a b w).1 (by omega)
   omega
  generalize rng f 0 99999=x1 at *
  generalize rng c 0 99999=x2 at *
  generalize zh3 a b w=x3 at *
  clear hrp
  by_cases h0:(x1+x2)+x3=0
  ·have z1:=z1 h0
   refine g.fn rfl rfl ?_
   repeat' ((conv=>whnf);first
   | refine Yz ?_
    | (apply zah.of;assumption)
    | (refine Cmp.ff (fun h=>h h0) ?_)
    | (refine Ret.mk rfl)
    | fail)
  ·refine g.fn rfl rfl ?_
   repeat' ((conv=>whnf);first
   | refine Yz ?_
    | (apply zah.of;assumption)
    | (refine Cmp.tt h0 ?_)
    | (refine Ret.mk rfl)
    | fail)
 obtain⟨⟨hf,hc⟩,hp,hba⟩:=hg
 rw [hf] at c1
 rw [hc] at c2
 rw [hp] at c3
 have hp':=znq.1 hp
 have hf':0<=f/\f<=99999:=zlc.1 hf
 have hc':0<=c/\c<=99999:=zlc.1 hc
 by_cases hz:erL l=0/\(rgL l).kn<99999
 case neg=>
  by_cases h0:erL l=0
  ·have hk:99999<=(rgL l).kn:=by
    have:=fun h=>hz ⟨h0,h⟩
    omega
   rw [h0] at hrp
   generalize rgL l=r0 at *
   obtain⟨kn0,es0,rs0,cs0⟩:=r0
   change Fc E zjc [LE l] (.tup [.d (.agg [DI kn0,.list es0.length (es0.flatMap Ent.cells),.list rs0.length (rs0.flatMap Rmv.cells),.list cs0.length (cs0.flatMap Cpl.cells)]),I at0,I 0]) at hrp
   change 99999<=kn0 at hk
   clear hz h0
   refine g.fn rfl rfl ?_
   repeat' ((conv=>whnf);first
   | refine Yz ?_
    | (apply zah.of;assumption)
    | (refine Cmp.ff (fun h=>h rfl) ?_)
    | (refine Ret.mk rfl)
    | fail)
  ·generalize erL l=y at *
   generalize rgL l=r0 at *
   obtain⟨kn0,es0,rs0,cs0⟩:=r0
   change Fc E zjc [LE l] (.tup [.d (.agg [DI kn0,.list es0.length (es0.flatMap Ent.cells),.list rs0.length (rs0.flatMap Rmv.cells),.list cs0.length (cs0.flatMap Cpl.cells)]),I at0,I y]) at hrp
   clear hz
   refine g.fn rfl rfl ?_
   repeat' ((conv=>whnf);first
   | refine Yz ?_
    | (apply zah.of;assumption)
    | (refine Cmp.ff (fun h=>h rfl) ?_)
    | (refine Cmp.tt h0 ?_)
    | (refine Ret.mk rfl)
    | fail)
 obtain⟨hz,hkn⟩:=hz
 have hkn0:0<=(rgL l).kn:=(ydp l rg0 0 hz (by decide)).1
 have hes:(rgL l).es.length<=l.length:=by
  have:=z6r l rg0 0 hz
  simp only [rg0,List.length_nil,Nat.zero_add] at this
  exact this
 have hse:=yka g (rgL l) (by omega)
 have hea:=zqc g (rgL l) sTw (by omega)
 rw [hz] at hrp
 have hdo:=yj6 g a b w hp
 have hml:(l.flatMap Evt.cells).length=l.length*5:=zaf Evt.cells 5 evw l
 by_cases hn:0<=zll (rgL l).es sTw
 ·refine g.fn rfl rfl ?_
  repeat' ((conv=>whnf);first
  | refine Yz ?_
   | (apply zah.of;assumption)
   | (refine Cmp.ff (fun h=>h rfl) ?_)
   | (refine zeb.mk ⟨rfl,rfl,rfl,rfl,rfl,hml,by dsimp only;omega,by first |omega|(dsimp only;omega)⟩ ?_)
   | (refine zeb.mk ⟨rfl,rfl,rfl,rfl,rfl,rfl,by dsimp only;omega,by first |omega|(dsimp only;omega)⟩ ?_)
   | (refine Ret.mk rfl)
   | fail)
 have hnl:(knN l).length<=(rgL l).es.length:=by
  have h1:(knN l).length=(srK (rgL l).es).length:=(zdh _).length_eq
  have h2:∀(es:List Ent) (ks:List (List UInt8)),(es.foldl (fun ks x=>z3k ks x.sr) ks).length<=ks.length+es.length:=by
   intro es
   induction es with
   | nil=>intro ks;simp
   | cons x es ih=>
    intro ks
    have h3:=ih (z3k ks x.sr)
    have h4:=yb2 ks x.sr
    simp only [List.foldl_cons,List.length_cons]
    omega
  have h3:=h2 (rgL l).es []
  rw [h1]
  simpa [srK] using h3
 have ha:KnA l:=⟨hl,hs',hz,hkn,hkn0,by omega,by omega⟩
 have hdl:=zjw a w (b-a+1).toNat
 have hds:(zgg a w (b-a+1).toNat).length<=400:=by omega
 have hda:∀d∈zgg a w (b-a+1).toNat,0<=d/\d<=99999:=fun d hd=>by
  have:=ycc a w _ d hd
  omega
 refine g.fn rfl rfl ?_
 repeat' ((conv=>whnf);first
 | refine Yz ?_
  | (apply zah.of;assumption)
  | (refine Cmp.ff (fun h=>h rfl) ?_)
  | (refine zeb.mk ⟨rfl,rfl,rfl,rfl,rfl,hml,by dsimp only;omega,by first |omega|(dsimp only;omega)⟩ ?_)
  | (refine zeb.mk ⟨rfl,rfl,rfl,rfl,rfl,rfl,by dsimp only;omega,by first |omega|(dsimp only;omega)⟩ ?_)
  | fail)
 have hkl:(knE l).length=0+l.length+1:=by rw [List.length_append];simp
 have hkc:(knE l).flatMap Evt.cells=[]++l.flatMap Evt.cells++(evT l).cells:=by rw [List.flatMap_append];simp
 refine zaj.to (yqj g ha hf' hc' a b w hds hda ?_) (by unfold eK4;rw [hkl];rfl) (by unfold knM;rw [hkl,hkc];rfl)
 repeat' ((conv=>whnf);first
 | refine Yz ?_
  | (refine yfp ?_)
  | (refine zaj.to (yqk g ha hf' hc' hp hba (ycy l f c a b w _) ?_) rfl rfl)
  | (apply zah.of;assumption)
  | (refine Ret.mk rfl)
  | fail)
end
theorem yh4 {E:Oracle} (g:Good E) {xs:List D} (h:z5v Tryz.prog [22,56,58] xs):Fc E zjt (asV xs) (B true):=by
 obtain⟨x,y,z,rfl,h1,h2,h3⟩:=yph h
 obtain⟨l,rfl,hl,hb⟩:=yed h1
 obtain⟨ds,rfl,h4⟩:=ynw Tryz.underlying56 h2
 obtain⟨a,b,w,rfl,_⟩:=ylx h3
 obtain⟨ks,rfl,hk,_⟩:=z5x 2 h4
 match ks,hk with
 | [f,c],_=>exact z2f g l hl hb f c a b w
end Go.Proofs.YtnabmkmhbncidabGreatDoor.Co
