/-
  OfficeTwo returns true, for every argument: the law, and the last part of what it leans on.
-/
import Derived.Laws.RangeAny
import Derived.Lib.SplitLaws
import Derived.Test.YtcbddkeiohdocaaGreatDoorAwR
import Derived.Test.YtcbddkeiohdocaaGreatDoorEvX
import Derived.Test.YtcbddkeiohdocaaGreatDoorRead
import Derived.Test.YtcbddkeiohdocaaGreatDoorSpBase
import Derived.Test.YtcbddkeiohdocaaGreatDoorToa
/-
 Histories and differences, plain: what they say of the minute.
-/
namespace Go.Proofs.YtcbddkeiohdocaaGreatDoor.Co
open Go Go.Evl
def hisN (M:Int→Int):Int→List Int→List Turn
 | _,[]=>[]
 | last,k::ks=>if M k=last then hisN M last ks else⟨k,M k⟩::hisN M (M k) ks
theorem hisG_app (r:Rgs) (s:List UInt8) (d:Int):∀(ks:List Int) (o:List Turn) (last:Int),(hisG r s d (o,last) ks).1=o++hisN (fun k=>minE r s k d) last ks
 | [],o,last=>by simp [hisG,hisN]
 | k::ks,o,last=>by
  unfold hisG hisN
  by_cases h:minE r s k d=last
  ·rw [if_pos h,if_pos h]
   exact hisG_app r s d ks o last
  ·rw [if_neg h,if_neg h,hisG_app r s d ks,List.append_assoc]
   rfl
def okT:Turn→List Turn→Prop
 | _,[]=>True
 | b,t::ts=>b.kn<t.kn∧t.kn≤99999∧t.mi≠b.mi∧okT t ts
theorem okT_his (M:Int→Int):∀(ks:List Int) (last:Int) (b:Turn),b.mi=last→(b.kn= -1∨M b.kn=b.mi)→(∀k∈ks,b.kn≤k)→(∀k∈ks,0≤k∧k≤99999)→ks.Pairwise (·≤·)→okT b (hisN M last ks)
 | [],_,_,_,_,_,_,_=>trivial
 | k::ks,last,b,h1,h2,h3,h4,h5=>by
  obtain⟨h6,h7⟩:=List.pairwise_cons.1 h5
  unfold hisN
  have hk:=h4 k (by simp)
  have hbk:=h3 k (by simp)
  by_cases h:M k=last
  ·rw [if_pos h]
   exact okT_his M ks last b h1 h2 (fun x hx=>h3 x (by simp [hx])) (fun x hx=>h4 x (by simp [hx])) h7
  ·rw [if_neg h]
   refine⟨?_,hk.2,by dsimp only;rw [h1];exact h,okT_his M ks (M k) ⟨k,M k⟩ rfl (.inr rfl) h6 (fun x hx=>h4 x (by simp [hx])) h7⟩
   dsimp only
   by_cases e:b.kn=k
   ·rcases h2 with h2|h2
    ·omega
    ·rw [e,h1] at h2;exact absurd h2 h
   ·omega
def wantT (ts:List Turn) (k a:Int):Int:=ts.foldl (fun w t=>if t.kn≤k then t.mi else w) a
def lastM (M:Int→Int) (ks:List Int) (k a:Int):Int:=ks.foldl (fun w v=>if v≤k then M v else w) a
theorem wantT_his (M:Int→Int) (k:Int):∀(ks:List Int) (last a:Int),ks.Pairwise (·≤·)→(∀k0∈ks.head?,k0≤k→a=last)→wantT (hisN M last ks) k a=lastM M ks k a
 | [],_,_,_,_=>rfl
 | k0::ks,last,a,hp,ha=>by
  obtain⟨h6,h7⟩:=List.pairwise_cons.1 hp
  have hhd:∀k1∈ks.head?,k0≤k1:=fun k1 h=>h6 k1 (by cases ks<;>simp_all)
  unfold hisN
  have hl:lastM M (k0::ks) k a=lastM M ks k (if k0≤k then M k0 else a):=rfl
  rw [hl]
  by_cases hk:k0≤k
  ·have ha:=ha k0 (by simp) hk
   rw [if_pos hk]
   by_cases h:M k0=last
   ·rw [if_pos h,h]
    rw [wantT_his M k ks last a h7 (fun _ _ _=>ha),ha]
   ·rw [if_neg h]
    have:wantT (⟨k0,M k0⟩::hisN M (M k0) ks) k a=wantT (hisN M (M k0) ks) k (M k0):=by
     unfold wantT
     rw [List.foldl_cons,if_pos hk]
    rw [this]
    exact wantT_his M k ks (M k0) (M k0) h7 (fun _ _ _=>rfl)
  ·rw [if_neg hk]
   have hno:∀(b:Int),∀k1∈ks.head?,k1≤k→a=b:=fun b k1 h1 h2=>by
    have:=hhd k1 h1
    omega
   by_cases h:M k0=last
   ·rw [if_pos h]
    exact wantT_his M k ks last a h7 (hno last)
   ·rw [if_neg h]
    have:wantT (⟨k0,M k0⟩::hisN M (M k0) ks) k a=wantT (hisN M (M k0) ks) k a:=by
     unfold wantT
     rw [List.foldl_cons,if_neg hk]
    rw [this]
    exact wantT_his M k ks (M k0) a h7 (hno _)
theorem lastM_val (M:Int→Int) (k:Int):∀(ks:List Int) (a:Int),ks.Pairwise (·≤·)→((∀v∈ks,¬v≤k)∧lastM M ks k a=a)∨∃v∈ks,v≤k∧lastM M ks k a=M v∧∀u∈ks,u≤k→u≤v
 | [],a,_=> .inl ⟨by simp,rfl⟩
 | k0::ks,a,hp=>by
  obtain⟨h6,h7⟩:=List.pairwise_cons.1 hp
  have hl:lastM M (k0::ks) k a=lastM M ks k (if k0≤k then M k0 else a):=rfl
  rw [hl]
  rcases lastM_val M k ks (if k0≤k then M k0 else a) h7 with⟨h1,h2⟩|⟨v,hv,h1,h2,h3⟩
  ·rw [h2]
   by_cases hk:k0≤k
   ·rw [if_pos hk]
    refine .inr ⟨k0,by simp,hk,rfl,fun u hu huk=> ?_⟩
    rcases List.mem_cons.1 hu with rfl|hu
    ·exact Int.le_refl _
    ·exact absurd huk (h1 u hu)
   ·rw [if_neg hk]
    refine .inl ⟨fun u hu=> ?_,rfl⟩
    rcases List.mem_cons.1 hu with rfl|hu
    ·exact hk
    ·exact h1 u hu
  ·refine .inr ⟨v,by simp [hv],h1,h2,fun u hu huk=> ?_⟩
   rcases List.mem_cons.1 hu with rfl|hu
   ·exact h6 v hv
   ·exact h3 u hu huk
structure KnR (r:Rgs) (ks:List Int):Prop where
 es:∀x∈r.es,x.kn∈ks
 rs:∀z∈r.rs,z.kn∈ks
theorem remB_congr {rs:List Rmv} {k1 k2:Int} (h:∀z∈rs,z.kn≤k1↔z.kn≤k2) (nm:List UInt8):remB rs nm k1=remB rs nm k2:=by
 unfold remB
 induction rs with
 | nil=>rfl
 | cons z rs ih=>
  rw [List.any_cons,List.any_cons,ih fun y hy=>h y (by simp [hy])]
  have:=h z (by simp)
  congr 1
  by_cases e:z.en=nm<;>simp [e,this]
theorem cntE_congr {r:Rgs} {ks:List Int} (hk:KnR r ks) {k1 k2:Int} (h:∀v∈ks,v≤k1↔v≤k2) {x:Ent} (hx:x∈r.es):cntE r x k1=cntE r x k2:=by
 unfold cntE
 have h1:decide (x.kn≤k1)=decide (x.kn≤k2):=by
  have:=h _ (hk.es x hx)
  simp [this]
 have h2:∀y:Ent,remB r.rs y.nm k1=remB r.rs y.nm k2:=fun y=>remB_congr (fun z hz=>h _ (hk.rs z hz)) y.nm
 rw [h1]
 simp only [h2]
theorem fold_congr {α:Type} (p q:α→Bool) (f:α→Int):∀(l:List α) (a:Int),(∀x∈l,p x=q x)→l.foldl (fun o x=>if p x then f x else o) a=l.foldl (fun o x=>if q x then f x else o) a
 | [],_,_=>rfl
 | x::l,a,h=>by
  rw [List.foldl_cons,List.foldl_cons,h x (by simp)]
  exact fold_congr p q f l _ fun y hy=>h y (by simp [hy])
theorem minE_congr {r:Rgs} {ks:List Int} (hk:KnR r ks) {k1 k2:Int} (h:∀v∈ks,v≤k1↔v≤k2) (s:List UInt8) (d:Int):minE r s k1 d=minE r s k2 d:=by
 unfold minE
 refine fold_congr _ _ _ _ _ fun x hx=> ?_
 unfold hitE
 rw [cntE_congr hk h hx]
theorem minE_before {r:Rgs} {ks:List Int} (hk:KnR r ks) {k:Int} (h:∀v∈ks,¬v≤k) (s:List UInt8) (d:Int):minE r s k d=1440:=by
 refine minE_none fun j hj=> ?_
 have:=h _ (hk.es _ (List.getElem_mem hj))
 unfold hitE cntE
 rw [decide_eq_false this]
 simp
theorem want_min {r:Rgs} {ks:List Int} (hk:KnR r ks) (hp:ks.Pairwise (·≤·)) (s:List UInt8) (d k:Int):wantT (hisN (fun k=>minE r s k d) 1440 ks) k 1440=minE r s k d:=by
 rw [wantT_his _ k ks 1440 1440 hp (fun _ _ _=>rfl)]
 rcases lastM_val (fun k=>minE r s k d) k ks 1440 hp with⟨h1,h2⟩|⟨v,hv,h1,h2,h3⟩
 ·rw [h2,minE_before hk h1]
 ·rw [h2]
  refine minE_congr hk (fun u hu=>⟨fun h=> ?_,fun h=>h3 u hu h⟩) s d
  omega
theorem aft_kn (r:Rgs) (e:Evt):(aftE r e).kn=vlN e 0:=by
 unfold aftE
 split
 ·rfl
 ·split
  ·rfl
  ·split<;>rfl
theorem aft_know {r:Rgs} {ks:List Int} (hk:KnR r ks) (e:Evt):KnR (aftE r e) (ks++[vlN e 0]):=by
 have h1:∀x∈r.es,x.kn∈ks++[vlN e 0]:=fun x hx=>List.mem_append_left _ (hk.es x hx)
 have h2:∀z∈r.rs,z.kn∈ks++[vlN e 0]:=fun z hz=>List.mem_append_left _ (hk.rs z hz)
 unfold aftE
 split
 ·refine⟨fun x hx=> ?_,h2⟩
  rcases List.mem_append.1 hx with hx|hx
  ·exact h1 x hx
  ·rw [List.mem_singleton] at hx;subst hx
   simp [entOf]
 ·split
  ·refine⟨h1,fun z hz=> ?_⟩
   rcases List.mem_append.1 hz with hz|hz
   ·exact h2 z hz
   ·rw [List.mem_singleton] at hz;subst hz
    simp
  ·split
   ·exact⟨h1,h2⟩
   ·refine⟨h1,fun z hz=> ?_⟩
    dsimp only at hz
    split at hz
    ·rcases List.mem_append.1 hz with hz|hz
     ·exact h2 z hz
     ·rw [List.mem_singleton] at hz;subst hz
      simp
    ·exact h2 z hz
theorem replG_know:∀(l:List Evt) (r:Rgs) (n:Nat) (ks:List Int),KnR r ks→(replG r n l).2.2=0→KnR (replG r n l).1 (ks++l.map fun e=>vlN e 0)
 | [],r,n,ks,hk,_=>by simpa [replG] using hk
 | e::l,r,n,ks,hk,h=>by
  rw [replG_cons] at h ⊢
  by_cases hs:stepE r n e≠0
  ·rw [if_pos hs] at h;exact absurd h hs
  ·rw [if_neg hs] at h ⊢
   have:=replG_know l (aftE r e) (n+1) (ks++[vlN e 0]) (aft_know hk e) h
   simpa using this
theorem replG_days:∀(l:List Evt) (r:Rgs) (n:Nat),(replG r n l).2.2=0→(l.map fun e=>vlN e 0).Pairwise (·≤·)∧∀k∈l.map fun e=>vlN e 0,r.kn≤k∧k≤99999
 | [],_,_,_=>⟨List.Pairwise.nil,by simp⟩
 | e::l,r,n,h=>by
  rw [replG_cons] at h
  by_cases hs:stepE r n e≠0
  ·rw [if_pos hs] at h;exact absurd h hs
  ·rw [if_neg hs] at h
   obtain⟨h1,h2⟩:=replG_days l _ _ h
   obtain⟨_,b2,b3,_⟩:=acc_ok (step_ok (Decidable.byContradiction hs)).2
   rw [aft_kn] at h2
   refine⟨?_,fun k hk=> ?_⟩
   ·rw [List.map_cons,List.pairwise_cons]
    exact⟨fun k hk=>(h2 k hk).1,h1⟩
   ·rw [List.map_cons,List.mem_cons] at hk
    rcases hk with rfl|hk
    ·exact⟨b2,b3⟩
    ·have:=h2 k hk;omega
theorem difL_comm (r:Rgs) (s:List UInt8) (f c:Int) (ds:List Int):difL r s f c ds=difL r s c f ds:=by
 unfold difL
 congr 1
 funext d
 by_cases h:minE r s f d=minE r s c d<;>simp [h,eq_comm]
theorem filter_at {p:Int→Bool} {ds:List Int} {j:Nat} (hj:j<ds.length):p ds[j]=true→∃h:((ds.take j).filter p).length<(ds.filter p).length,(ds.filter p)[((ds.take j).filter p).length]=ds[j]:=by
 intro hp
 have h1:ds=ds.take j++ds[j]::ds.drop (j+1):=by rw [←List.drop_eq_getElem_cons hj,List.take_append_drop]
 have h2:ds.filter p=(ds.take j).filter p++ds[j]::(ds.drop (j+1)).filter p:=by
  have:(ds.take j++ds[j]::ds.drop (j+1)).filter p=(ds.take j).filter p++ds[j]::(ds.drop (j+1)).filter p:=by
   rw [List.filter_append,List.filter_cons,if_pos hp]
  rw [←h1] at this
  exact this
 refine⟨by rw [h2];simp,?_⟩
 simp [h2]
theorem filter_not {p:Int→Bool} {ds:List Int} (hs:ds.Pairwise (·<·)) {j:Nat} (hj:j<ds.length) (hp:p ds[j]=false) (h:((ds.take j).filter p).length<(ds.filter p).length):(ds.filter p)[((ds.take j).filter p).length]≠ds[j]:=by
 have h1:ds=ds.take j++ds[j]::ds.drop (j+1):=by rw [←List.drop_eq_getElem_cons hj,List.take_append_drop]
 have h2:ds.filter p=(ds.take j).filter p++(ds.drop (j+1)).filter p:=by
  have:(ds.take j++ds[j]::ds.drop (j+1)).filter p=(ds.take j).filter p++(ds.drop (j+1)).filter p:=by
   rw [List.filter_append,List.filter_cons,if_neg (by rw [hp];decide)]
  rw [←h1] at this
  exact this
 have h3:(ds.filter p)[((ds.take j).filter p).length]∈(ds.drop (j+1)).filter p:=by
  simp only [h2]
  rw [List.getElem_append_right (Nat.le_refl _)]
  exact List.getElem_mem _
 have h4:=(List.mem_filter.1 h3).1
 obtain⟨i,hi,e⟩:=List.mem_iff_getElem.1 h4
 rw [List.getElem_drop] at e
 rw [List.length_drop] at hi
 have:=List.pairwise_iff_getElem.1 hs j (j+1+i) hj (by omega) (by omega)
 omega
end Go.Proofs.YtcbddkeiohdocaaGreatDoor.Co
/-
 Canonical periods, the plain law: the weeks' masks, and the state after each day.
-/
namespace Go.Proofs.YtcbddkeiohdocaaGreatDoor.Co
open Go Go.Evl
end Go.Proofs.YtcbddkeiohdocaaGreatDoor.Co
/-
 Years, months, days: what the reference's functions give.
-/
namespace Go.Proofs.YtcbddkeiohdocaaGreatDoor.Co
open Go Go.Evl
end Go.Proofs.YtcbddkeiohdocaaGreatDoor.Co
/-
 Sundays, and zones with summer time.
-/
namespace Go.Proofs.YtcbddkeiohdocaaGreatDoor.Co
open Go Go.Evl
end Go.Proofs.YtcbddkeiohdocaaGreatDoor.Co
/-
 Zones: errors, offsets, local moments.
-/
namespace Go.Proofs.YtcbddkeiohdocaaGreatDoor.Co
open Go Go.Evl
end Go.Proofs.YtcbddkeiohdocaaGreatDoor.Co
/-
 Lists in ascending order; the universal moments of a local one, as lists.
-/
namespace Go.Proofs.YtcbddkeiohdocaaGreatDoor.Co
open Go Go.Evl
end Go.Proofs.YtcbddkeiohdocaaGreatDoor.Co
/-
 Permutations: what the program's Draw and the reference's give; equal lists.
-/
namespace Go.Proofs.YtcbddkeiohdocaaGreatDoor.Co
open Go Go.Evl
end Go.Proofs.YtcbddkeiohdocaaGreatDoor.Co
/-
 Universal: the program's and the reference's.
-/
namespace Go.Proofs.YtcbddkeiohdocaaGreatDoor.Co
open Go Go.Evl
theorem Pick.at {l:List Int} {n:Nat} {K:D→Prop} (p:Nat) (hp:n=p) (h:p<l.length) (hk:K (DI (l.getD p 0))):Pick (l.map DI) n K:=by
 subst hp
 refine⟨⟨_,?_,hk⟩⟩
 simp [List.getD,h]
end Go.Proofs.YtcbddkeiohdocaaGreatDoor.Co
/-
 Join: the program's and the reference's.
-/
namespace Go.Proofs.YtcbddkeiohdocaaGreatDoor.Co
open Go Go.Evl
end Go.Proofs.YtcbddkeiohdocaaGreatDoor.Co
/-
 Moved periods: what the program's function and the reference's give.
-/
namespace Go.Proofs.YtcbddkeiohdocaaGreatDoor.Co
open Go Go.Evl
end Go.Proofs.YtcbddkeiohdocaaGreatDoor.Co
/-
 Canonical periods cover the days: the plain law.
-/
namespace Go.Proofs.YtcbddkeiohdocaaGreatDoor.Co
open Go Go.Evl
theorem daysP_spec (f d:Int):∀n:Nat,(daysP f d n).Pairwise (·<·)∧∀x,x∈daysP f d n↔(f≤x∧x<f+n)∧inM d ((x+5)%7)=true
 | 0=>⟨by simp [daysP],fun x=>by simp [daysP];intro h1 h2;omega⟩
 | n+1=>by
  obtain⟨h1,h2⟩:=daysP_spec f d n
  have hs:daysP f d (n+1)=daysP f d n++if inM d ((f+n+5)%7) then [f+(n:Int)] else []:=rfl
  rw [hs]
  refine⟨List.pairwise_append.2 ⟨h1,by split<;>simp,fun x hx y hy=> ?_⟩,fun x=> ?_⟩
  ·have:=(h2 x).1 hx
   split at hy
   ·rw [List.mem_singleton] at hy;omega
   ·simp at hy
  ·rw [List.mem_append,h2]
   by_cases hp:inM d ((f+n+5)%7)=true
   ·rw [if_pos hp,List.mem_singleton]
    constructor
    ·rintro(h|h)
     ·exact⟨by omega,h.2⟩
     ·subst h;exact⟨by omega,hp⟩
    ·rintro⟨h3,h4⟩
     by_cases e:x=f+n
     ·exact .inr e
     ·exact .inl ⟨by omega,h4⟩
   ·rw [if_neg hp]
    constructor
    ·rintro(h|h)
     ·exact⟨by omega,h.2⟩
     ·simp at h
    ·rintro⟨h3,h4⟩
     by_cases e:x=f+n
     ·subst e;exact absurd h4 hp
     ·exact .inl ⟨by omega,h4⟩
end Go.Proofs.YtcbddkeiohdocaaGreatDoor.Co
/-
 OfficeSteps returns true, for every list of events and every question.
-/
namespace Go.Proofs.YtcbddkeiohdocaaGreatDoor.Co
open Go Go.Evl
set_option maxRecDepth 100000
theorem dayE3 {f c d:Int} (h:dayE [f,c,d]=0):(0≤f∧f≤99999)∧(0≤c∧c≤99999)∧(0≤d∧d≤99999):=by
 unfold dayE at h
 rw [firstI_zero] at h
 have h1:=h (rng f 0 99999) (by simp)
 have h2:=h (rng c 0 99999) (by simp)
 have h3:=h (rng d 0 99999) (by simp)
 unfold rng at h1 h2 h3
 split at h1
 ·omega
 split at h2
 ·omega
 split at h3
 ·omega
 omega
theorem erM_ok {l:List Evt} {s:List UInt8} {k d:Int} (h0:erL l=0) (hn:isNameB s=true) (hk:0≤k∧k≤99999) (hd:0≤d∧d≤99999):erM l s k d=0:=by
 unfold erM
 rw [h0,hn,show rng k 0 99999=0 from if_neg (by omega),show rng d 0 99999=0 from if_neg (by omega)]
 rfl
theorem wantT_take (h:List Turn) (k:Int) (j:Nat) (hj:j<h.length):wantT (h.take (j+1)) k 1440=if h[j].kn≤k then h[j].mi else wantT (h.take j) k 1440:=by
 rw [List.take_succ_eq_append_getElem hj,wantT,List.foldl_append]
 rfl
section
variable {E : Oracle} (g : Good E)
include g
theorem v_days3 (a b c:Int):Fc E n_ref10_CheckDays [.d (.list 3 [DI a,DI b,DI c])] (I (dayE [a,b,c])):=r_CheckDays g [a,b,c] (by simp)
set_option maxHeartbeats 64000000 in
theorem w_OfficeSteps (l:List Evt) (x:Askd) (hl0:l.length≤9223372036854775807) (hb:∀e∈l,BigE e) (hx:BigA x):Fc E n_law10_OfficeSteps [LE l,Asv x] (B true):=by
 have aw:=s_awake g
 have hsh:=r_ShortEvents g l 16 (by decide) hl0 (fun e he=>⟨(hb e he).ns,(hb e he).vs,(hb e he).ki,(hb e he).tx,(hb e he).na⟩)
 have hsx:=v_short g x hx
 have p4:=r_IsName g x.sr
 have p6:=v_days3 g x.f x.c x.d
 have p8:=r_CheckPeriod g x.a x.b x.w
 cases h1:(decide ((l.length:Int)≤16)&&l.all shortB) with
 | false=>
  rw [h1] at hsh
  obtain⟨sr,en,f,c,d,a,b,w⟩:=x
  change Fc E n_law10_OfficeSteps [LE l,.d (.agg [.str sr,.str en,DI f,DI c,DI d,DI a,DI b,DI w])] _
  refine g.fn rfl rfl ?_
  repeat' ((conv=>whnf);first
  | refine Yz ?_
   | (apply CallI.of;assumption)
   | (refine Ret.mk rfl)
   | fail)
 | true=>
 rw [h1] at hsh
 obtain⟨hl,hs⟩:=short_bd h1
 have hl:l.length≤16:=by omega
 have hs':∀e∈l,e.ns.length≤1000000∧e.vs.length≤1000000:=fun e he=>by have:=hs e he;omega
 cases h2:shortA x with
 | false=>
  rw [h2] at hsx
  obtain⟨sr,en,f,c,d,a,b,w⟩:=x
  change Fc E n_law10_OfficeSteps [LE l,.d (.agg [.str sr,.str en,DI f,DI c,DI d,DI a,DI b,DI w])] _
  refine g.fn rfl rfl ?_
  repeat' ((conv=>whnf);first
  | refine Yz ?_
   | (apply CallI.of;assumption)
   | (refine Ret.mk rfl)
   | fail)
 | true=>
 rw [h2] at hsx
 cases h3:isNameB x.sr with
 | false=>
  rw [h3] at p4
  obtain⟨sr,en,f,c,d,a,b,w⟩:=x
  change Fc E n_law10_OfficeSteps [LE l,.d (.agg [.str sr,.str en,DI f,DI c,DI d,DI a,DI b,DI w])] _
  refine g.fn rfl rfl ?_
  repeat' ((conv=>whnf);first
  | refine Yz ?_
   | (apply CallI.of;assumption)
   | (refine Ret.mk rfl)
   | fail)
 | true=>
 rw [h3] at p4
 by_cases h4:dayE [x.f,x.c,x.d]≠0
 ·obtain⟨sr,en,f,c,d,a,b,w⟩:=x
  change Fc E n_law10_OfficeSteps [LE l,.d (.agg [.str sr,.str en,DI f,DI c,DI d,DI a,DI b,DI w])] _
  refine g.fn rfl rfl ?_
  repeat' ((conv=>whnf);first
  | refine Yz ?_
   | (apply CallI.of;assumption)
   | (refine Cmp.tt h4 ?_)
   | (refine Ret.mk rfl)
   | fail)
 have h4:=Decidable.byContradiction h4
 rw [h4] at p6
 by_cases h5:chkPer x.a x.b x.w≠0
 ·obtain⟨sr,en,f,c,d,a,b,w⟩:=x
  change Fc E n_law10_OfficeSteps [LE l,.d (.agg [.str sr,.str en,DI f,DI c,DI d,DI a,DI b,DI w])] _
  refine g.fn rfl rfl ?_
  repeat' ((conv=>whnf);first
  | refine Yz ?_
   | (apply CallI.of;assumption)
   | (refine Cmp.tt h5 ?_)
   | (refine Ret.mk rfl)
   | fail)
 have h5:=Decidable.byContradiction h5
 rw [h5] at p8
 have p3:=r_Replay g l (by omega) hs'
 by_cases h6:erL l≠0
 ·obtain⟨sr,en,f,c,d,a,b,w⟩:=x
  change Fc E n_law10_OfficeSteps [LE l,.d (.agg [.str sr,.str en,DI f,DI c,DI d,DI a,DI b,DI w])] _
  refine g.fn rfl rfl ?_
  repeat' ((conv=>whnf);first
  | refine Yz ?_
   | (apply CallI.of;assumption)
   | (refine Cmp.tt h6 ?_)
   | (refine Ret.mk rfl)
   | fail)
 have h6:=Decidable.byContradiction h6
 rw [h6] at p3
 have p1:=s_History g l (by omega) hs' x.sr x.d
 have p2:=s_Differences g l (by omega) hs' x.sr x.f x.c x.a x.b x.w
 have p2':=s_Differences g l (by omega) hs' x.sr x.c x.f x.a x.b x.w
 have pM:=s_Minute g l (by omega) hs' x.sr
 have ho:OkR (rgL l):=rgL_ok (by omega) h6
 have hp0:=h5
 rw [chkPer_zero] at hp0
 obtain⟨hf,hc,hd⟩:=dayE3 h4
 have e1:erH l x.sr x.d=0:=by
  rw [er_one,h6,h3,dayE,List.map_cons,List.map_nil,show rng x.d 0 99999=0 from if_neg (by omega)];rfl
 have e2:erD l x.sr x.f x.c x.a x.b x.w=0:=by
  rw [er_two,h6,h3,h5,dayE,List.map_cons,List.map_cons,List.map_nil,show rng x.f 0 99999=0 from if_neg (by omega),show rng x.c 0 99999=0 from if_neg (by omega)];rfl
 have e2':erD l x.sr x.c x.f x.a x.b x.w=0:=by
  rw [er_two,h6,h3,h5,dayE,List.map_cons,List.map_cons,List.map_nil,show rng x.f 0 99999=0 from if_neg (by omega),show rng x.c 0 99999=0 from if_neg (by omega)];rfl
 rw [e1,if_pos rfl] at p1
 rw [e2,if_pos rfl] at p2
 rw [e2',if_pos rfl,difL_comm] at p2'
 have hM:∀k dd,0≤k∧k≤99999→0≤dd∧dd≤99999→Fc E n_office_Minute [LE l,S x.sr,I k,I dd] (.tup [I (minE (rgL l) x.sr k dd),I 0]):=fun k dd hk hdd=>by
  have:=pM k dd
  rw [erM_ok h6 h3 hk hdd,if_pos rfl] at this
  exact this
 have ht:=hisE_len (rgL l) x.sr x.d l
 have hdl:(daysP x.a x.w (x.b-x.a+1).toNat).length≤401:=by
  have:=daysP_length x.a x.w (x.b-x.a+1).toNat
  omega
 obtain⟨hds,hdm⟩:=daysP_spec x.a x.w (x.b-x.a+1).toNat
 have hdr:∀j,(hj:j<(daysP x.a x.w (x.b-x.a+1).toNat).length)→0≤(daysP x.a x.w (x.b-x.a+1).toNat)[j]∧(daysP x.a x.w (x.b-x.a+1).toNat)[j]≤99999:=fun j hj=>by
  have:=((hdm _).1 (List.getElem_mem hj)).1
  omega
 have q4:=r_DaysOf g x.a x.b x.w h5
 have hkn:=replG_know l rg0 0 [] ⟨by simp [rg0],by simp [rg0]⟩ h6
 rw [List.nil_append] at hkn
 obtain⟨hsrt,hrg⟩:=replG_days l rg0 0 h6
 have hT:hisE (rgL l) x.sr x.d l=hisN (fun k=>minE (rgL l) x.sr k x.d) 1440 (l.map fun e=>vlN e 0):=by
  unfold hisE
  rw [hisG_app,List.nil_append]
 have hok:okT ⟨-1,1440⟩ (hisE (rgL l) x.sr x.d l):=by
  rw [hT]
  refine okT_his _ _ _ _ rfl (.inl rfl) (fun k hk=> ?_) (fun k hk=> ?_) hsrt
  ·have:=(hrg k hk).1
   simp only [rg0] at this
   dsimp only
   omega
  ·have:=hrg k hk
   simp only [rg0] at this
   omega
 have hw:∀k,wantT (hisE (rgL l) x.sr x.d l) k 1440=minE (rgL l) x.sr k x.d:=fun k=>by rw [hT];exact want_min hkn hsrt x.sr x.d k
 have hsu:(difL (rgL l) x.sr x.f x.c (daysP x.a x.w (x.b-x.a+1).toNat)).length≤401:=Nat.le_trans (List.length_filter_le _ _) hdl
 have q3:=r_SameI g (difL (rgL l) x.sr x.f x.c (daysP x.a x.w (x.b-x.a+1).toNat)) (by omega)
 clear hT hkn hsrt hrg hdm pM e1 e2 e2' h1 h2 hs hb hx
 generalize hisE (rgL l) x.sr x.d l=h at *
 generalize hDS:daysP x.a x.w (x.b-x.a+1).toNat=ds at *
 have hU:difL (rgL l) x.sr x.f x.c ds=ds.filter fun d=>decide (minE (rgL l) x.sr x.f d≠minE (rgL l) x.sr x.c d):=rfl
 generalize difL (rgL l) x.sr x.f x.c ds=u at *
 obtain⟨sr,en,f,c,d,a,b,w⟩:=x
 dsimp only at *
 have hmh:(h.flatMap Turn.cells).length=h.length*2:=flatR_length Turn.cells 2 turnw h
 have hf2:0≤f/2∧f/2≤99999:=by omega
 change Fc E n_law10_OfficeSteps [LE l,.d (.agg [.str sr,.str en,DI f,DI c,DI d,DI a,DI b,DI w])] _
 refine g.fn rfl rfl ?_
 repeat' ((conv=>whnf);first
 | refine Yz ?_
  | (apply CallI.of;assumption)
  | fail)
 refine LoopW.to (LoopW.by (σ:=Nat×Turn) g (fun s=>s.1≤h.length∧okT s.2 (h.drop s.1))
  (fun s=>[(0,LE l),(3,.ptr ⟨0,3,0⟩ 0 0),(8,LT h),(10,.ptr ⟨0,10,0⟩ 0 0),(91,LT h),(92,I h.length),(93,I s.1)])
  (fun s=>[(⟨0,3,0⟩,.cells ty_turnroundlaw10_Asked [S sr,S en,I f,I c,I d,I a,I b,I w]),bxR 5 (rgL l),(⟨0,10,0⟩,.cells ty_office_Turn [I s.2.kn,I s.2.mi])])
  (fun s=>h.length-s.1) ?_ (0,⟨-1,1440⟩) ⟨Nat.zero_le _,hok⟩) rfl rfl
 clear hok
 rintro⟨k,bt⟩ ⟨i1,i2⟩ ih
 dsimp only at i1 i2 ih ⊢
 by_cases hlt:k<h.length
 ·rw [List.drop_eq_getElem_cons hlt] at i2
  obtain⟨o1,o2,o3,o4⟩:=i2
  have hwin:win (h.flatMap Turn.cells) (((k:Nat):Int).toNat*2) 2=h[k].cells:=by
   rw [Int.toNat_natCast]
   exact flatR_win Turn.cells 2 turnw h k hlt
  have ih:=ih (k+1,h[k]) ⟨by dsimp only;omega,o4⟩ (by dsimp only;omega)
  dsimp only [bxR] at ih
  generalize h[k]=t at *
  repeat' ((conv=>whnf);first
  | refine Yz ?_
   | (rw [hwin])
   | (refine LoopW.to ih rfl rfl)
   | fail)
 clear ih i2
 repeat' ((conv=>whnf);first
 | refine Yz ?_
  | fail)
 refine LoopW.to (LoopW.up g (fun k=>[(0,LE l),(3,.ptr ⟨0,3,0⟩ 0 0),(8,LT h),(123,.d (.list 3 ([f,c,f/2].map DI))),(124,I 3),(125,I k)])
  (fun _=>[(⟨0,3,0⟩,.cells ty_turnroundlaw10_Asked [S sr,S en,I f,I c,I d,I a,I b,I w]),bxR 5 (rgL l),(⟨0,10,0⟩,.cells ty_office_Turn [I bt.kn,I bt.mi])]) 3 (fun k2 hk2 ih=> ?_) 0 (by decide)) rfl rfl
 by_cases hlt2:k2<3
 ·have ih:=ih hlt2
  have hkk:0≤[f,c,f/2][k2]'hlt2∧[f,c,f/2][k2]'hlt2≤99999:=by
   have:k2=0∨k2=1∨k2=2:=by omega
   rcases this with rfl|rfl|rfl
   ·exact hf
   ·exact hc
   ·exact hf2
  have hmm:=hM ([f,c,f/2][k2]'hlt2) d hkk hd
  have hww:=hw ([f,c,f/2][k2]'hlt2)
  have hpk:∀ {K:D→Prop},K (DI ([f,c,f/2][k2]'hlt2))→Pick ([f,c,f/2].map DI) (((k2:Nat):Int).toNat*1) K:=fun h=>Pick.iw k2 rfl hlt2 h
  generalize [f,c,f/2][k2]'hlt2=kk at *
  generalize [f,c,f/2]=l3 at *
  repeat' ((conv=>whnf);first
  | refine Yz ?_
   | (refine hpk ?_)
   | fail)
  refine LoopW.to (LoopW.up g (fun j=>[(0,LE l),(3,.ptr ⟨0,3,0⟩ 0 0),(8,LT h),(14,I kk),(15,I (wantT (h.take j) kk 1440)),(123,.d (.list 3 (l3.map DI))),(124,I 3),(125,I k2),(129,LT h),(130,I h.length),(131,I j)])
   (fun _=>[(⟨0,3,0⟩,.cells ty_turnroundlaw10_Asked [S sr,S en,I f,I c,I d,I a,I b,I w]),bxR 5 (rgL l),(⟨0,10,0⟩,.cells ty_office_Turn [I bt.kn,I bt.mi])]) h.length (fun j hj ihj=> ?_) 0 (Nat.zero_le _)) rfl rfl
  by_cases hltj:j<h.length
  ·have ihj:=ihj hltj
   rw [wantT_take h kk j hltj] at ihj
   have hwin:win (h.flatMap Turn.cells) (((j:Nat):Int).toNat*2) 2=h[j].cells:=by
    rw [Int.toNat_natCast]
    exact flatR_win Turn.cells 2 turnw h j hltj
   generalize h[j]=t at *
   by_cases htk:t.kn≤kk
   ·rw [if_pos htk] at ihj
    repeat' ((conv=>whnf);first
    | refine Yz ?_
     | (rw [hwin])
     | (refine LoopW.to ihj rfl rfl)
     | fail)
   ·rw [if_neg htk] at ihj
    repeat' ((conv=>whnf);first
    | refine Yz ?_
     | (rw [hwin])
     | (refine LoopW.to ihj rfl rfl)
     | fail)
  ·rw [List.take_of_length_le (by omega),hww]
   repeat' ((conv=>whnf);first
   | refine Yz ?_
    | (apply CallI.of;assumption)
    | (refine Cmp.ff (fun h=>h rfl) ?_)
    | (refine LoopW.to ih rfl rfl)
    | fail)
 clear ih
 repeat' ((conv=>whnf);first
 | refine Yz ?_
  | (apply CallI.of;assumption)
  | fail)
 refine LoopW.to (LoopW.up g (fun j=>[(0,LE l),(3,.ptr ⟨0,3,0⟩ 0 0),(20,LI u),(24,I ((ds.take j).filter fun d=>decide (minE (rgL l) sr f d≠minE (rgL l) sr c d)).length),(198,LI ds),(199,I ds.length),(200,I j)])
  (fun _=>[(⟨0,3,0⟩,.cells ty_turnroundlaw10_Asked [S sr,S en,I f,I c,I d,I a,I b,I w]),bxR 5 (rgL l),(⟨0,10,0⟩,.cells ty_office_Turn [I bt.kn,I bt.mi])]) ds.length (fun j hj ihj=> ?_) 0 (Nat.zero_le _)) rfl rfl
 by_cases hltj:j<ds.length
 ·have ihj:=ihj hltj
  have m1:=hM f ds[j] hf (hdr j hltj)
  have m2:=hM c ds[j] hc (hdr j hltj)
  have hft:=filter_take (fun d=>decide (minE (rgL l) sr f d≠minE (rgL l) sr c d)) ds j hltj
  have hat:=@filter_at (fun d=>decide (minE (rgL l) sr f d≠minE (rgL l) sr c d)) ds j hltj
  have hnot:=@filter_not (fun d=>decide (minE (rgL l) sr f d≠minE (rgL l) sr c d)) ds hds j hltj
  rw [hft] at ihj
  rw [←hU] at hat hnot
  have hil:((ds.take j).filter fun d=>decide (minE (rgL l) sr f d≠minE (rgL l) sr c d)).length≤401:=by
   refine Nat.le_trans (List.length_filter_le _ _) ?_
   rw [List.length_take];omega
  generalize ((ds.take j).filter fun d=>decide (minE (rgL l) sr f d≠minE (rgL l) sr c d))=fl at *
  have hpd:∀ {K:D→Prop},K (DI ds[j])→Pick (ds.map DI) (((j:Nat):Int).toNat*1) K:=fun h=>Pick.iw j rfl hltj h
  generalize ds[j]=dd at *
  generalize minE (rgL l) sr f dd=y1 at *
  generalize minE (rgL l) sr c dd=y2 at *
  by_cases hy:y1=y2
  ·subst hy
   have hnot:=hnot (by simp)
   rw [if_neg (by simp),List.append_nil] at ihj
   by_cases hfl:fl.length<u.length
   ·have hnot:=hnot hfl
    repeat' ((conv=>whnf);first
    | refine Yz ?_
     | (refine hpd ?_)
     | (apply CallI.of;assumption)
     | (refine Pick.iw fl.length rfl hfl ?_)
     | (refine Cmp.ff hnot ?_)
     | (refine Cmp.ff (fun h=>h rfl) ?_)
     | (refine LoopW.to ihj rfl rfl)
     | fail)
   ·repeat' ((conv=>whnf);first
   | refine Yz ?_
     | (refine hpd ?_)
     | (apply CallI.of;assumption)
     | (refine Cmp.ff (fun h=>h rfl) ?_)
     | (refine LoopW.to ihj rfl rfl)
     | fail)
  ·obtain⟨hfl,hde⟩:=hat (decide_eq_true hy)
   rw [if_pos (decide_eq_true hy),List.length_append,List.length_singleton] at ihj
   repeat' ((conv=>whnf);first
   | refine Yz ?_
    | (refine hpd ?_)
    | (apply CallI.of;assumption)
    | (refine Pick.iw fl.length rfl hfl ?_)
    | (refine Cmp.tt hde ?_)
    | (refine Cmp.tt hy ?_)
    | (refine LoopW.to ihj rfl rfl)
    | fail)
 ·rw [List.take_of_length_le (by omega),←hU]
  repeat' ((conv=>whnf);first
  | refine Yz ?_
   | (apply CallI.of;assumption)
   | (refine Cmp.tt rfl ?_)
   | (refine Ret.mk rfl)
   | fail)
end
theorem s_OfficeSteps {E:Oracle} (g:Good E) {xs:List D} (h:fitArgs Tryz.prog [22,26] xs):Fc E n_law10_OfficeSteps (asV xs) (B true):=by
 obtain⟨x,y,rfl,h1,h2⟩:=args2 h
 obtain⟨l,rfl,hl,hb⟩:=arg_Events h1
 obtain⟨z,rfl,hz⟩:=arg_Asked h2
 exact w_OfficeSteps g l z hl hb hz
end Go.Proofs.YtcbddkeiohdocaaGreatDoor.Co
/-
 OfficeTurns and OfficeSteps: one base for both cards.
-/
namespace Go.Proofs.YtcbddkeiohdocaaGreatDoor.Co
open Go Go.Evl
theorem s_OfficeTwo {E:Oracle} (g:Good E):(∀xs:List D,fitArgs Tryz.prog [22,26] xs→Fc E n_law10_OfficeTurns (asV xs) (B true))∧(∀xs:List D,fitArgs Tryz.prog [22,26] xs→Fc E n_law10_OfficeSteps (asV xs) (B true)):=
 ⟨fun _ h=>s_OfficeTurns g h,fun _ h=>s_OfficeSteps g h⟩
end Go.Proofs.YtcbddkeiohdocaaGreatDoor.Co
