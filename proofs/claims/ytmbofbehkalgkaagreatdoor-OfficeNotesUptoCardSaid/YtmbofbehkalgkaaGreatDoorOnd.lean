/-
  OfficeNotes: what its law leans on, part 4.
-/
import Derived.Laws.RangeAny
import Derived.Lib.SplitLaws
import Derived.Test.YtmbofbehkalgkaaGreatDoorAwR
import Derived.Test.YtmbofbehkalgkaaGreatDoorEvN
import Derived.Test.YtmbofbehkalgkaaGreatDoorEvX
import Derived.Test.YtmbofbehkalgkaaGreatDoorEvY
import Derived.Test.YtmbofbehkalgkaaGreatDoorRead
import Derived.Test.YtmbofbehkalgkaaGreatDoorSpBase
import Derived.Test.YtmbofbehkalgkaaGreatDoorOnc
namespace Go.Proofs.YtmbofbehkalgkaaGreatDoor.Co
open Go Go.Evl
set_option maxHeartbeats 32000000
set_option maxRecDepth 100000
theorem z4z (σ:List (Evl.Id×Evl.Id)):∀cs:List Nte,Go.Evl.renM σ (zf7 cs)=zf7 cs
 | []=>rfl
 | o::r=>by
  have ih:=z4z σ r
  unfold zf7 at ih ⊢
  rw [List.map_cons,Go.Evl.renM,ih]
  rfl
theorem yfo {cx:Cx} {slot lo:Nat} {old m:Mem} {o:Evl.Id} {cs:List Nte} {d:D} (hlo:lo<=o.lv) (hl:Evl.look m o=some (.map (zf7 cs))):
  Go.Evl.settle cx slot lo old m (.tup [.mp o,.d d])=some (.tup [.mp ⟨cx.lv,slot,Go.Evl.freeK cx.lv slot old⟩,.d d],old++[(⟨cx.lv,slot,Go.Evl.freeK cx.lv slot old⟩,.map (zf7 cs))]):=by
 have hids:Go.Evl.ids (.tup [.mp o,.d d])=[o]:=by simp [Go.Evl.ids,Go.Evl.idsL]
 have hre:Go.Evl.reach lo m 64 [o] []=[o]:=by
  simp [Go.Evl.reach,hlo,hl,Go.Evl.idsO,zcs]
 unfold Go.Evl.settle
 simp only [hids,hre]
 rw [if_pos (by simp [Go.Evl.within,Go.Evl.movable,Go.Evl.onceB,hl,hlo,Go.Evl.idsO,zcs,Go.Evl.isLoop])]
 simp [Go.Evl.number,Go.Evl.ren,Go.Evl.renL,Go.Evl.subst,Go.Evl.moved,hl,Go.Evl.renO,z4z]
def gN:List Nte->V
 | []=> .d .nil
 | x::r=>LNt (x::r)
abbrev mBg (cs:List Nte) (n:Nat):Mem:=[(⟨0,8,0⟩,.map (zf7 cs)),(⟨0,15,0⟩,.cells TV [.mp ⟨0,8,0⟩]),(⟨1,4,0⟩,.row true zah 4 0 []),(⟨1,7,0⟩,.bag zah 4 n (cs.flatMap Nte.cells))]
section
variable {E : Oracle} (g : Good E)
include g
theorem zej.collect (l:List Nte) (hl:l.length<=1048576) (hz:zdc l=0) {cx:Cx} {slot:Nat} {mm:Mem} {K:V->Mem->Prop} (hf:Go.Evl.freeK cx.lv slot mm=0)
  (h:K (.tup [.mp ⟨cx.lv,slot,0⟩,I 0]) (mm++[(⟨cx.lv,slot,0⟩,.map (zf7 (zdz l)))])):zej E zb8 [LNt l] cx slot mm K:=by
 obtain⟨v,m',h1,h2,_⟩:=(zxv g l hl).got
 obtain⟨rfl,h3⟩:=h2 hz
 refine⟨_,_,_,h1,yfo (Nat.zero_le _) h3,?_⟩
 rw [hf];exact h
omit g in
theorem yix (x:Nte):∀l:List Nte,yiw (fun a b=>decide (cfN a b<0)) x l=yiv x l
 | []=>rfl
 | y::r=>by
  unfold yiw yiv
  rw [yix x r]
  rfl
omit g in
theorem yi8:∀l:List Nte,yie (fun a b=>decide (cfN a b<0)) l=yf3 l
 | []=>rfl
 | x::r=>by
  unfold yie yf3
  rw [yi8 r,yix]
omit g in
theorem ymq {l:List Nte} (h:z0j l):ymp (fun a b=>decide (cfN a b<0)) l=true:=by
 unfold ymp
 refine List.all_eq_true.2 fun a ha=>List.all_eq_true.2 fun b hb=> ?_
 show (zna a b||zna b a||decide (a=b))=true
 by_cases hab:a=b
 ·simp [hab]
 ·cases hl:zna a b with
  | true=>rfl
  | false=>rw [z1s a b (h.ne ha hb hab) hl];rfl
omit g in
theorem yb6 {f:Nat} {m:Mem} {o:Evl.Id} {t n:Nat} (l:List Nte) (hm:Evl.look m o=some (.row true t 4 n (l.flatMap Nte.cells))) (hn:l.length=n) (h0:n≠0) (hb:n<=100000) (h1:z0j l):
  sortNX f [.ref o 0 n n,.fn f [] []] m=some (.tup [],upd m o (.row true t 4 n ((yf3 l).flatMap Nte.cells))):=by
 unfold sortNX yaq
 simp only [hm]
 rw [if_pos (by refine⟨?_,?_,?_,?_,?_⟩<;>first |trivial|rfl|omega),if_neg h0,yde]
 simp only
 rw [if_pos ⟨ymq h1,hn⟩,yi8]
theorem yia (cs s:List Nte) (n slot:Nat) (hcn:cs.length=n) (h0:n≠0) (hn:n<=100000) (h1:z0j cs) (hp:s.Perm cs) (hs:s.Pairwise fun a b=>zna a b=true):
  zh3 (fun m=>zg6 E ⟨1,2⟩ slot true true (.fn n_slices_SortFunc_Loffice_Note_office_Note [] []) [.ref ⟨1,7,0⟩ 0 n n,.fn n_office_Gather_1 [] []] m) (mBg cs n) (.ref ⟨1,7,0⟩ 0 n n)=some (.tup [],mSr cs s n):=by
 subst hcn
 have hj:zfe false (mBg cs cs.length) (mSr cs s cs.length)=mSr cs s cs.length:=by
  simp [zfe,zym]
 refine(z6j zjn (xs:=cs) rfl (.tup [],mSr cs s cs.length) (fun l hl=> ?_) ?_).trans (by rw [hj])
 ·have ho:z0j l:=List.Pairwise.perm h1 hl.symm (fun h e=>h ⟨e.1.symm,e.2.symm⟩)
  have hs2:yf3 l=s:=z2m z1r z4g ((zl5 l).trans (hl.trans hp.symm)) (zsd l ho) hs
  have hx:=yb6 (f:=n_office_Gather_1) (m:=mSr cs l cs.length) (o:=⟨1,7,0⟩) l rfl hl.length_eq h0 hn ho
  rw [hs2] at hx
  have key:Evl.callW E ⟨1,2⟩ slot true true (.fn n_slices_SortFunc_Loffice_Note_office_Note [] []) [.ref ⟨1,7,0⟩ 0 cs.length cs.length,.fn n_office_Gather_1 [] []] (mSr cs l cs.length) fun v m=>v= .tup []/\m=mSr cs s cs.length:=by
   repeat' ((conv=>whnf);first
   | refine Yz ?_
    | (refine In.extern g.lim (x:=sortNX n_office_Gather_1) rfl hx ?_)
    | (simp only [Evl.idsAll,Evl.idsO,zcs,List.nil_append])
    | (exact⟨rfl,rfl⟩)
    | (exact⟨trivial,trivial⟩)
    | fail)
  obtain⟨q,k1,k2,k3⟩:=Evl.callW_ok key
  have:(q:V×Mem)=(.tup [],mSr cs s cs.length):=Prod.ext k2 k3
  rw [<-this]
  exact k1
 ·rw [hj]
  have hb:yc4 4 cs.length (s.flatMap Nte.cells) (cs.flatMap Nte.cells)=true:=z8v zjn hp rfl
  exact LeJ.ok (.map (zmf _)<| .cells<| .row<| .row .nil)
omit g in
theorem zxx {cx:Cx} {slot lo:Nat} {old m:Mem} {v:V} (hi:Go.Evl.ids v=[]) (hr:Go.Evl.ren [] v=v):Go.Evl.settle cx slot lo old m v=some (v,old):=by
 have hre:Go.Evl.reach lo m 64 [] []=[]:=rfl
 unfold Go.Evl.settle
 simp only [hi,hre]
 rw [if_pos (by simp [Go.Evl.within,Go.Evl.movable,Go.Evl.onceB])]
 simp [Go.Evl.number,Go.Evl.moved,hr]
abbrev mG0:Mem:=[(⟨0,8,0⟩,.map (zf7 [])),(⟨0,15,0⟩,.cells TV [.mp ⟨0,8,0⟩]),(⟨1,4,0⟩,.row true zah 4 0 [])]
theorem yft (slot:Nat):zh3 (fun m=>zg6 E ⟨1,2⟩ slot true true (.fn n_slices_SortFunc_Loffice_Note_office_Note [] []) [.d .nil,.fn n_office_Gather_1 [] []] m) mG0 (.d .nil)=some (.tup [],mG0):=by
 have key:Evl.callW E ⟨1,2⟩ slot true true (.fn n_slices_SortFunc_Loffice_Note_office_Note [] []) [.d .nil,.fn n_office_Gather_1 [] []] mG0 fun v m=>v= .tup []/\m=mG0:=by
  repeat' ((conv=>whnf);first
  | refine Yz ?_
   | (refine In.extern (v:= .tup []) (m':=mG0) g.lim (x:=sortNX n_office_Gather_1) rfl rfl ?_)
   | (exact⟨rfl,rfl⟩)
   | (exact⟨trivial,trivial⟩)
   | fail)
 obtain⟨q,k1,k2,k3⟩:=Evl.callW_ok key
 have:(q:V×Mem)=(.tup [],mG0):=Prod.ext k2 k3
 rw [<-this]
 exact k1
theorem yhy (l:List Nte) (hl:l.length<=1048576) (hz:zdc l=0) (h1:z0j (zdz l)) (hn:(zdz l).length<=256) (s:List Nte) (hp:s.Perm (zdz l)) (hs:s.Pairwise fun a b=>zna a b=true):Fc E zc3 [LNt l] (.tup [gN s,I 0]):=by
 refine g.fn rfl rfl ?_
 have hcl:=fun {cx slot mm K}=>zej.collect g l hl hz (cx:=cx) (slot:=slot) (mm:=mm) (K:=K)
 generalize zdz l=cs at *
 cases cs with
 | nil=>
  have hv:=ymr (E:=E)
  have hse:s=[]:=List.Perm.eq_nil hp
  subst hse
  have hso:=yft g 10
  repeat' ((conv=>whnf);first
  | refine Yz ?_
   | (refine hcl rfl ?_)
   | (refine In.enter (f:=zan) g.lim rfl rfl ?_)
   | (refine In.enter (f:=zbx) g.lim rfl rfl ?_)
   | (refine In.enter (f:=zce) g.lim rfl rfl ?_)
   | (refine In.enter (f:=zba) g.lim rfl rfl ?_)
   | (refine In.enter (f:=zaf) g.lim rfl rfl ?_)
   | (refine zsi.mk ⟨(.fn zaf [] [.ptr ⟨0,15,0⟩ 0 0],[(⟨0,8,0⟩,.map (zf7 [])),(⟨0,15,0⟩,.cells TV [.mp ⟨0,8,0⟩])]),rfl,?_⟩)
   | (refine zsi.mk ⟨(.d .nil,mG0++[(⟨2,2,0⟩,.row true zah 4 0 [])]),rfl,?_⟩)
   | (refine zsi.mk ⟨(.d .nil,mG0),rfl,?_⟩)
   | (refine⟨_,_,_,hv,?_⟩)
   | (refine⟨_,hso,?_⟩)
   | (refine Ret.mk rfl)
   | fail)
 | cons k kr=>
  obtain⟨x,r,rfl⟩:∃x r,s=x::r:=List.exists_cons_of_ne_nil (by rintro rfl;have:=hp.length_eq;simp at this)
  have hlr:r.length=kr.length:=by have:=hp.length_eq;simpa using this
  have hv:=ynw g k kr (by simp at hn;omega)
  have hso:=yia g (k::kr) (x::r) (kr.length+1) 10 rfl (by omega) (by simp at hn;omega) h1 hp hs
  repeat' ((conv=>whnf);first
  | refine Yz ?_
   | (refine hcl rfl ?_)
   | (refine In.enter (f:=zan) g.lim rfl rfl ?_)
   | (refine In.enter (f:=zbx) g.lim rfl rfl ?_)
   | (refine In.enter (f:=zce) g.lim rfl rfl ?_)
   | (refine In.enter (f:=zba) g.lim rfl rfl ?_)
   | (refine In.enter (f:=zaf) g.lim rfl rfl ?_)
   | (refine zsi.mk ⟨(.fn zaf [] [.ptr ⟨0,15,0⟩ 0 0],[(⟨0,8,0⟩,.map (zf7 (k::kr))),(⟨0,15,0⟩,.cells TV [.mp ⟨0,8,0⟩])]),rfl,?_⟩)
   | (refine zsi.mk ⟨(.ref ⟨2,4,0⟩ 0 (kr.length+1) (kr.length+1),[(⟨0,8,0⟩,.map (zf7 (k::kr))),(⟨0,15,0⟩,.cells TV [.mp ⟨0,8,0⟩]),(⟨1,4,0⟩,.row true zah 4 0 []),(⟨2,2,0⟩,.row true zah 4 0 []),(⟨2,4,0⟩,.bag zah 4 (kr.length+1) ((k::kr).flatMap Nte.cells))]),rfl,?_⟩)
   | (refine zsi.mk ⟨(.ref ⟨1,7,0⟩ 0 (kr.length+1) (kr.length+1),mBg (k::kr) (kr.length+1)),rfl,?_⟩)
   | (simp only [Evl.idsAll,Evl.idsO,zcs,List.nil_append])
   | (refine⟨_,_,_,hv,?_⟩)
   | (refine⟨_,hso,?_⟩)
   | (refine Ret.mk ?_)
   | fail)
  rw [if_pos ⟨trivial,trivial⟩,<-hlr]
  rfl
theorem z43 (l:List Nte) (hl:l.length<=1048576) (hz:zdc l≠0):Fc E zc3 [LNt l] (.tup [LNt [],I (zdc l)]):=by
 refine g.fn rfl rfl ?_
 have hcl:∀ {cx:Cx} {slot:Nat} {mm:Mem} {K:V->Mem->Prop},K (.tup [.d .nilm,I (zdc l)]) mm->zej E zb8 [LNt l] cx slot mm K:=fun h=>by
  obtain⟨v,m',h1,_,h2⟩:=(zxv g l hl).got
  obtain rfl:=h2 hz
  exact⟨_,_,_,h1,zxx rfl rfl,h⟩
 repeat' ((conv=>whnf);first
 | refine Yz ?_
  | (refine hcl ?_)
  | (refine Cmp.tt hz ?_)
  | (refine Ret.mk rfl)
  | fail)
end
theorem z5s {k:D} {v:V}:∀ {l:List (D×V)},(k,v)∈l->∃r,z8g k v l=some r
 | (l,w)::r,h=>by
  unfold z8g
  by_cases e:(zhh k l&&zk8 v w)=true
  ·exact⟨r,if_pos e⟩
  ·rw [if_neg e]
   rcases List.mem_cons.1 h with h|h
   ·obtain⟨rfl,rfl⟩:=Prod.mk.inj h
    exact absurd (by rw [zsa,zoh];rfl) e
   ·obtain⟨q,hq⟩:=z5s h
    exact⟨(l,w)::q,by rw [hq];rfl⟩
theorem z4u:∀ {a b:List (D×V)},a.Perm b->zrz a b=true
 | [],b,h=>by
  have:=List.Perm.nil_eq h
  subst this
  rfl
 | (k,v)::r,b,h=>by
  have hx:(k,v)∈b:=h.subset (by simp)
  obtain⟨q,hq⟩:=z5s hx
  have h1:=ztr k v b q hq
  unfold zrz
  rw [hq]
  exact z4u ((List.perm_cons _).1 (h.trans h1))
theorem zy8:∀ {gs:Grt},(gs.map (·.1)).Nodup->z3r (zl7 gs)=true
 | [],_=>rfl
 | (k,v)::r,h=>by
  rw [List.map_cons,List.nodup_cons] at h
  have ih:=zy8 h.2
  unfold zl7 at ih ⊢
  rw [List.map_cons]
  unfold z3r
  rw [ih,Bool.and_true,List.all_eq_true]
  intro b hb
  obtain⟨p,hp,rfl⟩:=List.mem_map.1 hb
  have e:eqD (.str k) (.str p.1)=some false:=by
   have:k≠p.1:=fun e=>h.1 (by rw [e];exact List.mem_map.2 ⟨p,hp,rfl⟩)
   simp [eqD,this]
  rw [e]
def ofD:List D->Nte
 | [.str a,.int _ b,.int _ c,.str d]=>⟨a,b,c,d⟩
 | _=>⟨[],0,0,[]⟩
def yc2 (p:List (D×V)):List Nte:=p.map fun e=>ofD (ynp e.2)
theorem zvx (us:List Nte):yc2 (zf7 us)=us:=by
 unfold yc2 zf7
 rw [List.map_map]
 exact(List.map_congr_left fun n _=>rfl).trans (List.map_id us)
abbrev kM (mp:Ob) (gs:Grt):Mem:=[(⟨0,2,0⟩,.row false zar 2 0 []),(⟨0,19,0⟩,mp),(⟨0,25,0⟩,.map (zl7 gs))]
abbrev kR (gs:Grt):Mem:=kM .gone gs++[(⟨0,27,0⟩,.gone)]
abbrev eL:Env:=[(4,.mp ⟨0,19,0⟩),(6,.mp ⟨0,25,0⟩),(27,.it ⟨0,27,0⟩)]
section
variable {E : Oracle} (g : Good E)
include g
abbrev yn9:List CO:=[xq 31 30 0,tq 7 (.alloc zjr [.z (.str []),.z (.int .i64 0)]),⟨none,none,.store 2 (.t 7) (.t 31)⟩]
abbrev bdL (E:Oracle):Env->Mem->Option (Ex×Env×Mem):=fun e m=>(zfd E ⟨0,1⟩ yn9 e m).bind fun q=>evC E ⟨0,1⟩ zg1 (zbs [30,31] q.1) q.2
omit g in
theorem ylu {e:Env} {m:Mem} {K:Ex->Env->Mem->Prop} (h:Evl.wpOps E ⟨0,1⟩ yn9 e m fun e' m'=>wpC E ⟨0,1⟩ zg1 (zbs [30,31] e') m' K):∃x e' m',bdL E e m=some (x,e',m')/\K x e' m':=by
 obtain⟨p,h1,h2⟩:=Evl.wpOps_ok _ _ _ _ h
 obtain⟨x,e',m',h3,h4⟩:=Evl.wpC_ok _ _ _ _ h2
 exact⟨x,e',m',by unfold bdL;rw [h1,Option.bind_some];exact h3,h4⟩
omit g in
theorem gcL (gs gs':Grt) (a b:D):gc (zhi (kR gs)) eL (kR gs'++[(⟨0,7,0⟩,.cells zjr [.d a,.d b])])=kR gs':=by
 simp [gc,gc1,zhi,Evl.idsE,Evl.ids,Evl.idsL,Evl.idsAll,Evl.idsO,zg9,List.filter]
omit g in
theorem ymi (gs:Grt) (n:Nte) (v:V):∃x e' m',bdL E (put eL 30 (.tup [.d (.agg [.str n.dk,DI n.nu]),v])) (kR gs)=some (x,e',m')/\(x= .normal/\zk8 (get e' 27) (.it ⟨0,27,0⟩)=true/\only [4,6,27] e'=eL/\gc (zhi (kR gs)) eL m'=kR (grA gs n)):=by
 refine ylu ?_
 have hf:=zwu n.dk gs
 have hs:∀o,(zuo n.dk gs).getD 0=o->zmu (.str n.dk) (I (if n.nu>o then n.nu else o)) (zl7 gs)=some (zl7 (grA gs n)):=by
  intro o ho
  unfold grA
  rw [ho,show (if n.nu>o then n.nu else o)=max o n.nu by split<;>omega]
  exact yan n.dk _ gs
 cases hg:zuo n.dk gs with
 | none=>
  rw [hg] at hf hs
  have hs:=hs 0 rfl
  repeat' ((conv=>whnf);first
  | refine Yz ?_
   | (refine ztt.mk ⟨_,hf,?_⟩)
   | (refine ylr.mk ⟨_,hs,?_⟩)
   | (refine⟨rfl,rfl,rfl,?_⟩)
   | fail)
  exact gcL gs (grA gs n) _ _
 | some v=>
  rw [hg] at hf hs
  have hs:=hs v rfl
  repeat' ((conv=>whnf);first
  | refine Yz ?_
   | (refine ztt.mk ⟨_,hf,?_⟩)
   | (refine ylr.mk ⟨_,hs,?_⟩)
   | (refine⟨rfl,rfl,rfl,?_⟩)
   | fail)
  exact gcL gs (grA gs n) _ _
omit g in
theorem yfe (gs0:Grt):∀(us:List Nte) (gs:Grt),zcl (bdL E) 27 ⟨0,27,0⟩ 0 1 30 [4,6,27] (zhi (kR gs0)) (zf7 us) eL (kR gs)=some (.normal,eL,kR (us.foldl grA gs))
 | [],gs=>rfl
 | p::ps,gs=>by
  obtain⟨x,e',m',h1,rfl,h2,h3,h4⟩:=ymi (E:=E) gs p (Ntv p)
  unfold zf7
  rw [List.map_cons,zcl,h1,Option.bind_some]
  unfold zd3
  dsimp only [Ex.on]
  have h4':gc (zhi (kR gs0)) eL m'=kR (grA gs p):=h4
  rw [if_pos h2,h3,h4']
  exact yfe gs0 ps (grA gs p)
omit g in
theorem yi2 (cs:List Nte) (hc:∀n∈cs,1<=n.nu) {e1:Env} (he1:(Opd.t 26).ev e1= .mp ⟨0,19,0⟩) (he2:only [4,6,27] (put e1 27 (.it ⟨0,27,0⟩))=eL):
  zgr (bdL E) ⟨0,1⟩ 27 (.t 26) 0 1 30 [4,6,27] e1 (kM (.map (zf7 cs)) [])=some (.normal,eL,kM (.map (zf7 cs)) (grN cs)++[(⟨0,27,0⟩,.gone)]):=by
 have hj:zfe true (kR []) (kR (grN cs))=kR (grN cs):=by
  simp [zfe,z8w,zym,Evl.look]
 have hi:=fun(us:List Nte) (hu:∀n∈us,1<=n.nu)=>z1f us [] [] GrI.nil hu
 have hcs:=hi cs hc
 refine(zov (o:=⟨0,19,0⟩) (es:=zf7 cs) he1 rfl (i:=⟨0,27,0⟩) (m2:=kR []) (e2:=eL) (e3:=eL) rfl rfl he2
  (fun p=>kR (grN (yc2 p))) (fun p hp=> ?_) (mj:=kR (grN cs)) ?_ (fun p hp=> ?_) rfl).trans rfl
 ·obtain⟨us,rfl,hu⟩:=zkv hp
  rw [show yc2 (us.map fun n=>(D.agg [.str n.dk,DI n.nu],Ntv n))=us from zvx us]
  exact yfe [] us []
 ·rw [zvx]
  exact hj
 ·obtain⟨us,rfl,hu⟩:=zkv hp
  rw [show yc2 (us.map fun n=>(D.agg [.str n.dk,DI n.nu],Ntv n))=us from zvx us]
  have hus:=hi us fun n hn=>hc n (hu.mem_iff.1 hn)
  have hpm:(grN us).Perm (grN cs):=GrI.perm hus hcs fun n=>by simpa using hu.mem_iff
  exact LeJ.ok (.row<| .gone<| .mapP (zy8 hcs.one) (z4u (hpm.map _))<| .gone .nil)
end
theorem zxp {body:Env->Mem->Option (Ex×Env×Mem)} {cx:Cx} {it:Nat} {x:Opd} {out nxt pair:Nat} {live:List Nat} {e1:Env} {m1:Mem} {o:Evl.Id} {es:List (D×V)} (hx:x.ev e1= .mp o) (hl:Evl.look m1 o=some (.map es))
  {i:Evl.Id} {m2:Mem} {e2 e3:Env} {X:Ex} (hX:yk2 X X=true) (hi:Evl.newId cx it m1=i) (hm:upd (upd m1 i .gone) o .gone=m2) (he:only live (put e1 it (.it i))=e2) {mR:Mem}
  (hr:∀p,p.Perm es->zcl body it i out nxt pair live (zhi m2) p e2 m2=some (X,e3,mR)) {mj:Mem} (hj:zfe true m2 mR=mj) (hle:leM m2 mR mj=true) (hg:Evl.look mj o=some .gone):
  zgr body cx it x out nxt pair live e1 m1=some (X,e3,upd mj o (.map es)):=by
 subst hj
 unfold zgr
 simp only [hx,hl,hi,hm,he]
 unfold znd
 simp only [hr es (List.Perm.refl _),Option.bind_some]
 have hall:z8q (fun p=>zcl body it i out nxt pair live (zhi m2) p e2 m2) (zql es)=some ((zql es).map fun _=>(X,e3,mR)):=z0m fun p hp=>hr p ((zim _ _).1 hp)
 rw [hall,Option.bind_some]
 unfold zot
 rw [if_pos]
 ·simp only [Option.bind_some,zr3,hg]
 ·rw [List.all_eq_true]
  intro q hq
  obtain⟨p,hp,rfl⟩:=List.mem_map.1 hq
  dsimp only
  rw [zu0,hle,hX]
  rfl
abbrev kM2 (mp gr:Ob):Mem:=[(⟨0,2,0⟩,.row false zar 2 0 []),(⟨0,19,0⟩,mp),(⟨0,25,0⟩,gr),(⟨0,27,0⟩,.gone)]
abbrev kR2 (mp:Ob):Mem:=kM2 mp .gone++[(⟨0,43,0⟩,.gone)]
abbrev eL2:Env:=[(4,.mp ⟨0,19,0⟩),(6,.mp ⟨0,25,0⟩),(43,.it ⟨0,43,0⟩)]
section
variable {E : Oracle} (g : Good E)
include g
abbrev yoa:List CO:=[xq 47 46 1,mq 9 47]
abbrev bdM (E:Oracle):Env->Mem->Option (Ex×Env×Mem):=fun e m=>(zfd E ⟨0,1⟩ yoa e m).bind fun q=>evC E ⟨0,1⟩ zg2 (zbs [46,47] q.1) q.2
omit g in
theorem yil {e:Env} {m:Mem} {K:Ex->Env->Mem->Prop} (h:Evl.wpOps E ⟨0,1⟩ yoa e m fun e' m'=>wpC E ⟨0,1⟩ zg2 (zbs [46,47] e') m' K):∃x e' m',bdM E e m=some (x,e',m')/\K x e' m':=by
 obtain⟨p,h1,h2⟩:=Evl.wpOps_ok _ _ _ _ h
 obtain⟨x,e',m',h3,h4⟩:=Evl.wpC_ok _ _ _ _ h2
 exact⟨x,e',m',by unfold bdM;rw [h1,Option.bind_some];exact h3,h4⟩
omit g in
theorem yi3 (cs:List Nte) (k:List UInt8) (v:Int) (hv:v<=1000):∃x e' m',bdM E (put eL2 46 (.tup [S k,I v])) (kR2 (.map (zf7 cs)))=some (x,e',m')/\(x= .normal/\zk8 (get e' 43) (.it ⟨0,43,0⟩)=true/\only [4,6,43] e'=eL2/\m'=kR2 (.map (zf7 cs))):=by
 refine yil ?_
 repeat' ((conv=>whnf);first
 | refine Yz ?_
  | (exact⟨rfl,rfl,rfl,rfl⟩)
  | fail)
omit g in
theorem yks (cs:List Nte) (k:List UInt8) (v:Int) (hv:1000<v):∃x e' m',bdM E (put eL2 46 (.tup [S k,I v])) (kR2 (.map (zf7 cs)))=some (x,e',m')/\(x= .ret/\e'=[(4,.mp ⟨0,19,0⟩),(6,.mp ⟨0,25,0⟩),(43,.it ⟨0,43,0⟩),(49,B true),(2,.ref ⟨0,2,1⟩ 0 0 0),(3,I 22)]/\m'=kR2 (.map (zf7 cs))++[(⟨0,2,1⟩,.row false zar 2 0 [])]):=by
 refine yil ?_
 repeat' ((conv=>whnf);first
 | refine Yz ?_
  | (exact⟨rfl,rfl,rfl⟩)
  | fail)
omit g in
theorem gcM (mp:Ob):gc (zhi (kR2 mp)) eL2 (kR2 mp)=kR2 mp:=by
 simp [gc,gc1,zhi]
abbrev eRt:Env:=[(4,.mp ⟨0,19,0⟩),(6,.mp ⟨0,25,0⟩),(43,.it ⟨0,43,0⟩),(49,B true),(2,.ref ⟨0,2,1⟩ 0 0 0),(3,I 22)]
omit g in
theorem yff (cs:List Nte):∀gs:Grt,(∀p∈gs,p.2<=1000)->zcl (bdM E) 43 ⟨0,43,0⟩ 2 3 46 [4,6,43] (zhi (kR2 (.map (zf7 cs)))) (zl7 gs) eL2 (kR2 (.map (zf7 cs)))=some (.normal,eL2,kR2 (.map (zf7 cs)))
 | [],_=>rfl
 | (k,v)::r,h=>by
  obtain⟨x,e',m',h1,rfl,h2,h3,rfl⟩:=yi3 (E:=E) cs k v (h (k,v) (by simp))
  unfold zl7
  rw [List.map_cons,zcl,h1,Option.bind_some]
  unfold zd3
  dsimp only [Ex.on]
  rw [if_pos h2,h3,gcM]
  exact yff cs r fun p hp=>h p (by simp [hp])
omit g in
theorem yai (cs:List Nte):∀gs:Grt,(∃p∈gs,1000<p.2)->zcl (bdM E) 43 ⟨0,43,0⟩ 2 3 46 [4,6,43] (zhi (kR2 (.map (zf7 cs)))) (zl7 gs) eL2 (kR2 (.map (zf7 cs)))=some (zvc 2 [4,6,43] (.ret,eRt,kR2 (.map (zf7 cs))++[(⟨0,2,1⟩,.row false zar 2 0 [])]))
 | [],h=>by obtain⟨_,h,_⟩:=h;cases h
 | (k,v)::r,h=>by
  unfold zl7
  by_cases hv:v<=1000
  ·obtain⟨x,e',m',h1,rfl,h2,h3,rfl⟩:=yi3 (E:=E) cs k v hv
   rw [List.map_cons,zcl,h1,Option.bind_some]
   unfold zd3
   dsimp only [Ex.on]
   rw [if_pos h2,h3,gcM]
   refine yai cs r ?_
   obtain⟨p,hp,hlt⟩:=h
   rcases List.mem_cons.1 hp with rfl|hp
   ·exact absurd hlt (by simp only;omega)
   ·exact⟨p,hp,hlt⟩
  ·obtain⟨x,e',m',h1,rfl,rfl,rfl⟩:=yks (E:=E) cs k v (by omega)
   rw [List.map_cons,zcl,h1,Option.bind_some]
   rfl
omit g in
theorem rangeM (cs:List Nte) (gs:Grt) (hg:∀p∈gs,p.2<=1000) {e1:Env} (he1:(Opd.t 42).ev e1= .mp ⟨0,25,0⟩) (he2:only [4,6,43] (put e1 43 (.it ⟨0,43,0⟩))=eL2):
  zgr (bdM E) ⟨0,1⟩ 43 (.t 42) 2 3 46 [4,6,43] e1 (kM2 (.map (zf7 cs)) (.map (zl7 gs)))=some (.normal,eL2,kM2 (.map (zf7 cs)) (.map (zl7 gs))++[(⟨0,43,0⟩,.gone)]):=by
 refine(zxp (o:=⟨0,25,0⟩) (es:=zl7 gs) he1 rfl (X:= .normal) rfl (i:=⟨0,43,0⟩) (m2:=kR2 (.map (zf7 cs))) (e2:=eL2) (e3:=eL2) rfl rfl he2 (mR:=kR2 (.map (zf7 cs))) (fun p hp=> ?_) (mj:=kR2 (.map (zf7 cs))) ?_ ?_ rfl).trans rfl
 ·obtain⟨us,rfl,hu⟩:=zkv hp
  exact yff cs us fun p hp=>hg p (hu.mem_iff.1 hp)
 ·simp [zfe,z8w,zym,Evl.look]
 ·exact LeJ.ok (.row<| .map (zmf _)<| .gone<| .gone<| .gone .nil)
omit g in
theorem ykq (cs:List Nte) (gs:Grt) (hg:∃p∈gs,1000<p.2) {e1:Env} (he1:(Opd.t 42).ev e1= .mp ⟨0,25,0⟩) (he2:only [4,6,43] (put e1 43 (.it ⟨0,43,0⟩))=eL2):
  zgr (bdM E) ⟨0,1⟩ 43 (.t 42) 2 3 46 [4,6,43] e1 (kM2 (.map (zf7 cs)) (.map (zl7 gs)))=some (.ret,eRt,kM2 (.map (zf7 cs)) (.map (zl7 gs))++[(⟨0,43,0⟩,.gone),(⟨0,2,1⟩,.row false zar 2 0 [])]):=by
 refine(zxp (o:=⟨0,25,0⟩) (es:=zl7 gs) he1 rfl (X:= .ret) rfl (i:=⟨0,43,0⟩) (m2:=kR2 (.map (zf7 cs))) (e2:=eL2) (e3:=eRt) rfl rfl he2 (mR:=kR2 (.map (zf7 cs))++[(⟨0,2,1⟩,.row false zar 2 0 [])]) (fun p hp=> ?_) (mj:=kR2 (.map (zf7 cs))++[(⟨0,2,1⟩,.row false zar 2 0 [])]) ?_ ?_ rfl).trans rfl
 ·obtain⟨us,rfl,hu⟩:=zkv hp
  obtain⟨p,hp,hlt⟩:=hg
  exact yai cs us ⟨p,hu.mem_iff.2 hp,hlt⟩
 ·simp [zfe,z8w,zym,Evl.look]
 ·exact LeJ.ok (.row<| .map (zmf _)<| .gone<| .gone<| .gone<| .row .nil)
end
abbrev ykx (us:List (List UInt8)):Ob:= .row true zac 1 us.length (us.map D.str)
section
variable {E : Oracle} (g : Good E)
include g
omit g in
theorem yf7 {ks:List (List UInt8)} {p:List D} (h:p.Perm (ks.map D.str)):∃us:List (List UInt8),p=us.map D.str/\us.Perm ks:=by
 refine⟨p.map fun e=>match e with
  | .str s=>s
  | _=>[],?_,?_⟩
 ·rw [List.map_map]
  symm
  have:∀x∈p,(D.str∘fun e:D=>match e with
   | .str s=>s
   | _=>[]) x=x:=fun x hx=>by
   have:=h.subset hx
   obtain⟨k,_,rfl⟩:=List.mem_map.1 this
   rfl
  calc List.map _ p=List.map id p:=List.map_congr_left this
   _=p:=List.map_id p
 ·have h1:=h.map fun e:D=>match e with
   | .str s=>s
   | _=>[]
  refine h1.trans ?_
  rw [List.map_map]
  have:List.map ((fun e:D=>match e with
   | .str s=>s
   | _=>[])∘D.str) ks=ks:=by
   calc _=List.map id ks:=List.map_congr_left fun _ _=>rfl
    _=ks:=List.map_id ks
  rw [this]
omit g in
theorem ztn {a b:List (List UInt8)} (h:a.Perm b):zfg a=zfg b:=by
 have hanti:∀x y:List UInt8,zag y x=false->zag x y=false->x=y:=by
  intro x
  induction x with
  | nil=>intro y _ h2;cases y with
   | nil=>rfl
   | cons=>simp [zag] at h2
  | cons c x ih=>intro y h1 h2;cases y with
   | nil=>simp [zag] at h1
   | cons d y=>
    simp only [zag,Bool.or_eq_false_iff,decide_eq_false_iff_not,Bool.and_eq_false_iff,beq_eq_false_iff_ne,ne_eq,UInt8.not_lt] at h1 h2
    have e:c=d:=UInt8.le_antisymm h1.1 h2.1
    subst e
    rw [ih y (h1.2.resolve_left (fun h=>h rfl)) (h2.2.resolve_left (fun h=>h rfl))]
 exact List.Perm.eq_of_pairwise (le:=fun x y=>zag y x=false) (fun x y _ _ h1 h2=>hanti x y h1 h2) (ziq a) (ziq b) ((zc7 a).trans (h.trans (zc7 b).symm))
end
section
variable {E : Oracle} (g : Good E)
include g
theorem zyu (l:List Nte) (hl:l.length<=1048576) (hz:zdc l=0) (hf:∃p∈grN (zdz l),1000<p.2):Fc E zbu [LNt l] (.tup [.d (.list 0 []),I 22]):=by
 refine g.fn rfl rfl ?_
 have hcl:=fun {cx slot mm K}=>zej.collect g l hl hz (cx:=cx) (slot:=slot) (mm:=mm) (K:=K)
 have hpos:∀n∈zdz l,1<=n.nu:=fun n hn=>by
  have h1:=(zlq.1 hz).2.1 n ((zfs hz).1 hn)
  unfold ztv at h1
  rw [zcx] at h1
  have:=(@z2d n.nu 1 999999999).1 (h1 _ (by simp))
  omega
 have r1:=fun {e1} h1 h2=>yi2 (E:=E) (zdz l) hpos (e1:=e1) h1 h2
 have r2:=fun {e1} h1 h2=>ykq (E:=E) (zdz l) (grN (zdz l)) hf (e1:=e1) h1 h2
 repeat' ((conv=>whnf);first
 | refine Yz ?_
  | (refine hcl rfl ?_)
  | (refine⟨_,_,_,r1 rfl rfl,?_⟩)
  | (refine⟨_,_,_,r2 rfl rfl,?_⟩)
  | (refine Ret.mk rfl)
  | fail)
end
abbrev nB (cs:List Nte) (gr:Ob):Mem:=[(⟨0,2,0⟩,.row false zar 2 0 []),(⟨0,19,0⟩,.map (zf7 cs)),(⟨0,25,0⟩,gr),(⟨0,27,0⟩,.gone),(⟨0,43,0⟩,.gone),(⟨0,10,0⟩,.row false zar 2 0 []),(⟨0,51,0⟩,.cells zic [.mp ⟨0,25,0⟩])]
abbrev lpN:Ob:= .loop [(2,.ptr ⟨3,2,0⟩ 0 0),(4,.ref ⟨3,4,0⟩ 0 0 0),(6,.fn zaw [] [.ptr ⟨0,51,0⟩ 0 0])] [7] zdj zdk 3 false false none
abbrev nM (cs:List Nte) (gr:Ob) (s:V):Mem:=nB cs gr++[(⟨1,2,0⟩,.row true zac 1 0 []),(⟨2,2,0⟩,.row true zac 1 0 []),(⟨3,2,0⟩,.cells z0h [s]),(⟨3,4,0⟩,.row true zac 1 0 []),(⟨3,14,0⟩,lpN)]
abbrev nR0 (cs:List Nte):Mem:=nM cs .gone (.d .nil)++[(⟨4,5,0⟩,.gone)]
abbrev nR1 (cs:List Nte) (us:List (List UInt8)) (last:Ob):Mem:=nM cs .gone (.ref ⟨3,11,0⟩ 0 us.length us.length)++[(⟨4,5,0⟩,.gone),(⟨3,11,0⟩,last)]
abbrev eN:Env:=[(0,.yld ⟨3,14,0⟩),(5,.it ⟨4,5,0⟩)]
section
variable {E : Oracle} (g : Good E)
include g
abbrev bdN (E:Oracle):Env->Mem->Option (Ex×Env×Mem):=fun e m=>(zfd E ⟨4,5⟩ [xq 9 8 0,mq 3 9] e m).bind fun q=>evC E ⟨4,5⟩ zbp (zbs [8,9] q.1) q.2
omit g in
theorem yim {e:Env} {m:Mem} {K:Ex->Env->Mem->Prop} (h:Evl.wpOps E ⟨4,5⟩ [xq 9 8 0,mq 3 9] e m fun e' m'=>wpC E ⟨4,5⟩ zbp (zbs [8,9] e') m' K):∃x e' m',bdN E e m=some (x,e',m')/\K x e' m':=by
 obtain⟨p,h1,h2⟩:=Evl.wpOps_ok _ _ _ _ h
 obtain⟨x,e',m',h3,h4⟩:=Evl.wpC_ok _ _ _ _ h2
 exact⟨x,e',m',by unfold bdN;rw [h1,Option.bind_some];exact h3,h4⟩
theorem ykt (cs:List Nte) (k:List UInt8) (v:Int):∃x e' m',bdN E (put eN 8 (.tup [S k,I v])) (nR0 cs)=some (x,e',m')/\(x= .normal/\zk8 (get e' 5) (.it ⟨4,5,0⟩)=true/\only [0,5] e'=eN/\gc (zhi (nR0 cs)) eN m'=nR1 cs [k] (ykx [k])):=by
 refine yim ?_
 repeat' ((conv=>whnf);first
 | refine Yz ?_
  | (refine Rnd.enter g.lim ?_)
  | (refine zez.mk ⟨by decide,rfl,by decide,by decide⟩ ?_)
  | (refine⟨rfl,rfl,rfl,?_⟩)
  | (simp only [Evl.idsAll,Evl.idsO,zcs,List.nil_append])
  | fail)
 simp [gc,gc1,zhi,Evl.idsE,Evl.ids,Evl.idsL,Evl.idsAll,Evl.idsO,zcs,List.filter]
theorem yku (cs:List Nte) (us:List (List UInt8)) (hu:us.length<=1000000) (k:List UInt8) (v:Int):∃x e' m',bdN E (put eN 8 (.tup [S k,I v])) (nR1 cs us (ykx us))=some (x,e',m')/\(x= .normal/\zk8 (get e' 5) (.it ⟨4,5,0⟩)=true/\only [0,5] e'=eN/\gc (zhi (nR0 cs)) eN m'=nR1 cs (us++[k]) (ykx (us++[k]))):=by
 refine yim ?_
 repeat' ((conv=>whnf);first
 | refine Yz ?_
  | (refine Rnd.enter g.lim ?_)
  | (refine zez.mk ⟨rfl,rfl,rfl,rfl,rfl,rfl,by dsimp only;omega,by first |omega|(dsimp only;omega)⟩ ?_)
  | (refine⟨rfl,rfl,rfl,?_⟩)
  | (simp only [Evl.idsAll,Evl.idsO,zcs,List.nil_append])
  | fail)
 simp [gc,gc1,zhi,Evl.idsE,Evl.ids,Evl.idsL,Evl.idsAll,Evl.idsO,zcs,List.filter]
theorem yfg (cs:List Nte):∀(ps:Grt) (us:List (List UInt8)),us.length+ps.length<=1000000->zcl (bdN E) 5 ⟨4,5,0⟩ 0 1 8 [0,5] (zhi (nR0 cs)) (zl7 ps) eN (nR1 cs us (ykx us))=some (.normal,eN,nR1 cs (us++ps.map (·.1)) (ykx (us++ps.map (·.1))))
 | [],us,_=>by
  rw [List.map_nil,List.append_nil]
  rfl
 | (p,v)::ps,us,h=>by
  rw [List.length_cons] at h
  obtain⟨x,e',m',h1,rfl,h2,h3,h4⟩:=yku g cs us (by omega) p v
  unfold zl7
  rw [List.map_cons,zcl,h1,Option.bind_some]
  unfold zd3
  dsimp only [Ex.on]
  rw [if_pos h2,h3,h4]
  have:=yfg cs ps (us++[p]) (by rw [List.length_append,List.length_singleton];omega)
  rw [List.append_assoc] at this
  exact this
theorem yhu (cs:List Nte) (p:List UInt8) (v:Int) (ps:Grt) (hl:ps.length<=100000):zcl (bdN E) 5 ⟨4,5,0⟩ 0 1 8 [0,5] (zhi (nR0 cs)) (zl7 ((p,v)::ps)) eN (nR0 cs)=some (.normal,eN,nR1 cs (p::ps.map (·.1)) (ykx (p::ps.map (·.1)))):=by
 obtain⟨x,e',m',h1,rfl,h2,h3,h4⟩:=ykt g cs p v
 unfold zl7
 rw [List.map_cons,zcl,h1,Option.bind_some]
 unfold zd3
 dsimp only [Ex.on]
 rw [if_pos h2,h3,h4]
 exact yfg g cs ps [p] (by simp;omega)
abbrev e1N:Env:=[(0,.yld ⟨3,14,0⟩),(1,.ptr ⟨0,51,0⟩ 0 0),(4,.mp ⟨0,25,0⟩)]
abbrev nRn (cs:List Nte) (gr:Ob) (n:Nat) (last:Ob):Mem:=nM cs gr (.ref ⟨3,11,0⟩ 0 n n)++[(⟨4,5,0⟩,.gone),(⟨3,11,0⟩,last)]
def yn4:D->List UInt8
 | .str s=>s
 | _=>[]
omit g in
theorem z1p (gs:Grt):(zl7 gs).map (fun e=>D.str (yn4 e.1))=gs.map fun p=>D.str p.1:=by
 unfold zl7
 rw [List.map_map]
 rfl
theorem ynl (cs:List Nte) (k:List UInt8) (v:Int) (gr:Grt) (hl:gr.length<=100000):
  zgr (bdN E) ⟨4,5⟩ 5 (.t 4) 0 1 8 [0,5] e1N (nM cs (.map (zl7 ((k,v)::gr))) (.d .nil))=some (.normal,eN,nRn cs (.map (zl7 ((k,v)::gr))) (gr.length+1) (.bag zac 1 (gr.length+1) (((k,v)::gr).map fun p=>D.str p.1))):=by
 have hj:zfe true (nR0 cs) (nRn cs .gone (gr.length+1) (.row true zac 1 (gr.length+1) (((k,v)::gr).map fun p=>D.str p.1)))=nRn cs .gone (gr.length+1) (.bag zac 1 (gr.length+1) (((k,v)::gr).map fun p=>D.str p.1)):=by
  simp [zfe,z8w,zym,Evl.look]
 refine(zov (o:=⟨0,25,0⟩) (es:=zl7 ((k,v)::gr)) rfl rfl (i:=⟨4,5,0⟩) (m2:=nR0 cs) (e2:=eN) (e3:=eN) rfl rfl rfl
  (fun p=>nRn cs .gone (gr.length+1) (.row true zac 1 (gr.length+1) (p.map fun e=>D.str (yn4 e.1)))) (fun p hp=> ?_) (mj:=nRn cs .gone (gr.length+1) (.bag zac 1 (gr.length+1) (((k,v)::gr).map fun p=>D.str p.1))) ?_ (fun p hp=> ?_) rfl).trans rfl
 ·obtain⟨us,rfl,hu⟩:=zkv hp
  have hul:us.length=gr.length+1:=hu.length_eq
  obtain⟨a,b,rfl⟩:∃a b,us=a::b:=List.exists_cons_of_ne_nil (by rintro rfl;simp at hul)
  obtain⟨a,w⟩:=a
  have h0:=yhu g cs a w b (by simp at hul;omega)
  unfold zl7 at h0
  rw [h0]
  have h1:=z1p ((a,w)::b)
  unfold zl7 at h1
  rw [h1]
  dsimp only [nR1,ykx]
  simp only [List.length_cons,List.length_map] at hul ⊢
  rw [hul]
  simp only [List.map_cons,List.map_map]
  rfl
 ·rw [z1p]
  exact hj
 ·obtain⟨us,rfl,hu⟩:=zkv hp
  have h1:=z1p us
  unfold zl7 at h1
  rw [h1]
  have hb:yc4 1 (gr.length+1) (((k,v)::gr).map fun p=>D.str p.1) (us.map fun p=>D.str p.1)=true:=yji (hu.symm.map _) (by rw [List.length_map];exact hu.length_eq)
  exact LeJ.ok (.row<| .map (zmf _)<| .gone<| .gone<| .gone<| .row<| .cells<| .row<| .row<| .cells<| .row<| .loop rfl rfl<| .gone<| .bag hb .nil)
end
abbrev ybo (cs:List Nte) (gs:Grt) (last:Ob):Mem:=nB cs (.map (zl7 gs))++[(⟨1,2,0⟩,.row true zac 1 0 []),(⟨1,5,0⟩,last)]
section
variable {E : Oracle} (g : Good E)
include g
theorem yh9 (hx:ext n_slices_Sort_Lstring_string=some sortXS) (cs:List Nte) (gs:Grt) (ks:List (List UInt8)) (n slot:Nat) (hn:ks.length=n) (h0:n≠0) (hb:n<=100000):
  zh3 (fun m=>zg6 E ⟨1,2⟩ slot true true (.fn n_slices_Sort_Lstring_string [] []) [.ref ⟨1,5,0⟩ 0 n n] m) (ybo cs gs (.bag zac 1 n (ks.map D.str))) (.ref ⟨1,5,0⟩ 0 n n)=some (.tup [],ybo cs gs (.row true zac 1 n ((zfg ks).map D.str))):=by
 have hj:zfe false (ybo cs gs (.bag zac 1 n (ks.map D.str))) (ybo cs gs (.row true zac 1 n ((zfg ks).map D.str)))=ybo cs gs (.row true zac 1 n ((zfg ks).map D.str)):=by
  simp [zfe,zym]
 refine(ztc (n:=n) (xs:=ks.map D.str) rfl (by rw [List.length_map];exact hn) (.tup [],ybo cs gs (.row true zac 1 n ((zfg ks).map D.str))) (fun p hp=> ?_) ?_).trans (by rw [hj])
 ·obtain⟨us,rfl,hu⟩:=yf7 hp
  have hul:us.length=n:=hu.length_eq.trans hn
  have key:Evl.callW E ⟨1,2⟩ slot true true (.fn n_slices_Sort_Lstring_string [] []) [.ref ⟨1,5,0⟩ 0 n n] (ybo cs gs (.row true zac 1 n (us.map D.str))) fun v m=>v= .tup []/\m=ybo cs gs (.row true zac 1 n ((zfg ks).map D.str)):=by
   repeat' ((conv=>whnf);first
   | refine Yz ?_
    | (refine In.extern (v:= .tup []) (m':=ybo cs gs (.row true zac 1 n ((zfg ks).map D.str))) g.lim hx ?_ ?_)
    | (exact⟨rfl,rfl⟩)
    | (exact⟨trivial,rfl⟩)
    | (simp only [Evl.idsAll,Evl.idsO,zcs,zg9,List.nil_append])
    | fail)
   rw [<-ztn hu]
   show (if n=0/\n=0/\n=0 then some (V.tup [],ybo cs gs (.row true zac 1 n (us.map D.str))) else if n=n/\n=n/\n≠0/\n<4611686018427387904 then(match Evl.strsOf (us.map D.str) with
    | some zs=>some (V.tup [],upd (ybo cs gs (.row true zac 1 n (us.map D.str))) ⟨1,5,0⟩ (.row true zac 1 n ((zfg zs).map D.str)))
    | none=>none) else none)=_
   rw [if_neg (fun h=>h0 h.1),if_pos ⟨rfl,rfl,h0,by omega⟩,z0e]
   rfl
  obtain⟨q,h1,h2,h3⟩:=Evl.callW_ok key
  have:(q:V×Mem)=(.tup [],ybo cs gs (.row true zac 1 n ((zfg ks).map D.str))):=Prod.ext h2 h3
  rw [<-this]
  exact h1
 ·rw [hj]
  exact LeJ.ok (.row<| .map (zmf _)<| .map (zmf _)<| .gone<| .gone<| .row<| .cells<| .row<| .row .nil)
theorem ybi (hx:ext n_slices_Sort_Lstring_string=some sortXS) (cs:List Nte) (k:List UInt8) (v:Int) (gr:Grt) (hl:gr.length<=1000) {slot:Nat} {K:V->Mem->Prop} (hK:K (Ws (zfg (((k,v)::gr).map (·.1)))) (nB cs (.map (zl7 ((k,v)::gr))))):
  In E 1 zcv [.fn zaw [] [.ptr ⟨0,51,0⟩ 0 0]] (nB cs (.map (zl7 ((k,v)::gr)))) fun v m'=>z6e ⟨0,1⟩ slot true v m' K:=by
 refine In.enter (f:=zcv) g.lim rfl rfl ?_
 have hs:=(zc7 (((k,v)::gr).map (·.1))).length_eq
 have h1:=ynl g cs k v gr (by omega)
 have hso:=yh9 g hx cs ((k,v)::gr) (((k,v)::gr).map (·.1)) (gr.length+1) 7 (by simp) (by omega) (by omega)
 rw [Ws,hs,List.length_map,List.length_cons] at hK
 rw [show ((k,v)::gr).map (fun p=>D.str p.1)=(((k,v)::gr).map (·.1)).map D.str by rw [List.map_map];rfl] at h1
 generalize (((k,v)::gr).map (·.1)).map D.str=kd at *
 repeat' ((conv=>whnf);first
 | refine Yz ?_
  | (refine In.enter (f:=zev) g.lim rfl rfl ?_)
  | (refine In.enter (f:=zco) g.lim rfl rfl ?_)
  | (refine In.enter (f:=zaw) g.lim rfl rfl ?_)
  | (refine⟨_,_,_,h1,?_⟩)
  | (refine zsi.mk ⟨(.ref ⟨2,4,0⟩ 0 (gr.length+1) (gr.length+1),nB cs (.map (zl7 ((k,v)::gr)))++[(⟨1,2,0⟩,.row true zac 1 0 []),(⟨2,2,0⟩,.row true zac 1 0 []),(⟨2,4,0⟩,.bag zac 1 (gr.length+1) kd)]),rfl,?_⟩)
  | (refine zsi.mk ⟨(.ref ⟨1,5,0⟩ 0 (gr.length+1) (gr.length+1),ybo cs ((k,v)::gr) (.bag zac 1 (gr.length+1) kd)),rfl,?_⟩)
  | (refine⟨_,hso,?_⟩)
  | (refine zez.mk ⟨rfl,by omega⟩ ?_)
  | (exact hK)
  | (simp only [and_self,if_true];exact hK)
  | (simp only [Evl.idsAll,Evl.idsO,zcs,zg9,List.nil_append])
  | fail)
end
section
variable {E : Oracle} (g : Good E)
include g
abbrev lM (cs:List Nte) (gs:Grt) (n:Nat) (out:List D):Mem:=[(⟨0,2,0⟩,.row false zar 2 0 []),(⟨0,19,0⟩,.map (zf7 cs)),(⟨0,25,0⟩,.map (zl7 gs)),(⟨0,27,0⟩,.gone),(⟨0,43,0⟩,.gone),(⟨0,10,0⟩,.row false zar 2 n out),(⟨0,51,0⟩,.cells zic [.mp ⟨0,25,0⟩])]
def zu6 (cs:List Nte) (d:List UInt8) (j:Nat):List Int:=((List.range j).map fun(i:Nat)=>(i:Int)+1).filter fun x=>(zrj d x cs).isNone
omit g in
theorem zxe (cs:List Nte) (d:List UInt8) (j:Nat):zu6 cs d (j+1)=zu6 cs d j++if(zrj d ((j:Int)+1) cs).isNone=true then [(j:Int)+1] else []:=by
 unfold zu6
 rw [List.range_succ,List.map_append,List.filter_append]
 congr 1
 simp only [List.map_cons,List.map_nil,List.filter_cons,List.filter_nil]
omit g in
theorem zu7 (cs:List Nte) (d:List UInt8) (j:Nat):(zu6 cs d j).length<=j:=by
 unfold zu6
 refine Nat.le_trans (List.length_filter_le _ _) ?_
 simp
abbrev lM3 (cs:List Nte) (gs:Grt) (n:Nat) (out:List D) (d:List UInt8) (xs:List Int):Mem:=lM cs gs n out++[(⟨0,59,0⟩,.row false zbv 1 xs.length (xs.map DI)),(⟨0,13,0⟩,.row false zbv 1 0 []),(⟨0,13,1⟩,.cells zar [S d,.ref ⟨0,59,0⟩ 0 xs.length xs.length])]
theorem b3 (cs:List Nte) (gs:Grt) (ds:List (List UInt8)) (k:Nat) (n:Nat) (out:List D) (d:List UInt8) (G:Int) (hG:zuo d gs=some G) (hb:1<=G/\G<=1000) {K:Ex->Env->Mem->Prop}
  (hK:∀e,e=[(4,.mp ⟨0,19,0⟩),(6,.mp ⟨0,25,0⟩),(10,.ref ⟨0,10,0⟩ 0 n n),(12,S d),(13,.ptr ⟨0,13,1⟩ 0 0),(14,I G),(52,Ws ds),(53,I ds.length),(54,I k),(64,B false)]->K (.exit 6) e (lM3 cs gs n out d (zu6 cs d (G-1).toNat))):
  zao E ⟨0,1⟩ [4,6,10,12,13,14,52,53,54] [⟨0,2,0⟩,⟨0,19,0⟩,⟨0,25,0⟩,⟨0,27,0⟩,⟨0,43,0⟩,⟨0,10,0⟩,⟨0,51,0⟩,⟨0,59,0⟩,⟨0,13,0⟩,⟨0,13,1⟩] zkq
   [(4,.mp ⟨0,19,0⟩),(6,.mp ⟨0,25,0⟩),(10,.ref ⟨0,10,0⟩ 0 n n),(12,S d),(13,.ptr ⟨0,13,1⟩ 0 0),(14,I 1),(52,Ws ds),(53,I ds.length),(54,I k)] (lM3 cs gs n out d []) K:=by
 refine zao.to (zao.up g (fun j=>[(4,.mp ⟨0,19,0⟩),(6,.mp ⟨0,25,0⟩),(10,.ref ⟨0,10,0⟩ 0 n n),(12,S d),(13,.ptr ⟨0,13,1⟩ 0 0),(14,I ((j:Int)+1)),(52,Ws ds),(53,I ds.length),(54,I k)])
  (fun j=>lM3 cs gs n out d (zu6 cs d j)) (G-1).toNat (fun j hj ih=> ?_) 0 (Nat.zero_le _)) rfl rfl
 have hf:=zwu d gs
 rw [hG] at hf
 have hn:=zwv d ((j:Int)+1) cs
 have hml:=zu7 cs d j
 by_cases hlt:j<(G-1).toNat
 ·have ih:=ih hlt
  rw [zxe] at ih
  cases hg:zrj d ((j:Int)+1) cs with
  | none=>
   rw [hg] at hn ih
   simp only [Option.isNone_none,if_true,lM3] at ih
   rw [List.length_append,List.map_append] at ih
   repeat' ((conv=>whnf);first
   | refine Yz ?_
    | (refine ztt.mk ⟨_,hf,?_⟩)
    | (refine ztt.mk ⟨_,hn,?_⟩)
    | (simp only [Evl.idsAll,Evl.idsO,zcs,zg9,List.nil_append])
    | (refine zao.to ih (by simp) (by simp))
    | fail)
  | some o=>
   rw [hg] at hn ih
   simp only [Option.isNone_some,Bool.false_eq_true,if_false,List.append_nil] at ih
   repeat' ((conv=>whnf);first
   | refine Yz ?_
    | (refine ztt.mk ⟨_,hf,?_⟩)
    | (refine ztt.mk ⟨_,hn,?_⟩)
    | (simp only [Evl.idsAll,Evl.idsO,zcs,zg9,List.nil_append])
    | (refine zao.to ih (by simp) (by simp))
    | fail)
 ·obtain rfl:j=(G-1).toNat:=by omega
  have hjG:(((G-1).toNat:Nat):Int)+1=G:=by omega
  clear ih
  rw [hjG] at *
  repeat' ((conv=>whnf);first
  | refine Yz ?_
   | (refine ztt.mk ⟨_,hf,?_⟩)
   | (exact hK _ rfl)
   | fail)
def ynn (d:List UInt8) (xs:List Int):List D:=[.str d,.list xs.length (xs.map DI)]
def zx5 (cs:List Nte) (gs:Grt) (ds:List (List UInt8)):List (List UInt8×List Int):=(ds.map fun d=>(d,zu6 cs d (((zuo d gs).getD 0)-1).toNat)).filter fun p=> !p.2.isEmpty
abbrev zwh (p:List UInt8×List Int):List D:=ynn p.1 p.2
omit g in
theorem yeg (cs:List Nte) (gs:Grt) (ds:List (List UInt8)) (k:Nat) (hk:k<ds.length) (G:Int) (hG:zuo ds[k] gs=some G):
  zx5 cs gs (ds.take (k+1))=zx5 cs gs (ds.take k)++if(zu6 cs ds[k] (G-1).toNat).isEmpty=true then [] else [(ds[k],zu6 cs ds[k] (G-1).toNat)]:=by
 unfold zx5
 rw [List.take_add_one,List.getElem?_eq_getElem hk,List.map_append,List.filter_append]
 congr 1
 simp only [Option.toList_some,List.map_cons,List.map_nil,List.filter_cons,List.filter_nil,hG,Option.getD_some]
 cases (zu6 cs ds[k] (G-1).toNat).isEmpty<;>simp
theorem b4 (cs:List Nte) (gs:Grt) (ds:List (List UInt8)) (hd:∀d∈ds,∃G,zuo d gs=some G/\1<=G/\G<=1000) (hdl:ds.length<=1000) {K:Ex->Env->Mem->Prop}
  (hK:K (.exit 4) [(4,.mp ⟨0,19,0⟩),(6,.mp ⟨0,25,0⟩),(10,.ref ⟨0,10,0⟩ 0 (zx5 cs gs ds).length (zx5 cs gs ds).length),(52,Ws ds),(53,I ds.length),(54,I ds.length),(55,B false)] (lM cs gs (zx5 cs gs ds).length ((zx5 cs gs ds).flatMap zwh))):
  zao E ⟨0,1⟩ [4,6,10,52,53,54] [⟨0,2,0⟩,⟨0,19,0⟩,⟨0,25,0⟩,⟨0,27,0⟩,⟨0,43,0⟩,⟨0,10,0⟩,⟨0,51,0⟩] zkr [(4,.mp ⟨0,19,0⟩),(6,.mp ⟨0,25,0⟩),(10,.ref ⟨0,10,0⟩ 0 0 0),(52,Ws ds),(53,I ds.length),(54,I 0)] (lM cs gs 0 []) K:=by
 refine zao.to (zao.up g (fun k=>[(4,.mp ⟨0,19,0⟩),(6,.mp ⟨0,25,0⟩),(10,.ref ⟨0,10,0⟩ 0 (zx5 cs gs (ds.take k)).length (zx5 cs gs (ds.take k)).length),(52,Ws ds),(53,I ds.length),(54,I k)])
  (fun k=>lM cs gs (zx5 cs gs (ds.take k)).length ((zx5 cs gs (ds.take k)).flatMap zwh)) ds.length (fun k hk ih=> ?_) 0 (Nat.zero_le _)) rfl rfl
 by_cases hlt:k<ds.length
 ·have ih:=ih hlt
  obtain⟨G,hG,hb⟩:=hd ds[k] (List.getElem_mem hlt)
  rw [yeg cs gs ds k hlt G hG] at ih
  have h3:=fun {K}=>b3 g cs gs ds k (zx5 cs gs (ds.take k)).length ((zx5 cs gs (ds.take k)).flatMap zwh) ds[k] G hG hb (K:=K)
  have hol:(zx5 cs gs (ds.take k)).length<=ds.length:=by
   unfold zx5
   refine Nat.le_trans (List.length_filter_le _ _) ?_
   rw [List.length_map,List.length_take];omega
  generalize zx5 cs gs (ds.take k)=out at *
  have hml:=zu7 cs ds[k] (G-1).toNat
  generalize zu6 cs ds[k] (G-1).toNat=xs at *
  repeat' ((conv=>whnf);first
  | refine Yz ?_
   | (refine zgz.ws k rfl hlt ?_)
   | (refine h3 (fun e he=> ?_);subst he)
   | fail)
  cases xs with
  | nil=>
   simp only [List.isEmpty_nil,if_true,List.append_nil] at ih
   repeat' ((conv=>whnf);first
   | refine Yz ?_
    | (simp only [lM3,lM,List.cons_append,Evl.idsAll,Evl.idsO,zcs,zg9,List.nil_append])
    | (refine zao.to ih rfl rfl)
    | fail)
  | cons x xr=>
   simp only [List.isEmpty_cons,Bool.false_eq_true,if_false,lM] at ih
   rw [List.length_append,List.flatMap_append] at ih
   repeat' ((conv=>whnf);first
   | refine Yz ?_
    | (refine Cmp.tt (by simp only [List.length_cons];omega) ?_)
    | (simp only [List.cons_append,Evl.idsAll,Evl.idsO,zcs,zg9,List.nil_append])
    | (refine zez.mk ⟨trivial,trivial,trivial,trivial,trivial,rfl,by omega,by omega⟩ ?_)
    | (refine zao.to ih (by simp) (by simp [ynn]))
    | fail)
 ·obtain rfl:k=ds.length:=by omega
  clear ih
  rw [List.take_length]
  repeat' ((conv=>whnf);first
  | refine Yz ?_
   | (exact hK)
   | fail)
abbrev LMs (ms:List (List UInt8×List Int)):V:= .d (.list ms.length (ms.flatMap zwh))
theorem yb2 (hx:ext n_slices_Sort_Lstring_string=some sortXS) (l:List Nte) (hl:l.length<=1048576) (hz:zdc l=0) (hf:∀p∈grN (zdz l),p.2<=1000) (k:List UInt8) (v:Int) (gr:Grt) (hg:grN (zdz l)=(k,v)::gr) (hgr:gr.length<=999):
  Fc E zbu [LNt l] (.tup [LMs (zx5 (zdz l) (grN (zdz l)) (zfg ((grN (zdz l)).map (·.1)))),I 0]):=by
 refine g.fn rfl rfl ?_
 have hcl:=fun {cx slot mm K}=>zej.collect g l hl hz (cx:=cx) (slot:=slot) (mm:=mm) (K:=K)
 have hpos:∀n∈zdz l,1<=n.nu:=fun n hn=>by
  have h1:=(zlq.1 hz).2.1 n ((zfs hz).1 hn)
  unfold ztv at h1
  rw [zcx] at h1
  have:=(@z2d n.nu 1 999999999).1 (h1 _ (by simp))
  omega
 have hI:=z1f (zdz l) [] [] GrI.nil hpos
 have r1:=fun {e1} h1 h2=>yi2 (E:=E) (zdz l) hpos (e1:=e1) h1 h2
 have r2:=fun {e1} h1 h2=>rangeM (E:=E) (zdz l) (grN (zdz l)) hf (e1:=e1) h1 h2
 have hsp:=zc7 ((grN (zdz l)).map (·.1))
 have hd:∀d∈zfg ((grN (zdz l)).map (·.1)),∃G,zuo d (grN (zdz l))=some G/\1<=G/\G<=1000:=fun d hd=>by
  obtain⟨p,hp,rfl⟩:=List.mem_map.1 (hsp.mem_iff.1 hd)
  obtain⟨a,b⟩:=p
  have h1:=(zks hI.one).2 hp
  obtain⟨⟨n,hn,_,h2⟩,_⟩:=(hI.val _ _).1 h1
  have h3:=hf _ hp
  have h4:=hpos n (by simpa using hn)
  exact⟨b,h1,by omega,h3⟩
 have hdl:(zfg ((grN (zdz l)).map (·.1))).length<=1000:=by
  rw [hsp.length_eq,List.length_map,hg,List.length_cons]
  omega
 have h4:=fun {K}=>b4 g (zdz l) (grN (zdz l)) (zfg ((grN (zdz l)).map (·.1))) hd hdl (K:=K)
 clear hd hdl hsp hI
 rw [hg] at r1 r2 h4 ⊢
 have hso:=fun {slot K}=>ybi g hx (zdz l) k v gr (by omega) (slot:=slot) (K:=K)
 generalize zdz l=cs at *
 generalize hgs:(k,v)::gr=gs at *
 generalize zfg (gs.map (·.1))=ds at *
 generalize hms:zx5 cs gs ds=ms at *
 repeat' ((conv=>whnf);first
 | refine Yz ?_
  | (refine hcl rfl ?_)
  | (refine⟨_,_,_,r1 rfl rfl,?_⟩)
  | (refine⟨_,_,_,r2 rfl rfl,?_⟩)
  | (refine In.enter (f:=zb1) g.lim rfl rfl ?_)
  | (simp only [Evl.idsAll,Evl.idsO,zcs,zg9,List.nil_append])
  | (refine zsi.mk ⟨(.fn zaw [] [.ptr ⟨0,51,0⟩ 0 0],nB cs (.map (zl7 gs))),rfl,?_⟩)
  | (refine hso ?_)
  | (refine h4 ?_)
  | (refine Ret.mk ?_)
  | fail)
 exact congrArg (fun z=>V.tup [V.d (.list ms.length z),I 0]) (if_pos (by first |exact⟨trivial,trivial⟩|exact⟨trivial,rfl⟩|exact⟨rfl,trivial⟩))
theorem yb0:Fc E zbu [LNt []] (.tup [LMs [],I 0]):=g.compR 1000 (by decide+kernel)
end
theorem yam (d:List UInt8) (x:Int):∀gs:Grt,(z7w d x gs).length<=gs.length+1
 | []=>Nat.le_refl _
 | (k,v)::r=>by
  unfold z7w
  split
  ·simp
  ·have:=yam d x r
   simp only [List.length_cons]
   omega
theorem z6z:∀(l:List Nte) (gs:Grt),(l.foldl grA gs).length<=gs.length+l.length
 | [],_=>by simp
 | n::r,gs=>by
  have h1:=z6z r (grA gs n)
  have h2:(grA gs n).length<=gs.length+1:=yam _ _ _
  rw [List.foldl_cons,List.length_cons]
  omega
theorem z6n {l:List Nte} (hz:zdc l=0):∀n∈zdz l,1<=n.nu:=fun n hn=>by
 have h1:=(zlq.1 hz).2.1 n ((zfs hz).1 hn)
 unfold ztv at h1
 rw [zcx] at h1
 have:=(@z2d n.nu 1 999999999).1 (h1 _ (by simp))
 omega
theorem z35 {l:List Nte} (hz:zdc l=0):GrI (zdz l) (grN (zdz l)):=z1f (zdz l) [] [] GrI.nil (z6n hz)
def yhe (l:List Nte):List (List UInt8×List Int):=zx5 (zdz l) (grN (zdz l)) (zfg ((grN (zdz l)).map (·.1)))
structure Whole (l w:List Nte):Prop where
 ok:zdc w=0
 low:∀p∈grN (zdz w),p.2<=1000
 none:yhe w=[]
section
variable {E : Oracle} (g : Good E)
include g
omit g in
theorem yj0 {l:List Nte} (hz:zdc l=0) {n:Nte} (hn:n∈l):grN (zdz l)≠[]:=fun h=>by
 have hI:=z35 hz
 rw [h] at hI
 have key:∀(q:List Nte),(∃m∈q,m.dk=n.dk)->∃m∈q,m.dk=n.dk/\∀o∈q,o.dk=n.dk->o.nu<=m.nu:=by
  intro q
  induction q with
  | nil=>rintro⟨_,h,_⟩;cases h
  | cons y r ih=>
   intro hx
   by_cases hr:∃m∈r,m.dk=n.dk
   ·obtain⟨m,h1,h2,h3⟩:=ih hr
    by_cases hy:y.dk=n.dk/\m.nu<y.nu
    ·exact⟨y,by simp,hy.1,fun o ho hd=>by
      rcases List.mem_cons.1 ho with rfl|ho
      ·exact Int.le_refl _
      ·have:=h3 o ho hd;omega⟩
    ·exact⟨m,by simp [h1],h2,fun o ho hd=>by
      rcases List.mem_cons.1 ho with rfl|ho
      ·have:¬m.nu<o.nu:=fun hh=>hy ⟨hd,hh⟩
       omega
      ·exact h3 o ho hd⟩
   ·obtain⟨m,hm,hd⟩:=hx
    have hmy:m=y:=by
     rcases List.mem_cons.1 hm with e|hm
     ·exact e
     ·exact absurd ⟨m,hm,hd⟩ hr
    exact⟨y,by simp,hmy▸hd,fun o ho hd'=>by
     rcases List.mem_cons.1 ho with rfl|ho
     ·exact Int.le_refl _
     ·exact absurd ⟨o,ho,hd'⟩ hr⟩
 obtain⟨m,h1,h2,h3⟩:=key (zdz l) ⟨n,(zfs hz).2 hn,rfl⟩
 have:=(hI.val n.dk m.nu).2 ⟨⟨m,by simpa using h1,h2,rfl⟩,fun o ho=>h3 o (by simpa using ho)⟩
 simp [zuo] at this
theorem yb1 (l:List Nte) (hl:l.length<=999) (hz:zdc l=0) (hf:∀p∈grN (zdz l),p.2<=1000) {n:Nte} (hn:n∈l):Fc E zbu [LNt l] (.tup [LMs (yhe l),I 0]):=by
 have hne:=yj0 hz hn
 have hlen:=z6z (zdz l) []
 have hcl:=zuy l
 cases hg:grN (zdz l) with
 | nil=>exact absurd hg hne
 | cons p gr=>
  obtain⟨k,v⟩:=p
  have h:=yb2 g rfl l (by omega) hz hf k v gr hg (by
   have:(grN (zdz l)).length<=([]:Grt).length+(zdz l).length:=hlen
   rw [hg,List.length_cons,List.length_nil] at this
   omega)
  exact h
end
structure Slt where
 sr:List UInt8
 mi:Int
def Slt.cells (t:Slt):List D:=[.str t.sr,DI t.mi]
def z8o (ks:List (List UInt8)) (s:List UInt8):List (List UInt8):=if s∈ks then ks else ks++[s]
theorem ygt (ks:List (List UInt8)) (s:List UInt8):(z8o ks s).length<=ks.length+1:=by
 unfold z8o
 split
 ·omega
 ·simp
def ym8 (l:List (List UInt8)):Prop:=l.Pairwise fun a b=>zag a b=true
theorem zx1 (x y:List UInt8) (h:zag y x=false) (hn:x≠y):zag x y=true:=by
 cases hh:zag x y with
 | true=>rfl
 | false=>
  exfalso
  apply hn
  have key:∀x y:List UInt8,zag y x=false->zag x y=false->x=y:=by
   intro x
   induction x with
   | nil=>intro y _ h2;cases y with
    | nil=>rfl
    | cons=>simp [zag] at h2
   | cons c x ih=>intro y h1 h2;cases y with
    | nil=>simp [zag] at h1
    | cons d y=>
     simp only [zag,Bool.or_eq_false_iff,decide_eq_false_iff_not,Bool.and_eq_false_iff,beq_eq_false_iff_ne,ne_eq,UInt8.not_lt] at h1 h2
     have e:c=d:=UInt8.le_antisymm h1.1 h2.1
     subst e
     rw [ih y (h1.2.resolve_left (fun h=>h rfl)) (h2.2.resolve_left (fun h=>h rfl))]
  exact key x y h hh
theorem yd1 (s:List UInt8):∀(l:List (List UInt8)) (k:Nat),k<=l.length->(∀j,(hj:j<l.length)->j<k->zag l[j] s=true)->(∀j,(hj:j<l.length)->k<=j->zag s l[j]=true)->ycr s l=l.take k++s::l.drop k
 | [],k,_,_,_=>by simp [ycr]
 | y::l,0,_,_,h2=>by
  have:=h2 0 (by simp) (Nat.le_refl _)
  simp only [List.getElem_cons_zero] at this
  unfold ycr
  rw [strLess_asymm _ _ this]
  rfl
 | y::l,k+1,hk,h1,h2=>by
  have:=h1 0 (by simp) (by omega)
  simp only [List.getElem_cons_zero] at this
  unfold ycr
  rw [if_pos this,List.take_succ_cons,List.drop_succ_cons,List.cons_append]
  congr 1
  refine yd1 s l k (by simpa using hk) (fun j hj hjk=> ?_) (fun j hj hjk=> ?_)
  ·have:=h1 (j+1) (by simp;omega) (by omega)
   simpa using this
  ·have:=h2 (j+1) (by simp;omega) (by omega)
   simpa using this
theorem yfu {ks:List (List UInt8)} {s:List UInt8}:zfg (ks++[s])=ycr s (zfg ks):=by
 have h:(ks++[s]).Perm (s::ks):=List.perm_append_singleton s ks
 rw [ztn h]
 rfl
theorem yfv {ks:List (List UInt8)} (h:ks.Nodup):ym8 (zfg ks):=by
 have h1:=ziq ks
 have h2:(zfg ks).Nodup:=(zc7 ks).nodup_iff.2 h
 unfold ym8
 exact(h1.and h2).imp fun h=>zx1 _ _ h.1 h.2
theorem ya2 {ks:List (List UInt8)} {s:List UInt8} (h:ks.Nodup):(z8o ks s).Nodup:=by
 unfold z8o
 split
 ·exact h
 ·rename_i hn
  rw [List.nodup_append]
  refine⟨h,by simp,fun a ha b hb=> ?_⟩
  rw [List.mem_singleton] at hb
  subst hb
  rintro rfl
  exact hn ha
def zol (l:List Nte) (d:List UInt8):Int:=l.foldl (fun n x=>if x.dk=d then max n x.nu else n) 0
theorem ydw (l:List Nte) (d:List UInt8) (k:Nat) (h:k<l.length):zol (l.take (k+1)) d=if l[k].dk=d then max (zol (l.take k) d) l[k].nu else zol (l.take k) d:=by
 unfold zol
 rw [List.take_add_one,List.getElem?_eq_getElem h,List.foldl_append]
 rfl
theorem znw (d:List UInt8):∀(l:List Nte) (a:Int),a<=l.foldl (fun n x=>if x.dk=d then max n x.nu else n) a/\(∀x∈l,x.dk=d->x.nu<=l.foldl (fun n x=>if x.dk=d then max n x.nu else n) a)/\(l.foldl (fun n x=>if x.dk=d then max n x.nu else n) a=a\/∃x∈l,x.dk=d/\x.nu=l.foldl (fun n x=>if x.dk=d then max n x.nu else n) a)
 | [],a=>⟨Int.le_refl _,fun _ h=>(by cases h),.inl rfl⟩
 | y::r,a=>by
  obtain⟨h1,h2,h3⟩:=znw d r (if y.dk=d then max a y.nu else a)
  rw [List.foldl_cons]
  refine⟨?_,fun x hx hd=> ?_,?_⟩
  ·clear h2 h3
   by_cases hd:y.dk=d
   ·rw [if_pos hd] at h1 ⊢;omega
   ·rw [if_neg hd] at h1 ⊢;exact h1
  ·rcases List.mem_cons.1 hx with rfl|hx
   ·clear h2 h3
    rw [if_pos hd] at h1 ⊢;omega
   ·exact h2 x hx hd
  ·rcases h3 with h3|⟨x,hx,h4,h5⟩
   ·by_cases hd:y.dk=d
    ·rw [if_pos hd] at h3 ⊢
     rcases Int.le_total a y.nu with h|h
     ·exact .inr ⟨y,by simp,hd,by rw [h3];omega⟩
     ·exact .inl (by rw [h3];omega)
    ·rw [if_neg hd] at h3 ⊢
     exact .inl h3
   ·exact .inr ⟨x,by simp [hx],h4,h5⟩
theorem yj1 (l:List Nte) (d:List UInt8):0<=zol l d:=(znw d l 0).1
theorem ydv {l:List Nte} {x:Nte} (h:x∈l):x.nu<=zol l x.dk:=(znw x.dk l 0).2.1 x h rfl
theorem zu4 {l:List Nte} (hz:zdc l=0) {x:Nte} (hx:x∈l):zuo x.dk (grN (zdz l))=some (zol l x.dk):=by
 have hI:=z35 hz
 obtain⟨h1,h2,h3⟩:=znw x.dk l 0
 have hp:=z6n hz x ((zfs hz).2 hx)
 refine(hI.val _ _).2 ⟨?_,fun n hn hd=>h2 n ((zfs hz).1 (by simpa using hn)) hd⟩
 rcases h3 with h3|⟨y,hy,h4,h5⟩
 ·have:=ydv hx
  unfold zol at this
  rw [h3] at this
  omega
 ·exact⟨y,by simpa using (zfs hz).2 hy,h4,h5⟩
def dkK (l:List Nte):List (List UInt8):=l.foldl (fun ks x=>z8o ks x.dk) []
theorem yg1 (l:List Nte) (k:Nat) (h:k<l.length):dkK (l.take (k+1))=z8o (dkK (l.take k)) l[k].dk:=by
 unfold dkK
 rw [List.take_add_one,List.getElem?_eq_getElem h,List.foldl_append]
 rfl
theorem z3s (l:List Nte):(dkK l).Nodup:=by
 have key:∀(l:List Nte) (ks:List (List UInt8)),ks.Nodup->(l.foldl (fun ks x=>z8o ks x.dk) ks).Nodup:=by
  intro l
  induction l with
  | nil=>intro ks h;exact h
  | cons x l ih=>intro ks h;exact ih _ (ya2 h)
 exact key l [] List.nodup_nil
theorem yjs (l:List Nte):(dkK l).length<=l.length:=by
 have key:∀(l:List Nte) (ks:List (List UInt8)),(l.foldl (fun ks x=>z8o ks x.dk) ks).length<=ks.length+l.length:=by
  intro l
  induction l with
  | nil=>intro ks;simp
  | cons x l ih=>
   intro ks
   have h1:=ih (z8o ks x.dk)
   have h2:=ygt ks x.dk
   rw [List.foldl_cons,List.length_cons]
   omega
 simpa [dkK] using key l []
theorem z6q (l:List Nte) (d:List UInt8):d∈dkK l↔∃x∈l,x.dk=d:=by
 have key:∀(l:List Nte) (ks:List (List UInt8)),d∈l.foldl (fun ks x=>z8o ks x.dk) ks↔d∈ks\/∃x∈l,x.dk=d:=by
  intro l
  induction l with
  | nil=>intro ks;simp
  | cons x l ih=>
   intro ks
   rw [List.foldl_cons,ih]
   have:d∈z8o ks x.dk↔d∈ks\/x.dk=d:=by
    unfold z8o
    split
    ·rename_i h
     constructor
     ·exact .inl
     ·rintro(h'|rfl)
      ·exact h'
      ·exact h
    ·simp [eq_comm]
   rw [this]
   simp only [List.mem_cons,exists_eq_or_imp,or_assoc]
 simpa [dkK] using key l []
theorem yg0 {l:List Nte} (hz:zdc l=0):zfg (dkK l)=zfg ((grN (zdz l)).map (·.1)):=by
 have hI:=z35 hz
 refine ztn ((List.perm_ext_iff_of_nodup (z3s l) hI.one).2 fun d=> ?_)
 rw [z6q,List.mem_map]
 constructor
 ·rintro⟨x,hx,rfl⟩
  exact⟨(x.dk,zol l x.dk),(zks hI.one).1 (zu4 hz hx),rfl⟩
 ·rintro⟨⟨a,b⟩,hp,rfl⟩
  obtain⟨⟨n,hn,h1,_⟩,_⟩:=(hI.val _ _).1 ((zks hI.one).2 hp)
  exact⟨n,(zfs hz).1 (by simpa using hn),h1⟩
def zmz (l:List Nte) (d:List UInt8) (x:Int):Bool:=l.any fun n=>decide (n.dk=d/\n.nu=x)
theorem z5t {l:List Nte} (hz:zdc l=0) (d:List UInt8) (x:Int):(zrj d x (zdz l)).isNone= !zmz l d x:=by
 cases hg:zrj d x (zdz l) with
 | some o=>
  obtain⟨h1,h2,h3⟩:=zrk hg
  have:zmz l d x=true:=List.any_eq_true.2 ⟨o,(zfs hz).1 h3,by simp [h1,h2]⟩
  rw [this];rfl
 | none=>
  have:zmz l d x=false:=by
   refine Bool.eq_false_iff.2 fun h=> ?_
   obtain⟨o,h1,h2⟩:=List.any_eq_true.1 h
   exact zw0 hg o ((zfs hz).2 h1) (by simpa using h2)
  rw [this];rfl
abbrev bD (b:Bool):D:= .bool b
def z7t (l:List Nte) (d:List UInt8) (G:Nat):List D:=(List.range (G+1)).map fun(j:Nat)=>bD (zmz l d j)
theorem zr6 (l:List Nte) (d:List UInt8) (G:Nat):(z7t l d G).length=G+1:=by simp [z7t]
theorem yhx (d:List UInt8) (G:Nat):z7t [] d G=List.replicate (G+1) (bD false):=by
 refine List.ext_getElem? fun j=> ?_
 by_cases h:j<G+1
 ·simp [z7t,zmz,h]
 ·rw [List.getElem?_eq_none (by rw [zr6];omega),List.getElem?_eq_none (by simp;omega)]
theorem yex (cs:List D) (i:Nat) (x:D) (h:i<cs.length):patch cs i [x]=cs.set i x:=by
 unfold patch
 rw [List.set_eq_take_append_cons_drop,if_pos h]
 simp
theorem yfi (l:List Nte) (d:List UInt8) (G k:Nat) (h:k<l.length) (hn:0<=l[k].nu) (hG:l[k].dk=d->l[k].nu<=G):z7t (l.take (k+1)) d G=if l[k].dk=d then patch (z7t (l.take k) d G) (l[k].nu.toNat*1) [bD true] else z7t (l.take k) d G:=by
 have e:∀x,zmz (l.take (k+1)) d x=(zmz (l.take k) d x||decide (l[k].dk=d/\l[k].nu=x)):=fun x=>by
  unfold zmz
  rw [List.take_add_one,List.getElem?_eq_getElem h,List.any_append]
  simp
 by_cases hd:l[k].dk=d
 ·rw [if_pos hd]
  have hG:=hG hd
  rw [Nat.mul_one,yex _ _ _ (by rw [zr6];omega)]
  refine List.ext_getElem? fun j=> ?_
  rw [List.getElem?_set]
  by_cases hj:j<G+1
  ·unfold z7t
   simp only [List.getElem?_map,List.getElem?_range hj,Option.map_some,e]
   by_cases hq:l[k].nu.toNat=j
   ·rw [if_pos hq]
    have:l[k].nu=(j:Int):=by omega
    simp [hd,this,hj]
   ·rw [if_neg hq]
    have:¬l[k].nu=(j:Int):=by omega
    simp [this]
  ·rw [List.getElem?_eq_none (by rw [zr6];omega)]
   rw [if_neg (by omega),List.getElem?_eq_none (by rw [zr6];omega)]
 ·rw [if_neg hd]
  unfold z7t
  refine List.map_congr_left fun j _=> ?_
  rw [e]
  simp [hd]
section
variable {E : Oracle} (g : Good E)
include g
theorem zz5 (l:List Nte) (hl:l.length<=1000) (d:List UInt8):Fc E zgh [LNt l,S d] (I (zol l d)):=by
 refine g.fn rfl rfl ?_
 repeat' ((conv=>whnf);first
 | refine Yz ?_
  | fail)
 refine zao.to (zao.up g (fun k=>[(0,LNt l),(1,S d),(5,I (zol (l.take k) d)),(6,I k)]) (fun _=>[]) l.length (fun k hk ih=> ?_) 0 (Nat.zero_le _)) rfl rfl
 by_cases hlt:k<l.length
 ·have ih:=ih hlt
  rw [ydw l d k hlt] at ih
  by_cases hd:l[k].dk=d
  ·rw [if_pos hd] at ih
   repeat' ((conv=>whnf);first
   | refine Yz ?_
    | (refine zgz.rec zjn k rfl hlt rfl ?_)
    | (refine Cmp.tt hd ?_)
    | (refine zao.to ih (by rw [show (if l[k].nu>zol (l.take k) d then l[k].nu else zol (l.take k) d)=max (zol (l.take k) d) l[k].nu by split<;>omega];rfl) rfl)
    | fail)
  ·rw [if_neg hd] at ih
   repeat' ((conv=>whnf);first
   | refine Yz ?_
    | (refine zgz.rec zjn k rfl hlt rfl ?_)
    | (refine Cmp.ff hd ?_)
    | (refine zao.to ih rfl rfl)
    | fail)
 ·obtain rfl:k=l.length:=by omega
  rw [List.take_length]
  repeat' ((conv=>whnf);first
  | refine Yz ?_
   | (refine Ret.mk rfl)
   | fail)
omit g in
theorem yhw (l:List Nte) (d:List UInt8) (G j:Nat) (h:j<=G):(z7t l d G)[j]? =some (bD (zmz l d j)):=by
 unfold z7t
 simp [show j<G+1 by omega]
theorem ykp (l:List Nte) (hl:l.length<=1000) (hz:zdc l=0) (d:List UInt8) (hG:zol l d<=1000):Fc E zmo [LNt l,S d] (LI (zu6 (zdz l) d (zol l d-1).toNat)):=by
 have h1:=zz5 g l hl d
 have hnn:=yj1 l d
 have hpos:∀x∈l,1<=x.nu:=fun x hx=>z6n hz x ((zfs hz).2 hx)
 have hle:∀x∈l,x.dk=d->x.nu<=zol l d:=fun x hx hd=>hd▸ydv hx
 obtain⟨G,hGd⟩:∃G:Nat,zol l d=G:=⟨(zol l d).toNat,by omega⟩
 rw [hGd] at h1 hG hle ⊢
 clear hnn
 refine g.fn rfl rfl ?_
 repeat' ((conv=>whnf);first
 | refine Yz ?_
  | (apply zaz.of;assumption)
  | fail)
 refine zao.to (zao.up g (fun k=>[(0,LNt l),(1,S d),(5,.ref ⟨0,13,0⟩ 0 (G+1) (G+1)),(6,I k)]) (fun k=>[(⟨0,4,0⟩,.row false zbv 1 0 []),(⟨0,13,0⟩,.row true z8i 1 (G+1) (z7t (l.take k) d G))]) l.length (fun k hk ih=> ?_) 0 (Nat.zero_le _)) ?_ ?_
 ·by_cases hlt:k<l.length
  ·have ih:=ih hlt
   have hx:l[k]∈l:=List.getElem_mem hlt
   have hp:=hpos _ hx
   rw [yfi l d G k hlt (by omega) (fun hd=>hle _ hx hd)] at ih
   have hrl:Unit->(z7t (l.take k) d G).length=G+1:=fun _=>zr6 _ _ _
   by_cases hd:l[k].dk=d
   ·have hGk:=hle _ hx hd
    rw [if_pos hd] at ih
    repeat' ((conv=>whnf);first
    | refine Yz ?_
     | (refine zgz.rec zjn k rfl hlt rfl ?_)
     | (refine Cmp.tt hd ?_)
     | (refine zez.mk ⟨rfl,by rw [hrl ()];omega,rfl⟩ ?_)
     | (refine zao.to ih rfl (by simp))
     | fail)
   ·rw [if_neg hd] at ih
    repeat' ((conv=>whnf);first
    | refine Yz ?_
     | (refine zgz.rec zjn k rfl hlt rfl ?_)
     | (refine Cmp.ff hd ?_)
     | (refine zao.to ih rfl rfl)
     | fail)
  ·obtain rfl:k=l.length:=by omega
   clear ih
   rw [List.take_length]
   repeat' ((conv=>whnf);first
   | refine Yz ?_
    | fail)
   refine zao.to (zao.up g (fun j=>[(5,.ref ⟨0,13,0⟩ 0 (G+1) (G+1)),(7,.ref ⟨0,7,0⟩ 0 (zu6 (zdz l) d j).length (zu6 (zdz l) d j).length),(8,I ((j:Int)+1))])
    (fun j=>[(⟨0,4,0⟩,.row false zbv 1 0 []),(⟨0,13,0⟩,.row true z8i 1 (G+1) (z7t l d G)),(⟨0,7,0⟩,.row false zbv 1 (zu6 (zdz l) d j).length ((zu6 (zdz l) d j).map DI))]) G (fun j hj ih=> ?_) 0 (Nat.zero_le _)) rfl rfl
   have hml:=zu7 (zdz l) d j
   by_cases hjG:j<G
   ·have ih:=ih hjG
    have hg0:=yhw l d G (j+1) (by omega)
    have hgt:(z7t l d G)[(0+((j:Int)+1).toNat)*1]? =some (bD (zmz l d ((j:Int)+1))):=by
     rw [show (0+((j:Int)+1).toNat)*1=j+1 by omega,hg0,show (((j+1:Nat):Int))=(j:Int)+1 by omega]
    have ht:=z5t hz d ((j:Int)+1)
    rw [zxe] at ih
    cases hb:zmz l d ((j:Int)+1) with
    | true=>
     rw [hb] at hgt ht
     rw [ht,Bool.not_true,if_neg (by decide),List.append_nil] at ih
     repeat' ((conv=>whnf);first
     | refine Yz ?_
      | (refine zgz.now hgt ?_)
      | (refine zao.to ih rfl rfl)
      | fail)
    | false=>
     rw [hb] at hgt ht
     rw [ht,Bool.not_false,if_pos rfl,List.length_append,List.map_append] at ih
     repeat' ((conv=>whnf);first
     | refine Yz ?_
      | (refine zgz.now hgt ?_)
      | (refine zao.to ih rfl rfl)
      | fail)
   ·obtain rfl:j=G:=by omega
    clear ih
    have he:zu6 (zdz l) d ((j:Int)-1).toNat=zu6 (zdz l) d j:=by
     cases j with
     | zero=>rfl
     | succ i=>
      have h3:=(znw d l 0).2.2
      have ht:zmz l d ((i:Int)+1)=true:=by
       rcases h3 with h3|⟨x,hx,h4,h5⟩
       ·exact absurd (hGd.symm.trans h3) (by omega)
       ·exact List.any_eq_true.2 ⟨x,hx,by
         have:x.nu=((i+1:Nat):Int):=h5.trans hGd
         simp [h4,this]⟩
      have hg:=z5t hz d ((i:Int)+1)
      rw [ht] at hg
      rw [zxe,hg]
      simp
    rw [he]
    repeat' ((conv=>whnf);first
    | refine Yz ?_
     | (refine zez.mk ⟨rfl,by omega⟩ ?_)
     | (refine Ret.mk ?_)
     | fail)
    all_goals simp
 ·rw [show ((G:Int)+1).toNat=G+1 by omega]
  rfl
 ·rw [List.take_zero,yhx,show ((G:Int)+1).toNat=G+1 by omega]
  rw [List.flatten_replicate_singleton]
  rfl
end
end Go.Proofs.YtmbofbehkalgkaaGreatDoor.Co
