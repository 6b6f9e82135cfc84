/-
  TopTowerServed: what its law leans on, part 6.
-/
import Derived.Laws.RangeAny
import Derived.Lib.SplitLaws
import Derived.Test.YtkgcnknhkobmjaaGreatDoorEvX
import Derived.Test.YtkgcnknhkobmjaaGreatDoorRead
import Derived.Test.YtkgcnknhkobmjaaGreatDoorSpBase
import Derived.Test.YtkgcnknhkobmjaaGreatDoorTse
namespace Go.Proofs.YtkgcnknhkobmjaaGreatDoor.Co
open Go Go.Evl
set_option maxHeartbeats 32000000
set_option maxRecDepth 100000
abbrev srA (ls:List Lmt) (l:List Wsh) (rs:List Alr) (ct bg:List (D×V)):Mem:=[(⟨0,3,0⟩,.cells zd4 [LWi l]),(⟨0,4,0⟩,.row true zar 3 0 []),(⟨0,23,0⟩,.row true zar 3 l.length (rs.flatMap Alr.cells)),(⟨0,7,0⟩,.row true zar 3 0 []),(⟨0,7,1⟩,.cells zga [.ref ⟨0,23,0⟩ 0 l.length l.length]),(⟨0,25,0⟩,.cells zb1 [LLm ls,.mp ⟨0,25,1⟩,.mp ⟨0,25,2⟩]),(⟨0,25,1⟩,.map ct),(⟨0,25,2⟩,.map bg)]
abbrev srM (ls:List Lmt) (l:List Wsh) (rs:List Alr) (ct bg:List (D×V)):Mem:=srA ls l rs ct bg++[(⟨0,8,0⟩,.cells zk2 [.ptr ⟨0,25,0⟩ 0 0]),(⟨0,9,0⟩,.cells zdp [.fn zby [.ptr ⟨0,25,0⟩ 0 0] []]),(⟨0,29,0⟩,.cells zyr [LI (List.replicate l.length (-1))])]
abbrev srO (b:Bool):Ob:= .loop [(3,.ptr ⟨0,3,0⟩ 0 0),(4,.ref ⟨0,4,0⟩ 0 0 0),(5,I 0),(6,I 0),(20,B false),(7,.ptr ⟨0,7,1⟩ 0 0),(8,.ptr ⟨0,8,0⟩ 0 0),(9,.ptr ⟨0,9,0⟩ 0 0),(29,.fn zew [] [.ptr ⟨0,29,0⟩ 0 0])] [30] znp znq 0 b false none
structure ybg (ls:List Lmt) (l:List Wsh) (i:Nat) (P:List Mvt) (rs:List Alr) (es:List (Wnd×Int)):Prop where
 le:i<=l.length
 cnt:∀w,zd1 es w=((zez ls P).count w:Nat)
 few:P.length<=8*i
 res:∃done,rs=done++rf0 (l.drop i)/\done.length=i/\zk0 ls [] l=done++zk0 ls P (l.drop i)
theorem yh3 (l:List Wsh):(rf0 l).length=l.length:=List.length_map ..
theorem ybg.len {ls:List Lmt} {l:List Wsh} {i:Nat} {P:List Mvt} {rs:List Alr} {es:List (Wnd×Int)} (h:ybg ls l i P rs es):rs.length=l.length:=by
 obtain⟨done,rfl,h2,_⟩:=h.res
 have:=h.le
 rw [List.length_append,yh3,List.length_drop,h2];omega
theorem ybg.start (ls:List Lmt) (l:List Wsh):ybg ls l 0 [] (rf0 l) []:=⟨Nat.zero_le _,fun w=>by simp [zd1,zez],by simp,[],by simp,rfl,by simp⟩
theorem ybg.over {ls:List Lmt} {l:List Wsh} {P:List Mvt} {rs:List Alr} {es:List (Wnd×Int)} (h:ybg ls l l.length P rs es):rs=zk0 ls [] l:=by
 obtain⟨done,rfl,h2,h3⟩:=h.res
 rw [h3,List.drop_length]
 rfl
theorem yjf (ls:List Lmt) (A B:List Mvt):zez ls (A++B)=zez ls A++zez ls B:=by
 unfold zez
 rw [List.flatMap_append]
theorem ybg.none {ls:List Lmt} {l:List Wsh} {i:Nat} {P:List Mvt} {rs:List Alr} {es:List (Wnd×Int)} (h:ybg ls l i P rs es) (hi:i<l.length) (hc:yew ls P l[i]=Option.none) {es':List (Wnd×Int)} (he:∀w,zd1 es' w=zd1 es w):ybg ls l (i+1) P rs es':=by
 obtain⟨done,rfl,h2,h3⟩:=h.res
 refine⟨hi,fun w=>by rw [he,h.cnt],by have:=h.few;omega,done++[yt2 l[i] Option.none],?_,by simp [h2],?_⟩
 ·rw [List.drop_eq_getElem_cons hi,rf0,List.map_cons,List.append_assoc]
  rfl
 ·rw [h3,List.drop_eq_getElem_cons hi,zk0,hc,List.append_assoc]
  rfl
theorem ybg.some {ls:List Lmt} {l:List Wsh} {i:Nat} {P:List Mvt} {rs:List Alr} {es:List (Wnd×Int)} (h:ybg ls l i P rs es) (hi:i<l.length) {m:Int} (hc:yew ls P l[i]=some m) (hm:(z3s l[i] m).length<=8) {es':List (Wnd×Int)} (he:∀w,zd1 es' w=zd1 es w+((zez ls (z3s l[i] m)).count w:Nat)):ybg ls l (i+1) (P++z3s l[i] m) (ys2 rs i m) es':=by
 obtain⟨done,rfl,h2,h3⟩:=h.res
 refine⟨hi,fun w=>by rw [he,h.cnt,yjf,List.count_append];omega,by have:=h.few;rw [List.length_append];omega,done++[yt2 l[i] (Option.some m)],?_,by simp [h2],?_⟩
 ·have e:(done++rf0 (l.drop i)).getD i ⟨[],0,false⟩=⟨l[i].r.nm,0,false⟩:=by
   rw [List.drop_eq_getElem_cons hi,rf0,List.map_cons]
   simp [List.getD,<-h2]
  unfold ys2
  rw [e,List.drop_eq_getElem_cons hi,rf0,List.map_cons,List.set_append_right _ _ (by omega),show i-done.length=0 from by omega,List.set_cons_zero,List.append_assoc]
  rfl
 ·rw [h3,List.drop_eq_getElem_cons hi,zk0,hc,List.append_assoc]
  rfl
theorem ybg.full {ls:List Lmt} {l:List Wsh} {i:Nat} {P:List Mvt} {rs:List Alr} {es:List (Wnd×Int)} (h:ybg ls l i P rs es) {es':List (Wnd×Int)} (he:∀w,zd1 es' w=zd1 es w) (M:List Mvt):z67 ls (zd1 es') M=z4g ls P M:=by
 unfold z67 z4g
 congr 1
 funext w
 rw [he,h.cnt]
 congr 1
theorem yj5 {α:Type} {p:α->Bool} {l:List α} (h:∀j (hj:j<l.length),p l[j]=false):l.find? p=none:=by
 rw [List.find?_eq_none]
 intro x hx
 obtain⟨j,hj,rfl⟩:=List.getElem_of_mem hx
 rw [h j hj];decide
theorem yj4 {α:Type} {p:α->Bool}:∀ {l:List α} (j:Nat) (hj:j<l.length),(∀i (hi:i<j),p (l[i]'(by omega))=false)->p l[j]=true->l.find? p=some l[j]
 | [],j,hj,_,_=>absurd hj (Nat.not_lt_zero j)
 | x::r,0,_,_,h=>by rw [List.find?_cons];have:p x=true:=h;rw [this];rfl
 | x::r,j+1,hj,h1,h2=>by
  have hx:p x=false:=h1 0 (by omega)
  rw [List.find?_cons,hx]
  exact yj4 j (by simpa using hj) (fun i hi=>h1 (i+1) (by omega)) h2
structure ym0 (l:List Wsh):Prop where
 ok:yp0 l
 mv:∀w∈l,∀m,0<=m->m<=1439->(z3s w m).length<=8/\∀x∈z3s w m,0<=x.mo/\x.mo<=143999999
theorem zx9 {w:Wsh} (h:OkW w) {m:Int} (hm:m∈z6w w):0<=m/\m<=1439:=by
 have h1:=h.ea
 have h2:=h.la
 have h3:=h.few
 unfold z6w at hm
 have a1:0<=(w.r.mi-w.ea)/20:=Int.ediv_nonneg (by omega) (by omega)
 have a2:0<=(w.la-w.r.mi)/20:=Int.ediv_nonneg (by omega) (by omega)
 generalize hp:((w.r.mi-w.ea)/20).toNat=p at hm
 generalize hq:((w.la-w.r.mi)/20).toNat=q at hm
 have hc:(p=0/\q=0)\/(p=0/\q=1)\/(p=0/\q=2)\/(p=1/\q=0)\/(p=1/\q=1)\/(p=2/\q=0):=by omega
 rcases hc with⟨rfl,rfl⟩|⟨rfl,rfl⟩|⟨rfl,rfl⟩|⟨rfl,rfl⟩|⟨rfl,rfl⟩|⟨rfl,rfl⟩
 all_goals
  simp only [yra,List.mem_cons,List.not_mem_nil,or_false] at hm
  omega
theorem yez (w:Wsh):(z6w w).length<=3:=by
 unfold z6w yra
 split<;>simp
theorem yo9 {E:Oracle} (g:Good E) {w:Wsh} (h:OkW w):Fc E zbd [Wsv w] (LI (z6w w)):=by
 have h3:=h.few
 have a1:0<=(w.r.mi-w.ea)/20:=Int.ediv_nonneg (by have:=h.ea;omega) (by omega)
 have a2:0<=(w.la-w.r.mi)/20:=Int.ediv_nonneg (by have:=h.la;omega) (by omega)
 exact ysb g w _ _ (by omega) h.ea h.la (by omega) (by omega)
theorem z3u.refusing {E:Oracle} (g:Good E) {ls:List Lmt} (hls:ls.length<=3) (hv:∀l∈ls,zfz l=0) {M:List Mvt} (hM:∀x∈M,0<=x.mo/\x.mo<=143999999) (hMl:M.length<=1000) {es:List (Wnd×Int)} (hes:∀w,-100000000<=zd1 es w/\zd1 es w<=100000000) {ks:List Wnd} {first args:List V} {b0 b1 b2:Evl.Id} {m:Mem} {K:V->Mem->Prop}
  (ha:first ++args=[.ptr b0 0 0,LMv M]) (hne:b0≠b1/\b0≠b2/\b1≠b2) (h0:Evl.look m b0=some (.cells zb1 [LLm ls,.mp b1,.mp b2])) (h1:Evl.look m b1=some (.map (znl es))) (h2:Evl.look m b2=some (.map (zk3 ls ks)))
  (hk:∀es' ks',(∀w,zd1 es' w=zd1 es w)->zqt m b1 (.map (znl es')) fun m1=>zqt m1 b2 (.map (zk3 ls ks')) fun m2=>K (LWn (yqj ls (zd1 es) M)) m2):z3u E true (.fn zby first []) args m K:=
 UpdB.of (yix g ls hls hv M hM hMl es hes ks) ha rfl hne h0 h1 h2 (by rintro v es' ks' ⟨rfl,_⟩;exact⟨fun _=>rfl,rfl⟩) (by rintro v es' ks' ⟨rfl,h⟩;exact hk es' ks' h)
theorem z3u.take {E:Oracle} (g:Good E) {ls:List Lmt} (hls:ls.length<=3) (hv:∀l∈ls,zfz l=0) {l:List Wsh} {i:Nat} (hi:i<l.length) {m:Int} (hr:zwk l[i].r=0) (hm:0<=m/\m<=1439) (hM:∀x∈z3s l[i] m,0<=x.mo/\x.mo<=143999999) (hMl:(z3s l[i] m).length<=1000) {es:List (Wnd×Int)} (hes:∀w,-100000000<=zd1 es w/\zd1 es w<=100000000) {ks:List Wnd} {b0 b1 b2:Evl.Id} {mm:Mem} {K:V->Mem->Prop}
  (hne:b0≠b1/\b0≠b2/\b1≠b2) (h0:Evl.look mm b0=some (.cells zb1 [LLm ls,.mp b1,.mp b2])) (h1:Evl.look mm b1=some (.map (znl es))) (h2:Evl.look mm b2=some (.map (zk3 ls ks)))
  (hk:∀es' ks',(∀w,zd1 es' w=zd1 es w+((zez ls (z3s l[i] m)).count w:Nat))->zqt mm b1 (.map (znl es')) fun m1=>zqt m1 b2 (.map (zk3 ls ks')) fun m2=>K (.tup []) m2):z3u E false (.fn zde [] []) [.ptr b0 0 0,LWi l,Unt i,.d (.agg [DI m,DI (-1)]),I 1] mm K:=
 UpdB.of (yui g ls hls hv l i hi m hr hm (z3s l[i] m) rfl hM hMl es hes ks) rfl rfl hne h0 h1 h2 (by rintro v es' ks' ⟨rfl,_⟩;exact⟨fun _=>rfl,rfl⟩) (by rintro v es' ks' ⟨rfl,h⟩;exact hk es' ks' h)
section
variable {E : Oracle} (g : Good E)
include g
theorem yn3 (ls:List Lmt) (hls:ls.length<=3) (hc:zqm ls=0) (l:List Wsh) (h:ym0 l):In E 0 zbu [LLm ls,LWi l] [] fun v m'=>∃rs,v= .tup [.ref ⟨0,23,0⟩ 0 l.length l.length,I 0]/\rs=zk0 ls [] l/\rs.length=l.length/\Evl.look m' ⟨0,23,0⟩=some (.row true zar 3 l.length (rs.flatMap Alr.cells)):=by
 have hv:=yb5 hc
 refine In.enter (f:=zbu) g.lim rfl rfl ?_
 have h1:=z79 g ls (by omega)
 rw [hc] at h1
 have h2:=z8a g l h.ok
 have hlen:=h.ok.len
 have h4:=ypg g l h.ok
 repeat' ((conv=>whnf);first
 | refine Yz ?_
  | (apply zae.of;assumption)
  | (refine zae.of (yqm g) ?_)
  | (refine zg3.refused g l hlen rfl ?_)
  | (refine zg3.of (In.enter (f:=ziq) g.lim rfl rfl ?_))
  | (refine zg3.of (In.enter (f:=zla) g.lim rfl rfl ?_))
  | (refine⟨(.ptr ⟨0,25,0⟩ 0 0,srA ls l (rf0 l) [] []),rfl,?_⟩)
  | (refine⟨(.fn zew [] [.ptr ⟨0,29,0⟩ 0 0],srM ls l (rf0 l) [] []),rfl,?_⟩)
  | (refine In.enter (f:=zew) g.lim rfl rfl ?_)
  | fail)
 refine zaf.to (zaf.by (σ:=Nat×List Mvt×List Alr×List (Wnd×Int)×List Wnd) g (fun u=>ybg ls l u.1 u.2.1 u.2.2.1 u.2.2.2.1)
  (fun u=>[(0,.yld ⟨0,59,0⟩),(5,LI (List.replicate l.length (-1))),(6,I l.length),(7,I u.1)])
  (fun u=>srM ls l u.2.2.1 (znl u.2.2.2.1) (zk3 ls u.2.2.2.2)++[(⟨0,59,0⟩,srO false)])
  (fun u=>l.length-u.1) ?_ (0,[],rf0 l,[],[]) (ybg.start ls l)) (by rw [List.length_replicate];rfl) rfl
 rintro⟨i,P,rs,es,ks⟩ hS ih
 dsimp only at hS
 have hkb:=fun ks=>znt ls ks
 have hkc:=fun es=>znu es
 by_cases hlt:i<l.length
 ·have hri:i<(List.replicate l.length (-1:Int)).length:=by rw [List.length_replicate];exact hlt
  have hw:=h.ok.ok _ (List.getElem_mem hlt)
  have ho:=yl0 g l i hlt (z6w l[i]) (by have:=yez l[i];omega) (yo9 g hw)
  have hcr:=fun m hm=>zx9 hw (m:=m) hm
  have hmv:∀(j:Nat) (hj:j<(z6w l[i]).length),Fc E zcm [Unt i,LWi l,.d (.agg [DI (z6w l[i])[j],DI (-1)])] (LMv (z3s l[i] (z6w l[i])[j])):=fun j hj=>zy3 g l i hlt (z6w l[i])[j] hw.rc (hcr _ (List.getElem_mem hj))
  have hcs:yew ls P l[i]=(z6w l[i]).find? fun m=>(z4g ls P (z3s l[i] m)).isEmpty:=rfl
  have hcl:=yez l[i]
  generalize z6w l[i]=cs at *
  repeat' ((conv=>whnf);first
  | refine Yz ?_
   | (apply zae.of;assumption)
   | (refine zg4.intI i rfl hri ?_;rw [List.getElem_replicate])
   | (refine Rnd.enter g.lim ?_)
   | (simp only [])
   | fail)
  have hPb:∀es1:List (Wnd×Int),(∀w,zd1 es1 w=zd1 es w)->∀w,-100000000<=zd1 es1 w/\zd1 es1 w<=100000000:=fun es1 he w=>by
   have h5:=he w
   rw [hS.cnt] at h5
   have h6:=List.count_le_length (a:=w) (l:=zez ls P)
   have h7:=zoz ls hv hls P
   have h8:=hS.few
   omega
  refine zaf.to (zaf.by (σ:=Nat×List (Wnd×Int)×List Wnd) g (fun u=>u.1<=cs.length/\(∀w,zd1 u.2.1 w=zd1 es w)/\∀j (hj:j<cs.length),j<u.1->(z4g ls P (z3s l[i] cs[j])).isEmpty=false)
   (fun u=>[(3,.ptr ⟨0,3,0⟩ 0 0),(7,.ptr ⟨0,7,1⟩ 0 0),(8,.ptr ⟨0,8,0⟩ 0 0),(9,.ptr ⟨0,9,0⟩ 0 0),(10,.ptr ⟨0,10,0⟩ 0 0),(33,LOp cs),(34,I cs.length),(35,I u.1)])
   (fun u=>srM ls l rs (znl u.2.1) (zk3 ls u.2.2)++[(⟨0,59,0⟩,srO true),(⟨0,10,0⟩,.cells zba [I i,I (-1)])])
   (fun u=>cs.length-u.1) ?_ (0,es,ks) ⟨Nat.zero_le _,fun _=>rfl,fun j _ h=>absurd h (Nat.not_lt_zero j)⟩) rfl rfl
  rintro⟨j,es1,ks1⟩ ⟨h5,he,hno⟩ ihj
  dsimp only at h5 he hno
  by_cases hlj:j<cs.length
  ·have hmr:=hcr _ (List.getElem_mem hlj)
   have hmv:=hmv j hlj
   have hsm:=h.mv _ (List.getElem_mem hlt) cs[j] hmr.1 hmr.2
   have hfe:=hS.full he (z3s l[i] cs[j])
   have hrn:=yo4 ls (zd1 es1) (z3s l[i] cs[j])
   rw [hfe] at hrn
   have hput:=yvm g rs i (by rw [hS.len];exact hlt) cs[j]
   rw [hS.len] at hput
   by_cases hz:z4g ls P (z3s l[i] cs[j])=[]
   ·have hr0:(yqj ls (zd1 es1) (z3s l[i] cs[j])).length=0:=by rw [hrn.2 hz];rfl
    have hfd:yew ls P l[i]=some cs[j]:=by
     rw [hcs]
     exact yj4 j hlj (fun i' hi'=>hno i' (by omega) hi') (by rw [hz];rfl)
    repeat' ((conv=>whnf);first
    | refine Yz ?_
     | (apply zae.of;assumption)
     | (refine zal.rec zym j rfl hlj ?_)
     | (refine z3u.refusing g hls hv hsm.2 (by omega) (hPb es1 he) rfl (by decide) rfl rfl rfl (fun es2 ks2 h2=> ?_))
     | (refine z3u.of (is:=[⟨0,23,0⟩]) rfl rfl rfl rfl hput rfl rfl rfl ?_)
     | (refine z3u.take g hls hv hlt hw.rc hmr hsm.2 (by omega) (hPb es2 (fun w=>(h2 w).trans (he w))) (by decide) rfl rfl rfl (fun es3 ks3 h3=> ?_))
     | (simp only [Evl.idsAll,Evl.idsO,hkc,hkb,List.nil_append])
     | (refine zaf.to (ih (i+1,P++z3s l[i] cs[j],ys2 rs i cs[j],es3,ks3) (hS.some hlt hfd hsm.1 (fun w=>by rw [h3 w,h2 w,he w])) (by dsimp only;omega)) rfl rfl)
     | fail)
   ·have hr0:(yqj ls (zd1 es1) (z3s l[i] cs[j])).length≠0:=fun h0=>hz (hrn.1 (List.length_eq_zero_iff.1 h0))
    repeat' ((conv=>whnf);first
    | refine Yz ?_
     | (apply zae.of;assumption)
     | (refine zal.rec zym j rfl hlj ?_)
     | (refine z3u.refusing g hls hv hsm.2 (by omega) (hPb es1 he) rfl (by decide) rfl rfl rfl (fun es2 ks2 h2=> ?_))
     | (simp only [Evl.idsAll,Evl.idsO,hkc,hkb,List.nil_append])
     | (refine zaf.to (ihj (j+1,es2,ks2) ⟨by dsimp only;omega,fun w=>(h2 w).trans (he w),fun j' hj' hlt'=>by
       by_cases e:j'=j
       ·subst e
        cases hb:z4g ls P (z3s l[i] cs[j']) with
        | nil=>exact absurd hb hz
        | cons _ _=>rfl
       ·exact hno j' hj' (by dsimp only at hlt';omega)⟩ (by dsimp only;omega)) rfl rfl)
     | fail)
  ·obtain rfl:j=cs.length:=by omega
   clear ihj
   have hfd:yew ls P l[i]=none:=by
    rw [hcs]
    exact yj5 fun j hj=>hno j hj hj
   repeat' ((conv=>whnf);first
   | refine Yz ?_
    | (simp only [Evl.idsAll,Evl.idsO,hkc,hkb,List.nil_append])
    | (refine zaf.to (ih (i+1,P,rs,es1,ks1) (hS.none hlt hfd he) (by dsimp only;omega)) rfl rfl)
    | fail)
 ·obtain rfl:i=l.length:=by have:=hS.le;omega
  clear ih
  repeat' ((conv=>whnf);first
  | refine Yz ?_
   | (simp only [Evl.idsAll,Evl.idsO,hkc,hkb,List.nil_append])
   | (exact⟨rs,trivial,hS.over,hS.len,rfl⟩)
   | fail)
end
def i64 (n:Int):Prop:= -9223372036854775808<=n/\n<=9223372036854775807
theorem yuj {n:Int} (h:(Lit.int .i64 n).wf=true):i64 n:=by
 simp only [Lit.wf,Bool.and_eq_true,decide_eq_true_eq] at h
 exact h
section
variable {P : Program} {n : Nat} {t : Nat} {ds : List D} {x : D}
theorem yri {k:IntKind} (ht:P.underlying t=some (.int k)) (h:fit P (n+1) t ds):∃i,ds=[.int k i]/\(Lit.int k i).wf=true:=by
 simp only [fit,ht] at h;exact h
theorem ytg (ht:P.underlying t=some .string) (h:fit P (n+1) t ds):∃s,ds=[.str s]/\s.length<=maxLen:=by
 simp only [fit,ht] at h;exact h
theorem yu5 {e:Nat} (ht:P.underlying t=some (.slice e)) (h:fit P (n+1) t ds):∃m cs,ds=[.list m cs]/\m<=maxLen/\zpe (fit P n) (List.replicate m e) cs:=by
 simp only [fit,ht] at h;exact h
theorem z9t {fs:Array Field} (ht:P.underlying t=some (.struct fs)) (h:fit P (n+1) t ds):zpe (fit P n) (fs.toList.map (·.type)) ds:=by
 simp only [fit,ht] at h;exact h
theorem ys9 {e:Nat} (ht:P.underlying t=some (.slice e)) (h:zpf P t x):∃m cs,x= .list m cs/\m<=maxLen/\zpe (fit P 7) (List.replicate m e) cs:=by
 simp only [zpf,ht] at h
 obtain⟨m,cs,e,h1,h2⟩:=yu5 (n:=7) ht h
 exact⟨m,cs,by simpa using e,h1,h2⟩
theorem ytb {fs:Array Field} (ht:P.underlying t=some (.struct fs)) (h:zpf P t x):∃ds,x= .agg ds/\zpe (fit P 7) (fs.toList.map (·.type)) ds:=by
 simp only [zpf,ht] at h
 obtain⟨ds,rfl,h⟩:=h
 exact⟨ds,rfl,z9t ht h⟩
end
theorem zin {k:Nat} {ds:List D} (h:fit Tryz.prog (k+1) 3 ds):∃n,ds=[DI n]/\i64 n:=by
 obtain⟨n,rfl,hw⟩:=yri Tryz.underlying3 h
 exact⟨n,rfl,yuj hw⟩
theorem yuy {P:Program} {t u v:Nat} {xs:List D} (h:z65 P [t,u,v] xs):∃x y z,xs=[x,y,z]/\zpf P t x/\zpf P u y/\zpf P v z:=by
 obtain⟨x,_,rfl,h1,y,_,rfl,h2,z,_,rfl,h3,rfl⟩:=h
 exact⟨x,y,z,rfl,h1,h2,h3⟩
theorem zyd {k:Nat} {ds:List D} (h:fit Tryz.prog (k+1) 9 ds):∃s,ds=[.str s]:=by
 obtain⟨s,rfl,_⟩:=ytg Tryz.underlying9 h
 exact⟨s,rfl⟩
theorem yhf {k:Nat} {ds:List D} (h:fit Tryz.prog (k+2) 34 ds):∃f t d,ds=[DI f,DI t,DI d]:=by
 obtain⟨_,_,rfl,h1,_,_,rfl,h2,_,_,rfl,h3,rfl⟩:=z9t Tryz.underlying34 h
 obtain⟨f,rfl,_⟩:=zin h1
 obtain⟨t,rfl,_⟩:=zin h2
 obtain⟨d,rfl,_⟩:=zin h3
 exact⟨f,t,d,rfl⟩
theorem ycj {k:Nat} {ds:List D} (h:fit Tryz.prog (k+3) 36 ds):∃q:Rqt,ds=q.cells:=by
 obtain⟨_,_,rfl,h1,_,_,rfl,h2,_,_,rfl,h3,_,_,rfl,h4,_,_,rfl,h5,_,_,rfl,h6,_,_,rfl,h7,_,_,rfl,h8,_,_,rfl,h9,_,_,rfl,h10,_,_,rfl,h11,rfl⟩:=z9t Tryz.underlying36 h
 obtain⟨s1,rfl⟩:=zyd h1
 obtain⟨s2,rfl⟩:=zyd h2
 obtain⟨s3,rfl⟩:=zyd h3
 obtain⟨s4,rfl⟩:=zyd h4
 obtain⟨s5,rfl⟩:=zyd h5
 obtain⟨s6,rfl⟩:=zyd h6
 obtain⟨f,t,d,rfl⟩:=yhf h7
 obtain⟨a,rfl,_⟩:=zin h8
 obtain⟨b,rfl,_⟩:=zin h9
 obtain⟨c,rfl,_⟩:=zin h10
 obtain⟨e,rfl,_⟩:=zin h11
 exact⟨⟨s1,s2,s3,s4,s5,s6,f,t,d,a,b,c,e⟩,rfl⟩
def zvl (q:Rqt):Bool:=decide (q.nm.length<=40/\q.ca.length<=40/\q.ki.length<=40/\q.te.length<=40/\q.pa.length<=40/\q.li.length<=40)
section
variable {E : Oracle} (g : Good E)
include g
theorem yr2 (q:Rqt):Fc E zqb [Rqv q] (B (zvl q)):=by
 refine g.fn rfl rfl ?_
 unfold zvl
 by_cases h1:q.nm.length<=40
 ·by_cases h2:q.ca.length<=40
  ·by_cases h3:q.ki.length<=40
   ·by_cases h4:q.te.length<=40
    ·by_cases h5:q.pa.length<=40
     ·by_cases h6:q.li.length<=40
      ·rw [decide_eq_true ⟨h1,h2,h3,h4,h5,h6⟩]
       repeat' ((conv=>whnf);first
       | refine Yz ?_
        | (refine Ret.mk rfl))
      ·rw [decide_eq_false (fun h=>h6 (by omega))]
       repeat' ((conv=>whnf);first
       | refine Yz ?_
        | (refine Ret.mk rfl))
     ·rw [decide_eq_false (fun h=>h5 (by omega))]
      repeat' ((conv=>whnf);first
      | refine Yz ?_
       | (refine Ret.mk rfl))
    ·rw [decide_eq_false (fun h=>h4 (by omega))]
     repeat' ((conv=>whnf);first
     | refine Yz ?_
      | (refine Ret.mk rfl))
   ·rw [decide_eq_false (fun h=>h3 (by omega))]
    repeat' ((conv=>whnf);first
    | refine Yz ?_
     | (refine Ret.mk rfl))
  ·rw [decide_eq_false (fun h=>h2 (by omega))]
   repeat' ((conv=>whnf);first
   | refine Yz ?_
    | (refine Ret.mk rfl))
 ·rw [decide_eq_false (fun h=>h1 (by omega))]
  repeat' ((conv=>whnf);first
  | refine Yz ?_
   | (refine Ret.mk rfl))
end
end Go.Proofs.YtkgcnknhkobmjaaGreatDoor.Co
namespace Go.Evl
open Go Go.Lib
end Go.Evl
namespace Go.Proofs.YtkgcnknhkobmjaaGreatDoor.Co
open Go Go.Evl
set_option maxHeartbeats 32000000
set_option maxRecDepth 100000
abbrev LQ (l:List Rqt):V:= .d (.list l.length (l.flatMap Rqt.cells))
def zmz (l:List Rqt):List (List UInt8):=l.map (·.nm)
theorem z2n {l:List Rqt} {k:Nat} (h:k<l.length):zmz (l.take (k+1))=zmz (l.take k)++[l[k].nm]:=by
 unfold zmz
 rw [List.take_add_one,List.getElem?_eq_getElem h,List.map_append]
 rfl
def znr (seen:List (List UInt8)):List Rqt->Int
 | []=>0
 | x::r=>if zap [zgr x,if x.nm∈seen then 9 else 0]=0 then znr (seen++[x.nm]) r else zap [zgr x,if x.nm∈seen then 9 else 0]
def zj8 (l:List Rqt):Int:=if 64<l.length then 5 else znr [] l
theorem z1u:∀(l:List Rqt) (seen:List (List UInt8)),znr seen l=0->(zmz l).Nodup/\(∀s∈zmz l,s∉seen)/\∀x∈l,zgr x=0
 | [],_,_=>by simp [zmz]
 | x::r,seen,h=>by
  rw [znr] at h
  by_cases hz:zap [zgr x,if x.nm∈seen then 9 else 0]=0
  ·rw [if_pos hz] at h
   rw [za5] at hz
   have h1:=hz _ (List.mem_cons_self ..)
   have h2:=hz (if x.nm∈seen then 9 else 0) (by simp)
   have h2:x.nm∉seen:=fun hm=>by rw [if_pos hm] at h2;cases h2
   obtain⟨a,b,c⟩:=z1u r _ h
   refine⟨?_,?_,?_⟩
   ·show (x.nm::zmz r).Nodup
    refine List.nodup_cons.2 ⟨fun hm=> ?_,a⟩
    exact b _ hm (by simp)
   ·intro s hs
    rcases List.mem_cons.1 hs with rfl|hs
    ·exact h2
    ·exact fun hm=>b s hs (by simp [hm])
   ·intro y hy
    rcases List.mem_cons.1 hy with rfl|hy
    ·exact h1
    ·exact c y hy
  ·rw [if_neg hz] at h
   exact absurd h hz
theorem zuq {l:List Rqt} (h:zj8 l=0):l.length<=64/\(zmz l).Nodup/\∀x∈l,zgr x=0:=by
 unfold zj8 at h
 split at h
 ·cases h
 ·obtain⟨a,_,c⟩:=z1u _ _ h
  exact⟨by omega,a,c⟩
def atG (s:List UInt8):Nat->List Rqt->Int
 | _,[]=> -1
 | i,x::r=>if x.nm=s then(i:Int) else atG s (i+1) r
theorem yep (s:List UInt8):∀(l:List Rqt) (i:Nat),(atG s i l= -1/\s∉zmz l)\/∃(k:Nat) (h:k<l.length),atG s i l=((i+k:Nat):Int)/\l[k].nm=s/\∀(j:Nat) (hj:j<k),¬(l[j]'(Nat.lt_trans hj h)).nm=s
 | [],i=> .inl ⟨rfl,by simp [zmz]⟩
 | x::r,i=>by
  rw [atG]
  by_cases hx:x.nm=s
  ·rw [if_pos hx]
   exact .inr ⟨0,by simp,rfl,hx,fun j hj=>absurd hj (Nat.not_lt_zero _)⟩
  ·rw [if_neg hx]
   rcases yep s r (i+1) with⟨h1,h2⟩|⟨k,h,h1,h2,h3⟩
   ·exact .inl ⟨h1,fun hm=>(List.mem_cons.1 hm).elim (fun e=>hx e.symm) h2⟩
   ·refine .inr ⟨k+1,by simpa using h,by rw [h1];congr 1;omega,by simpa using h2,fun j hj=> ?_⟩
    cases j with
    | zero=>simpa using hx
    | succ j=>simpa using h3 j (by omega)
section
variable {E : Oracle} (g : Good E)
include g
theorem zm3 (l:List Rqt) (hl:l.length<=1000000):Fc E zc0 [LQ l] (I (zj8 l)):=by
 refine g.fn rfl rfl ?_
 unfold zj8
 by_cases hn:64<l.length
 ·rw [if_pos hn]
  repeat' ((conv=>whnf);first
  | refine Yz ?_
   | (refine Ret.mk rfl))
 ·rw [if_neg hn]
  generalize hR:znr [] l=R
  repeat' ((conv=>whnf);first
  | refine Yz ?_)
  refine zaf.to (zaf.upP g (fun k=>[(3,.mp ⟨0,10,0⟩),(11,LQ l),(12,I l.length),(13,I k)]) (fun k=>[(⟨0,10,0⟩,.map (z7j (zmz (l.take k))))]) (fun k=>znr (zmz (l.take k)) (l.drop k)=R) l.length (fun k hk h0 ih=> ?_) 0 (Nat.zero_le _) hR) rfl rfl
  by_cases hlt:k<l.length
  ·rw [List.drop_eq_getElem_cons hlt,znr,<-z2n hlt] at h0
   have ih:=ih hlt
   have hf:=z14 l[k].nm (zmz (l.take k))
   have hc:=zts g l[k]
   by_cases hd:l[k].nm∈zmz (l.take k)
   ·rw [if_pos hd] at hf h0
    have hz:¬zap [zgr l[k],9]=0:=fun h=>by
     have:=(za5 _).1 h 9 (by simp)
     cases this
    rw [if_neg hz] at h0
    rw [<-h0]
    repeat' ((conv=>whnf);first
    | refine Yz ?_
     | (refine zal.rec Rqt.cells_length k rfl hlt ?_)
     | (refine zpq.mk ⟨_,hf,?_⟩)
     | (refine zae.of hc ?_)
     | (refine zae.of (za7 g _ _) ?_)
     | (refine zae.of (zcs g _ _) ?_)
     | (refine Cmp.ff hz ?_)
     | (refine Ret.mk rfl))
   ·rw [if_neg hd] at hf h0
    by_cases hz:zap [zgr l[k],0]=0
    ·rw [if_pos hz] at h0
     have ih:=ih h0
     have hs:=z8f l[k].nm (zmz (l.take k)) hd
     rw [<-z2n hlt] at hs
     repeat' ((conv=>whnf);first
     | refine Yz ?_
      | (refine zal.rec Rqt.cells_length k rfl hlt ?_)
      | (refine zpq.mk ⟨_,hf,?_⟩)
      | (refine yi1.mk ⟨_,hs,?_⟩)
      | (refine zae.of hc ?_)
      | (refine zae.of (za7 g _ _) ?_)
      | (refine zae.of (zcs g _ _) ?_)
      | (refine Cmp.tt hz ?_)
      | (simp only [Evl.idsAll,Evl.idsO,z7c,List.nil_append])
      | (refine zaf.to ih rfl rfl))
    ·rw [if_neg hz] at h0
     rw [<-h0]
     repeat' ((conv=>whnf);first
     | refine Yz ?_
      | (refine zal.rec Rqt.cells_length k rfl hlt ?_)
      | (refine zpq.mk ⟨_,hf,?_⟩)
      | (refine zae.of hc ?_)
      | (refine zae.of (za7 g _ _) ?_)
      | (refine zae.of (zcs g _ _) ?_)
      | (refine Cmp.ff hz ?_)
      | (refine Ret.mk rfl))
  ·rw [List.drop_eq_nil_of_le (by omega),znr] at h0
   rw [<-h0]
   repeat' ((conv=>whnf);first
   | refine Yz ?_
    | (refine Ret.mk rfl))
theorem yvv (l:List Rqt) (s:List UInt8) (hl:l.length<=1000000):Fc E zyh [LQ l,S s] (I (atG s 0 l)):=by
 refine g.fn rfl rfl ?_
 generalize hR:atG s 0 l=R
 repeat' ((conv=>whnf);first
 | refine Yz ?_)
 refine zaf.to (zaf.upP g (fun k=>[(0,LQ l),(1,S s),(5,I k)]) (fun _=>[]) (fun k=>atG s k (l.drop k)=R) l.length (fun k hk h0 ih=> ?_) 0 (Nat.zero_le _) hR) rfl rfl
 by_cases hlt:k<l.length
 ·rw [List.drop_eq_getElem_cons hlt,atG] at h0
  have ih:=ih hlt
  by_cases hd:l[k].nm=s
  ·rw [if_pos hd] at h0
   rw [<-h0]
   repeat' ((conv=>whnf);first
   | refine Yz ?_
    | (refine zg4.rec Rqt.cells_length k rfl hlt rfl ?_)
    | (refine Cmp.tt hd ?_)
    | (refine Ret.mk rfl))
  ·rw [if_neg hd] at h0
   have ih:=ih h0
   repeat' ((conv=>whnf);first
   | refine Yz ?_
    | (refine zg4.rec Rqt.cells_length k rfl hlt rfl ?_)
    | (refine Cmp.ff hd ?_)
    | (refine zaf.to ih rfl rfl))
 ·rw [List.drop_eq_nil_of_le (by omega),atG] at h0
  rw [<-h0]
  repeat' ((conv=>whnf);first
  | refine Yz ?_
   | (refine Ret.mk rfl))
omit g in
theorem ypv (l:List Rqt) (k:Nat) (h:k<=l.length):win (l.flatMap Rqt.cells) 0 (k*13)=(l.take k).flatMap Rqt.cells:=by
 unfold win
 rw [List.drop_zero]
 have e:l.flatMap Rqt.cells=(l.take k).flatMap Rqt.cells++(l.drop k).flatMap Rqt.cells:=by rw [<-List.flatMap_append,List.take_append_drop]
 have hn:=zah Rqt.cells 13 Rqt.cells_length (l.take k)
 rw [List.length_take,Nat.min_eq_left h] at hn
 rw [e,List.take_append_of_le_length (by omega),List.take_of_length_le (by omega)]
theorem z2z (l:List Rqt) (hl:l.length<=1000000):Fc E zhh [LQ l] (I (zj8 l)):=by
 refine g.fn rfl rfl ?_
 unfold zj8
 by_cases hn:64<l.length
 ·rw [if_pos hn]
  repeat' ((conv=>whnf);first
  | refine Yz ?_
   | (refine Ret.mk rfl))
 ·rw [if_neg hn]
  generalize hR:znr [] l=R
  repeat' ((conv=>whnf);first
  | refine Yz ?_)
  refine zaf.to (zaf.upP g (fun k=>[(0,LQ l),(3,I k)]) (fun _=>[]) (fun k=>znr (zmz (l.take k)) (l.drop k)=R) l.length (fun k hk h0 ih=> ?_) 0 (Nat.zero_le _) hR) rfl rfl
  by_cases hlt:k<l.length
  ·rw [List.drop_eq_getElem_cons hlt,znr,<-z2n hlt] at h0
   have ih:=ih hlt
   have hc:=z4m g l[k]
   by_cases hz:zgr l[k]=0
   ·rw [hz] at hc h0
    have ha:=yvv g (l.take k) l[k].nm (by simp;omega)
    have ht:V.d (.list (k-0) (win (l.flatMap Rqt.cells) (0*13) ((k-0)*13)))=LQ (l.take k):=by
     rw [Nat.zero_mul,Nat.sub_zero,ypv l k (by omega),LQ,List.length_take,Nat.min_eq_left (by omega)]
    rcases yep l[k].nm (l.take k) 0 with⟨h1,h2⟩|⟨j,hj,h1,h2,_⟩
    ·rw [if_neg h2,if_pos (by decide)] at h0
     have ih:=ih h0
     rw [h1] at ha
     repeat' ((conv=>whnf);first
     | refine Yz ?_
      | (refine zal.rec Rqt.cells_length k rfl hlt ?_)
      | (refine zg4.rec Rqt.cells_length k rfl hlt rfl ?_)
      | (refine zae.of hc ?_)
      | (refine zae.of ha ?_)
      | (refine zff.at 0 k rfl rfl (by omega) ?_<;>(try rw [ht]))
      | (refine zaf.to ih rfl rfl))
    ·have hm:l[k].nm∈zmz (l.take k):=by
      unfold zmz
      rw [List.mem_map]
      exact⟨_,List.getElem_mem hj,h2⟩
     rw [if_pos hm,if_neg (by decide)] at h0
     rw [<-h0]
     rw [h1] at ha
     repeat' ((conv=>whnf);first
     | refine Yz ?_
      | (refine zal.rec Rqt.cells_length k rfl hlt ?_)
      | (refine zg4.rec Rqt.cells_length k rfl hlt rfl ?_)
      | (refine zae.of hc ?_)
      | (refine zae.of ha ?_)
      | (refine zff.at 0 k rfl rfl (by omega) ?_<;>(try rw [ht]))
      | (refine Ret.mk rfl))
   ·have e:∀x,zap [zgr l[k],x]=zgr l[k]:=fun x=>by simp [zap,hz]
    rw [e,if_neg hz] at h0
    rw [<-h0]
    repeat' ((conv=>whnf);first
    | refine Yz ?_
     | (refine zal.rec Rqt.cells_length k rfl hlt ?_)
     | (refine zae.of hc ?_)
     | (refine Cmp.ff hz ?_)
     | (refine Ret.mk rfl))
  ·rw [List.drop_eq_nil_of_le (by omega),znr] at h0
   rw [<-h0]
   repeat' ((conv=>whnf);first
   | refine Yz ?_
    | (refine Ret.mk rfl))
theorem yr4 (l:List Rqt) (n:Nat) (hn:n<=64):Fc E zqc [LQ l,I n] (B (decide (l.length<=n\/l.length=65)&&l.all zvl)):=by
 refine g.fn rfl rfl ?_
 by_cases hl:l.length<=n\/l.length=65
 ·rw [decide_eq_true hl,Bool.true_and]
  repeat' ((conv=>whnf);first
  | refine Yz ?_
   | (refine Cmp.mk (fun h=> ?_) (fun h=> ?_))|(refine Rem.any (by omega) (fun r hr he=> ?_))|(refine Br.mk (fun h=> ?_) (fun h=> ?_))
   | (exfalso;omega))
  all_goals
   refine zaf.to (zaf.upP g (fun k=>[(0,LQ l),(5,I k)]) (fun _=>[]) (fun k=>∀i (h:i<l.length),i<k->zvl l[i]=true) l.length (fun k hk hp ih=> ?_) 0 (Nat.zero_le _) (fun i _ hi=>absurd hi (Nat.not_lt_zero _))) rfl rfl
   by_cases hlt:k<l.length
   ·have hb:=yr2 g l[k]
    cases hq:zvl l[k]
    ·have hno:l.all zvl=false:=by
      rw [List.all_eq_false]
      exact⟨_,List.getElem_mem hlt,by rw [hq];decide⟩
     rw [hno]
     rw [hq] at hb
     repeat' ((conv=>whnf);first
     | refine Yz ?_
      | (refine zal.rec Rqt.cells_length k rfl hlt ?_)
      | (refine zae.of hb ?_)
      | (refine Ret.mk rfl))
    ·rw [hq] at hb
     have ih:=ih hlt fun i h hi=>by
      by_cases e:i=k
      ·subst e;exact hq
      ·exact hp i h (by omega)
     repeat' ((conv=>whnf);first
     | refine Yz ?_
      | (refine zal.rec Rqt.cells_length k rfl hlt ?_)
      | (refine zae.of hb ?_)
      | (refine zaf.to ih rfl rfl))
   ·have hall:l.all zvl=true:=List.all_eq_true.2 fun x hx=>by
     obtain⟨i,hi,rfl⟩:=List.getElem_of_mem hx
     exact hp i hi (by omega)
    rw [hall]
    repeat' ((conv=>whnf);first
    | refine Yz ?_
     | (refine Ret.mk rfl))
 ·rw [decide_eq_false hl,Bool.false_and]
  repeat' ((conv=>whnf);first
  | refine Yz ?_
   | (refine Cmp.mk (fun h=> ?_) (fun h=> ?_))|(refine Rem.any (by omega) (fun r hr he=> ?_))|(refine Br.mk (fun h=> ?_) (fun h=> ?_))
   | (refine Ret.mk rfl)
   | (exfalso;omega))
end
def zuy (q:Rqt):Wsh:=⟨q,max 0 (q.mi-20),min 1439 (q.mi+20)⟩
structure zy8 (l:List Rqt):Prop where
 len:l.length<=4
 chk:zj8 l=0
 li:∀q∈l,q.li=[]
 few:∀q∈l,q.to-q.fr<8
theorem zy8.nd {l:List Rqt} (h:zy8 l):(zmz l).Nodup:=(zuq h.chk).2.1
theorem zy8.ok {l:List Rqt} (h:zy8 l):∀q∈l,zgr q=0:=(zuq h.chk).2.2
theorem zjd {q:Rqt} (h:zgr q=0):zfl q.ca=true/\zfl q.pa=true/\zht q.fr q.to q.da=0/\(0<=q.mi/\q.mi<=1439)/\zwk q=0:=by
 unfold zgr at h
 rw [za5] at h
 simp only [List.mem_cons,List.not_mem_nil,or_false,forall_eq_or_imp,forall_eq] at h
 obtain⟨h1,h2,h3,h4,h5,h6,h7,h8,h9,h10,h11,h12⟩:=h
 have nm:∀s,nmE s=0->zfl s=true:=fun s h=>by
  unfold nmE at h
  cases hb:zfl s with
  | true=>rfl
  | false=>rw [hb] at h;simp at h
 refine⟨nm _ h2,nm _ h3,h8,zfe.1 h9,?_⟩
 unfold zwk
 rw [za5]
 simp only [List.mem_cons,List.not_mem_nil,or_false,forall_eq_or_imp,forall_eq]
 refine⟨h1,h6,h4,h8,h9,?_⟩
 unfold ldE
 rw [za5]
 simp only [List.mem_cons,List.not_mem_nil,or_false,forall_eq_or_imp,forall_eq]
 rw [zfe] at h10 h11 h12
 exact⟨zfe.2 h10,zfe.2 (by omega),zfe.2 h12⟩
theorem yev {q:Rqt} (h:zgr q=0) {m:Int} (hm:0<=m/\m<=1439):zgr {q with mi:=m}=0:=by
 unfold zgr at h ⊢
 rw [za5] at h ⊢
 simp only [List.mem_cons,List.not_mem_nil,or_false,forall_eq_or_imp,forall_eq] at h ⊢
 obtain⟨h1,h2,h3,h4,h5,h6,h7,h8,h9,h10⟩:=h
 exact⟨h1,h2,h3,h4,h5,h6,h7,h8,zfe.2 hm,h10⟩
theorem yqd {q:Rqt} {ea la:Int} (h:zgr q=0) (hl:q.li=[]) (he:0<=ea/\ea<=q.mi) (hb:q.mi<=la/\la<=1439) (hf:la-ea<=40):OkW ⟨q,ea,la⟩:=
 ⟨(zjd h).2.2.2.2,(zjd h).1,.inr (zjd h).2.1,hl,he,hb,by show (q.mi-ea)/20+(la-q.mi)/20<=2;omega⟩
theorem ytp {q:Rqt} (h:zgr q=0) (hf:q.to-q.fr<8) (m:Int) (h0:0<=m) (h1:m<=1439):(ycx {q with mi:=m}).length<=8/\∀x∈ycx {q with mi:=m},0<=x.mo/\x.mo<=143999999:=by
 have hp:=zf0.1 (zjd h).2.2.1
 have hl:=zhc q.fr q.da (q.to-q.fr+1).toNat
 constructor
 ·unfold ycx z6x
  rw [List.length_map]
  show (zku q.fr q.da (q.to-q.fr+1).toNat).length<=8
  omega
 ·intro x hx
  unfold ycx z6x at hx
  obtain⟨d,hd,rfl⟩:=List.mem_map.1 hx
  have hd:=(z2k _).1 hd
  show 0<=1440*d+m/\1440*d+m<=143999999
  dsimp only at hd
  omega
theorem ymc {W:List Wsh} (ok:∀w∈W,OkW w) (nd:(yfy W).Nodup) (len:W.length<=64) (hc:∀w∈W,zgr w.r=0/\w.r.to-w.r.fr<8):ym0 W:=
 ⟨⟨ok,nd,len⟩,fun w hw m h0 h1=>ytp (hc w hw).1 (hc w hw).2 m h0 h1⟩
theorem yor (l:List Rqt):yfy (l.map zuy)=zmz l:=by
 unfold yfy zmz
 rw [List.map_map]
 rfl
theorem z2s {l:List Rqt} (h:zy8 l) {q:Rqt} (hq:q∈l):OkW (zuy q):=by
 have hm:=(zjd (h.ok q hq)).2.2.2.1
 exact yqd (h.ok q hq) (h.li q hq) (by omega) (by omega) (by omega)
theorem ypr {l:List Rqt} (h:zy8 l):ym0 (l.map zuy):=by
 refine ymc (fun w hw=> ?_) (by rw [yor];exact h.nd) (by rw [List.length_map];have:=h.len;omega) fun w hw=> ?_
 ·obtain⟨q,hq,rfl⟩:=List.mem_map.1 hw
  exact z2s h hq
 ·obtain⟨q,hq,rfl⟩:=List.mem_map.1 hw
  exact⟨h.ok q hq,h.few q hq⟩
theorem ym0.take {l:List Wsh} (h:ym0 l) (k:Nat):ym0 (l.take k):=⟨h.ok.take k,fun w hw=>h.mv w (List.mem_of_mem_take hw)⟩
theorem yrb {w:Wsh} (h:OkW w) {m:Int} (hm:m∈z6w w):w.ea<=m/\m<=w.la:=by
 have h1:=h.ea
 have h2:=h.la
 have h3:=h.few
 unfold z6w at hm
 have a1:0<=(w.r.mi-w.ea)/20:=Int.ediv_nonneg (by omega) (by omega)
 have a2:0<=(w.la-w.r.mi)/20:=Int.ediv_nonneg (by omega) (by omega)
 generalize hp:((w.r.mi-w.ea)/20).toNat=p at hm
 generalize hq:((w.la-w.r.mi)/20).toNat=q at hm
 have hc:(p=0/\q=0)\/(p=0/\q=1)\/(p=0/\q=2)\/(p=1/\q=0)\/(p=1/\q=1)\/(p=2/\q=0):=by omega
 rcases hc with⟨rfl,rfl⟩|⟨rfl,rfl⟩|⟨rfl,rfl⟩|⟨rfl,rfl⟩|⟨rfl,rfl⟩|⟨rfl,rfl⟩
 all_goals
  simp only [yra,List.mem_cons,List.not_mem_nil,or_false] at hm
  omega
theorem yeb (ls:List Lmt):∀(P:List Mvt) (l:List Wsh) (i:Nat) (h:i<l.length) (h2:i<(zk0 ls P l).length),(zk0 ls P l)[i].nm=l[i].r.nm/\((zk0 ls P l)[i].gr=true->(zk0 ls P l)[i].mi∈z6w l[i])
 | _,[],i,h,_=>absurd h (Nat.not_lt_zero i)
 | P,w::r,0,_,_=>by
  simp only [zk0,List.getElem_cons_zero]
  cases h:yew ls P w with
  | none=>exact⟨rfl,fun hg=>by cases hg⟩
  | some m=>exact⟨rfl,fun _=>List.mem_of_find?_eq_some h⟩
 | P,w::r,i+1,h,h2=>by
  simp only [zk0,List.getElem_cons_succ] at h2 ⊢
  exact yeb ls _ r i (by simpa using h) _
def twL (l:List Lmt):Bool:=decide (l.length<=3)&&((l.all zlo&&decide (zj2 l<=400))&&decide (zqm l=0))
theorem yit {l:List Lmt} {k:Nat} (h:k<l.length):(l.take (k+1)).flatMap Lmt.cells=(l.take k).flatMap Lmt.cells++l[k].cells:=by
 rw [List.take_add_one,List.getElem?_eq_getElem h,List.flatMap_append]
 simp
section
variable {E : Oracle} (g : Good E)
include g
theorem z8b (l:List Lmt) (hl:l.length<=1048576):In E 0 zfp [LLm l] [] fun v m'=>v= .tup [.ref ⟨0,4,0⟩ 0 l.length l.length,B (twL l)]/\Evl.look m' ⟨0,4,0⟩=some (.row false zaj 11 l.length (l.flatMap Lmt.cells)):=by
 refine In.enter (f:=zfp) g.lim rfl rfl ?_
 repeat' ((conv=>whnf);first
 | refine Yz ?_)
 refine zaf.to (zaf.up g (fun k=>[(0,LLm l),(4,.ref ⟨0,4,0⟩ 0 k k),(7,LLm l),(8,I l.length),(9,I k)])
  (fun k=>[(⟨0,2,0⟩,.row false zaj 11 0 []),(⟨0,4,0⟩,.row false zaj 11 k ((l.take k).flatMap Lmt.cells))]) l.length (fun k hk ih=> ?_) 0 (Nat.zero_le _)) rfl rfl
 by_cases hlt:k<l.length
 ·have ih:=ih hlt
  rw [yit hlt] at ih
  repeat' ((conv=>whnf);first
  | refine Yz ?_
   | (refine zal.rec Lmt.cells_length k rfl hlt ?_)
   | (refine zaf.to ih rfl rfl))
 ·obtain rfl:k=l.length:=by omega
  clear ih
  rw [List.take_length]
  unfold twL
  by_cases h:l.length<=3
  ·have h1:=z71 g l h
   have h2:=z7z g l (by omega)
   rw [decide_eq_true h,Bool.true_and]
   cases hs:(l.all zlo&&decide (zj2 l<=400))
   all_goals
    rw [hs] at h1
    by_cases hc:zqm l=0
   all_goals
    first |rw [decide_eq_true hc]|rw [decide_eq_false hc]
    repeat' ((conv=>whnf);first
    | refine Yz ?_
     | (apply zae.of;assumption)
     | (refine Cmp.ff hc ?_)
     | (refine Cmp.tt hc ?_)
     | exact⟨rfl,rfl⟩)
  ·rw [decide_eq_false h]
   repeat' ((conv=>whnf);first
   | refine Yz ?_
    | (refine Cmp.mk (fun h=> ?_) (fun h=> ?_))|(refine Rem.any (by omega) (fun r hr he=> ?_))|(refine Br.mk (fun h=> ?_) (fun h=> ?_))
    | exact⟨rfl,rfl⟩)
end
def ytc (l:List Rqt):Bool:=decide (l.length<=4)&&(l.all zvl&&(decide (zj8 l=0)&&l.all fun q=>decide (q.li=[])&&decide (q.to-q.fr<8)))
theorem yq0 {l:List Rqt} (h:ytc l=true):zy8 l:=by
 unfold ytc at h
 simp only [Bool.and_eq_true,decide_eq_true_eq,List.all_eq_true] at h
 exact⟨h.1,h.2.2.1,fun q hq=>(h.2.2.2 q hq).1,fun q hq=>(h.2.2.2 q hq).2⟩
section
variable {E : Oracle} (g : Good E)
include g
theorem ydr (q:Rqt) (hm:0<=q.mi/\q.mi<=1439):Fc E zeh [Rqv q] (Wsv (zuy q)):=by
 refine g.fn rfl rfl ?_
 repeat' ((conv=>whnf);first
 | refine Yz ?_
  | (refine Ret.mk ?_)
  | fail)
 have e1:(if q.mi-20>0 then q.mi-20 else 0)=max 0 (q.mi-20):=by split<;>omega
 have e2:(if q.mi+20<1439 then q.mi+20 else 1439)=min 1439 (q.mi+20):=by split<;>omega
 rw [e1,e2]
 rfl
theorem yar (l:List Rqt):Fc E zlh [LQ l] (B (ytc l)):=by
 refine g.fn rfl rfl ?_
 unfold ytc
 by_cases h4:l.length<=4
 ·rw [decide_eq_true h4,Bool.true_and]
  have h1:=yr4 g l 4 (by omega)
  rw [decide_eq_true (.inl h4),Bool.true_and] at h1
  have h2:=z2z g l (by omega)
  cases hb:l.all zvl with
  | false=>
   rw [hb] at h1
   repeat' ((conv=>whnf);first
   | refine Yz ?_
    | (apply zae.of;assumption)
    | (refine zae.of h1 ?_)
    | (refine Ret.mk rfl)
    | fail)
  | true=>
   rw [hb] at h1
   rw [Bool.true_and]
   by_cases hz:zj8 l=0
   ·rw [decide_eq_true hz,Bool.true_and]
    rw [hz] at h2
    have hok:=(zuq hz).2.2
    repeat' ((conv=>whnf);first
    | refine Yz ?_
     | (apply zae.of;assumption)
     | (refine zae.of h1 ?_)
     | fail)
    refine zaf.to (zaf.upP g (fun k=>[(18,LQ l),(19,I l.length),(20,I k)]) (fun _=>[]) (fun k=>∀i (h:i<l.length),i<k->(decide (l[i].li=[])&&decide (l[i].to-l[i].fr<8))=true) l.length (fun k hk hp ih=> ?_) 0 (Nat.zero_le _) (fun i _ hi=>absurd hi (Nat.not_lt_zero _))) rfl rfl
    by_cases hlt:k<l.length
    ·have hpz:=zf0.1 (zjd (hok _ (List.getElem_mem hlt))).2.2.1
     by_cases e1:l[k].li=[]
     ·by_cases e2:l[k].to-l[k].fr<8
      ·have ih:=ih hlt fun i h hi=>by
        by_cases e:i=k
        ·subst e;rw [decide_eq_true e1,decide_eq_true e2];rfl
        ·exact hp i h (by omega)
       repeat' ((conv=>whnf);first
       | refine Yz ?_
        | (refine zal.rec Rqt.cells_length k rfl hlt ?_)
        | (refine Cmp.ff (fun h=>h e1) ?_)
        | (refine zaf.to ih rfl rfl)
        | fail)
      ·have hno:(l.all fun q=>decide (q.li=[])&&decide (q.to-q.fr<8))=false:=by
        rw [List.all_eq_false]
        exact⟨_,List.getElem_mem hlt,by rw [decide_eq_false e2,Bool.and_false];decide⟩
       rw [hno]
       repeat' ((conv=>whnf);first
       | refine Yz ?_
        | (refine zal.rec Rqt.cells_length k rfl hlt ?_)
        | (refine Cmp.ff (fun h=>h e1) ?_)
        | (refine Ret.mk rfl)
        | fail)
     ·have hno:(l.all fun q=>decide (q.li=[])&&decide (q.to-q.fr<8))=false:=by
       rw [List.all_eq_false]
       exact⟨_,List.getElem_mem hlt,by rw [decide_eq_false e1,Bool.false_and];decide⟩
      rw [hno]
      repeat' ((conv=>whnf);first
      | refine Yz ?_
       | (refine zal.rec Rqt.cells_length k rfl hlt ?_)
       | (refine Cmp.tt e1 ?_)
       | (refine Ret.mk rfl)
       | fail)
    ·obtain rfl:k=l.length:=by omega
     have hyes:(l.all fun q=>decide (q.li=[])&&decide (q.to-q.fr<8))=true:=by
      rw [List.all_eq_true]
      intro q hq
      obtain⟨i,hi,rfl⟩:=List.getElem_of_mem hq
      exact hp i hi hi
     rw [hyes]
     repeat' ((conv=>whnf);first
     | refine Yz ?_
      | (refine Ret.mk rfl)
      | fail)
   ·rw [decide_eq_false hz,Bool.false_and]
    repeat' ((conv=>whnf);first
    | refine Yz ?_
     | (apply zae.of;assumption)
     | (refine zae.of h1 ?_)
     | (refine Cmp.tt hz ?_)
     | (refine Ret.mk rfl)
     | fail)
 ·rw [decide_eq_false h4,Bool.false_and]
  repeat' ((conv=>whnf);first
  | refine Yz ?_
   | (refine Ret.mk rfl)
   | fail)
omit g in
theorem yqf:∀(rs:List Alr),(rs.flatMap Alr.cells).all z2x=true
 | []=>rfl
 | r::q=>by
  rw [List.flatMap_cons,List.all_append,yqf q]
  rfl
theorem z3t.serve (ls:List Lmt) (hls:ls.length<=3) (hc:zqm ls=0) (l:List Wsh) (h:ym0 l) {K:V->Prop} (hk:K (.tup [LRs (zk0 ls [] l),I 0])):z3t E zbu [LLm ls,LWi l] K:=by
 obtain⟨v,m',h1,rs,rfl,rfl,h3,h4⟩:=(yn3 g ls hls hc l h).got
 refine⟨⟨_,m',_,h1,?_,?_,hk⟩⟩
 ·simp only [z9x,List.all_cons,List.all_nil,z19,h4,yqf,z2x,Bool.and_true]
 ·simp [thaw,Go.Evl.freezeL,Go.Evl.freeze,h4,asV,h3]
theorem z4r (l:List Lmt) (hl:l.length<=1048576):Fc E zfp [LLm l] (.tup [LLm l,B (twL l)]):=by
 obtain⟨v,m',h1,rfl,h2⟩:=(z8b g l hl).got
 exact⟨_,m',h1,by simp [thaw,Go.Evl.freezeL,Go.Evl.freeze,h2,asV]⟩
end
def ysh (s:List UInt8):Bool:=decide (s.length=5/\((s.getD 0 0).toNat=83\/(s.getD 0 0).toNat=87))&&yvb (win s 1 (s.length-1)) 4
def zz1 (ai se:List UInt8) (da:Int):Int:=zap [nmE ai,if(!ysh se)=true then 1 else 0,rng da 0 99999]
def ykr (s:List UInt8):Bool:=decide (s=REQ)||decide (s=ANS)
section
variable {E : Oracle} (g : Good E)
include g
theorem yh9 (s:List UInt8):Fc E zjo [S s] (B (ysh s)):=by
 refine g.fn rfl rfl ?_
 unfold ysh
 by_cases h0:s.length=5/\((s.getD 0 0).toNat=83\/(s.getD 0 0).toNat=87)
 ·rw [decide_eq_true h0,Bool.true_and]
  obtain⟨hl,hc⟩:=h0
  have hb:=ygw (s.getD 0 0)
  have hwl:(win s 1 (s.length-1)).length=4:=by simp [win,hl]
  repeat' ((conv=>whnf);first
  | refine Yz ?_
   | (refine ybm.at 0 (by decide) (by omega) ?_)
   | (refine zff.mk (by omega) ?_)
   | (refine Cmp.mk (fun h=> ?_) (fun h=> ?_))|(refine Rem.any (by omega) (fun r hr he=> ?_))|(refine Br.mk (fun h=> ?_) (fun h=> ?_))
   | (exfalso;omega))
  all_goals
   change zaf E _ _ _ _ [(20,.it ⟨0,20,0⟩)] [(⟨0,20,0⟩,.iter (win s 1 (s.length-1)) 0)] _
   generalize win s 1 (s.length-1)=t at *
   refine zaf.to (zaf.upP g (fun _=>[(20,.it ⟨0,20,0⟩)]) (fun k=>[(⟨0,20,0⟩,.iter t k)]) (fun k=>∀i,i<k->dg (t.getD i 0)) t.length (fun k hk hp ih=> ?_) 0 (Nat.zero_le _) (fun i hi=>by omega)) rfl rfl
   by_cases hlt:k<t.length
   ·by_cases ha:(t.getD k 0).toNat<128
    ·by_cases hok:dg (t.getD k 0)
     ·have ih:=ih hlt fun i hi=>by
       by_cases e:i=k
       ·subst e;exact hok
       ·exact hp i (by omega)
      unfold dg at hok
      repeat' ((conv=>whnf);first
      | refine Yz ?_
       | (refine ztw.asc hlt ha ?_)
       | (refine Cmp.mk (fun h=> ?_) (fun h=> ?_))|(refine Rem.any (by omega) (fun r hr he=> ?_))|(refine Br.mk (fun h=> ?_) (fun h=> ?_))
       | (refine zaf.to ih rfl rfl)
       | (exfalso;omega))
     ·rw [yf0 (w:=4) hlt hok]
      unfold dg at hok
      repeat' ((conv=>whnf);first
      | refine Yz ?_
       | (refine ztw.asc hlt ha ?_)
       | (refine Cmp.mk (fun h=> ?_) (fun h=> ?_))|(refine Rem.any (by omega) (fun r hr he=> ?_))|(refine Br.mk (fun h=> ?_) (fun h=> ?_))
       | (refine Ret.mk rfl)
       | (exfalso;omega))
    ·rw [yf0 (w:=4) hlt (by unfold dg;omega)]
     repeat' ((conv=>whnf);first
     | refine Yz ?_
      | (refine ztw.high hlt (by omega) (fun c w hc hw=> ?_))
      | (refine Cmp.mk (fun h=> ?_) (fun h=> ?_))|(refine Rem.any (by omega) (fun r hr he=> ?_))|(refine Br.mk (fun h=> ?_) (fun h=> ?_))
      | (refine Ret.mk rfl)
      | (exfalso;omega))
   ·have hk':k=t.length:=by omega
    subst hk'
    rw [yos hwl hp]
    repeat' ((conv=>whnf);first
    | refine Yz ?_
     | (refine ztw.end' (Nat.le_refl _) ?_)
     | (refine Ret.mk rfl))
 ·rw [decide_eq_false h0,Bool.false_and]
  by_cases hl:s.length=5
  ·have hb:=ygw (s.getD 0 0)
   have hc:(s.getD 0 0).toNat≠83/\(s.getD 0 0).toNat≠87:=by omega
   clear h0
   repeat' ((conv=>whnf);first
   | refine Yz ?_
    | (refine ybm.at 0 (by decide) (by omega) ?_)
    | (refine Ret.mk rfl))
  ·clear h0
   repeat' ((conv=>whnf);first
   | refine Yz ?_
    | (refine Ret.mk rfl))
theorem z3f (ai se:List UInt8) (da:Int):Fc E zf9 [S ai,S se,I da] (I (zz1 ai se da)):=by
 refine g.fn rfl rfl ?_
 have h1:=ydq g ai
 have h2:=yh9 g se
 have h3:=z3h g da 0 99999
 repeat' ((conv=>whnf);first
 | refine Yz ?_
  | (apply zae.of;assumption)
  | (refine zae.of (za7 g _ _) ?_)
  | (refine zae.of (zbx g _ _ _) ?_)
  | (refine Ret.mk rfl))
theorem ydn (s:List UInt8):Fc E zit [S s] (B (ykr s)):=by
 refine g.fn rfl rfl ?_
 unfold ykr
 by_cases he:s=REQ
 ·subst he
  repeat' ((conv=>whnf);first
  | refine Yz ?_
   | (refine Ret.mk rfl))
 ·rw [decide_eq_false he]
  by_cases hd:s=ANS
  ·subst hd
   repeat' ((conv=>whnf);first
   | refine Yz ?_
    | (refine Ret.mk rfl))
  ·rw [decide_eq_false hd]
   repeat' ((conv=>whnf);first
   | refine Yz ?_
    | (refine Cmp.ff he ?_)
    | (refine Cmp.ff hd ?_)
    | (refine Ret.mk rfl))
end
abbrev LL (ls:List Lnt):V:= .d (.list ls.length (ls.flatMap Lnt.cells))
def zsf (a b:Rqt):Bool:=decide (a.ca=b.ca)&&decide (a.nm=b.nm)
def zj7:Option Lnt->Bool
 | some y=>decide (y.ac=[67])
 | none=>false
def zqj (x:Lnt):Option Lnt->Bool
 | some y=>zsf y.rq x.rq
 | none=>false
def lnE (kind:List UInt8) (p:Option Lnt) (x:Lnt):Int:=
 zap [zrc x,if ys7 x.ac=kind then 0 else 18,if(zj7 p||decide (x.ac=[82]))&& !(zj7 p&&decide (x.ac=[82])&&zqj x p) then 11 else 0]
def zkt (kind:List UInt8):Option Lnt->Nat->List Lnt->Nat×Int
 | p,i,[]=>if zj7 p then(i-1,11) else(0,0)
 | p,i,x::r=>if lnE kind p x=0 then zkt kind (some x) (i+1) r else(i,lnE kind p x)
structure Mst where
 (ki ai se:List UInt8)
 da:Int
 ls:List Lnt
def Mst.cells (m:Mst):List D:=[.str m.ki,.str m.ai,.str m.se,DI m.da,.list m.ls.length (m.ls.flatMap Lnt.cells)]
abbrev Msv (m:Mst):V:= .d (.agg m.cells)
def ymv:Mst:=⟨[],[],[],0,[]⟩
def ztk (m:Mst):Int:=zap [if(!ykr m.ki)=true then 13 else 0,zz1 m.ai m.se m.da,if 64<m.ls.length then 5 else 0,(zkt m.ki none 0 m.ls).2]
structure yvt (m:Mst):Prop where
 ki:ykr m.ki=true
 hd:zz1 m.ai m.se m.da=0
 ln:m.ls.length<=64
 ok:(zkt m.ki none 0 m.ls).2=0
theorem z0a {m:Mst}:ztk m=0↔yvt m:=by
 unfold ztk
 rw [za5]
 simp only [List.mem_cons,List.not_mem_nil,or_false,forall_eq_or_imp,forall_eq]
 constructor
 ·rintro⟨h1,h2,h3,h4⟩
  refine⟨?_,h2,?_,h4⟩
  ·cases hb:ykr m.ki with
   | true=>rfl
   | false=>rw [hb] at h1;simp at h1
  ·rcases Nat.lt_or_ge 64 m.ls.length with h|h
   ·rw [if_pos h] at h3;cases h3
   ·exact h
 ·rintro⟨h1,h2,h3,h4⟩
  exact⟨by rw [h1];rfl,h2,if_neg (by omega),h4⟩
end Go.Proofs.YtkgcnknhkobmjaaGreatDoor.Co
