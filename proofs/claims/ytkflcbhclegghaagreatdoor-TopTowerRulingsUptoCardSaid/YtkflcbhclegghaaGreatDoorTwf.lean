/-
  TopTowerRulings: what its law leans on, part 6.
-/
import Derived.Laws.RangeAny
import Derived.Lib.SplitLaws
import Derived.Test.YtkflcbhclegghaaGreatDoorEvX
import Derived.Test.YtkflcbhclegghaaGreatDoorEvY
import Derived.Test.YtkflcbhclegghaaGreatDoorRead
import Derived.Test.YtkflcbhclegghaaGreatDoorSpBase
import Derived.Test.YtkflcbhclegghaaGreatDoorTwe
namespace Go.Proofs.YtkflcbhclegghaaGreatDoor.Co
open Go Go.Evl
set_option maxHeartbeats 32000000
set_option maxRecDepth 100000
abbrev srA(ls:List Lmt)(l:List Wsh)(rs:List Alr)(ct bg:List (D×V)):Mem:=[(⟨0,3,0⟩,.cells zcw [LWi l]),(⟨0,4,0⟩,.row true zah 3 0 []),(⟨0,23,0⟩,.row true zah 3 l.length (rs.flatMap Alr.cells)),(⟨0,7,0⟩,.row true zah 3 0 []),(⟨0,7,1⟩,.cells zb6 [.ref ⟨0,23,0⟩ 0 l.length l.length]),(⟨0,25,0⟩,.cells zbi [LLm ls,.mp ⟨0,25,1⟩,.mp ⟨0,25,2⟩]),(⟨0,25,1⟩,.map ct),(⟨0,25,2⟩,.map bg)]
abbrev srM(ls:List Lmt)(l:List Wsh)(rs:List Alr)(ct bg:List (D×V)):Mem:=srA ls l rs ct bg++[(⟨0,8,0⟩,.cells zgd [.ptr ⟨0,25,0⟩ 0 0]),(⟨0,9,0⟩,.cells zet [.fn zb3 [.ptr ⟨0,25,0⟩ 0 0] []]),(⟨0,29,0⟩,.cells zsx [LI (List.replicate l.length (-1))])]
abbrev srO(b:Bool):Ob:=.loop [(3,.ptr ⟨0,3,0⟩ 0 0),(4,.ref ⟨0,4,0⟩ 0 0 0),(5,I 0),(6,I 0),(20,B false),(7,.ptr ⟨0,7,1⟩ 0 0),(8,.ptr ⟨0,8,0⟩ 0 0),(9,.ptr ⟨0,9,0⟩ 0 0),(29,.fn zbz [] [.ptr ⟨0,29,0⟩ 0 0])] [30] zpx zpy 0 b false none
structure yed(ls:List Lmt)(l:List Wsh)(i:Nat)(P:List Mvt)(rs:List Alr)(es:List (Wnd×Int)):Prop where
 le:i<=l.length
 cnt:∀w,zdr es w=((zd2 ls P).count w:Nat)
 few:P.length<=8*i
 res:∃done,rs=done++rf0 (l.drop i)/\done.length=i/\z16 ls [] l=done++z16 ls P (l.drop i)
theorem z8m(l:List Wsh):(rf0 l).length=l.length:=List.length_map ..
theorem yed.len{ls:List Lmt}{l:List Wsh}{i:Nat}{P:List Mvt}{rs:List Alr}{es:List (Wnd×Int)}(h:yed ls l i P rs es):rs.length=l.length:=by
 obtain⟨done,rfl,h2,_⟩:=h.res;have:=h.le;rw[List.length_append,z8m,List.length_drop,h2];omega
theorem yed.start(ls:List Lmt)(l:List Wsh):yed ls l 0 [] (rf0 l) []:=⟨Nat.zero_le _,λw=>by simp[zdr,zd2],by simp,[],by simp,rfl,by simp⟩
theorem yed.over{ls:List Lmt}{l:List Wsh}{P:List Mvt}{rs:List Alr}{es:List (Wnd×Int)}(h:yed ls l l.length P rs es):rs=z16 ls [] l:=by
 obtain⟨done,rfl,h2,h3⟩:=h.res;rw[h3,List.drop_length]
 rfl
theorem z26(ls:List Lmt)(A B:List Mvt):zd2 ls (A++B)=zd2 ls A++zd2 ls B:=by
 unfold zd2;rw[List.flatMap_append]
theorem yed.none{ls:List Lmt}{l:List Wsh}{i:Nat}{P:List Mvt}{rs:List Alr}{es:List (Wnd×Int)}(h:yed ls l i P rs es)(hi:i<l.length)(hc:yra ls P l[i]=Option.none){es':List (Wnd×Int)}(he:∀w,zdr es' w=zdr es w):yed ls l (i+1) P rs es':=by
 obtain⟨done,rfl,h2,h3⟩:=h.res
 refine⟨hi,λw=>by rw[he,h.cnt],by have:=h.few;omega,done++[ysn l[i] Option.none],?_,by simp[h2],?_⟩
 ·rw[List.drop_eq_getElem_cons hi,rf0,List.map_cons,List.append_assoc]
  rfl
 rw[h3,List.drop_eq_getElem_cons hi,z16,hc,List.append_assoc]
 rfl
theorem yed.some{ls:List Lmt}{l:List Wsh}{i:Nat}{P:List Mvt}{rs:List Alr}{es:List (Wnd×Int)}(h:yed ls l i P rs es)(hi:i<l.length){m:Int}(hc:yra ls P l[i]=some m)(hm:(zqv l[i] m).length<=8){es':List (Wnd×Int)}(he:∀w,zdr es' w=zdr es w+((zd2 ls (zqv l[i] m)).count w:Nat)):yed ls l (i+1) (P++zqv l[i] m) (ys6 rs i m) es':=by
 obtain⟨done,rfl,h2,h3⟩:=h.res
 refine⟨hi,λw=>by rw[he,h.cnt,z26,List.count_append];omega,by have:=h.few;rw[List.length_append];omega,done++[ysn l[i] (Option.some m)],?_,by simp[h2],?_⟩
 ·have e:(done++rf0 (l.drop i)).getD i ⟨[],0,false⟩=⟨l[i].r.nm,0,false⟩:=by
   rw[List.drop_eq_getElem_cons hi,rf0,List.map_cons];simp[List.getD,<-h2]
  unfold ys6;rw[e,List.drop_eq_getElem_cons hi,rf0,List.map_cons,List.set_append_right _ _ (by omega),show i-done.length=0 from by omega,List.set_cons_zero,List.append_assoc]
  rfl
 rw[h3,List.drop_eq_getElem_cons hi,z16,hc,List.append_assoc]
 rfl
theorem yed.full{ls:List Lmt}{l:List Wsh}{i:Nat}{P:List Mvt}{rs:List Alr}{es:List (Wnd×Int)}(h:yed ls l i P rs es){es':List (Wnd×Int)}(he:∀w,zdr es' w=zdr es w)(M:List Mvt):z4f ls (zdr es') M=ztj ls P M:=by
 unfold z4f ztj;congr 1
 funext w
 rw[he,h.cnt];congr 1
theorem ynk{α:Type}{p:α->Bool}{l:List α}(h:∀j(hj:j<l.length),p l[j]=false):l.find? p=none:=by
 rw[List.find?_eq_none];intro x hx;obtain⟨j,hj,rfl⟩:=List.getElem_of_mem hx;rw[h j hj];decide
theorem ynj{α:Type}{p:α->Bool}:∀{l:List α}(j:Nat)(hj:j<l.length),(∀i(hi:i<j),p (l[i]'(by omega))=false)->p l[j]=true->l.find? p=some l[j]
 |[],j,hj,_,_=>absurd hj (Nat.not_lt_zero j)
 |x::r,0,_,_,h=>by rw[List.find?_cons];have:p x=true:=h;rw[this];rfl
 |x::r,j+1,hj,h1,h2=>by
  have hx:p x=false:=h1 0 (by omega);rw[List.find?_cons,hx];exact ynj j (by simpa using hj) (λi hi=>h1 (i+1) (by omega)) h2
structure z8z(l:List Wsh):Prop where
 ok:yqj l
 mv:∀w∈l,∀m,0<=m->m<=1439->(zqv w m).length<=8/\∀x∈zqv w m,0<=x.mo/\x.mo<=143999999
theorem zre{w:Wsh}(h:OkW w){m:Int}(hm:m∈yej w):0<=m/\m<=1439:=by
 have h1:=h.ea;have h2:=h.la;have h3:=h.few;unfold yej at hm;have a1:0<=(w.r.mi-w.ea)/20:=Int.ediv_nonneg (by omega) (by omega);have a2:0<=(w.la-w.r.mi)/20:=Int.ediv_nonneg (by omega) (by omega);generalize hp:((w.r.mi-w.ea)/20).toNat=p at hm;generalize hq:((w.la-w.r.mi)/20).toNat=q at hm;have hc:(p=0/\q=0)\/(p=0/\q=1)\/(p=0/\q=2)\/(p=1/\q=0)\/(p=1/\q=1)\/(p=2/\q=0):=by omega
 rcases hc with⟨rfl,rfl⟩|⟨rfl,rfl⟩|⟨rfl,rfl⟩|⟨rfl,rfl⟩|⟨rfl,rfl⟩|⟨rfl,rfl⟩
 all_goals
  simp only[yzb,List.mem_cons,List.not_mem_nil,or_false]at hm;omega
theorem z9i(w:Wsh):(yej w).length<=3:=by
 unfold yej yzb;split<;>simp
theorem yjs{E:Oracle}(g:Good E){w:Wsh}(h:OkW w):Fc E zbl [Wsv w] (LI (yej w)):=by
 have h3:=h.few;have a1:0<=(w.r.mi-w.ea)/20:=Int.ediv_nonneg (by have:=h.ea;omega) (by omega);have a2:0<=(w.la-w.r.mi)/20:=Int.ediv_nonneg (by have:=h.la;omega) (by omega);exact yv7 g w _ _ (by omega) h.ea h.la (by omega) (by omega)
theorem zuu.refusing{E:Oracle}(g:Good E){ls:List Lmt}(hls:ls.length<=3)(hv:∀l∈ls,zgr l=0){M:List Mvt}(hM:∀x∈M,0<=x.mo/\x.mo<=143999999)(hMl:M.length<=1000){es:List (Wnd×Int)}(hes:∀w,-100000000<=zdr es w/\zdr es w<=100000000){ks:List Wnd}{first args:List V}{b0 b1 b2:Evl.Id}{m:Mem}{K:V->Mem->Prop}
  (ha:first++args=[.ptr b0 0 0,LMv M])(hne:b0≠b1/\b0≠b2/\b1≠b2)(h0:Evl.look m b0=some (.cells zbi [LLm ls,.mp b1,.mp b2]))(h1:Evl.look m b1=some (.map (zmb es)))(h2:Evl.look m b2=some (.map (zjy ls ks)))
  (hk:∀es' ks',(∀w,zdr es' w=zdr es w)->ztm m b1 (.map (zmb es')) λm1=>ztm m1 b2 (.map (zjy ls ks')) λm2=>K (LWn (yqu ls (zdr es) M)) m2):zuu E true (.fn zb3 first []) args m K:=
 UpdB.of (ymb g ls hls hv M hM hMl es hes ks) ha rfl hne h0 h1 h2 (by rintro v es' ks'⟨rfl,_⟩;exact⟨λ_=>rfl,rfl⟩) (by rintro v es' ks'⟨rfl,h⟩;exact hk es' ks' h)
theorem zuu.take{E:Oracle}(g:Good E){ls:List Lmt}(hls:ls.length<=3)(hv:∀l∈ls,zgr l=0){l:List Wsh}{i:Nat}(hi:i<l.length){m:Int}(hr:zt3 l[i].r=0)(hm:0<=m/\m<=1439)(hM:∀x∈zqv l[i] m,0<=x.mo/\x.mo<=143999999)(hMl:(zqv l[i] m).length<=1000){es:List (Wnd×Int)}(hes:∀w,-100000000<=zdr es w/\zdr es w<=100000000){ks:List Wnd}{b0 b1 b2:Evl.Id}{mm:Mem}{K:V->Mem->Prop}
  (hne:b0≠b1/\b0≠b2/\b1≠b2)(h0:Evl.look mm b0=some (.cells zbi [LLm ls,.mp b1,.mp b2]))(h1:Evl.look mm b1=some (.map (zmb es)))(h2:Evl.look mm b2=some (.map (zjy ls ks)))
  (hk:∀es' ks',(∀w,zdr es' w=zdr es w+((zd2 ls (zqv l[i] m)).count w:Nat))->ztm mm b1 (.map (zmb es')) λm1=>ztm m1 b2 (.map (zjy ls ks')) λm2=>K (.tup []) m2):zuu E false (.fn zdn [] []) [.ptr b0 0 0,LWi l,Unt i,.d (.agg [DI m,DI (-1)]),I 1] mm K:=
 UpdB.of (yyy g ls hls hv l i hi m hr hm (zqv l[i] m) rfl hM hMl es hes ks) rfl rfl hne h0 h1 h2 (by rintro v es' ks'⟨rfl,_⟩;exact⟨λ_=>rfl,rfl⟩) (by rintro v es' ks'⟨rfl,h⟩;exact hk es' ks' h)
section
variable{E:Oracle}(g:Good E)
include g
theorem yro(ls:List Lmt)(hls:ls.length<=3)(hc:zj8 ls=0)(l:List Wsh)(h:z8z l):In E 0 zd3 [LLm ls,LWi l] [] λv m'=>∃rs,v=.tup [.ref ⟨0,23,0⟩ 0 l.length l.length,I 0]/\rs=z16 ls [] l/\rs.length=l.length/\Evl.look m' ⟨0,23,0⟩=some (.row true zah 3 l.length (rs.flatMap Alr.cells)):=by
 have hv:=zsi hc;refine In.enter (f:=zd3) g.lim rfl rfl ?_;have h1:=zsu g ls (by omega);rw[hc]at h1;have h2:=zzc g l h.ok;have hlen:=h.ok.len;have h4:=yaq g l h.ok
 repeat'((conv=>whnf);first|refine Yz ?_|(apply zaf.of;assumption)|refine zaf.of (yo8 g) ?_|refine zd5.refused g l hlen rfl ?_|refine zd5.of (In.enter (f:=zdm) g.lim rfl rfl ?_)|refine zd5.of (In.enter (f:=zew) g.lim rfl rfl ?_)|(refine⟨(.ptr ⟨0,25,0⟩ 0 0,srA ls l (rf0 l) [] []),rfl,?_⟩)|(refine⟨(.fn zbz [] [.ptr ⟨0,29,0⟩ 0 0],srM ls l (rf0 l) [] []),rfl,?_⟩)|refine In.enter (f:=zbz) g.lim rfl rfl ?_|fail)
 refine zab.to (zab.by (σ:=Nat×List Mvt×List Alr×List (Wnd×Int)×List Wnd) g (λu=>yed ls l u.1 u.2.1 u.2.2.1 u.2.2.2.1)
  (λu=>[(0,.yld ⟨0,59,0⟩),(5,LI (List.replicate l.length (-1))),(6,I l.length),(7,I u.1)])
  (λu=>srM ls l u.2.2.1 (zmb u.2.2.2.1) (zjy ls u.2.2.2.2)++[(⟨0,59,0⟩,srO false)])
  (λu=>l.length-u.1) ?_ (0,[],rf0 l,[],[]) (yed.start ls l)) (by rw[List.length_replicate];rfl) rfl
 rintro⟨i,P,rs,es,ks⟩hS ih;dsimp only at hS;have hkb:=λks=>zkf ls ks
 have hkc:=λes=>zlj es
 by_cases hlt:i<l.length
 ·have hri:i<(List.replicate l.length (-1:Int)).length:=by rw[List.length_replicate];exact hlt
  have hw:=h.ok.ok _ (List.getElem_mem hlt);have ho:=ypf g l i hlt (yej l[i]) (by have:=z9i l[i];omega) (yjs g hw);have hcr:=λm hm=>zre hw (m:=m) hm
  have hmv:∀(j:Nat)(hj:j<(yej l[i]).length),Fc E zcv [Unt i,LWi l,.d (.agg [DI (yej l[i])[j],DI (-1)])] (LMv (zqv l[i] (yej l[i])[j])):=λj hj=>zum g l i hlt (yej l[i])[j] hw.rc (hcr _ (List.getElem_mem hj))
  have hcs:yra ls P l[i]=(yej l[i]).find? λm=>(ztj ls P (zqv l[i] m)).isEmpty:=rfl
  have hcl:=z9i l[i];generalize yej l[i]=cs at*
  repeat'((conv=>whnf);first|refine Yz ?_|(apply zaf.of;assumption)|(refine zgp.intI i rfl hri ?_;rw[List.getElem_replicate])|refine Rnd.enter g.lim ?_|(simp only[])|fail)
  have hPb:∀es1:List (Wnd×Int),(∀w,zdr es1 w=zdr es w)->∀w,-100000000<=zdr es1 w/\zdr es1 w<=100000000:=λes1 he w=>by
   have h5:=he w;rw[hS.cnt]at h5;have h6:=List.count_le_length (a:=w) (l:=zd2 ls P);have h7:=zmp ls hv hls P;have h8:=hS.few;omega
  refine zab.to (zab.by (σ:=Nat×List (Wnd×Int)×List Wnd) g (λu=>u.1<=cs.length/\(∀w,zdr u.2.1 w=zdr es w)/\∀j(hj:j<cs.length),j<u.1->(ztj ls P (zqv l[i] cs[j])).isEmpty=false)
   (λu=>[(3,.ptr ⟨0,3,0⟩ 0 0),(7,.ptr ⟨0,7,1⟩ 0 0),(8,.ptr ⟨0,8,0⟩ 0 0),(9,.ptr ⟨0,9,0⟩ 0 0),(10,.ptr ⟨0,10,0⟩ 0 0),(33,LOp cs),(34,I cs.length),(35,I u.1)])
   (λu=>srM ls l rs (zmb u.2.1) (zjy ls u.2.2)++[(⟨0,59,0⟩,srO true),(⟨0,10,0⟩,.cells za8 [I i,I (-1)])])
   (λu=>cs.length-u.1) ?_ (0,es,ks) ⟨Nat.zero_le _,λ_=>rfl,λj _ h=>absurd h (Nat.not_lt_zero j)⟩) rfl rfl
  rintro⟨j,es1,ks1⟩⟨h5,he,hno⟩ihj;dsimp only at h5 he hno
  by_cases hlj:j<cs.length
  ·have hmr:=hcr _ (List.getElem_mem hlj);have hmv:=hmv j hlj;have hsm:=h.mv _ (List.getElem_mem hlt) cs[j] hmr.1 hmr.2;have hfe:=hS.full he (zqv l[i] cs[j]);have hrn:=yjj ls (zdr es1) (zqv l[i] cs[j]);rw[hfe]at hrn;have hput:=yyx g rs i (by rw[hS.len];exact hlt) cs[j];rw[hS.len]at hput
   by_cases hz:ztj ls P (zqv l[i] cs[j])=[]
   ·have hr0:(yqu ls (zdr es1) (zqv l[i] cs[j])).length=0:=by rw[hrn.2 hz];rfl
    have hfd:yra ls P l[i]=some cs[j]:=by
     rw[hcs];exact ynj j hlj (λi' hi'=>hno i' (by omega) hi') (by rw[hz];rfl)
    repeat'((conv=>whnf);first|refine Yz ?_|(apply zaf.of;assumption)|refine za2.rec z0q j rfl hlj ?_|refine zuu.refusing g hls hv hsm.2 (by omega) (hPb es1 he) rfl (by decide) rfl rfl rfl (λes2 ks2 h2=>?_)|refine zuu.of (is:=[⟨0,23,0⟩]) rfl rfl rfl rfl hput rfl rfl rfl ?_|refine zuu.take g hls hv hlt hw.rc hmr hsm.2 (by omega) (hPb es2 (λw=>(h2 w).trans (he w))) (by decide) rfl rfl rfl (λes3 ks3 h3=>?_)|(simp only[Evl.idsAll,Evl.idsO,hkc,hkb,List.nil_append])|refine zab.to (ih (i+1,P++zqv l[i] cs[j],ys6 rs i cs[j],es3,ks3) (hS.some hlt hfd hsm.1 (λw=>by rw[h3 w,h2 w,he w])) (by dsimp only;omega)) rfl rfl|fail)
   have hr0:(yqu ls (zdr es1) (zqv l[i] cs[j])).length≠0:=λh0=>hz (hrn.1 (List.length_eq_zero_iff.1 h0))
   repeat'((conv=>whnf);first
   | refine Yz ?_
    | (apply zaf.of;assumption)
    | (refine za2.rec z0q j rfl hlj ?_)
    | (refine zuu.refusing g hls hv hsm.2 (by omega) (hPb es1 he) rfl (by decide) rfl rfl rfl (λes2 ks2 h2=>?_))
    | (simp only[Evl.idsAll,Evl.idsO,hkc,hkb,List.nil_append])
    | (refine zab.to (ihj (j+1,es2,ks2) ⟨by dsimp only;omega,λw=>(h2 w).trans (he w),λj' hj' hlt'=>by
      by_cases e:j'=j
      ·subst e;cases hb:ztj ls P (zqv l[i] cs[j'])with
       | nil=>exact absurd hb hz
       | cons _ _=>rfl
      exact hno j' hj' (by dsimp only at hlt';omega)⟩ (by dsimp only;omega)) rfl rfl)
    | fail)
  obtain rfl:j=cs.length:=by omega
  clear ihj
  have hfd:yra ls P l[i]=none:=by
   rw[hcs];exact ynk λj hj=>hno j hj hj
  repeat'((conv=>whnf);first|refine Yz ?_|(simp only[Evl.idsAll,Evl.idsO,hkc,hkb,List.nil_append])|refine zab.to (ih (i+1,P,rs,es1,ks1) (hS.none hlt hfd he) (by dsimp only;omega)) rfl rfl|fail)
 obtain rfl:i=l.length:=by have:=hS.le;omega
 clear ih
 repeat'((conv=>whnf);first|refine Yz ?_|(simp only[Evl.idsAll,Evl.idsO,hkc,hkb,List.nil_append])|(exact⟨rs,trivial,hS.over,hS.len,rfl⟩)|fail)
end
theorem zy6{α:Type}(cell:α->List D)(w:Nat)(hw:∀a,(cell a).length=w)(l:List α)(k:Nat)(hk:k<l.length)(x:α):patch (l.flatMap cell) (k*w) (cell x)=(l.set k x).flatMap cell:=by
 have h1:=zae cell w hw (l.take k);have h2:(l.take k).length=k:=by simp;omega
 rw[h2]at h1
 conv=>lhs;rw[<-List.take_append_drop k l,List.drop_eq_getElem_cons hk]
 rw[List.flatMap_append,List.flatMap_cons,List.set_eq_take_append_cons_drop,if_pos hk,List.flatMap_append,List.flatMap_cons];unfold patch;rw[<-h1,List.take_left,List.drop_append,List.drop_of_length_le (by omega),List.nil_append,show((l.take k).flatMap cell).length+(cell x).length-((l.take k).flatMap cell).length=(cell l[k]).length from by rw[hw,hw];omega,List.drop_left,List.append_assoc]
theorem za2.recN{α:Type}{cell:α->List D}{w:Nat}(hw:∀a,(cell a).length=w){l:List α}{n:Nat}{K:List D->Prop}(p:Nat)(hp:n=p*w)(h:p<l.length)(hk:K (cell l[p])):za2 (l.flatMap cell) n w K:=by
 subst hp;have hl:=zae cell w hw l;refine za2.now ?_ (zei cell w hw l p h) hk;rw[hl,<-Nat.succ_mul];exact Nat.mul_le_mul_right w h
def ynv:V->Bool
 |.d _=>true
 |.fn _ [] []=>true
 |_=>false
theorem ycq(m:Mem):∀av:List V,av.all ynv=true->av.map (z0i m)=av/\zev av=[]/\∀σ,zrp σ av=av
 |[],_=>⟨rfl,rfl,λ_=>rfl⟩
 |v::r,h=>by
  rw[List.all_cons,Bool.and_eq_true]at h;obtain⟨h1,h2,h3⟩:=ycq m r h.2;have hv:=h.1;unfold ynv at hv
  split at hv
  ·refine⟨by rw[List.map_cons,h1];rfl,by show []++zev r=[];rw[h2];rfl,λσ=>?_⟩;show _::zrp σ r=_;rw[h3 σ];rfl
  ·refine⟨by rw[List.map_cons,h1];rfl,by show []++zev r=[];rw[h2];rfl,λσ=>?_⟩;show _::zrp σ r=_;rw[h3 σ];rfl
  cases hv
abbrev rwO(t sz n:Nat)(xs:List D):Mem:=[(⟨0,0,0⟩,.row true t sz n xs)]
structure UR(E:Oracle)(f t sz n:Nat)(av:List V)(xs:List D)(Q:List D->Prop):Prop where
 got:In E 1 f (.ref ⟨0,0,0⟩ 0 n n::av) (rwO t sz n xs) λv m1=>v=.tup []/\∃xs',Q xs'/\Evl.look m1 ⟨0,0,0⟩=some (.row true t sz n xs')
theorem UpdR.of{E:Oracle}{f t sz n:Nat}{av args:List V}{xs:List D}{Q:List D->Prop}{b:Evl.Id}{m:Mem}{K:V->Mem->Prop}(hu:UR E f t sz n av xs Q)(ha:args=.ref b 0 n n::av)(hi:av.all ynv=true)(hl:Evl.look m b=some (.row true t sz n xs))
  (hk:∀xs',Q xs'->ztm m b (.row true t sz n xs') λm'=>K (.tup []) m'):zuu E false (.fn f [] []) args m K:=by
 obtain⟨v,m1,h1,rfl,xs',hq,hl1⟩:=hu.got;obtain⟨f1,f2,f3⟩:=ycq m av hi;have h0:=hk xs' hq;rw[zd1]at h0
 have e1:(([]:List V)++args++[]).map (z0i m)=.ref b 0 n n::av:=by
  rw[List.nil_append,List.append_nil,ha,List.map_cons,f1];simp[z0i,Go.Evl.freeze,hl]
 have e2:zev (V.ref b 0 n n::av)=[b]:=by show [b]++zev av=_;rw[f2];rfl
 have e3:reach 0 m 64 [b] []=[b]:=by
  show reach 0 m (62+1+1) [b] []=_;simp[reach,hl,idsO]
 refine zuu.of (is:=[b]) (as0:=.ref ⟨0,0,0⟩ 0 n n::av) (m0:=rwO t sz n xs) (m2:=rwO t sz n xs') (m':=Evl.upd m b (.row true t sz n xs')) (r:=.tup []) (r':=.tup []) (by rw[e1,e2,e3]) ?_ ?_ ?_ ⟨⟨_,m1,h1,rfl,hl1,trivial⟩⟩ ?_ rfl rfl h0
 ·rw[e1,e2];simp[within,movable,onceB,hl,idsO,isLoop]
 ·rw[e1];show _::zrp _ av=_;rw[f3];simp[number,ren,subst]
 ·simp[number,moved,hl,renO]
 simp[number,zvl,Evl.look,okU,idsO,renO]
def QP(X:List Mvt)(xs:List D):Prop:=∃Y:List Mvt,Y.Perm X/\xs=Y.flatMap Mvt.cells
abbrev URM(E:Oracle)(f:Nat)(av:List V)(X:List Mvt):Prop:=UR E f zac 7 X.length av (X.flatMap Mvt.cells) (QP X)
abbrev yei(f:Nat):V:=.fn f [] []
def yxb(E:Oracle)(f:Nat):Prop:=∀x y:Mvt,∃c:Int,Fc E f [Mvv x,Mvv y] (I c)
theorem zzh{X Y:List Mvt}(h:Y.Perm X){i j:Nat}(hi:i<Y.length)(hj:j<Y.length):((Y.set i Y[j]).set j Y[i]).Perm X:=(List.set_set_perm hi hj).trans h
theorem zvf{Y:List Mvt}{i j:Nat}(hi:i<Y.length)(hj:j<Y.length):patch (Y.flatMap Mvt.cells) (i*7) (Mvt.cells Y[j])=(Y.set i Y[j]).flatMap Mvt.cells/\patch ((Y.set i Y[j]).flatMap Mvt.cells) (j*7) (Mvt.cells Y[i])=((Y.set i Y[j]).set j Y[i]).flatMap Mvt.cells:=
 ⟨zy6 Mvt.cells 7 Mvt.cells_length Y i hi _,zy6 Mvt.cells 7 Mvt.cells_length _ j (by rw[List.length_set];exact hj) _⟩
theorem ycn(i j:Nat):((i:Int)+j).fdiv (2^(min (1:Int).toNat IntKind.u64.bits))=((i+j)/2:Nat):=by
 have:(2:Int)^(min (1:Int).toNat IntKind.u64.bits)=2:=by decide
 rw[this,Int.fdiv_eq_ediv_of_nonneg _ (by omega)];omega
theorem URM.cast{E:Oracle}{f:Nat}{av:List V}{X Z:List Mvt}(h:Z.Perm X)(hu:URM E f av Z):UR E f zac 7 X.length av (Z.flatMap Mvt.cells) (QP Z):=by
 rw[<-h.length_eq];exact hu
section
variable{E:Oracle}(g:Good E)
include g
theorem yhi(f:Nat)(X:List Mvt)(hX:X.length<=1000)(a b c:Nat)(ha:a+c<=X.length)(hb:b+c<=X.length):URM E za4 [I a,I b,I c,yei f] X:=by
 refine⟨?_⟩;refine In.enter (f:=za4) g.lim rfl rfl ?_
 repeat'((conv=>whnf);first|refine Yz ?_|fail)
 refine zab.to (zab.by (σ:=Nat×List Mvt) g (λu=>u.1<=c/\u.2.Perm X)
  (λu=>[(0,.ref ⟨0,0,0⟩ 0 X.length X.length),(1,I a),(2,I b),(3,I c),(10,I u.1)]) (λu=>rwO zac 7 X.length (u.2.flatMap Mvt.cells)) (λu=>c-u.1) ?_ (0,X) ⟨Nat.zero_le _,List.Perm.refl _⟩) rfl rfl
 rintro⟨i,Y⟩⟨h1,h2⟩ih;dsimp only at h1 h2;have hYl:=h2.length_eq
 by_cases hlt:i<c
 ·have hi:a+i<Y.length:=by omega
  have hj:b+i<Y.length:=by omega
  have ih:=ih (i+1,(Y.set (a+i) Y[b+i]).set (b+i) Y[a+i]) ⟨by dsimp only;omega,zzh h2 hi hj⟩ (by dsimp only;omega);dsimp only at ih;obtain⟨p1,p2⟩:=zvf hi hj;have e1:(0+((a:Int)+(i:Int)).toNat)*7=(a+i)*7:=by omega
  have e2:(0+((b:Int)+(i:Int)).toNat)*7=(b+i)*7:=by omega
  rw[<-e1]at p1;rw[<-e2]at p2;have hl1:=λ_:Unit=>zae Mvt.cells 7 Mvt.cells_length Y
  have hl2:=λ_:Unit=>zae Mvt.cells 7 Mvt.cells_length (Y.set (a+i) Y[b+i])
  repeat'((conv=>whnf);first|refine Yz ?_|refine za2.recN Mvt.cells_length (b+i) (by omega) hj ?_|refine za2.recN Mvt.cells_length (a+i) (by omega) hi ?_|(refine zem.mk ⟨rfl,by rw[hl1 ()];show _+7<=_;omega,rfl⟩ ?_;rw[p1])|(refine zem.mk ⟨rfl,by rw[hl2 (),List.length_set];show _+7<=_;omega,rfl⟩ ?_;rw[p2])|refine zab.to ih rfl rfl|fail)
 obtain rfl:i=c:=by omega
 repeat'((conv=>whnf);first|refine Yz ?_|fail)
 all_goals exact⟨rfl,_,⟨Y,h2,rfl⟩,rfl⟩
theorem zm6(f:Nat)(X:List Mvt)(hX:X.length<=1000)(a m b:Nat)(ha:a<m)(hm:m<b)(hb:b<=X.length):URM E zci [I a,I m,I b,yei f] X:=by
 refine⟨?_⟩;refine In.enter (f:=zci) g.lim rfl rfl ?_;have hi0:(m:Int)-a=((m-a:Nat):Int):=by omega
 have hj0:(b:Int)-m=((b-m:Nat):Int):=by omega
 repeat'((conv=>whnf);first|refine Yz ?_|fail)
 refine zab.to (zab.by (σ:=Nat×Nat×List Mvt) g (λu=>0<u.1/\u.1<=m/\0<u.2.1/\m+u.2.1<=X.length/\u.2.2.Perm X)
  (λu=>[(0,.ref ⟨0,0,0⟩ 0 X.length X.length),(2,I m),(4,yei f),(10,I u.1),(11,I u.2.1)]) (λu=>rwO zac 7 X.length (u.2.2.flatMap Mvt.cells)) (λu=>u.1+u.2.1) ?_ (m-a,b-m,X) ⟨by dsimp only;omega,by dsimp only;omega,by dsimp only;omega,by dsimp only;omega,List.Perm.refl _⟩) (by rw[hi0,hj0]) rfl
 rintro⟨i,j,Y⟩⟨h1,h2,h3,h4,h5⟩ih;dsimp only at h1 h2 h3 h4 h5⊢;have hYl:=h5.length_eq;rw[<-hYl]at h4 hX⊢
 rcases Nat.lt_trichotomy i j with hlt|rfl|hlt
 ·have hs:=yhi g f Y hX (m-i) (m+j-i) i (by omega) (by omega);have e1:((m-i:Nat):Int)=(m:Int)-i:=by omega
  have e2:((m+j-i:Nat):Int)=(m:Int)+j-i:=by omega
  rw[e1,e2]at hs;have ih:=λZ(hz:Z.Perm Y)=>ih (i,j-i,Z) ⟨by dsimp only;omega,by dsimp only;omega,by dsimp only;omega,by dsimp only;omega,hz.trans h5⟩ (by dsimp only;omega)
  dsimp only at ih;rw[<-hYl]at ih;have e3:((j-i:Nat):Int)=(j:Int)-i:=by omega
  rw[e3]at ih
  repeat'((conv=>whnf);first|refine Yz ?_|(refine UpdR.of hs rfl rfl rfl ?_;rintro _⟨Z,hz,rfl⟩)|refine zab.to (ih Z hz) rfl rfl|fail)
 ·have hs:=yhi g f Y hX (m-i) m i (by omega) (by omega);have e1:((m-i:Nat):Int)=(m:Int)-i:=by omega
  rw[e1]at hs;clear ih
  repeat'((conv=>whnf);first|refine Yz ?_|(refine UpdR.of hs rfl rfl rfl ?_;rintro _⟨Z,hz,rfl⟩)|fail)
  all_goals exact⟨rfl,_,⟨Z,hz.trans h5,rfl⟩,rfl⟩
 have hs:=yhi g f Y hX (m-i) m j (by omega) (by omega);have e1:((m-i:Nat):Int)=(m:Int)-i:=by omega
 rw[e1]at hs;have ih:=λZ(hz:Z.Perm Y)=>ih (i-j,j,Z) ⟨by dsimp only;omega,by dsimp only;omega,by dsimp only;omega,by dsimp only;omega,hz.trans h5⟩ (by dsimp only;omega)
 dsimp only at ih;rw[<-hYl]at ih;have e3:((i-j:Nat):Int)=(i:Int)-j:=by omega
 rw[e3]at ih
 repeat'((conv=>whnf);first|refine Yz ?_|(refine UpdR.of hs rfl rfl rfl ?_;rintro _⟨Z,hz,rfl⟩)|refine zab.to (ih Z hz) rfl rfl|fail)
theorem yul{f:Nat}(hf:yxb E f)(X:List Mvt)(hX:X.length<=1000)(a b:Nat)(ha:a<=b)(hb:b<=X.length):URM E za7 [I a,I b,yei f] X:=by
 refine⟨?_⟩;refine In.enter (f:=za7) g.lim rfl rfl ?_
 repeat'((conv=>whnf);first|refine Yz ?_|fail)
 refine zab.to (zab.by (σ:=Nat×List Mvt) g (λu=>a<u.1/\u.2.Perm X)
  (λu=>[(0,.ref ⟨0,0,0⟩ 0 X.length X.length),(1,I a),(2,I b),(3,yei f),(8,I u.1)]) (λu=>rwO zac 7 X.length (u.2.flatMap Mvt.cells)) (λu=>b+1-u.1) ?_ (a+1,X) ⟨Nat.lt_succ_self _,List.Perm.refl _⟩) rfl rfl
 rintro⟨i,Y⟩⟨h1,h2⟩ih;dsimp only at h1 h2
 by_cases hlt:i<b
 ·have ih:=λZ(hz:Z.Perm X)=>ih (i+1,Z) ⟨by dsimp only;omega,hz⟩ (by dsimp only;omega)
  dsimp only at ih
  repeat'((conv=>whnf);first|refine Yz ?_|fail)
  refine zab.to (zab.by (σ:=Nat×List Mvt) g (λu=>a<=u.1/\u.1<b/\u.2.Perm X)
   (λu=>[(0,.ref ⟨0,0,0⟩ 0 X.length X.length),(1,I a),(2,I b),(3,yei f),(8,I i),(9,I u.1)]) (λu=>rwO zac 7 X.length (u.2.flatMap Mvt.cells)) (λu=>u.1) ?_ (i,Y) ⟨by dsimp only;omega,hlt,h2⟩) rfl rfl
  rintro⟨j,Y⟩⟨h3,h4,h5⟩ihj;dsimp only at h3 h4 h5;have hYl:=h5.length_eq
  by_cases hja:a<j
  ·have hj:j<Y.length:=by omega
   have hj1:j-1<Y.length:=by omega
   obtain⟨c,hc⟩:=hf Y[j] Y[j-1];have hl1:=λ_:Unit=>zae Mvt.cells 7 Mvt.cells_length Y
   have hl2:=λ_:Unit=>zae Mvt.cells 7 Mvt.cells_length (Y.set j Y[j-1])
   by_cases hcn:c<0
   ·have ihj:=ihj (j-1,(Y.set j Y[j-1]).set (j-1) Y[j]) ⟨by dsimp only;omega,by dsimp only;omega,zzh h5 hj hj1⟩ (by dsimp only;omega);dsimp only at ihj;have e3:((j-1:Nat):Int)=(j:Int)-1:=by omega
    rw[e3]at ihj;obtain⟨p1,p2⟩:=zvf hj hj1;have e1:(0+((j:Nat):Int).toNat)*7=j*7:=by omega
    have e2:(0+((j:Int)-1).toNat)*7=(j-1)*7:=by omega
    rw[<-e1]at p1;rw[<-e2]at p2
    repeat'((conv=>whnf);first|refine Yz ?_|refine za2.recN Mvt.cells_length j (by omega) hj ?_|refine za2.recN Mvt.cells_length (j-1) (by omega) hj1 ?_|refine zaf.of hc ?_|(refine zem.mk ⟨rfl,by rw[hl1 ()];show _+7<=_;omega,rfl⟩ ?_;rw[p1])|(refine zem.mk ⟨rfl,by rw[hl2 (),List.length_set];show _+7<=_;omega,rfl⟩ ?_;rw[p2])|refine zab.to ihj rfl rfl|fail)
   have ih:=ih Y h5
   repeat'((conv=>whnf);first|refine Yz ?_|refine za2.recN Mvt.cells_length j (by omega) hj ?_|refine za2.recN Mvt.cells_length (j-1) (by omega) hj1 ?_|refine zaf.of hc ?_|refine zab.to ih rfl rfl|fail)
  have ih:=ih Y h5
  repeat'((conv=>whnf);first|refine Yz ?_|refine zab.to ih rfl rfl|fail)
 ·repeat'((conv=>whnf);first|refine Yz ?_|fail)
  all_goals exact⟨rfl,_,⟨Y,h2,rfl⟩,rfl⟩
theorem yqd{f:Nat}(hf:yxb E f):∀(N:Nat)(X:List Mvt)(_:X.length<=1000)(a m b:Nat),b-a<=N->a<m->m<b->b<=X.length->URM E zay [I a,I m,I b,yei f] X
 |0,_,_,a,m,b,h1,h2,h3,_=>by omega
 |N+1,X,hX,a,m,b,h1,h2,h3,h4=>by
  have IH:=yqd hf N;refine⟨?_⟩;refine In.enter (f:=zay) g.lim rfl rfl ?_
  by_cases hm1:m=a+1
  ·repeat'((conv=>whnf);first|refine Yz ?_|fail)
   refine zab.to (zab.by (σ:=Nat×Nat) g (λu=>m<=u.1/\u.1<=u.2/\u.2<=b)
    (λu=>[(0,.ref ⟨0,0,0⟩ 0 X.length X.length),(1,I a),(4,yei f),(10,I u.1),(11,I u.2)]) (λ_=>rwO zac 7 X.length (X.flatMap Mvt.cells)) (λu=>u.2-u.1) ?_ (m,b) ⟨Nat.le_refl _,by dsimp only;omega,Nat.le_refl _⟩) rfl rfl
   rintro⟨i,j⟩⟨k1,k2,k3⟩ih;dsimp only at k1 k2 k3⊢
   by_cases hlt:i<j
   ·have hh:=ycn i j;have hi1:=ih ((i+j)/2+1,j);have hi2:=ih (i,(i+j)/2);dsimp only at hi1 hi2;have q1:i<=(i+j)/2:=by omega
    have q2:(i+j)/2<j:=by omega
    generalize(i+j)/2=h at*;have hhl:h<X.length:=by omega
    have hal:a<X.length:=by omega
    obtain⟨c,hc⟩:=hf X[h] X[a]
    by_cases hcn:c<0
    ·have hi1:=hi1 ⟨by omega,by omega,k3⟩ (by omega);rw[show((h+1:Nat):Int)=(h:Int)+1 from by omega]at hi1
     repeat'((conv=>whnf);first|refine Yz ?_|refine Wr.u64b (by omega) ?_|rw[hh]|refine za2.recN Mvt.cells_length h (by omega) hhl ?_|refine za2.recN Mvt.cells_length a (by omega) hal ?_|refine zaf.of hc ?_|refine zab.to hi1 rfl rfl|fail)
    have hi2:=hi2 ⟨k1,by omega,by omega⟩ (by omega)
    repeat'((conv=>whnf);first|refine Yz ?_|refine Wr.u64b (by omega) ?_|rw[hh]|refine za2.recN Mvt.cells_length h (by omega) hhl ?_|refine za2.recN Mvt.cells_length a (by omega) hal ?_|refine zaf.of hc ?_|refine zab.to hi2 rfl rfl|fail)
   clear ih
   repeat'((conv=>whnf);first|refine Yz ?_|fail)
   refine zab.to (zab.by (σ:=Nat×List Mvt) g (λu=>u.1<=i/\u.2.Perm X)
    (λu=>[(0,.ref ⟨0,0,0⟩ 0 X.length X.length),(10,I i),(13,I u.1)]) (λu=>rwO zac 7 X.length (u.2.flatMap Mvt.cells)) (λu=>i-u.1) ?_ (a,X) ⟨by dsimp only;omega,List.Perm.refl _⟩) rfl rfl
   rintro⟨k,Y⟩⟨k4,k5⟩ih;dsimp only at k4 k5⊢;have hYl:=k5.length_eq
   by_cases hk:(k:Int)<(i:Int)-1
   ·have hkl:k<Y.length:=by omega
    have hk1:k+1<Y.length:=by omega
    have ih:=ih (k+1,(Y.set k Y[k+1]).set (k+1) Y[k]) ⟨by dsimp only;omega,zzh k5 hkl hk1⟩ (by dsimp only;omega);dsimp only at ih;obtain⟨p1,p2⟩:=zvf hkl hk1;have e1:(0+((k:Nat):Int).toNat)*7=k*7:=by omega
    have e2:(0+((k:Int)+1).toNat)*7=(k+1)*7:=by omega
    rw[<-e1]at p1;rw[<-e2]at p2;have hl1:=λ_:Unit=>zae Mvt.cells 7 Mvt.cells_length Y
    have hl2:=λ_:Unit=>zae Mvt.cells 7 Mvt.cells_length (Y.set k Y[k+1])
    repeat'((conv=>whnf);first|refine Yz ?_|refine za2.recN Mvt.cells_length (k+1) (by omega) hk1 ?_|refine za2.recN Mvt.cells_length k (by omega) hkl ?_|(refine zem.mk ⟨rfl,by rw[hl1 ()];show _+7<=_;omega,rfl⟩ ?_;rw[p1])|(refine zem.mk ⟨rfl,by rw[hl2 (),List.length_set];show _+7<=_;omega,rfl⟩ ?_;rw[p2])|refine zab.to ih rfl rfl|fail)
   clear ih
   repeat'((conv=>whnf);first|refine Yz ?_|fail)
   all_goals exact⟨rfl,_,⟨Y,k5,rfl⟩,rfl⟩
  by_cases hb1:b=m+1
  ·repeat'((conv=>whnf);first|refine Yz ?_|fail)
   refine zab.to (zab.by (σ:=Nat×Nat) g (λu=>a<=u.1/\u.1<=u.2/\u.2<=m)
    (λu=>[(0,.ref ⟨0,0,0⟩ 0 X.length X.length),(2,I m),(4,yei f),(14,I u.1),(15,I u.2)]) (λ_=>rwO zac 7 X.length (X.flatMap Mvt.cells)) (λu=>u.2-u.1) ?_ (a,m) ⟨Nat.le_refl _,by dsimp only;omega,Nat.le_refl _⟩) rfl rfl
   rintro⟨i,j⟩⟨k1,k2,k3⟩ih;dsimp only at k1 k2 k3⊢
   by_cases hlt:i<j
   ·have hh:=ycn i j;have hi1:=ih ((i+j)/2+1,j);have hi2:=ih (i,(i+j)/2);dsimp only at hi1 hi2;have q1:i<=(i+j)/2:=by omega
    have q2:(i+j)/2<j:=by omega
    generalize(i+j)/2=h at*;have hhl:h<X.length:=by omega
    have hml:m<X.length:=by omega
    obtain⟨c,hc⟩:=hf X[m] X[h]
    by_cases hcn:c<0
    ·have hi2:=hi2 ⟨k1,by omega,by omega⟩ (by omega)
     repeat'((conv=>whnf);first|refine Yz ?_|refine Wr.u64b (by omega) ?_|rw[hh]|refine za2.recN Mvt.cells_length h (by omega) hhl ?_|refine za2.recN Mvt.cells_length m (by omega) hml ?_|refine zaf.of hc ?_|refine zab.to hi2 rfl rfl|fail)
    have hi1:=hi1 ⟨by omega,by omega,k3⟩ (by omega);rw[show((h+1:Nat):Int)=(h:Int)+1 from by omega]at hi1
    repeat'((conv=>whnf);first|refine Yz ?_|refine Wr.u64b (by omega) ?_|rw[hh]|refine za2.recN Mvt.cells_length h (by omega) hhl ?_|refine za2.recN Mvt.cells_length m (by omega) hml ?_|refine zaf.of hc ?_|refine zab.to hi1 rfl rfl|fail)
   clear ih
   repeat'((conv=>whnf);first|refine Yz ?_|fail)
   refine zab.to (zab.by (σ:=Nat×List Mvt) g (λu=>u.1<=m/\u.2.Perm X)
    (λu=>[(0,.ref ⟨0,0,0⟩ 0 X.length X.length),(14,I i),(17,I u.1)]) (λu=>rwO zac 7 X.length (u.2.flatMap Mvt.cells)) (λu=>u.1) ?_ (m,X) ⟨Nat.le_refl _,List.Perm.refl _⟩) rfl rfl
   rintro⟨k,Y⟩⟨k4,k5⟩ih;dsimp only at k4 k5⊢;have hYl:=k5.length_eq
   by_cases hk:i<k
   ·have hkl:k<Y.length:=by omega
    have hk1:k-1<Y.length:=by omega
    have ih:=ih (k-1,(Y.set k Y[k-1]).set (k-1) Y[k]) ⟨by dsimp only;omega,zzh k5 hkl hk1⟩ (by dsimp only;omega);dsimp only at ih;rw[show((k-1:Nat):Int)=(k:Int)-1 from by omega]at ih;obtain⟨p1,p2⟩:=zvf hkl hk1;have e1:(0+((k:Nat):Int).toNat)*7=k*7:=by omega
    have e2:(0+((k:Int)-1).toNat)*7=(k-1)*7:=by omega
    rw[<-e1]at p1;rw[<-e2]at p2;have hl1:=λ_:Unit=>zae Mvt.cells 7 Mvt.cells_length Y
    have hl2:=λ_:Unit=>zae Mvt.cells 7 Mvt.cells_length (Y.set k Y[k-1])
    repeat'((conv=>whnf);first|refine Yz ?_|refine za2.recN Mvt.cells_length k (by omega) hkl ?_|refine za2.recN Mvt.cells_length (k-1) (by omega) hk1 ?_|(refine zem.mk ⟨rfl,by rw[hl1 ()];show _+7<=_;omega,rfl⟩ ?_;rw[p1])|(refine zem.mk ⟨rfl,by rw[hl2 (),List.length_set];show _+7<=_;omega,rfl⟩ ?_;rw[p2])|refine zab.to ih rfl rfl|fail)
   clear ih
   repeat'((conv=>whnf);first|refine Yz ?_|fail)
   all_goals exact⟨rfl,_,⟨Y,k5,rfl⟩,rfl⟩
  have hh:=ycn a b;have q1:a<(a+b)/2:=by omega
  have q2:(a+b)/2<b:=by omega
  have q3:2*((a+b)/2)<=a+b:=by omega
  have q4:a+b<=2*((a+b)/2)+1:=by omega
  generalize(a+b)/2=mid at*
  by_cases hmid:mid<m
  ·obtain⟨s0,e20⟩:∃s0:Nat,(mid:Int)+m-b=s0:=⟨mid+m-b,by omega⟩
   repeat'((conv=>whnf);first|refine Yz ?_|refine Wr.u64b (by omega) ?_|rw[hh]|fail)
   rw[e20]
   refine zab.to (zab.by (σ:=Nat×Nat) g (λu=>s0<=u.1/\u.1<=u.2/\u.2<=mid)
    (λu=>[(0,.ref ⟨0,0,0⟩ 0 X.length X.length),(1,I a),(2,I m),(3,I b),(4,yei f),(18,I mid),(19,I ((mid:Int)+m)),(20,I u.1),(21,I u.2),(22,I ((mid:Int)+m-1))]) (λ_=>rwO zac 7 X.length (X.flatMap Mvt.cells)) (λu=>u.2-u.1) ?_ (s0,mid) ⟨Nat.le_refl _,by dsimp only;omega,Nat.le_refl _⟩) rfl rfl
   rintro⟨i,j⟩⟨k1,k2,k3⟩ih;dsimp only at k1 k2 k3⊢
   by_cases hlt:i<j
   ·have hh2:=ycn i j;have hi1:=ih ((i+j)/2+1,j);have hi2:=ih (i,(i+j)/2);dsimp only at hi1 hi2;have r1:i<=(i+j)/2:=by omega
    have r2:(i+j)/2<j:=by omega
    generalize(i+j)/2=h at*;have hhl:h<X.length:=by omega
    have hpl:mid+m-1-h<X.length:=by omega
    obtain⟨c,hc⟩:=hf X[mid+m-1-h] X[h]
    by_cases hcn:c<0
    ·have hi2:=hi2 ⟨k1,by omega,by omega⟩ (by omega)
     repeat'((conv=>whnf);first|refine Yz ?_|refine Wr.u64b (by omega) ?_|rw[hh2]|refine za2.recN Mvt.cells_length h (by omega) hhl ?_|refine za2.recN Mvt.cells_length (mid+m-1-h) (by omega) hpl ?_|refine zaf.of hc ?_|refine zab.to hi2 rfl rfl|fail)
    have hi1:=hi1 ⟨by omega,by omega,k3⟩ (by omega);rw[show((h+1:Nat):Int)=(h:Int)+1 from by omega]at hi1
    repeat'((conv=>whnf);first|refine Yz ?_|refine Wr.u64b (by omega) ?_|rw[hh2]|refine za2.recN Mvt.cells_length h (by omega) hhl ?_|refine za2.recN Mvt.cells_length (mid+m-1-h) (by omega) hpl ?_|refine zaf.of hc ?_|refine zab.to hi1 rfl rfl|fail)
   clear ih;obtain⟨e,he⟩:∃e:Nat,(e:Int)=(mid:Int)+m-i:=⟨mid+m-i,by omega⟩
   by_cases c1:i<m/\m<e
   ·by_cases c2:a<i/\i<mid
    ·by_cases c3:mid<e/\e<b
     ·have hr:=zm6 g f X hX i m e (by omega) c1.2 (by omega);rw[he]at hr
      repeat'((conv=>whnf);first|refine Yz ?_|(refine UpdR.of hr rfl rfl rfl ?_;rintro _⟨Z,hz,rfl⟩;have hs1:=IH Z (by rw[hz.length_eq];exact hX);have hl:=hz.length_eq)|(refine UpdR.of (URM.cast hz (hs1 a i mid (by omega) c2.1 c2.2 (by omega))) rfl rfl rfl ?_;rintro _⟨Z2,hz2,rfl⟩;replace hz2:=hz2.trans hz;have hs3:=IH Z2 (by rw[hz2.length_eq];exact hX);have hl:=hz2.length_eq)|(have hq:=URM.cast hz2 (hs3 mid e b (by omega) c3.1 c3.2 (by omega));rw[he]at hq;refine UpdR.of hq rfl rfl rfl ?_;rintro _⟨Z3,hz3,rfl⟩;replace hz3:=hz3.trans hz2)|(refine Cmp.mk (λh=>?_) (λh=>?_))|(refine Rem.any (by omega) (λr hr he=>?_))|(refine Br.mk (λh=>?_) (λh=>?_))|(exfalso;omega)|fail)
      all_goals exact⟨rfl,_,⟨Z3,hz3,rfl⟩,rfl⟩
     have hr:=zm6 g f X hX i m e (by omega) c1.2 (by omega);rw[he]at hr
     repeat'((conv=>whnf);first|refine Yz ?_|(refine UpdR.of hr rfl rfl rfl ?_;rintro _⟨Z,hz,rfl⟩;have hs1:=IH Z (by rw[hz.length_eq];exact hX);have hl:=hz.length_eq)|(refine UpdR.of (URM.cast hz (hs1 a i mid (by omega) c2.1 c2.2 (by omega))) rfl rfl rfl ?_;rintro _⟨Z2,hz2,rfl⟩;replace hz2:=hz2.trans hz;have hs3:=IH Z2 (by rw[hz2.length_eq];exact hX);have hl:=hz2.length_eq)|(refine Cmp.mk (λh=>?_) (λh=>?_))|(refine Rem.any (by omega) (λr hr he=>?_))|(refine Br.mk (λh=>?_) (λh=>?_))|(exfalso;omega)|fail)
     all_goals exact⟨rfl,_,⟨Z2,hz2,rfl⟩,rfl⟩
    by_cases c3:mid<e/\e<b
    ·have hr:=zm6 g f X hX i m e (by omega) c1.2 (by omega);rw[he]at hr
     repeat'((conv=>whnf);first|refine Yz ?_|(refine UpdR.of hr rfl rfl rfl ?_;rintro _⟨Z,hz,rfl⟩;have hs1:=IH Z (by rw[hz.length_eq];exact hX);have hl:=hz.length_eq)|(have hq:=URM.cast hz (hs1 mid e b (by omega) c3.1 c3.2 (by omega));rw[he]at hq;refine UpdR.of hq rfl rfl rfl ?_;rintro _⟨Z3,hz3,rfl⟩;replace hz3:=hz3.trans hz)|(refine Cmp.mk (λh=>?_) (λh=>?_))|(refine Rem.any (by omega) (λr hr he=>?_))|(refine Br.mk (λh=>?_) (λh=>?_))|(exfalso;omega)|fail)
     all_goals exact⟨rfl,_,⟨Z3,hz3,rfl⟩,rfl⟩
    have hr:=zm6 g f X hX i m e (by omega) c1.2 (by omega);rw[he]at hr
    repeat'((conv=>whnf);first|refine Yz ?_|(refine UpdR.of hr rfl rfl rfl ?_;rintro _⟨Z,hz,rfl⟩;have hs1:=IH Z (by rw[hz.length_eq];exact hX);have hl:=hz.length_eq)|(refine Cmp.mk (λh=>?_) (λh=>?_))|(refine Rem.any (by omega) (λr hr he=>?_))|(refine Br.mk (λh=>?_) (λh=>?_))|(exfalso;omega)|fail)
    all_goals exact⟨rfl,_,⟨Z,hz,rfl⟩,rfl⟩
   by_cases c2:a<i/\i<mid
   ·by_cases c3:mid<e/\e<b
    ·have hz:=List.Perm.refl X;have hs1:=IH X hX
     repeat'((conv=>whnf);first|refine Yz ?_|(refine UpdR.of (URM.cast hz (hs1 a i mid (by omega) c2.1 c2.2 (by omega))) rfl rfl rfl ?_;rintro _⟨Z2,hz2,rfl⟩;replace hz2:=hz2.trans hz;have hs3:=IH Z2 (by rw[hz2.length_eq];exact hX);have hl:=hz2.length_eq)|(have hq:=URM.cast hz2 (hs3 mid e b (by omega) c3.1 c3.2 (by omega));rw[he]at hq;refine UpdR.of hq rfl rfl rfl ?_;rintro _⟨Z3,hz3,rfl⟩;replace hz3:=hz3.trans hz2)|(refine Cmp.mk (λh=>?_) (λh=>?_))|(refine Rem.any (by omega) (λr hr he=>?_))|(refine Br.mk (λh=>?_) (λh=>?_))|(exfalso;omega)|fail)
     all_goals exact⟨rfl,_,⟨Z3,hz3,rfl⟩,rfl⟩
    have hz:=List.Perm.refl X;have hs1:=IH X hX
    repeat'((conv=>whnf);first|refine Yz ?_|(refine UpdR.of (URM.cast hz (hs1 a i mid (by omega) c2.1 c2.2 (by omega))) rfl rfl rfl ?_;rintro _⟨Z2,hz2,rfl⟩;replace hz2:=hz2.trans hz;have hs3:=IH Z2 (by rw[hz2.length_eq];exact hX);have hl:=hz2.length_eq)|(refine Cmp.mk (λh=>?_) (λh=>?_))|(refine Rem.any (by omega) (λr hr he=>?_))|(refine Br.mk (λh=>?_) (λh=>?_))|(exfalso;omega)|fail)
    all_goals exact⟨rfl,_,⟨Z2,hz2,rfl⟩,rfl⟩
   by_cases c3:mid<e/\e<b
   ·have hz:=List.Perm.refl X;have hs1:=IH X hX
    repeat'((conv=>whnf);first|refine Yz ?_|(have hq:=URM.cast hz (hs1 mid e b (by omega) c3.1 c3.2 (by omega));rw[he]at hq;refine UpdR.of hq rfl rfl rfl ?_;rintro _⟨Z3,hz3,rfl⟩;replace hz3:=hz3.trans hz)|(refine Cmp.mk (λh=>?_) (λh=>?_))|(refine Rem.any (by omega) (λr hr he=>?_))|(refine Br.mk (λh=>?_) (λh=>?_))|(exfalso;omega)|fail)
    all_goals exact⟨rfl,_,⟨Z3,hz3,rfl⟩,rfl⟩
   have hz:=List.Perm.refl X;have hs1:=IH X hX
   repeat'((conv=>whnf);first|refine Yz ?_|(refine Cmp.mk (λh=>?_) (λh=>?_))|(refine Rem.any (by omega) (λr hr he=>?_))|(refine Br.mk (λh=>?_) (λh=>?_))|(exfalso;omega)|fail)
   all_goals exact⟨rfl,_,⟨X,hz,rfl⟩,rfl⟩
  ·repeat'((conv=>whnf);first|refine Yz ?_|refine Wr.u64b (by omega) ?_|rw[hh]|fail)
   refine zab.to (zab.by (σ:=Nat×Nat) g (λu=>a<=u.1/\u.1<=u.2/\u.2<=m)
    (λu=>[(0,.ref ⟨0,0,0⟩ 0 X.length X.length),(1,I a),(2,I m),(3,I b),(4,yei f),(18,I mid),(19,I ((mid:Int)+m)),(20,I u.1),(21,I u.2),(22,I ((mid:Int)+m-1))]) (λ_=>rwO zac 7 X.length (X.flatMap Mvt.cells)) (λu=>u.2-u.1) ?_ (a,m) ⟨Nat.le_refl _,by dsimp only;omega,Nat.le_refl _⟩) rfl rfl
   rintro⟨i,j⟩⟨k1,k2,k3⟩ih;dsimp only at k1 k2 k3⊢
   by_cases hlt:i<j
   ·have hh2:=ycn i j;have hi1:=ih ((i+j)/2+1,j);have hi2:=ih (i,(i+j)/2);dsimp only at hi1 hi2;have r1:i<=(i+j)/2:=by omega
    have r2:(i+j)/2<j:=by omega
    generalize(i+j)/2=h at*;have hhl:h<X.length:=by omega
    have hpl:mid+m-1-h<X.length:=by omega
    obtain⟨c,hc⟩:=hf X[mid+m-1-h] X[h]
    by_cases hcn:c<0
    ·have hi2:=hi2 ⟨k1,by omega,by omega⟩ (by omega)
     repeat'((conv=>whnf);first|refine Yz ?_|refine Wr.u64b (by omega) ?_|rw[hh2]|refine za2.recN Mvt.cells_length h (by omega) hhl ?_|refine za2.recN Mvt.cells_length (mid+m-1-h) (by omega) hpl ?_|refine zaf.of hc ?_|refine zab.to hi2 rfl rfl|fail)
    have hi1:=hi1 ⟨by omega,by omega,k3⟩ (by omega);rw[show((h+1:Nat):Int)=(h:Int)+1 from by omega]at hi1
    repeat'((conv=>whnf);first|refine Yz ?_|refine Wr.u64b (by omega) ?_|rw[hh2]|refine za2.recN Mvt.cells_length h (by omega) hhl ?_|refine za2.recN Mvt.cells_length (mid+m-1-h) (by omega) hpl ?_|refine zaf.of hc ?_|refine zab.to hi1 rfl rfl|fail)
   clear ih;obtain⟨e,he⟩:∃e:Nat,(e:Int)=(mid:Int)+m-i:=⟨mid+m-i,by omega⟩
   by_cases c1:i<m/\m<e
   ·by_cases c2:a<i/\i<mid
    ·by_cases c3:mid<e/\e<b
     ·have hr:=zm6 g f X hX i m e (by omega) c1.2 (by omega);rw[he]at hr
      repeat'((conv=>whnf);first|refine Yz ?_|(refine UpdR.of hr rfl rfl rfl ?_;rintro _⟨Z,hz,rfl⟩;have hs1:=IH Z (by rw[hz.length_eq];exact hX);have hl:=hz.length_eq)|(refine UpdR.of (URM.cast hz (hs1 a i mid (by omega) c2.1 c2.2 (by omega))) rfl rfl rfl ?_;rintro _⟨Z2,hz2,rfl⟩;replace hz2:=hz2.trans hz;have hs3:=IH Z2 (by rw[hz2.length_eq];exact hX);have hl:=hz2.length_eq)|(have hq:=URM.cast hz2 (hs3 mid e b (by omega) c3.1 c3.2 (by omega));rw[he]at hq;refine UpdR.of hq rfl rfl rfl ?_;rintro _⟨Z3,hz3,rfl⟩;replace hz3:=hz3.trans hz2)|(refine Cmp.mk (λh=>?_) (λh=>?_))|(refine Rem.any (by omega) (λr hr he=>?_))|(refine Br.mk (λh=>?_) (λh=>?_))|(exfalso;omega)|fail)
      all_goals exact⟨rfl,_,⟨Z3,hz3,rfl⟩,rfl⟩
     have hr:=zm6 g f X hX i m e (by omega) c1.2 (by omega);rw[he]at hr
     repeat'((conv=>whnf);first|refine Yz ?_|(refine UpdR.of hr rfl rfl rfl ?_;rintro _⟨Z,hz,rfl⟩;have hs1:=IH Z (by rw[hz.length_eq];exact hX);have hl:=hz.length_eq)|(refine UpdR.of (URM.cast hz (hs1 a i mid (by omega) c2.1 c2.2 (by omega))) rfl rfl rfl ?_;rintro _⟨Z2,hz2,rfl⟩;replace hz2:=hz2.trans hz;have hs3:=IH Z2 (by rw[hz2.length_eq];exact hX);have hl:=hz2.length_eq)|(refine Cmp.mk (λh=>?_) (λh=>?_))|(refine Rem.any (by omega) (λr hr he=>?_))|(refine Br.mk (λh=>?_) (λh=>?_))|(exfalso;omega)|fail)
     all_goals exact⟨rfl,_,⟨Z2,hz2,rfl⟩,rfl⟩
    by_cases c3:mid<e/\e<b
    ·have hr:=zm6 g f X hX i m e (by omega) c1.2 (by omega);rw[he]at hr
     repeat'((conv=>whnf);first|refine Yz ?_|(refine UpdR.of hr rfl rfl rfl ?_;rintro _⟨Z,hz,rfl⟩;have hs1:=IH Z (by rw[hz.length_eq];exact hX);have hl:=hz.length_eq)|(have hq:=URM.cast hz (hs1 mid e b (by omega) c3.1 c3.2 (by omega));rw[he]at hq;refine UpdR.of hq rfl rfl rfl ?_;rintro _⟨Z3,hz3,rfl⟩;replace hz3:=hz3.trans hz)|(refine Cmp.mk (λh=>?_) (λh=>?_))|(refine Rem.any (by omega) (λr hr he=>?_))|(refine Br.mk (λh=>?_) (λh=>?_))|(exfalso;omega)|fail)
     all_goals exact⟨rfl,_,⟨Z3,hz3,rfl⟩,rfl⟩
    have hr:=zm6 g f X hX i m e (by omega) c1.2 (by omega);rw[he]at hr
    repeat'((conv=>whnf);first|refine Yz ?_|(refine UpdR.of hr rfl rfl rfl ?_;rintro _⟨Z,hz,rfl⟩;have hs1:=IH Z (by rw[hz.length_eq];exact hX);have hl:=hz.length_eq)|(refine Cmp.mk (λh=>?_) (λh=>?_))|(refine Rem.any (by omega) (λr hr he=>?_))|(refine Br.mk (λh=>?_) (λh=>?_))|(exfalso;omega)|fail)
    all_goals exact⟨rfl,_,⟨Z,hz,rfl⟩,rfl⟩
   by_cases c2:a<i/\i<mid
   ·by_cases c3:mid<e/\e<b
    ·have hz:=List.Perm.refl X;have hs1:=IH X hX
     repeat'((conv=>whnf);first|refine Yz ?_|(refine UpdR.of (URM.cast hz (hs1 a i mid (by omega) c2.1 c2.2 (by omega))) rfl rfl rfl ?_;rintro _⟨Z2,hz2,rfl⟩;replace hz2:=hz2.trans hz;have hs3:=IH Z2 (by rw[hz2.length_eq];exact hX);have hl:=hz2.length_eq)|(have hq:=URM.cast hz2 (hs3 mid e b (by omega) c3.1 c3.2 (by omega));rw[he]at hq;refine UpdR.of hq rfl rfl rfl ?_;rintro _⟨Z3,hz3,rfl⟩;replace hz3:=hz3.trans hz2)|(refine Cmp.mk (λh=>?_) (λh=>?_))|(refine Rem.any (by omega) (λr hr he=>?_))|(refine Br.mk (λh=>?_) (λh=>?_))|(exfalso;omega)|fail)
     all_goals exact⟨rfl,_,⟨Z3,hz3,rfl⟩,rfl⟩
    have hz:=List.Perm.refl X;have hs1:=IH X hX
    repeat'((conv=>whnf);first|refine Yz ?_|(refine UpdR.of (URM.cast hz (hs1 a i mid (by omega) c2.1 c2.2 (by omega))) rfl rfl rfl ?_;rintro _⟨Z2,hz2,rfl⟩;replace hz2:=hz2.trans hz;have hs3:=IH Z2 (by rw[hz2.length_eq];exact hX);have hl:=hz2.length_eq)|(refine Cmp.mk (λh=>?_) (λh=>?_))|(refine Rem.any (by omega) (λr hr he=>?_))|(refine Br.mk (λh=>?_) (λh=>?_))|(exfalso;omega)|fail)
    all_goals exact⟨rfl,_,⟨Z2,hz2,rfl⟩,rfl⟩
   by_cases c3:mid<e/\e<b
   ·have hz:=List.Perm.refl X;have hs1:=IH X hX
    repeat'((conv=>whnf);first|refine Yz ?_|(have hq:=URM.cast hz (hs1 mid e b (by omega) c3.1 c3.2 (by omega));rw[he]at hq;refine UpdR.of hq rfl rfl rfl ?_;rintro _⟨Z3,hz3,rfl⟩;replace hz3:=hz3.trans hz)|(refine Cmp.mk (λh=>?_) (λh=>?_))|(refine Rem.any (by omega) (λr hr he=>?_))|(refine Br.mk (λh=>?_) (λh=>?_))|(exfalso;omega)|fail)
    all_goals exact⟨rfl,_,⟨Z3,hz3,rfl⟩,rfl⟩
   have hz:=List.Perm.refl X;have hs1:=IH X hX
   repeat'((conv=>whnf);first|refine Yz ?_|(refine Cmp.mk (λh=>?_) (λh=>?_))|(refine Rem.any (by omega) (λr hr he=>?_))|(refine Br.mk (λh=>?_) (λh=>?_))|(exfalso;omega)|fail)
   all_goals exact⟨rfl,_,⟨X,hz,rfl⟩,rfl⟩
theorem yqc{f:Nat}(hf:yxb E f)(X:List Mvt)(hX:X.length<=1000):URM E zcj [I X.length,yei f] X:=by
 refine⟨?_⟩;refine In.enter (f:=zcj) g.lim rfl rfl ?_
 repeat'((conv=>whnf);first|refine Yz ?_|fail)
 refine zab.to (zab.by (σ:=Nat×List Mvt) g (λu=>u.1<=X.length/\u.2.Perm X)
  (λu=>[(0,.ref ⟨0,0,0⟩ 0 X.length X.length),(1,I X.length),(2,yei f),(6,I 20),(7,I u.1),(8,I (u.1+20:Nat))]) (λu=>rwO zac 7 X.length (u.2.flatMap Mvt.cells)) (λu=>X.length+1-u.1) ?_ (0,X) ⟨Nat.zero_le _,List.Perm.refl _⟩) rfl rfl
 rintro⟨a,Y⟩⟨h1,h2⟩ih;dsimp only at h1 h2⊢;have hYl:=h2.length_eq
 by_cases hlt:a+20<=X.length
 ·have hi:=URM.cast h2 (yul g hf Y (by omega) a (a+20) (by omega) (by omega));have ih:=λZ(hz:Z.Perm Y)=>ih (a+20,Z) ⟨by dsimp only;omega,hz.trans h2⟩ (by dsimp only;omega)
  dsimp only at ih;rw[show((a+20+20:Nat):Int)=((a+20:Nat):Int)+20 from by omega]at ih
  repeat'((conv=>whnf);first|refine Yz ?_|(refine UpdR.of hi rfl rfl rfl ?_;rintro _⟨Z,hz,rfl⟩)|refine zab.to (ih Z hz) rfl rfl|fail)
 have hi:=URM.cast h2 (yul g hf Y (by omega) a X.length h1 (by omega));clear ih
 repeat'((conv=>whnf);first|refine Yz ?_|(refine UpdR.of hi rfl rfl rfl ?_;rintro _⟨Z,hz,rfl⟩;replace hz:=hz.trans h2)|fail)
 refine zab.to (zab.by (σ:=Nat×List Mvt) g (λu=>0<u.1/\u.1<=2000/\u.2.Perm X)
  (λu=>[(0,.ref ⟨0,0,0⟩ 0 X.length X.length),(1,I X.length),(2,yei f),(6,I u.1)]) (λu=>rwO zac 7 X.length (u.2.flatMap Mvt.cells)) (λu=>2001-u.1) ?_ (20,Z) ⟨by dsimp only;omega,by dsimp only;omega,hz⟩) rfl rfl
 rintro⟨s,Y⟩⟨k1,k2,k3⟩ih;dsimp only at k1 k2 k3⊢
 by_cases hs:s<X.length
 ·have ih:=λZ(hz:Z.Perm X)=>ih (s*2,Z) ⟨by dsimp only;omega,by dsimp only;omega,hz⟩ (by dsimp only;omega)
  dsimp only at ih;rw[show((s*2:Nat):Int)=(s:Int)*2 from by omega]at ih
  repeat'((conv=>whnf);first|refine Yz ?_|fail)
  refine zab.to (zab.by (σ:=Nat×List Mvt) g (λu=>u.1<=X.length/\u.2.Perm X)
   (λu=>[(0,.ref ⟨0,0,0⟩ 0 X.length X.length),(1,I X.length),(2,yei f),(6,I s),(7,I u.1),(8,I ((u.1:Int)+2*s))]) (λu=>rwO zac 7 X.length (u.2.flatMap Mvt.cells)) (λu=>X.length+1-u.1) ?_ (0,Y) ⟨Nat.zero_le _,k3⟩) (by rw[show((0:Nat):Int)+2*(s:Int)=2*s from by omega];rfl) rfl
  rintro⟨a,Y⟩⟨l1,l2⟩iha;dsimp only at l1 l2⊢;have hYl:=l2.length_eq
  by_cases hab:a+2*s<=X.length
  ·have hi:=URM.cast l2 (yqd g hf (2*s) Y (by omega) a (a+s) (a+2*s) (by omega) (by omega) (by omega) (by omega));rw[show((a+s:Nat):Int)=(a:Int)+s from by omega,show((a+2*s:Nat):Int)=(a:Int)+2*s from by omega]at hi;have iha:=λZ(hz:Z.Perm Y)=>iha (a+2*s,Z) ⟨by dsimp only;omega,hz.trans l2⟩ (by dsimp only;omega)
   dsimp only at iha;rw[show((a+2*s:Nat):Int)=(a:Int)+2*s from by omega]at iha
   repeat'((conv=>whnf);first|refine Yz ?_|(refine UpdR.of hi rfl rfl rfl ?_;rintro _⟨Z,hz,rfl⟩)|refine zab.to (iha Z hz) rfl rfl|fail)
  clear iha
  by_cases hm:a+s<X.length
  ·have hi:=URM.cast l2 (yqd g hf X.length Y (by omega) a (a+s) X.length (by omega) (by omega) hm (by omega));rw[show((a+s:Nat):Int)=(a:Int)+s from by omega]at hi
   repeat'((conv=>whnf);first|refine Yz ?_|(refine UpdR.of hi rfl rfl rfl ?_;rintro _⟨Z,hz,rfl⟩)|refine zab.to (ih Z (hz.trans l2)) rfl rfl|fail)
  have ih:=ih Y l2
  repeat'((conv=>whnf);first|refine Yz ?_|refine zab.to ih rfl rfl|fail)
 ·repeat'((conv=>whnf);first|refine Yz ?_|fail)
  all_goals exact⟨rfl,_,⟨Y,k3,rfl⟩,rfl⟩
theorem ya6{f:Nat}(hf:yxb E f)(X:List Mvt)(hX:X.length<=1000):URM E za6 [yei f] X:=by
 have hi:=yqc g hf X hX;refine⟨?_⟩;refine In.enter (f:=za6) g.lim rfl rfl ?_
 repeat'((conv=>whnf);first|refine Yz ?_|(refine UpdR.of hi rfl rfl rfl ?_;rintro _⟨Z,hz,rfl⟩)|fail)
 all_goals exact⟨rfl,_,⟨Z,hz,rfl⟩,rfl⟩
end
structure ybe(l:List Wsh)(rs:List Alr):Prop where
 len:rs.length=l.length
 nm:∀(i:Nat)(h1:i<rs.length)(h2:i<l.length),rs[i].nm=l[i].r.nm
 gr:∀(i:Nat)(h1:i<rs.length)(h2:i<l.length),rs[i].gr=true->rs[i].mi∈yej l[i]
 no:∀(i:Nat)(h1:i<rs.length),rs[i].gr=false->rs[i].mi=0
def zuj:List Wsh->List Alr->List Mvt
 |w::l,r::q=>(if r.gr=true then zqv w r.mi else [])++zuj l q
 |_,_=>[]
theorem ydd:∀(l:List Wsh)(rs:List Alr)(w:Wsh)(r:Alr),l.length=rs.length->zuj (l++[w]) (rs++[r])=zuj l rs++if r.gr=true then zqv w r.mi else []
 |[],[],w,r,_=>by simp[zuj]
 |_::l,_::rs,w,r,h=>by
  simp only[List.cons_append,zuj,ydd l rs w r (by simpa using h),List.append_assoc]
 |[],_::_,_,_,h=>by simp at h
 |_::_,[],_,_,h=>by simp at h
theorem yde{l:List Wsh}{rs:List Alr}{i:Nat}(h1:i<l.length)(h2:i<rs.length):zuj (l.take (i+1)) (rs.take (i+1))=zuj (l.take i) (rs.take i)++if rs[i].gr=true then zqv l[i] rs[i].mi else []:=by
 rw[List.take_add_one,List.getElem?_eq_getElem h1,List.take_add_one,List.getElem?_eq_getElem h2];exact ydd _ _ _ _ (by simp;omega)
theorem yai{l:List Wsh}(h:z8z l){rs:List Alr}(hf:ybe l rs):∀i,i<=l.length->(zuj (l.take i) (rs.take i)).length<=8*i/\∀x∈zuj (l.take i) (rs.take i),0<=x.mo/\x.mo<=143999999
 |0,_=>by simp[zuj]
 |i+1,hi=>by
  obtain⟨a,b⟩:=yai h hf i (by omega);have hr:i<rs.length:=by have:=hf.len;omega
  rw[yde (by omega) hr]
  by_cases hg:rs[i].gr=true
  ·rw[if_pos hg];have hm:=zre (h.ok.ok _ (List.getElem_mem (by omega))) (hf.gr i hr (by omega) hg);have:=h.mv _ (List.getElem_mem (show i<l.length by omega)) rs[i].mi hm.1 hm.2;refine⟨by rw[List.length_append];omega,λx hx=>?_⟩
   rcases List.mem_append.1 hx with hx|hx
   ·exact b x hx
   exact this.2 x hx
  rw[if_neg hg,List.append_nil];exact⟨by omega,b⟩
theorem zgp.w00{α:Type}{cell:α->List D}{w:Nat}(hw:∀a,(cell a).length=w){l:List α}{i:Int}{K:D->Prop}{d:D}(k:Nat)(hi:i=k)(h:k<l.length)(hj:(cell l[k])[0]?=some d)(hk:K d):zgp (l.flatMap cell) (i.toNat*w+0+0) K:=zgp.rec hw k hi h hj hk
section
variable{E:Oracle}(g:Good E)
include g
theorem ype(i:Nat)(rs:List Alr)(hi:i<rs.length):Fc E ze5 [Unt i,LRs rs] (.tup [.d (.agg [DI rs[i].mi,DI (-1)]),B rs[i].gr]):=by
 refine g.fn rfl rfl ?_
 repeat'((conv=>whnf);first|refine Yz ?_|refine zgp.rec Alr.cells_length i rfl hi rfl ?_|refine Ret.mk rfl|fail)
theorem yyn(cs:List Int)(c:Int)(h:c∈cs)(hl:cs.length<=1000):∃k:Nat,Fc E zho [LI cs,I c] (I k):=by
 obtain⟨k,hk,hkc,hno⟩:∃(k:Nat)(hk:k<cs.length),cs[k]=c/\∀j(hj:j<k),cs[j]'(by omega)≠c:=by
  have hx:cs.findIdx (λx=>decide (x=c))<cs.length:=List.findIdx_lt_length_of_exists ⟨c,h,by simp⟩
  refine⟨_,hx,?_,λj hj=>?_⟩
  ·have:=List.findIdx_getElem (w:=hx);simpa using this
  have:=List.not_of_lt_findIdx hj;simpa using this
 refine⟨k,?_⟩;refine g.fn rfl rfl ?_
 repeat'((conv=>whnf);first|refine Yz ?_|fail)
 refine zab.to (zab.up g (λi=>[(0,LI cs),(1,I c),(7,I cs.length),(8,I i)]) (λ_=>[]) k (λi hi ih=>?_) 0 (Nat.zero_le _)) rfl rfl
 by_cases hik:i<k
 ·have ih:=ih hik;have hn:=hno i hik;have hil:i<cs.length:=by omega
  repeat'((conv=>whnf);first|refine Yz ?_|refine zgp.intI i rfl hil ?_|refine Cmp.ff (Ne.symm hn) ?_|refine zab.to ih rfl rfl|fail)
 obtain rfl:i=k:=by omega
 repeat'((conv=>whnf);first|refine Yz ?_|refine zgp.intI i rfl hk ?_|refine Cmp.tt hkc.symm ?_|refine Ret.mk rfl|fail)
theorem ywa(cs:List Int)(c:Int)(h:c∈cs)(hl:cs.length<=1000):Fc E zf3 [LI cs,I c] (B true):=by
 obtain⟨k,hk⟩:=yyn g cs c h hl;refine g.fn rfl rfl ?_
 repeat'((conv=>whnf);first|refine Yz ?_|refine zaf.of hk ?_|refine Ret.mk rfl|fail)
theorem yym:Fc E zco [.d (.list 3 [DI 0,DI 0,DI 0])] (I 0):=g.compR 1000 (by decide+kernel)
abbrev yzm(l:List Wsh)(rs:List Alr):Mem:=[(⟨0,2,0⟩,.cells zcw [LWi l]),(⟨0,3,0⟩,.cells zb6 [LRs rs]),(⟨0,4,0⟩,.cells z1g [I 0])]
abbrev y0h(rs:List Alr):Ob:=.loop [(2,.ptr ⟨0,2,0⟩ 0 0),(3,.ptr ⟨0,3,0⟩ 0 0),(4,.ptr ⟨0,4,0⟩ 0 0),(9,.undef),(17,LRs rs),(18,I rs.length),(19,I rs.length),(20,B false),(69,.fn zbz [] [.ptr ⟨0,69,0⟩ 0 0])] [70] zj3 zj4 0 false false none
theorem z6v(l:List Wsh)(h:yqj l)(rs:List Alr)(hf:ybe l rs):Fc E zhg [LWi l,LRs rs] (I 0):=by
 refine g.fn rfl rfl ?_;have hlen:=h.len;have hrl:=hf.len
 repeat'((conv=>whnf);first|refine Yz ?_|fail)
 refine zab.to (zab.up g (λi=>[(2,.ptr ⟨0,2,0⟩ 0 0),(3,.ptr ⟨0,3,0⟩ 0 0),(4,.ptr ⟨0,4,0⟩ 0 0),(9,.undef),(17,LRs rs),(18,I rs.length),(19,I i)]) (λ_=>yzm l rs) rs.length (λi hi ih=>?_) 0 (Nat.zero_le _)) rfl rfl
 by_cases hlt:i<rs.length
 ·have ih:=ih hlt;have hli:i<l.length:=by omega
  have hw:=h.ok _ (List.getElem_mem hli);have hnm:=hf.nm i hlt hli;have hcd:=yjs g hw;have w1:=z1b g 8;have w2:=z1b g 30;have w3:=z1b g 19;have w4:=yym g;cases hg:rs[i].gr with
  | true=>
   have hct:=ywa g (yej l[i]) rs[i].mi (hf.gr i hlt hli hg) (by have:=z9i l[i];omega);have hne:¬(rs[i].nm=rs[i].nm/\rs[i].mi=rs[i].mi/\rs[i].gr=false):=λh=>by rw[hg]at h;cases h.2.2
   repeat'((conv=>whnf);first
   | refine Yz ?_
    | (refine zgp.w00 Wsh.cells_length i rfl hli rfl ?_)
    | (refine za2.rec Alr.cells_length i rfl hlt ?_)
    | (refine za2.rec Wsh.cells_length i rfl hli ?_)
    | (rw[hg])
    | (refine Cmp.ff hne ?_)
    | (refine Cmp.tt hnm ?_)
    | (refine zaf.of hcd ?_)
    | (refine zaf.of hct ?_)
    | (refine zaf.of w1 ?_)
    | (refine zaf.of w2 ?_)
    | (refine zaf.of w3 ?_)
    | (refine zaf.of w4 ?_)
    | (refine zab.to ih rfl rfl)
    | fail)
  | false=>
   have hmz:=hf.no i hlt hg
   repeat'((conv=>whnf);first|refine Yz ?_|refine zgp.w00 Wsh.cells_length i rfl hli rfl ?_|refine za2.rec Alr.cells_length i rfl hlt ?_|refine za2.rec Wsh.cells_length i rfl hli ?_|rw[hg]|refine Cmp.tt ⟨rfl,rfl,hg⟩ ?_|refine Cmp.tt ⟨rfl,rfl,rfl⟩ ?_|refine Cmp.tt hnm ?_|refine zaf.of w1 ?_|refine zaf.of w2 ?_|refine zaf.of w3 ?_|refine zaf.of w4 ?_|refine zab.to ih rfl rfl|fail)
 obtain rfl:i=rs.length:=by omega
 clear ih;have h4:=yaq g l h
 repeat'((conv=>whnf);first|refine Yz ?_|refine zd5.of (In.enter (f:=zew) g.lim rfl rfl ?_)|(apply zaf.of;assumption)|(refine⟨(.fn zbz [] [.ptr ⟨0,69,0⟩ 0 0],yzm l rs++[(⟨0,69,0⟩,.cells zsx [LI (List.replicate l.length (-1))])]),rfl,?_⟩)|refine In.enter (f:=zbz) g.lim rfl rfl ?_|fail)
 refine zab.to (zab.up g (λi=>[(0,.yld ⟨0,99,0⟩),(5,LI (List.replicate l.length (-1))),(6,I l.length),(7,I i)]) (λ_=>yzm l rs++[(⟨0,69,0⟩,.cells zsx [LI (List.replicate l.length (-1))]),(⟨0,99,0⟩,y0h rs)]) l.length (λi hi ih=>?_) 0 (Nat.zero_le _)) (by rw[List.length_replicate];rfl) rfl
 by_cases hlt:i<l.length
 ·have hri:i<(List.replicate l.length (-1:Int)).length:=by rw[List.length_replicate];exact hlt
  have ih:=ih hlt
  repeat'((conv=>whnf);first|refine Yz ?_|(refine zgp.intI i rfl hri ?_;rw[List.getElem_replicate])|refine Rnd.enter g.lim ?_|refine zab.to ih rfl rfl|fail)
 obtain rfl:i=l.length:=by omega
 clear ih
 repeat'((conv=>whnf);first|refine Yz ?_|refine Ret.mk rfl|fail)
theorem yv9:yxb E zkw:=by
 intro x y;have h1:=yjr g x.mo y.mo;have h2:=yud g x.ki y.ki;have h3:=yud g x.nm y.nm
 have h4:∀a b c:Int,∃d:Int,Fc E zha [.d (.list 3 [DI a,DI b,DI c])] (I d):=λa b c=>by
  by_cases ha:a=0
  ·subst ha
   by_cases hb:b=0
   ·subst hb
    by_cases hc:c=0
    ·subst hc;exact⟨0,g.compR 1000 (by decide+kernel)⟩
    refine⟨c,?_⟩;refine g.fn rfl rfl ?_
    repeat'((conv=>whnf);first|refine Yz ?_|refine Cmp.tt hc ?_|refine zab.step g.lim ?_|refine Ret.mk rfl|fail)
   refine⟨b,?_⟩;refine g.fn rfl rfl ?_
   repeat'((conv=>whnf);first|refine Yz ?_|refine Cmp.tt hb ?_|refine zab.step g.lim ?_|refine Ret.mk rfl|fail)
  refine⟨a,?_⟩;refine g.fn rfl rfl ?_
  repeat'((conv=>whnf);first|refine Yz ?_|refine Cmp.tt ha ?_|refine zab.step g.lim ?_|refine Ret.mk rfl|fail)
 obtain⟨d,hd⟩:=h4 (ywy x.mo y.mo) (yqp x.ki y.ki) (yqp x.nm y.nm);refine⟨d,?_⟩;refine g.fn rfl rfl ?_
 repeat'((conv=>whnf);first|refine Yz ?_|refine zaf.of h1 ?_|refine zaf.of h2 ?_|refine zaf.of h3 ?_|refine zaf.of hd ?_|refine Ret.mk rfl|fail)
theorem ysw(l:List Wsh)(h:z8z l)(rs:List Alr)(hf:ybe l rs):∃Z:List Mvt,Z.Perm (zuj l rs)/\Fc E zfb [LWi l,LRs rs] (LMv Z):=by
 have hlen:=h.ok.len;have hrl:=hf.len;have hfew:=yai h hf;have hX:=(hfew l.length (Nat.le_refl _)).1;rw[List.take_length,<-hrl,List.take_length]at hX;have hstb:=ya6 g (yv9 g) (zuj l rs) (by omega)
 obtain⟨v,m1,h1,h2⟩:∃v m1,E (.call 0 zfb [LWi l,LRs rs] [])=some (.val v m1)/\∃Z:List Mvt,Z.Perm (zuj l rs)/\v=.ref ⟨0,5,0⟩ 0 (zuj l rs).length (zuj l rs).length/\Evl.look m1 ⟨0,5,0⟩=some (.row true zac 7 (zuj l rs).length (Z.flatMap Mvt.cells)):=by
  refine In.got (E:=E) (lv:=0) (f:=zfb) (args:=[LWi l,LRs rs]) (m:=[]) (K:=λv m1=>∃Z:List Mvt,Z.Perm (zuj l rs)/\v=.ref ⟨0,5,0⟩ 0 (zuj l rs).length (zuj l rs).length/\Evl.look m1 ⟨0,5,0⟩=some (.row true zac 7 (zuj l rs).length (Z.flatMap Mvt.cells))) ?_;refine In.enter (f:=zfb) g.lim rfl rfl ?_
  repeat'((conv=>whnf);first|refine Yz ?_|fail)
  refine zab.to (zab.up g (λi=>[(0,LWi l),(5,.ref ⟨0,5,0⟩ 0 (zuj (l.take i) (rs.take i)).length (zuj (l.take i) (rs.take i)).length),(8,LRs rs),(9,I rs.length),(10,I i)]) (λi=>[(⟨0,4,0⟩,.row true zac 7 0 []),(⟨0,5,0⟩,.row true zac 7 (zuj (l.take i) (rs.take i)).length ((zuj (l.take i) (rs.take i)).flatMap Mvt.cells))]) rs.length (λi hi ih=>?_) 0 (Nat.zero_le _)) rfl rfl
  by_cases hlt:i<rs.length
  ·have ih:=ih hlt;have hli:i<l.length:=by omega
   rw[yde hli hlt]at ih;have hw:=h.ok.ok _ (List.getElem_mem hli);have hfw:=(hfew i (by omega)).1;cases hg:rs[i].gr with
   | true=>
    have hmr:=zre hw (hf.gr i hlt hli hg);have hat:Fc E zf8 [Wsv l[i],I rs[i].mi] (LMv (zqv l[i] rs[i].mi)):=yyp g l[i] rs[i].mi hw.rc hmr;have hm8:=(h.mv _ (List.getElem_mem hli) rs[i].mi hmr.1 hmr.2).1;rw[if_pos hg]at ih;have hfl:=λ_:Unit=>zae Mvt.cells 7 Mvt.cells_length (zqv l[i] rs[i].mi)
    generalize zuj (l.take i) (rs.take i)=A at*;generalize zqv l[i] rs[i].mi=B at*;rw[List.length_append,List.flatMap_append]at ih
    repeat'((conv=>whnf);first
    | refine Yz ?_
     | (refine za2.rec Alr.cells_length i rfl hlt ?_)
     | (refine za2.rec Wsh.cells_length i rfl hli ?_)
     | (rw[hg])
     | (refine zaf.of hat ?_)
     | (refine zem.mk ⟨rfl,rfl,rfl,rfl,rfl,hfl (),by show(A.length+B.length)*80<=_;omega,by omega⟩ ?_)
     | (refine zab.to ih rfl rfl)
     | fail)
   | false=>
    rw[if_neg (by rw[hg];decide),List.append_nil]at ih;generalize zuj (l.take i) (rs.take i)=A at*
    repeat'((conv=>whnf);first|refine Yz ?_|refine za2.rec Alr.cells_length i rfl hlt ?_|rw[hg]|refine zab.to ih rfl rfl|fail)
  obtain rfl:i=rs.length:=by omega
  clear ih;rw[List.take_length,hrl,List.take_length]
  repeat'((conv=>whnf);first|refine Yz ?_|(refine UpdR.of hstb rfl rfl rfl ?_;rintro _⟨Z,hz,rfl⟩)|fail)
  exact⟨Z,hz,rfl,rfl⟩
 obtain⟨Z,hz,rfl,h4⟩:=h2;refine⟨Z,hz,_,m1,h1,?_⟩;have:=hz.length_eq;simp[thaw,Go.Evl.freeze,h4,this]
end
end Go.Proofs.YtkflcbhclegghaaGreatDoor.Co
