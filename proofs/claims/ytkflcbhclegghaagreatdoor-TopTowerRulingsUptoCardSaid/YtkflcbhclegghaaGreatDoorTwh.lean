/-
  TopTowerRulings: what its law leans on, part 8.
-/
import Derived.Laws.RangeAny
import Derived.Lib.SplitLaws
import Derived.Test.YtkflcbhclegghaaGreatDoorEvX
import Derived.Test.YtkflcbhclegghaaGreatDoorEvY
import Derived.Test.YtkflcbhclegghaaGreatDoorRead
import Derived.Test.YtkflcbhclegghaaGreatDoorSpBase
import Derived.Test.YtkflcbhclegghaaGreatDoorTwg
namespace Go.Proofs.YtkflcbhclegghaaGreatDoor.Co
open Go Go.Evl
set_option maxHeartbeats 32000000
set_option maxRecDepth 100000
def chF:Nat->List Ent->Ent->List Ent
 |0,_,x=>[x]
 |n+1,es,x=>if h:0<=zph es x.bs/\(zph es x.bs).toNat<es.length then x::chF n es es[(zph es x.bs).toNat]else [x]
def yxa(es:List Ent):Prop:=∀k,(hk:k<es.length)->zph es es[k].bs<k
theorem zg1(es:List Ent)(nm:List UInt8):(zph es nm=-1/\∀j,(hj:j<es.length)->es[j].nm≠nm)\/∃k,∃hk:k<es.length,zph es nm=k/\es[k].nm=nm/\∀j,(hj:j<k)->(es[j]'(by omega)).nm≠nm:=by
 rcases z7p (λx:Ent=>decide (x.nm=nm)) es with⟨h1,h2⟩|⟨k,hk,h1,h2,h3⟩
 ·exact .inl ⟨h1,λj hj=>of_decide_eq_false (h2 j hj)⟩
 exact .inr ⟨k,hk,h1,of_decide_eq_true h2,λj hj=>of_decide_eq_false (h3 j hj)⟩
theorem z7e(cs:List Cpl)(nm:List UInt8):ye9 cs nm=-1\/∃k,∃hk:k<cs.length,ye9 cs nm=k/\cs[k].nm=nm:=by
 rcases z7p (λx:Cpl=>decide (x.nm=nm)) cs with⟨h1,_⟩|⟨k,hk,h1,h2,_⟩
 ·exact .inl h1
 exact .inr ⟨k,hk,h1,of_decide_eq_true h2⟩
theorem zyk{es:List Ent}(hb:yxa es):∀(n k:Nat),k<=n->(hk:k<es.length)->Ch es k (chF n es es[k])
 |0,k,hn,hk=>by
  obtain rfl:k=0:=by omega
  have h:=hb 0 hk
  rcases zg1 es es[0].bs with⟨h1,_⟩|⟨j,_,h1,_⟩
  ·exact .stop 0 hk h1
  omega
 |n+1,k,hn,hk=>by
  have h:=hb k hk
  rcases zg1 es es[k].bs with⟨h1,_⟩|⟨j,hj,h1,_⟩
  ·unfold chF;rw[dif_neg (by omega)];exact .stop k hk h1
  have e:(zph es es[k].bs).toNat=j:=by omega
  unfold chF;rw[dif_pos ⟨by omega,by omega⟩];simp only[e];exact .step k j _ hk h1 (zyk hb n j (by omega) hj)
theorem ye3(es:List Ent):∀(n:Nat)(x:Ent),(chF n es x).length<=n+1
 |0,x=>by simp[chF]
 |n+1,x=>by
  unfold chF
  split
  ·have:=ye3 es n es[(zph es x.bs).toNat];simp only[List.length_cons];omega
  simp
theorem Ch.det{es:List Ent}{k:Nat}{a b:List Ent}(ha:Ch es k a)(hb:Ch es k b):a=b:=by
 induction ha generalizing b with
 |stop k hk h=>
  cases hb with
  |stop _ _ _=>rfl
  |step _ j _ _ h' _=>rw[h]at h';omega
 |step k j tl hk h ht ih=>
  cases hb with
  |stop _ _ h'=>rw[h]at h';omega
  |step _ j' tl' _ h' ht'=>
   rw[h]at h';obtain rfl:j=j':=by omega
   rw[ih ht']
def zw6(r:Rgs)(x:Ent)(kn:Int):Bool:=decide (x.kn<=kn)&& !(chF r.es.length r.es x).any λy=>z8l r.rs y.nm kn
structure OkR(r:Rgs):Prop where
 bs:∀k,(hk:k<r.es.length)->r.es[k].bs=[]\/∃j:Nat,j<k/\zph r.es r.es[k].bs=j
 nm:∀x∈r.es,x.nm≠[]
 asc:r.es.Pairwise λa b=>a.kn<=b.kn
 top:∀x∈r.es,x.kn<=r.kn
 mi:∀x∈r.es,0<=x.mi/\x.mi<=1440
 es:r.es.length<=256
 rs:r.rs.length<=1000
 cs:r.cs.length<=64
theorem yff{es:List Ent}(h:∀x∈es,x.nm≠[]):zph es []=-1:=by
 rcases zg1 es []with⟨h1,_⟩|⟨j,hj,_,h2,_⟩
 ·exact h1
 exact absurd h2 (h _ (List.getElem_mem hj))
theorem OkR.bases{r:Rgs}(h:OkR r):yxa r.es:=by
 intro k hk
 rcases h.bs k hk with e|⟨j,hj,e⟩
 ·rw[e,yff h.nm];omega
 omega
theorem OkR.le{r:Rgs}(h:OkR r){i j:Nat}(hij:i<=j)(hj:j<r.es.length):(r.es[i]'(by omega)).kn<=r.es[j].kn:=by
 by_cases e:i=j
 ·subst e;exact Int.le_refl _
 exact List.pairwise_iff_getElem.1 h.asc i j (by omega) hj (by omega)
theorem yrd{r:Rgs}(ho:OkR r){k:Nat}(hk:k<r.es.length)(h:r.es[k].bs=[])(kn:Int):zw6 r r.es[k] kn=(decide (r.es[k].kn<=kn)&& !z8l r.rs r.es[k].nm kn):=by
 have h1:=zyk ho.bases r.es.length k (by omega) hk;have h2:Ch r.es k [r.es[k]]:=.stop k hk (by rw[h];exact yff ho.nm);unfold zw6;rw[h1.det h2];simp
theorem yrc{r:Rgs}(ho:OkR r){k j:Nat}(hk:k<r.es.length)(hj:j<k)(h:zph r.es r.es[k].bs=j)(kn:Int):zw6 r r.es[k] kn=(decide (r.es[k].kn<=kn)&& !z8l r.rs r.es[k].nm kn&&zw6 r (r.es[j]'(by omega)) kn):=by
 have hjl:j<r.es.length:=by omega
 have h1:=zyk ho.bases r.es.length k (by omega) hk;have h3:=zyk ho.bases r.es.length j (by omega) hjl;have h2:Ch r.es k (r.es[k]::chF r.es.length r.es r.es[j]):=.step k j _ hk h h3;unfold zw6;rw[h1.det h2];have:=ho.le (Nat.le_of_lt hj) hk;simp only[List.any_cons,Bool.not_or]
 by_cases hkn:r.es[k].kn<=kn
 ·have e:decide (r.es[j].kn<=kn)=true:=decide_eq_true (by omega);rw[decide_eq_true hkn,e];simp
 rw[decide_eq_false hkn];simp
def yxl:Ent:=⟨[],[],[],[],0,0,0,0⟩
def ywz:Cpl:=⟨[],[],0,false,false⟩
def zv6(r:Rgs)(nm:List UInt8)(kn:Int):Int:=if zph r.es nm<0 then 10 else if zw6 r (r.es.getD (zph r.es nm).toNat yxl) kn then 0 else 20
theorem yc7{r:Rgs}{nm:List UInt8}(h:zph r.es nm=-1)(kn:Int):zv6 r nm kn=10:=by
 unfold zv6;rw[h,if_pos (by decide)]
theorem z40{r:Rgs}{nm:List UInt8}{k:Nat}(hk:k<r.es.length)(h:zph r.es nm=k)(kn:Int):zv6 r nm kn=if zw6 r r.es[k] kn then 0 else 20:=by
 unfold zv6;rw[h,if_neg (by omega),Int.toNat_natCast];have:r.es.getD k yxl=r.es[k]:=by simp[List.getD,hk]
 rw[this]
def yw4(r:Rgs)(nm:List UInt8):Int:=zar [if 0<=zph r.es nm then 9 else 0,if 256<=r.es.length then 5 else 0]
def zv8(r:Rgs)(fol:Bool)(nm b:List UInt8)(kn f t m:Int):Int:=
 if yw4 r nm≠0 then yw4 r nm
 else if fol=true/\zv6 r b kn≠0 then zv6 r b kn
 else zar [if 99999<f\/99999<t\/1440<m then 3 else 0,if t<f then 11 else 0]
def ybm(r:Rgs)(nm:List UInt8)(kn:Int):Int:=if zph r.es nm<0 then 10 else zar [if(r.es.getD (zph r.es nm).toNat yxl).kd=zue then 0 else 13,zv6 r nm kn]
def yhs(r:Rgs)(nm en:List UInt8)(kn:Int):Int:=zar [if 0<=ye9 r.cs nm then 9 else 0,if 64<=r.cs.length then 5 else 0,zv6 r en kn]
def ybk(r:Rgs)(nm:List UInt8)(v:Int):Int:=if ye9 r.cs nm<0 then 10 else zar [if(r.cs.getD (ye9 r.cs nm).toNat ywz).cl then 20 else 0,if 1<v then 3 else 0]
def nmN(e:Evt)(i:Nat):List UInt8:=e.ns.getD i []
def vlN(e:Evt)(i:Nat):Int:=e.vs.getD i 0
def yk3(k:List UInt8):Bool:=decide (k=zp0)||decide (k=zue)||decide (k=zdg)
def yeh(r:Rgs)(e:Evt):Int:=
 if yk3 e.ki then zv8 r (decide (e.ki=zdg)) (nmN e 0) (nmN e 2) (vlN e 0) (vlN e 1) (vlN e 2) (vlN e 3)
 else if e.ki=zeo then ybm r (nmN e 0) (vlN e 0)
 else if e.ki=zd9 then yhs r (nmN e 0) (nmN e 1) (vlN e 0)
 else ybk r (nmN e 0) (vlN e 1)
def yqm(r:Rgs)(n:Nat)(e:Evt):Int:=zar [if e.nu=n+1 then 0 else 11,if vlN e 0<r.kn then 19 else 0,if 99999<vlN e 0 then 3 else 0]
def ymf(r:Rgs)(n:Nat)(e:Evt):Int:=if yqm r n e≠0 then yqm r n e else yeh r e
def yrf(e:Evt):Ent:=⟨nmN e 0,e.ki,nmN e 1,if e.ki=zdg then nmN e 2 else [],vlN e 0,vlN e 1,vlN e 2,vlN e 3⟩
def ya9(r:Rgs)(e:Evt):Rgs:=
 if yk3 e.ki then{r with kn:=vlN e 0,es:=r.es++[yrf e]}
 else if e.ki=zeo then{r with kn:=vlN e 0,rs:=r.rs++[⟨nmN e 0,vlN e 0⟩]}
 else if e.ki=zd9 then{r with kn:=vlN e 0,cs:=r.cs++[⟨nmN e 0,nmN e 1,vlN e 0,false,false⟩]}
 else
  let c:=r.cs.getD (ye9 r.cs (nmN e 0)).toNat ywz
  {r with kn:=vlN e 0,cs:=r.cs.set (ye9 r.cs (nmN e 0)).toNat {c with cl:=true,up:=decide (vlN e 1=1)},rs:=if vlN e 1=1 then r.rs++[⟨c.en,vlN e 0⟩]else r.rs}
def zpf(r:Rgs)(n:Nat)(e:Evt):Int:=if ye4 e≠0 then ye4 e else ymf r n e
def rg0:Rgs:=⟨0,[],[],[]⟩
def zj2:Rgs->Nat->List Evt->Rgs×Nat×Int
 |r,_,[]=>(r,0,0)
 |r,n,e::l=>if zpf r n e≠0 then(rg0,n+1,zpf r n e)else zj2 (ya9 r e) (n+1) l
theorem ym6{e:Evt}(h:ye4 e=0):z4n e.ki=true/\e.ns.length=yck e.ki/\e.vs.length=yfm e.ki/\(∀s∈e.ns,zcd s=true)/\(∀v∈e.vs,0<=v/\v<=999999999)/\e.tx=[]/\1<=e.nu/\e.nu<=1000:=by
 unfold ye4 at h;rw[zb2]at h;have h1:=h (rng e.nu 1 1000) (by simp);have h2:=h (if !z4n e.ki then 13 else 0) (by simp);have h3:=h (if e.ns.length≠yck e.ki\/e.vs.length≠yfm e.ki then 2 else 0) (by simp);have h4:=h (if zp4 e.ns then 8 else 0) (by simp);have h5:=h (if far e.vs then 3 else 0) (by simp);have h6:=h (if e.tx≠[]then 1 else 0) (by simp)
 refine⟨?_,?_,?_,?_,?_,?_,?_⟩
 ·cases hk:z4n e.ki
  ·rw[hk]at h2;simp at h2
  rfl
 ·exact Decidable.byContradiction λhn=>by rw[if_pos (.inl hn)]at h3;omega
 ·exact Decidable.byContradiction λhn=>by rw[if_pos (.inr hn)]at h3;omega
 ·intro s hs;have:zp4 e.ns=false:=by cases hh:zp4 e.ns with|false=>rfl|true=>rw[hh]at h4;simp at h4
  unfold zp4 at this;rw[List.any_eq_false]at this;have:=this s hs;simpa using this
 ·intro v hv;have:far e.vs=false:=by cases hh:far e.vs with|false=>rfl|true=>rw[hh]at h5;simp at h5
  unfold far at this;rw[List.any_eq_false]at this;have:=this v hv;simp only[yw0,decide_eq_true_eq]at this;omega
 ·exact Decidable.byContradiction λhn=>by rw[if_pos hn]at h6;omega
 unfold rng at h1
 split at h1
 ·omega
 omega
theorem ytr{r:Rgs}{n:Nat}{e:Evt}(h:ymf r n e=0):e.nu=n+1/\r.kn<=vlN e 0/\vlN e 0<=99999/\yeh r e=0:=by
 unfold ymf at h
 split at h
 ·rename_i h1;exact absurd h h1
 rename_i h1;have h1:=Decidable.byContradiction h1;rw[yqm,zb2]at h1;have a:=h1 (if e.nu=n+1 then 0 else 11) (by simp);have b:=h1 (if vlN e 0<r.kn then 19 else 0) (by simp);have c:=h1 (if 99999<vlN e 0 then 3 else 0) (by simp)
 refine⟨?_,?_,?_,h⟩
 ·exact Decidable.byContradiction λhn=>by rw[if_neg hn]at a;omega
 ·exact Int.not_lt.1 λhn=>by rw[if_pos hn]at b;omega
 exact Int.not_lt.1 λhn=>by rw[if_pos hn]at c;omega
theorem yp5{r:Rgs}{n:Nat}{e:Evt}(h:zpf r n e=0):ye4 e=0/\ymf r n e=0:=by
 unfold zpf at h
 split at h
 ·rename_i h1;exact absurd h h1
 rename_i h1;exact⟨Decidable.byContradiction h1,h⟩
theorem ybl{r:Rgs}{fol:Bool}{nm b:List UInt8}{kn f t m:Int}(h:zv8 r fol nm b kn f t m=0):
  zph r.es nm=-1/\r.es.length<256/\(fol=true->zv6 r b kn=0)/\f<=99999/\t<=99999/\m<=1440/\f<=t:=by
 unfold zv8 at h
 split at h
 ·rename_i h1;exact absurd h h1
 rename_i h1;have h1:=Decidable.byContradiction h1;rw[yw4,zb2]at h1;have a:=h1 (if 0<=zph r.es nm then 9 else 0) (by simp);have b':=h1 (if 256<=r.es.length then 5 else 0) (by simp)
 split at h
 ·rename_i h2;exact absurd h h2.2
 rename_i h2;rw[zb2]at h;have c:=h (if 99999<f\/99999<t\/1440<m then 3 else 0) (by simp);have d:=h (if t<f then 11 else 0) (by simp)
 refine⟨?_,?_,?_,?_⟩
 ·rcases zg1 r.es nm with⟨e,_⟩|⟨k,_,e,_⟩
  ·exact e
  rw[if_pos (by omega)]at a;omega
 ·exact Nat.lt_of_not_le λhn=>by rw[if_pos hn]at b';omega
 ·intro hf;exact Decidable.byContradiction λhn=>h2 ⟨hf,hn⟩
 by_cases hc:99999<f\/99999<t\/1440<m
 ·rw[if_pos hc]at c;omega
 by_cases hd:t<f
 ·rw[if_pos hd]at d;omega
 omega
theorem yh5{es:List Ent}{x:Ent}{nm:List UInt8}{k:Nat}(h:zph es nm=k):zph (es++[x]) nm=k:=by
 rcases zg1 es nm with⟨e,_⟩|⟨j,hj,e,h2,h3⟩
 ·omega
 obtain rfl:j=k:=by omega
 refine z0k (p:=λx:Ent=>decide (x.nm=nm)) (by rw[List.length_append];omega) ?_ ?_
 ·rw[List.getElem_append_left hj];exact decide_eq_true h2
 intro i hi;rw[List.getElem_append_left (by omega)];exact decide_eq_false (h3 i hi)
theorem yvo{s:List UInt8}(h:zcd s=true):s≠[]:=by
 rintro rfl;exact absurd (of_decide_eq_true h).1 (by decide)
theorem yxz{e:Evt}(h:∀s∈e.ns,zcd s=true){i:Nat}(hi:i<e.ns.length):zcd (nmN e i)=true:=by
 unfold nmN;rw[List.getD_eq_getElem?_getD,List.getElem?_eq_getElem hi];exact h _ (List.getElem_mem hi)
theorem yyz{e:Evt}(h:∀v∈e.vs,0<=v/\v<=999999999)(i:Nat):0<=vlN e i/\vlN e i<=999999999:=by
 unfold vlN;rw[List.getD_eq_getElem?_getD]
 by_cases hi:i<e.vs.length
 ·rw[List.getElem?_eq_getElem hi];exact h _ (List.getElem_mem hi)
 rw[List.getElem?_eq_none (by omega)];exact⟨Int.le_refl _,by decide⟩
theorem yk4{k:List UInt8}(h:yk3 k=true):yfm k=4/\2<=yck k/\(k=zdg->yck k=3):=by
 simp only[yk3,Bool.or_eq_true,decide_eq_true_eq]at h;rcases h with(rfl|rfl)|rfl<;>decide
theorem yvy{r:Rgs}{b:List UInt8}{kn:Int}(h:zv6 r b kn=0):∃j,∃hj:j<r.es.length,zph r.es b=(j:Nat)/\zw6 r r.es[j] kn=true:=by
 rcases zg1 r.es b with⟨e,_⟩|⟨j,hj,e,_⟩
 ·rw[yc7 e]at h;omega
 rw[z40 hj e]at h;refine⟨j,hj,e,?_⟩;cases hc:zw6 r r.es[j] kn with
 |true=>rfl
 |false=>rw[hc]at h;simp at h
theorem yt2{r:Rgs}(ho:OkR r){n:Nat}{e:Evt}(h:zpf r n e=0)(hr:r.rs.length<1000):OkR (ya9 r e):=by
 obtain⟨h1,h2⟩:=yp5 h;obtain⟨a1,a2,a3,a4,a5,_⟩:=ym6 h1;obtain⟨b1,b2,b3,b4⟩:=ytr h2;unfold yeh at b4;unfold ya9
 split at b4
 ·rename_i hk;rw[if_pos hk];obtain⟨f1,f2,f3⟩:=yk4 hk;obtain⟨c1,c2,c3,c4,c5,c6,c7⟩:=ybl b4;have hkn:(yrf e).kn=vlN e 0:=rfl
  refine⟨?_,?_,?_,?_,?_,?_,ho.rs,ho.cs⟩
  ·intro k hk';dsimp only at hk'⊢;rw[List.length_append,List.length_singleton]at hk'
   by_cases hl:k<r.es.length
   ·rw[List.getElem_append_left hl]
    rcases ho.bs k hl with e1|⟨j,hj,e1⟩
    ·exact .inl e1
    exact .inr ⟨j,hj,yh5 e1⟩
   obtain rfl:k=r.es.length:=by omega
   simp only[List.getElem_concat_length]
   by_cases hf:e.ki=zdg
   ·right;obtain⟨j,hj,e1,_⟩:=yvy (c3 (decide_eq_true hf));refine⟨j,hj,?_⟩;have:(yrf e).bs=nmN e 2:=if_pos hf;rw[this];exact yh5 e1
   exact .inl (if_neg hf)
  ·intro x hx
   rcases List.mem_append.1 hx with hx|hx
   ·exact ho.nm x hx
   rw[List.mem_singleton]at hx;subst hx;exact yvo (yxz a4 (by omega))
  ·rw[List.pairwise_append];refine⟨ho.asc,List.pairwise_singleton _ _,λa ha b hb=>?_⟩;rw[List.mem_singleton]at hb;subst hb;have:=ho.top a ha;omega
  ·intro x hx
   rcases List.mem_append.1 hx with hx|hx
   ·have:=ho.top x hx;dsimp only;omega
   rw[List.mem_singleton]at hx;subst hx;exact Int.le_refl _
  ·intro x hx
   rcases List.mem_append.1 hx with hx|hx
   ·exact ho.mi x hx
   rw[List.mem_singleton]at hx;subst hx;exact⟨(yyz a5 3).1,c6⟩
  dsimp only;rw[List.length_append,List.length_singleton];omega
 rename_i hk;rw[if_neg hk];have htop:∀x∈r.es,x.kn<=vlN e 0:=λx hx=>Int.le_trans (ho.top x hx) b2
 split at b4
 ·rename_i hk2;rw[if_pos hk2];exact⟨ho.bs,ho.nm,ho.asc,htop,ho.mi,ho.es,by dsimp only;rw[List.length_append,List.length_singleton];omega,ho.cs⟩
 rename_i hk2;rw[if_neg hk2]
 split at b4
 ·rename_i hk3;rw[if_pos hk3];refine⟨ho.bs,ho.nm,ho.asc,htop,ho.mi,ho.es,ho.rs,?_⟩;dsimp only;rw[List.length_append,List.length_singleton];unfold yhs at b4;rw[zb2]at b4;have:=b4 (if 64<=r.cs.length then 5 else 0) (by simp)
  by_cases hc:64<=r.cs.length
  ·rw[if_pos hc]at this;omega
  omega
 rename_i hk3;rw[if_neg hk3]
 refine⟨ho.bs,ho.nm,ho.asc,htop,ho.mi,ho.es,?_,?_⟩
 ·dsimp only
  split
  ·rw[List.length_append,List.length_singleton];omega
  exact ho.rs
 dsimp only;rw[List.length_set];exact ho.cs
theorem yts(r:Rgs)(e:Evt):(ya9 r e).rs.length<=r.rs.length+1:=by
 unfold ya9
 split
 ·simp
 split
 ·simp
 split
 ·simp
 dsimp only;split<;>simp
theorem yt3:OkR rg0:=⟨λk hk=>absurd hk (Nat.not_lt_zero _),by simp[rg0],List.Pairwise.nil,by simp[rg0],by simp[rg0],by simp[rg0],by simp[rg0],by simp[rg0]⟩
theorem yjl:∀(l:List Evt)(r:Rgs)(n:Nat),OkR r->r.rs.length<=n->n+l.length<=1000->(zj2 r n l).2.2=0->OkR (zj2 r n l).1
 |[],r,n,ho,_,_,_=>ho
 |e::l,r,n,ho,hr,hl,h=>by
  rw[List.length_cons]at hl;unfold zj2 at h⊢
  split at h
  ·rename_i h1;exact absurd h h1
  rename_i h1;rw[if_neg h1];have:=yts r e;exact yjl l (ya9 r e) (n+1) (yt2 ho (Decidable.byContradiction h1) (by omega)) (by omega) (by omega) h
theorem zvb(r:Rgs)(n:Nat)(e:Evt)(l:List Evt):zj2 r n (e::l)=if zpf r n e≠0 then(rg0,n+1,zpf r n e)else zj2 (ya9 r e) (n+1) l:=rfl
theorem ydi:∀(l:List Evt)(r:Rgs)(n:Nat)(m:List Evt),zj2 r n (l++m)=if(zj2 r n l).2.2≠0 then zj2 r n l else zj2 (zj2 r n l).1 (n+l.length) m
 |[],r,n,m=>by simp[zj2]
 |e::l,r,n,m=>by
  rw[List.cons_append,zvb,zvb]
  by_cases h:zpf r n e≠0
  ·rw[if_pos h,if_pos h];exact(if_pos h).symm
  rw[if_neg h,if_neg h,ydi l,List.length_cons,show n+(l.length+1)=n+1+l.length by omega]
section
variable{E:Oracle}(g:Good E)
include g
theorem yx6(t:Nat)(ev:List Evt)(r:Rgs)(ho:OkR r)(kn:Int)(k:Nat)(hk:k<r.es.length):Qs E zca [.ptr ⟨0,0,0⟩ 1 0,yy3 r.es[k],I kn] (mR t ev r) (B (zw6 r r.es[k] kn)):=by
 have h1:=ye3 r.es r.es.length r.es[k];have h2:=ho.es;exact ysc g t ev r kn (by have:=ho.rs;omega) (by omega) k hk _ (zyk ho.bases r.es.length k (by omega) hk) (by omega)
theorem yor(t:Nat)(ev:List Evt)(r:Rgs)(ho:OkR r)(nm:List UInt8)(kn:Int):Qs E zdf [.ptr ⟨0,0,0⟩ 1 0,S nm,I kn] (mR t ev r) (I (zv6 r nm kn)):=by
 refine⟨?_⟩;have hes:=ho.es;have hml:(r.es.flatMap Ent.cells).length=r.es.length*8:=zae Ent.cells 8 zwb r.es;have hq:=z0t g t ev r nm (by omega);refine In.enter (f:=zdf) g.lim rfl rfl ?_
 rcases zg1 r.es nm with⟨h,_⟩|⟨k,hk,h,hnm,_⟩
 ·rw[yc7 h];rw[h,yfd,if_neg (by decide)]at hq
  repeat'((conv=>whnf);first|refine Yz ?_|refine znw.of (r':=.d .nilp) isR rfl rfl rfl rfl hq rfl rfl rfl ?_|(exact⟨rfl,rfl,rfl,rfl,rfl,rfl,trivial⟩)|fail)
 rw[z40 hk h];rw[h,yfd,if_pos (by omega)]at hq;have hc:=yx6 g t ev r ho kn k hk
 have hwin:win (r.es.flatMap Ent.cells) ((0+((k:Nat):Int).toNat)*8) 8=r.es[k].cells:=by
  rw[Nat.zero_add,Int.toNat_natCast];exact zei Ent.cells 8 zwb r.es k hk
 cases hb:zw6 r r.es[k] kn with
 | true=>
  rw[hb]at hc;have hw:Fc E zas [B false,I 20] (I 0):=z0u g false 20
  repeat'((conv=>whnf);first
  | refine Yz ?_
   | (refine znw.of (r':=.ptr ⟨0,0,2⟩ ((0+((k:Nat):Int).toNat)*8) r.es.length) isR rfl rfl rfl rfl hq rfl rfl rfl ?_)
   | (rw[hwin];refine znw.of (r':=B true) isR rfl rfl rfl rfl hc rfl rfl rfl ?_)
   | (apply zaf.of;assumption)
   | (exact⟨rfl,rfl,rfl,rfl,rfl,rfl,trivial⟩)
   | fail)
 | false=>
  rw[hb]at hc;have hw:Fc E zas [B true,I 20] (I 20):=z0u g true 20
  repeat'((conv=>whnf);first|refine Yz ?_|refine znw.of (r':=.ptr ⟨0,0,2⟩ ((0+((k:Nat):Int).toNat)*8) r.es.length) isR rfl rfl rfl rfl hq rfl rfl rfl ?_|(rw[hwin];refine znw.of (r':=B false) isR rfl rfl rfl rfl hc rfl rfl rfl ?_)|(apply zaf.of;assumption)|(exact⟨rfl,rfl,rfl,rfl,rfl,rfl,trivial⟩)|fail)
theorem zl5(b:Bool)(e:Int):Fc E zas [B b,I e] (I (if b then e else 0)):=z0u g b e
theorem zmo(a b:Int):Fc E zbj [.d (.list 2 [DI a,DI b])] (I (zar [a,b])):=z2u g [a,b] (by simp)
theorem zoc(a b c:Int):Fc E zbj [.d (.list 3 [DI a,DI b,DI c])] (I (zar [a,b,c])):=z2u g [a,b,c] (by simp)
theorem ygl(t:Nat)(ev:List Evt)(r:Rgs)(ho:OkR r)(nu:Int)(ki:List UInt8)(a s:List UInt8)(more:List (List UInt8))(b:List UInt8)(kn f u m:Int)(tx:List UInt8)(hb:ki=zdg->more=[b]):
  Qs E za0 [.ptr ⟨0,0,0⟩ 1 0,Evv ⟨nu,ki,a::s::more,[kn,f,u,m],tx⟩] (mR t ev r) (I (zv8 r (decide (ki=zdg)) a b kn f u m)):=by
 refine⟨?_⟩;have hes:=ho.es;have hq:=z0t g t ev r a (by omega);have hov:=yor g t ev r ho b kn;change In E 1 za0 [.ptr ⟨0,0,0⟩ 1 0,.d (.agg [DI nu,.str ki,.list (more.length+1+1) (.str a::.str s::more.map D.str),.list 4 [DI kn,DI f,DI u,DI m],.str tx])] (mR t ev r) _;refine In.enter (f:=za0) g.lim rfl rfl ?_;unfold zv8 yw4;generalize hA:zph r.es a=i at*;have hlist:more.map D.str=more.map D.str:=rfl
 by_cases hi:0<=i
 ·rw[if_pos hi,show zar [9,if 256<=r.es.length then 5 else 0]=9 from rfl,if_pos (by decide)];rw[yfd,if_pos hi]at hq;by_cases h256:256<=r.es.length
  all_goals
   repeat'((conv=>whnf);first|refine Yz ?_|refine znw.of (r':=.ptr ⟨0,0,2⟩ ((0+i.toNat)*8) r.es.length) isR rfl rfl rfl rfl hq rfl rfl rfl ?_|refine zaf.of (zl5 g _ _) ?_|refine zaf.of (zmo g _ _) ?_|(exact⟨rfl,rfl,rfl,rfl,rfl,rfl,trivial⟩)|fail)
 rw[if_neg hi];rw[yfd,if_neg hi]at hq
 by_cases h256:256<=r.es.length
 ·rw[if_pos h256,show zar [0,5]=5 from rfl,if_pos (by decide)]
  repeat'((conv=>whnf);first|refine Yz ?_|refine znw.of (r':=.d .nilp) isR rfl rfl rfl rfl hq rfl rfl rfl ?_|refine zaf.of (zl5 g _ _) ?_|refine zaf.of (zmo g _ _) ?_|(exact⟨rfl,rfl,rfl,rfl,rfl,rfl,trivial⟩)|fail)
 rw[if_neg h256,show zar [0,0]=0 from rfl,if_neg (by decide)]
 by_cases hf:ki=zdg
 ·obtain rfl:=hb hf;rw[decide_eq_true hf];generalize zv6 r b kn=o at*
  by_cases ho0:o=0
  ·rw[if_neg (λh=>h.2 ho0)];by_cases c1:99999<f
   all_goals by_cases c2:99999<u
   all_goals by_cases c3:1440<m
   all_goals by_cases c4:u<f
   all_goals
    repeat'((conv=>whnf);first|refine Yz ?_|refine znw.of (r':=.d .nilp) isR rfl rfl rfl rfl hq rfl rfl rfl ?_|refine znw.of (r':=I o) isR rfl rfl rfl rfl hov rfl rfl rfl ?_|refine Cmp.tt hf ?_|refine zaf.of (zl5 g _ _) ?_|refine zaf.of (zmo g _ _) ?_|(exact⟨rfl,rfl,rfl,rfl,rfl,rfl,trivial⟩)|(refine⟨?_,rfl,rfl,rfl,rfl,rfl,trivial⟩)|(exfalso;omega)|fail)
   all_goals simp[c1,c2,c3,c4,zar]
  rw[if_pos ⟨rfl,ho0⟩]
  repeat'((conv=>whnf);first|refine Yz ?_|refine znw.of (r':=.d .nilp) isR rfl rfl rfl rfl hq rfl rfl rfl ?_|refine znw.of (r':=I o) isR rfl rfl rfl rfl hov rfl rfl rfl ?_|refine Cmp.tt hf ?_|refine Cmp.ff ho0 ?_|refine zaf.of (zl5 g _ _) ?_|refine zaf.of (zmo g _ _) ?_|(exact⟨rfl,rfl,rfl,rfl,rfl,rfl,trivial⟩)|fail)
 rw[decide_eq_false hf,if_neg (λh=>by cases h.1)];by_cases c1:99999<f
 all_goals by_cases c2:99999<u
 all_goals by_cases c3:1440<m
 all_goals by_cases c4:u<f
 all_goals
  repeat'((conv=>whnf);first|refine Yz ?_|refine znw.of (r':=.d .nilp) isR rfl rfl rfl rfl hq rfl rfl rfl ?_|refine Cmp.ff hf ?_|refine zaf.of (zl5 g _ _) ?_|refine zaf.of (zmo g _ _) ?_|(exact⟨rfl,rfl,rfl,rfl,rfl,rfl,trivial⟩)|(refine⟨?_,rfl,rfl,rfl,rfl,rfl,trivial⟩)|(exfalso;omega)|fail)
 all_goals simp[c1,c2,c3,c4,zar]
end
section
variable{E:Oracle}(g:Good E)
include g
theorem yak(t:Nat)(ev:List Evt)(r:Rgs)(ho:OkR r)(nu:Int)(ki a:List UInt8)(kn:Int)(tx:List UInt8):
  Qs E zbk [.ptr ⟨0,0,0⟩ 1 0,Evv ⟨nu,ki,[a],[kn],tx⟩] (mR t ev r) (I (ybm r a kn)):=by
 refine⟨?_⟩;have hes:=ho.es;have hml:(r.es.flatMap Ent.cells).length=r.es.length*8:=zae Ent.cells 8 zwb r.es;have hq:=z0t g t ev r a (by omega);have hov:=yor g t ev r ho a kn;change In E 1 zbk [.ptr ⟨0,0,0⟩ 1 0,.d (.agg [DI nu,.str ki,.list 1 [.str a],.list 1 [DI kn],.str tx])] (mR t ev r) _;refine In.enter (f:=zbk) g.lim rfl rfl ?_;unfold ybm
 rcases zg1 r.es a with⟨h,_⟩|⟨k,hk,h,hnm,_⟩
 ·rw[h,if_pos (by decide)];rw[h,yfd,if_neg (by decide)]at hq
  repeat'((conv=>whnf);first|refine Yz ?_|refine znw.of (r':=.d .nilp) isR rfl rfl rfl rfl hq rfl rfl rfl ?_|(exact⟨rfl,rfl,rfl,rfl,rfl,rfl,trivial⟩)|fail)
 have hgd:r.es.getD k yxl=r.es[k]:=by simp[List.getD,hk]
 rw[h,if_neg (by omega),Int.toNat_natCast,hgd];rw[h,yfd,if_pos (by omega)]at hq;generalize zv6 r a kn=o at*
 by_cases hkd:r.es[k].kd=zue
 ·rw[if_pos hkd]
  repeat'((conv=>whnf);first|refine Yz ?_|refine znw.of (r':=.ptr ⟨0,0,2⟩ ((0+((k:Nat):Int).toNat)*8) r.es.length) isR rfl rfl rfl rfl hq rfl rfl rfl ?_|refine zgp.rec0 zwb k rfl hk rfl ?_|refine Cmp.ff (λh=>h hkd) ?_|refine Cmp.tt hkd ?_|(rw[hnm];refine znw.of (r':=I o) isR rfl rfl rfl rfl hov rfl rfl rfl ?_)|refine zaf.of (zl5 g _ _) ?_|refine zaf.of (zmo g _ _) ?_|(exact⟨rfl,rfl,rfl,rfl,rfl,rfl,trivial⟩)|fail)
 rw[if_neg hkd]
 repeat'((conv=>whnf);first|refine Yz ?_|refine znw.of (r':=.ptr ⟨0,0,2⟩ ((0+((k:Nat):Int).toNat)*8) r.es.length) isR rfl rfl rfl rfl hq rfl rfl rfl ?_|refine zgp.rec0 zwb k rfl hk rfl ?_|refine Cmp.ff hkd ?_|refine Cmp.tt hkd ?_|(rw[hnm];refine znw.of (r':=I o) isR rfl rfl rfl rfl hov rfl rfl rfl ?_)|refine zaf.of (zl5 g _ _) ?_|refine zaf.of (zmo g _ _) ?_|(exact⟨rfl,rfl,rfl,rfl,rfl,rfl,trivial⟩)|fail)
theorem z47(t:Nat)(ev:List Evt)(r:Rgs)(ho:OkR r)(nu:Int)(ki a en:List UInt8)(kn:Int)(tx:List UInt8):
  Qs E zbb [.ptr ⟨0,0,0⟩ 1 0,Evv ⟨nu,ki,[a,en],[kn],tx⟩] (mR t ev r) (I (yhs r a en kn)):=by
 refine⟨?_⟩;have hcs:=ho.cs;have hq:=zxe g t ev r a (by omega);have hov:=yor g t ev r ho en kn;change In E 1 zbb [.ptr ⟨0,0,0⟩ 1 0,.d (.agg [DI nu,.str ki,.list 2 [.str a,.str en],.list 1 [DI kn],.str tx])] (mR t ev r) _;refine In.enter (f:=zbb) g.lim rfl rfl ?_;unfold yhs;generalize zv6 r en kn=o at*;generalize ye9 r.cs a=i at*
 by_cases hi:0<=i
 ·rw[if_pos hi];rw[yty,if_pos hi]at hq
  by_cases h64:64<=r.cs.length
  ·rw[if_pos h64]
   repeat'((conv=>whnf);first|refine Yz ?_|refine znw.of (r':=.ptr ⟨0,0,4⟩ ((0+i.toNat)*5) r.cs.length) isR rfl rfl rfl rfl hq rfl rfl rfl ?_|refine znw.of (r':=I o) isR rfl rfl rfl rfl hov rfl rfl rfl ?_|refine zaf.of (zl5 g _ _) ?_|refine zaf.of (zoc g _ _ _) ?_|(exact⟨rfl,rfl,rfl,rfl,rfl,rfl,trivial⟩)|fail)
  rw[if_neg h64]
  repeat'((conv=>whnf);first|refine Yz ?_|refine znw.of (r':=.ptr ⟨0,0,4⟩ ((0+i.toNat)*5) r.cs.length) isR rfl rfl rfl rfl hq rfl rfl rfl ?_|refine znw.of (r':=I o) isR rfl rfl rfl rfl hov rfl rfl rfl ?_|refine zaf.of (zl5 g _ _) ?_|refine zaf.of (zoc g _ _ _) ?_|(exact⟨rfl,rfl,rfl,rfl,rfl,rfl,trivial⟩)|fail)
 rw[if_neg hi];rw[yty,if_neg hi]at hq
 by_cases h64:64<=r.cs.length
 ·rw[if_pos h64]
  repeat'((conv=>whnf);first|refine Yz ?_|refine znw.of (r':=.d .nilp) isR rfl rfl rfl rfl hq rfl rfl rfl ?_|refine znw.of (r':=I o) isR rfl rfl rfl rfl hov rfl rfl rfl ?_|refine zaf.of (zl5 g _ _) ?_|refine zaf.of (zoc g _ _ _) ?_|(exact⟨rfl,rfl,rfl,rfl,rfl,rfl,trivial⟩)|fail)
 rw[if_neg h64]
 repeat'((conv=>whnf);first|refine Yz ?_|refine znw.of (r':=.d .nilp) isR rfl rfl rfl rfl hq rfl rfl rfl ?_|refine znw.of (r':=I o) isR rfl rfl rfl rfl hov rfl rfl rfl ?_|refine zaf.of (zl5 g _ _) ?_|refine zaf.of (zoc g _ _ _) ?_|(exact⟨rfl,rfl,rfl,rfl,rfl,rfl,trivial⟩)|fail)
theorem z6r(t:Nat)(ev:List Evt)(r:Rgs)(ho:OkR r)(nu:Int)(ki a:List UInt8)(kn v:Int)(tx:List UInt8):
  Qs E zbf [.ptr ⟨0,0,0⟩ 1 0,Evv ⟨nu,ki,[a],[kn,v],tx⟩] (mR t ev r) (I (ybk r a v)):=by
 refine⟨?_⟩;have hcs:=ho.cs;have hml:(r.cs.flatMap Cpl.cells).length=r.cs.length*5:=zae Cpl.cells 5 ymg r.cs;have hq:=zxe g t ev r a (by omega);change In E 1 zbf [.ptr ⟨0,0,0⟩ 1 0,.d (.agg [DI nu,.str ki,.list 1 [.str a],.list 2 [DI kn,DI v],.str tx])] (mR t ev r) _;refine In.enter (f:=zbf) g.lim rfl rfl ?_;unfold ybk
 rcases z7e r.cs a with h|⟨k,hk,h,hnm⟩
 ·rw[h,if_pos (by decide)];rw[h,yty,if_neg (by decide)]at hq
  repeat'((conv=>whnf);first|refine Yz ?_|refine znw.of (r':=.d .nilp) isR rfl rfl rfl rfl hq rfl rfl rfl ?_|(exact⟨rfl,rfl,rfl,rfl,rfl,rfl,trivial⟩)|fail)
 have hgd:r.cs.getD k ywz=r.cs[k]:=by simp[List.getD,hk]
 rw[h,if_neg (by omega),Int.toNat_natCast,hgd];rw[h,yty,if_pos (by omega)]at hq
 by_cases hv:1<v
 ·rw[if_pos hv]
  repeat'((conv=>whnf);first|refine Yz ?_|refine znw.of (r':=.ptr ⟨0,0,4⟩ ((0+((k:Nat):Int).toNat)*5) r.cs.length) isR rfl rfl rfl rfl hq rfl rfl rfl ?_|refine zgp.rec0 ymg k rfl hk rfl ?_|refine zaf.of (zl5 g _ _) ?_|refine zaf.of (zmo g _ _) ?_|(exact⟨rfl,rfl,rfl,rfl,rfl,rfl,trivial⟩)|fail)
 rw[if_neg hv]
 repeat'((conv=>whnf);first|refine Yz ?_|refine znw.of (r':=.ptr ⟨0,0,4⟩ ((0+((k:Nat):Int).toNat)*5) r.cs.length) isR rfl rfl rfl rfl hq rfl rfl rfl ?_|refine zgp.rec0 ymg k rfl hk rfl ?_|refine zaf.of (zl5 g _ _) ?_|refine zaf.of (zmo g _ _) ?_|(exact⟨rfl,rfl,rfl,rfl,rfl,rfl,trivial⟩)|fail)
end
abbrev mH(ev:List Evt)(r:Rgs):Mem:=[(⟨0,12,0⟩,.row false zao 5 ev.length (ev.flatMap Evt.cells)),(⟨0,12,1⟩,.row false zag 8 r.es.length (r.es.flatMap Ent.cells)),(⟨0,12,2⟩,.row false zby 2 r.rs.length (r.rs.flatMap Rmv.cells)),(⟨0,12,3⟩,.row true zan 5 r.cs.length (r.cs.flatMap Cpl.cells)),
 (⟨0,13,0⟩,.cells zdq [.ref ⟨0,12,0⟩ 0 ev.length ev.length,I r.kn,.ref ⟨0,12,1⟩ 0 r.es.length r.es.length,.ref ⟨0,12,2⟩ 0 r.rs.length r.rs.length,.ref ⟨0,12,3⟩ 0 r.cs.length r.cs.length])]
abbrev isH:List Evl.Id:=[⟨0,13,0⟩,⟨0,12,0⟩,⟨0,12,1⟩,⟨0,12,2⟩,⟨0,12,3⟩]
theorem z36{e:Evt}(h:ye4 e=0):
  (∃nu ki a s more kn f u m,e=⟨nu,ki,a::s::more,[kn,f,u,m],[]⟩/\yk3 ki=true/\(ki=zdg->∃b,more=[b])/\(ki=zp0\/ki=zue\/ki=zdg))\/
  (∃nu a kn,e=⟨nu,zeo,[a],[kn],[]⟩)\/(∃nu a en kn,e=⟨nu,zd9,[a,en],[kn],[]⟩)\/(∃nu a kn v,e=⟨nu,zix,[a],[kn,v],[]⟩):=by
 obtain⟨h1,h2,h3,_,_,h6,_,_⟩:=ym6 h;obtain⟨nu,ki,ns,vs,tx⟩:=e;dsimp only at h1 h2 h3 h6;subst h6;have l1:∀{α:Type}(l:List α),l.length=1->∃a,l=[a]:=λl hl=>List.length_eq_one_iff.1 hl
 have l2:∀{α:Type}(l:List α),l.length=2->∃a b,l=[a,b]:=λl hl=>by
  rcases l with _|⟨a,_|⟨b,_|⟨_,_⟩⟩⟩<;>simp at hl
  exact⟨a,b,rfl⟩
 have l4:∀(l:List Int),l.length=4->∃a b c d,l=[a,b,c,d]:=λl hl=>by
  rcases l with _|⟨a,_|⟨b,_|⟨c,_|⟨d,_|⟨_,_⟩⟩⟩⟩⟩<;>simp at hl
  exact⟨a,b,c,d,rfl⟩
 rcases z7w ki with rfl|rfl|rfl|rfl|rfl|rfl|⟨k1,k2,k3,k4,k5,k6⟩
 ·obtain⟨a,b,rfl⟩:=l2 ns h2;obtain⟨c,d,e,f,rfl⟩:=l4 vs h3;exact .inl ⟨nu,_,a,b,[],c,d,e,f,rfl,by decide,λh=>absurd h (by decide),.inl rfl⟩
 ·obtain⟨a,b,rfl⟩:=l2 ns h2;obtain⟨c,d,e,f,rfl⟩:=l4 vs h3;exact .inl ⟨nu,_,a,b,[],c,d,e,f,rfl,by decide,λh=>absurd h (by decide),.inr (.inl rfl)⟩
 ·obtain⟨a,b,x,rfl⟩:∃a b x,ns=[a,b,x]:=by
   have h2:ns.length=3:=h2;rcases ns with _|⟨a,_|⟨b,_|⟨c,_|⟨_,_⟩⟩⟩⟩<;>simp at h2
   exact⟨a,b,c,rfl⟩
  obtain⟨c,d,e,f,rfl⟩:=l4 vs h3;exact .inl ⟨nu,_,a,b,[x],c,d,e,f,rfl,by decide,λ_=>⟨x,rfl⟩,.inr (.inr rfl)⟩
 ·obtain⟨a,rfl⟩:=l1 ns h2;obtain⟨c,rfl⟩:=l1 vs h3;exact .inr (.inl ⟨nu,a,c,rfl⟩)
 ·obtain⟨a,b,rfl⟩:=l2 ns h2;obtain⟨c,rfl⟩:=l1 vs h3;exact .inr (.inr (.inl ⟨nu,a,b,c,rfl⟩))
 ·obtain⟨a,rfl⟩:=l1 ns h2;obtain⟨c,d,rfl⟩:=l2 vs h3;exact .inr (.inr (.inr ⟨nu,a,c,d,rfl⟩))
 simp[z4n,k1,k2,k3,k4,k5,k6]at h1
section
variable{E:Oracle}(g:Good E)
include g
omit g in
theorem yuq{r:Rgs}{n:Nat}{e:Evt}(h:yqm r n e=0):e.nu=n+1/\¬vlN e 0<r.kn/\¬ 99999<vlN e 0:=by
 rw[yqm,zb2]at h;have a:=h (if e.nu=n+1 then 0 else 11) (by simp);have b:=h (if vlN e 0<r.kn then 19 else 0) (by simp);have c:=h (if 99999<vlN e 0 then 3 else 0) (by simp)
 refine⟨?_,?_,?_⟩
 ·exact Decidable.byContradiction λhn=>by rw[if_neg hn]at a;omega
 ·intro hn;rw[if_pos hn]at b;omega
 intro hn;rw[if_pos hn]at c;omega
theorem yoq(t:Nat)(ev:List Evt)(r:Rgs)(ho:OkR r)(e:Evt)(hc:ye4 e=0)(hev:ev.length<=1000000):
  Qs E zau [.ptr ⟨0,0,0⟩ 0 0,Evv e] (mR t ev r) (I (ymf r ev.length e)):=by
 refine⟨?_⟩;unfold ymf
 by_cases hF:yqm r ev.length e=0
 ·rw[if_neg (λh=>h hF)];obtain⟨c1,c2,c3⟩:=yuq hF;clear hF
  rcases z36 hc with⟨nu,ki,a,s,more,kn,f,u,m,rfl,hent,hfol,hki⟩|⟨nu,a,kn,rfl⟩|⟨nu,a,en,kn,rfl⟩|⟨nu,a,kn,v,rfl⟩
  ·change nu=_ at c1;change ¬kn<_ at c2;change ¬_<kn at c3
   obtain⟨b,hb⟩:∃b,ki=zdg->more=[b]:=by
    by_cases h:ki=zdg
    ·obtain⟨b,hb⟩:=hfol h;exact⟨b,λ_=>hb⟩
    exact⟨[],λh'=>absurd h' h⟩
   have hask:yeh r ⟨nu,ki,a::s::more,[kn,f,u,m],[]⟩=zv8 r (decide (ki=zdg)) a b kn f u m:=by
    rw[yeh,if_pos hent]
    by_cases h:ki=zdg
    ·rw[hb h];rfl
    unfold zv8;rw[decide_eq_false h];simp only[Bool.false_eq_true,false_and,if_false]
    rfl
   have hq:=ygl g t ev r ho nu ki a s more b kn f u m [] hb;rw[<-hask]at hq;generalize yeh r ⟨nu,ki,a::s::more,[kn,f,u,m],[]⟩=o at*;have e1:Evv ⟨nu,ki,a::s::more,[kn,f,u,m],[]⟩=.d (.agg [DI nu,.str ki,.list (more.length+1+1) (.str a::.str s::more.map D.str),.list 4 [DI kn,DI f,DI u,DI m],.str []]):=rfl;rw[e1]at hq⊢;clear hfol hask hent hb;rcases hki with rfl|rfl|rfl
   all_goals
    refine In.enter (f:=zau) g.lim rfl rfl ?_
    repeat'((conv=>whnf);first|refine Yz ?_|refine Cmp.ff (λh=>h c1) ?_|refine zaf.of (zl5 g _ _) ?_|refine zaf.of (zoc g _ _ _) ?_|refine zd5.kinds g rfl ?_|refine zxi.mk ⟨_,rfl,?_⟩|refine znw.of (r':=I o) isR rfl rfl rfl rfl hq rfl rfl rfl ?_|(exact⟨rfl,rfl,rfl,rfl,rfl,rfl,trivial⟩)|fail)
  ·change nu=_ at c1;change ¬kn<_ at c2;change ¬_<kn at c3;have hq:=yak g t ev r ho nu zeo a kn [];change Qs E zbk [.ptr ⟨0,0,0⟩ 1 0,.d (.agg [DI nu,.str zeo,.list 1 [.str a],.list 1 [DI kn],.str []])] (mR t ev r) (I (yeh r ⟨nu,zeo,[a],[kn],[]⟩))at hq;generalize yeh r ⟨nu,zeo,[a],[kn],[]⟩=o at*;change In E 1 zau [.ptr ⟨0,0,0⟩ 0 0,.d (.agg [DI nu,.str zeo,.list 1 [.str a],.list 1 [DI kn],.str []])] (mR t ev r) _;refine In.enter (f:=zau) g.lim rfl rfl ?_
   repeat'((conv=>whnf);first|refine Yz ?_|refine Cmp.ff (λh=>h c1) ?_|refine zaf.of (zl5 g _ _) ?_|refine zaf.of (zoc g _ _ _) ?_|refine zd5.kinds g rfl ?_|refine zxi.mk ⟨_,rfl,?_⟩|refine znw.of (r':=I o) isR rfl rfl rfl rfl hq rfl rfl rfl ?_|(exact⟨rfl,rfl,rfl,rfl,rfl,rfl,trivial⟩)|fail)
  ·change nu=_ at c1;change ¬kn<_ at c2;change ¬_<kn at c3;have hq:=z47 g t ev r ho nu zd9 a en kn [];change Qs E zbb [.ptr ⟨0,0,0⟩ 1 0,.d (.agg [DI nu,.str zd9,.list 2 [.str a,.str en],.list 1 [DI kn],.str []])] (mR t ev r) (I (yeh r ⟨nu,zd9,[a,en],[kn],[]⟩))at hq;generalize yeh r ⟨nu,zd9,[a,en],[kn],[]⟩=o at*;change In E 1 zau [.ptr ⟨0,0,0⟩ 0 0,.d (.agg [DI nu,.str zd9,.list 2 [.str a,.str en],.list 1 [DI kn],.str []])] (mR t ev r) _;refine In.enter (f:=zau) g.lim rfl rfl ?_
   repeat'((conv=>whnf);first|refine Yz ?_|refine Cmp.ff (λh=>h c1) ?_|refine zaf.of (zl5 g _ _) ?_|refine zaf.of (zoc g _ _ _) ?_|refine zd5.kinds g rfl ?_|refine zxi.mk ⟨_,rfl,?_⟩|refine znw.of (r':=I o) isR rfl rfl rfl rfl hq rfl rfl rfl ?_|(exact⟨rfl,rfl,rfl,rfl,rfl,rfl,trivial⟩)|fail)
  change nu=_ at c1;change ¬kn<_ at c2;change ¬_<kn at c3;have hq:=z6r g t ev r ho nu zix a kn v [];change Qs E zbf [.ptr ⟨0,0,0⟩ 1 0,.d (.agg [DI nu,.str zix,.list 1 [.str a],.list 2 [DI kn,DI v],.str []])] (mR t ev r) (I (yeh r ⟨nu,zix,[a],[kn,v],[]⟩))at hq;generalize yeh r ⟨nu,zix,[a],[kn,v],[]⟩=o at*;change In E 1 zau [.ptr ⟨0,0,0⟩ 0 0,.d (.agg [DI nu,.str zix,.list 1 [.str a],.list 2 [DI kn,DI v],.str []])] (mR t ev r) _;refine In.enter (f:=zau) g.lim rfl rfl ?_
  repeat'((conv=>whnf);first|refine Yz ?_|refine Cmp.ff (λh=>h c1) ?_|refine zaf.of (zl5 g _ _) ?_|refine zaf.of (zoc g _ _ _) ?_|refine zd5.kinds g rfl ?_|refine zxi.mk ⟨_,rfl,?_⟩|refine znw.of (r':=I o) isR rfl rfl rfl rfl hq rfl rfl rfl ?_|(exact⟨rfl,rfl,rfl,rfl,rfl,rfl,trivial⟩)|fail)
 rw[if_pos hF];obtain⟨nu,ki,ns,vs,tx⟩:=e
 obtain⟨kn,vr,rfl⟩:∃kn vr,vs=kn::vr:=by
  rcases z36 hc with⟨nu,ki,a,s,more,kn,f,u,m,h,_⟩|⟨nu,a,kn,h⟩|⟨nu,a,en,kn,h⟩|⟨nu,a,kn,v,h⟩
  all_goals
   simp only[Evt.mk.injEq]at h;exact⟨_,_,h.2.2.2.1⟩
 unfold yqm at hF⊢;change zar [if nu=ev.length+1 then 0 else 11,if kn<r.kn then 19 else 0,if 99999<kn then 3 else 0]≠0 at hF;change In E 1 zau [.ptr ⟨0,0,0⟩ 0 0,.d (.agg [DI nu,.str ki,.list ns.length (ns.map D.str),.list (vr.length+1) (DI kn::vr.map DI),.str tx])] (mR t ev r) (λv m1=>v=I (zar [if nu=ev.length+1 then 0 else 11,if kn<r.kn then 19 else 0,if 99999<kn then 3 else 0])/\zvi m1 (mR t ev r));by_cases c1:nu=ev.length+1
 all_goals by_cases c2:kn<r.kn
 all_goals by_cases c3:99999<kn
 all_goals simp only[c1,c2,c3,if_true,if_false]at hF⊢
 all_goals try(exact absurd rfl hF)
 all_goals refine In.enter (f:=zau) g.lim rfl rfl ?_
 all_goals repeat'((conv=>whnf);first|refine Yz ?_|refine Cmp.tt c1 ?_|refine Cmp.ff (λh=>h rfl) ?_|refine zaf.of (zl5 g _ _) ?_|refine zaf.of (zoc g _ _ _) ?_|(exact⟨rfl,rfl,rfl,rfl,rfl,rfl,trivial⟩)|fail)
end
theorem z7k{α:Type}(cell:α->List D)(w:Nat)(hw:∀a,(cell a).length=w)(l:List α)(k j:Nat)(hk:k<l.length)(hj:j<w)(d:D)(x:α)(hx:cell x=patch (cell l[k]) j [d]):patch (l.flatMap cell) (k*w+j) [d]=(l.set k x).flatMap cell:=by
 have h1:l=l.take k++l[k]::l.drop (k+1):=by rw[<-List.drop_eq_getElem_cons hk,List.take_append_drop]
 have h2:l.set k x=l.take k++x::l.drop (k+1):=by
  rw[List.set_eq_take_append_cons_drop,if_pos hk]
 rw[h2,List.flatMap_append,List.flatMap_cons,hx]
 have h3:l.flatMap cell=(l.take k).flatMap cell++(cell l[k]++(l.drop (k+1)).flatMap cell):=by
  rw[<-List.flatMap_cons,<-List.flatMap_append];exact congrArg (List.flatMap cell) h1
 rw[h3]
 have h4:((l.take k).flatMap cell).length=k*w:=by
  rw[zae cell w hw,List.length_take,Nat.min_eq_left (by omega)]
 have h5:=hw l[k];generalize(l.take k).flatMap cell=A at*;generalize(l.drop (k+1)).flatMap cell=C at*;generalize cell l[k]=B at*;unfold patch;rw[<-h4,List.take_append,List.take_of_length_le (by omega),Nat.add_sub_cancel_left,List.take_append_of_le_length (by omega)];rw[List.drop_append,List.drop_of_length_le (by simp;omega),List.length_singleton,Nat.add_assoc,Nat.add_sub_cancel_left,List.drop_append_of_le_length (by omega)];simp
section
variable{E:Oracle}(g:Good E)
include g
theorem z2s(l:List (List UInt8))(hl:l≠[])(hb:l.length<=1000000):Fc E zex [Ws l] (Ws l):=by
 obtain⟨x,r,rfl⟩:=List.exists_cons_of_ne_nil hl;rw[List.length_cons]at hb;change Fc E _ [.d (.list (r.length+1) (.str x::r.map D.str))] (.d (.list (r.length+1) (.str x::r.map D.str)));refine g.fn rfl rfl ?_
 repeat'((conv=>whnf);first|refine Yz ?_|refine zem.mk ⟨rfl,rfl,rfl,rfl,rfl,by simp,by omega,by omega⟩ ?_|refine Chk.mk rfl ?_|fail)
 all_goals try(refine Ret.mk ?_;simp)
theorem z2r(l:List Int)(hl:l≠[])(hb:l.length<=1000000):Fc E zhn [LI l] (LI l):=by
 obtain⟨x,r,rfl⟩:=List.exists_cons_of_ne_nil hl;rw[List.length_cons]at hb;change Fc E _ [.d (.list (r.length+1) (DI x::r.map DI))] (.d (.list (r.length+1) (DI x::r.map DI)));refine g.fn rfl rfl ?_
 repeat'((conv=>whnf);first|refine Yz ?_|refine zem.mk ⟨rfl,rfl,rfl,rfl,rfl,by simp,by omega,by omega⟩ ?_|refine Chk.mk rfl ?_|fail)
 all_goals try(refine Ret.mk ?_;simp)
abbrev bxE(e:Evt):Evl.Id×Ob:=(⟨0,7,0⟩,.cells zao [I e.nu,S e.ki,.d (.list e.ns.length (e.ns.map D.str)),.d (.list e.vs.length (e.vs.map DI)),S e.tx])
theorem yxn(ev:List Evt)(r:Rgs)(ho:OkR r)(hrs:r.rs.length<1000)(e:Evt)(hs:zpf r ev.length e=0)(hev:ev.length<=1000){slot:Nat}{K:V->Mem->Prop}(hK:K (.tup []) (mH (ev++[e]) (ya9 r e)++[bxE e])):
  In E 1 zaw [.ptr ⟨0,13,0⟩ 0 0,Evv e] (mH ev r++[bxE e]) λv m'=>zxy ⟨0,1⟩ slot true v m' K:=by
 obtain⟨hc,ha⟩:=yp5 hs;obtain⟨_,_,_,hask⟩:=ytr ha;have hes:=ho.es;have hcs:=ho.cs;have hme:(ev.flatMap Evt.cells).length=ev.length*5:=zae Evt.cells 5 evw ev
 rcases z36 hc with⟨nu,ki,a,s,more,kn,f,u,m,rfl,hent,hfol,hki⟩|⟨nu,a,kn,rfl⟩|⟨nu,a,en,kn,rfl⟩|⟨nu,a,kn,v,rfl⟩
 ·have hc1:=z2s g (a::s::more) (by simp) (by
   have h:=(ym6 hc).2.1;dsimp only at h;rw[h]
   rcases hki with rfl|rfl|rfl
   ·decide
   ·decide
   decide)
  have hc2:=z2r g [kn,f,u,m] (by simp) (by simp);rw[yeh,if_pos hent]at hask;obtain⟨_,hl,_⟩:=ybl hask;have hml:(r.es.flatMap Ent.cells).length=r.es.length*8:=zae Ent.cells 8 zwb r.es;clear hs hc ha hask
  by_cases hf:ki=zdg
  ·obtain⟨b,rfl⟩:=hfol hf;subst hf;have haft:ya9 r ⟨nu,zdg,[a,s,b],[kn,f,u,m],[]⟩=⟨kn,r.es++[⟨a,zdg,s,b,kn,f,u,m⟩],r.rs,r.cs⟩:=rfl;rw[haft]at hK;simp only[List.length_append,List.length_cons,List.length_nil,List.flatMap_append,List.flatMap_cons,List.flatMap_nil,mH,bxE]at hK;change Fc E _ [.d (.list 3 [.str a,.str s,.str b])] (.d (.list 3 [.str a,.str s,.str b]))at hc1;change Fc E _ [.d (.list 4 [DI kn,DI f,DI u,DI m])] (.d (.list 4 [DI kn,DI f,DI u,DI m]))at hc2;change In E 1 zaw [.ptr ⟨0,13,0⟩ 0 0,.d (.agg [DI nu,.str zdg,.list 3 [.str a,.str s,.str b],.list 4 [DI kn,DI f,DI u,DI m],.str []])] _ _;refine In.enter (f:=zaw) g.lim rfl rfl ?_
   repeat'((conv=>whnf);first|refine Yz ?_|(apply zaf.of;assumption)|refine zem.mk ⟨rfl,rfl,rfl,rfl,rfl,rfl,by dsimp only;omega,by dsimp only;omega⟩ ?_|refine zd5.kinds g rfl ?_|refine zxi.mk ⟨_,rfl,?_⟩|refine In.enter (f:=za1) g.lim rfl rfl ?_|exact hK|fail)
  have haft:ya9 r ⟨nu,ki,a::s::more,[kn,f,u,m],[]⟩=⟨kn,r.es++[⟨a,ki,s,[],kn,f,u,m⟩],r.rs,r.cs⟩:=by
   rw[ya9,if_pos hent,yrf,if_neg hf]
   rfl
  rw[haft]at hK;simp only[List.length_append,List.length_cons,List.length_nil,List.flatMap_append,List.flatMap_cons,List.flatMap_nil,mH,bxE]at hK;change Fc E _ [.d (.list (more.length+1+1) (.str a::.str s::more.map D.str))] (.d (.list (more.length+1+1) (.str a::.str s::more.map D.str)))at hc1;change Fc E _ [.d (.list 4 [DI kn,DI f,DI u,DI m])] (.d (.list 4 [DI kn,DI f,DI u,DI m]))at hc2;change In E 1 zaw [.ptr ⟨0,13,0⟩ 0 0,.d (.agg [DI nu,.str ki,.list (more.length+1+1) (.str a::.str s::more.map D.str),.list 4 [DI kn,DI f,DI u,DI m],.str []])] _ _
  rcases hki with rfl|rfl|rfl
  ·refine In.enter (f:=zaw) g.lim rfl rfl ?_
   repeat'((conv=>whnf);first|refine Yz ?_|(apply zaf.of;assumption)|refine zem.mk ⟨rfl,rfl,rfl,rfl,rfl,rfl,by dsimp only;omega,by dsimp only;omega⟩ ?_|refine zd5.kinds g rfl ?_|refine zxi.mk ⟨_,rfl,?_⟩|refine In.enter (f:=za1) g.lim rfl rfl ?_|exact hK|fail)
  ·refine In.enter (f:=zaw) g.lim rfl rfl ?_
   repeat'((conv=>whnf);first|refine Yz ?_|(apply zaf.of;assumption)|refine zem.mk ⟨rfl,rfl,rfl,rfl,rfl,rfl,by dsimp only;omega,by dsimp only;omega⟩ ?_|refine zd5.kinds g rfl ?_|refine zxi.mk ⟨_,rfl,?_⟩|refine In.enter (f:=za1) g.lim rfl rfl ?_|exact hK|fail)
  exact absurd rfl hf
 ·have hc1:=z2s g [a] (by simp) (by simp);have hc2:=z2r g [kn] (by simp) (by simp);have hml:(r.rs.flatMap Rmv.cells).length=r.rs.length*2:=zae Rmv.cells 2 yzg r.rs;clear hs hc ha hask;have haft:ya9 r ⟨nu,zeo,[a],[kn],[]⟩=⟨kn,r.es,r.rs++[⟨a,kn⟩],r.cs⟩:=rfl;rw[haft]at hK;simp only[List.length_append,List.length_cons,List.length_nil,List.flatMap_append,List.flatMap_cons,List.flatMap_nil,mH,bxE]at hK;change Fc E _ [.d (.list 1 [.str a])] (.d (.list 1 [.str a]))at hc1;change Fc E _ [.d (.list 1 [DI kn])] (.d (.list 1 [DI kn]))at hc2;change In E 1 zaw [.ptr ⟨0,13,0⟩ 0 0,.d (.agg [DI nu,.str zeo,.list 1 [.str a],.list 1 [DI kn],.str []])] _ _;refine In.enter (f:=zaw) g.lim rfl rfl ?_
  repeat'((conv=>whnf);first|refine Yz ?_|(apply zaf.of;assumption)|refine zem.mk ⟨rfl,rfl,rfl,rfl,rfl,rfl,by dsimp only;omega,by dsimp only;omega⟩ ?_|refine zd5.kinds g rfl ?_|refine zxi.mk ⟨_,rfl,?_⟩|refine In.enter (f:=zkj) g.lim rfl rfl ?_|refine In.enter (f:=zc1) g.lim rfl rfl ?_|exact hK|fail)
 ·have hc1:=z2s g [a,en] (by simp) (by simp);have hc2:=z2r g [kn] (by simp) (by simp);have hml:(r.cs.flatMap Cpl.cells).length=r.cs.length*5:=zae Cpl.cells 5 ymg r.cs;clear hs hc ha hask;have haft:ya9 r ⟨nu,zd9,[a,en],[kn],[]⟩=⟨kn,r.es,r.rs,r.cs++[⟨a,en,kn,false,false⟩]⟩:=rfl;rw[haft]at hK;simp only[List.length_append,List.length_cons,List.length_nil,List.flatMap_append,List.flatMap_cons,List.flatMap_nil,mH,bxE]at hK;change Fc E _ [.d (.list 2 [.str a,.str en])] (.d (.list 2 [.str a,.str en]))at hc1;change Fc E _ [.d (.list 1 [DI kn])] (.d (.list 1 [DI kn]))at hc2;change In E 1 zaw [.ptr ⟨0,13,0⟩ 0 0,.d (.agg [DI nu,.str zd9,.list 2 [.str a,.str en],.list 1 [DI kn],.str []])] _ _;refine In.enter (f:=zaw) g.lim rfl rfl ?_
  repeat'((conv=>whnf);first|refine Yz ?_|(apply zaf.of;assumption)|refine zem.mk ⟨rfl,rfl,rfl,rfl,rfl,rfl,by dsimp only;omega,by dsimp only;omega⟩ ?_|refine zd5.kinds g rfl ?_|refine zxi.mk ⟨_,rfl,?_⟩|refine In.enter (f:=zc6) g.lim rfl rfl ?_|exact hK|fail)
 have hc1:=z2s g [a] (by simp) (by simp);have hc2:=z2r g [kn,v] (by simp) (by simp);have hml:(r.rs.flatMap Rmv.cells).length=r.rs.length*2:=zae Rmv.cells 2 yzg r.rs;have hmc:(r.cs.flatMap Cpl.cells).length=r.cs.length*5:=zae Cpl.cells 5 ymg r.cs;change ybk r a v=0 at hask
 rcases z7e r.cs a with h|⟨k,hk,h,hnm⟩
 ·rw[ybk,h,if_pos (by decide)]at hask;omega
 have hgd:r.cs.getD k ywz=r.cs[k]:=by simp[List.getD,hk]
 have haft:ya9 r ⟨nu,zix,[a],[kn,v],[]⟩=⟨kn,r.es,if v=1 then r.rs++[⟨r.cs[k].en,kn⟩]else r.rs,r.cs.set k {r.cs[k]with cl:=true,up:=decide (v=1)}⟩:=by
  change(Rgs.mk kn r.es (if v=1 then r.rs++[⟨(r.cs.getD (ye9 r.cs a).toNat ywz).en,kn⟩]else r.rs) (r.cs.set (ye9 r.cs a).toNat {r.cs.getD (ye9 r.cs a).toNat ywz with cl:=true,up:=decide (v=1)}))=_;rw[h,Int.toNat_natCast,hgd]
 rw[haft]at hK;have hq:=zxe g zdq (ev++[⟨nu,zix,[a],[kn,v],[]⟩]) ⟨kn,r.es,r.rs,r.cs⟩ a (by dsimp only;omega);rw[show ye9 (Rgs.mk kn r.es r.rs r.cs).cs a=k from h,yty,if_pos (by omega)]at hq;simp only[List.length_append,List.length_cons,List.length_nil,List.flatMap_append,List.flatMap_cons,List.flatMap_nil,mR]at hq;clear hs hc ha hask haft
 have hp1:patch (r.cs.flatMap Cpl.cells) ((0+((k:Nat):Int).toNat)*5+3) [.bool true]=(r.cs.set k {r.cs[k]with cl:=true}).flatMap Cpl.cells:=by
  rw[Nat.zero_add,Int.toNat_natCast];exact z7k Cpl.cells 5 ymg r.cs k 3 hk (by decide) _ _ rfl
 have hm1:((r.cs.set k {r.cs[k]with cl:=true}).flatMap Cpl.cells).length=r.cs.length*5:=by rw[zae Cpl.cells 5 ymg,List.length_set]
 have hk1:k<(r.cs.set k {r.cs[k]with cl:=true}).length:=by rw[List.length_set];exact hk
 have hp2:∀b,patch ((r.cs.set k {r.cs[k]with cl:=true}).flatMap Cpl.cells) ((0+((k:Nat):Int).toNat)*5+4) [.bool b]=(r.cs.set k {r.cs[k]with cl:=true,up:=b}).flatMap Cpl.cells:=by
  intro b;rw[Nat.zero_add,Int.toNat_natCast];have:=z7k Cpl.cells 5 ymg (r.cs.set k {r.cs[k]with cl:=true}) k 4 hk1 (by decide) (.bool b) {r.cs[k]with cl:=true,up:=b} (by rw[List.getElem_set_self];rfl);rw[this,List.set_set]
 have hp3:∀b,k<(r.cs.set k {r.cs[k]with cl:=true,up:=b}).length:=λb=>by rw[List.length_set];exact hk
 have hp4:∀b,(r.cs.set k {r.cs[k]with cl:=true,up:=b})[k]'(hp3 b)={r.cs[k]with cl:=true,up:=b}:=λb=>List.getElem_set_self _
 change Fc E _ [.d (.list 1 [.str a])] (.d (.list 1 [.str a]))at hc1;change Fc E _ [.d (.list 2 [DI kn,DI v])] (.d (.list 2 [DI kn,DI v]))at hc2;change In E 1 zaw [.ptr ⟨0,13,0⟩ 0 0,.d (.agg [DI nu,.str zix,.list 1 [.str a],.list 2 [DI kn,DI v],.str []])] _ _
 by_cases hv:v=1
 ·rw[if_pos hv,decide_eq_true hv]at hK;simp only[List.length_append,List.length_cons,List.length_nil,List.flatMap_append,List.flatMap_cons,List.flatMap_nil,List.length_set,mH,bxE]at hK;refine In.enter (f:=zaw) g.lim rfl rfl ?_
  repeat'((conv=>whnf);first|refine Yz ?_|(apply zaf.of;assumption)|refine zem.mk ⟨rfl,rfl,rfl,rfl,rfl,rfl,by dsimp only;omega,by dsimp only;omega⟩ ?_|refine zd5.kinds g rfl ?_|refine zxi.mk ⟨_,rfl,?_⟩|refine Cmp.tt hv ?_|refine In.enter (f:=zce) g.lim rfl rfl ?_|refine znw.of (r':=.ptr ⟨0,12,3⟩ ((0+((k:Nat):Int).toNat)*5) r.cs.length) isH rfl rfl rfl rfl hq rfl rfl rfl ?_|(refine zem.mk ⟨rfl,by omega,rfl⟩ ?_;first|rw[hp1]|rw[hp2])|refine zgp.rec0 ymg k rfl (hp3 true) (by rw[hp4];rfl) ?_|refine In.enter (f:=zc1) g.lim rfl rfl ?_|exact hK|fail)
 rw[if_neg hv,decide_eq_false hv]at hK;simp only[List.length_append,List.length_cons,List.length_nil,List.flatMap_append,List.flatMap_cons,List.flatMap_nil,List.length_set,mH,bxE]at hK;refine In.enter (f:=zaw) g.lim rfl rfl ?_
 repeat'((conv=>whnf);first|refine Yz ?_|(apply zaf.of;assumption)|refine zem.mk ⟨rfl,rfl,rfl,rfl,rfl,rfl,by dsimp only;omega,by dsimp only;omega⟩ ?_|refine zd5.kinds g rfl ?_|refine zxi.mk ⟨_,rfl,?_⟩|refine Cmp.ff hv ?_|refine In.enter (f:=zce) g.lim rfl rfl ?_|refine znw.of (r':=.ptr ⟨0,12,3⟩ ((0+((k:Nat):Int).toNat)*5) r.cs.length) isH rfl rfl rfl rfl hq rfl rfl rfl ?_|(refine zem.mk ⟨rfl,by omega,rfl⟩ ?_;first|rw[hp1]|rw[hp2])|refine zgp.rec0 ymg k rfl (hp3 false) (by rw[hp4];rfl) ?_|refine In.enter (f:=zc1) g.lim rfl rfl ?_|exact hK|fail)
end
abbrev mS(lv sl:Nat)(ev:List Evt)(r:Rgs):Mem:=[(⟨lv,sl,0⟩,.cells zdq [.ref ⟨lv,sl,1⟩ 0 ev.length ev.length,I r.kn,.ref ⟨lv,sl,2⟩ 0 r.es.length r.es.length,.ref ⟨lv,sl,3⟩ 0 r.rs.length r.rs.length,.ref ⟨lv,sl,4⟩ 0 r.cs.length r.cs.length]),
 (⟨lv,sl,1⟩,.row false zao 5 ev.length (ev.flatMap Evt.cells)),(⟨lv,sl,2⟩,.row false zag 8 r.es.length (r.es.flatMap Ent.cells)),(⟨lv,sl,3⟩,.row false zby 2 r.rs.length (r.rs.flatMap Rmv.cells)),(⟨lv,sl,4⟩,.row true zan 5 r.cs.length (r.cs.flatMap Cpl.cells))]
theorem ysk{r:Rgs}{l:List Evt}{k:Nat}(hk:k<l.length):zj2 r k (l.drop k)=if zpf r k l[k]≠0 then(rg0,k+1,zpf r k l[k])else zj2 (ya9 r l[k]) (k+1) (l.drop (k+1)):=by
 rw[List.drop_eq_getElem_cons hk,zvb]
section
variable{E:Oracle}(g:Good E)
include g
theorem yco(l:List Evt)(hl:l.length<=1000)(hb:∀e∈l,e.ns.length<=1000000/\e.vs.length<=1000000):
  In E 0 zg5 [LE l] [] λv m'=>((zj2 rg0 0 l).2.2=0->v=.tup [.ptr ⟨0,13,0⟩ 0 0,I 0,I 0]/\m'=mH l (zj2 rg0 0 l).1)/\((zj2 rg0 0 l).2.2≠0->v=.tup [.d .nilp,I (zj2 rg0 0 l).2.1,I (zj2 rg0 0 l).2.2]):=by
 refine In.enter (f:=zg5) g.lim rfl rfl ?_;have hml:(l.flatMap Evt.cells).length=l.length*5:=zae Evt.cells 5 evw l;generalize hR:zj2 rg0 0 l=R
 repeat'((conv=>whnf);first|refine Yz ?_|fail)
 refine zab.to (zab.by (σ:=List Evt×Rgs) g (λu=>u.1=l.take u.1.length/\u.1.length<=l.length/\OkR u.2/\u.2.rs.length<=u.1.length/\zj2 u.2 u.1.length (l.drop u.1.length)=R)
  (λu=>[(5,.ptr ⟨0,13,0⟩ 0 0),(14,LE l),(15,I l.length),(16,I u.1.length)]) (λu=>mH u.1 u.2) (λu=>l.length-u.1.length) ?_ ([],rg0) ⟨rfl,Nat.zero_le _,yt3,Nat.le_refl _,hR⟩) rfl rfl
 clear hR;rintro⟨ev,r⟩⟨h1,h2,ho,h3,hR⟩ih;dsimp only at h1 h2 ho h3 hR ih⊢
 by_cases hlt:ev.length<l.length
 ·rw[ysk hlt]at hR
  have hwin:win (l.flatMap Evt.cells) (((ev.length:Nat):Int).toNat*5) 5=l[ev.length].cells:=by
   rw[Int.toNat_natCast];exact zei Evt.cells 5 evw l ev.length hlt
  obtain⟨hb1,hb2⟩:=hb _ (List.getElem_mem hlt)
  have ih:=λhz:zpf r ev.length l[ev.length]=0=>ih (ev++[l[ev.length]],ya9 r l[ev.length]) ⟨by
   rw[List.length_append,List.length_singleton,List.take_succ_eq_append_getElem hlt,<-h1],by
   rw[List.length_append,List.length_singleton];omega,yt2 ho hz (by omega),by
   have:=yts r l[ev.length];dsimp only;rw[List.length_append,List.length_singleton];omega,by
   rw[if_neg (λh=>h hz)]at hR
   rw[List.length_append,List.length_singleton];exact hR⟩ (by rw[List.length_append,List.length_singleton];omega)
  simp only[List.length_append,List.length_cons,List.length_nil]at ih;generalize l[ev.length]=e at*;have hce:=ydk g e hb1 hb2
  by_cases hc:ye4 e=0
  ·rw[hc]at hce;have hq:=yoq g zdq ev r ho e hc (by omega);have hst:zpf r ev.length e=ymf r ev.length e:=by rw[zpf,if_neg (λh=>h hc)]
   by_cases ha:ymf r ev.length e=0
   ·rw[ha]at hq hst;have ih:=ih hst
    repeat'((conv=>whnf);first|refine Yz ?_|rw[hwin]|(apply zaf.of;assumption)|refine znw.of (r':=I 0) isH rfl rfl rfl rfl hq rfl rfl rfl ?_|refine yxn g ev r ho (by omega) e hst (by omega) (slot:=35) ?_|refine zab.to ih rfl rfl|fail)
   rw[hst,if_pos ha]at hR;generalize ymf r ev.length e=x at*;subst hR
   repeat'((conv=>whnf);first|refine Yz ?_|rw[hwin]|(apply zaf.of;assumption)|refine znw.of (r':=I x) isH rfl rfl rfl rfl hq rfl rfl rfl ?_|refine Cmp.ff ha ?_|(exact⟨λh=>absurd h ha,λ_=>rfl⟩)|fail)
  have hst:zpf r ev.length e=ye4 e:=by rw[zpf,if_pos hc]
  rw[hst,if_pos hc]at hR;generalize ye4 e=x at*;subst hR
  repeat'((conv=>whnf);first|refine Yz ?_|rw[hwin]|(apply zaf.of;assumption)|refine Cmp.ff hc ?_|(exact⟨λh=>absurd h hc,λ_=>rfl⟩)|fail)
 have e1:ev=l:=by rw[h1,List.take_of_length_le (by omega)]
 subst e1;rw[List.drop_of_length_le (by omega)]at hR;subst hR
 repeat'((conv=>whnf);first|refine Yz ?_|(exact⟨λ_=>⟨rfl,rfl⟩,λh=>absurd rfl h⟩)|fail)
theorem zd5.replay{l:List Evt}(hl:l.length<=1000)(hb:∀e∈l,e.ns.length<=1000000/\e.vs.length<=1000000){cx:Cx}{slot:Nat}{m:Mem}{K:V->Mem->Prop}(hf:Go.Evl.freeK cx.lv slot m=0)(hz:(zj2 rg0 0 l).2.2=0)
  (k:K (.tup [.ptr ⟨cx.lv,slot,0⟩ 0 0,I 0,I 0]) (m++mS cx.lv slot l (zj2 rg0 0 l).1)):zd5 E zg5 [LE l] cx slot m K:=by
 obtain⟨v,m',h1,h2,_⟩:=(yco g l hl hb).got;obtain⟨rfl,rfl⟩:=h2 hz;refine⟨_,_,(_,m++mS cx.lv slot l (zj2 rg0 0 l).1),h1,?_,k⟩;unfold Evl.settle;rw[hf]
 rfl
theorem zd5.replayNo{l:List Evt}(hl:l.length<=1000)(hb:∀e∈l,e.ns.length<=1000000/\e.vs.length<=1000000){cx:Cx}{slot:Nat}{m:Mem}{K:V->Mem->Prop}(hz:(zj2 rg0 0 l).2.2≠0)
  (k:K (.tup [.d .nilp,I (zj2 rg0 0 l).2.1,I (zj2 rg0 0 l).2.2]) (m++[])):zd5 E zg5 [LE l] cx slot m K:=by
 obtain⟨v,m',h1,_,h2⟩:=(yco g l hl hb).got;obtain rfl:=h2 hz;exact⟨_,_,(_,m++[]),h1,rfl,k⟩
end
def ymi(r:Rgs)(s:List UInt8)(kn d:Int)(x:Ent):Bool:=decide (x.sr=s)&&decide (x.fr<=d)&&decide (d<=x.to)&&zw6 r x kn
def yi2(r:Rgs)(s:List UInt8)(kn d:Int):Int:=r.es.foldl (λo x=>if ymi r s kn d x then x.mi else o) 1440
theorem zyr{α:Type}(p:α->Bool)(f:α->Int):∀(l:List α)(a:Int),(∀x∈l,p x=false)->l.foldl (λo x=>if p x then f x else o) a=a
 |[],a,_=>rfl
 |x::l,a,h=>by
  rw[List.foldl_cons,h x (by simp)];exact zyr p f l a λy hy=>h y (by simp[hy])
theorem yrl{α:Type}(p:α->Bool)(f:α->Int)(l:List α)(a:Int){k:Nat}(hk:k<l.length)(h:p l[k]=true)(hn:∀j,(hj:j<l.length)->k<j->p l[j]=false):l.foldl (λo x=>if p x then f x else o) a=f l[k]:=by
 have h1:l=l.take k++l[k]::l.drop (k+1):=by rw[<-List.drop_eq_getElem_cons hk,List.take_append_drop]
 have h2:∀x∈l.drop (k+1),p x=false:=λx hx=>by
  obtain⟨j,hj,rfl⟩:=List.mem_iff_getElem.1 hx;rw[List.length_drop]at hj;rw[List.getElem_drop];exact hn _ (by omega) (by omega)
 have h3:(l.take k++l[k]::l.drop (k+1)).foldl (λo x=>if p x then f x else o) a=f l[k]:=by
  rw[List.foldl_append,List.foldl_cons,zyr p f _ _ h2,h]
  rfl
 rw[<-h1]at h3;exact h3
theorem yr1{r:Rgs}{s:List UInt8}{kn d:Int}{k:Nat}(hk:k<r.es.length)(h:ymi r s kn d r.es[k]=true)(hn:∀j,(hj:j<r.es.length)->k<j->ymi r s kn d r.es[j]=false):yi2 r s kn d=r.es[k].mi:=yrl _ _ _ _ hk h hn
theorem ycz{r:Rgs}{s:List UInt8}{kn d:Int}(hn:∀j,(hj:j<r.es.length)->ymi r s kn d r.es[j]=false):yi2 r s kn d=1440:=zyr _ _ _ _ λx hx=>by
 obtain⟨j,hj,rfl⟩:=List.mem_iff_getElem.1 hx;exact hn j hj
section
variable{E:Oracle}(g:Good E)
include g
theorem zd5.backward{n:Nat}{cs:List D}{cx:Cx}{slot:Nat}{m:Mem}{K:V->Mem->Prop}(hf:Go.Evl.freeK cx.lv slot m=0)
  (k:K (.fn zaq [] [.ptr ⟨cx.lv,slot,0⟩ 0 0]) (m++[(⟨cx.lv,slot,0⟩,.cells zkm [.d (.list n cs)])])):zd5 E za3 [.d (.list n cs)] cx slot m K:=by
 have h:In E 0 za3 [.d (.list n cs)] [] λv m'=>v=.fn zaq [] [.ptr ⟨0,1,0⟩ 0 0]/\m'=[(⟨0,1,0⟩,.cells zkm [.d (.list n cs)])]:=by
  refine In.enter (f:=za3) g.lim rfl rfl ?_
  repeat'((conv=>whnf);first|refine Yz ?_|(exact⟨rfl,rfl⟩)|fail)
 obtain⟨v,m',h1,rfl,rfl⟩:=h.got;refine⟨_,_,(_,_),h1,?_,k⟩;unfold Evl.settle;rw[hf]
 rfl
theorem ysd(t:Nat)(ev:List Evt)(r:Rgs)(ho:OkR r)(s:List UInt8)(kn d:Int):Qs E zdp [.ptr ⟨0,0,0⟩ 1 0,S s,I kn,I d] (mR t ev r) (I (yi2 r s kn d)):=by
 refine⟨?_⟩;have hes:=ho.es;have hml:(r.es.flatMap Ent.cells).length=r.es.length*8:=zae Ent.cells 8 zwb r.es;refine In.enter (f:=zdp) g.lim rfl rfl ?_
 repeat'((conv=>whnf);first|refine Yz ?_|(rw[if_pos ⟨rfl,rfl⟩];refine zd5.backward g rfl ?_)|refine zd5.backward g rfl ?_|refine In.enter (f:=zaq) g.lim rfl rfl ?_|fail)
 refine zab.to (zab.by (σ:=Nat) g (λn=>n<=r.es.length/\∀j,(hj:j<r.es.length)->n<=j->ymi r s kn d r.es[j]=false)
  (λn=>[(0,.yld ⟨1,43,0⟩),(1,.ptr ⟨1,15,0⟩ 0 0),(3,I ((n:Int)-1))])
  (λ_=>mR t ev r++[(⟨1,4,0⟩,.cells zb8 [.ptr ⟨0,0,0⟩ 1 0]),(⟨1,5,0⟩,.cells zad [S s]),(⟨1,6,0⟩,.cells zc0 [I kn]),(⟨1,7,0⟩,.cells zc0 [I d]),(⟨1,8,0⟩,.cells zc0 [I 0]),(⟨1,15,0⟩,.cells zkm [.d (.list r.es.length (r.es.flatMap Ent.cells))]),
   (⟨1,43,0⟩,.loop [(4,.ptr ⟨1,4,0⟩ 0 0),(5,.ptr ⟨1,5,0⟩ 0 0),(6,.ptr ⟨1,6,0⟩ 0 0),(7,.ptr ⟨1,7,0⟩ 0 0),(8,.ptr ⟨1,8,0⟩ 0 0),(15,.fn zaq [] [.ptr ⟨1,15,0⟩ 0 0])] [16,17] zjm zjn 1 false false none)])
  (λn=>n) ?_ r.es.length ⟨Nat.le_refl _,λj hj h=>absurd hj (by omega)⟩) rfl rfl
 rintro n⟨h1,h2⟩ih;dsimp only at ih⊢
 rcases Nat.eq_zero_or_pos n with rfl|hn
 ·rw[ycz λj hj=>h2 j hj (Nat.zero_le _)]
  repeat'((conv=>whnf);first|refine Yz ?_|(exact⟨rfl,rfl,rfl,rfl,rfl,rfl,trivial⟩)|fail)
 obtain⟨k,rfl⟩:∃k,n=k+1:=⟨n-1,by omega⟩
 have hk:k<r.es.length:=by omega
 have e1:((k+1:Nat):Int)-1=k:=by omega
 have hwin:win (r.es.flatMap Ent.cells) (((k:Nat):Int).toNat*8) 8=r.es[k].cells:=by
  rw[Int.toNat_natCast];exact zei Ent.cells 8 zwb r.es k hk
 have hq:=yx6 g t ev r ho kn k hk
 have ih:=λh:ymi r s kn d r.es[k]=false=>ih k ⟨by omega,λj hj hkj=>by
  by_cases e:j=k
  ·subst e;exact h
  exact h2 j hj (by omega)⟩ (by omega)
 rw[e1];have hhit:ymi r s kn d r.es[k]=(decide (r.es[k].sr=s)&&decide (r.es[k].fr<=d)&&decide (d<=r.es[k].to)&&zw6 r r.es[k] kn):=rfl
 by_cases hs:r.es[k].sr=s
 ·by_cases hf:r.es[k].fr<=d
  ·by_cases ht:d<=r.es[k].to
   ·cases hc:zw6 r r.es[k] kn with
    | true=>
     rw[hc]at hq;rw[yr1 hk (by rw[hhit,decide_eq_true hs,decide_eq_true hf,decide_eq_true ht,hc];rfl) λj hj hjk=>h2 j hj (by omega)]
     repeat'((conv=>whnf);first
     | refine Yz ?_
      | (rw[hwin])
      | (refine Rnd.enter g.lim ?_)
      | (refine Cmp.tt hs ?_)
      | (refine znw.of (r':=B true) isR rfl rfl rfl rfl hq rfl rfl rfl ?_)
      | (exact⟨rfl,rfl,rfl,rfl,rfl,rfl,trivial⟩)
      | fail)
    | false=>
     rw[hc]at hq;have ih:=ih (by rw[hhit,hc,Bool.and_false])
     repeat'((conv=>whnf);first|refine Yz ?_|rw[hwin]|refine Rnd.enter g.lim ?_|refine Cmp.tt hs ?_|refine znw.of (r':=B false) isR rfl rfl rfl rfl hq rfl rfl rfl ?_|refine zab.to ih rfl rfl|fail)
   have ih:=ih (by rw[hhit,decide_eq_false ht,Bool.and_false,Bool.false_and])
   repeat'((conv=>whnf);first|refine Yz ?_|rw[hwin]|refine Rnd.enter g.lim ?_|refine Cmp.tt hs ?_|refine zab.to ih rfl rfl|fail)
  have ih:=ih (by rw[hhit,decide_eq_false hf,Bool.and_false,Bool.false_and,Bool.false_and])
  repeat'((conv=>whnf);first|refine Yz ?_|rw[hwin]|refine Rnd.enter g.lim ?_|refine Cmp.tt hs ?_|refine zab.to ih rfl rfl|fail)
 have ih:=ih (by rw[hhit,decide_eq_false hs,Bool.false_and,Bool.false_and,Bool.false_and])
 repeat'((conv=>whnf);first|refine Yz ?_|rw[hwin]|refine Rnd.enter g.lim ?_|refine Cmp.ff hs ?_|refine zab.to ih rfl rfl|fail)
end
abbrev rgL(l:List Evt):Rgs:=(zj2 rg0 0 l).1
abbrev erL(l:List Evt):Int:=(zj2 rg0 0 l).2.2
structure yy8 where
 kn:Int
 mi:Int
def yy8.cells(t:yy8):List D:=[DI t.kn,DI t.mi]
theorem yo2{l:List Evt}(hl:l.length<=1000)(h:erL l=0):OkR (rgL l):=yjl l rg0 0 yt3 (Nat.le_refl _) (by omega) h
section
variable{E:Oracle}(g:Good E)
include g
theorem yui(n:Int):Fc E zc7 [I n] (I (rng n 0 99999)):=by
 refine g.fn rfl rfl ?_;have h:=z5n g n 0 99999
 repeat'((conv=>whnf);first|refine Yz ?_|(apply zaf.of;assumption)|refine Ret.mk rfl|fail)
theorem yim(l:List Evt)(hl:l.length<=1000)(hb:∀e∈l,e.ns.length<=1000000/\e.vs.length<=1000000)(fs:List Int)(hfs:fs.length<=1000):
  In E 0 zgl [LE l,LI fs] [] λv m'=>(zar [erL l,zar fs]=0->v=.tup [.ptr ⟨0,11,0⟩ 1 0,I 0]/\m'=mS 0 11 l (rgL l))/\(zar [erL l,zar fs]≠0->v=.tup [.d .nilp,I (zar [erL l,zar fs])]):=by
 have hf:=z2u g fs (by omega);have hf2:=zmo g (erL l) (zar fs);refine In.enter (f:=zgl) g.lim rfl rfl ?_
 by_cases hz:erL l=0
 ·have hr:=@zd5.replay E g l hl hb;rw[hz]at hf2⊢
  have e0:zar [0,zar fs]=zar fs:=by
   have h1:∀x:Int,zar [x]=x:=λx=>by
    by_cases h:x=0
    ·subst h;rfl
    unfold zar;rw[if_neg h]
   exact h1 _
  rw[e0]at hf2⊢;generalize zar fs=x at*
  by_cases hx:x=0
  ·subst hx
   repeat'((conv=>whnf);first|refine Yz ?_|refine hr rfl hz ?_|(apply zaf.of;assumption)|(exact⟨λ_=>⟨rfl,rfl⟩,λh=>absurd rfl h⟩)|fail)
  ·repeat'((conv=>whnf);first|refine Yz ?_|refine hr rfl hz ?_|(apply zaf.of;assumption)|refine Cmp.ff hx ?_|(exact⟨λh=>absurd h hx,λ_=>rfl⟩)|fail)
 have hr:=@zd5.replayNo E g l hl hb;have e0:zar [erL l,zar fs]=erL l:=by unfold zar;rw[if_neg hz]
 rw[e0]at hf2⊢;generalize zar fs=x at*;unfold erL at*;generalize(zj2 rg0 0 l).2.2=z at*
 repeat'((conv=>whnf);first|refine Yz ?_|refine hr hz ?_|(apply zaf.of;assumption)|refine Cmp.ff hz ?_|(exact⟨λh=>absurd h hz,λ_=>rfl⟩)|fail)
theorem zd5.asked{l:List Evt}(hl:l.length<=1000)(hb:∀e∈l,e.ns.length<=1000000/\e.vs.length<=1000000){fs:List Int}(hfs:fs.length<=1000){cx:Cx}{slot:Nat}{m:Mem}{K:V->Mem->Prop}(hf:Go.Evl.freeK cx.lv slot m=0)(hz:zar [erL l,zar fs]=0)
  (k:K (.tup [.ptr ⟨cx.lv,slot,0⟩ 1 0,I 0]) (m++mS cx.lv slot l (rgL l))):zd5 E zgl [LE l,LI fs] cx slot m K:=by
 obtain⟨v,m',h1,h2,_⟩:=(yim g l hl hb fs hfs).got;obtain⟨rfl,rfl⟩:=h2 hz;refine⟨_,_,(_,m++mS cx.lv slot l (rgL l)),h1,?_,k⟩;unfold Evl.settle;rw[hf]
 rfl
theorem zd5.askedNo{l:List Evt}(hl:l.length<=1000)(hb:∀e∈l,e.ns.length<=1000000/\e.vs.length<=1000000){fs:List Int}(hfs:fs.length<=1000){cx:Cx}{slot:Nat}{m:Mem}{K:V->Mem->Prop}{x:Int}(hx:zar [erL l,zar fs]=x)(hz:x≠0)
  (k:K (.tup [.d .nilp,I x]) (m++[])):zd5 E zgl [LE l,LI fs] cx slot m K:=by
 subst hx;obtain⟨v,m',h1,_,h2⟩:=(yim g l hl hb fs hfs).got;obtain rfl:=h2 hz;exact⟨_,_,(_,m++[]),h1,rfl,k⟩
end
end Go.Proofs.YtkflcbhclegghaaGreatDoor.Co
