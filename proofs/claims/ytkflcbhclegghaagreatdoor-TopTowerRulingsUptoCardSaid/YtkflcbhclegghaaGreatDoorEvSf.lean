
/-
 slices.SortFunc at records of plain cells, given whole, for a comparing function whose code is known.
-/
import Derived.Test.YtkflcbhclegghaaGreatDoorEvExt
import Derived.Test.YtkflcbhclegghaaGreatDoorEvW
import Derived.Shelf.SlSortCmp.NoneTotal
namespace Go.Evl
open Go.RowKit Go.Sort Go.Shelf Go.Proofs Go.Lib
def z7g:D->Value
 |.int k n=>.int k n
 |.str s=>.string ⟨s.toArray⟩
 |.bool b=>.bool b
 |_=>.nilIface
def z6m:D->Bool
 |.int ..=>true
 |.str _=>true
 |.bool _=>true
 |_=>false
theorem ybd{w:World}{Im:Nat->Nat->Prop}:∀(ds:List D)(vs:List Value),(∀d∈ds,z6m d=true)->DRs w Im ds vs->vs=ds.map z7g
 |[],vs,_,h=>h
 |d::r,vs,hl,h=>by
  obtain⟨y,zs,rfl,_,h2,h3⟩:=h;rw[ybd r zs (λx hx=>hl x (by simp[hx])) h3];have hd:=hl d (by simp);cases d<;>simp[z6m]at hd<;>simp only[DR]at h2<;>subst h2<;>rfl
theorem zu7(w:World)(Im:Nat->Nat->Prop):∀(ds:List D),(∀d∈ds,z6m d=true)->DRs w Im ds (ds.map z7g)
 |[],_=>rfl
 |d::r,hl=>by
  refine⟨_,_,rfl,?_,?_,zu7 w Im r λx hx=>hl x (by simp[hx])⟩
  ·have hd:=hl d (by simp);cases d<;>simp[z6m]at hd<;>rfl
  have hd:=hl d (by simp);cases d<;>simp[z6m]at hd<;>simp[DR,z7g]
theorem yid{α:Type}[Inhabited α]{enc:α->List Value}{k:Nat}(hk:∀x,(enc x).length=k):∀(l:List α)(t:Nat),t<l.length*k->(l.flatMap enc)[t]? =some ((enc l.toArray[t/k]!)[t%k]!)
 |[],t,h=>by simp at h
 |x::r,t,h=>by
  have k0:0<k:=by
   rcases Nat.eq_zero_or_pos k with e|e
   ·subst e;simp at h
   exact e
  rw[List.flatMap_cons]
  by_cases ht:t<k
  ·rw[List.getElem?_append_left (by rw[hk];exact ht),Nat.div_eq_of_lt ht,Nat.mod_eq_of_lt ht];have h0:(x::r).toArray[0]! =x:=by simp
   rw[h0];have hl:t<(enc x).length:=by rw[hk];exact ht
   rw[List.getElem?_eq_getElem hl,getElem!_pos (enc x) t hl]
  have hlt:t-k<r.length*k:=by rw[List.length_cons,Nat.succ_mul]at h;omega
  rw[List.getElem?_append_right (by rw[hk];omega),hk,yid hk r (t-k) hlt]
  have e1:t/k=(t-k)/k+1:=by
   rw[<-Nat.add_div_right _ k0,Nat.sub_add_cancel (by omega)]
  have e2:t%k=(t-k)%k:=(Nat.mod_eq_sub_mod (by omega));have hq:(t-k)/k<r.length:=Nat.div_lt_of_lt_mul (by rw[Nat.mul_comm];exact hlt)
  have h0:(x::r).toArray[t/k]! =r.toArray[(t-k)/k]! :=by
   rw[e1];simp[hq]
  rw[h0,e2]
theorem yku{α:Type}[Inhabited α]{enc:α->List Value}{k:Nat}(hk:∀x,(enc x).length=k)(d:Array α):(flatK enc k d).toList=d.toList.flatMap enc:=by
 have hlen:(d.toList.flatMap enc).length=d.size*k:=by
  have key:∀l:List α,(l.flatMap enc).length=l.length*k:=by
   intro l;induction l with
   |nil=>simp
   |cons x r ih=>rw[List.flatMap_cons,List.length_append,ih,hk,List.length_cons,Nat.succ_mul];omega
  rw[key,Array.length_toList]
 refine List.ext_getElem? λt=>?_
 by_cases ht:t<d.size*k
 ·rw[yid hk d.toList t (by simpa using ht)];have h1:=get_flatK enc k d t ht;have h2:t<(flatK enc k d).size:=by simpa using ht
  rw[Array.getElem?_toList,Array.getElem?_eq_getElem h2,<-getElem!_pos (flatK enc k d) t h2,h1]
 rw[List.getElem?_eq_none (by rw[Array.length_toList,size_flatK];omega),List.getElem?_eq_none (by omega)]
theorem yrm{w:World}{g:Nat}{cur:Array Value}{e:TypeId}{F:Array Value}(hb:w.heap[g]?=some (.cells cur e (0,0)))(ht:cur.toList.take F.size=F.toList):Holds id w g 0 F:=by
 intro j hj;refine⟨?_,by simp[World.frozen?,hb]⟩;have h1:(cur.toList.take F.size)[j]?=F.toList[j]?:=by rw[ht]
 rw[List.getElem?_take_of_lt hj]at h1;simp only[World.cell?,hb,Nat.zero_add];simp only[Option.isSome_none,Bool.false_eq_true,if_false];rw[<-Array.getElem?_toList,h1,Array.getElem?_toList,Array.getElem?_eq_getElem hj,getElem!_pos F j hj]
 rfl
theorem ywp(cur F:Array Value)(h:F.size<=cur.size):(putCells id 0 F cur).toList.take F.size=F.toList:=by
 refine List.ext_getElem? λj=>?_
 by_cases hj:j<F.size
 ·rw[List.getElem?_take_of_lt hj,Array.getElem?_toList,Array.getElem?_toList];simp[putCells,hj,show j<cur.size by omega]
 rw[List.getElem?_take_eq_none (by omega),List.getElem?_eq_none (by simp;omega)]
theorem yvc{w:World}{g n:Nat}{os:Array Obj}{cur:Array Value}{e:TypeId}{fr:Nat×Nat}(F:Array Value)(hb:w.heap[g]?=some (.cells cur e fr)):
  (grow (putRow id (Sort.ahead w n) g 0 F) os).heap[g]?=some (.cells (putCells id 0 F cur) e fr):=by
 have hg:g<w.heap.size:=(Array.getElem?_eq_some_iff.1 hb).1;rw[heap_grow_old _ _ (by simpa using hg)];simp[putRow,mapBlock,Sort.ahead,Array.getElem?_modify,hb,onCells]
theorem yky{w:World}{g n:Nat}{os:Array Obj}(F:Array Value):w.grownBy (grow (putRow id (Sort.ahead w n) g 0 F) os) (some g):=by
 refine⟨rfl,rfl,rfl,by simp,λk hk hne=>?_⟩;rw[heap_grow_old _ _ (by simpa using hk)];have:g≠k:=λe=>hne (by rw[e])
 simp[putRow,mapBlock,Sort.ahead,Array.getElem?_modify,this]
section
variable{P:Program}{gl:Globs}
theorem ym7{Γ:Nat->Option CF}(hmx:P.follows .mixedOrders=true)(hΓ:CodeOk P gl Γ){n f:Nat}{x y:List D}{v:V}{m':Mem}{c:Int}(hx:∀d∈x,z6m d=true)(hy:∀d∈y,z6m d=true)
  (h:iter Γ (λ_=>none) n (.call 0 f [.d (.agg x),.d (.agg y)] [])=some (.val v m'))(hv:freeze true m' v=some (.int .i64 c)){s:S}(hs:Sim (ztl P gl) gl s)(hm:s.m=[]):
  Calls P f #[.agg (x.map z7g).toArray,.agg (y.map z7g).toArray] s.w λe w'=>e=.returned (.int .i64 c)/\∃q os',w'=grow (s.w.drewN q) os':=by
 letI:Clk:=⟨True⟩
 have hX:ExternOk P gl (λ_=>none):=λf x h=>by cases h
 have hxs:VRt s [.d (.agg x),.d (.agg y)] [.agg (x.map z7g).toArray,.agg (y.map z7g).toArray]:=by
  refine⟨_,_,rfl,?_,_,_,rfl,?_,rfl⟩
  ·exact⟨_,rfl,by simpa using zu7 s.w s.Im x hx⟩
  exact⟨_,rfl,by simpa using zu7 s.w s.Im y hy⟩
 refine(zyj hmx hX hΓ h hs hm hxs).mono λe w' hh=>?_
 obtain⟨s',xv,rfl,rfl,hsim,hE,hm',hv'⟩:=hh;subst hm';have hd:=ya3 (lo:=0) hsim v _ xv (λ_ _=>Nat.zero_le _) hv hv';have hd:xv=.int .i64 c:=hd;refine⟨by rw[hd],s'.w.drawn-s.w.drawn,s'.w.heap.extract s.w.heap.size s'.w.heap.size,?_⟩;have h1:=hE.os;have h2:=hE.tape.tape;have h3:=hE.tape.drawn trivial;have h4:=hE.output
 have h5:s'.w.heap=s.w.heap++s'.w.heap.extract s.w.heap.size s'.w.heap.size:=by
  refine Array.ext_getElem? λi=>?_
  have hsz:=hE.size
  by_cases hi:i<s.w.heap.size
  ·rw[Array.getElem?_append_left hi];exact(hE.frame i hi λj o hj _=>by rw[hm]at hj;cases hj).1
  rw[Array.getElem?_append_right (by omega),Array.getElem?_extract]
  by_cases hi2:i<s'.w.heap.size
  ·rw[if_pos (by omega)];congr 1;omega
  rw[if_neg (by omega),Array.getElem?_eq_none (by omega)]
 have key:∀w w':World,w'.os=w.os->w'.tape=w.tape->w.drawn<=w'.drawn->w'.output=w.output->∀os',w'.heap=w.heap++os'->w'=grow (w.drewN (w'.drawn-w.drawn)) os':=by
  rintro⟨a,b,c,d,e⟩⟨a',b',c',d',e'⟩h1 h2 h3 h4 os' h5;simp only at h1 h2 h3 h4 h5;subst h1 h2 h4 h5;simp only[grow,World.drewN,World.mk.injEq,true_and];exact⟨by omega,trivial⟩
 exact key _ _ h1 h2 h3 h4 _ h5
theorem yio{α:Type}{lt:α->α->Bool}(h:SWO lt)(x:α):∀l:List α,(l.Pairwise λa b=>lt b a=false)->(yw2 lt x l).Pairwise λa b=>lt b a=false
 |[],_=>List.pairwise_singleton ..
 |y::r,hs=>by
  have h0:=List.pairwise_cons.1 hs
  have asym:∀a b,lt a b=true->lt b a=false:=λa b hab=>by
   cases hba:lt b a with
   |false=>rfl
   |true=>have:=h.trans a b a hab hba;rw[h.irrefl]at this;cases this
  unfold yw2
  split
  ·rename_i c;refine List.pairwise_cons.2 ⟨λz hz=>?_,yio h x r h0.2⟩
   rcases List.mem_cons.1 ((z4k lt x r).mem_iff.1 hz)with rfl|hz
   ·exact asym _ _ c
   exact h0.1 z hz
  rename_i c;have c:lt y x=false:=by simpa using c
  refine List.pairwise_cons.2 ⟨λz hz=>?_,hs⟩
  rcases List.mem_cons.1 hz with rfl|hz
  ·exact c
  exact h.ntrans _ _ _ (h0.1 z hz) c
theorem yj6{α:Type}{lt:α->α->Bool}(h:SWO lt):∀l:List α,(yp1 lt l).Pairwise λa b=>lt b a=false
 |[]=>.nil
 |x::r=>yio h x _ (yj6 h r)
theorem ylt{α:Type}[Inhabited α] [DecidableEq α]{lt:α->α->Bool}(h:SWO lt){l:List α}{d':Array α}(ht:yyt lt l=true)(hp:PermIn 0 l.toArray.size l.toArray d')(hs:SortedIn lt 0 l.toArray.size d'):d'.toList=yp1 lt l:=by
 obtain⟨hsz,_,hperm⟩:=hp;have e1:d'.extract 0 l.toArray.size=d':=by rw[<-hsz];exact Array.extract_size
 rw[e1,Array.extract_size]at hperm;have hperm:d'.toList.Perm l:=hperm
 refine List.Perm.eq_of_pairwise (le:=λx y=>lt y x=false) (λa b ha hb h1 h2=>?_) ?_ (yj6 h l) (hperm.trans (zup lt l).symm)
 ·have ha:a∈l:=hperm.mem_iff.1 ha;have hb:b∈l:=(zup lt l).mem_iff.1 hb;unfold yyt at ht;have h3:=List.all_eq_true.1 (List.all_eq_true.1 ht a ha) b hb;rw[h1,h2]at h3;simpa using h3
 refine List.pairwise_iff_getElem.2 λi j hi hj hij=>?_
 have hi':i<d'.size:=by simpa using hi
 have hj':j<d'.size:=by simpa using hj
 have:=hs i j (Nat.zero_le _) hij (by rw[<-hsz];exact hj');rw[getElem!_pos d' i hi',getElem!_pos d' j hj']at this;simpa using this
set_option maxHeartbeats 2000000 in
theorem given_sortF [Clk]{α:Type}[Inhabited α] [DecidableEq α]{cell:α->List D}{dec:List D->Option (List α)}{k f:Nat}{cf:α->α->Int}(hk:∀x,(cell x).length=k)(hk0:0<k)(leaf:∀x,∀d∈cell x,z6m d=true)
  (hdec:∀ds l,dec ds=some l->ds=l.flatMap cell)(swo:SWO (ltOf cf)){ρ:Go.Shelf.Ren}(L:SlLaysF0.n6 P ρ)(aE:∀w,(isAgg (ρ.t 24)).run P w=.ok true w)(zE:∀w,(Go.sizeOf (ρ.t 24)).run P w=.ok k w)
  {Γ:Nat->Option CF}(hmx:P.follows .mixedOrders=true)(hΓ:CodeOk P gl Γ)
  (hcl:∀x y,∃n v m',iter Γ (λ_=>none) n (.call 0 f [.d (.agg (cell x)),.d (.agg (cell y))] [])=some (.val v m')/\freeze true m' v=some (.int .i64 (cf x y)))
  {fn:Nat}(hf:ρ.f 6=fn)(he:Enters P fn)(hef:Enters P f):GivenOk P gl fn (yj5 (ltOf cf) cell dec k f):=by
 refine⟨he,λargs m v m' h s hs hm xs hxs=>?_⟩;subst hf;subst hm;unfold yj5 at h
 split at h<;>try cases h
 ·split at h<;>try cases h
  rename_i hgf;subst hgf;obtain⟨x,ys,rfl,hx,y,zs,rfl,hy,hz⟩:=hxs;simp only[VRt]at hz;subst hz;obtain⟨a,rfl⟩:∃a,x=.slice a 0 0:=hx
  rw[callsIn_wide];refine(AnyF.slices_SortFunc_none L a 0 y s.w).mono λe w' hh'=>?_
  obtain⟨rfl,rfl⟩:=hh';exact⟨s,_,rfl,rfl,hs,Ext.refl _ _,rfl,⟨#[],rfl,rfl⟩⟩
 rename_i o len top g;obtain⟨x,ys,rfl,hx,y,zs,rfl,hy,hz⟩:=hxs;simp only[VRt]at hz;subst hz;obtain⟨hone,hp⟩:=hx;rw[callsIn_wide];split at h<;>try cases h
 rename_i t sz n ds hr;split at h<;>try cases h
 rename_i hc;obtain⟨rfl,rfl,rfl,rfl,hbig⟩:=hc
 have hy:y=.func (.func g) #[] #[]:=by
  obtain⟨a1,a2,rfl,e1,e2⟩:=hy;simp only[VRt]at e1 e2;rw[show a1=#[]from by simpa using e1,show a2=#[]from by simpa using e2]
 subst hy;rw[hr]at hp;obtain⟨hz,rs,hown,hd,him⟩:=hs.objs o _ hr
 split at h
 ·rename_i h0;subst h0;simp only[Option.some.injEq,Prod.mk.injEq]at h;obtain⟨rfl,rfl⟩:=h
  have hx1:∃p cap,x=.slice p 0 cap:=by
   rcases hp.2 rfl with⟨_,_,e⟩|⟨hne,_⟩|⟨hne,_⟩
   ·rcases hown.2 with⟨e2,_⟩|⟨g,cap,cur,hg1,_⟩
    ·exact⟨_,_,e.trans e2⟩
    exact⟨_,_,e.trans hg1⟩
   ·exact absurd ⟨rfl,rfl⟩ hne
   exact absurd ⟨rfl,rfl⟩ hne
  obtain⟨p,cap,rfl⟩:=hx1;refine(AnyF.slices_SortFunc_none L p cap _ s.w).mono λe w' hh'=>?_
  obtain⟨rfl,rfl⟩:=hh';exact⟨s,_,rfl,rfl,hs,Ext.refl _ _,rfl,⟨#[],rfl,rfl⟩⟩
 rename_i hn0;split at h<;>try cases h
 rename_i l hl;split at h<;>try cases h
 rename_i htl;obtain⟨htie,hln⟩:=htl;subst hln;have hds:=hdec ds l hl;subst hds
 have hlf:∀l:List α,∀d∈l.flatMap cell,z6m d=true:=λl d hd=>by
  obtain⟨x,_,hx⟩:=List.mem_flatMap.1 hd;exact leaf x d hx
 have hrs:=ybd _ rs (hlf l) hd;subst hrs;have hmap:∀l:List α,(l.flatMap cell).map z7g=l.flatMap λx=>(cell x).map z7g:=λl=>List.map_flatMap
 have hkE:∀x:α,((cell x).map z7g).length=sz:=λx=>by rw[List.length_map];exact hk x
 rcases hown.2 with⟨_,h0⟩|⟨g1,cap,cur,hg1,_,hg2,hnc,hcm,hcs,hct⟩
 ·exact absurd h0 hn0
 have hx1:x=.slice (some ⟨g1,0,none⟩) l.length cap:=by
  rcases hp.2 rfl with⟨_,_,e⟩|⟨hne,_⟩|⟨hne,_⟩
  ·rw[e,hg1]
  ·exact absurd ⟨rfl,rfl⟩ hne
  exact absurd ⟨rfl,rfl⟩ hne
 subst hx1;have hgs:g1<s.w.heap.size:=(Array.getElem?_eq_some_iff.1 hg2).1
 have hnim:∀j,¬s.Im g1 j:=λj hj=>by
  have:=(him g1 (by rw[hg1];rfl) j).1 hj;simp at this
 have hF:∀d:Array α,(flatK (λx=>(cell x).map z7g) sz d).toList=(d.toList.flatMap cell).map z7g:=λd=>by rw[yku hkE,hmap]
 have hgw:∀(m:Nat)(dk:Array α)(os:Array Obj),s.w.grownBy (sortWorldK (λx=>(cell x).map z7g) sz s.w g1 0 m dk os) (some g1):=λm dk os=>yky _
 have hgb:∀(m:Nat)(dk:Array α)(os:Array Obj)c,c<s.w.heap.size->c≠g1->(sortWorldK (λx=>(cell x).map z7g) sz s.w g1 0 m dk os).heap[c]?=s.w.heap[c]?:=λm dk os c hc hne=>(hgw m dk os).block c hc (λe=>hne (Option.some.inj e))
 have hcmp:CmpLays P g #[] (λx=>(cell x).map z7g) sz cf g1 0 l.toArray.size s.w:=λm os dk _ x y=>by
  obtain⟨n,v,m',h1,h2⟩:=hcl x y
  have hs0:Sim (ztl P gl) gl ⟨s.φ,[],sortWorldK (λx=>(cell x).map z7g) sz s.w g1 0 m dk os,s.Im⟩:=by
   refine⟨λi o h=>by simp[look]at h,λi j o o' b _ h=>by simp[look]at h,λb j h=>Nat.lt_of_lt_of_le (hs.imlt b j h) (hgw m dk os).size,λg cs hg=>CR.ext (λ_ _ h=>h) (λb j hb=>?_) g 0 cs (hs.glob g cs hg),λg cs hg=>?_⟩
   ·exact World.cell?_of_block (hgb m dk os b (hs.imlt b j hb) λe=>by subst e;exact hnim j hb)
   obtain⟨t1,t2,arr,t,fz,t3,t4⟩:=hs.tabs g cs hg;refine⟨λi o h=>by simp[look]at h,t2,arr,t,fz,?_,t4⟩;rw[<-t3];exact hgb m dk os g (Array.getElem?_eq_some_iff.1 t3).1 λe=>t1 o _ hr (by simp) (by rw[hg1,e];rfl)
  have:=ym7 hmx hΓ (leaf x) (leaf y) h1 h2 hs0 rfl;simpa using this
 have hH:HoldsK (λx=>(cell x).map z7g) sz s.w g1 0 l.toArray:=by
  refine yrm hg2 ?_;rw[hF,size_flatK];simpa using hct
 refine(AnyQ.slices_SortFunc L sz aE zE (λx=>(cell x).map z7g) hkE (λx v hv=>?_) cf swo g #[] g1 0 cap l.toArray s.w (λargs w=>zk4 hef) hcmp hH hgs hbig).mono λe w' hh'=>?_
 ·obtain⟨d,hd,rfl⟩:=List.mem_map.1 hv;have:=leaf x d hd;cases d<;>simp[z6m]at this<;>rfl
 obtain⟨rfl,d',m,os,hpm,hso,rfl⟩:=hh';have hd':=ylt swo htie hpm hso;have hdl:d'.size=l.length:=by have:=hpm.1;simpa using this
 have hgr:=hgw m d' os
 obtain⟨k1,k2⟩:=hs.change o (.row true t sz l.length ((yp1 (ltOf cf) l).flatMap cell)) (s.φ o) _ s.Im hgr.os (Tk.of hgr.tape) hgr.output hgr.size
  (λc hc hne=>hgb m d' os c hc λe=>hne ⟨_,hr,by simp⟩ (by rw[hg1,e];rfl)) (λ_ _ h=>h)
  (λc j hj=>World.cell?_of_block (hgb m d' os c (hs.imlt c j hj) λe=>by subst e;exact hnim j hj)) (λ_ _ h=>.inl h) (λc j h=>Nat.lt_of_lt_of_le (hs.imlt c j h) hgr.size)
  (λc hc=>.inr ⟨⟨_,hr,by simp⟩,hc⟩) (λob hob=>by rw[hr]at hob;cases hob;exact⟨λh=>h,rfl,rfl,Nat.le_refl _,λ_=>rfl⟩)
  (λ_=>by
   refine⟨hz,((yp1 (ltOf cf) l).flatMap cell).map z7g,?_,zu7 _ _ _ (hlf _),λb hb j=>⟨λhj=>?_,λhj=>by simp at hj⟩⟩
   ·rw[hg1]
    refine⟨?_,.inr ⟨g1,cap,_,rfl,Nat.zero_le _,yvc _ hg2,hnc,hcm,by simpa[putCells]using hcs,?_⟩⟩
    ·have:=congrArg List.length (hF d');rw[hd']at this;rw[<-this];simp[hdl]
    have h1:=ywp cur (flatK (λx=>(cell x).map z7g) sz d') (by rw[size_flatK,hdl,hcs];exact Nat.mul_le_mul_right _ hnc);rw[hF,hd',size_flatK,hdl]at h1;exact h1
   exact(him b hb j).1 hj)
 rw[zsr]at k1 k2;exact⟨_,_,rfl,rfl,k1,k2,rfl,⟨#[],rfl,rfl⟩⟩
end
end Go.Evl
