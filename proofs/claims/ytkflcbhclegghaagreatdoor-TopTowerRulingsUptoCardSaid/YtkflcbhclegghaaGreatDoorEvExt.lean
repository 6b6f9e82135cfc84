
/-
 Functions of Go's library that are given whole: their evaluator's meaning, out of the shelf's proved contracts: strconv.Itoa; strings.Builder's copyCheck and String.
-/
import Derived.Test.YtkflcbhclegghaaGreatDoorEvD
import Derived.Test.YtkflcbhclegghaaGreatDoorEvX
import Derived.Test.YtkflcbhclegghaaGreatDoorStrExact
import Derived.Shelf.Strconv.Itoa3
import Derived.Below
namespace Go.Evl
open Go.RowKit Go.Sort Go.Shelf Go.Proofs
section
variable{P:Program}{gl:Globs}
def GivenOk [Clk](P:Program)(gl:Globs)(f:Nat)(x:List V->Mem->Option (V×Mem)):Prop:=
 Enters P f/\∀args m v m',x args m=some (v,m')->∀s,Sim (ztl P gl) gl s->s.m=m->∀xs:List Value,VRt s args xs->CallsIn Fence.wide 0 P f xs.toArray s.w (zxk (ztl P gl) gl s v m')
theorem z7f:∀(f u:Nat),u<10^f->0<f->zlg f u=Lib.decDigits u
 |0,_,_,h=>absurd h (Nat.lt_irrefl 0)
 |f+1,u,h,_=>by
  rw[Lib.decDigits];simp only[zlg]
  by_cases hu:u<10
  ·rw[if_pos hu,dif_pos hu]
  rw[if_neg hu,dif_neg hu];have hp:10^(f+1)=10^f*10:=Nat.pow_succ ..
  have hf:0<f:=by
   cases f with
   |zero=>simp at h;omega
   |succ f=>omega
  rw[z7f f (u/10) (by omega) hf]
def yx5:List D:=Lib.pow10Tab.map (.int .u64)
theorem yys{s:S}{name:String}{k:IntKind}{zs:List Int}{g:Nat}(hs:Sim (ztl P gl) gl s)(hn:P.globalNamed name=some g)(hg:(g,zs.map (.int k))∈gl):Lib.TabIs P s.w name k zs:=by
 obtain⟨_,_,arr,t,fz,h3,h4⟩:=hs.tabs g _ hg;have hc:=hs.glob g _ hg;unfold Lib.TabIs World.var?;rw[hn];simp only[Option.bind_some,h3,Option.some.injEq]
 have key:∀(zs:List Int)(o:Nat),CR s.w s.Im g o (zs.map (.int k))->∀j,j<zs.length->arr[o+j]?=(zs[j]?).map (.int k):=by
  intro zs;induction zs with
  |nil=>intro o _ j hj;simp at hj
  |cons z r ih=>
   intro o h j hj;simp only[List.map_cons,CR,DR]at h;obtain⟨_,⟨x,h1,_,rfl⟩,h5⟩:=h;cases j with
   |zero=>
    have:s.w.cell? ⟨g,o,none⟩=arr[o]?:=by simp[World.cell?,h3]
    rw[Nat.add_zero,<-this,h1];rfl
   |succ j=>
    have:=ih (o+1) h5 j (by simpa using hj);rw[show o+(j+1)=o+1+j by omega,this];simp
 apply Array.ext';apply List.ext_getElem?;intro j;rw[Array.getElem?_toList];have hl:arr.size=zs.length:=by simpa using h4
 by_cases hj:j<zs.length
 ·have:=key zs 0 hc j hj;rw[Nat.zero_add]at this;rw[this];simp
 rw[Array.getElem?_eq_none (by omega)];exact(List.getElem?_eq_none (by simp;omega)).symm
theorem yq7 [Clk]{s:S}(hs:Sim (ztl P gl) gl s){v:V}{x:Value}{w':World}(hv:∀s':S,VR s' v x)(hw:∃k os,w'=grow (s.w.drewN k) os):zxk (ztl P gl) gl s v s.m (.returned x) w':=by
 obtain⟨k,os,rfl⟩:=hw
 obtain⟨h1,h2⟩:=hs.calm (grow (s.w.drewN k) os) s.Im rfl Tk.of rfl (by simp[grow,World.drewN]) (λb hb=>by
  have:b<(s.w.drewN k).heap.size:=hb
  rw[heap_grow_old _ _ this];rfl) (λ_ _ h=>h) (λ_ _ h=>.inl h) (λb j h=>Nat.lt_of_lt_of_le (hs.imlt b j h) (by simp[grow,World.drewN]))
 exact⟨_,x,rfl,rfl,h1,h2,rfl,hv _⟩
theorem given_itoa [Clk]{ρ:Go.Shelf.Ren}(L:LaysM.n171 P ρ){f:Nat}(hf:ρ.f 171=f)(he:Enters P f){g:Nat}(hn:P.globalNamed "internal/strconv.uint64pow10" =some g)(hg:(g,yx5)∈gl):GivenOk P gl f itoaX:=by
 refine⟨he,λargs m v m' h s hs hm xs hxs=>?_⟩;subst hf;unfold itoaX at h
 split at h
 ·rename_i n
  split at h
  ·rename_i hn0;simp only[Option.some.injEq,Prod.mk.injEq]at h;obtain⟨rfl,rfl⟩:=h;obtain⟨x,ys,rfl,hx,hy⟩:=hxs;simp only[VRt]at hy;subst hy;have hx:x=.int .i64 n:=hx;subst hx;rw[callsIn_wide];refine(Any.strconv_Itoa L n (by omega) (by omega) s.w (yys hs hn hg)).mono λe w' hh=>?_
   obtain⟨rfl,hw⟩:=hh;subst hm;refine yq7 hs (λs'=>?_) hw;show Value.string _=Value.string _
   have:Lib.itoa n=zlg 20 n.toNat:=by
    rw[z7f 20 n.toNat (by omega) (by omega)];simp[Lib.itoa,show ¬n<0 by omega]
   rw[this]
  cases h
 cases h
theorem ys7 [Clk]{oc:zel}{s:S}(hs:Sim oc gl s){i:Id}{c r:V}{c':V}{x':Value}{b t:Nat}(hl:look s.m i=some (.cells t [c,r]))(hb:s.φ i=.pointer (some ⟨b,0,none⟩))
  (hx:∀s',Ext (λ_=>True) s s'->s'.φ i=s.φ i->look s'.m i=some (.cells t [c',r])->VR s' c' x')(hone:one x'):
  Sim oc gl ⟨s.φ,upd s.m i (.cells t [c',r]),s.w.setCell ⟨b,0,none⟩ x',s.Im⟩/\Ext (λ_=>True) s ⟨s.φ,upd s.m i (.cells t [c',r]),s.w.setCell ⟨b,0,none⟩ x',s.Im⟩:=by
 obtain⟨b',xs,hp,hh,hv,hi⟩:=hs.objs i _ hl;rw[hb]at hp;have:b'=b:=by simpa using hp.symm
 subst this;obtain⟨x0,ys,hxs,h1,h2,h3⟩:=hv;have h0:xs[0]?=some x0:=by rw[<-Array.getElem?_toList,hxs];rfl
 have hs1:s.w.setCell ⟨b',0,none⟩ x'=s.w.setRow b' (xs.setIfInBounds 0 x'):=by
  unfold World.setRow World.setCell;congr 1;apply Array.ext_getElem?;intro j;simp only[Array.getElem?_modify]
  by_cases hj:b'=j
  ·subst hj;simp[hh]
  simp[hj]
 rw[hs1]
 have key:=zve hs (i:=i) (b:=b') (o':=.cells t [c',r]) (xs.setIfInBounds 0 x') hl (by simp) (by rw[hb];rfl) hh (λj hj=>absurd hj (hi j)) ⟨rfl,rfl,rfl⟩ (λhE=>?_)
 ·rw[zsr]at key;exact key
 refine⟨b',_,hb,setRow_heap _ b' xs _ t (0,0) hh,?_,hi⟩;have hxs':(xs.setIfInBounds 0 x').toList=x'::ys:=by simp[hxs]
 rw[hxs'];exact⟨x',ys,rfl,hone,hx _ hE (by simp) (zbh _ _ _),VRs.ext hE [r] ys (λ_ _=>trivial) h3⟩
theorem given_copyCheck [Clk]{f bt:Nat}(he:Enters P f)
  (used:∀(b:Nat)(w:World),w.cell? ⟨b,0,none⟩=some (.pointer (some ⟨b,0,none⟩))->Calls P f #[.pointer (some ⟨b,0,none⟩)] w λe w'=>e=.returned (.tuple #[])/\w'=w)
  (fresh:∀(b:Nat)(w:World),w.cell? ⟨b,0,none⟩=some (.pointer none)->w.shape? b=some (bt,2)->w.frozen? ⟨b,0,none⟩=false->Calls P f #[.pointer (some ⟨b,0,none⟩)] w λe w'=>e=.returned (.tuple #[])/\w'=w.setCell ⟨b,0,none⟩ (.pointer (some ⟨b,0,none⟩))):
  GivenOk P gl f (copyX bt):=by
 refine⟨he,λargs m v m' h s hs hm xs hxs=>?_⟩;subst hm;unfold copyX at h
 split at h
 ·rename_i o top;obtain⟨x,ys,rfl,hx,hy⟩:=hxs;simp only[VRt]at hy;subst hy;obtain⟨hone,hp⟩:=hx;rw[callsIn_wide]
  split at h
  ·rename_i t r hl
   split at h
   ·rename_i ht;simp only[Option.some.injEq,Prod.mk.injEq]at h;obtain⟨rfl,rfl⟩:=h;rw[hl]at hp;obtain⟨b,hb,rfl⟩:=hp;obtain⟨b',xs,hp',hh,hv,hi⟩:=hs.objs o _ hl;rw[hb]at hp';have:b'=b:=by simpa using hp'.symm
    subst this;obtain⟨x0,ys,hxs,h1,h2,h3⟩:=hv;have h2:x0=.pointer none:=h2;subst h2;obtain⟨x1,zs,rfl,h4,h5,rfl⟩:=h3;have hx0:xs[0]?=some (Value.pointer none):=by rw[<-Array.getElem?_toList,hxs];rfl
    have hsz:xs.size=2:=by rw[<-Array.length_toList,hxs];rfl
    subst ht;refine(fresh b' s.w (by simp[World.cell?,hh,hx0]) (by simp[World.shape?,hh,hsz]) (by simp[World.frozen?,hh])).mono λe w' hh'=>?_
    obtain⟨rfl,rfl⟩:=hh';obtain⟨k1,k2⟩:=ys7 hs (c':=.ptr o 0 0) (x':=.pointer (some ⟨b',0,none⟩)) hl hb (λs' _ hφ hlk=>⟨rfl,by rw[hlk,hφ];exact⟨b',hb,rfl⟩⟩) rfl;exact⟨_,_,rfl,rfl,k1,k2,rfl,⟨#[],rfl,rfl⟩⟩
   cases h
  ·rename_i o' top' r hl
   split at h
   ·rename_i e;subst e;simp only[Option.some.injEq,Prod.mk.injEq]at h;obtain⟨rfl,rfl⟩:=h;rw[hl]at hp;obtain⟨b,hb,rfl⟩:=hp;obtain⟨b',xs,hp',hh,hv,hi⟩:=hs.objs o' _ hl;rw[hb]at hp';have:b'=b:=by simpa using hp'.symm
    subst this;obtain⟨x0,ys,hxs,h1,h2,h3⟩:=hv;obtain⟨_,h2⟩:=h2;rw[hl]at h2;obtain⟨b2,hb2,rfl⟩:=h2;rw[hb]at hb2;have:b2=b':=by simpa using hb2.symm
    subst this
    refine(used b2 s.w ?_).mono λe w' hh'=>?_
    ·have hx0:xs[0]?=some (Value.pointer (some ⟨b2,0,none⟩)):=by rw[<-Array.getElem?_toList,hxs];rfl
     simp[World.cell?,hh,hx0]
    obtain⟨rfl,rfl⟩:=hh';exact⟨s,_,rfl,rfl,hs,Ext.refl _ _,rfl,⟨#[],rfl,rfl⟩⟩
   cases h
  cases h
 cases h
theorem z7b{w:World}{Im:Nat->Nat->Prop}:∀(xs:List D)(b:List UInt8)(ys:List Value),z3e xs=some b->DRs w Im xs ys->ys=Lib.byteCells b
 |[],b,ys,h,hd=>by
  simp only[z3e,Option.some.injEq]at h;subst h;exact hd
 |d::r,b,ys,h,hd=>by
  obtain⟨y,zs,rfl,_,h2,h3⟩:=hd;unfold z3e at h
  split at h
  ·rename_i e;cases e
  ·rename_i n r' e;obtain⟨rfl,rfl⟩:=(List.cons.injEq ..).mp e
   split at h
   ·rename_i hn;simp only[Option.map_eq_some_iff]at h;obtain⟨b',h4,rfl⟩:=h;have h2:y=.int .u8 n:=h2;rw[z7b r b' zs h4 h3,h2];simp only[Lib.byteCells,List.map_cons,List.cons.injEq,and_true];have:(UInt8.ofNat n.toNat).toNat=n.toNat:=by simp;omega
    rw[this];congr 1;omega
   cases h
  cases h
theorem given_string [Clk]{ρ:Go.Shelf.Ren}(L:Lays.n169 P ρ)(X:Builder.Extra P ρ){f bt et:Nat}(hf:ρ.f 169=f)(hbt:ρ.t 72=bt)(het:ρ.t 5=et)(he:Enters P f):GivenOk P gl f (stringX bt et):=by
 refine⟨he,λargs m v m' h s hs hm xs hxs=>?_⟩;subst hf;subst hm;unfold stringX at h;split at h<;>try cases h
 rename_i o top;obtain⟨x,ys,rfl,hx,hy⟩:=hxs;simp only[VRt]at hy;subst hy;obtain⟨hone,hp⟩:=hx;rw[callsIn_wide];split at h<;>try cases h
 rename_i t c r len top' hl;split at h<;>try cases h
 rename_i t' n ds hr;split at h<;>try cases h
 rename_i hc;obtain⟨rfl,rfl,rfl,rfl,hn0⟩:=hc;split at h<;>try cases h
 rename_i b hbb;rw[hl]at hp;obtain⟨bk,hb,rfl⟩:=hp;obtain⟨bk',xs,hp',hh,hv,hi⟩:=hs.objs o _ hl;rw[hb]at hp';have:bk'=bk:=by simpa using hp'.symm
 subst this;obtain⟨x0,ys,hxs,h1,h2,h3⟩:=hv;obtain⟨x1,zs,rfl,h4,h5,rfl⟩:=h3;obtain⟨_,h5⟩:=h5;rw[hr]at h5;obtain⟨hz,rs,hown,hd,him⟩:=hs.objs r _ hr;have hrs:=z7b ds b rs hbb hd;subst hrs;have hlen:b.length=top':=by have:=hown.1;simpa[Lib.byteCells]using this
 rcases hown.2 with⟨_,h0⟩|⟨g,cap,cur,hg1,_,hg2,hnc,hcm,hcs,hct⟩
 ·exact absurd h0 hn0
 have hx1:x1=.slice (some ⟨g,0,none⟩) top' cap:=by
  rcases h5.2 rfl with⟨_,_,e⟩|⟨hne,_⟩|⟨hne,_⟩
  ·rw[e,hg1]
  ·exact absurd ⟨rfl,rfl⟩ hne
  exact absurd ⟨rfl,rfl⟩ hne
 subst hx1;subst hlen;have hxs':xs=#[x0,.slice (some ⟨g,0,none⟩) b.length cap]:=by apply Array.ext';exact hxs
 subst hxs';have hbne:b≠[]:=by intro e;apply hn0;simp[e]
 refine(Go.Proofs.YtkflcbhclegghaaGreatDoor.builder_String L X bk' g cap cur x0 b s.w hbne (by rw[hbt];exact hh) ?_ (by rw[het];exact hg2) hnc hcm hcs).mono λe w' hh'=>?_
 ·rw[het,<-hg1];exact hown
 obtain⟨rfl,rfl⟩:=hh'
 have hsz:(s.w.drew.freeze ⟨g,0,none⟩ b.length).heap.size=s.w.heap.size:=by
  unfold World.freeze;rw[if_neg hn0];exact Array.size_modify
 have hoth:∀c,c≠g->(s.w.drew.freeze ⟨g,0,none⟩ b.length).heap[c]?=s.w.heap[c]?:=λc hc=>by
  unfold World.freeze;rw[if_neg hn0];show(s.w.heap.modify g _)[c]?=_;rw[Array.getElem?_modify,if_neg (Ne.symm hc)]
 have hcell:∀c j,(s.w.drew.freeze ⟨g,0,none⟩ b.length).cell? ⟨c,j,none⟩=s.w.cell? ⟨c,j,none⟩:=λc j=>by
  by_cases e:c=g
  ·subst e
   have h1:(s.w.drew.freeze ⟨c,0,none⟩ b.length).heap[c]?=some (.cells cur t' (0,b.length)):=by
    unfold World.freeze;rw[if_neg hn0];show(s.w.heap.modify c _)[c]?=_;rw[Array.getElem?_modify,if_pos rfl,hg2];simp
   simp only[World.cell?,h1,hg2]
  exact World.cell?_of_block (hoth c e)
 obtain⟨k1,k2⟩:=hs.change r .gone (s.φ r) (s.w.drew.freeze ⟨g,0,none⟩ b.length) s.Im (by unfold World.freeze;rw[if_neg hn0];rfl) (by unfold World.freeze;rw[if_neg hn0];exact Tk.of rfl (Nat.le_succ _)) (by unfold World.freeze;rw[if_neg hn0];rfl) (by omega)
  (λc _ hne=>hoth c λe=>hne ⟨_,hr,by simp⟩ (by rw[hg1,e];rfl)) (λ_ _ h=>h) (λc j _=>hcell c j) (λ_ _ h=>.inl h) (λc j h=>by have:=hs.imlt c j h;omega)
  (λc hc=>.inr ⟨⟨_,hr,by simp⟩,hc⟩) (λob hob=>by rw[hr]at hob;cases hob;trivial) (λ_=>trivial)
 rw[zsr]at k1 k2;exact⟨_,_,rfl,rfl,k1,k2,rfl,rfl⟩
theorem zmt [Clk](hc:¬Clk.on){s:S}(hs:Sim (ztl P gl) gl s){v:V}{x:Value}{w':World}(hv:∀s':S,VR s' v x)(hb:Below s.w.heap.size s.w w'):zxk (ztl P gl) gl s v s.m (.returned x) w':=by
 obtain⟨h1,h2⟩:=hs.calm w' s.Im hb.os ⟨hb.tape,λc=>absurd c hc⟩ hb.output hb.size hb.block (λ_ _ h=>h) (λ_ _ h=>.inl h) (λb j h=>Nat.lt_of_lt_of_le (hs.imlt b j h) hb.size);exact⟨_,x,rfl,rfl,h1,h2,rfl,hv _⟩
end
end Go.Evl
