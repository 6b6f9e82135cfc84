
/-
 The evaluator is sound, third part: regions.
-/
import Derived.Test.YtkflcbhclegghaaGreatDoorEvC
import Derived.Maps.RangeRun
import Derived.RangeFuncLeaves
import Derived.OrdersIn
import Derived.LoopNIn
import Derived.Scope
namespace Go.Evl
open Go.RowKit
section
variable{P:Program}{oc:zel}{gl:Globs}
def z00(lo:Nat)(s1:S)(b j:Nat):Prop:=
 s1.Im b j\/∃i wr t sz n xs,lo<=i.lv/\look s1.m i=some (.row wr t sz n xs)/\blk (s1.φ i)=some b/\j<n*sz
theorem ys5{lo:Nat}{s1:S}(hs:Sim oc gl s1){i:Id}{wr:Bool}{t sz n:Nat}{xs:List D}(hlo:lo<=i.lv)(hl:look s1.m i=some (.row wr t sz n xs)){off len top:Nat}{x:Value}
  (h2:n=top)(h3:off+len<=n)(hv:VR s1 (.ref i off len top) x):
  DR s1.w (z00 lo s1) (.list len (if off=0/\len=n then xs else win xs (off*sz) (len*sz))) x:=by
 obtain⟨hz,ys,hown,hdr,him⟩:=hs.objs i _ hl
 let s2:S:=⟨s1.φ,[(i,.row false t sz n xs)],s1.w,z00 lo s1⟩
 have hl2:look s2.m i=some (.row false t sz n xs):=by simp[s2,look]
 have hs2:Sim oc gl s2:=by
  refine⟨λk o hk=>?_,λa b o o' c hab ha hb _ _ _=>?_,λb j h=>?_,λg cs hg=>CR.ext (λ_ _ h=>.inl h) (λ_ _ _=>rfl) g 0 cs (hs.glob g cs hg),λg cs hg=>?_⟩
  ·have hk1:(if i=k then some (Ob.row false t sz n xs)else none)=some o:=hk;clear hk
   split at hk1
   ·rename_i e;subst e;obtain rfl:=Option.some.inj hk1;refine⟨hz,ys,hown,DRs.ext (λ_ _ h=>.inl h) (λ_ _ _=>rfl) xs ys hdr,λb hb j=>⟨λh=>⟨rfl,?_⟩,λh=>.inr ⟨i,wr,t,sz,n,xs,hlo,hl,zm9 _ _ hb,h.2⟩⟩⟩
    rcases h with h|⟨k,wr',t',sz',n',xs',_,hk',hb',hj⟩
    ·exact((him b hb j).1 h).2
    by_cases e:k=i
    ·subst e;rw[hl]at hk';simp only[Option.some.injEq,Ob.row.injEq]at hk';obtain⟨_,_,rfl,rfl,_⟩:=hk';exact hj
    exact absurd (zm9 _ _ hb) (hs.apart k i _ _ b e hk' hl (by simp) (by simp) hb')
   cases hk1
  ·have ha1:(if i=a then some (Ob.row false t sz n xs)else none)=some o:=ha;have hb1:(if i=b then some (Ob.row false t sz n xs)else none)=some o':=hb;clear ha hb
   split at ha1
   ·split at hb1
    ·rename_i e1 e2;exact absurd (e1.symm.trans e2) hab
    cases hb1
   cases ha1
  ·rcases h with h|⟨k,wr',t',sz',n',xs',_,hk',hb',hj⟩
   ·exact hs.imlt b j h
   exact(hs.objs k _ hk').blk_lt (by simp) hb'
  obtain⟨h1,h2⟩:=hs.tabs g cs hg;refine⟨λa o ha hgo=>?_,h2⟩;have ha1:(if i=a then some (Ob.row false t sz n xs)else none)=some o:=ha
  split at ha1
  ·rename_i e;subst e;exact h1 i _ hl (by simp)
  cases ha1
 have hv2:VR s2 (.ref i off len top) x:=by
  refine⟨hv.1,?_⟩;have:=hv.2;rw[hl]at this;rw[hl2];exact this
 exact z0h hs2 hl2 rfl h2 h3 hv2
mutual
theorem ya3{lo:Nat}{s1:S}(hs:Sim oc gl s1):∀(v:V)(d:D)(x:Value),(∀i∈ids v,lo<=i.lv)->freeze true s1.m v=some d->VR s1 v x->DR s1.w (z00 lo s1) d x
 |.d y,d,x,_,h,hv=>by
  simp only[freeze,Option.some.injEq]at h;subst h;exact DR.ext (λ_ _ h=>.inl h) (λ_ _ _=>rfl) _ _ hv
 |.agg cs,d,x,hk,h,hv=>by
  simp only[freeze,Option.map_eq_some_iff]at h;obtain⟨ds,h1,rfl⟩:=h;obtain⟨xs,rfl,hv⟩:=hv;exact⟨xs,rfl,yj9 hs cs ds _ (by simpa only[ids]using hk) h1 hv⟩
 |.ref i off len top,d,x,hk,h,hv=>by
  simp only[freeze]at h
  split at h
  ·rename_i wr t sz n xs hl
   split at h
   ·rename_i hc;obtain⟨h1,h2,h3⟩:=hc;obtain rfl:=Option.some.inj h;exact ys5 hs (hk i (by simp[ids])) hl h2 h3 hv
   cases h
  cases h
 |.tup _,_,_,_,h,_=>by simp[freeze]at h
 |.ptr ..,_,_,_,h,_=>by simp[freeze]at h
 |.lptr ..,_,_,_,h,_=>by simp[freeze]at h
 |.cl n cs,d,x,hk,h,hv=>by
  simp only[freeze,Option.some.injEq]at h;subst h;obtain⟨ad,rfl,hv⟩:=hv;exact⟨ad,n,rfl,Nat.le_refl _,hv.imp id λ⟨b,o,h1,h2⟩=>⟨b,o,h1,CR.ext (λ_ _ h=>.inl h) (λ_ _ _=>rfl) b o cs h2⟩⟩
 |.fn f [] [],d,x,_,h,hv=>by
  simp only[freeze,Option.some.injEq]at h;subst h;exact ytq hv
 |.fn _ (_::_) _,_,_,_,h,_=>by simp[freeze]at h
 |.fn _ [] (_::_),_,_,_,h,_=>by simp[freeze]at h
 |.yld _,_,_,_,h,_=>by simp[freeze]at h
 |.mp _,_,_,_,h,_=>by simp[freeze]at h
 |.it _,_,_,_,h,_=>by simp[freeze]at h
 |.skip,_,_,_,h,_=>by simp[freeze]at h
 |.undef,_,_,_,h,_=>by simp[freeze]at h
theorem yj9{lo:Nat}{s1:S}(hs:Sim oc gl s1):∀(cs:List V)(ds:List D)(xs:List Value),(∀i∈zev cs,lo<=i.lv)->freezeL true s1.m cs=some ds->VRs s1 cs xs->DRs s1.w (z00 lo s1) ds xs
 |[],ds,xs,_,h,hv=>by simp only[freezeL,Option.some.injEq]at h;subst h;exact hv
 |v::r,ds,xs,hk,h,hv=>by
  obtain⟨x,ys,rfl,h1,h2,h3⟩:=hv;simp only[freezeL]at h
  split at h
  ·rename_i d ds' e1 e2;obtain rfl:=Option.some.inj h;exact⟨x,ys,rfl,h1,ya3 hs v d x (λi hi=>hk i (by simp[zev,hi])) e1 h2,yj9 hs r ds' ys (λi hi=>hk i (by simp[zev,hi])) e2 h3⟩
  cases h
end
theorem ya2{lo:Nat}{s1 s':S}(hs:Sim oc gl s1)(hw:s'.w=s1.w)(him:s'.Im=z00 lo s1):∀(cs:List V)(ds:List D)(xs:List Value),(∀i∈zev cs,lo<=i.lv)->freezeL true s1.m cs=some ds->VRt s1 cs xs->VRt s' (asV ds) xs
 |[],ds,xs,_,h,hv=>by simp only[freezeL,Option.some.injEq]at h;subst h;exact hv
 |v::r,ds,xs,hk,h,hv=>by
  obtain⟨x,ys,rfl,h2,h3⟩:=hv;simp only[freezeL]at h
  split at h
  ·rename_i d ds' e1 e2;obtain rfl:=Option.some.inj h;refine⟨x,ys,rfl,?_,ya2 hs hw him r ds' ys (λi hi=>hk i (by simp[zev,hi])) e2 h3⟩;have:=ya3 hs v d x (λi hi=>hk i (by simp[zev,hi])) e1 h2;show DR s'.w s'.Im d x;rw[hw,him];exact this
  cases h
theorem yhh [Clk]{lo:Nat}{s s1 sB:S}(hB:yy2 oc gl lo s s1 sB){cx:Cx}{slot:Nat}{imm:Bool}{v v':V}{m':Mem}{x:Value}(h:zpu cx slot lo imm sB.m s1.m v=some (v',m'))(hv:VR s1 v x):
  ∃s',s'.w=s1.w/\Sim oc gl s'/\Ext (λ_=>True) s s'/\s'.m=m'/\VR s' v' x:=by
 unfold zpu at h
 split at h
 ·split at h<;>try cases h
  rename_i hids;simp only[List.all_eq_true,decide_eq_true_eq]at hids;simp only[Option.map_eq_some_iff,Prod.mk.injEq]at h;obtain⟨y,hth,rfl,rfl⟩:=h
  let s':S:=⟨sB.φ,sB.m,s1.w,z00 lo s1⟩
  have h0:yec (λ_=>True) sB s':=⟨λb j h=>.inl (by rw[hB.im]at h;exact h),λb j _=>by rw[hB.w],λi o _ ho=>⟨o,ho,zbd.refl _ _⟩⟩;have hE:=hB.ext;have hw:s'.w=sB.w:=hB.w.symm
  refine⟨s',rfl,⟨λi o hi=>?_,hB.sim.apart,λb j h=>?_,λg cs hg=>CR.ext (λ_ _ h=>.inl h) (λ_ _ _=>rfl) g 0 cs (hB.sim1.glob g cs hg),λg cs hg=>⟨(hB.sim.tabs g cs hg).1,(hB.sim1.tabs g cs hg).2⟩⟩,⟨by rw[hw];exact hE.os,by rw[hw];exact hE.tape,by rw[hw];exact hE.output,by rw[hw];exact hE.size,λb hb hf=>?_,λb j h=>?_,λb j h=>.inl (by have:=hE.im b j h;rw[hB.im]at this;exact this),
   λb j h=>by rw[hw];exact hE.keep b j h,hE.objs⟩,rfl,?_⟩
  ·by_cases hg:o=.gone
   ·subst hg;trivial
   refine ObR.ext0 h0 (λ_ _=>trivial) (λb hb=>⟨by rw[hB.w],λj h=>?_⟩) (hB.sim.objs i o hi)
   rcases h with h|⟨k,wr',t',sz',n',xs',hlo,hk',hb',_⟩
   ·rw[hB.im];exact h
   exact absurd hb ((hB.new k _ b hk' (by simp) hlo hb').2 i o hi hg)
  ·rcases h with h|⟨k,wr',t',sz',n',xs',_,hk',hb',hj⟩
   ·exact hB.sim1.imlt b j h
   exact(hB.sim1.objs k _ hk').blk_lt (by simp) hb'
  ·obtain⟨h1,h2⟩:=hE.frame b hb hf;exact⟨by rw[hw];exact h1,h2⟩
  ·rcases h with h|⟨k,wr',t',sz',n',xs',hlo,hk',hb',_⟩
   ·exact hE.imnew b j (by rw[hB.im];exact h)
   exact .inr ((hB.new k _ b hk' (by simp) hlo hb').1)
  unfold thaw at hth
  split at hth
  ·rename_i vs;simp only[Option.map_eq_some_iff]at hth;obtain⟨ds,h1,rfl⟩:=hth;obtain⟨xs,rfl,hv⟩:=hv;exact⟨xs,rfl,ya2 (s':=s') hB.sim1 rfl rfl vs ds _ (by simpa only[ids]using hids) h1 hv⟩
  simp only[Option.map_eq_some_iff]at hth;obtain⟨d,h1,rfl⟩:=hth;exact ya3 hB.sim1 v d x hids h1 hv
 exact ypm hB h hv
theorem ymw [Clk]{s s1:S}(hs:Sim oc gl s)(h1:Sim oc gl s1)(hE:Ext (λ_=>True) ⟨s.φ,[],s.w,s.Im⟩ s1):yy2 oc gl 0 s s1 ⟨s.φ,s.m,s1.w,s1.Im⟩:=by
 have free0:∀b,zxj ⟨s.φ,[],s.w,s.Im⟩ b:=λb i o hi _=>by simp[look]at hi
 have hE':Ext (λ_=>True) s ⟨s.φ,s.m,s1.w,s1.Im⟩:=
  ⟨hE.os,hE.tape,hE.output,hE.size,λb hb hf=>⟨(hE.frame b hb (free0 b)).1,hf⟩,λb j h=>by
   rcases hE.imnew b j h with h|h|h
   ·exact .inl h
   ·exact .inr (.inl h)
   exact absurd (free0 b) h,hE.im,hE.keep,λi o _ ho=>⟨o,ho,zbd.refl _ _⟩⟩
 refine⟨h1,⟨λi o hi=>?_,hs.apart,h1.imlt,h1.glob,hs.tabs.ext hE'⟩,hE',rfl,rfl,λi o b hi hg _ hb=>?_,λi h=>absurd h (Nat.not_lt_zero _)⟩
 ·by_cases hg:o=.gone
  ·subst hg;trivial
  refine ObR.ext hE' (λb hb=>?_) (hs.objs i o hi);have hlt:=(hs.objs i o hi).blk_lt hg hb;refine⟨(hE.frame b hlt (free0 b)).1,λj h=>?_⟩
  rcases hE.imnew b j h with h|h|h
  ·exact h
  ·have h:s.w.heap.size<=b:=h;omega
  exact absurd (free0 b) h
 have hge:s.w.heap.size<=b:=by
  rcases Nat.lt_or_ge b s.w.heap.size with hlt|hge
  ·exact absurd hb ((hE.frame b hlt (free0 b)).2 i o hi hg)
  exact hge
 refine⟨.inl hge,λj o' hj hg' hb'=>?_⟩;have:=(hs.objs j o' hj).blk_lt hg' hb';omega
theorem zwq [Clk]{nx:Nat}{s s1:S}(h1:Sim oc gl s1)(hE:Ext (λ_=>True) s s1)(hlow:zk1 nx (zoi s.m)=true)(hids:zk1 nx (idsAll (ze1 nx s1.m))=true):
  yy2 oc gl nx s s1 ⟨s1.φ,ze1 nx s1.m,s1.w,s1.Im⟩:=by
 simp only[zk1,List.all_eq_true,decide_eq_true_eq]at hlow hids;obtain⟨k1,k2⟩:=h1.sub (λi=>decide (i.lv<nx)) (λi hi=>by simpa using hids i hi)
 have hkey:∀i o,look s.m i=some o->i.lv<nx:=by
  have:∀(m:Mem)i o,look m i=some o->i∈zoi m:=by
   intro m;induction m with
   |nil=>intro i o h;simp[look]at h
   |cons p r ih=>
    intro i o h;obtain⟨j,y⟩:=p;simp only[look]at h
    split at h
    ·rename_i e;subst e;simp[zoi]
    have:=ih i o h;simp only[zoi,List.map_cons,List.mem_cons];exact .inr this
  exact λi o h=>hlow i (this _ i o h)
 refine⟨h1,k1,?_,rfl,rfl,λi o b hi hg hlo hb=>⟨?_,λj o' hj hg' hb'=>?_⟩,λi h=>⟨?_,rfl⟩⟩
 ·refine Ext.of_look (Ext.trans (Ext.mono hE (λ_ _=>trivial)) k2 λi hi=>?_);cases ho:look s.m i with
  |none=>exact absurd ho hi
  |some o=>simpa using hkey i o ho
 ·rcases Nat.lt_or_ge b s.w.heap.size with hlt|hge
  ·exact .inr λhf=>(hE.frame b hlt hf).2 i o hi hg hb
  exact .inl hge
 ·have hj:look (s1.m.filter λq=>decide (q.1.lv<nx)) j=some o':=hj;rw[zo7 (λi=>decide (i.lv<nx))]at hj
  split at hj
  ·rename_i hjl;simp only[decide_eq_true_eq]at hjl;refine h1.apart j i o' o b (λe=>?_) hj hi hg' hg hb' hb;subst e;omega
  cases hj
 show look (s1.m.filter λq=>decide (q.1.lv<nx)) i=_;rw[zo7 (λi=>decide (i.lv<nx))];simp[h]
end
end Go.Evl
namespace Go.Evl
open Go.RowKit
section
variable{P:Program}{oc:zel}{gl:Globs}
def Enters(P:Program)(f:Nat):Prop:=∃fn,P.funcs[f]?=some fn/\fn.name≠ "runtime.NumGoroutine" /\fn.body≠none
def zxk [Clk](oc:zel)(gl:Globs)(s:S)(v:V)(m':Mem):Ending->World->Prop:=
 λe w'=>∃s' x,e=.returned x/\s'.w=w'/\Sim oc gl s'/\Ext (λ_=>True) s s'/\s'.m=m'/\VR s' v x
def zus [Clk](P:Program)(oc:zel)(gl:Globs)(F:Oracle):Prop:=
 ∀lv f args m v m',F (.call lv f args m)=some (.val v m')->Enters P f/\
  ∀s,Sim oc gl s->s.m=m->∀xs:List Value,VRt s args xs->CallsIn Fence.wide 0 P f xs.toArray s.w (zxk oc gl s v m')
def z2x [Clk](P:Program)(oc:zel)(gl:Globs)(F:Oracle):Prop:=
 ∀nx o args m v m',F (.round nx o args m)=some (.val v m')->(∃e ps a b lv bu ov j,look m o=some (.loop e ps a b lv bu ov j))/\
  ∀s,Sim oc gl s->s.m=m->∀xs:List Value,VRt s args xs->∀l,s.φ o=.pointer (some ⟨l,0,none⟩)->∃L,s.w.heap[l]?=some (.loop L)/\L.params.size=xs.length/\
   RoundIn Fence.wide 0 P l L.fn ((L.params.zip xs.toArray).foldl (λtmps(t,a)=>tmps.setIfInBounds t a) L.tmps) L.assign L.body s.w (zxk oc gl s v m')
theorem VRt.length{s:S}:∀(cs:List V)(xs:List Value),VRt s cs xs->cs.length=xs.length
 |[],_,h=>by simp only[VRt]at h;subst h;rfl
 |_::r,_,⟨x,ys,h1,_,h4⟩=>by subst h1;simp[VRt.length r ys h4]
theorem VRt.append{s:S}:∀(a:List V)(x:List Value)(b:List V)(y:List Value),VRt s a x->VRt s b y->VRt s (a++b) (x++y)
 |[],_,b,y,h,k=>by simp only[VRt]at h;subst h;exact k
 |_::r,_,b,y,⟨x,ys,h1,h3,h4⟩,k=>by subst h1;exact⟨x,ys++y,rfl,h3,VRt.append r ys b y h4 k⟩
theorem yno{s s':S}(hs:Sim oc gl s)(hw:s'.w=s.w)(him:s'.Im=s.Im):∀(cs:List V)(ds:List D)(xs:List Value),freezeL false s.m cs=some ds->VRt s cs xs->VRt s' (asV ds) xs
 |[],ds,xs,h,hv=>by simp only[freezeL,Option.some.injEq]at h;subst h;exact hv
 |v::r,ds,xs,h,hv=>by
  obtain⟨x,ys,rfl,h2,h3⟩:=hv;simp only[freezeL]at h
  split at h
  ·rename_i d ds' e1 e2;obtain rfl:=Option.some.inj h;refine⟨x,ys,rfl,?_,yno hs hw him r ds' ys e2 h3⟩;have:=zo5 hs v d x e1 h2;show DR s'.w s'.Im d x;rw[hw,him];exact this
  cases h
def zm2(gl:Globs)(o:Oper)(f:Opd)(args:List Opd):Bool:=
 match o.op with
 |.call c=>
  match c.callee with
  |.value g=>okX gl g f&&yog gl c.args.toList args
  |_=>false
 |_=>false
theorem zk4 [Clk]{f:Nat}{args:Array Value}{w:World}(h:Enters P f):(callFunc f args).run P w=.ok (.enter f args) w:=by
 obtain⟨fn,h1,h2,h3⟩:=h;simp[callFunc,run_program,h1,h2,h3]
theorem ypn{s:S}(hs:Sim oc gl s):Sim oc gl ⟨s.φ,[],s.w,s.Im⟩:=
 ⟨λi o h=>by simp[look]at h,λi j o o' b _ h=>by simp[look]at h,hs.imlt,hs.glob,λg cs hg=>⟨λi o h=>by simp[look]at h,(hs.tabs g cs hg).2⟩⟩
theorem zok [Clk]{F:Oracle}(hF:zus P oc gl F)(hR:z2x P oc gl F){s:S}{A:Act}{o:Oper}{e:Env}(hs:Sim oc gl s)(he:zc9 s e A.tmps)(r:Option Nat)(cx:Cx)(slot:Nat){shared imm:Bool}{f:Opd}{args:List Opd}{v:V}{m':Mem}
  (ok:zm2 gl o f args=true)(h:zlz F cx slot shared imm (zrq (f.ev e)) (evs e args) s.m=some (v,m')):yqx P oc gl r s A o v m':=by
 unfold zm2 at ok;split at ok<;>try cases ok
 rename_i c ho;split at ok<;>try cases ok
 rename_i g hc;simp only[Bool.and_eq_true]at ok;have hf:=zbg hs he ok.1;have hargs:=zui hs he _ _ ok.2;replace hf:=z24 hf;generalize zrq (f.ev e)=vf at hf h;generalize evs e args=vs at hargs h;intro next Q hn;refine⟨λ_ _=>trivial,?_⟩;rw[Oper.semAt_eq _ _ _ (λc' hc'=>by rw[ho]at hc';cases hc')];have hmap:(c.args.map A.eval).toList=c.args.toList.map A.eval:=by simp
 -- how a function is entered
 have enter:∀(fid:Nat)(xs ys:Array Value)(R:Ending->World->Prop),A.eval g=.func (.func fid) xs ys->Enters P fid->CallsIn Fence.wide 0 P fid (xs.toList++(c.args.toList.map A.eval)++ys.toList).toArray s.w R->
   (∀e' w',R e' w'->∃x,e'=.returned x/\next (A.put o.dst x) w')->o.uponIn (fen r) 0 P A next Q ((execOp A.eval o).run P s.w):=by
  intro fid xs ys R hg hen hcall hnext
  have hrun:(execOp A.eval o).run P s.w=.ok (.enter fid (xs++c.args.map A.eval++ys)) s.w:=by
   simp[execOp,ho,Go.resolve,hc,hg,Deferred.ofValue,invoke,zk4 hen]
  rw[hrun];refine⟨λh=>by simp[fen]at h,?_⟩
  have harr:(xs.toList++(c.args.toList.map A.eval)++ys.toList).toArray=xs++c.args.map A.eval++ys:=by
   apply Array.ext';simp
  rw[harr]at hcall
  exact CallsIn.mono (F:=fen r) (n:=0) hcall λe' w' hr=>by
   obtain⟨x,rfl,hx⟩:=hnext e' w' hr;exact hx
 unfold zlz at h
 split at h
 ·split at h<;>try cases h
  rename_i hlow;split at h<;>try cases h
  rename_i v1 m1 hsh;split at h<;>try cases h
  rename_i hids
  have back:∀e' w',zxk oc gl s v1 m1 e' w'->∃x,e'=.returned x/\next (A.put o.dst x) w':=by
   rintro e' w'⟨s1,x,rfl,rfl,k1,k2,rfl,k4⟩;obtain⟨s',hw',q1,q2,q3,q4⟩:=yhh (zwq k1 k2 hlow hids) h k4;exact⟨x,rfl,hw'▸hn s' x q1 q2 q3 q4⟩
  unfold zja at hsh
  split at hsh
  ·rename_i fid first caps
   split at hsh<;>try cases hsh
   rename_i v2 m2 hcall;obtain⟨xs,ys,hg,hx,hy⟩:=hf;obtain⟨hen,hgo⟩:=hF _ _ _ _ _ _ hcall;exact enter fid xs ys _ hg hen (hgo s hs rfl _ (VRt.append _ _ _ _ (VRt.append _ _ _ _ hx hargs) hy)) back
  ·rename_i i;split at hsh<;>try cases hsh
   rename_i v2 m2 hround;obtain⟨⟨e1,ps,ca,cb,lv,bu,ov,j,hlo⟩,hgo⟩:=hR _ _ _ _ _ _ hround;obtain⟨_,hy⟩:=hf;rw[hlo]at hy;obtain⟨l,hp,hg⟩:=hy;obtain⟨L,hL,hsz,hgo⟩:=hgo s hs rfl _ hargs l hp;have harr:(c.args.toList.map A.eval).toArray=c.args.map A.eval:=by apply Array.ext';simp
   rw[harr]at hgo;have hsz':c.args.size=L.params.size:=by simpa using hsz.symm
   have hrun:(execOp A.eval o).run P s.w=.ok (.round l L.fn ((L.params.zip (c.args.map A.eval)).foldl (λtmps(t,a)=>tmps.setIfInBounds t a) L.tmps) L.assign L.body) s.w:=by
    simp[execOp,ho,Go.resolve,hc,hg,Deferred.ofValue,invoke,Instr.yield,Instr.getLoop,getObj,Sem.run,hL,hsz']
   rw[hrun];refine⟨λh=>by simp[fen]at h,?_⟩
   exact RoundIn.mono (F:=fen r) (n:=0) hgo λe' w' hr=>by
    obtain⟨x,rfl,hx⟩:=back e' w' hr;exact hx
  cases hsh
 split at h<;>try cases h
 rename_i fid first caps
 split at h<;>try cases h
 rename_i ds hfr;split at h<;>try cases h
 rename_i v1 m1 hcall;obtain⟨xs,ys,hg,hx,hy⟩:=hf;obtain⟨hen,hgo⟩:=hF _ _ _ _ _ _ hcall;have hv0:=yno (s':=⟨s.φ,[],s.w,s.Im⟩) hs rfl rfl _ _ _ hfr (VRt.append _ _ _ _ (VRt.append _ _ _ _ hx hargs) hy);refine enter fid xs ys _ hg hen (hgo ⟨s.φ,[],s.w,s.Im⟩ (ypn hs) rfl _ hv0) ?_;rintro e' w'⟨s1,x,rfl,rfl,k1,k2,rfl,k4⟩;obtain⟨s',hw',q1,q2,q3,q4⟩:=yhh (ymw hs k1 k2) h k4;exact⟨x,rfl,hw'▸hn s' x q1 q2 q3 q4⟩
end
end Go.Evl
namespace Go.Evl
open Go.RowKit
theorem z0e(F:Oracle)(cx:Cx)(o:CO)(r:List CO)(e:Env)(m:Mem):
  zjb F cx (o::r) e m=(match zey F cx e m o with
   |some (v,m')=>zjb F cx r (put? e o.dst v) m'
   |none=>none):=rfl
section
variable{P:Program}{oc:zel}{gl:Globs}
theorem yi0(f:Id->Ob->Ob):∀(m:Mem)(i:Id),look (m.map λp=>(p.1,f p.1 p.2)) i=(look m i).map (f i)
 |[],_=>rfl
 |(j,o)::r,i=>by
  simp only[List.map_cons,look]
  split
  ·rename_i e;subst e;rfl
  exact yi0 f r i
theorem z95(m0:Mem):∀(a b:Mem),leM m0 a b=true->∀i,(look a i=none/\look b i=none)\/∃o o',look a i=some o/\look b i=some o'/\leO (look m0 i) o o'=true
 |[],[],_,_=>.inl ⟨rfl,rfl⟩
 |[],_::_,h,_=>by simp[leM]at h
 |_::_,[],h,_=>by simp[leM]at h
 |(j,o)::r,(k,o')::q,h,i=>by
  simp only[leM,Bool.and_eq_true,decide_eq_true_eq]at h;obtain⟨⟨rfl,h1⟩,h2⟩:=h;simp only[look]
  split
  ·rename_i e;subst e;exact .inr ⟨o,o',rfl,rfl,h1⟩
  exact z95 m0 r q h2 i
def zlf:Ob->Option (List Nat×C×C×Nat)
 |.loop _ ps a b lv _ _ _=>some (ps,a,b,lv)
 |_=>none
theorem ysz{a b:Option ymn}(h:ylo a b=true):a=b:=by
 cases a with
 |none=>cases b<;>simp[ylo]at h⊢
 |some x=>
  cases b with
  |none=>cases x<;>simp[ylo]at h
  |some y=>cases x<;>cases y<;>simp[ylo]at h⊢;exact h
def yxd(o o':Ob):Prop:=o'=o\/(∃t sz n xs ys,o=.row true t sz n xs/\o'=.bag t sz n ys/\yuv sz n ys xs=true)\/∃es fs,o=.map es/\o'=.map fs/\yqv fs/\es.Perm fs
theorem yh2:∀{es:List (D×V)},ykp es=true->yqv es
 |[],_=>List.Pairwise.nil
 |(k,v)::r,h=>by
  simp only[ykp,Bool.and_eq_true,List.all_eq_true]at h;refine List.pairwise_cons.2 ⟨λb hb=>?_,yh2 h.2⟩;have h1:=h.1 b hb
  split at h1
  ·rename_i e;exact⟨e,by rw[z9k];exact e⟩
  cases h1
theorem yxu{es fs:List (D×V)}(h:(yqq es fs||(ykp fs&&z43 es fs))=true):yxd (.map es) (.map fs):=by
 rcases Bool.or_eq_true _ _▸h with h|h
 ·rw[yfi _ _ h];exact .inl rfl
 simp only[Bool.and_eq_true]at h;exact .inr (.inr ⟨_,_,rfl,rfl,yh2 h.1,z44 _ _ h.2⟩)
theorem yxv{o0:Option Ob}{o o':Ob}(h:leO o0 o o'=true)(hc:∀c,o0.bind zlf=some c->zlf o=some c/\zlf o'=some c):
  yxd o o':=by
 unfold leO at h
 split at h<;>try cases h
 ·simp only[Bool.and_eq_true,decide_eq_true_eq]at h;obtain⟨rfl,h⟩:=h;rw[zn6 _ _ h];exact .inl rfl
 ·simp only[Bool.and_eq_true,decide_eq_true_eq]at h;obtain⟨⟨⟨⟨rfl,rfl⟩,rfl⟩,rfl⟩,h⟩:=h;rw[zgc _ _ h];exact .inl rfl
 ·simp only[Bool.and_eq_true,decide_eq_true_eq]at h;obtain⟨⟨⟨rfl,rfl⟩,rfl⟩,h⟩:=h;exact .inr (.inl ⟨_,_,_,_,_,rfl,rfl,h⟩)
 ·simp only[Bool.and_eq_true,decide_eq_true_eq]at h;obtain⟨⟨⟨rfl,rfl⟩,rfl⟩,h⟩:=h;rw[zgc _ _ h];exact .inl rfl
 ·exact yxu h
 ·simp only[Bool.and_eq_true,decide_eq_true_eq]at h;obtain⟨rfl,rfl⟩:=h;exact .inl rfl
 ·split at h<;>try cases h
  simp only[Bool.and_eq_true,decide_eq_true_eq]at h;obtain⟨⟨⟨h1,rfl⟩,rfl⟩,h2⟩:=h;obtain⟨k1,k2⟩:=hc _ rfl;simp only[zlf,Option.some.injEq,Prod.mk.injEq]at k1 k2;obtain⟨rfl,rfl,rfl,rfl⟩:=k1;obtain⟨rfl,rfl,rfl,rfl⟩:=k2;rw[yfg _ _ h1,ysz h2];exact .inl rfl
 exact .inl rfl
theorem yb1{o o':Ob}{p q:Value}(t:zbd o o' p q){c}(h:zlf o=some c)(hl:isLoop o'=true):zlf o'=some c:=by
 cases o<;>simp only[zlf,reduceCtorEq]at h;cases o'<;>simp only[isLoop,Bool.false_eq_true]at hl;obtain⟨_,rfl,rfl,rfl,rfl⟩:=t;exact h
theorem ymy(o0:Option Ob)(y:Ob)(h:isLoop (ymx o0 y)=true):ymx o0 y=y:=by
 cases y with
 |row wr t sz n xs=>
  cases wr with
  |false=>rfl
  |true=>
   exfalso
   have hb:isLoop (ymx o0 (.row true t sz n xs))=false:=by
    cases o0 with
    |none=>rfl
    |some x=>
     cases x with
     |row w _ _ n0 _=>
      cases w with
      |false=>rfl
      |true=>
       show isLoop (if n0=n then _ else _)=false;split<;>rfl
     |_=>rfl
   rw[hb]at h;cases h
 |_=>rfl
theorem ykn(bag:Bool)(o0:Option Ob)(o:Ob){c}(h:o0.bind zlf=some c)(hl:isLoop (if bag then ymx o0 (ycj o0 o)else ycj o0 o)=true):zlf (if bag then ymx o0 (ycj o0 o)else ycj o0 o)=some c:=by
 have key:isLoop (ycj o0 o)=true->zlf (ycj o0 o)=some c:=by
  intro hl;cases o with
  |loop e ps a b lv bu ov j=>
   cases o0 with
   |none=>simp at h
   |some x=>
    cases x<;>simp only[Option.bind_some,zlf,reduceCtorEq]at h;exact h
  |_=>simp[ycj,isLoop]at hl
 cases bag with
 |false=>exact key hl
 |true=>
  simp only[if_true]at hl⊢;have e:=ymy o0 _ hl;rw[e]at hl⊢;exact key hl
theorem yiw{o0:Option Ob}{o o':Ob}(h:leO o0 o o'=true):isLoop o=isLoop o'/\(isLoop o=true->∃c,o0.bind zlf=some c)/\(o=.gone↔o'=.gone):=by
 unfold leO at h;split at h
 case h_7=>
  split at h<;>first|cases h|skip
  exact⟨rfl,λ_=>⟨_,rfl⟩,by simp⟩
 case h_9=>cases h
 all_goals exact⟨rfl,λe=>by simp[isLoop]at e,by simp⟩
theorem yny{o0:Option Ob}{o o':Ob}(h:leO o0 o o'=true)(hl:isLoop o=false):yxd o o':=by
 unfold leO at h
 split at h<;>first|cases h|skip
 ·simp only[Bool.and_eq_true,decide_eq_true_eq]at h;obtain⟨rfl,h⟩:=h;rw[zn6 _ _ h];exact .inl rfl
 ·simp only[Bool.and_eq_true,decide_eq_true_eq]at h;obtain⟨⟨⟨⟨rfl,rfl⟩,rfl⟩,rfl⟩,h⟩:=h;rw[zgc _ _ h];exact .inl rfl
 ·simp only[Bool.and_eq_true,decide_eq_true_eq]at h;obtain⟨⟨⟨rfl,rfl⟩,rfl⟩,h⟩:=h;exact .inr (.inl ⟨_,_,_,_,_,rfl,rfl,h⟩)
 ·simp only[Bool.and_eq_true,decide_eq_true_eq]at h;obtain⟨⟨⟨rfl,rfl⟩,rfl⟩,h⟩:=h;rw[zgc _ _ h];exact .inl rfl
 ·exact yxu h
 ·simp only[Bool.and_eq_true,decide_eq_true_eq]at h;obtain⟨rfl,rfl⟩:=h;exact .inl rfl
 ·simp[isLoop]at hl
 exact .inl rfl
theorem yit [Clk]{s s1:S}(hs1:Sim oc gl s1)(hE:∀i o,look s.m i=some o->∃o',look s1.m i=some o'/\zbd o o' (s.φ i) (s1.φ i)){mm:Mem}
  (hco:∀i o',look mm i=some o'->∀c,(look s.m i).bind zlf=some c->isLoop o'=true->zlf o'=some c)(hle:leM s.m s1.m mm=true):
  Sim oc gl ⟨s1.φ,mm,s1.w,s1.Im⟩/\Ext (λ_=>True) s1 ⟨s1.φ,mm,s1.w,s1.Im⟩:=by
 have step:∀i o o',look s1.m i=some o->look mm i=some o'->leO (look s.m i) o o'=true->yxd o o':=by
  intro i o o' ho ho' hl;obtain⟨l1,l2,l3⟩:=yiw hl;cases hb:isLoop o with
  |false=>exact yny hl hb
  |true=>
   refine yxv hl λc hc=>?_
   constructor
   ·cases h0:look s.m i with
    |none=>rw[h0]at hc;simp at hc
    |some x=>
     rw[h0]at hc;obtain⟨o1,h1,t1⟩:=hE i x h0;rw[ho]at h1;obtain rfl:=Option.some.inj h1;exact yb1 t1 hc hb
   exact hco i o' ho' c hc (l1▸hb)
 have both:∀i o',look (mm) i=some o'->∃o,look s1.m i=some o/\(o=.gone↔o'=.gone)/\yxd o o':=by
  intro i o' ho'
  rcases z95 _ _ _ hle i with⟨_,h2⟩|⟨o,o2,h1,h2,h3⟩
  ·rw[h2]at ho';cases ho'
  rw[h2]at ho';obtain rfl:=Option.some.inj ho';exact⟨o,h1,(yiw h3).2.2,step i o o2 h1 h2 h3⟩
 have hE2:Ext (λ_=>True) s1 ⟨s1.φ,mm,s1.w,s1.Im⟩:=by
  refine⟨rfl,Tk.of,rfl,Nat.le_refl _,λb _ hf=>⟨rfl,λi o' ho' hg=>?_⟩,λb j hi=>.inl hi,λ_ _ hi=>hi,λ_ _ _=>rfl,λi o _ ho=>?_⟩
  ·obtain⟨o,h1,h2,_⟩:=both i o' ho';exact hf i o h1 (λe=>hg (h2.1 e))
  rcases z95 _ _ _ hle i with⟨h1,_⟩|⟨o1,o2,h1,h2,h3⟩
  ·rw[h1]at ho;cases ho
  rw[h1]at ho;obtain rfl:=Option.some.inj ho;refine⟨o2,h2,?_⟩
  rcases step i o1 o2 h1 h2 h3 with rfl|⟨t,sz,n,xs,ys,rfl,rfl,_⟩|⟨es,fs,rfl,rfl,_,_⟩
  ·exact zbd.refl _ _
  ·exact⟨rfl,rfl,rfl,Nat.le_refl _,λ_=>rfl⟩
  rfl
 refine⟨⟨λi o' ho'=>?_,λi j o o' b hij hi hj' hg hg'=>?_,hs1.imlt,hs1.glob,hs1.tabs.ext hE2⟩,hE2⟩
 ·obtain⟨o,h1,_,h3⟩:=both i o' ho';have h4:=ObR.ext hE2 (p:=s1.φ i) (λb _=>⟨rfl,λ_ hj=>hj⟩) (hs1.objs i o h1)
  rcases h3 with rfl|⟨t,sz,n,xs,ys,rfl,rfl,hb⟩|⟨es,fs,rfl,rfl,hd,hp⟩
  ·exact h4
  rotate_left
  ·obtain⟨b,ces,clock,h5,h6,h7,h8⟩:=h4;exact⟨b,ces,clock,h5,h6,h7.perm hd hp h8.2.2,h8⟩
  obtain⟨hz,vs,hown,hd,hi⟩:=h4;simp only[yuv,Bool.and_eq_true,decide_eq_true_eq]at hb;exact⟨hz,xs,vs,⟨hb.1.1,hb.1.2,z8f _ _ hb.2⟩,hown,hd,λb hb j hj=>by have:=(hi b hb j).1 hj;simp at this⟩
 obtain⟨o1,h1,h2,_⟩:=both i o hi;obtain⟨o2,k1,k2,_⟩:=both j o' hj';exact hs1.apart i j o1 o2 b hij h1 k1 (λe=>hg (h2.1 e)) (λe=>hg' (k2.1 e))
theorem yiu [Clk]{s s1:S}(hs1:Sim oc gl s1)(hE:∀i o,look s.m i=some o->∃o',look s1.m i=some o'/\zbd o o' (s.φ i) (s1.φ i))(bag:Bool){m:Mem}(hle:leM s.m s1.m (zmc bag s.m m)=true):
  Sim oc gl ⟨s1.φ,zmc bag s.m m,s1.w,s1.Im⟩/\Ext (λ_=>True) s1 ⟨s1.φ,zmc bag s.m m,s1.w,s1.Im⟩:=by
 refine yit hs1 hE (λi o' ho' c hc hl=>?_) hle
 have hj:look (zmc bag s.m m) i=(look m i).map λo=>if bag then ymx (look s.m i) (ycj (look s.m i) o)else ycj (look s.m i) o:=
  yi0 (λi o=>if bag then ymx (look s.m i) (ycj (look s.m i) o)else ycj (look s.m i) o) m i
 rw[hj]at ho';obtain⟨x,_,rfl⟩:=Option.map_eq_some_iff.1 ho';exact ykn bag _ x hc hl
theorem z3w(sz:Nat):∀(n:Nat)(ds:List D),ds.length=n*sz->(zmz sz n ds).flatten=ds
 |0,ds,h=>by
  have:ds=[]:=List.eq_nil_of_length_eq_zero (by omega);subst this;rfl
 |n+1,ds,h=>by
  simp only[zmz,List.flatten_cons];rw[z3w sz n (ds.drop sz) (by rw[List.length_drop,h,Nat.succ_mul];omega),List.take_append_drop]
theorem z0a [Clk]{s:S}{A:Act}{o:Oper}{e:Env}(hs:Sim oc gl s)(he:zc9 s e A.tmps){r:Option Nat}{run:Mem->Option (V×Mem)}{t:Nat}{v:V}{m':Mem}
  (hrun:∀s1,Sim oc gl s1->zc9 s1 e A.tmps->∀v m1,run s1.m=some (v,m1)->yqx P oc gl r s1 A o v m1)(h:zqt run s.m (get e t)=some (v,m')):yqx P oc gl r s A o v m':=by
 unfold zqt at h
 split at h
 ·rename_i i off len top hv
  split at h
  ·rename_i t' sz n xs hl;split at h<;>try cases h
   rename_i hlen;obtain⟨⟨v1,m1⟩,h1,h⟩:=Option.bind_eq_some_iff.1 h;obtain⟨rs,hrs,h⟩:=Option.bind_eq_some_iff.1 h;unfold z87 at h;split at h
   case isFalse=>cases h
   rename_i hall;simp only[Option.some.injEq,Prod.mk.injEq]at h;obtain⟨rfl,rfl⟩:=h;obtain⟨hz,ds',vs,hp,hown,hd,him⟩:=hs.objs i _ hl
   -- the row as it lies
   have hmem:zmz sz n ds'∈z0r (zmz sz n xs):=(zo8 _ _).2 hp.2.2.symm;obtain⟨⟨v2,m2⟩,hin,h2⟩:=z83 hrs _ hmem;rw[z3w sz n ds' hp.2.1]at h2;have hthis:=List.all_eq_true.1 hall _ hin;simp only[Bool.and_eq_true]at hthis;obtain⟨hv2,hm2⟩:=hthis;obtain rfl:=zt8 _ _ hv2
   obtain⟨k1,k2⟩:=hs.change i (.row true t' sz n ds') (s.φ i) s.w s.Im rfl Tk.of rfl (Nat.le_refl _) (λ_ _ _=>rfl) (λ_ _ h=>h) (λ_ _ _=>rfl) (λ_ _ h=>.inl h) hs.imlt
    (λb hb=>.inr ⟨⟨_,hl,by simp⟩,hb⟩) (λo ho=>by rw[hl]at ho;cases ho;exact⟨rfl,rfl,Nat.le_refl _,λ_=>rfl⟩)
    (λhE=>⟨hz,vs,hown,DRs.ext hE.im hE.keep _ _ hd,λb hb j=>⟨λhj=>absurd hj (him b hb j),λhj=>by simp at hj⟩⟩)
   rw[zsr]at k1 k2;have hgo:=hrun _ k1 (zc9.ext k2 (λ_ _ _=>trivial) he) v2 m2 h2;intro next Q hn;refine hgo next Q λs' x q1 q2 q3 q4=>?_
   subst q3;obtain⟨j1,j2⟩:=yiu (s:=s) q1 (λi o ho=>(Ext.trans k2 q2 (λ_ _=>trivial)).objs i o trivial ho) false hm2;exact hn ⟨s'.φ,zmc false s.m m1,s'.w,s'.Im⟩ x j1 (Ext.trans (Ext.trans k2 q2 (λ_ _=>trivial)) j2 (λ_ _=>trivial)) rfl (VR.ext j2 _ _ (λ_ _=>trivial) q4)
  exact hrun s hs he v m' h
 exact hrun s hs he v m' h
theorem z0x:∀(σ:List (Id×Id))(a b:Id),(∀a a' b,(a,b)∈σ->(a',b)∈σ->a=a')->(a,b)∈σ->subst (zpk σ) b=a
 |[],_,_,_,h=>by simp at h
 |(x,y)::r,a,b,hu,h=>by
  simp only[zpk,List.map_cons,subst]
  by_cases e:y=b
  ·subst e;rw[if_pos rfl];exact hu x a y (by simp) h
  rw[if_neg e]
  have h':(a,b)∈r:=by
   simp only[List.mem_cons,Prod.mk.injEq]at h
   rcases h with⟨_,h⟩|h
   ·exact absurd h.symm e
   exact h
  exact z0x r a b (λa a' b h1 h2=>hu a a' b (by simp[h1]) (by simp[h2])) h'
mutual
theorem yjk{σ τ:List (Id×Id)}{is:List Id}(h:∀i∈is,subst τ (subst σ i)=i):∀v:V,(∀i∈ids v,i∈is)->ren τ (ren σ v)=v
 |.d _,_=>rfl
 |.agg cs,hk=>by simp only[Evl.ren];rw[zrl h cs (by simpa only[ids]using hk)]
 |.tup cs,hk=>by simp only[Evl.ren];rw[zrl h cs (by simpa only[ids]using hk)]
 |.ref o a b c,hk=>by simp only[Evl.ren];rw[h o (hk o (by simp[ids]))]
 |.ptr o a b,hk=>by simp only[Evl.ren];rw[h o (hk o (by simp[ids]))]
 |.lptr _ _,_=>rfl
 |.cl _ _,_=>rfl
 |.fn f a b,hk=>by simp only[Evl.ren];rw[zrl h a (λi hi=>hk i (by simp[ids,hi])),zrl h b (λi hi=>hk i (by simp[ids,hi]))]
 |.yld o,hk=>by simp only[Evl.ren];rw[h o (hk o (by simp[ids]))]
 |.mp o,hk=>by simp only[Evl.ren];rw[h o (hk o (by simp[ids]))]
 |.it o,hk=>by simp only[Evl.ren];rw[h o (hk o (by simp[ids]))]
 |.skip,_=>rfl
 |.undef,_=>rfl
theorem zrl{σ τ:List (Id×Id)}{is:List Id}(h:∀i∈is,subst τ (subst σ i)=i):∀cs:List V,(∀i∈zev cs,i∈is)->zrp τ (zrp σ cs)=cs
 |[],_=>rfl
 |v::r,hk=>by
  simp only[zrp];rw[yjk h v (λi hi=>hk i (by simp[zev,hi])),zrl h r (λi hi=>hk i (by simp[zev,hi]))]
end
mutual
theorem yns(σ:List (Id×Id)):∀v:V,ids (ren σ v)=(ids v).map (subst σ)
 |.d _=>rfl
 |.agg cs=>by simp only[Evl.ren,ids];exact zu0 σ cs
 |.tup cs=>by simp only[Evl.ren,ids];exact zu0 σ cs
 |.ref ..=>rfl
 |.ptr ..=>rfl
 |.lptr _ _=>rfl
 |.cl _ _=>rfl
 |.fn f a b=>by simp only[Evl.ren,ids,List.map_append];rw[zu0 σ a,zu0 σ b]
 |.yld _=>rfl
 |.mp _=>rfl
 |.it _=>rfl
 |.skip=>rfl
 |.undef=>rfl
theorem zu0(σ:List (Id×Id)):∀cs:List V,zev (zrp σ cs)=(zev cs).map (subst σ)
 |[]=>rfl
 |v::r=>by simp only[zrp,zev,List.map_append];rw[yns σ v,zu0 σ r]
end
theorem yii(σ:List (Id×Id)):∀es:List (D×V),idsM (ygo σ es)=(idsM es).map (subst σ)
 |[]=>rfl
 |(_,v)::r=>by simp only[ygo,idsM,List.map_append];rw[yns σ v,yii σ r]
theorem ydg{σ τ:List (Id×Id)}{is:List Id}(h:∀i∈is,subst τ (subst σ i)=i):∀es:List (D×V),(∀i∈idsM es,i∈is)->ygo τ (ygo σ es)=es
 |[],_=>rfl
 |(k,v)::r,hk=>by
  simp only[ygo];rw[yjk h v (λi hi=>hk i (by simp[idsM,hi])),ydg h r (λi hi=>hk i (by simp[idsM,hi]))]
theorem yoz{σ τ:List (Id×Id)}{is:List Id}(h:∀i∈is,subst τ (subst σ i)=i)(o:Ob)(hl:isLoop o=false)(hk:∀i∈idsO o,i∈is):renO τ (renO σ o)=o:=by
 cases o with
 |cells t cs=>simp only[renO];rw[zrl h cs hk]
 |map es=>simp only[renO];rw[ydg h es hk]
 |loop=>simp[isLoop]at hl
 |_=>rfl
theorem yrn(σ:List (Id×Id))(o:Ob)(hl:isLoop o=false):idsO (renO σ o)=(idsO o).map (subst σ):=by
 cases o with
 |cells t cs=>exact zu0 σ cs
 |map es=>exact yii σ es
 |loop=>simp[isLoop]at hl
 |_=>rfl
theorem z7s(σ:List (Id×Id))(o:Ob):isLoop (renO σ o)=isLoop o:=by cases o<;>rfl
theorem z7u(m1:Mem):∀(m:Mem),yct m1 m=true->∀i o,look m i=some o->look m1 i=some o/\isLoop o=false/\o≠.gone
 |[],_,i,o,h=>by simp[look]at h
 |(j,x)::r,h,i,o,hl=>by
  simp only[yct,Bool.and_eq_true]at h;obtain⟨h1,h2⟩:=h;simp only[look]at hl
  split at hl
  ·rename_i e;subst e;obtain rfl:=Option.some.inj hl
   split at h1
   ·rename_i o' ho;have:=ys0 _ _ h1;subst this
    refine⟨ho,?_,?_⟩
    ·cases x<;>first|rfl|(simp[ygu]at h1)
    rintro rfl;simp[ygu]at h1
   cases h1
  exact z7u m1 r h2 i o hl
theorem ylg [Clk]{s:S}(hs:Sim oc gl s){as1:List V}{is:List Id}(hw:within is 0 (zev as1)=true)(hmv:movable is 0 s.m=true){xs:List Value}(hv:VRt s as1 xs):
  ∃s0:S,s0.m=moved (number ⟨0,0⟩ 0 0 is) s.m (number ⟨0,0⟩ 0 0 is)/\s0.w=s.w/\Sim oc gl s0/\VRt s0 (zrp (number ⟨0,0⟩ 0 0 is) as1) xs/\
   ∀(s1:S)(v:V)(x:Value),Sim oc gl s1->Ext (λ_=>True) s0 s1->yct s1.m (moved (number ⟨0,0⟩ 0 0 is) s.m (number ⟨0,0⟩ 0 0 is))=true->
    (ids v).all (λi=>((number ⟨0,0⟩ 0 0 is).map (·.2)).elem i)=true->VR s1 v x->
    ∃s':S,s'.w=s1.w/\Sim oc gl s'/\Ext (λ_=>True) s s'/\s'.m=s.m/\VR s' (ren (zpk (number ⟨0,0⟩ 0 0 is)) v) x:=by
 obtain⟨σ,hσ⟩:∃σ,σ=number ⟨0,0⟩ 0 0 is:=⟨_,rfl⟩
 rw[<-hσ];simp only[movable,Bool.and_eq_true,List.all_eq_true]at hmv;obtain⟨honce,hall⟩:=hmv;have inj:∀a a' b,(a,b)∈σ->(a',b)∈σ->a=a':=by subst hσ;exact yaa _ _ is 0
 have isin:∀a b,(a,b)∈σ->a∈is:=by subst hσ;exact λa b h=>(zuh _ _ is 0 a b h).1
 have sub:∀i∈is,(i,subst σ i)∈σ:=by subst hσ;exact zy3 _ _ is 0
 have only:∀a b,(a,b)∈σ->b=subst σ a:=by subst hσ;exact λa b=>z2l _ _ is 0 a b honce
 have obj:∀i∈is,∃o,look s.m i=some o/\(∀j∈idsO o,j∈is)/\isLoop o=false:=by
  intro i hi;have:=hall i hi
  split at this
  ·rename_i o ho;simp only[Bool.and_eq_true,within,List.all_eq_true,Bool.or_eq_true,List.elem_eq_mem,decide_eq_true_eq,Bool.not_eq_true']at this;exact⟨o,ho,λj hj=>(this.1.1 j hj).resolve_right (Nat.not_lt_zero _),this.1.2⟩
  cases this
 have hids:∀i∈zev as1,i∈is:=by
  have h:∀i∈zev as1,i∈is\/i.lv<0:=by
   simpa only[within,List.all_eq_true,Bool.or_eq_true,List.elem_eq_mem,decide_eq_true_eq]using hw
  exact λi hi=>(h i hi).resolve_right (Nat.not_lt_zero _)
 let φ0:Id->Value:=λi=>match σ.find? (λp=>decide (p.2=i))with
  |some p=>s.φ p.1
  |none=>undef
 have φnew:∀a b,(a,b)∈σ->φ0 b=s.φ a:=by
  intro a b hab;show(match σ.find? (λp=>decide (p.2=b))with|some p=>s.φ p.1|none=>undef)=_;cases hf:σ.find? (λp=>decide (p.2=b))with
  |none=>exact absurd (List.find?_eq_none.1 hf _ hab) (by simp)
  |some p=>
   have h1:=List.find?_some hf;have h2:=List.mem_of_find?_eq_some hf;simp only[decide_eq_true_eq]at h1;obtain⟨p1,p2⟩:=p;simp only at h1;subst h1;simp only;rw[inj p1 a p2 h2 hab]
 let s0:S:=⟨φ0,moved σ s.m σ,s.w,s.Im⟩
 have lnew:∀a b o,(a,b)∈σ->look s.m a=some o->look s0.m b=some (renO σ o):=λa b o hab ho=>zu2 σ s.m σ a b o (λa' h=>inj a' a b h hab) hab ho
 have lany:∀i o,look s0.m i=some o->∃a o',(a,i)∈σ/\look s.m a=some o'/\o=renO σ o':=λi o hi=>zoj σ s.m σ i o hi
 have ngone:∀o,renO σ o≠.gone->o≠.gone:=λo h e=>h (by rw[e];rfl)
 have hren:Ren σ (λi=>i∈is) s s0:=by
  refine⟨λ_ _ h=>h,λ_ _ _=>rfl,λi o hi ho=>?_⟩;have hab:=sub i hi;refine⟨_,lnew i _ o hab ho,?_⟩;show zbd o _ (s.φ i) (φ0 (subst σ i));rw[φnew _ _ hab];exact zbd.renO σ o _
 -- who is free among all is free here
 have free0:∀b,zxj s b->zxj s0 b:=by
  intro b hf i o hi hg;obtain⟨a,o',hab,ho',rfl⟩:=lany i o hi;show blk (φ0 i)≠some b;rw[φnew a i hab];exact hf a o' ho' (ngone _ hg)
 have sim0:Sim oc gl s0:=by
  refine⟨λi o hi=>?_,λi j o o' b hij hi hj hg hg' hb=>?_,hs.imlt,hs.glob,λg cs hg=>?_⟩
  ·obtain⟨a,o',hab,ho',rfl⟩:=lany i o hi;show ObR oc s0 (φ0 i) _;rw[φnew a i hab];obtain⟨o2,h1,h2,h3⟩:=obj a (isin a i hab);rw[ho']at h1;obtain rfl:=Option.some.inj h1;exact ObR.ren hren h2 h3 (λb _=>⟨rfl,λ_ h=>h⟩) (hs.objs a _ ho')
  ·obtain⟨a,o1,hab,ho1,rfl⟩:=lany i o hi;obtain⟨a',o2,hab',ho2,rfl⟩:=lany j o' hj;have hb:blk (φ0 i)=some b:=hb;show blk (φ0 j)≠some b;rw[φnew a i hab]at hb;rw[φnew a' j hab'];refine hs.apart a a' o1 o2 b (λe=>hij ?_) ho1 ho2 (ngone _ hg) (ngone _ hg') hb;subst e;rw[only _ _ hab,only _ _ hab']
  obtain⟨h1,h2⟩:=hs.tabs g cs hg;exact⟨free0 g h1,h2⟩
 refine⟨s0,rfl,rfl,sim0,VRt.ren hren as1 xs hids hv,λs1 v x h1 hE hk hvids hvx=>?_⟩;have hkl:=z7u s1.m _ hk
 -- an object of the question's, as it was and as it is
 have same:∀a b o,(a,b)∈σ->look s.m a=some o->look s1.m b=some (renO σ o)/\s1.φ b=s.φ a/\isLoop o=false/\o≠.gone:=by
  intro a b o hab ho;have h0:=lnew a b o hab ho;obtain⟨k1,k2,k3⟩:=hkl b _ h0;obtain⟨o',ho',ht⟩:=hE.objs b _ trivial h0;rw[k1]at ho';obtain rfl:=Option.some.inj ho';have hφ:s0.φ b=s.φ a:=φnew a b hab;rw[z7s]at k2;refine⟨k1,?_,k2,ngone _ k3⟩;rw[<-hφ]
  cases o<;>simp only[renO,zbd]at ht
  ·exact ht.1
  ·exact ht.2.2.2.2 trivial
  ·exact ht.2.2.2 trivial
  ·exact ht
  ·exact ht
  ·simp[isLoop]at k2
  exact ht
 have hback:∀i∈is,subst (zpk σ) (subst σ i)=i:=λi hi=>z0x σ i _ inj (sub i hi)
 have hτ:Ren (zpk σ) (λi=>∃a∈is,i=subst σ a) s1 ⟨s.φ,s.m,s1.w,s1.Im⟩:=by
  refine⟨λ_ _ h=>h,λ_ _ _=>rfl,?_⟩;rintro i o⟨a,ha,rfl⟩ho;obtain⟨o2,h2,_,_⟩:=obj a ha;obtain⟨k1,k2,k3,_⟩:=same a _ o2 (sub a ha) h2;rw[k1]at ho;obtain rfl:=Option.some.inj ho;rw[hback a ha];refine⟨o2,h2,?_⟩;rw[k2];cases o2<;>simp[zbd,Evl.renO,zst,isLoop]at k3⊢
 have hE':Ext (λ_=>True) s ⟨s.φ,s.m,s1.w,s1.Im⟩:=
  ⟨hE.os,hE.tape,hE.output,hE.size,λb hb hf=>⟨(hE.frame b hb (free0 b hf)).1,hf⟩,λb j h=>by
   rcases hE.imnew b j h with h|h|h
   ·exact .inl h
   ·exact .inr (.inl h)
   exact .inr (.inr λhf=>h (free0 b hf)),hE.im,hE.keep,λi o _ ho=>⟨o,ho,zbd.refl _ _⟩⟩
 refine⟨⟨s.φ,s.m,s1.w,s1.Im⟩,rfl,⟨λi o hi=>?_,hs.apart,h1.imlt,h1.glob,hs.tabs.ext hE'⟩,hE',rfl,?_⟩
 ·by_cases hmem:i∈is
  ·obtain⟨o2,h2,h3,h4⟩:=obj i hmem;have hi:look s.m i=some o:=hi;rw[hi]at h2;obtain rfl:=Option.some.inj h2;obtain⟨k1,k2,_,_⟩:=same i _ o (sub i hmem) hi;have hob:=h1.objs _ _ k1;rw[k2]at hob
   have:=ObR.ren hτ (o:=renO σ o) (by
    rw[yrn σ o h4];intro j hj;obtain⟨a,ha,rfl⟩:=List.mem_map.1 hj
    exact⟨a,h3 a ha,rfl⟩) (by rw[z7s];exact h4) (λb _=>⟨rfl,λ_ h=>h⟩) hob
   rw[yoz hback o h4 h3]at this;exact this
  by_cases hg:o=.gone
  ·subst hg;trivial
  have hfree:∀b,blk (s.φ i)=some b->zxj s0 b:=by
   intro b hb j o' hj hg';obtain⟨a,o2,hab,ho2,rfl⟩:=lany j o' hj;show blk (φ0 j)≠some b;rw[φnew a j hab];exact hs.apart i a o o2 b (λe=>hmem (e▸isin a j hab)) hi ho2 hg (ngone _ hg') hb
  refine ObR.ext hE' (λb hb=>?_) (hs.objs i o hi);have hlt:=(hs.objs i o hi).blk_lt hg hb;refine⟨(hE.frame b hlt (hfree b hb)).1,λj h=>?_⟩
  rcases hE.imnew b j h with h|h|h
  ·exact h
  ·have h:s.w.heap.size<=b:=h;omega
  exact absurd (hfree b hb) h
 refine VR.ren hτ v x (λi hi=>?_) hvx;simp only[List.all_eq_true,List.elem_eq_mem,decide_eq_true_eq,List.mem_map]at hvids;obtain⟨⟨a,b⟩,hab,rfl⟩:=hvids i hi;exact⟨a,isin a b hab,only a b hab⟩
theorem yg7 [Clk]{F:Oracle}(hF:zus P oc gl F){s:S}{A:Act}{o:Oper}{e:Env}(hs:Sim oc gl s)(he:zc9 s e A.tmps)(r:Option Nat){f:Opd}{args:List Opd}{v:V}
  (ok:zm2 gl o f args=true)(h:zyi F (zrq (f.ev e)) (evs e args) s.m=some v):yqx P oc gl r s A o v s.m:=by
 unfold zm2 at ok;split at ok<;>try cases ok
 rename_i c ho;split at ok<;>try cases ok
 rename_i g hc;simp only[Bool.and_eq_true]at ok;have hf:=zbg hs he ok.1;have hargs:=zui hs he _ _ ok.2;replace hf:=z24 hf;generalize zrq (f.ev e)=vf at hf h;generalize evs e args=vs at hargs h;intro next Q hn;refine⟨λ_ _=>trivial,?_⟩;rw[Oper.semAt_eq _ _ _ (λc' hc'=>by rw[ho]at hc';cases hc')]
 have enter:∀(fid:Nat)(xs ys:Array Value)(R:Ending->World->Prop),A.eval g=.func (.func fid) xs ys->Enters P fid->CallsIn Fence.wide 0 P fid (xs.toList++(c.args.toList.map A.eval)++ys.toList).toArray s.w R->
   (∀e' w',R e' w'->∃x,e'=.returned x/\next (A.put o.dst x) w')->o.uponIn (fen r) 0 P A next Q ((execOp A.eval o).run P s.w):=by
  intro fid xs ys R hg hen hcall hnext
  have hrun:(execOp A.eval o).run P s.w=.ok (.enter fid (xs++c.args.map A.eval++ys)) s.w:=by
   simp[execOp,ho,Go.resolve,hc,hg,Deferred.ofValue,invoke,zk4 hen]
  rw[hrun];refine⟨λh=>by simp[fen]at h,?_⟩
  have harr:(xs.toList++(c.args.toList.map A.eval)++ys.toList).toArray=xs++c.args.map A.eval++ys:=by
   apply Array.ext';simp
  rw[harr]at hcall
  exact CallsIn.mono (F:=fen r) (n:=0) hcall λe' w' hr=>by
   obtain⟨x,rfl,hx⟩:=hnext e' w' hr;exact hx
 unfold zyi at h;split at h<;>try cases h
 rename_i fid first caps
 simp only at h;split at h
 case isFalse=>cases h
 rename_i hcond;simp only[Bool.and_eq_true]at hcond;split at h<;>try cases h
 rename_i v1 m1 hcall;split at h
 case isFalse=>cases h
 rename_i hk;simp only[Bool.and_eq_true]at hk;obtain rfl:=Option.some.inj h;obtain⟨xs,ys,hg,hx,hy⟩:=hf;obtain⟨hen,hgo⟩:=hF _ _ _ _ _ _ hcall;obtain⟨s0,hm0,hw0,hs0,hv0,hend⟩:=ylg hs hcond.1 hcond.2 (VRt.append _ _ _ _ (VRt.append _ _ _ _ hx hargs) hy);have hgo:=hgo s0 hs0 hm0 _ hv0;rw[hw0]at hgo;refine enter fid xs ys _ hg hen hgo ?_;rintro e' w'⟨s1,x,rfl,rfl,k1,k2,rfl,k4⟩;obtain⟨s',hw',q1,q2,q3,q4⟩:=hend s1 v1 x k1 k2 hk.1 hk.2 k4;exact⟨x,rfl,hw'▸hn s' x q1 q2 q3 q4⟩
theorem zbd.back{σ τ:List (Id×Id)}{o o1:Ob}{p q:Value}(h:zbd (Evl.renO σ o) o1 p q)(hu:okU o1=true):zbd o (Evl.renO τ o1) p q:=by
 cases o<;>cases o1<;>simp[okU]at hu<;>simp only[Evl.renO,zbd,zst]at h⊢ <;>exact h
theorem z65(σ:List (Id×Id))(m1:Mem):∀(l:List (Id×Id))(m m':Mem),(∀a b b',(a,b)∈l->(a,b')∈l->b=b')->zvl σ m1 l m=some m'->
  (∀a b,(a,b)∈l->∃o,look m1 b=some o/\okU o=true/\(∀j∈idsO o,(σ.map (·.2)).elem j=true)/\look m' a=some (renO (zpk σ) o))/\∀i,(∀b,(i,b)∉l)->look m' i=look m i
 |[],m,m',_,h=>by
  simp only[zvl,Option.some.injEq]at h;subst h;exact⟨λa b h=>by simp at h,λ_ _=>rfl⟩
 |(a0,b0)::r,m,m',hf,h=>by
  simp only[zvl]at h;split at h
  case h_2=>cases h
  rename_i o ho;split at h
  case isFalse=>cases h
  rename_i hc;simp only[Bool.and_eq_true,List.all_eq_true]at hc;obtain⟨h1,h2⟩:=z65 σ m1 r _ m' (λa b b' h h'=>hf a b b' (by simp[h]) (by simp[h'])) h
  refine⟨λa b hab=>?_,λi hi=>?_⟩
  ·by_cases hr:∃b',(a,b')∈r
   ·obtain⟨b',hb'⟩:=hr;have e:=hf a b b' hab (by simp[hb']);subst e;exact h1 a b hb'
   have hab':a=a0/\b=b0:=by
    simp only[List.mem_cons,Prod.mk.injEq]at hab;exact hab.resolve_right λh=>hr ⟨b,h⟩
   obtain⟨rfl,rfl⟩:=hab';refine⟨o,ho,hc.1,hc.2,?_⟩;rw[h2 a λb' hb'=>hr ⟨b',hb'⟩];exact zbh _ _ _
  rw[h2 i λb hb=>hi b (by simp[hb])];exact za9 _ _ _ _ λe=>hi b0 (by simp[e])
theorem yhj [Clk]{s:S}(hs:Sim oc gl s){as1:List V}{is:List Id}(hw:within is 0 (zev as1)=true)(hmv:movable is 0 s.m=true){xs:List Value}(hv:VRt s as1 xs):
  ∃s0:S,s0.m=moved (number ⟨0,0⟩ 0 0 is) s.m (number ⟨0,0⟩ 0 0 is)/\s0.w=s.w/\Sim oc gl s0/\VRt s0 (zrp (number ⟨0,0⟩ 0 0 is) as1) xs/\
   ∀(s1:S)(v:V)(x:Value)(m':Mem),Sim oc gl s1->Ext (λ_=>True) s0 s1->zvl (number ⟨0,0⟩ 0 0 is) s1.m (number ⟨0,0⟩ 0 0 is) s.m=some m'->
    (ids v).all (λi=>((number ⟨0,0⟩ 0 0 is).map (·.2)).elem i)=true->VR s1 v x->
    ∃s':S,s'.w=s1.w/\Sim oc gl s'/\Ext (λ_=>True) s s'/\s'.m=m'/\VR s' (ren (zpk (number ⟨0,0⟩ 0 0 is)) v) x:=by
 obtain⟨σ,hσ⟩:∃σ,σ=number ⟨0,0⟩ 0 0 is:=⟨_,rfl⟩
 rw[<-hσ];simp only[movable,Bool.and_eq_true,List.all_eq_true]at hmv;obtain⟨honce,hall⟩:=hmv;have inj:∀a a' b,(a,b)∈σ->(a',b)∈σ->a=a':=by subst hσ;exact yaa _ _ is 0
 have isin:∀a b,(a,b)∈σ->a∈is:=by subst hσ;exact λa b h=>(zuh _ _ is 0 a b h).1
 have sub:∀i∈is,(i,subst σ i)∈σ:=by subst hσ;exact zy3 _ _ is 0
 have only:∀a b,(a,b)∈σ->b=subst σ a:=by subst hσ;exact λa b=>z2l _ _ is 0 a b honce
 have obj:∀i∈is,∃o,look s.m i=some o/\(∀j∈idsO o,j∈is)/\isLoop o=false:=by
  intro i hi;have:=hall i hi
  split at this
  ·rename_i o ho;simp only[Bool.and_eq_true,within,List.all_eq_true,Bool.or_eq_true,List.elem_eq_mem,decide_eq_true_eq,Bool.not_eq_true']at this;exact⟨o,ho,λj hj=>(this.1.1 j hj).resolve_right (Nat.not_lt_zero _),this.1.2⟩
  cases this
 have hids:∀i∈zev as1,i∈is:=by
  have h:∀i∈zev as1,i∈is\/i.lv<0:=by
   simpa only[within,List.all_eq_true,Bool.or_eq_true,List.elem_eq_mem,decide_eq_true_eq]using hw
  exact λi hi=>(h i hi).resolve_right (Nat.not_lt_zero _)
 let φ0:Id->Value:=λi=>match σ.find? (λp=>decide (p.2=i))with
  |some p=>s.φ p.1
  |none=>undef
 have φnew:∀a b,(a,b)∈σ->φ0 b=s.φ a:=by
  intro a b hab;show(match σ.find? (λp=>decide (p.2=b))with|some p=>s.φ p.1|none=>undef)=_;cases hf:σ.find? (λp=>decide (p.2=b))with
  |none=>exact absurd (List.find?_eq_none.1 hf _ hab) (by simp)
  |some p=>
   have h1:=List.find?_some hf;have h2:=List.mem_of_find?_eq_some hf;simp only[decide_eq_true_eq]at h1;obtain⟨p1,p2⟩:=p;simp only at h1;subst h1;simp only;rw[inj p1 a p2 h2 hab]
 let s0:S:=⟨φ0,moved σ s.m σ,s.w,s.Im⟩
 have lnew:∀a b o,(a,b)∈σ->look s.m a=some o->look s0.m b=some (renO σ o):=λa b o hab ho=>zu2 σ s.m σ a b o (λa' h=>inj a' a b h hab) hab ho
 have lany:∀i o,look s0.m i=some o->∃a o',(a,i)∈σ/\look s.m a=some o'/\o=renO σ o':=λi o hi=>zoj σ s.m σ i o hi
 have ngone:∀o,renO σ o≠.gone->o≠.gone:=λo h e=>h (by rw[e];rfl)
 have hren:Ren σ (λi=>i∈is) s s0:=by
  refine⟨λ_ _ h=>h,λ_ _ _=>rfl,λi o hi ho=>?_⟩;have hab:=sub i hi;refine⟨_,lnew i _ o hab ho,?_⟩;show zbd o _ (s.φ i) (φ0 (subst σ i));rw[φnew _ _ hab];exact zbd.renO σ o _
 -- who is free among all is free here
 have free0:∀b,zxj s b->zxj s0 b:=by
  intro b hf i o hi hg;obtain⟨a,o',hab,ho',rfl⟩:=lany i o hi;show blk (φ0 i)≠some b;rw[φnew a i hab];exact hf a o' ho' (ngone _ hg)
 have sim0:Sim oc gl s0:=by
  refine⟨λi o hi=>?_,λi j o o' b hij hi hj hg hg' hb=>?_,hs.imlt,hs.glob,λg cs hg=>?_⟩
  ·obtain⟨a,o',hab,ho',rfl⟩:=lany i o hi;show ObR oc s0 (φ0 i) _;rw[φnew a i hab];obtain⟨o2,h1,h2,h3⟩:=obj a (isin a i hab);rw[ho']at h1;obtain rfl:=Option.some.inj h1;exact ObR.ren hren h2 h3 (λb _=>⟨rfl,λ_ h=>h⟩) (hs.objs a _ ho')
  ·obtain⟨a,o1,hab,ho1,rfl⟩:=lany i o hi;obtain⟨a',o2,hab',ho2,rfl⟩:=lany j o' hj;have hb:blk (φ0 i)=some b:=hb;show blk (φ0 j)≠some b;rw[φnew a i hab]at hb;rw[φnew a' j hab'];refine hs.apart a a' o1 o2 b (λe=>hij ?_) ho1 ho2 (ngone _ hg) (ngone _ hg') hb;subst e;rw[only _ _ hab,only _ _ hab']
  obtain⟨h1,h2⟩:=hs.tabs g cs hg;exact⟨free0 g h1,h2⟩
 refine⟨s0,rfl,rfl,sim0,VRt.ren hren as1 xs hids hv,λs1 v x m' h1 hE hk hvids hvx=>?_⟩;have fst1:∀a b b',(a,b)∈σ->(a,b')∈σ->b=b':=λa b b' h h'=>(only a b h).trans (only a b' h').symm
 obtain⟨hin,hout⟩:=z65 σ s1.m σ s.m m' fst1 hk
 have hrange:∀j,(σ.map (·.2)).elem j=true->∃a∈is,j=subst σ a:=by
  intro j hj;simp only[List.elem_eq_mem,decide_eq_true_eq,List.mem_map]at hj;obtain⟨⟨a,b⟩,hab,rfl⟩:=hj;exact⟨a,isin a b hab,only a b hab⟩
 -- an object of the call's, as it is behind it, and as it comes back
 have now:∀i∈is,∃o1,look s1.m (subst σ i)=some o1/\okU o1=true/\(∀j∈idsO o1,∃a∈is,j=subst σ a)/\look m' i=some (renO (zpk σ) o1):=by
  intro i hi;obtain⟨o1,k1,k2,k3,k4⟩:=hin i _ (sub i hi);exact⟨o1,k1,k2,λj hj=>hrange j (k3 j hj),k4⟩
 have away:∀i,i∉is->look m' i=look s.m i:=λi hi=>hout i λb hab=>hi (isin i b hab)
 let φ':Id->Value:=λi=>if i∈is then s1.φ (subst σ i)else s.φ i
 have φin:∀i∈is,φ' i=s1.φ (subst σ i):=λi hi=>if_pos hi
 have φout:∀i,i∉is->φ' i=s.φ i:=λi hi=>if_neg hi
 have gone1:∀o1,okU o1=true->renO (zpk σ) o1≠.gone/\o1≠.gone/\isLoop o1=false:=by
  intro o1 h;cases o1<;>simp[okU,Evl.renO,isLoop]at h⊢
 have hback:∀i∈is,subst (zpk σ) (subst σ i)=i:=λi hi=>z0x σ i _ inj (sub i hi)
 have hfree:∀i o,i∉is->look s.m i=some o->o≠.gone->∀b,blk (s.φ i)=some b->zxj s0 b:=by
  intro i o hmem hi hg b hb j o' hj hg';obtain⟨a,o2,hab,ho2,rfl⟩:=lany j o' hj;show blk (φ0 j)≠some b;rw[φnew a j hab];exact hs.apart i a o o2 b (λe=>hmem (e▸isin a j hab)) hi ho2 hg (ngone _ hg') hb
 let s':S:=⟨φ',m',s1.w,s1.Im⟩
 have hτ:Ren (zpk σ) (λi=>∃a∈is,i=subst σ a) s1 s':=by
  refine⟨λ_ _ h=>h,λ_ _ _=>rfl,?_⟩;rintro i o⟨a,ha,rfl⟩ho;obtain⟨o1,k1,k2,k3,k4⟩:=now a ha;rw[k1]at ho;obtain rfl:=Option.some.inj ho;rw[hback a ha];refine⟨_,k4,?_⟩;show zbd o1 _ (s1.φ (subst σ a)) (φ' a);rw[φin a ha];exact zbd.renO _ _ _
 have hE':Ext (λ_=>True) s s':=by
  refine⟨hE.os,hE.tape,hE.output,hE.size,λb hb hf=>⟨(hE.frame b hb (free0 b hf)).1,λi o hi hg=>?_⟩,λb j h=>?_,hE.im,hE.keep,λi o _ ho=>?_⟩
  ·show blk (φ' i)≠some b
   by_cases hmem:i∈is
   ·obtain⟨o1,k1,k2,_,_⟩:=now i hmem;rw[φin i hmem];exact(hE.frame b hb (free0 b hf)).2 _ o1 k1 (gone1 o1 k2).2.1
   rw[φout i hmem];have hi:look m' i=some o:=hi;rw[away i hmem]at hi;exact hf i o hi hg
  ·rcases hE.imnew b j h with h|h|h
   ·exact .inl h
   ·exact .inr (.inl h)
   exact .inr (.inr λhf=>h (free0 b hf))
  by_cases hmem:i∈is
  ·obtain⟨o1,k1,k2,_,k4⟩:=now i hmem;refine⟨_,k4,?_⟩;obtain⟨o',ho',ht⟩:=hE.objs (subst σ i) _ trivial (lnew i _ o (sub i hmem) ho);rw[k1]at ho';obtain rfl:=Option.some.inj ho';have hφ:s0.φ (subst σ i)=s.φ i:=φnew i _ (sub i hmem);rw[hφ]at ht;show zbd o _ (s.φ i) (φ' i);rw[φin i hmem];exact ht.back k2
  refine⟨o,(away i hmem).trans ho,?_⟩;show zbd o o (s.φ i) (φ' i);rw[φout i hmem];exact zbd.refl _ _
 refine⟨s',rfl,⟨λi o hi=>?_,λi j o o' b hij hi hj hg hg' hb=>?_,h1.imlt,h1.glob,hs.tabs.ext hE'⟩,hE',rfl,?_⟩
 ·have hi:look m' i=some o:=hi;show ObR oc s' (φ' i) o
  by_cases hmem:i∈is
  ·obtain⟨o1,k1,k2,k3,k4⟩:=now i hmem;rw[k4]at hi;obtain rfl:=Option.some.inj hi;rw[φin i hmem];exact ObR.ren hτ k3 (gone1 o1 k2).2.2 (λb _=>⟨rfl,λ_ h=>h⟩) (h1.objs _ _ k1)
  by_cases hg:o=.gone
  ·subst hg;trivial
  rw[away i hmem]at hi;rw[φout i hmem];refine ObR.ext hE' (λb hb=>?_) (hs.objs i o hi);have hf0:=hfree i o hmem hi hg b hb;have hlt:=(hs.objs i o hi).blk_lt hg hb;refine⟨(hE.frame b hlt hf0).1,λj h=>?_⟩
  rcases hE.imnew b j h with h|h|h
  ·exact h
  ·have h:s.w.heap.size<=b:=h;omega
  exact absurd hf0 h
 ·have hi:look m' i=some o:=hi;have hj:look m' j=some o':=hj;have hb:blk (φ' i)=some b:=hb;show blk (φ' j)≠some b
  by_cases mi:i∈is
  ·obtain⟨oi,a1,a2,_,_⟩:=now i mi;rw[φin i mi]at hb
   by_cases mj:j∈is
   ·obtain⟨oj,b1,b2,_,_⟩:=now j mj;rw[φin j mj];refine h1.apart _ _ oi oj b (λe=>hij ?_) a1 b1 (gone1 oi a2).2.1 (gone1 oj b2).2.1 hb;rw[<-hback i mi,<-hback j mj,e]
   rw[φout j mj];rw[away j mj]at hj;intro hbj;have hlt:=(hs.objs j o' hj).blk_lt hg' hbj;exact(hE.frame b hlt (hfree j o' mj hj hg' b hbj)).2 _ oi a1 (gone1 oi a2).2.1 hb
  rw[φout i mi]at hb;rw[away i mi]at hi
  by_cases mj:j∈is
  ·obtain⟨oj,b1,b2,_,_⟩:=now j mj;rw[φin j mj];have hlt:=(hs.objs i o hi).blk_lt hg hb;exact(hE.frame b hlt (hfree i o mi hi hg b hb)).2 _ oj b1 (gone1 oj b2).2.1
  rw[φout j mj];rw[away j mj]at hj;exact hs.apart i j o o' b hij hi hj hg hg' hb
 refine VR.ren hτ v x (λi hi=>?_) hvx;simp only[List.all_eq_true]at hvids;exact hrange i (hvids i hi)
theorem ynn{s:S}(hs:Sim oc gl s):∀(vs:List V)(xs:List Value),VRt s vs xs->VRt s (vs.map (z0i s.m)) xs
 |[],_,h=>h
 |v::r,_,⟨x,xs,h1,h2,h3⟩=>by
  refine⟨x,xs,h1,?_,ynn hs r xs h3⟩;cases v<;>simp only[z0i]<;>try exact h2
  split
  ·rename_i d hd;exact zo5 hs _ _ _ hd h2
  exact h2
theorem yd5 [Clk]{F:Oracle}(hF:zus P oc gl F){s:S}{A:Act}{o:Oper}{e:Env}(hs:Sim oc gl s)(he:zc9 s e A.tmps)(r:Option Nat){f:Opd}{args:List Opd}{v:V}{m':Mem}
  (imm:Bool)(ok:zm2 gl o f args=true)(h:zt2 F imm (zrq (f.ev e)) (evs e args) s.m=some (v,m')):yqx P oc gl r s A o v m':=by
 unfold zm2 at ok;split at ok<;>try cases ok
 rename_i c ho;split at ok<;>try cases ok
 rename_i g hc;simp only[Bool.and_eq_true]at ok;have hf:=zbg hs he ok.1;have hargs:=zui hs he _ _ ok.2;replace hf:=z24 hf;generalize zrq (f.ev e)=vf at hf h;generalize evs e args=vs at hargs h;intro next Q hn;refine⟨λ_ _=>trivial,?_⟩;rw[Oper.semAt_eq _ _ _ (λc' hc'=>by rw[ho]at hc';cases hc')]
 have enter:∀(fid:Nat)(xs ys:Array Value)(R:Ending->World->Prop),A.eval g=.func (.func fid) xs ys->Enters P fid->CallsIn Fence.wide 0 P fid (xs.toList++(c.args.toList.map A.eval)++ys.toList).toArray s.w R->
   (∀e' w',R e' w'->∃x,e'=.returned x/\next (A.put o.dst x) w')->o.uponIn (fen r) 0 P A next Q ((execOp A.eval o).run P s.w):=by
  intro fid xs ys R hg hen hcall hnext
  have hrun:(execOp A.eval o).run P s.w=.ok (.enter fid (xs++c.args.map A.eval++ys)) s.w:=by
   simp[execOp,ho,Go.resolve,hc,hg,Deferred.ofValue,invoke,zk4 hen]
  rw[hrun];refine⟨λh=>by simp[fen]at h,?_⟩
  have harr:(xs.toList++(c.args.toList.map A.eval)++ys.toList).toArray=xs++c.args.map A.eval++ys:=by
   apply Array.ext';simp
  rw[harr]at hcall
  exact CallsIn.mono (F:=fen r) (n:=0) hcall λe' w' hr=>by
   obtain⟨x,rfl,hx⟩:=hnext e' w' hr;exact hx
 unfold zt2 at h;split at h<;>try cases h
 rename_i fid first caps
 simp only at h;split at h
 case isFalse=>cases h
 rename_i hcond;simp only[Bool.and_eq_true]at hcond;split at h<;>try cases h
 rename_i v1 m1 hcall;obtain⟨xs,ys,hg,hx,hy⟩:=hf;obtain⟨hen,hgo⟩:=hF _ _ _ _ _ _ hcall;obtain⟨s0,hm0,hw0,hs0,hv0,hend⟩:=yhj hs hcond.1 hcond.2 (ynn hs _ _ (VRt.append _ _ _ _ (VRt.append _ _ _ _ hx hargs) hy));have hgo:=hgo s0 hs0 hm0 _ hv0;rw[hw0]at hgo;refine enter fid xs ys _ hg hen hgo ?_;rintro e' w'⟨s1,x,rfl,rfl,k1,k2,rfl,k4⟩
 split at h
 ·split at h
  case isFalse=>cases h
  rename_i hlow;simp only[Bool.and_eq_true]at hlow;split at h<;>try cases h
  rename_i v2 m2 htk;split at h
  case isFalse=>cases h
  rename_i hk;simp only[Option.map_eq_some_iff,Prod.mk.injEq]at h;obtain⟨m3,hb,rfl,rfl⟩:=h;obtain⟨s2,hw2,p1,p2,p3,p4⟩:=yhh (zwq k1 k2 (by rw[hm0];exact hlow.1) hlow.2) htk k4;subst p3;obtain⟨s',hw',q1,q2,q3,q4⟩:=hend s2 v2 x m3 p1 p2 hb hk p4;exact⟨x,rfl,(hw'.trans hw2)▸hn s' x q1 q2 q3 q4⟩
 split at h
 case isFalse=>cases h
 rename_i hk;simp only[Option.map_eq_some_iff,Prod.mk.injEq]at h;obtain⟨m2,hb,rfl,rfl⟩:=h;obtain⟨s',hw',q1,q2,q3,q4⟩:=hend s1 v1 x m2 k1 k2 hb hk k4;exact⟨x,rfl,hw'▸hn s' x q1 q2 q3 q4⟩
theorem yjg{w w':World}{Im Im':Nat->Nat->Prop}:∀(d:D)(v:Value),z09 d=true->DR w Im d v->DR w' Im' d v
 |.int ..,_,_,h=>by simpa only[DR]using h
 |.bool _,_,_,h=>by simpa only[DR]using h
 |.str _,_,_,h=>by simpa only[DR]using h
 |.nil,_,h,_=>by cases h
 |.list ..,_,h,_=>by cases h
 |.agg _,_,h,_=>by cases h
 |.nilp,_,h,_=>by cases h
 |.nilf,_,h,_=>by cases h
 |.nili,_,h,_=>by cases h
 |.ifc _,_,h,_=>by cases h
 |.nilm,_,h,_=>by cases h
 |.fn _,_,h,_=>by cases h
theorem ydc{w w':World}{Im Im':Nat->Nat->Prop}:∀(ds:List D)(vs:List Value),ds.all z09=true->DRs w Im ds vs->DRs w' Im' ds vs
 |[],vs,_,h=>h
 |d::r,vs,hp,h=>by
  simp only[List.all_cons,Bool.and_eq_true]at hp;obtain⟨y,zs,rfl,h1,h2,h3⟩:=h;exact⟨y,zs,rfl,h1,yjg d y hp.1 h2,ydc r zs hp.2 h3⟩
def ImZ(s s1:S)(b j:Nat):Prop:=s.Im b j\/(s.w.heap.size<=b/\z00 0 s1 b j)
structure yy6(gl:Globs)(s s1:S):Prop where
 size:s.w.heap.size<=s1.w.heap.size
 old:∀b j,s.Im b j->b<s.w.heap.size
 new:∀i o b,look s1.m i=some o->o≠.gone->blk (s1.φ i)=some b->s.w.heap.size<=b
 glob:∀g cs,(g,cs)∈gl->CR s1.w (ImZ s s1) g 0 cs
theorem ynm{s s1:S}(hs:Sim oc gl s1)(hz0:yy6 gl s s1){i:Id}{wr:Bool}{t sz n:Nat}{xs:List D}(hp:xs.all z09=true)(hl:look s1.m i=some (.row wr t sz n xs)){off len top:Nat}{x:Value}
  (h2:n=top)(h3:off+len<=n)(hv:VR s1 (.ref i off len top) x):
  DR s1.w (ImZ s s1) (.list len (if off=0/\len=n then xs else win xs (off*sz) (len*sz))) x:=by
 obtain⟨hz,ys,hown,hdr,him⟩:=hs.objs i _ hl
 let s2:S:=⟨s1.φ,[(i,.row false t sz n xs)],s1.w,ImZ s s1⟩
 have hl2:look s2.m i=some (.row false t sz n xs):=by simp[s2,look]
 have hs2:Sim oc gl s2:=by
  refine⟨λk o hk=>?_,λa b o o' c hab ha hb _ _ _=>?_,λb j h=>?_,hz0.glob,λg cs hg=>?_⟩
  ·have hk1:(if i=k then some (Ob.row false t sz n xs)else none)=some o:=hk;clear hk
   split at hk1
   ·rename_i e;subst e;obtain rfl:=Option.some.inj hk1;refine⟨hz,ys,hown,ydc xs ys hp hdr,λb hb j=>⟨λh=>⟨rfl,?_⟩,λh=>.inr ⟨hz0.new i _ b hl (by simp) (zm9 _ _ hb),.inr ⟨i,wr,t,sz,n,xs,Nat.zero_le _,hl,zm9 _ _ hb,h.2⟩⟩⟩⟩;have hge:=hz0.new i _ b hl (by simp) (zm9 _ _ hb)
    rcases h with h|⟨_,h|⟨k,wr',t',sz',n',xs',_,hk',hb',hj⟩⟩
    ·have:=hz0.old b j h;omega
    ·exact((him b hb j).1 h).2
    by_cases e:k=i
    ·subst e;rw[hl]at hk';simp only[Option.some.injEq,Ob.row.injEq]at hk';obtain⟨_,_,rfl,rfl,_⟩:=hk';exact hj
    exact absurd (zm9 _ _ hb) (hs.apart k i _ _ b e hk' hl (by simp) (by simp) hb')
   cases hk1
  ·have ha1:(if i=a then some (Ob.row false t sz n xs)else none)=some o:=ha;have hb1:(if i=b then some (Ob.row false t sz n xs)else none)=some o':=hb;clear ha hb
   split at ha1
   ·split at hb1
    ·rename_i e1 e2;exact absurd (e1.symm.trans e2) hab
    cases hb1
   cases ha1
  ·rcases h with h|⟨_,h|⟨k,wr',t',sz',n',xs',_,hk',hb',hj⟩⟩
   ·exact Nat.lt_of_lt_of_le (hz0.old b j h) hz0.size
   ·exact hs.imlt b j h
   exact(hs.objs k _ hk').blk_lt (by simp) hb'
  obtain⟨h1,h2⟩:=hs.tabs g cs hg;refine⟨λa o ha hgo=>?_,h2⟩;have ha1:(if i=a then some (Ob.row false t sz n xs)else none)=some o:=ha
  split at ha1
  ·rename_i e;subst e;exact h1 i _ hl (by simp)
  cases ha1
 have hv2:VR s2 (.ref i off len top) x:=by
  refine⟨hv.1,?_⟩;have:=hv.2;rw[hl]at this;rw[hl2];exact this
 exact z0h hs2 hl2 rfl h2 h3 hv2
theorem ycl{s s1:S}(hs:Sim oc gl s1)(hz0:yy6 gl s s1):∀(v:V)(d:D)(x:Value),z07 s1.m v=true->freeze true s1.m v=some d->VR s1 v x->DR s1.w (ImZ s s1) d x:=by
 intro v d x hf h hv;unfold z07 at hf
 split at hf
 ·simp only[freeze,Option.some.injEq]at h;subst h;exact yjg _ _ hf hv
 ·rename_i i off len top
  split at hf
  ·rename_i hl;simp only[freeze,hl]at h
   split at h
   ·rename_i hc;obtain⟨h1,h2,h3⟩:=hc;obtain rfl:=Option.some.inj h;exact ynm hs hz0 hf hl h2 h3 hv
   cases h
  cases hf
 cases hf
theorem ycm{s s1 s':S}(hs:Sim oc gl s1)(hz0:yy6 gl s s1)(hw:s'.w=s1.w)(him:s'.Im=ImZ s s1):∀(cs:List V)(ds:List D)(xs:List Value),cs.all (z07 s1.m)=true->freezeL true s1.m cs=some ds->VRt s1 cs xs->VRt s' (asV ds) xs
 |[],ds,xs,_,h,hv=>by simp only[freezeL,Option.some.injEq]at h;subst h;exact hv
 |v::r,ds,xs,hk,h,hv=>by
  simp only[List.all_cons,Bool.and_eq_true]at hk;obtain⟨x,ys,rfl,h2,h3⟩:=hv;simp only[freezeL]at h
  split at h
  ·rename_i d ds' e1 e2;obtain rfl:=Option.some.inj h;refine⟨x,ys,rfl,?_,ycm hs hz0 hw him r ds' ys hk.2 e2 h3⟩;have:=ycl hs hz0 v d x hk.1 e1 h2;show DR s'.w s'.Im d x;rw[hw,him];exact this
  cases h
theorem yl2 [Clk]{F:Oracle}(hF:zus P oc gl F){s:S}{A:Act}{o:Oper}{e:Env}(hs:Sim oc gl s)(he:zc9 s e A.tmps)(r:Option Nat){f:Opd}{args:List Opd}{v:V}{m':Mem}
  (ok:zm2 gl o f args=true)(h:z3s F (zrq (f.ev e)) (evs e args) s.m=some (v,m')):yqx P oc gl r s A o v m':=by
 unfold zm2 at ok;split at ok<;>try cases ok
 rename_i c ho;split at ok<;>try cases ok
 rename_i g hc;simp only[Bool.and_eq_true]at ok;have hf:=zbg hs he ok.1;have hargs:=zui hs he _ _ ok.2;replace hf:=z24 hf;generalize zrq (f.ev e)=vf at hf h;generalize evs e args=vs at hargs h;intro next Q hn;refine⟨λ_ _=>trivial,?_⟩;rw[Oper.semAt_eq _ _ _ (λc' hc'=>by rw[ho]at hc';cases hc')];have hmap:(c.args.map A.eval).toList=c.args.toList.map A.eval:=by simp
 unfold z3s at h;split at h<;>try cases h
 rename_i fid first caps
 split at h<;>try cases h
 rename_i ds hfr;split at h<;>try cases h
 rename_i v1 m1 hcall;split at h<;>try cases h
 rename_i hfresh;simp only[Option.map_eq_some_iff,Prod.mk.injEq]at h;obtain⟨v2,hth,rfl,rfl⟩:=h;obtain⟨xs,ys,hg,hx,hy⟩:=hf;obtain⟨hen,hgo⟩:=hF _ _ _ _ _ _ hcall
 let s0:S:=⟨s.φ,[],s.w,z00 0 s⟩
 have hs0:Sim oc gl s0:=by
  refine⟨λi o h=>by simp[s0,look]at h,λi j o o' b _ h=>by simp[s0,look]at h,λb j h=>?_,λg cs hg=>CR.ext (λ_ _ h=>.inl h) (λ_ _ _=>rfl) g 0 cs (hs.glob g cs hg),λg cs hg=>⟨λi o h=>by simp[s0,look]at h,(hs.tabs g cs hg).2⟩⟩
  rcases h with h|⟨k,wr',t',sz',n',xs',_,hk',hb',_⟩
  ·exact hs.imlt b j h
  exact(hs.objs k _ hk').blk_lt (by simp) hb'
 have hv0:=ya2 (lo:=0) (s':=s0) hs rfl rfl _ _ _ (λ_ _=>Nat.zero_le _) hfr (VRt.append _ _ _ _ (VRt.append _ _ _ _ hx hargs) hy)
 have hrun:(execOp A.eval o).run P s.w=.ok (.enter fid (xs++c.args.map A.eval++ys)) s.w:=by
  simp[execOp,ho,Go.resolve,hc,hg,Deferred.ofValue,invoke,zk4 hen]
 rw[hrun];refine⟨λh=>by simp[fen]at h,?_⟩
 have harr:(xs.toList++(c.args.toList.map A.eval)++ys.toList).toArray=xs++c.args.map A.eval++ys:=by
  apply Array.ext';simp
 have hcalls:=hgo s0 hs0 rfl _ hv0;rw[harr]at hcalls;refine CallsIn.mono (F:=fen r) (n:=0) hcalls ?_;rintro e' w'⟨s1,x,rfl,rfl,k1,k2,rfl,k4⟩;have free0:∀b,zxj s0 b:=λb i o hi _=>by simp[s0,look]at hi
 have hsn:yy6 gl s s1:=by
  refine⟨k2.size,hs.imlt,λi o b hi hg hb=>?_,λg cs hg=>CR.ext (λ_ _ h=>.inl h) (λb j h=>k2.keep b j (.inl h)) g 0 cs (hs.glob g cs hg)⟩
  rcases Nat.lt_or_ge b s.w.heap.size with hlt|hge
  ·exact absurd hb ((k2.frame b hlt (free0 b)).2 i o hi hg)
  exact hge
 let s':S:=⟨s.φ,s.m,s1.w,ImZ s s1⟩
 have hE:Ext (λ_=>True) s s':=
  ⟨k2.os,k2.tape,k2.output,k2.size,λb hb hf=>⟨(k2.frame b hb (free0 b)).1,hf⟩,λb j h=>h.elim .inl λh=>.inr (.inl h.1),λb j h=>.inl h,λb j h=>k2.keep b j (.inl h),λi o _ ho=>⟨o,ho,zbd.refl _ _⟩⟩
 have hS:Sim oc gl s':=by
  refine⟨λi o hi=>?_,hs.apart,λb j h=>?_,hsn.glob,hs.tabs.ext hE⟩
  ·by_cases hg:o=.gone
   ·subst hg;trivial
   refine ObR.ext hE (λb hb=>?_) (hs.objs i o hi);have hlt:=(hs.objs i o hi).blk_lt hg hb;exact⟨(k2.frame b hlt (free0 b)).1,λj h=>h.elim id λh=>absurd h.1 (by omega)⟩
  rcases h with h|⟨_,h|⟨k,wr',t',sz',n',xs',_,hk',hb',_⟩⟩
  ·exact Nat.lt_of_lt_of_le (hs.imlt b j h) k2.size
  ·exact k1.imlt b j h
  exact(k1.objs k _ hk').blk_lt (by simp) hb'
 refine hn s' x hS hE rfl ?_;unfold thaw at hth
 split at hth
 ·rename_i vs';simp only[Option.map_eq_some_iff]at hth;obtain⟨ds',h1,rfl⟩:=hth;obtain⟨xs',rfl,hv⟩:=k4;exact⟨xs',rfl,ycm (s':=s') k1 hsn rfl rfl vs' ds' _ hfresh h1 hv⟩
 rename_i hnt;simp only[Option.map_eq_some_iff]at hth;obtain⟨d,h1,rfl⟩:=hth
 have hf1:z07 s1.m v1=true:=by
  unfold z7n at hfresh
  split at hfresh
  ·exact absurd rfl (hnt _)
  exact hfresh
 exact ycl k1 hsn v1 d x hf1 h1 k4
def ynr(ops:Array Oper)(nt:Nat):Option (Nat×Bool)->Option (Nat×Bool)->Bool
 |none,none=>true
 |some (t,w),some (j,w')=>w==w'&&(ops[j]?).bind (·.dst)==some t&&decide (t<nt)
 |_,_=>false
def yx0(P:Program)(gl:Globs)(o:Oper):COp->Bool
 |.call _ _ f args=>zm2 gl o f args
 |.callR _ f args _=>zm2 gl o f args
 |.callB _ f args _=>zm2 gl o f args
 |.callD f args=>zm2 gl o f args
 |.callN f args=>zm2 gl o f args
 |.callK _ f args=>zm2 gl o f args
 |.callQ f args=>zm2 gl o f args
 |.callU _ f args=>zm2 gl o f args
 |.callZ f args=>zm2 gl o f args
 |.storeR n a x _=>yqt P gl o (.store n a x)
 |.appendF r a x=>yqt P gl o (.append r a x)
 |.mapSetR kk m k x _=>yqt P gl o (.mapSet kk m k x)
 |op=>yqt P gl o op
def yw5(P:Program)(gl:Globs)(nt:Nat)(ops:Array Oper)(c:CO)(o:Oper):Bool:=
 c.dst==o.dst&&(match c.dst with|none=>true|some d=>decide (d<nt))&&ynr ops nt c.guard o.guard&&
  yx0 P gl o c.op
def zq0(P:Program)(gl:Globs)(nt:Nat)(ops:Array Oper):List CO->List Oper->Bool
 |[],[]=>true
 |c::r,o::q=>yw5 P gl nt ops c o&&zq0 P gl nt ops r q
 |_,_=>false
structure Good [Clk](P:Program)(oc:zel)(gl:Globs)(F:Oracle):Prop where
 call:zus P oc gl F
 round:z2x P oc gl F
theorem ypu [Clk]{F:Oracle}(hF:Good P oc gl F){s:S}{A:Act}{o:Oper}{e:Env}(hs:Sim oc gl s)(he:zc9 s e A.tmps)(r:Option Nat)(cx:Cx)(slot:Nat){op:COp}{v:V}{m':Mem}
  (ok:yx0 P gl o op=true)(h:zc5 F cx slot e s.m op=some (v,m')):yqx P oc gl r s A o v m':=by
 by_cases hc:∃a b f args,op=.call a b f args
 ·obtain⟨a,b,f,args,rfl⟩:=hc;exact zok hF.call hF.round hs he r cx slot ok h
 by_cases hr:∃b f args rs,op=.callR b f args rs
 ·obtain⟨b,f,args,rs,rfl⟩:=hr;simp only[zc5]at h;split at h<;>try cases h
  rename_i v1 m1 hcall;split at h<;>try cases h
  exact zok hF.call hF.round hs he r cx slot ok hcall
 by_cases hbb:∃b f args t,op=.callB b f args t
 ·obtain⟨b,f,args,t,rfl⟩:=hbb;simp only[zc5]at h;exact z0a hs he (λs1 h1 h2 v m1 hr=>zok hF.call hF.round h1 h2 r cx slot ok hr) h
 by_cases hdd:∃f args,op=.callD f args
 ·obtain⟨f,args,rfl⟩:=hdd;simp only[zc5]at h;split at h<;>try cases h
  rename_i g hf;split at h<;>try cases h
  rw[<-hf]at h;exact zok hF.call hF.round hs he r cx slot ok h
 by_cases hkk:∃b f args,op=.callK b f args
 ·obtain⟨b,f,args,rfl⟩:=hkk;simp only[zc5]at h;split at h<;>try cases h
  rename_i v1 m1 hcall;split at h
  case isFalse=>cases h
  rename_i hle;simp only[Option.some.injEq,Prod.mk.injEq]at h;obtain⟨rfl,rfl⟩:=h;have hgo:=zok (o:=o) (A:=A) hF.call hF.round hs he r cx slot ok hcall;intro next Q hn;refine hgo next Q λs' x q1 q2 q3 q4=>?_
  subst q3;obtain⟨j1,j2⟩:=yit (s:=s) (mm:=s.m) q1 (λi o ho=>q2.objs i o trivial ho) (λi o' ho' c hc _=>by rw[ho']at hc;exact hc) hle;exact hn ⟨s'.φ,s.m,s'.w,s'.Im⟩ x j1 (Ext.trans q2 j2 (λ_ _=>trivial)) rfl (VR.ext j2 _ _ (λ_ _=>trivial) q4)
 by_cases hqq:∃f args,op=.callQ f args
 ·obtain⟨f,args,rfl⟩:=hqq;simp only[zc5,Option.map_eq_some_iff,Prod.mk.injEq]at h;obtain⟨v1,hq,rfl,rfl⟩:=h;exact yg7 hF.call hs he r ok hq
 by_cases huu:∃b f args,op=.callU b f args
 ·obtain⟨b,f,args,rfl⟩:=huu;simp only[zc5]at h;exact yd5 hF.call hs he r b ok h
 by_cases hzz:∃f args,op=.callZ f args
 ·obtain⟨f,args,rfl⟩:=hzz;simp only[zc5]at h;exact yl2 hF.call hs he r ok h
 by_cases hnn:∃f args,op=.callN f args
 ·obtain⟨f,args,rfl⟩:=hnn;simp only[zc5]at h;split at h<;>try cases h
  rename_i g hf;split at h<;>try cases h
  rw[<-hf]at h;exact zok hF.call hF.round hs he r cx slot ok h
 by_cases ht:∃n a x rs,op=.storeR n a x rs
 ·obtain⟨n,a,x,rs,rfl⟩:=ht;simp only[zc5]at h;split at h<;>try cases h
  exact yup.ok (z2v hs he F cx slot (op:=.store n a x) ok h)
 by_cases hap:∃r a x,op=.appendF r a x
 ·obtain⟨rr,a,x,rfl⟩:=hap;simp only[zc5]at h;split at h<;>try cases h
  rename_i v1 m1 happ;simp only[Option.map_eq_some_iff,Prod.mk.injEq]at h;obtain⟨d,hd,rfl,rfl⟩:=h;have hgo:yqx P oc gl r s A o v1 m1:=yup.ok (z2v hs he F cx slot (op:=.append rr a x) ok happ);intro next Q hn;refine hgo next Q λs' y q1 q2 q3 q4=>hn s' y q1 q2 q3 ?_
  subst q3;exact zo5 q1 _ _ _ hd q4
 by_cases hm:∃kk m k x rs,op=.mapSetR kk m k x rs
 ·obtain⟨kk,m,k,x,rs,rfl⟩:=hm;simp only[zc5]at h;split at h<;>try cases h
  exact yup.ok (z2v hs he F cx slot (op:=.mapSet kk m k x) ok h)
 refine yup.ok (z2v hs he F cx slot ?_ h);cases op<;>first|exact ok|exact absurd ⟨_,_,_,_,rfl⟩ hc|exact absurd ⟨_,_,_,_,rfl⟩ hr|exact absurd ⟨_,_,_,_,rfl⟩ ht|exact absurd ⟨_,_,_,_,_,rfl⟩ hm|exact absurd ⟨_,_,rfl⟩ hdd|exact absurd ⟨_,_,rfl⟩ hnn|exact absurd ⟨_,_,rfl⟩ hzz|exact absurd ⟨_,_,rfl⟩ hqq|exact absurd ⟨_,_,_,rfl⟩ huu|exact absurd ⟨_,_,_,rfl⟩ hkk|exact absurd ⟨_,_,_,rfl⟩ hap|exact absurd ⟨_,_,_,_,rfl⟩ hbb
theorem yaz [Clk]{F:Oracle}(hF:Good P oc gl F){s:S}{A:Act}{e:Env}(hs:Sim oc gl s)(he:zc9 s e A.tmps)(r:Option Nat)(cx:Cx){nt:Nat}(hnt:nt<=A.tmps.size){ops:Array Oper}{i:Nat}{c:CO}{o:Oper}(hi:ops[i]?=some o){v:V}{m':Mem}
  (ok:yw5 P gl nt ops c o=true)(h:zey F cx e s.m c=some (v,m')){K:Act->World->Prop}{Q:Exit->Act->World->Prop}
  (hK:∀s' x,Sim oc gl s'->Ext (λ_=>True) s s'->s'.m=m'->VR s' v x->K (A.put o.dst x) s'.w):wpOpIn (fen r) 0 P ops Q i K A s.w:=by
 simp only[yw5,Bool.and_eq_true,beq_iff_eq]at ok;obtain⟨⟨⟨hd,hdt⟩,hg⟩,hop⟩:=ok;unfold wpOpIn;simp only[hi];have go:zc5 F cx (c.dst.getD 0) e s.m c.op=some (v,m')->o.wpIn (fen r) 0 P A s.w K Q:=λh=>ypu hF hs he r cx _ hop h K Q hK
 have skip:v=.skip->m'=s.m->(∀f,o.about P s.w A.eval=some f->(fen r).fn f)/\K (A.put o.dst undef) s.w:=by
  rintro rfl rfl;exact⟨λ_ _=>trivial,hK s undef hs (Ext.refl _ _) rfl rfl⟩
 unfold zey at h;unfold ynr at hg;cases hcg:c.guard with
 |none=>
  rw[hcg]at h hg;cases hog:o.guard with
  |none=>simp only[Region.wanted,hog,if_true];exact go h
  |some p=>rw[hog]at hg;cases hg
 |some p=>
  obtain⟨t,w⟩:=p;rw[hcg]at h hg;cases hog:o.guard with
  |none=>rw[hog]at hg;cases hg
  |some q=>
   obtain⟨j,w'⟩:=q;rw[hog]at hg;simp only[Bool.and_eq_true,beq_iff_eq,decide_eq_true_eq]at hg;obtain⟨⟨rfl,hj⟩,ht⟩:=hg;have hlt:t<A.tmps.size:=by omega
   have hval:=he t;simp only at h
   split at h
   ·rename_i b hget;rw[hget]at hval;have hv:A.tmps.getD t undef=.bool b:=hval
    have hv2:A.tmps[t]?=some (.bool b):=by
     rw[Array.getD_eq_getD_getElem?]at hv;simp[hlt]at hv⊢;exact hv
    have hy:yielded ops A.tmps j=some b:=by
     simp only[yielded,hj,Option.bind_some,hv2]
    have hw:Region.wanted o (yielded ops A.tmps)=(b==w):=by
     simp only[Region.wanted,hog,hy];cases b<;>cases w<;>rfl
    rw[hw]
    split at h
    ·rename_i e;subst e;simp only[beq_self_eq_true,if_true];exact go h
    rename_i e;simp only[Option.some.injEq,Prod.mk.injEq]at h;have:(b==w)=false:=by simpa using e
    simp only[this,Bool.false_eq_true,if_false];exact skip h.1.symm h.2.symm
   ·rename_i hget;rw[hget]at hval;have hv:A.tmps.getD t undef=undef:=hval
    have hy:yielded ops A.tmps j=none:=by
     simp only[yielded,hj,Option.bind_some]
     have:A.tmps[t]?=some undef:=by
      rw[Array.getD_eq_getD_getElem?]at hv;simp[hlt]at hv⊢;exact hv
     rw[this];rfl
    have hw:Region.wanted o (yielded ops A.tmps)=false:=by
     simp only[Region.wanted,hog,hy];rfl
    simp only[Option.some.injEq,Prod.mk.injEq]at h;rw[hw];exact skip h.1.symm h.2.symm
   cases h
theorem zia(A:Act)(d:Option Nat)(x:Value):(A.put d x).tmps.size=A.tmps.size/\(A.put d x).defers=A.defers:=by
 cases d<;>simp[Act.put]
theorem znl(A:Act)(d:Nat)(x:Value)(h:d<A.tmps.size)(t:Nat):(A.put (some d) x).tmps.getD t undef=if d=t then x else A.tmps.getD t undef:=by
 simp only[Act.put,Array.getD_eq_getD_getElem?,Array.getElem?_setIfInBounds]
 by_cases e:d=t
 ·subst e;simp[h]
 simp[e]
theorem zyn{s:S}{e:Env}{A:Act}(he:zc9 s e A.tmps)(d:Option Nat)(hd:∀t,d=some t->t<A.tmps.size){v:V}{x:Value}(hv:VR s v x):zc9 s (put? e d v) (A.put d x).tmps:=by
 cases d with
 |none=>exact he
 |some d=>
  intro t;rw[znl A d x (hd d rfl) t];show VR s (get (put e d v) t) _
  by_cases h:d=t
  ·subst h;rw[zk3];simpa using hv
  rw[zn7 e d t v h];simpa[h]using he t
theorem zw7{s:S}{e:Env}{tmps:Array Value}(p:Nat×V->Bool)(hp:∀t v v',p (t,v)=p (t,v'))(he:zc9 s e tmps):zc9 s (e.filter p) tmps:=by
 intro t
 rcases z0j p hp e t with h|h
 ·rw[h];exact he t
 rw[h];trivial
theorem yih(e:Env)(u:Nat):∀(live:List Nat),get (only live e) u=get e u\/get (only live e) u=.undef
 |[]=>.inr rfl
 |t::r=>by
  by_cases h:t=u
  ·subst h;exact .inl (by simp[only,get])
  have:=yih e u r;simpa[only,get,h]using this
theorem zt7{s:S}{e:Env}{tmps:Array Value}(live:List Nat)(he:zc9 s e tmps):zc9 s (only live e) tmps:=by
 intro t
 rcases yih e t live with h|h
 ·rw[h];exact he t
 rw[h];trivial
theorem yab{nt:Nat}{ops:Array Oper}{c:CO}{o:Oper}(ok:yw5 P gl nt ops c o=true):c.dst=o.dst/\∀t,c.dst=some t->t<nt:=by
 simp only[yw5,Bool.and_eq_true,beq_iff_eq]at ok;refine⟨ok.1.1.1,λt ht=>?_⟩;have:=ok.1.1.2;rw[ht]at this;simpa using this
theorem yoi [Clk]{F:Oracle}(hF:Good P oc gl F)(r:Option Nat)(cx:Cx){nt:Nat}{ops:Array Oper}{Q:Exit->Act->World->Prop}(rest:List Nat):
  ∀(cos:List CO)(os:List Oper)(i:Nat)(e e':Env)(m':Mem)(s:S)(A:Act),(∀k,k<os.length->ops[i+k]?=os[k]?)->zq0 P gl nt ops cos os=true->zjb F cx cos e s.m=some (e',m')->
   Sim oc gl s->zc9 s e A.tmps->nt<=A.tmps.size->
   (∀s' A',Sim oc gl s'->Ext (λ_=>True) s s'->s'.m=m'->zc9 s' e' A'.tmps->A'.tmps.size=A.tmps.size->A'.defers=A.defers->wpOpsIn (fen r) 0 P ops Q rest A' s'.w)->
   wpOpsIn (fen r) 0 P ops Q (List.range' i os.length++rest) A s.w
 |[],[],i,e,e',m',s,A,_,_,h,hs,he,hnt,hQ=>by
  simp only[zjb,Option.some.injEq,Prod.mk.injEq]at h;obtain⟨rfl,rfl⟩:=h;exact hQ s A hs (Ext.refl _ _) rfl he rfl rfl
 |[],_::_,_,_,_,_,_,_,_,ok,_,_,_,_,_=>by simp[zq0]at ok
 |_::_,[],_,_,_,_,_,_,_,ok,_,_,_,_,_=>by simp[zq0]at ok
 |c::cos,o::os,i,e,e',m',s,A,hops,ok,h,hs,he,hnt,hQ=>by
  simp only[zq0,Bool.and_eq_true]at ok;rw[z0e]at h;split at h<;>try cases h
  rename_i v m1 h1;have hi:ops[i]?=some o:=by simpa using hops 0 (by simp)
  rw[List.length_cons,List.range'_succ,List.cons_append,wpOpsIn_cons];obtain⟨hd,hdt⟩:=yab ok.1;refine yaz hF hs he r cx hnt hi ok.1 h1 λs1 x k1 k2 k3 k4=>?_
  have hsz:=zia A o.dst x;subst k3
  refine yoi hF r cx rest cos os (i+1) _ e' m' s1 (A.put o.dst x) (λk hk=>?_) ok.2 h k1 ?_ (by rw[hsz.1];exact hnt) λs' A' q1 q2 q3 q4 q5 q6=>?_
  ·have:=hops (k+1) (by simp;omega);rw[show i+1+k=i+(k+1)by omega,this];simp
  ·rw[hd];exact zyn (zc9.ext k2 (λ_ _ _=>trivial) he) o.dst (λt ht=>by have:=hdt t (hd.trans ht);omega) k4
  exact hQ s' A' q1 (Ext.trans k2 q2 (λ_ _=>trivial)) q3 q4 (q5.trans hsz.1) (q6.trans hsz.2)
theorem z8b [Clk]{ops:Array Oper}{i:Nat}{o:Oper}(hi:ops[i]?=some o)(hg:o.guard=none)(r:Option Nat){A:Act}{w w':World}{x:Value}(h:(execOp A.eval o).run P w=.ok (.value x) w'){K:Act->World->Prop}{Q:Exit->Act->World->Prop}
  (hK:K (A.put o.dst x) w'):wpOpIn (fen r) 0 P ops Q i K A w:=by
 unfold wpOpIn;simp only[hi,Region.wanted,hg,if_true];refine⟨λ_ _=>trivial,?_⟩;rw[Oper.semAt_eq _ _ _ (zug h (by simp)),h];exact hK
theorem yge [Clk]{F:Oracle}(hF:Good P oc gl F)(r:Option Nat)(cx:Cx){nt:Nat}{ops:Array Oper}{Q:Exit->Act->World->Prop}:
  ∀(cos:List CO)(os:List Oper)(i:Nat)(e e':Env)(m':Mem)(s:S)(A:Act),(∀k,k<os.length->ops[i+k]?=os[k]?)->zq0 P gl nt ops cos os=true->zjb F cx cos e s.m=some (e',m')->
   Sim oc gl s->zc9 s e A.tmps->nt<=A.tmps.size->
   (∀s' A',Sim oc gl s'->Ext (λ_=>True) s s'->s'.m=m'->zc9 s' e' A'.tmps->A'.tmps.size=A.tmps.size->A'.defers=A.defers->Q .normal A' s'.w)->
   wpOpsIn (fen r) 0 P ops Q (List.range' i os.length) A s.w
 |[],[],i,e,e',m',s,A,_,_,h,hs,he,hnt,hQ=>by
  simp only[zjb,Option.some.injEq,Prod.mk.injEq]at h;obtain⟨rfl,rfl⟩:=h;exact hQ s A hs (Ext.refl _ _) rfl he rfl rfl
 |[],_::_,_,_,_,_,_,_,_,ok,_,_,_,_,_=>by simp[zq0]at ok
 |_::_,[],_,_,_,_,_,_,_,ok,_,_,_,_,_=>by simp[zq0]at ok
 |c::cos,o::os,i,e,e',m',s,A,hops,ok,h,hs,he,hnt,hQ=>by
  simp only[zq0,Bool.and_eq_true]at ok;rw[z0e]at h;split at h<;>try cases h
  rename_i v m1 h1;have hi:ops[i]?=some o:=by simpa using hops 0 (by simp)
  rw[List.length_cons,List.range'_succ,wpOpsIn_cons];obtain⟨hd,hdt⟩:=yab ok.1;refine yaz hF hs he r cx hnt hi ok.1 h1 λs1 x k1 k2 k3 k4=>?_
  have hsz:=zia A o.dst x;subst k3
  refine yge hF r cx cos os (i+1) _ e' m' s1 (A.put o.dst x) (λk hk=>?_) ok.2 h k1 ?_ (by rw[hsz.1];exact hnt) λs' A' q1 q2 q3 q4 q5 q6=>?_
  ·have:=hops (k+1) (by simp;omega);rw[show i+1+k=i+(k+1)by omega,this];simp
  ·rw[hd];exact zyn (zc9.ext k2 (λ_ _ _=>trivial) he) o.dst (λt ht=>by have:=hdt t (hd.trans ht);omega) k4
  exact hQ s' A' q1 (Ext.trans k2 q2 (λ_ _=>trivial)) q3 q4 (q5.trans hsz.1) (q6.trans hsz.2)
end
end Go.Evl
namespace Go.Evl
open Go.RowKit
def tO:Opd->List Nat
 |.t n=>[n]
 |.k _=>[]
def tOs:List Opd->List Nat
 |[]=>[]
 |x::r=>tO x++tOs r
def tP:List (Nat×Nat×Opd)->List Nat
 |[]=>[]
 |(_,_,x)::r=>tO x++tP r
def tQ:Option Opd->List Nat
 |none=>[]
 |some x=>tO x
def reads:COp->List Nat
 |.mv x=>tO x
 |.ownNil _=>[]
 |.pick c a b=>tO c++(tO a++tO b)
 |.alloc ..=>[]
 |.box _ x=>tO x
 |.build _ ps=>tP ps
 |.mkList _ _ ps=>tOs ps
 |.mkListD _ _ ps=>tOs ps
 |.mkRow _ _ ps=>tOs ps
 |.load _ a=>tO a
 |.store _ a x=>tO a++tO x
 |.nilCheck x=>tO x
 |.bin _ x y=>tO x++tO y
 |.eqv _ _ x y=>tO x++tO y
 |.un _ x=>tO x
 |.conv _ x=>tO x
 |.mkFunc _ a b=>tOs a++tOs b
 |.sliceS x lo hi=>tO x++(tQ lo++tQ hi)
 |.slice _ x lo hi mx=>tO x++(tQ lo++(tQ hi++tQ mx))
 |.fieldAddr _ x=>tO x
 |.field _ _ x=>tO x
 |.idxAddr _ x i=>tO x++tO i
 |.idxAddrA _ _ x i=>tO x++tO i
 |.idxS x i=>tO x++tO i
 |.idxA _ _ _ x i=>tO x++tO i
 |.mkMap=>[]
 |.lookup _ _ _ m k=>tO m++tO k
 |.mapSet _ m k x=>tO m++(tO k++tO x)
 |.rangeS x=>tO x
 |.nextS x=>tO x
 |.extract x _=>tO x
 |.call _ _ f args=>tO f++tOs args
 |.storeR _ a x rs=>tO a++(tO x++rs)
 |.callR _ f args rs=>tO f++(tOs args++rs)
 |.callB _ f args t=>tO f++(tOs args++[t])
 |.bad=>[]
 |.callN f args=>tO f++tOs args
 |.callK _ f args=>tO f++tOs args
 |.callQ f args=>tO f++tOs args
 |.callU _ f args=>tO f++tOs args
 |.callZ f args=>tO f++tOs args
 |.appendZ _ _ a n=>tO a++tO n
 |.mapSetR _ m k x rs=>tO m++(tO k++(tO x++rs))
 |.appendIn _ a x=>tO a++tO x
 |.loadD _ a=>tO a
 |.nilEq _ _ x=>tO x
 |.callD f args=>tO f++tOs args
 |.idxAddrD _ x i=>tO x++tO i
 |.fieldAddrD _ x=>tO x
 |.sealMv x=>tO x
 |.sliceC _ x h m=>tO x++tO h++tO m
 |.len _ x=>tO x
 |.append _ a x=>tO a++tO x
 |.appendS _ a x=>tO a++tO x
 |.appendF _ a x=>tO a++tO x
 |.strB x=>tO x
 |.minmax _ args=>tOs args
 |.clear _ x=>tO x
def zlu(c:CO):List Nat:=
 match c.guard with
 |none=>reads c.op
 |some (t,_)=>t::reads c.op
def yqn:List yen->Bool
 |[]=>true
 |.z _::r=>yqn r
 |_=>false
theorem yeo(cx:Cx)(slot:Nat):∀(l:List yen)(m:Mem),yqn l=true->(zbs cx slot l m).2=m/\∀m2,zbs cx slot l m2=((zbs cx slot l m).1,m2)
 |[],m,_=>⟨rfl,λ_=>rfl⟩
 |.z x::r,m,h=>by
  obtain⟨h1,h2⟩:=yeo cx slot r m h;exact⟨by simp[zbs,h1],λm2=>by simp[zbs,h2 m2]⟩
 |.own _::_,_,h=>by simp[yqn]at h
def cls:COp->Nat
 |.mv _=>0
 |.pick ..=>0
 |.bin ..=>0
 |.eqv ..=>0
 |.un ..=>0
 |.conv ..=>0
 |.mkFunc ..=>0
 |.sliceS ..=>0
 |.field ..=>0
 |.idxS ..=>0
 |.idxA ..=>0
 |.extract ..=>0
 |.minmax ..=>0
 |.loadD ..=>0
 |.nilEq ..=>1
 |.callD ..=>0
 |.idxAddrD ..=>0
 |.fieldAddrD ..=>0
 |.bad=>0
 |.mkListD ..=>0
 |.build z _=>if yqn z then 0 else 3
 |.alloc ..=>3
 |.box ..=>3
 |.ownNil _=>3
 |.mkRow ..=>3
 |.mkMap=>3
 |.callN ..=>3
 |.storeR ..=>4
 |.callR ..=>4
 |.mapSetR ..=>4
 |.mkList ..=>1
 |.load ..=>1
 |.nilCheck _=>1
 |.slice ..=>1
 |.fieldAddr ..=>1
 |.idxAddr ..=>1
 |.idxAddrA ..=>1
 |.lookup ..=>1
 |.len ..=>1
 |.call false true _ _=>1
 |.call false false _ _=>3
 |_=>2
section
variable{F:Oracle}{cx:Cx}{slot:Nat}{e e':Env}{m:Mem}
theorem zak(x:Opd)(h:∀t∈tO x,get e t=get e' t):x.ev e=x.ev e':=by
 cases x with
 |t n=>exact h n (by simp[tO])
 |k v=>rfl
theorem zez:∀(xs:List Opd),(∀t∈tOs xs,get e t=get e' t)->evs e xs=evs e' xs
 |[],_=>rfl
 |x::r,h=>by
  simp only[evs];rw[zak x λt ht=>h t (by simp[tOs,ht]),zez r λt ht=>h t (by simp[tOs,ht])]
theorem z42:∀(xs:List (Nat×Nat×Opd)),(∀t∈tP xs,get e t=get e' t)->zy5 e xs=zy5 e' xs
 |[],_=>rfl
 |(a,b,x)::r,h=>by
  simp only[zy5];rw[zak x λt ht=>h t (by simp[tP,ht]),z42 r λt ht=>h t (by simp[tP,ht])]
theorem zt9(x:Option Opd)(h:∀t∈tQ x,get e t=get e' t):x.map (·.ev e)=x.map (·.ev e'):=by
 cases x with
 |none=>rfl
 |some x=>simp only[Option.map_some];rw[zak x λt ht=>h t (by simp[tQ,ht])]
theorem zuz:∀(l:List Nat),(∀t∈l,get e t=get e' t)->l.map (get e)=l.map (get e')
 |[],_=>rfl
 |t::r,h=>by rw[List.map_cons,List.map_cons,h t (by simp),zuz r λu hu=>h u (by simp[hu])]
theorem z0d(op:COp)(h:∀t∈reads op,get e t=get e' t):zc5 F cx slot e m op=zc5 F cx slot e' m op:=by
 cases op<;>simp only[reads]at h<;>simp only[zc5]
 case mv x=>rw[zak x h]
 case pick c a b=>rw[zak c λt ht=>h t (by simp[ht]),zak a λt ht=>h t (by simp[ht]),zak b λt ht=>h t (by simp[ht])]
 case box x=>rw[zak x h]
 case build z ps=>rw[z42 ps h]
 case mkList a b ps=>rw[zez ps h]
 case mkRow a b ps=>rw[zez ps h]
 case load n x=>rw[zak x h]
 case store n a x=>rw[zak a λt ht=>h t (by simp[ht]),zak x λt ht=>h t (by simp[ht])]
 case nilCheck x=>rw[zak x h]
 case bin op a x=>rw[zak a λt ht=>h t (by simp[ht]),zak x λt ht=>h t (by simp[ht])]
 case eqv n b a x=>rw[zak a λt ht=>h t (by simp[ht]),zak x λt ht=>h t (by simp[ht])]
 case un op x=>rw[zak x h]
 case conv k x=>rw[zak x h]
 case mkFunc f a b=>rw[zez a λt ht=>h t (by simp[ht]),zez b λt ht=>h t (by simp[ht])]
 case sliceS x lo hi=>rw[zak x λt ht=>h t (by simp[ht]),zt9 lo λt ht=>h t (by simp[ht]),zt9 hi λt ht=>h t (by simp[ht])]
 case slice n x lo hi mx=>rw[zak x λt ht=>h t (by simp[ht]),zt9 lo λt ht=>h t (by simp[ht]),zt9 hi λt ht=>h t (by simp[ht]),zt9 mx λt ht=>h t (by simp[ht])]
 case fieldAddr n x=>rw[zak x h]
 case field n k x=>rw[zak x h]
 case idxAddr n a x=>rw[zak a λt ht=>h t (by simp[ht]),zak x λt ht=>h t (by simp[ht])]
 case idxAddrA l n a x=>rw[zak a λt ht=>h t (by simp[ht]),zak x λt ht=>h t (by simp[ht])]
 case idxS a x=>rw[zak a λt ht=>h t (by simp[ht]),zak x λt ht=>h t (by simp[ht])]
 case idxA l n k a x=>rw[zak a λt ht=>h t (by simp[ht]),zak x λt ht=>h t (by simp[ht])]
 case lookup kk z c a x=>rw[zak a λt ht=>h t (by simp[ht]),zak x λt ht=>h t (by simp[ht])]
 case mapSet kk c a b=>rw[zak c λt ht=>h t (by simp[ht]),zak a λt ht=>h t (by simp[ht]),zak b λt ht=>h t (by simp[ht])]
 case rangeS x=>rw[zak x h]
 case nextS x=>rw[zak x h]
 case extract x i=>rw[zak x h]
 case call a b f args=>rw[zak f λt ht=>h t (by simp[ht]),zez args λt ht=>h t (by simp[ht])]
 case storeR n a x rs=>rw[zak a λt ht=>h t (by simp[ht]),zak x λt ht=>h t (by simp[ht]),zuz rs λt ht=>h t (by simp[ht])]
 case callR i f args rs=>rw[zak f λt ht=>h t (by simp[ht]),zez args λt ht=>h t (by simp[ht]),zuz rs λt ht=>h t (by simp[ht])]
 case appendZ r z a n=>rw[zak a λt ht=>h t (by simp[ht]),zak n λt ht=>h t (by simp[ht])]
 case mkListD a b ps=>rw[zez ps h]
 case callB i f args t=>rw[zak f λt ht=>h t (by simp[ht]),zez args λt ht=>h t (by simp[ht]),h t (by simp)]
 case mapSetR kk c a b rs=>rw[zak c λt ht=>h t (by simp[ht]),zak a λt ht=>h t (by simp[ht]),zak b λt ht=>h t (by simp[ht]),zuz rs λt ht=>h t (by simp[ht])]
 case loadD n x=>rw[zak x h]
 case nilEq kd neg x=>rw[zak x h]
 case callQ f args=>rw[zak f λt ht=>h t (by simp[ht]),zez args λt ht=>h t (by simp[ht])]
 case callZ f args=>rw[zak f λt ht=>h t (by simp[ht]),zez args λt ht=>h t (by simp[ht])]
 case callU b f args=>rw[zak f λt ht=>h t (by simp[ht]),zez args λt ht=>h t (by simp[ht])]
 case callK b f args=>rw[zak f λt ht=>h t (by simp[ht]),zez args λt ht=>h t (by simp[ht])]
 case callN f args=>rw[zak f λt ht=>h t (by simp[ht]),zez args λt ht=>h t (by simp[ht])]
 case callD f args=>rw[zak f λt ht=>h t (by simp[ht]),zez args λt ht=>h t (by simp[ht])]
 case fieldAddrD n x=>rw[zak x h]
 case sealMv x=>rw[zak x h]
 case sliceC n a x y=>rw[zak a λt ht=>h t (by simp[ht]),zak x λt ht=>h t (by simp[ht]),zak y λt ht=>h t (by simp[ht])]
 case idxAddrD n a x=>rw[zak a λt ht=>h t (by simp[ht]),zak x λt ht=>h t (by simp[ht])]
 case appendIn r a x=>rw[zak a λt ht=>h t (by simp[ht]),zak x λt ht=>h t (by simp[ht])]
 case len k x=>rw[zak x h]
 case appendS r a x=>rw[zak a λt ht=>h t (by simp[ht]),zak x λt ht=>h t (by simp[ht])]
 case appendF r a x=>rw[zak a λt ht=>h t (by simp[ht]),zak x λt ht=>h t (by simp[ht])]
 case strB x=>rw[zak x h]
 case append r a x=>rw[zak a λt ht=>h t (by simp[ht]),zak x λt ht=>h t (by simp[ht])]
 case minmax b args=>rw[zez args h]
 case clear z x=>rw[zak x h]
theorem yfj(c:CO)(h:∀t∈zlu c,get e t=get e' t):zey F cx e m c=zey F cx e' m c:=by
 unfold zey;unfold zlu at h;cases hg:c.guard with
 |none=>rw[hg]at h;exact z0d _ h
 |some p=>
  obtain⟨t,w⟩:=p;rw[hg]at h;simp only;rw[h t (by simp),z0d c.op λt ht=>h t (by simp[ht])]
theorem zub:∀(vs:List V),yip vs=true->∃ds,∀m,freezeL false m vs=some ds
 |[],_=>⟨[],λ_=>rfl⟩
 |v::r,h=>by
  cases v<;>simp only[yip,Bool.false_eq_true]at h;rename_i x;obtain⟨ds,hds⟩:=zub r h;exact⟨x::ds,λm=>by simp only[freezeL,freeze,hds m]⟩
theorem yzn{op:COp}{v:V}{m':Mem}(hc:cls op=0)(h:zc5 F cx slot e m op=some (v,m')):m'=m/\∀m2,zc5 F cx slot e m2 op=some (v,m2):=by
 cases op<;>first|exact absurd (show(2:Nat)=0 from hc) (by decide)|exact absurd (show(1:Nat)=0 from hc) (by decide)|exact absurd (show(3:Nat)=0 from hc) (by decide)|exact absurd (show(4:Nat)=0 from hc) (by decide)|skip
 all_goals simp only[zc5,Option.map_eq_some_iff,Option.some.injEq,Prod.mk.injEq]at h
 case mv=>obtain⟨rfl,rfl⟩:=h;exact⟨rfl,λ_=>by simp_all[zc5]⟩
 case pick=>
  split at h<;>try cases h
  rename_i hx;exact⟨rfl,λ_=>by simp_all[zc5]⟩
 case bin=>obtain⟨a,h1,rfl,rfl⟩:=h;exact⟨rfl,λ_=>by simp_all[zc5]⟩
 case eqv=>obtain⟨a,h1,rfl,rfl⟩:=h;exact⟨rfl,λ_=>by simp_all[zc5]⟩
 case un=>obtain⟨a,h1,rfl,rfl⟩:=h;exact⟨rfl,λ_=>by simp_all[zc5]⟩
 case conv=>
  split at h<;>try cases h
  rename_i hx;exact⟨rfl,λ_=>by simp_all[zc5]⟩
 case mkFunc=>obtain⟨rfl,rfl⟩:=h;exact⟨rfl,λ_=>by simp_all[zc5]⟩
 case mkListD=>
  split at h
  case isFalse=>cases h
  rename_i hd;simp only[Option.map_eq_some_iff,Prod.mk.injEq]at h;obtain⟨ds,h,rfl,rfl⟩:=h;exact⟨rfl,λ_=>by simp only[zc5,hd,if_true,h,Option.map_some]⟩
 case sliceS=>
  split at h<;>try cases h
  rename_i hx;split at h<;>try cases h
  rename_i hb;exact⟨rfl,λ_=>by simp_all[zc5]⟩
 case field=>obtain⟨a,h1,rfl,rfl⟩:=h;exact⟨rfl,λ_=>by simp_all[zc5]⟩
 case idxS=>
  split at h<;>try cases h
  rename_i hx hi;split at h<;>try cases h
  rename_i h0;simp only[Option.map_eq_some_iff,Prod.mk.injEq]at h;obtain⟨a,h1,rfl,rfl⟩:=h;exact⟨rfl,λ_=>by simp_all[zc5]⟩
 case idxA=>
  split at h<;>try cases h
  rename_i hi;split at h<;>try cases h
  rename_i h0;simp only[Option.map_eq_some_iff,Prod.mk.injEq]at h;obtain⟨a,h1,rfl,rfl⟩:=h;exact⟨rfl,λ_=>by simp_all[zc5]⟩
 case extract=>
  split at h<;>try cases h
  rename_i hx;simp only[Option.map_eq_some_iff,Prod.mk.injEq]at h;obtain⟨a,h1,rfl,rfl⟩:=h;exact⟨rfl,λ_=>by simp_all[zc5]⟩
 case minmax=>obtain⟨a,h1,rfl,rfl⟩:=h;exact⟨rfl,λ_=>by simp_all[zc5]⟩
 case build z ps=>
  have hz:yqn z=true:=by
   cases hz:yqn z with
   |true=>rfl
   |false=>simp[cls,hz]at hc
  obtain⟨a,h1,rfl,rfl⟩:=h;obtain⟨k1,k2⟩:=yeo cx slot z m hz;exact⟨k1,λm2=>by simp[zc5,k2 m2,h1]⟩
 case call a b _ _=>cases a<;>cases b<;>simp[cls]at hc
 case loadD=>
  split at h<;>try cases h
  rename_i hx;simp only[Option.map_eq_some_iff,Prod.mk.injEq]at h;obtain⟨a,h1,rfl,rfl⟩:=h;exact⟨rfl,λ_=>by simp_all[zc5]⟩
 case bad=>cases h
 case fieldAddrD=>
  split at h<;>try cases h
  exact⟨rfl,λ_=>by simp_all[zc5]⟩
 case idxAddrD=>
  split at h<;>try cases h
  rename_i hx hi;split at h<;>try cases h
  rename_i hr;exact⟨rfl,λ_=>by simp_all[zc5]⟩
 case callD f args=>
  split at h<;>try cases h
  rename_i g hf;split at h<;>try cases h
  rename_i hd;obtain⟨ds,hds⟩:=zub _ hd;simp only[zlz,Bool.false_eq_true,if_false,List.nil_append,List.append_nil,hds]at h;split at h<;>try cases h
  rename_i v1 m1 hcall;simp only[zpu,if_true]at h;split at h<;>try cases h
  rename_i hids;simp only[Option.map_eq_some_iff,Prod.mk.injEq]at h;obtain⟨a,h1,rfl,rfl⟩:=h;refine⟨rfl,λm2=>?_⟩;simp only[zc5,hf,hd,if_true,zlz,Bool.false_eq_true,if_false,List.nil_append,List.append_nil,hds,hcall,zpu,hids,h1]
  rfl
theorem y0c{op:COp}{v:V}{m':Mem}(hc:cls op<=1)(h:zc5 F cx slot e m op=some (v,m')):m'=m:=by
 by_cases h0:cls op=0
 ·exact(yzn h0 h).1
 cases op<;>first|exact absurd (show(2:Nat)<=1 from hc) (by decide)|exact absurd (show(3:Nat)<=1 from hc) (by decide)|exact absurd (show(4:Nat)<=1 from hc) (by decide)|exact absurd rfl h0|skip
 all_goals simp only[zc5,Option.map_eq_some_iff,Prod.mk.injEq]at h
 case build z ps=>
  cases hz:yqn z with
  |true=>simp[cls,hz]at h0
  |false=>simp[cls,hz]at hc
 case mkList=>obtain⟨a,h1,rfl,rfl⟩:=h;rfl
 case load=>obtain⟨a,h1,rfl,rfl⟩:=h;rfl
 case nilCheck=>
  split at h
  ·simp only[Option.some.injEq,Prod.mk.injEq]at h;exact h.2.symm
  split at h<;>try cases h
  rfl
 case slice=>obtain⟨a,h1,rfl,rfl⟩:=h;rfl
 case fieldAddr=>obtain⟨a,h1,rfl,rfl⟩:=h;rfl
 case idxAddr=>obtain⟨a,h1,rfl,rfl⟩:=h;rfl
 case idxAddrA=>
  split at h<;>try cases h
  split at h<;>try cases h
  simp only[Option.map_eq_some_iff,Prod.mk.injEq]at h;obtain⟨a,h1,rfl,rfl⟩:=h;rfl
 case lookup=>obtain⟨a,h1,rfl,rfl⟩:=h;rfl
 case len=>obtain⟨a,h1,rfl,rfl⟩:=h;rfl
 case nilEq=>
  split at h<;>try cases h
  split at h<;>try cases h
  rfl
 case call a b f args=>
  cases a<;>cases b<;>first|exact absurd (show(2:Nat)<=1 from hc) (by decide)|exact absurd (show(3:Nat)<=1 from hc) (by decide)|skip
  simp only[zlz,Bool.false_eq_true,if_false]at h;split at h<;>try cases h
  split at h<;>try cases h
  split at h<;>try cases h
  simp only[zpu,if_true]at h;split at h<;>try cases h
  simp only[Option.map_eq_some_iff,Prod.mk.injEq]at h;obtain⟨a,h1,rfl,rfl⟩:=h;rfl
theorem yzo{c:CO}{v:V}{m':Mem}(hc:cls c.op=0)(h:zey F cx e m c=some (v,m')):m'=m/\∀m2,zey F cx e m2 c=some (v,m2):=by
 unfold zey at h⊢
 split at h
 ·simpa using yzn hc h
 split at h
 ·split at h
  ·rename_i hb;have:=yzn hc h;simp only[hb,if_true];exact this
  rename_i hb;simp only[Option.some.injEq,Prod.mk.injEq]at h;obtain⟨rfl,rfl⟩:=h;exact⟨rfl,λ_=>by simp only[hb,if_false]⟩
 ·simp only[Option.some.injEq,Prod.mk.injEq]at h;obtain⟨rfl,rfl⟩:=h;exact⟨rfl,λ_=>rfl⟩
 cases h
theorem yu1{c:CO}{v:V}{m':Mem}(hc:cls c.op<=1)(h:zey F cx e m c=some (v,m')):m'=m:=by
 unfold zey at h
 split at h
 ·exact y0c hc h
 split at h
 ·split at h
  ·exact y0c hc h
  simp only[Option.some.injEq,Prod.mk.injEq]at h;exact h.2.symm
 ·simp only[Option.some.injEq,Prod.mk.injEq]at h;exact h.2.symm
 cases h
end
end Go.Evl
namespace Go.Evl
def Sub(m m':Mem):Prop:=∀i o,look m i=some o->look m' i=some o
def yee(is:List Id)(m m':Mem):Prop:=∀i∈is,∀o,look m i=some o->look m' i=some o
def zyt(e:Env):COp->List Id
 |.mkList _ _ xs=>zev (evs e xs)
 |.load _ a=>ids (a.ev e)
 |.nilCheck x=>ids (x.ev e)
 |.slice _ x _ _ _=>ids (x.ev e)
 |.fieldAddr _ x=>ids (x.ev e)
 |.idxAddr _ x _=>ids (x.ev e)
 |.nilEq _ _ x=>ids (x.ev e)
 |.idxAddrA _ _ x _=>ids (x.ev e)
 |.lookup _ _ _ x _=>ids (x.ev e)
 |.len _ x=>ids (x.ev e)
 |.call _ _ f args=>ids (f.ev e)++zev (evs e args)
 |_=>[]
theorem z4j:∀(a b:List V),zev (a++b)=zev a++zev b
 |[],_=>rfl
 |v::r,b=>by simp only[List.cons_append,zev,z4j r b,List.append_assoc]
section
variable{m m':Mem}
mutual
theorem z4e(any:Bool):∀(v:V)(d:D),yee (ids v) m m'->freeze any m v=some d->freeze any m' v=some d
 |.d _,_,_,h=>h
 |.agg cs,d,hs,h=>by
  simp only[freeze,Option.map_eq_some_iff]at h⊢;obtain⟨x,h1,h2⟩:=h;exact⟨x,zuc any cs x hs h1,h2⟩
 |.ref i off len top,d,hs,h=>by
  simp only[freeze]at h⊢;cases hl:look m i with
  |none=>rw[hl]at h;cases h
  |some o=>rw[hl]at h;rw[hs i (by simp[ids]) o hl];exact h
 |.tup _,_,_,h=>by simp[freeze]at h
 |.ptr ..,_,_,h=>by simp[freeze]at h
 |.lptr ..,_,_,h=>by simp[freeze]at h
 |.cl ..,_,_,h=>h
 |.fn f [] [],d,_,h=>by simpa only[freeze]using h
 |.fn _ (_::_) _,_,_,h=>by simp[freeze]at h
 |.fn _ [] (_::_),_,_,h=>by simp[freeze]at h
 |.yld _,_,_,h=>by simp[freeze]at h
 |.mp _,_,_,h=>by simp[freeze]at h
 |.it _,_,_,h=>by simp[freeze]at h
 |.skip,_,_,h=>by simp[freeze]at h
 |.undef,_,_,h=>by simp[freeze]at h
theorem zuc(any:Bool):∀(cs:List V)(ds:List D),yee (zev cs) m m'->freezeL any m cs=some ds->freezeL any m' cs=some ds
 |[],_,_,h=>h
 |v::r,ds,hs,h=>by
  simp only[freezeL]at h⊢
  split at h
  ·rename_i x xs h1 h2;rw[z4e any v x (λi hi=>hs i (by simp[zev,hi])) h1,zuc any r xs (λi hi=>hs i (by simp[zev,hi])) h2];exact h
  cases h
end
theorem ye1{v:V}{ds:List D}(hs:yee (ids v) m m')(h:zsz m v=some ds):zsz m' v=some ds:=by
 unfold zsz at h⊢;cases hf:freeze false m v with
 |none=>rw[hf]at h;cases h
 |some d=>rw[hf]at h;rw[z4e false v d hs hf];exact h
theorem z7z(sz:Nat):∀(vs:List V)(ds:List D),yee (zev vs) m m'->ztk sz m vs=some ds->ztk sz m' vs=some ds
 |[],_,_,h=>h
 |v::r,ds,hs,h=>by
  simp only[ztk]at h⊢
  split at h
  ·rename_i x xs h1 h2;rw[ye1 (λi hi=>hs i (by simp[zev,hi])) h1,z7z sz r xs (λi hi=>hs i (by simp[zev,hi])) h2];exact h
  cases h
theorem ycw{α:Type}{i:Id}(hs:yee [i] m m')(f:Option Ob->Option α)(hf:f none=none){r:α}(h:f (look m i)=some r):f (look m' i)=some r:=by
 cases hl:look m i with
 |none=>rw[hl,hf]at h;cases h
 |some o=>rw[hl]at h;rw[hs i (by simp) o hl];exact h
theorem yk7{n:Option Nat}{a v:V}(hs:yee (ids a) m m')(h:z4r n m a=some v):z4r n m' a=some v:=by
 cases a<;>simp only[z4r]at h⊢ <;>first|exact h|skip
 exact ycw hs (λx=>match x with|some (.cells _ cs)=>ylf n cs _|some (.row _ _ _ l xs)=>if l=_ then z6q n xs _ else none|_=>none) rfl h
theorem z5y{v:V}(hs:yee (ids v) m m')(h:ybb m v=true):ybb m' v=true:=by
 cases v<;>simp only[ybb]at h⊢ <;>first|exact h|skip
 rename_i i off top;cases hl:look m i with
 |none=>rw[hl]at h;cases h
 |some o=>rw[hl]at h;rw[hs i (by simp[ids]) o hl];exact h
theorem yn6{v:V}{r:Nat×Bool}(hs:yee (ids v) m m')(h:yn5 m v=some r):yn5 m' v=some r:=by
 unfold yn5 at h⊢
 split at h<;>first|exact h|skip
 ·split at h
  ·rename_i hsu;rw[if_pos (z5y hs hsu)];exact h
  cases h
 rename_i i off len top;exact ycw hs (λx=>match x with|some (.row _ _ _ n _)=>if n=top/\off+len<=n/\len≠0 then some (2,false)else none|_=>none) rfl h
theorem zy1{off:Nat}{v r:V}(hs:yee (ids v) m m')(h:zhf off m v=some r):zhf off m' v=some r:=by
 unfold zhf at h⊢
 split at h
 ·rename_i hsu;rw[if_pos (z5y hs hsu)];exact h
 cases h
theorem z9z{sz:Nat}{x i r:V}(hs:yee (ids x) m m')(h:zn8 sz m x i=some r):zn8 sz m' x i=some r:=by
 unfold zn8 at h⊢
 split at h
 ·cases h
 cases x<;>first|exact h|skip
 case d x=>cases x<;>exact h
 case ref id _ _ _=>
  dsimp only at h⊢;cases hl:look m id with
  |none=>rw[hl]at h;cases h
  |some o=>rw[hl]at h;rw[hs id (by simp[ids]) o hl];exact h
theorem ygy{sz:Nat}{x:V}{lo hi mx:Option V}{r:V}(hs:yee (ids x) m m')(h:zwf sz m x lo hi mx=some r):zwf sz m' x lo hi mx=some r:=by
 unfold zwf at h⊢;cases x<;>first|exact h|skip
 case d x=>cases x<;>exact h
 case ref id _ _ _=>
  dsimp only at h⊢;cases hl:look m id with
  |none=>rw[hl]at h;cases h
  |some o=>rw[hl]at h;rw[hs id (by simp[ids]) o hl];exact h
theorem yn0{k:Kd}{x:V}{n:Nat}(hs:yee (ids x) m m')(h:ymj m k x=some n):ymj m' k x=some n:=by
 unfold ymj at h⊢;cases k<;>cases x<;>first|exact h|skip
 case slc.d x=>cases x<;>exact h
 case slc.ref id _ _ _=>
  dsimp only at h⊢;cases hl:look m id with
  |none=>rw[hl]at h;cases h
  |some o=>rw[hl]at h;rw[hs id (by simp[ids]) o hl];exact h
 case map.mp id=>
  dsimp only at h⊢;cases hl:look m id with
  |none=>rw[hl]at h;cases h
  |some o=>rw[hl]at h;rw[hs id (by simp[ids]) o hl];exact h
theorem ycx{kk:KK}{z:D}{c:Bool}{x k r:V}(hs:yee (ids x) m m')(h:zqu kk z c m x k=some r):zqu kk z c m' x k=some r:=by
 unfold zqu at h⊢;split at h<;>try cases h
 split at h<;>try cases h
 rename_i hk;simp only[hk,if_true];cases x<;>first|exact h|skip
 case d x=>cases x<;>exact h
 case mp id=>
  dsimp only at h⊢;cases hl:look m id with
  |none=>rw[hl]at h;cases h
  |some o=>rw[hl]at h;rw[hs id (by simp[ids]) o hl];exact h
theorem yik{v:V}{g:Nat}{a b:List V}(h:zrq v=.fn g a b):ids v=zev a++zev b:=by
 unfold zrq at h
 split at h
 ·injection h with _ h1 h2;subst h1 h2;rfl
 subst h;rfl
theorem ybx{F:Oracle}{cx:Cx}{slot:Nat}{e:Env}{op:COp}(hs:yee (zyt e op) m m')(hc:cls op=1){v:V}{m1:Mem}(h:zc5 F cx slot e m op=some (v,m1)):zc5 F cx slot e m' op=some (v,m'):=by
 cases op<;>first|exact absurd (show(2:Nat)=1 from hc) (by decide)|exact absurd (show(0:Nat)=1 from hc) (by decide)|exact absurd (show(3:Nat)=1 from hc) (by decide)|exact absurd (show(4:Nat)=1 from hc) (by decide)|skip
 all_goals simp only[zc5,Option.map_eq_some_iff,Prod.mk.injEq]at h⊢
 case mkList=>obtain⟨a,h1,h2,_⟩:=h;exact⟨a,z7z _ _ _ hs h1,h2,by first|trivial|rfl⟩
 case load=>obtain⟨a,h1,h2,_⟩:=h;exact⟨a,yk7 hs h1,h2,by first|trivial|rfl⟩
 case nilCheck x=>
  split at h
  ·rename_i hsu;simp only[Option.some.injEq,Prod.mk.injEq]at h;rw[if_pos (z5y hs hsu),h.1]
  generalize hx:x.ev e=y at h⊢;split at h<;>try cases h
  rename_i hfn
  have hy:ybb m' y=false:=by
   unfold zrq at hfn
   split at hfn
   ·rfl
   subst hfn;rfl
  rw[hy]
  rfl
 case slice=>obtain⟨a,h1,h2,_⟩:=h;exact⟨a,ygy hs h1,h2,by first|trivial|rfl⟩
 case fieldAddr=>obtain⟨a,h1,h2,_⟩:=h;exact⟨a,zy1 hs h1,h2,by first|trivial|rfl⟩
 case idxAddr=>obtain⟨a,h1,h2,_⟩:=h;exact⟨a,z9z hs h1,h2,by first|trivial|rfl⟩
 case nilEq kd neg x=>
  split at h<;>try cases h
  rename_i k b hb;rw[yn6 hs hb];split at h<;>try cases h
  rename_i hk;exact if_pos hk
 case idxAddrA=>
  split at h<;>try cases h
  split at h<;>try cases h
  rename_i hr;simp only[Option.map_eq_some_iff,Prod.mk.injEq]at h;obtain⟨a,h1,h2,_⟩:=h;rw[if_pos hr,zy1 hs h1,<-h2]
  rfl
 case lookup=>obtain⟨a,h1,h2,_⟩:=h;exact⟨a,ycx hs h1,h2,by first|trivial|rfl⟩
 case len=>obtain⟨a,h1,h2,_⟩:=h;exact⟨a,yn0 hs h1,h2,by first|trivial|rfl⟩
 case build z ps=>cases hz:yqn z<;>simp[cls,hz]at hc
 case call a b f args=>
  cases a<;>cases b<;>first|exact absurd (show(2:Nat)=1 from hc) (by decide)|exact absurd (show(3:Nat)=1 from hc) (by decide)|skip
  simp only[zlz,Bool.false_eq_true,if_false]at h⊢;split at h<;>try cases h
  rename_i g first caps hf
  split at h<;>try cases h
  rename_i hfr;split at h<;>try cases h
  rename_i hcall
  have hs':yee (zev (first++evs e args++caps)) m m':=λi hi=>hs i (by
   simp only[z4j,List.mem_append]at hi;simp only[zyt,yik hf,List.mem_append]
   rcases hi with(hi|hi)|hi
   ·exact .inl (.inl hi)
   ·exact .inr hi
   exact .inl (.inr hi))
  simp only[zuc false _ _ hs' hfr,hcall];simp only[zpu,if_true]at h⊢;split at h<;>try cases h
  rename_i hid;rw[if_pos hid];simp only[Option.map_eq_some_iff,Prod.mk.injEq]at h⊢;obtain⟨a,h1,h2,_⟩:=h;exact⟨a,h1,h2,by first|trivial|rfl⟩
theorem ykm{F:Oracle}{cx:Cx}{e:Env}{c:CO}(hs:yee (zyt e c.op) m m')(hc:cls c.op=1){v:V}{m1:Mem}(h:zey F cx e m c=some (v,m1)):zey F cx e m' c=some (v,m'):=by
 unfold zey at h⊢
 split at h
 ·exact ybx hs hc h
 split at h
 ·split at h
  ·rename_i hb;rw[if_pos hb];exact ybx hs hc h
  rename_i hb;rw[if_neg hb];simp only[Option.some.injEq,Prod.mk.injEq]at h⊢;exact⟨h.1,trivial⟩
 ·simp only[Option.some.injEq,Prod.mk.injEq]at h⊢;exact⟨h.1,trivial⟩
 cases h
theorem z0w(cx:Cx)(slot:Nat)(m:Mem)(ob:Ob):Sub m (upd m (newId cx slot m) ob):=by
 intro i o hi
 rw[za9 _ _ _ _ λe=>?_]
 ·exact hi
 rw[<-e,zed]at hi;cases hi
theorem z2w(cx:Cx)(slot:Nat):∀(l:List yen)(m:Mem),Sub m (zbs cx slot l m).2
 |[],_=>λ_ _ h=>h
 |.z _::r,m=>by simp only[zbs];exact z2w cx slot r m
 |.own s::r,m=>by
  simp only[zbs];exact λi o h=>z2w cx slot r _ i o (z0w cx slot m _ i o h)
theorem z0v:∀(m r:Mem),Sub m (m++r)
 |[],_,i,o,h=>by simp[look]at h
 |(j,x)::m,r,i,o,h=>by
  simp only[List.cons_append,look]at h⊢
  split at h
  ·rename_i e;rw[if_pos e];exact h
  rename_i e;rw[if_neg e];exact z0v m r i o h
theorem yhy{F:Oracle}{cx:Cx}{e:Env}{c:CO}(hc:cls c.op=3){v:V}(h:zey F cx e m c=some (v,m')):Sub m m':=by
 have key:∀slot,zc5 F cx slot e m c.op=some (v,m')->Sub m m':=by
  intro slot h;generalize hop:c.op=op at hc h;cases op<;>first|exact absurd (show(2:Nat)=3 from hc) (by decide)|exact absurd (show(1:Nat)=3 from hc) (by decide)|exact absurd (show(0:Nat)=3 from hc) (by decide)|exact absurd (show(4:Nat)=3 from hc) (by decide)|skip
  all_goals simp only[zc5]at h
  case ownNil=>
   simp only[Option.some.injEq,Prod.mk.injEq]at h;obtain⟨_,rfl⟩:=h;exact z0w _ _ _ _
  case mkMap=>
   simp only[Option.some.injEq,Prod.mk.injEq]at h;obtain⟨_,rfl⟩:=h;exact z0w _ _ _ _
  case box=>
   split at h<;>try cases h
   exact z0w _ _ _ _
  case mkRow=>
   simp only[Option.map_eq_some_iff,Prod.mk.injEq]at h;obtain⟨_,_,_,rfl⟩:=h;exact z0w _ _ _ _
  case alloc=>
   simp only[Option.some.injEq,Prod.mk.injEq]at h;obtain⟨_,rfl⟩:=h;exact λi o hi=>z0w _ _ _ _ i o (z2w cx slot _ m i o hi)
  case build=>
   simp only[Option.map_eq_some_iff,Prod.mk.injEq]at h;obtain⟨_,_,_,rfl⟩:=h;exact z2w _ _ _ _
  case call a b f args=>
   cases a<;>cases b<;>first|exact absurd (show(2:Nat)=3 from hc) (by decide)|exact absurd (show(1:Nat)=3 from hc) (by decide)|skip
   simp only[zlz,Bool.false_eq_true,if_false]at h;split at h<;>try cases h
   split at h<;>try cases h
   split at h<;>try cases h
   simp only[zpu,Bool.false_eq_true,if_false,settle]at h;split at h<;>try cases h
   exact z0v _ _
  case callN f args=>
   split at h<;>try cases h
   split at h<;>try cases h
   simp only[zlz,Bool.false_eq_true,if_false]at h;split at h<;>try cases h
   split at h<;>try cases h
   simp only[zpu,Bool.false_eq_true,if_false,settle]at h;split at h<;>try cases h
   exact z0v _ _
 unfold zey at h
 split at h
 ·exact key _ h
 split at h
 ·split at h
  ·exact key _ h
  simp only[Option.some.injEq,Prod.mk.injEq]at h;exact h.2▸λ_ _ h=>h
 ·simp only[Option.some.injEq,Prod.mk.injEq]at h;exact h.2▸λ_ _ h=>h
 cases h
def z8g:COp->List Nat
 |.storeR _ _ _ rs=>rs
 |.callR _ _ _ rs=>rs
 |.mapSetR _ _ _ _ rs=>rs
 |_=>[]
theorem z7v:∀(vs:List V),z94 m m' vs=true->∀v∈vs,∀i∈ids v,look m' i=look m i
 |[],_,v,hv,_,_=>by simp at hv
 |w::r,h,v,hv,i,hi=>by
  unfold z94 at h
  split at h
  ·rename_i e;cases e
  ·rename_i o a b r' e;obtain⟨rfl,rfl⟩:=(List.cons.injEq ..).mp e;simp only[Bool.and_eq_true]at h
   rcases List.mem_cons.1 hv with rfl|hv
   ·simp only[ids,List.mem_singleton]at hi;subst hi;have h1:=h.1;unfold yrt at h1
    split at h1
    ·rename_i t cs u ds k1 k2;simp only[Bool.and_eq_true,decide_eq_true_eq]at h1;obtain⟨rfl,h2⟩:=h1;rw[k1,k2,ydp _ _ h2]
    cases h1
   exact z7v r h.2 v hv i hi
  cases h
theorem ykg{n:Nat}{a x:V}{vs:List V}(ha:yhq a vs=true)(h:zzg n m a x=some m'):∀v∈vs,∀i∈ids v,look m' i=look m i:=by
 intro v hv i hi;unfold yhq at ha
 split at ha
 ·rename_i o off top;have:=List.all_eq_true.1 ha v hv;cases v<;>simp only[Bool.false_eq_true]at this;rename_i o' _ _;simp only[ids,List.mem_singleton]at hi;subst hi;have hne:i≠o:=by simpa using this
  simp only[zzg]at h
  split at h
  ·split at h<;>try cases h
   split at h<;>try cases h
   exact za9 _ _ _ _ (Ne.symm hne)
  ·split at h<;>try cases h
   split at h<;>try cases h
   exact za9 _ _ _ _ (Ne.symm hne)
  cases h
 cases ha
theorem yep{kk:KK}{a k x:V}{vs:List V}(ha:yhp a vs=true)(h:zjz kk m a k x=some m'):∀v∈vs,∀i∈ids v,look m' i=look m i:=by
 intro v hv i hi;unfold yhp at ha
 split at ha
 ·rename_i o;have:=List.all_eq_true.1 ha v hv;cases v<;>simp only[Bool.false_eq_true]at this;rename_i o' _ _;simp only[ids,List.mem_singleton]at hi;subst hi;have hne:i≠o:=by simpa using this
  unfold zjz at h;split at h<;>try cases h
  rename_i hmp;injection hmp with hmp
  subst hmp;split at h<;>try cases h
  split at h<;>try cases h
  simp only[Option.map_eq_some_iff]at h;obtain⟨es,_,rfl⟩:=h;exact za9 _ _ _ _ (Ne.symm hne)
 cases ha
theorem yby{F:Oracle}{cx:Cx}{e:Env}{c:CO}(hc:cls c.op=4){v:V}(h:zey F cx e m c=some (v,m')):∀t∈z8g c.op,∀i∈ids (get e t),look m' i=look m i:=by
 have key:∀slot,zc5 F cx slot e m c.op=some (v,m')->∀t∈z8g c.op,∀i∈ids (get e t),look m' i=look m i:=by
  intro slot h;generalize hop:c.op=op at hc h;cases op<;>first|exact absurd (show(2:Nat)=4 from hc) (by decide)|exact absurd (show(1:Nat)=4 from hc) (by decide)|exact absurd (show(0:Nat)=4 from hc) (by decide)|exact absurd (show(3:Nat)=4 from hc) (by decide)|skip
  case build z ps=>cases hz:yqn z<;>simp[cls,hz]at hc
  case call a b f args=>cases a<;>cases b<;>simp[cls]at hc
  all_goals simp only[zc5]at h
  case storeR=>
   split at h<;>try cases h
   rename_i ha;simp only[Option.map_eq_some_iff,Prod.mk.injEq]at h;obtain⟨m1,h1,_,rfl⟩:=h;exact λt ht=>ykg ha h1 _ (List.mem_map_of_mem ht)
  case mapSetR=>
   split at h<;>try cases h
   rename_i ha;simp only[Option.map_eq_some_iff,Prod.mk.injEq]at h;obtain⟨m1,h1,_,rfl⟩:=h;exact λt ht=>yep ha h1 _ (List.mem_map_of_mem ht)
  case callR _ _ _ rs=>
   split at h<;>try cases h
   split at h<;>try cases h
   have hk:z94 m m' (rs.map (get e))=true:=by assumption
   exact λt ht=>z7v _ hk _ (List.mem_map_of_mem ht)
 unfold zey at h
 split at h
 ·exact key _ h
 split at h
 ·split at h
  ·exact key _ h
  simp only[Option.some.injEq,Prod.mk.injEq]at h;exact λ_ _ _ _=>by rw[h.2]
 ·simp only[Option.some.injEq,Prod.mk.injEq]at h;exact λ_ _ _ _=>by rw[h.2]
 cases h
theorem yk0{e:Env}{op:COp}{i:Id}(h:i∈zyt e op):(∃t∈reads op,i∈ids (get e t))\/i∈zyt [] op:=by
 have one:∀x:Opd,i∈ids (x.ev e)->(∃t∈tO x,i∈ids (get e t))\/i∈ids (x.ev []):=by
  intro x hx;cases x with
  |t n=>exact .inl ⟨n,by simp[tO],hx⟩
  |k v=>exact .inr hx
 have many:∀xs:List Opd,i∈zev (evs e xs)->(∃t∈tOs xs,i∈ids (get e t))\/i∈zev (evs [] xs):=by
  intro xs;induction xs with
  |nil=>intro hx;simp[evs,zev]at hx
  |cons x r ih=>
   intro hx;simp only[evs,zev,List.mem_append]at hx⊢
   rcases hx with hx|hx
   ·rcases one x hx with⟨t,ht,h⟩|h
    ·exact .inl ⟨t,by simp[tOs,ht],h⟩
    exact .inr (.inl h)
   rcases ih hx with⟨t,ht,h⟩|h
   ·exact .inl ⟨t,by simp[tOs,ht],h⟩
   exact .inr (.inr h)
 cases op<;>simp only[zyt,List.not_mem_nil]at h⊢ <;>simp only[reads,List.mem_append]
 case mkList a b xs=>exact many xs h
 case load n a=>exact one a h
 case nilCheck x=>exact one x h
 case slice n x lo hi mx=>exact(one x h).imp (λ⟨t,ht,h⟩=>⟨t,.inl ht,h⟩) id
 case fieldAddr n x=>exact one x h
 case idxAddr n x j=>exact(one x h).imp (λ⟨t,ht,h⟩=>⟨t,.inl ht,h⟩) id
 case idxAddrA l n x j=>exact(one x h).imp (λ⟨t,ht,h⟩=>⟨t,.inl ht,h⟩) id
 case lookup kk z c x k=>exact(one x h).imp (λ⟨t,ht,h⟩=>⟨t,.inl ht,h⟩) id
 case len k x=>exact one x h
 case nilEq kd neg x=>exact one x h
 case call a b f args=>
  simp only[List.mem_append]at h
  rcases h with h|h
  ·rcases one f h with⟨t,ht,h⟩|h
   ·exact .inl ⟨t,.inl ht,h⟩
   exact .inr (.inl h)
  rcases many args h with⟨t,ht,h⟩|h
  ·exact .inl ⟨t,.inr ht,h⟩
  exact .inr (.inr h)
mutual
theorem z81(s:S):∀(v:V)(x:Value),VR s v x->∀i∈ids v,∃o,look s.m i=some o
 |.d _,_,_,i,hi=>by simp[ids]at hi
 |.agg cs,x,h,i,hi=>by
  simp only[VR]at h;obtain⟨xs,_,h⟩:=h;exact ybh s cs _ h i hi
 |.tup cs,x,h,i,hi=>by
  simp only[VR]at h;obtain⟨xs,_,h⟩:=h;exact zxl s cs _ h i hi
 |.ref o _ _ _,x,h,i,hi=>by
  simp only[VR]at h;simp only[ids,List.mem_singleton]at hi;subst hi;cases hl:look s.m i with
  |none=>rw[hl]at h;exact h.2.elim
  |some o=>exact⟨o,rfl⟩
 |.ptr o _ _,x,h,i,hi=>by
  simp only[VR]at h;simp only[ids,List.mem_singleton]at hi;subst hi;cases hl:look s.m i with
  |none=>rw[hl]at h;exact h.2.elim
  |some o=>exact⟨o,rfl⟩
 |.lptr ..,_,_,i,hi=>by simp[ids]at hi
 |.cl ..,_,_,i,hi=>by simp[ids]at hi
 |.fn f a b,x,h,i,hi=>by
  simp only[VR]at h;obtain⟨xs,ys,_,h1,h2⟩:=h;simp only[ids,List.mem_append]at hi
  rcases hi with hi|hi
  ·exact zxl s a _ h1 i hi
  exact zxl s b _ h2 i hi
 |.yld o,x,h,i,hi=>by
  simp only[VR]at h;simp only[ids,List.mem_singleton]at hi;subst hi;cases hl:look s.m i with
  |none=>rw[hl]at h;exact h.2.elim
  |some o=>exact⟨o,rfl⟩
 |.mp o,x,h,i,hi=>by
  simp only[VR]at h;simp only[ids,List.mem_singleton]at hi;subst hi;cases hl:look s.m i with
  |none=>rw[hl]at h;exact h.2.elim
  |some o=>exact⟨o,rfl⟩
 |.it o,x,h,i,hi=>by
  simp only[VR]at h;simp only[ids,List.mem_singleton]at hi;subst hi;cases hl:look s.m i with
  |none=>rw[hl]at h;exact h.2.elim
  |some o=>exact⟨o,rfl⟩
 |.skip,_,_,i,hi=>by simp[ids]at hi
 |.undef,_,_,i,hi=>by simp[ids]at hi
theorem ybh(s:S):∀(cs:List V)(xs:List Value),VRs s cs xs->∀i∈zev cs,∃o,look s.m i=some o
 |[],_,_,i,hi=>by simp[zev]at hi
 |v::r,xs,h,i,hi=>by
  simp only[VRs]at h;obtain⟨x,ys,_,_,h1,h2⟩:=h;simp only[zev,List.mem_append]at hi
  rcases hi with hi|hi
  ·exact z81 s v x h1 i hi
  exact ybh s r ys h2 i hi
theorem zxl(s:S):∀(cs:List V)(xs:List Value),VRt s cs xs->∀i∈zev cs,∃o,look s.m i=some o
 |[],_,_,i,hi=>by simp[zev]at hi
 |v::r,xs,h,i,hi=>by
  simp only[VRt]at h;obtain⟨x,ys,_,h1,h2⟩:=h;simp only[zev,List.mem_append]at hi
  rcases hi with hi|hi
  ·exact z81 s v x h1 i hi
  exact zxl s r ys h2 i hi
end
end
end Go.Evl
namespace Go.Evl
open Go.RowKit
def yvk(acc:List Nat)(o:Oper):Nat:=o.after.toList.foldl (λm e=>if Region.binds .any e then m|||((1<<<e.on)|||acc.getD e.on 0)else m) 0
def yk9:List Oper->List Nat->List Nat
 |[],acc=>acc
 |o::r,acc=>yk9 r (acc++[yvk acc o])
def zw8:COp->Option Nat
 |.fieldAddr _ (.t b)=>some b
 |.idxAddrA _ _ (.t b) _=>some b
 |.mv (.t b)=>some b
 |.nilCheck (.t b)=>some b
 |_=>none
def ybo(cos:List CO)(a:Nat):Nat:=
 match(cos.takeWhile λx=>!(zlu x).elem a).find? (λx=>x.dst==some a&&x.guard.isNone)with
 |some x=>(zw8 x.op).getD a
 |none=>a
def z3b(cos:List CO)(a:Nat):Nat:=ybo cos (ybo cos (ybo cos a))
theorem zs3{α:Type}{p:α->Bool}{x c:α}:∀(l:List α)(i:Nat),x∈l.takeWhile p->l[i]?=some c->p c=false->∃j,j<i/\l[j]?=some x
 |[],_,h,_,_=>by simp at h
 |y::r,i,h,hc,hp=>by
  rw[List.takeWhile_cons]at h
  split at h
  ·rename_i hy;cases i with
   |zero=>
    simp only[List.getElem?_cons_zero,Option.some.injEq]at hc;subst hc;rw[hy]at hp;cases hp
   |succ i=>
    rcases List.mem_cons.1 h with rfl|h
    ·exact⟨0,by omega,rfl⟩
    obtain⟨j,h1,h2⟩:=zs3 r i h (by simpa using hc) hp;exact⟨j+1,by omega,by simpa using h2⟩
  simp at h
theorem yeu(cos:List CO)(a:Nat){i:Nat}{c:CO}(hc:cos[i]?=some c)(ha:a∈zlu c):ybo cos a=a\/∃(j:Nat)(x:CO),j<i/\cos[j]?=some x/\x.dst=some a/\x.guard=none/\zw8 x.op=some (ybo cos a):=by
 unfold ybo
 split
 ·rename_i x hx;have h1:=List.mem_of_find?_eq_some hx;have h2:=List.find?_some hx;simp only[Bool.and_eq_true,beq_iff_eq,Option.isNone_iff_eq_none]at h2;obtain⟨j,h3,h4⟩:=zs3 cos i h1 hc (by simpa using ha);cases hf:zw8 x.op with
  |none=>exact .inl rfl
  |some b=>exact .inr ⟨j,x,h3,h4,h2.1,h2.2,by simp[hf]⟩
 exact .inl rfl
theorem z9r [Clk]{op:COp}{b:Nat}(h:zw8 op=some b):b∈reads op:=by
 unfold zw8 at h;split at h<;>cases h<;>simp[reads,tO]
def ymr:COp->Option Nat
 |.load _ (.t a)=>some a
 |.fieldAddr _ (.t a)=>some a
 |.idxAddrA _ _ (.t a) _=>some a
 |.nilCheck (.t a)=>some a
 |_=>none
theorem zzj{op:COp}{a:Nat}(h:ymr op=some a)(e:Env):a∈reads op/\zyt e op=ids (get e a):=by
 unfold ymr at h;split at h<;>cases h
 all_goals exact⟨by simp[reads,tO],rfl⟩
def zxa(cos:List CO)(r w:COp):Bool:=
 match ymr r with
 |some a=>(z8g w).elem (z3b cos a)&&cos.all λx=>x.dst !=some (z3b cos a)
 |_=>false
def ygk:COp->Bool
 |.alloc _ cs=>yqn cs
 |.box ..=>true
 |.mkMap=>true
 |.ownNil _=>true
 |.callN ..=>true
 |_=>false
def zkc(c:CO):Bool:=ygk c.op&&c.dst.isSome
theorem z4d(lv slot:Nat):∀m:Mem,freeK lv slot m=0\/∃n:Id,n.lv=lv/\n.slot=slot/\(∃o,look m n=some o)/\n.k+1=freeK lv slot m
 |[]=>.inl rfl
 |(j,x)::r=>by
  have there:∀n:Id,(∃o,look r n=some o)->∃o,look ((j,x)::r) n=some o:=by
   rintro n⟨o,ho⟩;simp only[look]
   by_cases e:j=n
   ·exact⟨x,by rw[if_pos e]⟩
   exact⟨o,by rw[if_neg e];exact ho⟩
  simp only[freeK]
  split
  ·rename_i hj
   rcases z4d lv slot r with h|⟨n,h1,h2,h3,h4⟩
   ·exact .inr ⟨j,hj.1,hj.2,⟨x,by simp[look]⟩,by rw[h];omega⟩
   by_cases hc:j.k+1<=freeK lv slot r
   ·exact .inr ⟨n,h1,h2,there n h3,by omega⟩
   exact .inr ⟨j,hj.1,hj.2,⟨x,by simp[look]⟩,by omega⟩
  rcases z4d lv slot r with h|⟨n,h1,h2,h3,h4⟩
  ·exact .inl h
  exact .inr ⟨n,h1,h2,there n h3,h4⟩
theorem yfn{lv slot:Nat}{m m2:Mem}(h:∀n:Id,n.lv=lv->n.slot=slot->look m n=look m2 n):freeK lv slot m=freeK lv slot m2:=by
 have le:∀a b:Mem,(∀n:Id,n.lv=lv->n.slot=slot->look a n=look b n)->freeK lv slot a<=freeK lv slot b:=by
  intro a b h
  rcases z4d lv slot a with e|⟨n,h1,h2,⟨o,h3⟩,h4⟩
  ·omega
  have:=z2i lv slot b n o ((h n h1 h2).symm.trans h3) h1 h2;omega
 exact Nat.le_antisymm (le _ _ h) (le _ _ λn h1 h2=>(h n h1 h2).symm)
theorem z4w(cx:Cx)(slot:Nat):∀(l:List Id)(k:Nat)(a b:Id),(a,b)∈number cx slot k l->b.lv=cx.lv/\b.slot=slot
 |[],_,_,_,h=>by simp[number]at h
 |i::r,k,a,b,h=>by
  simp only[number,List.mem_cons,Prod.mk.injEq]at h
  rcases h with⟨_,rfl⟩|h
  ·exact⟨rfl,rfl⟩
  exact z4w cx slot r (k+1) a b h
theorem z74{cx:Cx}{slot:Nat}{m m2:Mem}(h:∀n:Id,n.lv=cx.lv->n.slot=slot->look m2 n=look m n):freeK cx.lv slot m2=freeK cx.lv slot m:=yfn h
theorem yjh{F:Oracle}{cx:Cx}{slot:Nat}{e:Env}{m m':Mem}{op:COp}{v:V}(hp:ygk op=true)(h:zc5 F cx slot e m op=some (v,m')):
  (∀n:Id,look m' n≠look m n->n.slot=slot)/\∀m2,(∀n:Id,n.lv=cx.lv->n.slot=slot->look m2 n=look m n)->
   ∃m2',zc5 F cx slot e m2 op=some (v,m2')/\∀n,(look m2' n=look m2 n/\look m' n=look m n)\/(n.slot=slot/\look m2' n=look m' n):=by
 have key:(∃ob,m'=upd m (newId cx slot m) ob/\∀m2,newId cx slot m2=newId cx slot m->zc5 F cx slot e m2 op=some (v,upd m2 (newId cx slot m) ob))->
   (∀n:Id,look m' n≠look m n->n.slot=slot)/\∀m2,(∀n:Id,n.lv=cx.lv->n.slot=slot->look m2 n=look m n)->
   ∃m2',zc5 F cx slot e m2 op=some (v,m2')/\∀n,(look m2' n=look m2 n/\look m' n=look m n)\/(n.slot=slot/\look m2' n=look m' n):=by
  rintro⟨ob,rfl,h2⟩
  refine⟨λn hn=>?_,λm2 hm=>⟨_,h2 m2 (by unfold newId;rw[z74 hm]),λn=>?_⟩⟩
  ·by_cases en:n=newId cx slot m
   ·rw[en];rfl
   exact absurd (za9 _ _ _ _ (Ne.symm en)) hn
  by_cases en:n=newId cx slot m
  ·subst en;exact .inr ⟨rfl,by rw[zbh,zbh]⟩
  exact .inl ⟨za9 _ _ _ _ (Ne.symm en),za9 _ _ _ _ (Ne.symm en)⟩
 cases op<;>simp only[ygk,Bool.false_eq_true]at hp<;>simp only[zc5]at h
 case alloc t cs=>
  refine key ?_;obtain⟨h1,h2⟩:=yeo cx slot cs m hp;simp only[Option.some.injEq,Prod.mk.injEq]at h;obtain⟨rfl,rfl⟩:=h;refine⟨_,by rw[h1],λm2 hm=>?_⟩;simp only[zc5,h2 m2,h1,hm]
 case box t x=>
  refine key ?_;split at h<;>try cases h
  rename_i cs hc;refine⟨_,rfl,λm2 hm=>?_⟩;simp only[zc5,hc,hm]
 case mkMap=>
  refine key ?_;simp only[Option.some.injEq,Prod.mk.injEq]at h;obtain⟨rfl,rfl⟩:=h;exact⟨_,rfl,λm2 hm=>by simp only[zc5,hm]⟩
 case ownNil r=>
  refine key ?_;simp only[Option.some.injEq,Prod.mk.injEq]at h;obtain⟨rfl,rfl⟩:=h;exact⟨_,rfl,λm2 hm=>by simp only[zc5,hm]⟩
 case callN f args=>
  split at h<;>try cases h
  rename_i g hf;split at h
  case isFalse=>cases h
  rename_i hd;obtain⟨ds,hds⟩:=zub _ hd;simp only[zlz,Bool.false_eq_true,if_false,List.nil_append,List.append_nil,hds m]at h;split at h<;>try cases h
  rename_i v1 m1 hF;simp only[zpu,Bool.false_eq_true,if_false]at h;unfold settle at h;dsimp only at h;split at h
  case isFalse=>cases h
  rename_i hw;simp only[Option.some.injEq,Prod.mk.injEq]at h;obtain⟨rfl,rfl⟩:=h
  have hl:∀(n:Id)(o:Ob),look (moved (number cx slot (freeK cx.lv slot m) (reach 0 m1 64 (ids v1) [])) m1 (number cx slot (freeK cx.lv slot m) (reach 0 m1 64 (ids v1) []))) n=some o->n.lv=cx.lv/\n.slot=slot:=by
   intro n o hn;obtain⟨a,o',h1,_⟩:=zoj _ _ _ _ _ hn;exact z4w cx slot _ _ _ _ h1
  refine⟨λn hn=>?_,λm2 hm=>?_⟩
  ·rw[zkv]at hn;cases hq:look (moved (number cx slot (freeK cx.lv slot m) (reach 0 m1 64 (ids v1) [])) m1 (number cx slot (freeK cx.lv slot m) (reach 0 m1 64 (ids v1) []))) n with
   |none=>rw[hq,Option.or_none]at hn;exact absurd rfl hn
   |some o=>exact(hl n o hq).2
  refine⟨m2++moved (number cx slot (freeK cx.lv slot m) (reach 0 m1 64 (ids v1) [])) m1 (number cx slot (freeK cx.lv slot m) (reach 0 m1 64 (ids v1) [])),?_,λn=>?_⟩
  ·simp only[zc5,hf,hd,if_true,zlz,Bool.false_eq_true,if_false,List.nil_append,List.append_nil,hds m2,hF,zpu];unfold settle;dsimp only;rw[z74 hm,if_pos hw]
  rw[zkv,zkv];cases hq:look (moved (number cx slot (freeK cx.lv slot m) (reach 0 m1 64 (ids v1) [])) m1 (number cx slot (freeK cx.lv slot m) (reach 0 m1 64 (ids v1) []))) n with
  |none=>rw[Option.or_none,Option.or_none];exact .inl ⟨rfl,rfl⟩
  |some o=>
   obtain⟨h1,h2⟩:=hl n o hq;exact .inr ⟨h2,by rw[hm n h1 h2]⟩
theorem yop{op:COp}(h:ygk op=true):cls op=3:=by
 cases op<;>simp only[ygk,Bool.false_eq_true]at h<;>rfl
def zmd(cos:List CO)(c d:COp):Bool:=
 (cls d==1&&cls c==1)||(cls d==1&&cls c==3)||(cls d==3&&cls c==1&&(zyt [] c).isEmpty)||
 (cls d==1&&cls c==4&&zxa cos d c)||(cls d==4&&cls c==1&&zxa cos c d)
def yx8:COp->Option Nat
 |.load _ (.t a)=>some a
 |.fieldAddr _ (.t a)=>some a
 |.idxAddrA _ _ (.t a) _=>some a
 |.nilCheck (.t a)=>some a
 |.slice _ (.t a) _ _ _=>some a
 |.len _ (.t a)=>some a
 |.idxAddr _ (.t a) _=>some a
 |_=>none
theorem yji{op:COp}{a:Nat}(h:yx8 op=some a)(e:Env):a∈reads op/\zyt e op=ids (get e a)/\cls op=1:=by
 unfold yx8 at h;split at h<;>cases h
 all_goals exact⟨by simp[reads,tO],rfl,rfl⟩
def yp9(c:CO):Option Nat:=
 match c.op with
 |.append ..=>c.dst
 |.appendS ..=>c.dst
 |.store _ (.t a) _=>if c.dst.isNone then some a else none
 |.mapSet _ (.t a) _ _=>if c.dst.isNone then some a else none
 |_=>none
def yos:COp->Bool
 |.callK ..=>true
 |.callQ ..=>true
 |_=>false
theorem yse{F:Oracle}{cx:Cx}{e:Env}{m m':Mem}{c:CO}{v:V}(hq:yos c.op=true)(h:zey F cx e m c=some (v,m')):m'=m:=by
 have key:∀slot,zc5 F cx slot e m c.op=some (v,m')->m'=m:=by
  intro slot h;generalize c.op=op at hq h;cases op<;>simp only[yos,Bool.false_eq_true]at hq
  case callQ=>
   simp only[zc5,Option.map_eq_some_iff,Prod.mk.injEq]at h;obtain⟨_,_,_,h⟩:=h;exact h.symm
  simp only[zc5]at h;split at h<;>try cases h
  split at h
  case isFalse=>cases h
  simp only[Option.some.injEq,Prod.mk.injEq]at h;exact h.2.symm
 unfold zey at h
 split at h
 ·exact key _ h
 split at h
 ·split at h
  ·exact key _ h
  simp only[Option.some.injEq,Prod.mk.injEq]at h;exact h.2.symm
 ·simp only[Option.some.injEq,Prod.mk.injEq]at h;exact h.2.symm
 cases h
def zpv(chk:List (Nat×Nat))(cos:List CO)(i j:Nat)(c d:CO):Bool:=
 (cls c.op==1&&yos d.op)||
 match yx8 c.op,yp9 d with
 |some x,some t=>chk.elem (x,t)&&((cos.drop i).all λy=>y.dst !=some x)&&((cos.drop (j+1)).all λy=>y.dst !=some t)&&(d.dst==none||d.dst==some t)
 |_,_=>false
theorem zge{chk:List (Nat×Nat)}{cos:List CO}{i j:Nat}{c d:CO}(h:2<=cls c.op):zpv chk cos i j c d=false:=by
 unfold zpv;have h1:(cls c.op==1)=false:=by simp;omega
 rw[h1,Bool.false_and,Bool.false_or]
 split
 ·rename_i x t hx _;have:=(yji hx []).2.2;omega
 rfl
def yc3(chk:List (Nat×Nat))(ops:Array Oper)(cos:List CO):Bool:=
 let ms:=yk9 ops.toList []
 (List.range cos.length).all λi=>
  match cos[i]?,ops[i]? with
  |some c,some o=>
   o.after.toList.all (λe=>!Region.binds .any e||decide (e.on<i))&&
   (List.range cos.length).all λj=>
    match cos[j]? with
    |some d=>
     (decide (i=j)||d.dst.isNone||d.dst !=c.dst)&&
     (match d.dst with
      |some t=>!(zlu c).elem t||(decide (j<i)&&(ms.getD i 0).testBit j)||(decide (i=j)||(decide (i<j)&&(ms.getD j 0).testBit i))
      |none=>true)&&
     (!decide (j<i)||cls c.op==0||cls d.op==0||zmd cos c.op d.op||(zkc c&&zkc d)||zpv chk cos i j c d||zpv chk cos j i d c||(ms.getD i 0).testBit j)
    |none=>false
  |_,_=>false
def ytn(ops:Array Oper)(p:Nat->Prop):Prop:=∀i o e,ops[i]?=some o->p i->e∈o.after->Region.binds .any e=true->p e.on
def z2y(ops:Array Oper)(i a:Nat):Prop:=∀p,ytn ops p->p i->p a
theorem ycy(acc:List Nat)(a:Nat):∀(l:List Edge)(m:Nat),(l.foldl (λm e=>if Region.binds .any e then m|||((1<<<e.on)|||acc.getD e.on 0)else m) m).testBit a=true->
  m.testBit a=true\/∃e∈l,Region.binds .any e=true/\(a=e.on\/(acc.getD e.on 0).testBit a=true)
 |[],m,h=>.inl h
 |e::r,m,h=>by
  simp only[List.foldl_cons]at h
  rcases ycy acc a r _ h with h|⟨e',h1,h2⟩
  ·split at h
   ·rename_i hb;simp only[Nat.testBit_or,Bool.or_eq_true]at h
    rcases h with h|h|h
    ·exact .inl h
    ·refine .inr ⟨e,by simp,hb,.inl ?_⟩;simp only[Nat.testBit_shiftLeft,Bool.and_eq_true,decide_eq_true_eq,Nat.testBit_one_eq_true_iff_self_eq_zero]at h;omega
    exact .inr ⟨e,by simp,hb,.inr h⟩
   exact .inl h
  exact .inr ⟨e',by simp[h1],h2⟩
theorem yi1{ops:Array Oper}:∀(os:List Oper)(acc:List Nat),(∀i a,(acc.getD i 0).testBit a=true->z2y ops i a)->(∀k,k<os.length->os[k]?=ops[acc.length+k]?)->∀i a,((yk9 os acc).getD i 0).testBit a=true->z2y ops i a
 |[],acc,h,_=>h
 |o::r,acc,h,ho=>by
  refine yi1 r (acc++[yvk acc o]) (λi a hb=>?_) (λk hk=>?_)
  ·have ho0:ops[acc.length]?=some o:=by simpa using(ho 0 (by simp)).symm
   rcases Nat.lt_trichotomy i acc.length with hi|hi|hi
   ·rw[List.getD_eq_getElem?_getD,List.getElem?_append_left hi,<-List.getD_eq_getElem?_getD]at hb;exact h i a hb
   ·subst hi;rw[List.getD_eq_getElem?_getD,List.getElem?_append_right (Nat.le_refl _)]at hb;simp only[Nat.sub_self,List.getElem?_cons_zero,Option.getD_some,yvk]at hb
    rcases ycy acc a _ 0 hb with hb|⟨e,he,hbd,hb⟩
    ·simp at hb
    intro p hp hi;have h1:=hp _ o e ho0 hi (by simpa using he) hbd
    rcases hb with rfl|hb
    ·exact h1
    exact h e.on a hb p hp h1
   rw[List.getD_eq_getElem?_getD,List.getElem?_eq_none (by simp;omega)]at hb;simp at hb
  have:=ho (k+1) (by simp;omega);simp only[List.getElem?_cons_succ]at this;rw[this,List.length_append,List.length_singleton];congr 1;omega
structure z23(F:Oracle)(cx:Cx)(cos:List CO)(E:Nat->Env)(M:Nat->Mem)(W:Nat->V):Prop where
 val:∀i c,cos[i]?=some c->zey F cx (E i) (M i) c=some (W i,M (i+1))
 env:∀i c,cos[i]?=some c->E (i+1)=put? (E i) c.dst (W i)
theorem ya4{F:Oracle}{cx:Cx}:∀(cos:List CO)(e e':Env)(m m':Mem),zjb F cx cos e m=some (e',m')->∃E M W,z23 F cx cos E M W/\E 0=e/\M 0=m/\E cos.length=e'/\M cos.length=m'
 |[],e,e',m,m',h=>by
  simp only[zjb,Option.some.injEq,Prod.mk.injEq]at h;obtain⟨rfl,rfl⟩:=h;exact⟨λ_=>e,λ_=>m,λ_=>.undef,⟨λi c h=>by simp at h,λi c h=>by simp at h⟩,rfl,rfl,rfl,rfl⟩
 |c::r,e,e',m,m',h=>by
  rw[z0e]at h;split at h<;>try cases h
  rename_i v m1 h1;obtain⟨E,M,W,hT,hE,hM,hE',hM'⟩:=ya4 r _ e' m1 m' h
  refine⟨λi=>match i with|0=>e|i+1=>E i,λi=>match i with|0=>m|i+1=>M i,λi=>match i with|0=>v|i+1=>W i,⟨λi d hd=>?_,λi d hd=>?_⟩,rfl,rfl,hE',hM'⟩
  ·cases i with
   |zero=>simp at hd;subst hd;simpa[hM]using h1
   |succ i=>exact hT.val i d (by simpa using hd)
  cases i with
  |zero=>simp at hd;subst hd;simpa using hE
  |succ i=>exact hT.env i d (by simpa using hd)
section
variable{F:Oracle}{cx:Cx}{cos:List CO}{E:Nat ->Env}{M:Nat ->Mem}{W:Nat ->V}
theorem z23.same(hT:z23 F cx cos E M W)(t:Nat)(a:Nat):∀b,a<=b->b<=cos.length->(∀k c,a<=k->k<b->cos[k]?=some c->c.dst≠some t)->get (E b) t=get (E a) t:=by
 intro b;induction b with
 |zero=>
   intro h _ _;obtain rfl:a=0:=by omega
   rfl
 |succ b ih=>
  intro hab hb hk
  rcases Nat.lt_or_ge b a with h|h
  ·obtain rfl:a=b+1:=by omega
   rfl
  obtain⟨c,hc⟩:∃c,cos[b]?=some c:=⟨_,List.getElem?_eq_getElem (by omega)⟩
  rw[hT.env b c hc];have hne:=hk b c h (by omega) hc
  have:get (put? (E b) c.dst (W b)) t=get (E b) t:=by
   cases hd:c.dst with
   |none=>rfl
   |some d=>exact zn7 _ _ _ _ (λe=>hne (by rw[hd,e]))
  rw[this];exact ih h (by omega) λk c h1 h2=>hk k c h1 (by omega)
theorem z23.mem(hT:z23 F cx cos E M W)(a:Nat):∀b,a<=b->b<=cos.length->(∀k c,a<=k->k<b->cos[k]?=some c->cls c.op<=1)->M b=M a:=by
 intro b;induction b with
 |zero=>
   intro h _ _;obtain rfl:a=0:=by omega
   rfl
 |succ b ih=>
  intro hab hb hk
  rcases Nat.lt_or_ge b a with h|h
  ·obtain rfl:a=b+1:=by omega
   rfl
  obtain⟨c,hc⟩:∃c,cos[b]?=some c:=⟨_,List.getElem?_eq_getElem (by omega)⟩
  rw[yu1 (hk b c h (by omega) hc) (hT.val b c hc)];exact ih h (by omega) λk c h1 h2=>hk k c h1 (by omega)
theorem z23.keep(hT:z23 F cx cos E M W){n:Id}{o:Ob}(a:Nat):∀b,a<=b->b<=cos.length->(∀k c,a<=k->k<b->cos[k]?=some c->cls c.op<=1\/cls c.op=3\/(cls c.op=4/\∃t∈z8g c.op,n∈ids (get (E k) t)))->look (M a) n=some o->look (M b) n=some o:=by
 intro b;induction b with
 |zero=>
   intro h _ _;obtain rfl:a=0:=by omega
   exact id
 |succ b ih=>
  intro hab hb hk h0
  rcases Nat.lt_or_ge b a with h|h
  ·obtain rfl:a=b+1:=by omega
   exact h0
  obtain⟨c,hc⟩:∃c,cos[b]?=some c:=⟨_,List.getElem?_eq_getElem (by omega)⟩
  have h1:=ih h (by omega) (λk c h1 h2=>hk k c h1 (by omega)) h0
  rcases hk b c h (by omega) hc with hl|hl|⟨hl,t,ht,hn⟩
  ·rw[yu1 hl (hT.val b c hc)];exact h1
  ·exact yhy hl (hT.val b c hc) n o h1
  rw[yby hl (hT.val b c hc) t ht n hn];exact h1
omit F cx cos E M W in
theorem yi5{off:Nat}{m:Mem}{w r:V}(hv:zhf off m w=some r):∀n∈ids r,n∈ids w:=by
 unfold zhf at hv
 split at hv
 ·cases w<;>simp at hv<;>subst hv<;>simp[ids]
 cases hv
omit F cx cos E M W in
theorem ynh{F:Oracle}{cx:Cx}{e:Env}{m m':Mem}{x:CO}{b:Nat}{v:V}(hg:x.guard=none)(hf:zw8 x.op=some b)(h:zey F cx e m x=some (v,m')):∀n∈ids v,n∈ids (get e b):=by
 obtain⟨dst,guard,op⟩:=x;subst hg;simp only at hf;unfold zw8 at hf;split at hf<;>cases hf<;>simp only[zey,zc5]at h
 all_goals
  show ∀n∈ids v,n∈ids ((Opd.t b).ev e)
  generalize(Opd.t b).ev e=w at h⊢
 ·simp only[Option.map_eq_some_iff,Prod.mk.injEq]at h;obtain⟨r,hv,rfl,_⟩:=h;exact yi5 hv
 ·split at h<;>try cases h
  split at h<;>try cases h
  simp only[Option.map_eq_some_iff,Prod.mk.injEq]at h;obtain⟨r,hv,rfl,_⟩:=h;exact yi5 hv
 ·simp only[Option.some.injEq,Prod.mk.injEq]at h;obtain⟨rfl,_⟩:=h;exact λn hn=>hn
 split at h
 ·simp only[Option.some.injEq,Prod.mk.injEq]at h;obtain⟨rfl,_⟩:=h;exact λn hn=>hn
 split at h<;>try cases h
 rename_i hf;intro n hn;rw[yik hf];exact hn
theorem z23.wrote(hT:z23 F cx cos E M W){t j:Nat}{d:CO}(hd:cos[j]?=some d)(hdt:d.dst=some t)(huniq:∀k c,cos[k]?=some c->c.dst=some t->k=j){i:Nat}(hi:j<i)(hn:i<=cos.length):get (E i) t=W j:=by
 rw[hT.same t (j+1) i (by omega) hn λk c h1 h2 hc he=>by have:=huniq k c hc he;omega];rw[hT.env j d hd,hdt];exact zk3 _ _ _
end
end Go.Evl
namespace Go.Evl
open Go.RowKit
section
variable{P:Program}{oc:zel}{gl:Globs}
theorem yac{nt:Nat}{ops:Array Oper}:∀(cos:List CO)(os:List Oper),zq0 P gl nt ops cos os=true->cos.length=os.length/\∀(i:Nat)(c:CO)(o:Oper),cos[i]?=some c->os[i]?=some o->yw5 P gl nt ops c o=true
 |[],[],_=>⟨rfl,λi c o h=>by simp at h⟩
 |[],_::_,h=>by simp[zq0]at h
 |_::_,[],h=>by simp[zq0]at h
 |c::r,o::q,h=>by
  simp only[zq0,Bool.and_eq_true]at h;obtain⟨h1,h2⟩:=yac r q h.2;refine⟨by simp[h1],λi c' o' hc ho=>?_⟩;cases i with
  |zero=>simp at hc ho;subst hc;subst ho;exact h.1
  |succ i=>exact h2 i c' o' (by simpa using hc) (by simpa using ho)
structure yto(chk:List (Nat×Nat))(ops:Array Oper)(cos:List CO):Prop where
 len:cos.length=ops.size
 edge:∀(i:Nat)(o:Oper)(e:Edge),ops[i]?=some o->e∈o.after->Region.binds .any e=true->e.on<i
 uniq:∀(i j:Nat)(c d:CO)(t:Nat),cos[i]?=some c->cos[j]?=some d->c.dst=some t->d.dst=some t->i=j
 read:∀(i j:Nat)(c d:CO)(t:Nat),cos[i]?=some c->cos[j]?=some d->t∈zlu c->d.dst=some t->(j<i/\z2y ops i j)\/i=j\/(i<j/\z2y ops j i)
 loud:∀(i j:Nat)(c d:CO),cos[i]?=some c->cos[j]?=some d->j<i->cls c.op≠0->cls d.op≠0->zmd cos c.op d.op=false->(zkc c&&zkc d)=false->zpv chk cos i j c d=false->zpv chk cos j i d c=false->z2y ops i j
theorem ync{chk:List (Nat×Nat)}{nt:Nat}{ops:Array Oper}{cos:List CO}(h1:zq0 P gl nt ops cos ops.toList=true)(h2:yc3 chk ops cos=true):yto chk ops cos:=by
 have hlen:cos.length=ops.size:=by simpa using(yac cos ops.toList h1).1
 have hm:∀i a,((yk9 ops.toList []).getD i 0).testBit a=true->z2y ops i a:=yi1 ops.toList [] (λi a h=>by simp at h) (λk _=>by simp)
 simp only[yc3,List.all_eq_true,List.mem_range]at h2
 have key:∀(i:Nat)(c:CO),cos[i]?=some c->∃o,ops[i]?=some o/\(∀e∈o.after,Region.binds .any e=true->e.on<i)/\∀(j:Nat)(d:CO),cos[j]?=some d->
   (i=j\/d.dst=none\/d.dst≠c.dst)/\(∀t,d.dst=some t->t∈zlu c->(j<i/\z2y ops i j)\/i=j\/(i<j/\z2y ops j i))/\(j<i->cls c.op≠0->cls d.op≠0->zmd cos c.op d.op=false->(zkc c&&zkc d)=false->zpv chk cos i j c d=false->zpv chk cos j i d c=false->z2y ops i j):=by
  intro i c hc;have hi:i<cos.length:=(List.getElem?_eq_some_iff.1 hc).1;have h:=h2 i hi;rw[hc]at h;obtain⟨o,ho⟩:∃o,ops[i]?=some o:=⟨_,Array.getElem?_eq_getElem (by omega)⟩
  rw[ho]at h;simp only[Bool.and_eq_true,List.all_eq_true,List.mem_range]at h
  refine⟨o,ho,λe he hb=>?_,λj d hd=>?_⟩
  ·have:=h.1 e (by simpa using he);simpa[hb]using this
  have h3:=h.2 j (List.getElem?_eq_some_iff.1 hd).1;rw[hd]at h3;simp only[Bool.and_eq_true]at h3;obtain⟨⟨q1,q2⟩,q3⟩:=h3
  refine⟨?_,λt ht hr=>?_,λhji c1 c2 c3 c4 c5 c6=>?_⟩
  ·simp only[Bool.or_eq_true,decide_eq_true_eq,Option.isNone_iff_eq_none,bne_iff_ne]at q1
   rcases q1 with(q1|q1)|q1
   ·exact .inl q1
   ·exact .inr (.inl q1)
   exact .inr (.inr q1)
  ·rw[ht]at q2;simp only[Bool.or_eq_true,Bool.not_eq_true',List.elem_eq_mem,decide_eq_false_iff_not,Bool.and_eq_true,decide_eq_true_eq]at q2
   rcases q2 with(q2|q2)|q2|q2
   ·exact absurd hr q2
   ·exact .inl ⟨q2.1,hm i j q2.2⟩
   ·exact .inr (.inl q2)
   exact .inr (.inr ⟨q2.1,hm j i q2.2⟩)
  simp only[Bool.or_eq_true,Bool.not_eq_true',decide_eq_false_iff_not,beq_iff_eq]at q3
  rcases q3 with((((((q3|q3)|q3)|q3)|q3)|q3)|q3)|q3
  ·exact absurd hji q3
  ·exact absurd q3 c1
  ·exact absurd q3 c2
  ·rw[c3]at q3;cases q3
  ·simp[q3]at c4
  ·rw[c5]at q3;cases q3
  ·rw[c6]at q3;cases q3
  exact hm i j q3
 refine⟨hlen,λi o e ho he hb=>?_,λi j c d t hc hd h3 h4=>?_,λi j c d t hc hd h3 h4=>?_,λi j c d hc hd hji c1 c2 c3 c4 c5 c6=>?_⟩
 ·have hi:i<ops.size:=(Array.getElem?_eq_some_iff.1 ho).1;obtain⟨c,hc⟩:∃c,cos[i]?=some c:=⟨_,List.getElem?_eq_getElem (by omega)⟩
  obtain⟨o',ho',hedge,_⟩:=key i c hc;rw[ho]at ho';obtain rfl:=Option.some.inj ho';exact hedge e he hb
 ·obtain⟨_,_,_,hk⟩:=key i c hc
  rcases(hk j d hd).1 with h|h|h
  ·exact h
  ·rw[h]at h4;cases h4
  exact absurd (h4.trans h3.symm) h
 ·obtain⟨_,_,_,hk⟩:=key i c hc;exact(hk j d hd).2.1 t h4 h3
 obtain⟨_,_,_,hk⟩:=key i c hc;exact(hk j d hd).2.2 hji c1 c2 c3 c4 c5 c6
theorem Sim.again [Clk]{oc:zel}{gl:Globs}{s:S}(hs:Sim oc gl s){m':Mem}(h:∀n,look m' n=look s.m n):Sim oc gl ⟨s.φ,m',s.w,s.Im⟩/\Ext (λ_=>True) s ⟨s.φ,m',s.w,s.Im⟩:=by
 have hE:Ext (λ_=>True) s ⟨s.φ,m',s.w,s.Im⟩:=
  ⟨rfl,Tk.of,rfl,Nat.le_refl _,λb _ hf=>⟨rfl,λi o ho=>hf i o ((h i).symm.trans ho)⟩,λb j hi=>.inl hi,λ_ _ hi=>hi,λ_ _ _=>rfl,λk o _ hk=>⟨o,(h k).trans hk,zbd.refl _ _⟩⟩
 exact⟨⟨λk o hk=>ObR.ext hE (λb _=>⟨rfl,λ_ hj=>hj⟩) (hs.objs k o ((h k).symm.trans hk)),λi j o o' b hij hi hj=>hs.apart i j o o' b hij ((h i).symm.trans hi) ((h j).symm.trans hj),hs.imlt,hs.glob,hs.tabs.ext hE⟩,hE⟩
theorem ywq{F:Oracle}{cx:Cx}{e:Env}{m m':Mem}{d:CO}{v:V}{n:Id}(h:zey F cx e m d=some (v,m'))(h1:∀t,yp9 d=some t->d.dst=some t->n∉ids v)(h2:∀t,yp9 d=some t->d.dst≠some t->n∉ids (get e t))(h0:(yp9 d).isSome=true):look m' n=look m n:=by
 obtain⟨t,ht⟩:=Option.isSome_iff_exists.1 h0
 have key:∀slot,zc5 F cx slot e m d.op=some (v,m')->look m' n=look m n:=by
  intro slot hq;have ht0:=ht;unfold yp9 at ht
  split at ht
  ·rename_i r s x hop;rw[hop]at hq;simp only[zc5,zwj,zp8]at hq;have hv:=h1 t ht0 ht;split at hq<;>try cases hq
   split at hq
   ·split at hq<;>try cases hq
    split at hq<;>try cases hq
    exact za9 _ _ _ _ (λe=>hv (by simp[ids,e]))
   ·split at hq<;>try cases hq
    exact za9 _ _ _ _ (λe=>hv (by simp[ids,e]))
   ·split at hq<;>try cases hq
    exact za9 _ _ _ _ (λe=>hv (by simp[ids,e]))
   cases hq
  ·rename_i r s x hop;rw[hop]at hq;simp only[zc5]at hq;have hv:=h1 t ht0 ht;unfold zxp at hq;split at hq<;>try cases hq
   simp only[zp8]at hq
   repeat'(split at hq)
   all_goals first|(cases hq;done)|skip
   all_goals(cases hq;exact za9 _ _ _ _ (λe=>hv (by simp[ids,e])))
  ·rename_i k a x hop;rw[hop]at hq;split at ht<;>try cases ht
   rename_i hnone;have hv:n∉ids ((Opd.t t).ev e):=h2 t ht0 (by rw[Option.isNone_iff_eq_none.1 hnone];simp);simp only[zc5,Option.map_eq_some_iff,Prod.mk.injEq]at hq;obtain⟨m1,hq,_,rfl⟩:=hq
   revert hv hq
   generalize(Opd.t t).ev e=w;intro hv hq;unfold zzg at hq;split at hq<;>try cases hq
   split at hq
   ·split at hq<;>try cases hq
    split at hq<;>try cases hq
    exact za9 _ _ _ _ (λe=>hv (by simp[ids,e]))
   ·split at hq<;>try cases hq
    split at hq<;>try cases hq
    exact za9 _ _ _ _ (λe=>hv (by simp[ids,e]))
   cases hq
  ·rename_i kk mp k x hop;rw[hop]at hq;split at ht<;>try cases ht
   rename_i hnone;have hv:n∉ids ((Opd.t t).ev e):=h2 t ht0 (by rw[Option.isNone_iff_eq_none.1 hnone];simp);simp only[zc5,Option.map_eq_some_iff,Prod.mk.injEq]at hq;obtain⟨m1,hq,_,rfl⟩:=hq
   revert hv hq
   generalize(Opd.t t).ev e=w;intro hv hq;unfold zjz at hq;split at hq<;>try cases hq
   split at hq<;>try cases hq
   split at hq<;>try cases hq
   simp only[Option.map_eq_some_iff]at hq;obtain⟨es,_,rfl⟩:=hq;exact za9 _ _ _ _ (λe=>hv (by simp[ids,e]))
  cases ht
 unfold zey at h
 split at h
 ·exact key _ h
 split at h
 ·split at h
  ·exact key _ h
  simp only[Option.some.injEq,Prod.mk.injEq]at h;rw[h.2]
 ·simp only[Option.some.injEq,Prod.mk.injEq]at h;rw[h.2]
 cases h
structure y0a [Clk](oc:zel)(gl:Globs)(ops:Array Oper)(cos:List CO)(M:Nat->Mem)(W:Nat->V)(e:Env)(s0:S)(A0:Act)(listed:Array Bool)(A:Act)(s:S):Prop where
 size:listed.size=cos.length
 closed:ytn ops (λi=>listed.getD i false=true)
 sim:Sim oc gl s
 ext:Ext (λ_=>True) s0 s
 mem:∀n:Id,∃k,k<=cos.length/\look s.m n=look (M k) n/\(∀j,j<k->look (M (j+1)) n≠look (M j) n->listed.getD j false=true)/\(∀j,k<=j->j<cos.length->look (M (j+1)) n≠look (M j) n->listed.getD j false=false)
 env1:∀(i:Nat)(c:CO)(t:Nat),cos[i]?=some c->listed.getD i false=true->c.dst=some t->VR s (W i) (A.tmps.getD t undef)
 env2:∀t,(∀(i:Nat)(c:CO),cos[i]?=some c->listed.getD i false=true->c.dst≠some t)->VR s (get e t) (A.tmps.getD t undef)
 tmps:A.tmps.size=A0.tmps.size/\A.defers=A0.defers
theorem zmm{listed:Array Bool}{i j:Nat}(h:i<listed.size):(listed.setIfInBounds i true).getD j false=(decide (i=j)||listed.getD j false):=by
 rw[Array.getD_eq_getD_getElem?,Array.getElem?_setIfInBounds,Array.getD_eq_getD_getElem?]
 by_cases e:i=j
 ·subst e;simp[h]
 simp[e]
theorem ynd [Clk]{F:Oracle}(hF:Good P oc gl F)(r:Option Nat)(cx:Cx){nt:Nat}{ops:Array Oper}{cos:List CO}(hok:zq0 P gl nt ops cos ops.toList=true){chk:List (Nat×Nat)}(hd:yto chk ops cos)
  {E:Nat->Env}{M:Nat->Mem}{W:Nat->V}(hT:z23 F cx cos E M W)(hchk:yu5 (E cos.length) chk=true){s0:S}{A0:Act}(hnt:nt<=A0.tmps.size){Q:Exit->Act->World->Prop}
  (hQ:∀s' A',Sim oc gl s'->Ext (λ_=>True) s0 s'->s'.m=M cos.length->zc9 s' (E cos.length) A'.tmps->A'.tmps.size=A0.tmps.size->A'.defers=A0.defers->Q .normal A' s'.w):
  ∀(fuel:Nat)(listed:Array Bool)(A:Act)(s:S),listed.toList.countP (λb=>!b)<=fuel->y0a oc gl ops cos M W (E 0) s0 A0 listed A s->wpAnyIn (fen r) 0 P .any ops Q fuel listed A s.w:=by
 -- what stands under a name where nothing turns it
 have still:∀{n:Id}(a b:Nat),a<=b->(∀j,a<=j->j<b->look (M (j+1)) n=look (M j) n)->look (M b) n=look (M a) n:=by
  intro n a b hab;induction hab with
  |refl=>exact λ_=>rfl
  |step hab ih=>exact λh=>(h _ hab (Nat.lt_succ_self _)).trans (ih λj h1 h2=>h j h1 (Nat.lt_succ_of_lt h2))
 -- what keeps an object, or does not touch it
 have stay:∀{n:Id}{o:Ob}(a b:Nat),a<=b->b<=cos.length->(∀j d,a<=j->j<b->cos[j]?=some d->look (M (j+1)) n=look (M j) n\/cls d.op=3\/(cls d.op=4/\∃t∈z8g d.op,n∈ids (get (E j) t)))->look (M a) n=some o->look (M b) n=some o:=by
  intro n o a b hab;induction hab with
  |refl=>exact λ_ _ h=>h
  |step hab ih=>
   rename_i b;intro hb hk h0;obtain⟨d,hdd⟩:∃d,cos[b]?=some d:=⟨_,List.getElem?_eq_getElem (by omega)⟩
   have h1:=ih (by omega) (λj d h1 h2=>hk j d h1 (by omega)) h0
   rcases hk b d hab (Nat.lt_succ_self _) hdd with h|h|⟨h,t,ht,hn⟩
   ·rw[h];exact h1
   ·exact yhy h (hT.val b d hdd) n o h1
   rw[yby h (hT.val b d hdd) t ht n hn];exact h1
 have loudC:∀{n:Id}{j:Nat}{d:CO},cos[j]?=some d->look (M (j+1)) n≠look (M j) n->2<=cls d.op:=by
  intro n j d hj hn
  rcases Nat.lt_or_ge (cls d.op) 2 with h|h
  ·exact absurd (by rw[yu1 (by omega) (hT.val j d hj)]) hn
  exact h
 -- a pure allocation turns no other name than one of its own
 have pureN:∀{n:Id}{j:Nat}{d:CO},cos[j]?=some d->zkc d=true->look (M (j+1)) n≠look (M j) n->n.slot=d.dst.getD 0:=by
  intro n j d hj hp hn;simp only[zkc,Bool.and_eq_true]at hp;have hv:=hT.val j d hj
  have key:∀v m',zc5 F cx (d.dst.getD 0) (E j) (M j) d.op=some (v,m')->m'=M (j+1)->n.slot=d.dst.getD 0:=by
   intro v m' h e;exact(yjh hp.1 h).1 n (by rw[e];exact hn)
  unfold zey at hv
  split at hv
  ·exact key _ _ hv rfl
  split at hv
  ·split at hv
   ·exact key _ _ hv rfl
   simp only[Option.some.injEq,Prod.mk.injEq]at hv;exact absurd (by rw[<-hv.2]) hn
  ·simp only[Option.some.injEq,Prod.mk.injEq]at hv;exact absurd (by rw[<-hv.2]) hn
  cases hv
 -- what the region's end tells of two operations
 have apartN:∀{n:Id}{i j:Nat}{c d:CO},cos[i]?=some c->cos[j]?=some d->zpv chk cos i j c d=true->(∀x,yx8 c.op=some x->n∈ids (get (E i) x))->look (M (j+1)) n=look (M j) n:=by
  intro n i j c d hc hj hap hn0;have hin:i<cos.length:=(List.getElem?_eq_some_iff.1 hc).1;have hjn:j<cos.length:=(List.getElem?_eq_some_iff.1 hj).1;unfold zpv at hap
  by_cases hqd:yos d.op=true
  ·rw[yse hqd (hT.val j d hj)]
  have hqf:yos d.op=false:=by simpa using hqd
  rw[hqf,Bool.and_false,Bool.false_or]at hap
  split at hap
  ·rename_i x t hx ht;simp only[Bool.and_eq_true,List.elem_eq_mem,decide_eq_true_eq,List.all_eq_true,bne_iff_ne,Bool.or_eq_true,beq_iff_eq]at hap;obtain⟨⟨⟨hmem,h1⟩,h2⟩,h3⟩:=hap;have hn:=hn0 x hx;rw[<-hT.same x i cos.length (by omega) (Nat.le_refl _) λk y hk hkn hy he=>h1 y (List.mem_of_getElem? (i:=k-i) (by rw[List.getElem?_drop,show i+(k-i)=k by omega];exact hy)) he]at hn
   have hno:n∉ids (get (E cos.length) t):=by
    have:∀l:List (Nat×Nat),yu5 (E cos.length) l=true->(x,t)∈l->∀i∈ids (get (E cos.length) x),i∉ids (get (E cos.length) t):=by
     intro l;induction l with
     |nil=>intro _ h;cases h
     |cons p r ih=>
      obtain⟨a,b⟩:=p;intro hd hm;simp only[yu5,Bool.and_eq_true,List.all_eq_true,Bool.not_eq_true',List.elem_eq_mem,decide_eq_false_iff_not]at hd
      rcases List.mem_cons.1 hm with e|hm
      ·cases e;exact hd.1
      exact ih hd.2 hm
    exact this chk hchk hmem n hn
   have hend:get (E cos.length) t=get (E (j+1)) t:=hT.same t (j+1) cos.length (by omega) (Nat.le_refl _) λk y hk hkn hy he=>h2 y (List.mem_of_getElem? (i:=k-(j+1)) (by rw[List.getElem?_drop,show j+1+(k-(j+1))=k by omega];exact hy)) he
   rw[hend]at hno;have hv:=hT.val j d hj;have hE:=hT.env j d hj
   refine ywq hv (λt' ht'=>?_) (λt' ht' hd'=>?_) (by rw[ht];rfl)
   ·rw[ht]at ht';obtain rfl:=Option.some.inj ht'
    exact λhd'=>by
     rw[hE,hd']at hno;rw[show get (put? (E j) (some t) (W j)) t=W j from zk3 _ _ _]at hno;exact hno
   rw[ht]at ht';obtain rfl:=Option.some.inj ht'
   rcases h3 with h3|h3
   ·rw[hE,h3]at hno;exact hno
   exact absurd h3 hd'
  cases hap
 -- when nothing is ready, all has been run
 have alldone:∀(listed:Array Bool)(A:Act)(s:S),y0a oc gl ops cos M W (E 0) s0 A0 listed A s->Region.ready .any ops listed=[]->Q .normal A s.w:=by
  intro listed A s hI hr
  have all:∀i,i<cos.length->listed.getD i false=true:=by
   intro i;induction i using Nat.strongRecOn with
   |ind i ih=>
    intro hi;cases hl:listed.getD i false with
    |true=>rfl
    |false=>
     obtain⟨o,ho⟩:∃o,ops[i]?=some o:=⟨_,Array.getElem?_eq_getElem (by rw[<-hd.len];exact hi)⟩
     have:i∈Region.ready .any ops listed:=by
      refine mem_ready.2 ⟨?_,o,ho,λe he hb=>?_⟩
      ·have hlt:i<listed.size:=by rw[hI.size];exact hi
       rw[Array.getD_eq_getD_getElem?]at hl⊢;simp[hlt]at hl⊢;exact hl
      have hlt:=hd.edge i o e ho he hb;exact ih e.on hlt (by omega)
     rw[hr]at this;cases this
  obtain⟨q1,q2⟩:=hI.sim.again (m':=M cos.length) λn=>by
   obtain⟨k,hk,hm,h1,h2⟩:=hI.mem n;rw[hm];refine still k cos.length hk (λj hj hjn=>?_)
   by_cases hch:look (M (j+1)) n=look (M j) n
   ·exact hch
   have:=h2 j hj hjn hch;rw[all j hjn]at this;cases this
  refine hQ ⟨s.φ,M cos.length,s.w,s.Im⟩ A q1 (Ext.trans hI.ext q2 (λ_ _=>trivial)) rfl (λt=>VR.ext q2 _ _ (λ_ _=>trivial) ?_) hI.tmps.1 hI.tmps.2
  by_cases hex:∃(i:Nat)(c:CO),cos[i]?=some c/\c.dst=some t
  ·obtain⟨i,c,hc,hct⟩:=hex;have hi:i<cos.length:=(List.getElem?_eq_some_iff.1 hc).1;rw[hT.wrote hc hct (λk d hk hkt=>hd.uniq k i d c t hk hc hkt hct) hi (Nat.le_refl _)];exact hI.env1 i c t hc (all i hi) hct
  rw[hT.same t 0 cos.length (Nat.zero_le _) (Nat.le_refl _) λk c _ _ hc he=>hex ⟨k,c,hc,he⟩];exact hI.env2 t λi c hc _ he=>hex ⟨i,c,hc,he⟩
 intro fuel;induction fuel with
 |zero=>
  intro listed A s hcount hI
  have hr:Region.ready .any ops listed=[]:=by
   cases hr:Region.ready .any ops listed with
   |nil=>rfl
   |cons i q=>
    have hi:i∈Region.ready .any ops listed:=by rw[hr];simp
    have h0:=(mem_ready.1 hi).1
    have hlt:i<listed.size:=by
     rcases Nat.lt_or_ge i listed.size with h'|h'
     ·exact h'
     rw[Array.getD_eq_getD_getElem?,Array.getElem?_eq_none h']at h0;cases h0
    have hf:listed[i]=false:=by rw[Array.getD_eq_getD_getElem?]at h0;simpa[hlt]using h0
    have:0<listed.toList.countP (λb=>!b):=List.countP_pos_iff.2 ⟨listed[i],by simp,by simp[hf]⟩;omega
  exact⟨hr,alldone listed A s hI hr⟩
 |succ fuel ih=>
  intro listed A s hcount hI;refine⟨λhr=>alldone listed A s hI hr,λi hi=>?_⟩;obtain⟨h0,o,ho,hedges⟩:=mem_ready.1 hi;have hio:i<ops.size:=(Array.getElem?_eq_some_iff.1 ho).1;have hin:i<cos.length:=by rw[hd.len];exact hio
  have hlt:i<listed.size:=by rw[hI.size];exact hin
  have hf:listed[i]=false:=by rw[Array.getD_eq_getD_getElem?]at h0;simpa[hlt]using h0
  have hnl:listed.getD i false=false:=by rw[Array.getD_eq_getD_getElem?];simp[hlt,hf]
  obtain⟨c,hc⟩:∃c,cos[i]?=some c:=⟨_,List.getElem?_eq_getElem hin⟩
  have hco:=(yac cos ops.toList hok).2 i c o hc (by simpa using ho);obtain⟨hdst,hdlt⟩:=yab hco
  -- what stands before it has been run
  have before:∀j,j≠i->z2y ops i j->listed.getD j false=true:=by
   intro j hj hn
   have:=hn (λk=>k=i\/listed.getD k false=true) (λk o' e hk hp he hb=>by
    rcases hp with rfl|hp
    ·rw[ho]at hk;obtain rfl:=Option.some.inj hk;exact .inr (hedges e he hb)
    exact .inr (hI.closed k o' e hk hp he hb)) (.inl rfl)
   exact this.resolve_left hj
  have behind:∀j,z2y ops j i->listed.getD j false=true->False:=by
   intro j hn hj;have:=hn (λk=>listed.getD k false=true) hI.closed hj;rw[hnl]at this;cases this
  -- what it reads
  let e1:Env:=(E i).filter λp=>(zlu c).elem p.1
  have hread:∀t∈zlu c,get e1 t=get (E i) t:=by
   intro t ht
   have:∀(l:Env),get (l.filter λp=>(zlu c).elem p.1) t=get l t:=by
    intro l;induction l with
    |nil=>rfl
    |cons p l ihl=>
     obtain⟨u,v⟩:=p;rw[List.filter_cons]
     split
     ·simp only[get];rw[ihl]
     rename_i hu;have hne:u≠t:=λe=>hu (by subst e;simpa using ht)
     simp only[get,hne,if_false];exact ihl
   exact this _
  have hnread:∀t,t∉zlu c->get e1 t=.undef:=by
   intro t ht
   have:∀(l:Env),get (l.filter λp=>(zlu c).elem p.1) t=.undef:=by
    intro l;induction l with
    |nil=>rfl
    |cons p l ihl=>
     obtain⟨u,v⟩:=p;rw[List.filter_cons]
     split
     ·rename_i hu;have hne:u≠t:=λe=>ht (by subst e;simpa using hu)
      simp only[get,hne,if_false];exact ihl
     exact ihl
   exact this _
  have henv:zc9 s e1 A.tmps:=by
   intro t
   by_cases ht:t∈zlu c
   ·rw[hread t ht]
    by_cases hex:∃(j:Nat)(d:CO),cos[j]?=some d/\d.dst=some t
    ·obtain⟨j,d,hj,hjt⟩:=hex
     have late:i<=j->listed.getD j false=false->VR s (get (E i) t) (A.tmps.getD t undef):=by
      intro hij hjl
      rw[hT.same t 0 i (Nat.zero_le _) (by omega) λk d' _ hki hk he=>by
       have:=hd.uniq k j d' d t hk hj he hjt
       omega]
      refine hI.env2 t λk d' hk hkl he=>?_
      obtain rfl:=hd.uniq k j d' d t hk hj he hjt;rw[hjl]at hkl;cases hkl
     rcases hd.read i j c d t hc hj ht hjt with⟨hji,hn⟩|rfl|⟨hij,hn⟩
     ·rw[hT.wrote hj hjt (λk d' hk hkt=>hd.uniq k j d' d t hk hj hkt hjt) hji (by omega)];exact hI.env1 j d t hj (before j (by omega) hn) hjt
     ·exact late (Nat.le_refl _) hnl
     refine late (by omega) ?_;cases hjl:listed.getD j false with
     |false=>rfl
     |true=>exact(behind j hn hjl).elim
    rw[hT.same t 0 i (Nat.zero_le _) (by omega) λk d _ _ hk he=>hex ⟨k,d,hk,he⟩];exact hI.env2 t λj d hj _ he=>hex ⟨j,d,hj,he⟩
   rw[hnread t ht];trivial
  -- its memory
  have hval:=hT.val i c hc;rw[<-yfj c hread]at hval
  have npure:∀{d:CO},(cls c.op<=2\/cls c.op=4)->(zkc c&&zkc d)=false/\(zkc d&&zkc c)=false:=by
   intro d h
   have:zkc c=false:=by
    unfold zkc;cases hp:ygk c.op with
    |false=>rfl
    |true=>have:=yop hp;omega
   rw[this];simp
  have nodown:cls c.op≠0->∀(j:Nat)(d:CO),cos[j]?=some d->2<=cls d.op->j<i->listed.getD j false=false->zmd cos c.op d.op=true\/(zkc c&&zkc d)=true\/zpv chk cos i j c d=true:=by
   intro hc0 j d hj hdl hji hjl;cases hp:zmd cos c.op d.op with
   |true=>exact .inl rfl
   |false=>
    cases hq:(zkc c&&zkc d)with
    |true=>exact .inr (.inl rfl)
    |false=>
     cases hr:zpv chk cos i j c d with
     |true=>exact .inr (.inr rfl)
     |false=>rw[before j (by omega) (hd.loud i j c d hc hj hji hc0 (by omega) hp hq hr (zge hdl))]at hjl;cases hjl
  have noup:cls c.op≠0->∀(j:Nat)(d:CO),cos[j]?=some d->2<=cls d.op->i<=j->listed.getD j false=true->zmd cos d.op c.op=true\/(zkc d&&zkc c)=true\/zpv chk cos i j c d=true:=by
   intro hc0 j d hj hdl hij hjl
   rcases Nat.lt_or_ge i j with h|h
   ·cases hp:zmd cos d.op c.op with
    |true=>exact .inl rfl
    |false=>
     cases hq:(zkc d&&zkc c)with
     |true=>exact .inr (.inl rfl)
     |false=>
      cases hr:zpv chk cos i j c d with
      |true=>exact .inr (.inr rfl)
      |false=>exact(behind j (hd.loud j i d c hj hc h (by omega) hc0 hp hq (zge hdl) hr) hjl).elim
   obtain rfl:i=j:=by omega
   rw[hnl]at hjl;cases hjl
  have hpass:∀x y:COp,zmd cos x y=true->(cls y=1/\cls x=1)\/(cls y=1/\cls x=3)\/(cls y=3/\cls x=1/\zyt [] x=[])\/(cls y=1/\cls x=4/\zxa cos y x=true)\/(cls y=4/\cls x=1/\zxa cos x y=true):=by
   intro x y h;simp only[zmd,Bool.or_eq_true,Bool.and_eq_true,beq_iff_eq,List.isEmpty_iff]at h
   rcases h with(((h|h)|h)|h)|h
   ·exact .inl h
   ·exact .inr (.inl h)
   ·exact .inr (.inr (.inl ⟨h.1.1,h.1.2,h.2⟩))
   ·exact .inr (.inr (.inr (.inl ⟨h.1.1,h.1.2,h.2⟩)))
   exact .inr (.inr (.inr (.inr ⟨h.1.1,h.1.2,h.2⟩)))
  -- what a zxa load asks for
  have hguard:∀w:COp,zxa cos c.op w=true->zyt [] c.op=[]/\∀n∈zyt e1 c.op,∀j,j<=cos.length->∃t∈z8g w,n∈ids (get (E j) t):=by
   intro w hw;unfold zxa at hw
   split at hw
   ·rename_i a hop;simp only[Bool.and_eq_true,List.elem_eq_mem,decide_eq_true_eq,List.all_eq_true,bne_iff_ne]at hw
    have hra:a∈zlu c:=by
     have:=(zzj hop []).1;unfold zlu;split<;>simp[this]
    have hnw:∀(k':Nat)(d:CO),cos[k']?=some d->d.dst≠some (z3b cos a):=λk' d hd'=>hw.2 d (List.mem_of_getElem? hd')
    rw[(zzj hop []).2,(zzj hop e1).2];refine⟨rfl,λn hn j hj=>⟨z3b cos a,hw.1,?_⟩⟩;have hn':n∈ids (get e1 a):=hn;rw[hread a hra]at hn'
    have hb:n∈ids (get (E 0) (z3b cos a)):=by
     have one:∀(i:Nat)(c:CO)(a:Nat),cos[i]?=some c->a∈zlu c->n∈ids (get (E i) a)->∃(j:Nat)(x:CO),cos[j]?=some x/\ybo cos a∈zlu x/\n∈ids (get (E j) (ybo cos a)):=by
      intro i c a hc ha hn
      rcases yeu cos a hc ha with e|⟨j0,x,h1,h2,h3,h4,h5⟩
      ·exact⟨i,c,hc,by rw[e];exact ha,by rw[e];exact hn⟩
      have hi:=(List.getElem?_eq_some_iff.1 hc).1;rw[hT.wrote h2 h3 (λk' d' hk hkt=>hd.uniq k' j0 d' x a hk h2 hkt h3) h1 (by omega)]at hn;refine⟨j0,x,h2,?_,ynh h4 h5 (hT.val j0 x h2) n hn⟩;have:=z9r h5;unfold zlu;split<;>simp[this]
     obtain⟨j1,x1,g1,g2,g3⟩:=one i c a hc hra hn';obtain⟨j2,x2,g4,g5,g6⟩:=one j1 x1 _ g1 g2 g3;obtain⟨j3,x3,g7,g8,g9⟩:=one j2 x2 _ g4 g5 g6;have hj3:=(List.getElem?_eq_some_iff.1 g7).1;rw[<-hT.same (z3b cos a) 0 j3 (Nat.zero_le _) (by omega) λk' d _ _ hd'=>hnw k' d hd'];exact g9
    rw[hT.same (z3b cos a) 0 j (Nat.zero_le _) hj λk' d _ _ hd'=>hnw k' d hd'];exact hb
   cases hw
  have loudly:∀x y:COp,2<=cls x->2<=cls y->zmd cos x y=false:=by
   intro x y hx hy;cases hp:zmd cos x y with
   |false=>rfl
   |true=>have:=hpass x y hp;omega
  -- the world as it is, memory listed so that the text's step fits
  obtain⟨s1,hw1,hsim1,hext1,m',hev,hmem'⟩:∃s1:S,s1.w=s.w/\Sim oc gl s1/\Ext (λ_=>True) s s1/\∃m',zey F cx e1 s1.m c=some (W i,m')/\
    ∀n:Id,∃k,k<=cos.length/\look m' n=look (M k) n/\(∀j,j<k->look (M (j+1)) n≠look (M j) n->j=i\/listed.getD j false=true)/\(∀j,k<=j->j<cos.length->look (M (j+1)) n≠look (M j) n->j≠i/\listed.getD j false=false):=by
   rcases Nat.lt_or_ge (cls c.op) 2 with hc2|hc2
   ·have hsame:zey F cx e1 s.m c=some (W i,s.m):=by
     by_cases hc0:cls c.op=0
     ·exact(yzo hc0 hval).2 s.m
     have hc1:cls c.op=1:=by omega
     have nopure:∀(d:CO),(zkc c&&zkc d)≠true/\(zkc d&&zkc c)≠true:=λd=>by
      rw[(npure (d:=d) (.inl (by omega))).1,(npure (d:=d) (.inl (by omega))).2];simp
     have hrd:∀n∈zyt e1 c.op,∀x,yx8 c.op=some x->n∈ids (get (E i) x):=by
      intro n hn x hx;have h1:=yji hx e1;rw[h1.2.1]at hn;rw[hread x (by unfold zlu;split<;>simp[h1.1])]at hn;exact hn
     refine ykm (λn hn o hl=>?_) hc1 hval;obtain⟨k,hk,hm,hk1,hk2⟩:=hI.mem n;rw[hm]
     rcases Nat.le_total i k with h|h
     ·refine stay i k h hk (λj d h1 h2 hj=>?_) hl
      by_cases hch:look (M (j+1)) n=look (M j) n
      ·exact .inl hch
      have hdl:=loudC hj hch
      have hmp:zmd cos d.op c.op=true:=by
       rcases noup hc0 j d hj hdl h1 (hk1 j h2 hch)with h|h|h
       ·exact h
       ·exact absurd h (nopure d).2
       exact absurd (apartN hc hj h (hrd n hn)) hch
      rcases hpass _ _ hmp with h|h|h|h|h
      ·omega
      ·exact .inr (.inl h.2)
      ·omega
      ·exact .inr (.inr ⟨h.2.1,(hguard d.op h.2.2).2 n hn j (by omega)⟩)
      omega
     by_cases hloud:∃(j:Nat)(d:CO),k<=j/\j<i/\cos[j]?=some d/\look (M (j+1)) n≠look (M j) n
     ·have pass:∀(j:Nat)(d:CO),k<=j->j<i->cos[j]?=some d->look (M (j+1)) n≠look (M j) n->zmd cos c.op d.op=true:=λj d h1 h2 hj hch=>by
       rcases nodown hc0 j d hj (loudC hj hch) h2 (hk2 j h1 (by omega) hch)with h|h|h
       ·exact h
       ·exact absurd h (nopure d).1
       exact absurd (apartN hc hj h (hrd n hn)) hch
      have hclosed:zyt [] c.op=[]:=by
       obtain⟨j,d,h1,h2,hj,hch⟩:=hloud;have hdl:=loudC hj hch
       rcases hpass _ _ (pass j d h1 h2 hj hch)with h|h|h|h|h
       ·omega
       ·omega
       ·exact h.2.2
       ·omega
       exact(hguard d.op h.2.2).1
      obtain⟨o',ho'⟩:∃o',look (M k) n=some o':=by
       rw[<-hm]
       rcases yk0 hn with⟨t,_,hi⟩|hi
       ·exact z81 s _ _ (henv t) n hi
       rw[hclosed]at hi;simp at hi
      have:=stay k i h (by omega) (λj d h1 h2 hj=>by
       by_cases hch:look (M (j+1)) n=look (M j) n
       ·exact .inl hch
       have hdl:=loudC hj hch
       rcases hpass _ _ (pass j d h1 h2 hj hch)with h|h|h|h|h
       ·omega
       ·omega
       ·exact .inr (.inl h.1)
       ·omega
       exact .inr (.inr ⟨h.1,(hguard d.op h.2.2).2 n hn j (by omega)⟩)) ho'
      rw[hl]at this;rw[ho',this]
     rw[<-still k i h λj h1 h2=>?_]
     ·exact hl
     by_cases hch:look (M (j+1)) n=look (M j) n
     ·exact hch
     exact absurd ⟨j,cos[j]'(by omega),h1,h2,List.getElem?_eq_getElem (by omega),hch⟩ hloud
    refine⟨s,rfl,hI.sim,Ext.refl _ _,s.m,hsame,λn=>?_⟩;obtain⟨k,hk,hm,hk1,hk2⟩:=hI.mem n;refine⟨k,hk,hm,λj hj hch=>.inr (hk1 j hj hch),λj hj hjn hch=>⟨?_,hk2 j hj hjn hch⟩⟩;rintro rfl;have:=loudC hc hch;omega
   ·have hc0:cls c.op≠0:=by omega
    by_cases hpc:zkc c=true
    ·--a new object:its name is the text's
     have order:∀(n:Id)(j:Nat)(d:CO),cos[j]?=some d->j≠i->look (M (j+1)) n≠look (M j) n->n.slot=c.dst.getD 0->(j<i->listed.getD j false=true)/\(i<j->listed.getD j false=false):=by
      intro n j d hj hji hch hns;have hdl:=loudC hj hch
      have hnp:zkc d=false:=by
       cases hp:zkc d with
       |false=>rfl
       |true=>
        exfalso;have:=pureN hj hp hch;rw[this]at hns;simp only[zkc,Bool.and_eq_true,Option.isSome_iff_exists]at hp hpc;obtain⟨_,t,ht⟩:=hp;obtain⟨_,u,hu⟩:=hpc;simp only[ht,hu,Option.getD_some]at hns;subst hns;exact hji (hd.uniq j i d c t hj hc ht hu)
      refine⟨λh=>before j hji (hd.loud i j c d hc hj h hc0 (by omega) (loudly _ _ hc2 hdl) (by rw[hnp,Bool.and_false]) (zge hc2) (zge hdl)),λh=>?_⟩;cases hl:listed.getD j false with
      |false=>rfl
      |true=>exact(behind j (hd.loud j i d c hj hc h (by omega) hc0 (loudly _ _ hdl hc2) (by rw[hnp,Bool.false_and]) (zge hdl) (zge hc2)) hl).elim
     have sameSlot:∀n:Id,n.slot=c.dst.getD 0->look s.m n=look (M i) n:=by
      intro n hns;obtain⟨k,hk,hm,hk1,hk2⟩:=hI.mem n;rw[hm]
      rcases Nat.le_total i k with h|h
      ·refine still i k h λj h1 h2=>?_
       by_cases hch:look (M (j+1)) n=look (M j) n
       ·exact hch
       have hjl:=hk1 j h2 hch;have hji:j≠i:=by rintro rfl;rw[hnl]at hjl;cases hjl
       have:=(order n j _ (List.getElem?_eq_getElem (by omega)) hji hch hns).2 (by omega);rw[hjl]at this;cases this
      refine(still k i h λj h1 h2=>?_).symm
      by_cases hch:look (M (j+1)) n=look (M j) n
      ·exact hch
      have hjl:=hk2 j h1 (by omega) hch;have:=(order n j _ (List.getElem?_eq_getElem (by omega)) (by omega) hch hns).1 h2;rw[hjl]at this;cases this
     have hpa:ygk c.op=true:=by
      simp only[zkc,Bool.and_eq_true]at hpc;exact hpc.1
     have hstep:∃m',zey F cx e1 s.m c=some (W i,m')/\∀n,(look m' n=look s.m n/\look (M (i+1)) n=look (M i) n)\/(n.slot=c.dst.getD 0/\look m' n=look (M (i+1)) n):=by
      have key:zc5 F cx (c.dst.getD 0) e1 (M i) c.op=some (W i,M (i+1))->∃m',zc5 F cx (c.dst.getD 0) e1 s.m c.op=some (W i,m')/\∀n,(look m' n=look s.m n/\look (M (i+1)) n=look (M i) n)\/(n.slot=c.dst.getD 0/\look m' n=look (M (i+1)) n):=by
       intro h;exact(yjh hpa h).2 s.m λn _ hn=>sameSlot n hn
      have skip:(∀m2,zey F cx e1 m2 c=some (V.skip,m2))->∃m',zey F cx e1 s.m c=some (W i,m')/\∀n,(look m' n=look s.m n/\look (M (i+1)) n=look (M i) n)\/(n.slot=c.dst.getD 0/\look m' n=look (M (i+1)) n):=by
       intro h;rw[h]at hval;simp only[Option.some.injEq,Prod.mk.injEq]at hval;exact⟨s.m,by rw[h,hval.1],λn=>.inl ⟨rfl,by rw[hval.2]⟩⟩
      have run:(∀m2,zey F cx e1 m2 c=zc5 F cx (c.dst.getD 0) e1 m2 c.op)->∃m',zey F cx e1 s.m c=some (W i,m')/\∀n,(look m' n=look s.m n/\look (M (i+1)) n=look (M i) n)\/(n.slot=c.dst.getD 0/\look m' n=look (M (i+1)) n):=by
       intro h;rw[h]at hval;obtain⟨m',k1,k2⟩:=key hval;exact⟨m',(h _).trans k1,k2⟩
      cases hg:c.guard with
      |none=>exact run λm2=>by simp only[zey,hg]
      |some p=>
       obtain⟨t,w⟩:=p;cases hb:get e1 t with
       |skip=>exact skip λm2=>by simp only[zey,hg,hb]
       |d x=>
        cases x with
        |bool b=>
         by_cases hbw:b=w
         ·exact run λm2=>by simp only[zey,hg,hb,if_pos hbw]
         exact skip λm2=>by simp only[zey,hg,hb,if_neg hbw]
        |_=>simp[zey,hg,hb]at hval
       |_=>simp[zey,hg,hb]at hval
     obtain⟨m',hev,hlk⟩:=hstep;refine⟨s,rfl,hI.sim,Ext.refl _ _,m',hev,λn=>?_⟩
     rcases hlk n with⟨h1,h2⟩|⟨hns,h1⟩
     ·obtain⟨k,hk,hm,hk1,hk2⟩:=hI.mem n;refine⟨k,hk,h1.trans hm,λj hj hch=>.inr (hk1 j hj hch),λj hj hjn hch=>⟨?_,hk2 j hj hjn hch⟩⟩;rintro rfl;exact hch h2
     refine⟨i+1,by omega,h1,λj hj hch=>?_,λj hj hjn hch=>⟨by omega,?_⟩⟩
     ·by_cases hji:j=i
      ·exact .inl hji
      exact .inr ((order n j _ (List.getElem?_eq_getElem (by omega)) hji hch hns).1 (by omega))
     exact(order n j _ (List.getElem?_eq_getElem hjn) (by omega) hch hns).2 (by omega)
    --all that turns memory before it has been run,nothing behind it
    have hnp:zkc c=false:=Bool.eq_false_iff.2 hpc
    have order:∀(n:Id)(j:Nat)(d:CO),cos[j]?=some d->j≠i->look (M (j+1)) n≠look (M j) n->(j<i->listed.getD j false=true)/\(i<j->listed.getD j false=false):=by
     intro n j d hj hji hch;have hdl:=loudC hj hch;refine⟨λh=>before j hji (hd.loud i j c d hc hj h hc0 (by omega) (loudly _ _ hc2 hdl) (by rw[hnp,Bool.false_and]) (zge hc2) (zge hdl)),λh=>?_⟩;cases hl:listed.getD j false with
     |false=>rfl
     |true=>exact(behind j (hd.loud j i d c hj hc h (by omega) hc0 (loudly _ _ hdl hc2) (by rw[hnp,Bool.and_false]) (zge hdl) (zge hc2)) hl).elim
    obtain⟨q1,q2⟩:=hI.sim.again (m':=M i) λn=>by
     obtain⟨k,hk,hm,hk1,hk2⟩:=hI.mem n;rw[hm]
     rcases Nat.le_total i k with h|h
     ·refine(still i k h λj h1 h2=>?_).symm
      by_cases hch:look (M (j+1)) n=look (M j) n
      ·exact hch
      have hjl:=hk1 j h2 hch;have hji:j≠i:=by rintro rfl;rw[hnl]at hjl;cases hjl
      have:=(order n j _ (List.getElem?_eq_getElem (by omega)) hji hch).2 (by omega);rw[hjl]at this;cases this
     refine still k i h λj h1 h2=>?_
     by_cases hch:look (M (j+1)) n=look (M j) n
     ·exact hch
     have hjl:=hk2 j h1 (by omega) hch;have:=(order n j _ (List.getElem?_eq_getElem (by omega)) (by omega) hch).1 h2;rw[hjl]at this;cases this
    refine⟨⟨s.φ,M i,s.w,s.Im⟩,rfl,q1,q2,M (i+1),hval,λn=>⟨i+1,by omega,rfl,λj hj hch=>?_,λj hj hjn hch=>⟨by omega,?_⟩⟩⟩
    ·by_cases hji:j=i
     ·exact .inl hji
     exact .inr ((order n j _ (List.getElem?_eq_getElem (by omega)) hji hch).1 (by omega))
    exact(order n j _ (List.getElem?_eq_getElem hjn) (by omega) hch).2 (by omega)
  rw[<-hw1];have henv1:zc9 s1 e1 A.tmps:=λt=>VR.ext hext1 _ _ (λ_ _=>trivial) (henv t)
  refine yaz hF hsim1 henv1 r cx (by rw[hI.tmps.1];exact hnt) ho hco hev λs' x q1 q2' q3 q4=>?_
  have q2:=Ext.trans hext1 q2' (λ_ _=>trivial);have hsz:=zia A o.dst x
  refine ih (listed.setIfInBounds i true) (A.put o.dst x) s' ?_ ⟨by simpa using hI.size,λj o' e hj hp he hb=>?_,q1,Ext.trans hI.ext q2 (λ_ _=>trivial),λn=>?_,
   λj d t hj hl hdt=>?_,λt hno=>?_,⟨hsz.1.trans hI.tmps.1,hsz.2.trans hI.tmps.2⟩⟩
  ·rw[Array.toList_setIfInBounds,List.countP_set (by simpa using hlt)];have hpos:0<listed.toList.countP (λb=>!b):=List.countP_pos_iff.2 ⟨listed[i],by simp,by simp[hf]⟩;simp only[Array.getElem_toList,hf,Bool.not_false,Bool.not_true,if_true,Bool.false_eq_true,if_false];omega
  ·simp only[zmm hlt,Bool.or_eq_true,decide_eq_true_eq]at hp⊢
   rcases hp with rfl|hp
   ·rw[ho]at hj;obtain rfl:=Option.some.inj hj;exact .inr (hedges e he hb)
   exact .inr (hI.closed j o' e hj hp he hb)
  ·obtain⟨k,hk,hmk,hka,hkb⟩:=hmem' n
   refine⟨k,hk,by rw[q3];exact hmk,λj hj hch=>?_,λj hj hjn hch=>?_⟩
   ·simp only[zmm hlt,Bool.or_eq_true,decide_eq_true_eq];exact(hka j hj hch).imp Eq.symm id
   obtain⟨h1,h2⟩:=hkb j hj hjn hch;rw[zmm hlt,h2,decide_eq_false (Ne.symm h1)];rfl
  ·simp only[zmm hlt,Bool.or_eq_true,decide_eq_true_eq]at hl
   by_cases e:i=j
   ·subst e;rw[hc]at hj;obtain rfl:=Option.some.inj hj;have hot:o.dst=some t:=hdst▸hdt;rw[hot,znl A t x (by have:=hdlt t hdt;rw[hI.tmps.1];omega) t];simpa using q4
   have hl:=hl.resolve_left e;have hv:=VR.ext q2 _ _ (λ_ _=>trivial) (hI.env1 j d t hj hl hdt);cases hod:o.dst with
   |none=>exact hv
   |some u=>
    have hu:c.dst=some u:=hdst.trans hod;have hne:u≠t:=λe'=>e (hd.uniq i j c d t hc hj (by rw[hu,e']) hdt)
    rw[znl A u x (by have:=hdlt u hu;rw[hI.tmps.1];omega) t];simpa[hne]using hv
  have hv:=VR.ext q2 _ _ (λ_ _=>trivial) (hI.env2 t λj d hj hl=>hno j d hj (by simp[zmm hlt,hl]));cases hod:o.dst with
  |none=>exact hv
  |some u=>
   have hu:c.dst=some u:=hdst.trans hod;have hne:u≠t:=λe'=>hno i c hc (by simp[zmm hlt]) (by rw[hu,e'])
   rw[znl A u x (by have:=hdlt u hu;rw[hI.tmps.1];omega) t];simpa[hne]using hv
theorem yd2 [Clk]{F:Oracle}(hF:Good P oc gl F)(hm:P.follows .mixedOrders=true)(r:Option Nat)(cx:Cx){nt:Nat}{ops:Array Oper}{cos:List CO}(draw:Bool)(id:Nat)(hok:zq0 P gl nt ops cos ops.toList=true){chk:List (Nat×Nat)}
  {e e':Env}(hdr:draw=true->yc3 chk ops cos=true/\yu5 e' chk=true){m':Mem}{s:S}{A:Act}(h:zjb F cx cos e s.m=some (e',m'))(hs:Sim oc gl s)(he:zc9 s e A.tmps)(hnt:nt<=A.tmps.size){Q:Exit->Act->World->Prop}
  (hQ:∀s' A',Sim oc gl s'->Ext (λ_=>True) s s'->s'.m=m'->zc9 s' e' A'.tmps->A'.tmps.size=A.tmps.size->A'.defers=A.defers->Q .normal A' s'.w):
  (Code.region id ops draw).wpIn (fen r) 0 P Q A s.w:=by
 cases draw with
 |false=>
  refine wpIn_region ?_;have:=yge hF r cx cos ops.toList 0 e e' m' s A (λk _=>by simp) hok h hs he hnt hQ;rw[List.range_eq_range'];simpa using this
 |true=>
  have hd:=ync hok (hdr rfl).1;obtain⟨E,M,W,hT,hE,hM,hE',hM'⟩:=ya4 cos e e' s.m m' h;refine wpIn_region_any hm ?_;obtain⟨k1,k2⟩:=hs.calm {s.w with drawn:=s.w.drawn+1} s.Im rfl Tk.of rfl (Nat.le_refl _) (λ_ _=>rfl) (λ_ _ h=>h) (λ_ _ h=>.inl h) hs.imlt
  have hsz:(Array.replicate ops.size false).toList.countP (λb=>!b)<=ops.size:=by
   refine Nat.le_trans List.countP_le_length ?_;simp
  have nol:∀i,(Array.replicate ops.size false).getD i false=false:=by
   intro i;rw[Array.getD_eq_getD_getElem?]
   by_cases h:i<ops.size
   ·simp[h]
   simp[h]
  refine ynd (Q:=Q) hF r cx hok hd hT (by rw[hE'];exact(hdr rfl).2) (s0:=s) (A0:=A) hnt (λs' A' q1 q2 q3 q4 q5 q6=>hQ s' A' q1 q2 (q3.trans hM') (hE'▸q4) q5 q6) ops.size _ A ⟨s.φ,s.m,{s.w with drawn:=s.w.drawn+1},s.Im⟩ hsz
   ⟨by simp[hd.len],λi o e _ hp=>absurd ((nol i).symm.trans hp) (by simp),k1,k2,λn=>⟨0,Nat.zero_le _,by rw[hM],λj h=>absurd h (Nat.not_lt_zero _),λj _ _ _=>nol j⟩,
    λi c t _ hp=>absurd ((nol i).symm.trans hp) (by simp),λt _=>?_,rfl,rfl⟩
  rw[hE];exact VR.ext k2 _ _ (λ_ _=>trivial) (he t)
end
def z0s:COp->Bool
 |.mv _=>true
 |.nilCheck _=>true
 |.fieldAddr ..=>true
 |.load ..=>true
 |.lookup ..=>true
 |.bin ..=>true
 |_=>false
def yxc [Clk](P:Program)(w:World)(kt:TypeId)(bm:Nat)(v:Value)(st:Nat):Prop:=
 ∃(ces:Array MapEntry)(clock j:Nat)(e0:MapEntry),w.heap[bm]?=some (.map ces clock)/\ces.toList[j]?=some e0/\e0.key=v/\e0.born=st/\(ces.toList.map (·.born)).Nodup/\(Instr.findKey kt v ces.toList).run P w=.ok (some (j,e0.val)) w
theorem z7j{same:Value->Option Bool}{v u:Value}{b:Nat}(hs:same v=some true):∀(q:List MapEntry)(i:Nat),zjc same q i=some none->zjc same (q++[{key:=v,val:=u,born:=b}]) i=some (some (i+q.length,u))
 |[],i,_=>by simp[zjc,hs]
 |e::q,i,h=>by
  simp only[zjc]at h
  split at h
  ·cases h
  ·rename_i he;simp only[List.cons_append,zjc,he];rw[z7j hs q (i+1) h,List.length_cons,show i+1+q.length=i+(q.length+1)by omega]
  cases h
theorem yci{l:List MapEntry}(hn:(l.map (·.born)).Nodup){j:Nat}{e0:MapEntry}(h:l[j]?=some e0):l.findIdx? (λe=>((e.born:Nat):Int)==((e0.born:Nat):Int))=some j:=by
 induction l generalizing j with
 |nil=>simp at h
 |cons a r ih=>
  simp only[List.map_cons,List.nodup_cons]at hn;cases j with
  |zero=>
   simp only[List.getElem?_cons_zero,Option.some.injEq]at h;subst h;simp[List.findIdx?_cons]
  |succ j=>
   simp only[List.getElem?_cons_succ]at h;have hne:a.born≠e0.born:=λe1=>hn.1 (List.mem_map.2 ⟨e0,List.mem_of_getElem? h,e1.symm⟩)
   have hb:(((a.born:Nat):Int)==((e0.born:Nat):Int))=false:=by
    simp only[beq_eq_false_iff_ne,ne_eq,Int.natCast_inj];exact hne
   rw[List.findIdx?_cons,hb];simp[ih hn.2 h]
theorem yf1{l:Array MapEntry}{j:Nat}{e0:MapEntry}{f:MapEntry->MapEntry}(h:l.toList[j]?=some e0)(hf:f e0=e0):l.modify j f=l:=by
 apply Array.ext';rw[Array.toList_modify];apply List.ext_getElem?;intro i;rw[List.getElem?_modify]
 by_cases e:j=i
 ·subst e;simp[h,hf]
 simp[e]
theorem yc1{l:Array MapEntry}{j:Nat}{e0:MapEntry}{f g:MapEntry->MapEntry}(h:l.toList[j]?=some e0)(hf:f e0=g e0):l.modify j f=l.modify j g:=by
 apply Array.ext';rw[Array.toList_modify,Array.toList_modify];apply List.ext_getElem?;intro i;rw[List.getElem?_modify,List.getElem?_modify]
 by_cases e:j=i
 ·subst e;simp[h,hf]
 simp[e]
theorem ypl{α:Type}{xs:Array α}{b:Nat}{x:α}(h:xs[b]?=some x):xs.setIfInBounds b x=xs:=by
 apply Array.ext_getElem?;intro i;rw[Array.getElem?_setIfInBounds]
 by_cases e:b=i
 ·subst e;rw[if_pos rfl,h];have:=(Array.getElem?_eq_some_iff.1 h).1;rw[if_pos this]
 rw[if_neg e]
section
variable{P:Program}{oc:zel}{gl:Globs}{s:S}{A:Act}{e:Env}{o:Oper}
theorem ylp [Clk](hs:Sim oc gl s)(he:zc9 s e A.tmps)(F:Oracle)(cx:Cx)(slot:Nat){op:COp}{v:V}{m':Mem}(hp:z0s op=true)(ok:yqt P gl o op=true)(h:zc5 F cx slot e s.m op=some (v,m')):m'=s.m/\zjl P s A o v:=by
 cases op<;>simp only[z0s,Bool.false_eq_true]at hp<;>simp only[yqt]at ok<;>simp only[zc5]at h
 case mv x=>
  simp only[Option.some.injEq,Prod.mk.injEq]at h;obtain⟨rfl,rfl⟩:=h;exact⟨rfl,ygv hs he ok⟩
 case nilCheck x=>exact zzd hs he ok h
 case load n a=>
  simp only[Option.map_eq_some_iff,Prod.mk.injEq]at h;obtain⟨cs,hf,rfl,rfl⟩:=h;exact⟨rfl,ydq hs he ok hf⟩
 case fieldAddr off x=>
  simp only[Option.map_eq_some_iff,Prod.mk.injEq]at h;obtain⟨cs,hf,rfl,rfl⟩:=h;exact⟨rfl,zwe hs he ok hf⟩
 case lookup kk z c m k=>
  simp only[Option.map_eq_some_iff,Prod.mk.injEq]at h;obtain⟨cs,hf,rfl,rfl⟩:=h;exact⟨rfl,z5s hs he ok hf⟩
 case bin op x y=>
  simp only[Option.map_eq_some_iff,Prod.mk.injEq]at h;obtain⟨cs,hf,rfl,rfl⟩:=h;exact⟨rfl,yjz hs he ok hf⟩
theorem yia{same:Value->Option Bool}{x:D}{v:Value}
  (hd:∀(y:D)(u:Value)(r:Bool),DR s.w s.Im y u->eqD x y=some r->same u=some r/\(r=true->v=u/\x=y)):
  ∀(es:List (D×V))(q:List MapEntry)(i:Nat)(y:V),zq4 s es q->zii x es=some (some y)->
   ∃j en,zjc same q i=some (some (i+j,en.val))/\q[j]?=some en/\en.key=v/\VR s y en.val
 |[],_,i,y,hm,h=>by simp[zii]at h
 |(k,z)::es,_,i,y,hm,h=>by
  obtain⟨en,q,rfl,_,hk,hy,hrest⟩:=hm;simp only[zii]at h
  split at h
  ·rename_i he;obtain rfl:=Option.some.inj (Option.some.inj h);obtain⟨h1,h2⟩:=hd k en.key true hk he;exact⟨0,en,by simp[zjc,h1],rfl,(h2 rfl).1.symm,hy⟩
  ·rename_i he;have h1:=(hd k en.key false hk he).1;obtain⟨j,en',k1,k2,k3,k4⟩:=yia hd es q (i+1) y hrest h;exact⟨j+1,en',by simp only[zjc,h1];rw[k1,show i+1+j=i+(j+1)by omega],by simpa using k2,k3,k4⟩
  cases h
theorem yrh{same:Value->Option Bool}{x:D}{v:Value}
  (hd:∀(y:D)(u:Value)(r:Bool),DR s.w s.Im y u->eqD x y=some r->same u=some r/\(r=true->v=u/\x=y))(es:List (D×V))(q:List MapEntry)(i:Nat)(y:V)(hm:zut s es q)(h:zii x es=some (some y)):
   ∃j en,zjc same q i=some (some (i+j,en.val))/\q[j]?=some en/\en.key=v/\VR s y en.val:=by
 rcases hm with hm|⟨hdk,hn,q',hp,hm⟩
 ·exact yia hd es q i y hm h
 rcases zyp hd es q' _ hdk hm h with⟨g1,_⟩|⟨y',en,g1,g2,g3,g4,g5,g6⟩
 ·cases g1
 obtain rfl:=Option.some.inj g1;obtain⟨j,k1,k2⟩:=zua g4 q i (λe he=>g6 e (hp.mem_iff.2 he)) hn en (hp.mem_iff.1 g2) g3;exact⟨j,en,k1,k2,g3,g5⟩
theorem yg2 [Clk](hs:Sim oc gl s)(he:zc9 s e A.tmps){kk:KK}{zero:D}{x key:Opd}{t:TypeId}{a b:Operand}(ho:o.op=.mapEntry t a b)(okx:okX gl a x=true)(okk:okX gl b key=true)
  {kt vt:TypeId}(hmt:mapP P t=some (kt,vt))(hkk:kkP P kt kk=true){z:Value}(hzz:(P.info? vt).bind (·.zero)=some z)(hz:zk2 zero z=true)
  {i:Id}{kd:D}{es:List (D×V)}(hx:x.ev e=.mp i)(hk:key.ev e=.d kd)(hl:look s.m i=some (.map es))(hkey:zjd kk kd=true){r:Option V}(hf:zii kd es=some r){es1:List (D×V)}(h1:r=none->setE kd (.d zero) es=some es1):
  ∃(s1:S)(v0:Value)(st bm:Nat),(execOp A.eval o).run P s.w=.ok (.value (.tuple #[v0,goInt st])) s1.w/\Sim oc gl s1/\Ext (λ_=>True) s s1/\s1.m=(if r.isSome then s.m else upd s.m i (.map es1))/\
   A.eval a=.map (some bm)/\yxc P s1.w kt bm (A.eval b) st:=by
 have hu:=z96 hmt;have hv1:=zbg hs he okx;have hv2:=zbg hs he okk;rw[hx]at hv1;rw[hk]at hv2;obtain⟨bm,ces,clock,hp,hh,hm,hst⟩:=hs.objs i _ hl
 have hxa:A.eval a=.map (some bm):=by
  have:=hv1.2;rw[hl]at this;exact this.trans hp
 obtain⟨same,hsame,hfind,hck⟩:=zyx hkk hkey hv2
 obtain⟨info,hinfo,hiz⟩:∃i,P.info? vt=some i/\i.zero=some z:=by
  simpa only[Option.bind_eq_some_iff]using hzz
 have hzr:∀w,(zeroValue vt).run P w=.ok z w:=λw=>by simp[zeroValue,typeInfo,hinfo,hiz]
 have hzd:VR s (.d zero) z:=zt5 _ _ _ _ hz;cases r with
 |none=>
  have hset:=h1 rfl;rcases z9s hsame es ces.toList 0 none hm hf with⟨_,hfn⟩|⟨y,j,u,hc,_,_⟩
  case inr=>cases hc
  rcases ypk hkey hv2 hsame (.d zero) z hzd es ces.toList 0 es1 hm hset with⟨k1,k2,k4⟩|⟨j,old,k1,k2,k3⟩
  case inr=>rw[hfn]at k1;cases k1
  have hlt:bm<s.w.heap.size:=(Array.getElem?_eq_some_iff.1 hh).1;have hst1:=hst.push (u:=z) k4;have hm1:zut s es1 (ces.push {key:=A.eval b,val:=z,born:=clock}).toList:=by simpa using k2 clock
  obtain⟨q1,q2⟩:=zu8 hs i (.map es) (.map es1) hl (by simp) bm (.map (some bm)) hp rfl _ (.map (ces.push {key:=A.eval b,val:=z,born:=clock}) (clock+1)) hh rfl rfl rfl
   (λhE=>⟨bm,_,clock+1,rfl,by simp[hlt],zut.ext hE es1 _ hm1,hst1⟩)
  refine⟨_,z,clock,bm,?_,q1,q2,rfl,hxa,?_⟩
  ·have hfk:=hfind _ _ k1;simp[execOp,ho,Instr.mapEntry,run_underlying hu,hxa,MapKept.run_getObj_map hh,hck,hfk,hzr,MapKept.run_setObj_map _ hh]
  refine⟨_,clock+1,ces.size,{key:=A.eval b,val:=z,born:=clock},by simp[hlt],by simp,rfl,rfl,hst1.2.1,?_⟩;have hv2':=VR.ext q2 (.d kd) _ (λ_ _=>trivial) hv2;obtain⟨same1,hsame1,hfind1,_⟩:=zyx hkk hkey hv2';have hm':=zut.ext q2 es _ hm;rcases z9s hsame1 es ces.toList 0 none hm' hf with⟨_,hfn1⟩|⟨y,j,u,hc,_,_⟩
  case inr=>cases hc
  have:=z7j (u:=z) (b:=clock) (hsame1 kd (A.eval b) true hv2' (z33 hkey)).1 ces.toList 0 hfn1;rw[Nat.zero_add,Array.length_toList]at this;refine hfind1 _ _ ?_;rw[Array.toList_push];exact this
 |some y=>
  obtain⟨j,en,k1,k2,k3,k4⟩:=yrh hsame es ces.toList 0 y hm hf;rw[Nat.zero_add]at k1;have hfk:=hfind _ _ k1
  have hold:((ces[j]?).map (·.key)).getD (A.eval b)=A.eval b:=by
   rw[<-Array.getElem?_toList,k2];exact k3
  have hborn:((ces[j]?).map (λx=>(x.born:Int))).getD 0=(en.born:Int):=by
   rw[<-Array.getElem?_toList,k2];rfl
  have hmod:ces.modify j (λe=>{e with key:=A.eval b})=ces:=yf1 k2 (by rw[<-k3]);refine⟨s,en.val,en.born,bm,?_,hs,Ext.refl _ _,rfl,hxa,ces,clock,j,en,hh,k2,k3,rfl,hst.2.1,hfk⟩;simp[execOp,ho,Instr.mapEntry,run_underlying hu,hxa,MapKept.run_getObj_map hh,hck,hfk,Instr.keyThatStays,hold,zun hkey hv2,MapKept.run_setObj_map _ hh,hmod,hborn,ypl hh]
theorem z15 [Clk](hs:Sim oc gl s)(he:zc9 s e A.tmps){kk:KK}{x key y:Opd}{m2:Mem}{t:TypeId}{a b c u:Operand}(ho:o.op=.entryStore t a u c)(ok:zp5 P gl {o with op:=.mapUpdate t a b c} kk x key y=true)
  (hm:zjz kk s.m (x.ev e) (key.ev e) (y.ev e)=some m2){kt vt:TypeId}(hmt:mapP P t=some (kt,vt)){bm st:Nat}(ha:A.eval a=.map (some bm))(hu':A.eval u=goInt st)(hE:yxc P s.w kt bm (A.eval b) st):ybf P oc gl s A o m2:=by
 obtain⟨s',hr,q1,q2,q3⟩:=z1d hs he ok hm;refine⟨s',?_,q1,q2,q3⟩;rw[<-hr];have hu:=z96 hmt;obtain⟨ces,clock,j,e0,hh,h1,h2,h3,h4,h5⟩:=hE
 obtain⟨kd,hkd,hkey,hkk⟩:∃kd,key.ev e=.d kd/\zjd kk kd=true/\kkP P kt kk=true:=by
  unfold zp5 at ok;simp only[Bool.and_eq_true,hmt]at ok;unfold zjz at hm;split at hm<;>try cases hm
  rename_i i kd _ hk;split at hm<;>try cases hm
  split at hm<;>try cases hm
  rename_i hc;simp only[Bool.and_eq_true]at hc;exact⟨kd,hk,hc.1,ok.2⟩
 have okk:okX gl b key=true:=by
  unfold zp5 at ok;simp only[Bool.and_eq_true]at ok;exact ok.1.1.2
 have hv2:=zbg hs he okk;rw[hkd]at hv2;obtain⟨same,_,_,hck⟩:=zyx hkk hkey hv2
 have hold:((ces[j]?).map (·.key)).getD (A.eval b)=A.eval b:=by
  rw[<-Array.getElem?_toList,h1];exact h2
 have hidx:ces.findIdx? (λe=>((e.born:Nat):Int)==(st:Int))=some j:=by
  have:ces.findIdx? (λe=>((e.born:Nat):Int)==(st:Int))=ces.toList.findIdx? (λe=>((e.born:Nat):Int)==(st:Int)):=by cases ces;simp
  rw[this,<-h3];exact yci h4 h1
 have hmod:ces.modify j (λe=>{e with val:=A.eval c})=ces.modify j (λe=>{e with key:=A.eval b,val:=A.eval c}):=yc1 h1 (by rw[<-h2])
 have e1:(execOp A.eval o).run P s.w=.ok .skip {s.w with heap:=s.w.heap.setIfInBounds bm (.map (ces.modify j λe=>{e with key:=A.eval b,val:=A.eval c}) clock)}:=by
  simp[execOp,ho,Instr.entryStore,ha,hu',MapKept.run_getObj_map hh,asInt,asIntOf,goInt,hidx,hmod,MapKept.run_setObj_map _ hh]
 have e2:(execOp A.eval {o with op:=.mapUpdate t a b c}).run P s.w=.ok .skip {s.w with heap:=s.w.heap.setIfInBounds bm (.map (ces.modify j λe=>{e with key:=A.eval b,val:=A.eval c}) clock)}:=by
  simp[execOp,Instr.mapUpdate,run_underlying hu,ha,MapKept.run_getObj_map hh,hck,h5,Instr.keyThatStays,hold,zun hkey hv2,MapKept.run_setObj_map _ hh]
 rw[e1,e2]
end
def yat:Opd->Nat->Bool
 |.t a,x=>a==x
 |_,_=>false
def ynx(kk:KK)(zero:D)(x key:Nat):COp->Bool
 |.mv _=>true
 |.bin ..=>true
 |.lookup k z c a b=>decide (k=kk)&&zk9 z zero&& !c&&yat a x&&yat b key
 |_=>false
def znn(o:Oper)(j:Nat):Bool:=o.after.toList.any λe=>Region.binds .any e&&e.on==j
def zlh(o:Oper)(i:Nat):Bool:=o.after.toList.all λe=>!Region.binds .any e||decide (e.on<i)
def yr8(P:Program)(gl:Globs)(nt:Nat)(pre:List CO)(d1 d2:Nat)(i:Nat)(c:CO)(o:Oper):Bool:=
 c.guard.isNone&&o.guard.isNone&&c.dst==o.dst&&(match c.dst with|some t=>decide (t<nt)&&t !=d1&&t !=d2|none=>false)&&z0s c.op&&yqt P gl o c.op&&zlh o i&&
 (reads c.op).all (λt=>t !=d1&&t !=d2)&&
 (List.range pre.length).all λj=>match pre[j]? with
  |some d=>(i==j||d.dst !=c.dst)&&(match d.dst with|some t=>!(reads c.op).elem t||(decide (j<i)&&znn o j)|none=>false)
  |none=>false
def okE(P:Program)(gl:Globs)(nt:Nat)(os:Array Oper)(pre:List CO)(kk:KK)(zero:D)(x key y:Nat):Bool:=
 os.size==pre.length+3&&
 match os[pre.length]?,os[pre.length+1]?,os[pre.length+2]? with
 |some o1,some o2,some o3=>
  (match o1.op,o1.dst,o2.op,o2.dst,o3.op,o3.dst with
  |.mapEntry t (.tmp a) (.tmp b),some d1,.extract (.tmp u) 1,some d2,.entryStore t' (.tmp a') (.tmp u') (.tmp c),none=>
   a==x&&b==key&&u==d1&&t'==t&&a'==x&&u'==d2&&c==y&&decide (d1<nt)&&decide (d2<nt)&&d1 !=d2&&x !=d1&&x !=d2&&key !=d1&&key !=d2&&y !=d1&&y !=d2&&
   (match mapP P t with
   |some (kt,vt)=>kkP P kt kk&&(match(P.info? vt).bind (·.zero)with|some z=>zk2 zero z|none=>false)
   |none=>false)&&
   (List.range pre.length).all λi=>match pre[i]?,os[i]? with
    |some c,some o=>yr8 P gl nt pre d1 d2 i c o&&(znn o1 i||(ynx kk zero x key c.op&&c.dst !=some x&&c.dst !=some key))&&znn o3 i
    |_,_=>false
  |_,_,_,_,_,_=>false)&&
  o1.guard.isNone&&o2.guard.isNone&&o3.guard.isNone&&zlh o1 pre.length&&zlh o2 (pre.length+1)&&zlh o3 (pre.length+2)&&znn o2 pre.length&&znn o3 pre.length&&znn o3 (pre.length+1)
 |_,_,_=>false
theorem yb8{o:Oper}{j:Nat}(h:znn o j=true):∃e∈o.after,Region.binds .any e=true/\e.on=j:=by
 unfold znn at h;rw[List.any_eq_true]at h;obtain⟨e,he,h⟩:=h;simp only[Bool.and_eq_true,beq_iff_eq]at h;exact⟨e,Array.mem_toList_iff.1 he,h.1,h.2⟩
theorem yfc{o:Oper}{i:Nat}(h:zlh o i=true):∀e∈o.after,Region.binds .any e=true->e.on<i:=by
 unfold zlh at h;rw[List.all_eq_true]at h;intro e he hb;have:=h e (Array.mem_toList_iff.2 he);rw[hb]at this;simpa using this
theorem yoo{F:Oracle}{cx:Cx}{slot:Nat}{e:Env}{m m':Mem}{op:COp}{v:V}(hp:z0s op=true)(h:zc5 F cx slot e m op=some (v,m')):m'=m:=by
 cases op<;>simp only[z0s,Bool.false_eq_true]at hp<;>simp only[zc5]at h
 case mv x=>
  simp only[Option.some.injEq,Prod.mk.injEq]at h;exact h.2.symm
 case nilCheck x=>
  split at h
  ·simp only[Option.some.injEq,Prod.mk.injEq]at h;exact h.2.symm
  split at h
  ·simp only[Option.some.injEq,Prod.mk.injEq]at h;exact h.2.symm
  cases h
 all_goals
  simp only[Option.map_eq_some_iff,Prod.mk.injEq]at h;obtain⟨_,_,_,rfl⟩:=h
  rfl
theorem yds{kk:KK}{kd:D}(hkey:zjd kk kd=true){y:V}:∀(es es1:List (D×V)),zii kd es=some none->setE kd y es=some es1->zii kd es1=some (some y)
 |[],es1,_,h=>by
  simp only[setE,Option.some.injEq]at h;subst h;simp[zii,z33 hkey]
 |(k,z)::es,es1,hf,h=>by
  simp only[zii]at hf;simp only[setE]at h
  split at hf
  ·cases hf
  ·rename_i he;rw[he]at h;simp only[Option.map_eq_some_iff]at h;obtain⟨e2,h2,rfl⟩:=h;simp only[zii,he];exact yds hkey es e2 hf h2
  cases hf
theorem z8q{kk:KK}{kd:D}(hkey:zjd kk kd=true){y z:V}:∀(es es1:List (D×V)),zii kd es=some none->setE kd z es=some es1->setE kd y es1=setE kd y es
 |[],es1,_,h=>by
  simp only[setE,Option.some.injEq]at h;subst h;simp[setE,z33 hkey]
 |(k,w)::es,es1,hf,h=>by
  simp only[zii]at hf;simp only[setE]at h
  split at hf
  ·cases hf
  ·rename_i he;rw[he]at h;simp only[Option.map_eq_some_iff]at h;obtain⟨e2,h2,rfl⟩:=h;simp only[setE,he];rw[z8q hkey es e2 hf h2]
  cases hf
theorem ydu{kd:D}{y z:V}:∀(es es1:List (D×V)),setE kd y es=some es1->∃es2,setE kd z es=some es2
 |[],_,_=>⟨_,rfl⟩
 |(k,w)::es,es1,h=>by
  simp only[setE]at h⊢
  split at h
  ·exact⟨_,rfl⟩
  ·simp only[Option.map_eq_some_iff]at h;obtain⟨e2,h2,_⟩:=h;obtain⟨e3,h3⟩:=ydu es e2 h2;exact⟨_,by rw[h3];rfl⟩
  cases h
theorem z8p{kd:D}{y:V}:∀(es es1:List (D×V)),setE kd y es=some es1->∃r,zii kd es=some r
 |[],_,_=>⟨_,rfl⟩
 |(k,w)::es,es1,h=>by
  simp only[setE]at h;simp only[zii]
  split at h
  ·exact⟨_,rfl⟩
  ·simp only[Option.map_eq_some_iff]at h;obtain⟨e2,h2,_⟩:=h;exact z8p es e2 h2
  cases h
theorem z8o:∀{a:Opd}{x:Nat},yat a x=true->a=.t x
 |.t a,x,h=>by
  simp only[yat,beq_iff_eq]at h;rw[h]
structure EOk(P:Program)(gl:Globs)(nt:Nat)(os:Array Oper)(pre:List CO)(kk:KK)(zero:D)(x key y d1 d2:Nat)(t kt vt:TypeId)(z:Value)(o1 o2 o3:Oper):Prop where
 size:os.size=pre.length+3
 at1:os[pre.length]?=some o1
 at2:os[pre.length+1]?=some o2
 at3:os[pre.length+2]?=some o3
 op1:o1.op=.mapEntry t (.tmp x) (.tmp key)
 op2:o2.op=.extract (.tmp d1) 1
 op3:o3.op=.entryStore t (.tmp x) (.tmp d2) (.tmp y)
 dst1:o1.dst=some d1
 dst2:o2.dst=some d2
 dst3:o3.dst=none
 g1:o1.guard=none
 g2:o2.guard=none
 g3:o3.guard=none
 lt1:d1<nt
 lt2:d2<nt
 ne:d1≠d2/\x≠d1/\x≠d2/\key≠d1/\key≠d2/\y≠d1/\y≠d2
 mapT:mapP P t=some (kt,vt)
 kkT:kkP P kt kk=true
 zT:(P.info? vt).bind (·.zero)=some z
 zC:zk2 zero z=true
 all:∀i c,pre[i]?=some c->∃o,os[i]?=some o/\yr8 P gl nt pre d1 d2 i c o=true/\(znn o1 i=true\/(ynx kk zero x key c.op=true/\c.dst≠some x/\c.dst≠some key))/\znn o3 i=true
 low1:zlh o1 pre.length=true
 low2:zlh o2 (pre.length+1)=true
 low3:zlh o3 (pre.length+2)=true
 e21:znn o2 pre.length=true
 e31:znn o3 pre.length=true
 e32:znn o3 (pre.length+1)=true
theorem yx1{P:Program}{gl:Globs}{nt:Nat}{os:Array Oper}{pre:List CO}{kk:KK}{zero:D}{x key y:Nat}(h:okE P gl nt os pre kk zero x key y=true):
  ∃d1 d2 t kt vt z o1 o2 o3,EOk P gl nt os pre kk zero x key y d1 d2 t kt vt z o1 o2 o3:=by
 unfold okE at h;simp only[Bool.and_eq_true,beq_iff_eq]at h;obtain⟨hsz,h⟩:=h;split at h
 case h_2=>cases h
 rename_i o1 o2 o3 h1 h2 h3;simp only[Bool.and_eq_true]at h;obtain⟨⟨⟨⟨⟨⟨⟨⟨⟨h,g1⟩,g2⟩,g3⟩,l1⟩,l2⟩,l3⟩,e1⟩,e2⟩,e3⟩:=h;split at h
 case h_2=>cases h
 rename_i t a b d1 u d2 t' a' u' c p1 q1 p2 q2 p3 q3;simp only[Bool.and_eq_true,beq_iff_eq,decide_eq_true_eq,bne_iff_ne]at h;obtain⟨⟨⟨⟨⟨⟨⟨⟨⟨⟨⟨⟨⟨⟨⟨⟨⟨rfl,rfl⟩,rfl⟩,rfl⟩,rfl⟩,rfl⟩,rfl⟩,k1⟩,k2⟩,k3⟩,k4⟩,k5⟩,k6⟩,k7⟩,k8⟩,k9⟩,hty⟩,hpre⟩:=h;split at hty<;>try cases hty
 rename_i kt vt hmt;simp only[Bool.and_eq_true]at hty;obtain⟨hkk,hz⟩:=hty;split at hz<;>try cases hz
 rename_i z hzz;refine⟨_,_,_,_,_,_,_,_,_,hsz,h1,h2,h3,p1,p2,p3,q1,q2,q3,Option.isNone_iff_eq_none.1 g1,Option.isNone_iff_eq_none.1 g2,Option.isNone_iff_eq_none.1 g3,k1,k2,⟨k3,k4,k5,k6,k7,k8,k9⟩,hmt,hkk,hzz,hz,λi c hc=>?_,l1,l2,l3,e1,e2,e3⟩;rw[List.all_eq_true]at hpre;have hi:i<pre.length:=(List.getElem?_eq_some_iff.1 hc).1;have:=hpre i (List.mem_range.2 hi);rw[hc]at this;cases ho:os[i]? with
 |none=>rw[ho]at this;cases this
 |some o=>
  rw[ho]at this;simp only[Bool.and_eq_true,Bool.or_eq_true,bne_iff_ne]at this;obtain⟨⟨w1,w2⟩,w3⟩:=this;refine⟨o,rfl,w1,?_,w3⟩
  rcases w2 with w2|w2
  ·exact .inl w2
  exact .inr ⟨w2.1.1,w2.1.2,w2.2⟩
theorem zu5{P:Program}{gl:Globs}{nt:Nat}{pre:List CO}{d1 d2 i:Nat}{c:CO}{o:Oper}(h:yr8 P gl nt pre d1 d2 i c o=true):
  c.guard=none/\o.guard=none/\(∃t,c.dst=some t/\o.dst=some t/\t<nt/\t≠d1/\t≠d2)/\z0s c.op=true/\yqt P gl o c.op=true/\zlh o i=true/\(∀t∈reads c.op,t≠d1/\t≠d2)/\
   ∀j d t,pre[j]?=some d->d.dst=some t->(j≠i->c.dst≠some t)/\(t∈reads c.op->j<i/\znn o j=true):=by
 unfold yr8 at h;simp only[Bool.and_eq_true,beq_iff_eq]at h;obtain⟨⟨⟨⟨⟨⟨⟨⟨h1,h2⟩,h3⟩,h4⟩,h5⟩,h6⟩,h7⟩,h8⟩,h9⟩:=h;split at h4
 case h_2=>cases h4
 rename_i t ht;simp only[Bool.and_eq_true,decide_eq_true_eq,bne_iff_ne]at h4
 refine⟨Option.isNone_iff_eq_none.1 h1,Option.isNone_iff_eq_none.1 h2,⟨t,ht,h3▸ht,h4.1.1,h4.1.2,h4.2⟩,h5,h6,h7,λu hu=>?_,λj d u hj hu=>?_⟩
 ·rw[List.all_eq_true]at h8;have:=h8 u hu;simpa using this
 rw[List.all_eq_true]at h9;have:=h9 j (List.mem_range.2 (List.getElem?_eq_some_iff.1 hj).1);rw[hj]at this;simp only[Bool.and_eq_true,Bool.or_eq_true,beq_iff_eq,bne_iff_ne]at this;obtain⟨w1,w2⟩:=this;rw[hu]at w1 w2
 refine⟨λhji e=>?_,λhm=>?_⟩
 ·rcases w1 with w1|w1
  ·exact hji w1.symm
  exact w1 e.symm
 simp only[Bool.or_eq_true,Bool.not_eq_true',Bool.and_eq_true,decide_eq_true_eq,List.elem_eq_mem,decide_eq_false_iff_not]at w2;exact w2.resolve_left λhn=>hn hm
theorem yea:∀(m:Mem)(i:Id)(a b:Ob),upd (upd m i a) i b=upd m i b
 |[],i,a,b=>by simp[upd]
 |(j,o)::r,i,a,b=>by
  by_cases e:j=i
  ·simp[upd,e]
  simp[upd,e,yea r i a b]
structure yzj [Clk](P:Program)(oc:zel)(gl:Globs)(os:Array Oper)(pre:List CO)(W:Nat->V)(e:Env)(kt:TypeId)(x key d1 d2:Nat)(m m1 m2:Mem)(s0:S)(A0:Act)(listed:Array Bool)(A:Act)(s:S):Prop where
 size:listed.size=os.size
 sim:Sim oc gl s
 ext:Ext (λ_=>True) s0 s
 tmps:A.tmps.size=A0.tmps.size/\A.defers=A0.defers
 env1:∀(i:Nat)(c:CO)(t:Nat),pre[i]?=some c->listed.getD i false=true->c.dst=some t->VR s (W i) (A.tmps.getD t undef)
 env2:∀t,t≠d1->t≠d2->(∀(i:Nat)(c:CO),pre[i]?=some c->listed.getD i false=true->c.dst≠some t)->VR s (get e t) (A.tmps.getD t undef)
 closed:∀j o ed,os[j]?=some o->listed.getD j false=true->ed∈o.after->Region.binds .any ed=true->listed.getD ed.on false=true
 ph:(listed.getD pre.length false=false/\s.m=m)\/
  (listed.getD pre.length false=true/\listed.getD (pre.length+2) false=false/\s.m=m1/\∃(st bm:Nat)(v0:Value),A.tmps.getD d1 undef=.tuple #[v0,goInt st]/\(listed.getD (pre.length+1) false=true->A.tmps.getD d2 undef=goInt st)/\
   A.tmps.getD x undef=.map (some bm)/\yxc P s.w kt bm (A.tmps.getD key undef) st)\/
  (listed.getD (pre.length+2) false=true/\s.m=m2)
section
variable{P:Program}{oc:zel}{gl:Globs}
theorem ykq [Clk]{F:Oracle}(r:Option Nat)(cx:Cx){nt:Nat}{os:Array Oper}{pre:List CO}{kk:KK}{zero:D}{x key y d1 d2:Nat}{t kt vt:TypeId}{z:Value}{o1 o2 o3:Oper}(hk:EOk P gl nt os pre kk zero x key y d1 d2 t kt vt z o1 o2 o3)
  {E:Nat->Env}{M:Nat->Mem}{W:Nat->V}(hT:z23 F cx pre E M W){m m1 m2:Mem}(hM:∀i,i<=pre.length->M i=m)
  {i0:Id}{kd:D}{es es1 es2:List (D×V)}{vy:V}{rr:Option V}(hx:get (E pre.length) x=.mp i0)(hkey:get (E pre.length) key=.d kd)(hy:get (E pre.length) y=vy)(hl:look m i0=some (.map es))(hik:zjd kk kd=true)(hcy:(cellsOf vy).isSome=true)
  (hf:zii kd es=some rr)(hs1:setE kd (.d zero) es=some es1)(hs2:setE kd vy es=some es2)(hm1:m1=(if rr.isSome then m else upd m i0 (.map es1)))(hm2:m2=upd m i0 (.map es2))
  {s0:S}{A0:Act}(hnt:nt<=A0.tmps.size){Q:Exit->Act->World->Prop}
  (hQ:∀s' A',Sim oc gl s'->Ext (λ_=>True) s0 s'->s'.m=m2->(∀u,u≠d1->u≠d2->VR s' (get (E pre.length) u) (A'.tmps.getD u undef))->A'.tmps.size=A0.tmps.size->A'.defers=A0.defers->Q .normal A' s'.w):
  ∀(fuel:Nat)(listed:Array Bool)(A:Act)(s:S),listed.toList.countP (λb=>!b)<=fuel->yzj P oc gl os pre W (E 0) kt x key d1 d2 m m1 m2 s0 A0 listed A s->wpAnyIn (fen r) 0 P .any os Q fuel listed A s.w:=by
 have uniq:∀(i j:Nat)(c d:CO)(u:Nat),pre[i]?=some c->pre[j]?=some d->c.dst=some u->d.dst=some u->i=j:=by
  intro i j c d u hc hd h1 h2;obtain⟨o,_,ho,_⟩:=hk.all i c hc;obtain⟨_,_,_,_,_,_,_,h9⟩:=zu5 ho
  by_cases e:j=i
  ·exact e.symm
  exact absurd h1 ((h9 j d u hd h2).1 e)
 -- what stands in a temporary whose writer has been run
 have valAt:∀{listed:Array Bool}{A:Act}{s:S},yzj P oc gl os pre W (E 0) kt x key d1 d2 m m1 m2 s0 A0 listed A s->∀u,u≠d1->u≠d2->(∀(j:Nat)(c:CO),pre[j]?=some c->c.dst=some u->listed.getD j false=true)->VR s (get (E pre.length) u) (A.tmps.getD u undef):=by
  intro listed A s hI u h1 h2 hw
  by_cases hex:∃(j:Nat)(c:CO),pre[j]?=some c/\c.dst=some u
  ·obtain⟨j,c,hc,hu⟩:=hex;rw[hT.wrote hc hu (λk d hd hku=>uniq k j d c u hd hc hku hu) (List.getElem?_eq_some_iff.1 hc).1 (Nat.le_refl _)];exact hI.env1 j c u hc (hw j c hc hu) hu
  rw[hT.same u 0 pre.length (Nat.zero_le _) (Nat.le_refl _) λk c _ _ hc he=>hex ⟨k,c,hc,he⟩];exact hI.env2 u h1 h2 λj c hc _ he=>hex ⟨j,c,hc,he⟩
 have alldone:∀(listed:Array Bool)(A:Act)(s:S),yzj P oc gl os pre W (E 0) kt x key d1 d2 m m1 m2 s0 A0 listed A s->Region.ready .any os listed=[]->Q .normal A s.w:=by
  intro listed A s hI hr
  have all:∀i,i<pre.length+3->listed.getD i false=true:=by
   intro i;induction i using Nat.strongRecOn with
   |ind i ih=>
    intro hi;cases hl:listed.getD i false with
    |true=>rfl
    |false=>
     obtain⟨o,ho⟩:∃o,os[i]?=some o:=⟨_,Array.getElem?_eq_getElem (by rw[hk.size];exact hi)⟩
     have hlow:zlh o i=true:=by
      by_cases h1:i<pre.length
      ·obtain⟨o',ho',h2,_⟩:=hk.all i pre[i] (List.getElem?_eq_getElem h1);rw[ho]at ho';obtain rfl:=Option.some.inj ho';exact(zu5 h2).2.2.2.2.2.1
      by_cases h2:i=pre.length
      ·subst h2;rw[hk.at1]at ho;obtain rfl:=Option.some.inj ho;exact hk.low1
      by_cases h3:i=pre.length+1
      ·subst h3;rw[hk.at2]at ho;obtain rfl:=Option.some.inj ho;exact hk.low2
      obtain rfl:i=pre.length+2:=by omega
      rw[hk.at3]at ho;obtain rfl:=Option.some.inj ho;exact hk.low3
     have:i∈Region.ready .any os listed:=by
      refine mem_ready.2 ⟨?_,o,ho,λed he hb=>?_⟩
      ·have hlt:i<listed.size:=by rw[hI.size,hk.size];exact hi
       rw[Array.getD_eq_getD_getElem?]at hl⊢;simp[hlt]at hl⊢;exact hl
      have hlt:=yfc hlow ed he hb;exact ih ed.on hlt (by omega)
     rw[hr]at this;cases this
  have h3:=all (pre.length+2) (by omega)
  rcases hI.ph with⟨h,_⟩|⟨_,h,_⟩|⟨_,hm⟩
  ·rw[all _ (by omega)]at h;cases h
  ·rw[h3]at h;cases h
  exact hQ s A hI.sim hI.ext hm (λu h1 h2=>valAt hI u h1 h2 λj c hc _=>all j (by have:=(List.getElem?_eq_some_iff.1 hc).1;omega)) hI.tmps.1 hI.tmps.2
 intro fuel;induction fuel with
 |zero=>
  intro listed A s hcount hI
  have hr:Region.ready .any os listed=[]:=by
   cases hr:Region.ready .any os listed with
   |nil=>rfl
   |cons i q=>
    have hi:i∈Region.ready .any os listed:=by rw[hr];simp
    have h0:=(mem_ready.1 hi).1
    have hlt:i<listed.size:=by
     rcases Nat.lt_or_ge i listed.size with h'|h'
     ·exact h'
     rw[Array.getD_eq_getD_getElem?,Array.getElem?_eq_none h']at h0;cases h0
    have hf:listed[i]=false:=by rw[Array.getD_eq_getD_getElem?]at h0;simpa[hlt]using h0
    have:0<listed.toList.countP (λb=>!b):=List.countP_pos_iff.2 ⟨listed[i],by simp,by simp[hf]⟩;omega
  exact⟨hr,alldone listed A s hI hr⟩
 |succ fuel ih=>
  intro listed A s hcount hI;refine⟨λhr=>alldone listed A s hI hr,λi hi=>?_⟩;obtain⟨h0,o,ho,hedges⟩:=mem_ready.1 hi;have hio:i<os.size:=(Array.getElem?_eq_some_iff.1 ho).1;have hlt:i<listed.size:=by rw[hI.size];exact hio
  have hfl:listed[i]=false:=by rw[Array.getD_eq_getD_getElem?]at h0;simpa[hlt]using h0
  have hnl:listed.getD i false=false:=by rw[Array.getD_eq_getD_getElem?];simp[hlt,hfl]
  have hcnt:(listed.setIfInBounds i true).toList.countP (λb=>!b)<=fuel:=by
   rw[Array.toList_setIfInBounds,List.countP_set (by simpa using hlt)];have hpos:0<listed.toList.countP (λb=>!b):=List.countP_pos_iff.2 ⟨listed[i],by simp,by simp[hfl]⟩;simp only[Array.getElem_toList,hfl,Bool.not_false,Bool.not_true,if_true,Bool.false_eq_true,if_false];omega
  have hset:∀j,(listed.setIfInBounds i true).getD j false=(decide (i=j)||listed.getD j false):=λj=>zmm hlt
  have hclosed:∀j o' ed,os[j]?=some o'->(listed.setIfInBounds i true).getD j false=true->ed∈o'.after->Region.binds .any ed=true->(listed.setIfInBounds i true).getD ed.on false=true:=by
   intro j o' ed hj hp he hb;simp only[hset,Bool.or_eq_true,decide_eq_true_eq]at hp⊢
   rcases hp with rfl|hp
   ·rw[ho]at hj;obtain rfl:=Option.some.inj hj;exact .inr (hedges ed he hb)
   exact .inr (hI.closed j o' ed hj hp he hb)
  have edge:∀j,znn o j=true->listed.getD j false=true:=λj h=>by
   obtain⟨ed,h1,h2,h3⟩:=yb8 h;rw[<-h3];exact hedges ed h1 h2
  have edgeOf:∀(k:Nat)(o':Oper),os[k]?=some o'->listed.getD k false=true->∀j,znn o' j=true->listed.getD j false=true:=λk o' hk' hlk j h=>by
   obtain⟨ed,h1,h2,h3⟩:=yb8 h;rw[<-h3];exact hI.closed k o' ed hk' hlk h1 h2
  have go:∀{n:Next}{w':World}{K:Act->World->Prop},o.guard=none->(execOp A.eval o).run P s.w=.ok n w'->((∃xv,n=.value xv/\K (A.put o.dst xv) w')\/(n=.skip/\K (A.put o.dst undef) w'))->wpOpIn (fen r) 0 P os Q i K A s.w:=by
   intro n w' K hg hr hn;unfold wpOpIn;simp only[ho,Region.wanted,hg,if_true];refine⟨λ_ _=>trivial,?_⟩
   rcases hn with⟨xv,rfl,hK⟩|⟨rfl,hK⟩
   ·rw[Oper.semAt_eq _ _ _ (zug hr (by simp)),hr];exact hK
   rw[Oper.semAt_eq _ _ _ (zug hr (by simp)),hr];exact hK
  have hn0:i≠pre.length->(listed.setIfInBounds i true).getD pre.length false=listed.getD pre.length false:=λh=>by rw[hset,decide_eq_false h,Bool.false_or]
  have hn1:i≠pre.length+1->(listed.setIfInBounds i true).getD (pre.length+1) false=listed.getD (pre.length+1) false:=λh=>by rw[hset,decide_eq_false h,Bool.false_or]
  have hn2:i≠pre.length+2->(listed.setIfInBounds i true).getD (pre.length+2) false=listed.getD (pre.length+2) false:=λh=>by rw[hset,decide_eq_false h,Bool.false_or]
  have hsz:(listed.setIfInBounds i true).size=os.size:=by rw[Array.size_setIfInBounds];exact hI.size
  -- a value put into a temporary that nobody else writes
  by_cases hip:i<pre.length
  ·--a plain operation
   have hc:pre[i]?=some pre[i]:=List.getElem?_eq_getElem hip;generalize pre[i]=c at hc;obtain⟨o',ho',hp,hlate,he3⟩:=hk.all i c hc;rw[ho]at ho';obtain rfl:=Option.some.inj ho';obtain⟨p1,p2,⟨u,p3,p4,p5,p6,p7⟩,p8,p9,p10,p11,p12⟩:=zu5 hp
   let e1:Env:=(E i).filter λp=>(reads c.op).elem p.1
   have hread:∀t∈reads c.op,get e1 t=get (E i) t:=by
    intro t ht
    have:∀(l:Env),get (l.filter λp=>(reads c.op).elem p.1) t=get l t:=by
     intro l;induction l with
     |nil=>rfl
     |cons p l ihl=>
      obtain⟨u,v⟩:=p;rw[List.filter_cons]
      split
      ·simp only[get];rw[ihl]
      rename_i hu;have hne:u≠t:=λe=>hu (by subst e;simpa using ht)
      simp only[get,hne,if_false];exact ihl
    exact this _
   have hnread:∀t,t∉reads c.op->get e1 t=.undef:=by
    intro t ht
    have:∀(l:Env),get (l.filter λp=>(reads c.op).elem p.1) t=.undef:=by
     intro l;induction l with
     |nil=>rfl
     |cons p l ihl=>
      obtain⟨u,v⟩:=p;rw[List.filter_cons]
      split
      ·rename_i hu;have hne:u≠t:=λe=>ht (by subst e;simpa using hu)
       simp only[get,hne,if_false];exact ihl
      exact ihl
    exact this _
   have henv:zc9 s e1 A.tmps:=by
    intro t
    by_cases ht:t∈reads c.op
    ·rw[hread t ht]
     by_cases hex:∃(j:Nat)(d:CO),pre[j]?=some d/\d.dst=some t
     ·obtain⟨j,d,hj,hjt⟩:=hex;obtain⟨q1,q2⟩:=(p12 j d t hj hjt).2 ht;rw[hT.wrote hj hjt (λk d' hk' hkt=>uniq k j d' d t hk' hj hkt hjt) q1 (by omega)];exact hI.env1 j d t hj (edge j q2) hjt
     rw[hT.same t 0 i (Nat.zero_le _) (by omega) λk d _ _ hk' he=>hex ⟨k,d,hk',he⟩];exact hI.env2 t (p11 t ht).1 (p11 t ht).2 λj d hj _ he=>hex ⟨j,d,hj,he⟩
    rw[hnread t ht];trivial
   have hval:zc5 F cx u e1 m c.op=some (W i,m):=by
    have:=hT.val i c hc;rw[hM i (by omega),hM (i+1) (by omega)]at this;simp only[zey,p1,p3,Option.getD_some]at this;rw[z0d c.op hread];exact this
   have hev:zc5 F cx u e1 s.m c.op=some (W i,s.m):=by
    rcases hI.ph with⟨_,hm⟩|⟨hp1,_,hm,_⟩|⟨hp3,_⟩
    ·rw[hm];exact hval
    ·rw[hm]
     have hlt':=hlate.resolve_left λhe=>by
      have:=edgeOf pre.length o1 hk.at1 hp1 i he;rw[hnl]at this;cases this
     obtain⟨hlo,_,_⟩:=hlt';generalize c.op=op at*;cases op<;>simp only[ynx,Bool.false_eq_true]at hlo
     case mv a=>
      simp only[zc5,Option.some.injEq,Prod.mk.injEq]at hval⊢;exact⟨hval.1,trivial⟩
     case bin bo a b=>
      simp only[zc5,Option.map_eq_some_iff,Prod.mk.injEq]at hval⊢;obtain⟨v,h1,h2,_⟩:=hval;exact⟨v,h1,h2,trivial⟩
     case lookup k1 z1 c1 a b=>
      simp only[Bool.and_eq_true,decide_eq_true_eq,Bool.not_eq_true']at hlo;obtain⟨⟨⟨⟨rfl,hz1⟩,rfl⟩,ha⟩,hb⟩:=hlo;obtain rfl:=zsw _ _ hz1;obtain rfl:=z8o ha;obtain rfl:=z8o hb;cases hrr:rr with
      |some w=>rw[hm1,hrr];exact hval
      |none=>
       subst hrr;simp only[Option.isSome_none,Bool.false_eq_true,if_false]at hm1;simp only[zc5,Option.map_eq_some_iff,Prod.mk.injEq]at hval⊢;obtain⟨v,h1,h2,_⟩:=hval;refine⟨v,?_,h2,trivial⟩
       have hxe:(Opd.t x).ev e1=.mp i0/\(Opd.t key).ev e1=.d kd:=by
        have hra:x∈reads (.lookup k1 z1 false (.t x) (.t key)):=by simp[reads,tO]
        have hrb:key∈reads (.lookup k1 z1 false (.t x) (.t key)):=by simp[reads,tO]
        have fixed:∀q,q∈reads (.lookup k1 z1 false (.t x) (.t key))->get (E i) q=get (E pre.length) q:=by
         intro q hq;refine(hT.same q i pre.length (by omega) (Nat.le_refl _) λk d hk1 hk2 hk3 he=>?_).symm;have:=((p12 k d q hk3 he).2 hq).1;omega
        exact⟨by show get e1 x=_;rw[hread x hra,fixed x hra,hx],by show get e1 key=_;rw[hread key hrb,fixed key hrb,hkey]⟩
       rw[hxe.1,hxe.2]at h1⊢;unfold zqu at h1⊢;simp only[hik,if_true,hl,hf,Option.map_some]at h1;simp only[hik,if_true,hm1,zbh,yds hik es es1 hf hs1,Option.map_some];rw[<-h1]
       rfl
    have:=edgeOf (pre.length+2) o3 hk.at3 hp3 i he3;rw[hnl]at this;cases this
   obtain⟨_,xv,hrun,hvr⟩:=ylp hI.sim henv F cx u p8 p9 hev;refine go p2 hrun (.inl ⟨xv,rfl,?_⟩);have hsz':=zia A o.dst xv
   have hother:∀q,q≠u->(A.put o.dst xv).tmps.getD q undef=A.tmps.getD q undef:=λq hq=>by
    rw[p4,znl A u xv (by rw[hI.tmps.1];omega) q,if_neg (Ne.symm hq)]
   refine ih _ (A.put o.dst xv) s hcnt ⟨hsz,hI.sim,hI.ext,⟨hsz'.1.trans hI.tmps.1,hsz'.2.trans hI.tmps.2⟩,λj d q hj hlj hq=>?_,λq h1 h2 hno=>?_,hclosed,?_⟩
   ·by_cases e:q=u
    ·subst e;obtain rfl:=uniq j i d c q hj hc hq p3;rw[p4,znl A q xv (by rw[hI.tmps.1];omega) q,if_pos rfl];rw[hc]at hj;exact hvr
    rw[hother q e];simp only[hset,Bool.or_eq_true,decide_eq_true_eq]at hlj
    rcases hlj with rfl|hlj
    ·rw[hc]at hj;obtain rfl:=Option.some.inj hj;rw[p3]at hq;exact absurd (Option.some.inj hq).symm e
    exact hI.env1 j d q hj hlj hq
   ·have hqu:q≠u:=λe=>hno i c hc (by simp[hset]) (by rw[p3,e])
    rw[hother q hqu];exact hI.env2 q h1 h2 λj d hj hlj=>hno j d hj (by simp[hset,hlj])
   rw[hn0 (by omega),hn1 (by omega),hn2 (by omega),hother d1 (Ne.symm p6),hother d2 (Ne.symm p7)]
   rcases hI.ph with h|⟨q1,q2,q3,q4⟩|h
   ·exact .inl h
   ·obtain⟨_,hx1,hx2⟩:=hlate.resolve_left λhe=>by
     have:=edgeOf pre.length o1 hk.at1 q1 i he;rw[hnl]at this;cases this
    rw[hother x (λe=>hx1 (by rw[p3,e])),hother key (λe=>hx2 (by rw[p3,e]))];exact .inr (.inl ⟨q1,q2,q3,q4⟩)
   exact .inr (.inr h)
  ·obtain⟨ne1,ne2,ne3,ne4,ne5,ne6,ne7⟩:=hk.ne
   by_cases hi1:i=pre.length
   ·--the entry
    subst hi1;rw[hk.at1]at ho;obtain rfl:=Option.some.inj ho
    have hph:s.m=m:=by
     rcases hI.ph with⟨_,hm⟩|⟨hp1,_⟩|⟨hp3,_⟩
     ·exact hm
     ·rw[hnl]at hp1;cases hp1
     have:=edgeOf (pre.length+2) o3 hk.at3 hp3 _ hk.e31;rw[hnl]at this;cases this
    have hvx:∀q,(q=x\/q=key)->VR s (get (E pre.length) q) (A.tmps.getD q undef):=λq hq=>valAt hI q (by rcases hq with rfl|rfl<;>assumption) (by rcases hq with rfl|rfl<;>assumption) λj c hc hu=>by
     obtain⟨_,_,_,hlate,_⟩:=hk.all j c hc
     rcases hlate with he|⟨_,h1,h2⟩
     ·exact edge j he
     rcases hq with rfl|rfl
     ·exact absurd hu h1
     exact absurd hu h2
    let ex:Env:=[(x,.mp i0),(key,.d kd)]
    have hex:zc9 s ex A.tmps:=by
     intro q;show VR s (get [(x,V.mp i0),(key,V.d kd)] q) _;simp only[get]
     split
     ·rename_i e;subst e;have:=hvx x (.inl rfl)
      rwa[hx]at this
     split
     ·rename_i e;subst e;have:=hvx key (.inr rfl)
      rwa[hkey]at this
     trivial
    have hxk:x≠key:=λe=>by rw[e,hkey]at hx;cases hx
    obtain⟨s1,v0,st,bm,hrun,q1,q2,q3,q4,q5⟩:=yg2 hI.sim hex hk.op1 (x:=.t x) (key:=.t key) (by simp[okX]) (by simp[okX]) hk.mapT hk.kkT hk.zT hk.zC (i:=i0) (kd:=kd) (es:=es) (by simp[Opd.ev,ex,get]) (by simp[Opd.ev,ex,get,hxk]) (by rw[hph];exact hl) hik hf (es1:=es1) (λ_=>hs1);refine go hk.g1 hrun (.inl ⟨_,rfl,?_⟩);have hsz':=zia A o1.dst (.tuple #[v0,goInt st])
    have hd:∀q,(A.put o1.dst (.tuple #[v0,goInt st])).tmps.getD q undef=if d1=q then .tuple #[v0,goInt st]else A.tmps.getD q undef:=λq=>by
     rw[hk.dst1,znl A d1 _ (by rw[hI.tmps.1];have:=hk.lt1;omega) q]
    refine ih _ (A.put o1.dst (.tuple #[v0,goInt st])) s1 hcnt ⟨hsz,q1,Ext.trans hI.ext q2 (λ_ _=>trivial),⟨hsz'.1.trans hI.tmps.1,hsz'.2.trans hI.tmps.2⟩,λj d q hj hlj hq=>?_,λq h1 h2 hno=>?_,hclosed,.inr (.inl ⟨by simp[hset],?_,?_,st,bm,v0,by rw[hd,if_pos rfl],λh=>?_,?_,?_⟩)⟩
    ·obtain⟨_,_,hp',_⟩:=hk.all j d hj;obtain⟨_,_,⟨u,w3,_,_,w6,_⟩,_⟩:=zu5 hp';have:q≠d1:=by rw[w3]at hq;obtain rfl:=Option.some.inj hq;exact w6
     rw[hd,if_neg (Ne.symm this)]
     have hlj':listed.getD j false=true:=by
      simp only[hset,Bool.or_eq_true,decide_eq_true_eq]at hlj;refine hlj.resolve_left λe=>?_
      have:=(List.getElem?_eq_some_iff.1 hj).1;omega
     exact VR.ext q2 _ _ (λ_ _=>trivial) (hI.env1 j d q hj hlj' hq)
    ·rw[hd,if_neg (Ne.symm h1)];exact VR.ext q2 _ _ (λ_ _=>trivial) (hI.env2 q h1 h2 λj d hj hlj=>hno j d hj (by simp[hset,hlj]))
    ·rw[hn2 (by omega)];cases h:listed.getD (pre.length+2) false with
     |false=>rfl
     |true=>
      have:=edgeOf (pre.length+2) o3 hk.at3 h _ hk.e31;rw[hnl]at this;cases this
    ·rw[q3,hph,hm1]
    ·rw[hn1 (by omega)]at h;have:=edgeOf (pre.length+1) o2 hk.at2 h _ hk.e21;rw[hnl]at this;cases this
    ·rw[hd,if_neg (Ne.symm ne2)];exact q4
    rw[hd,if_neg (Ne.symm ne4)];exact q5
   ·by_cases hi2:i=pre.length+1
    ·--the entry's number
     subst hi2;rw[hk.at2]at ho;obtain rfl:=Option.some.inj ho;have hl1:=edge _ hk.e21
     obtain⟨_,hp2,hm,st,bm,v0,w1,w2,w3,w4⟩:listed.getD pre.length false=true/\listed.getD (pre.length+2) false=false/\s.m=m1/\∃(st bm:Nat)(v0:Value),A.tmps.getD d1 undef=.tuple #[v0,goInt st]/\(listed.getD (pre.length+1) false=true->A.tmps.getD d2 undef=goInt st)/\
       A.tmps.getD x undef=.map (some bm)/\yxc P s.w kt bm (A.tmps.getD key undef) st:=by
      rcases hI.ph with⟨h,_⟩|h|⟨hp3,_⟩
      ·rw[hl1]at h;cases h
      ·exact h
      have:=edgeOf (pre.length+2) o3 hk.at3 hp3 _ hk.e32;rw[hnl]at this;cases this
     have hrun:(execOp A.eval o2).run P s.w=.ok (.value (goInt st)) s.w:=by
      have:A.eval (.tmp d1)=.tuple #[v0,goInt st]:=w1;simp[execOp,hk.op2,Instr.extract,this]
     refine go hk.g2 hrun (.inl ⟨_,rfl,?_⟩);have hsz':=zia A o2.dst (goInt st)
     have hd:∀q,(A.put o2.dst (goInt st)).tmps.getD q undef=if d2=q then goInt st else A.tmps.getD q undef:=λq=>by
      rw[hk.dst2,znl A d2 _ (by rw[hI.tmps.1];have:=hk.lt2;omega) q]
     refine ih _ (A.put o2.dst (goInt st)) s hcnt ⟨hsz,hI.sim,hI.ext,⟨hsz'.1.trans hI.tmps.1,hsz'.2.trans hI.tmps.2⟩,λj d q hj hlj hq=>?_,λq h1 h2 hno=>?_,hclosed,.inr (.inl ⟨by rw[hn0 (by omega)];exact hl1,by rw[hn2 (by omega)];exact hp2,hm,st,bm,v0,by rw[hd,if_neg (Ne.symm ne1)];exact w1,λ_=>by rw[hd,if_pos rfl],by rw[hd,if_neg (Ne.symm ne3)];exact w3,by rw[hd,if_neg (Ne.symm ne5)];exact w4⟩)⟩
     ·obtain⟨_,_,hp',_⟩:=hk.all j d hj;obtain⟨_,_,⟨u,w3,_,_,_,w7⟩,_⟩:=zu5 hp';have:q≠d2:=by rw[w3]at hq;obtain rfl:=Option.some.inj hq;exact w7
      rw[hd,if_neg (Ne.symm this)]
      have hlj':listed.getD j false=true:=by
       simp only[hset,Bool.or_eq_true,decide_eq_true_eq]at hlj;refine hlj.resolve_left λe=>?_
       have:=(List.getElem?_eq_some_iff.1 hj).1;omega
      exact hI.env1 j d q hj hlj' hq
     rw[hd,if_neg (Ne.symm h2)];exact hI.env2 q h1 h2 λj d hj hlj=>hno j d hj (by simp[hset,hlj])
    --its new value
    obtain rfl:i=pre.length+2:=by rw[hk.size]at hio;omega
    rw[hk.at3]at ho;obtain rfl:=Option.some.inj ho;have hl1:=edge _ hk.e31;have hl2:=edge _ hk.e32
    obtain⟨_,_,hm,st,bm,v0,w1,w2,w3,w4⟩:listed.getD pre.length false=true/\listed.getD (pre.length+2) false=false/\s.m=m1/\∃(st bm:Nat)(v0:Value),A.tmps.getD d1 undef=.tuple #[v0,goInt st]/\(listed.getD (pre.length+1) false=true->A.tmps.getD d2 undef=goInt st)/\
      A.tmps.getD x undef=.map (some bm)/\yxc P s.w kt bm (A.tmps.getD key undef) st:=by
     rcases hI.ph with⟨h,_⟩|h|⟨hp3,_⟩
     ·rw[hl1]at h;cases h
     ·exact h
     rw[hnl]at hp3;cases hp3
    have hva:∀q,q≠d1->q≠d2->VR s (get (E pre.length) q) (A.tmps.getD q undef):=λq h1 h2=>valAt hI q h1 h2 λj c hc _=>by
     obtain⟨_,_,_,_,he3⟩:=hk.all j c hc;exact edge j he3
    let ex:Env:=[(x,.mp i0),(key,.d kd),(y,vy)]
    have hxk:x≠key:=λe=>by rw[e,hkey]at hx;cases hx
    have hex:zc9 s ex A.tmps:=by
     intro q;show VR s (get [(x,V.mp i0),(key,V.d kd),(y,vy)] q) _;simp only[get]
     split
     ·rename_i e;subst e;have:=hva x ne2 ne3
      rwa[hx]at this
     split
     ·rename_i e;subst e;have:=hva key ne4 ne5
      rwa[hkey]at this
     split
     ·rename_i e;subst e;have:=hva y ne6 ne7
      rwa[hy]at this
     trivial
    have hgx:get ex x=.mp i0:=by simp[ex,get]
    have hgk:get ex key=.d kd:=by simp[ex,get,hxk]
    have hgy:get ex y=vy:=by
     simp only[ex,get]
     by_cases e1:x=y
     ·rw[if_pos e1,<-hx,e1,hy]
     rw[if_neg e1]
     by_cases e2:key=y
     ·rw[if_pos e2,<-hkey,e2,hy]
     simp[e2]
    have hms:zjz kk s.m (Opd.ev ex (.t x)) (Opd.ev ex (.t key)) (Opd.ev ex (.t y))=some m2:=by
     show zjz kk s.m (get ex x) (get ex key) (get ex y)=some m2;rw[hgx,hgk,hgy,hm,hm1,hm2];unfold zjz;cases hrr:rr with
     |some w=>simp only[Option.isSome_some,if_true,hl,hik,hcy,Bool.and_self,if_true,hs2,Option.map_some]
     |none=>
      subst hrr;simp only[Option.isSome_none,Bool.false_eq_true,if_false,zbh,hik,hcy,Bool.and_self,if_true,z8q hik es es1 hf hs1,hs2,Option.map_some,yea]
    have hok:zp5 P gl {o3 with op:=.mapUpdate t (.tmp x) (.tmp key) (.tmp y)} kk (.t x) (.t key) (.t y)=true:=by
     unfold zp5;simp[okX,hk.mapT,hk.kkT]
    obtain⟨s',hrun,q1,q2,q3⟩:=z15 hI.sim hex hk.op3 hok hms hk.mapT (A:=A) (bm:=bm) (st:=st) w3 (w2 hl2) w4;refine go hk.g3 hrun (.inr ⟨rfl,?_⟩);have hput:A.put o3.dst undef=A:=by rw[hk.dst3];rfl
    rw[hput]
    refine ih _ A s' hcnt ⟨hsz,q1,Ext.trans hI.ext q2 (λ_ _=>trivial),hI.tmps,λj d q hj hlj hq=>?_,λq h1 h2 hno=>?_,hclosed,.inr (.inr ⟨by simp[hset],q3⟩)⟩
    ·have hlj':listed.getD j false=true:=by
      simp only[hset,Bool.or_eq_true,decide_eq_true_eq]at hlj;refine hlj.resolve_left λe=>?_
      have:=(List.getElem?_eq_some_iff.1 hj).1;omega
     exact VR.ext q2 _ _ (λ_ _=>trivial) (hI.env1 j d q hj hlj' hq)
    exact VR.ext q2 _ _ (λ_ _=>trivial) (hI.env2 q h1 h2 λj d hj hlj=>hno j d hj (by simp[hset,hlj]))
theorem z03{F:Oracle}{cx:Cx}:∀(a b:List CO)(e:Env)(m:Mem),zjb F cx (a++b) e m=(zjb F cx a e m).bind λp=>zjb F cx b p.1 p.2
 |[],_,_,_=>rfl
 |o::a,b,e,m=>by
  simp only[List.cons_append,zjb];cases zey F cx e m o with
  |none=>rfl
  |some p=>exact z03 a b _ _
def yun:List CO->Option D
 |[]=>none
 |o::r=>match o.op with
  |.lookup _ z _ _ _=>some z
  |_=>yun r
def yvw(P:Program)(gl:Globs)(nt:Nat)(os:Array Oper)(ops:List CO)(kill:List Nat):Bool:=
 match ops.getLast?,yun ops with
 |some l,some zero=>l.dst.isNone&&l.guard.isNone&&
  (match l.op with
  |.mapSet kk (.t x) (.t key) (.t y)=>okE P gl nt os ops.dropLast kk zero x key y&&
   (match os[ops.length-1]?,os[ops.length]? with
   |some o1,some o2=>(match o1.dst,o2.dst with|some d1,some d2=>kill.elem d1&&kill.elem d2|_,_=>false)
   |_,_=>false)
  |_=>false)
 |_,_=>false
theorem zo6{kill:List Nat}{u:Nat}(h:kill.elem u=true):∀(e:Env),get (zdk kill e) u=.undef
 |[]=>rfl
 |(t,v)::r=>by
  by_cases e:t=u
  ·subst e;have:zdk kill ((t,v)::r)=zdk kill r:=by simp only[zdk,List.filter_cons,h,Bool.not_true,Bool.false_eq_true,if_false]
   rw[this];exact zo6 h r
  by_cases hk:kill.elem t=true
  ·have:zdk kill ((t,v)::r)=zdk kill r:=by simp only[zdk,List.filter_cons,hk,Bool.not_true,Bool.false_eq_true,if_false]
   rw[this];exact zo6 h r
  have:zdk kill ((t,v)::r)=(t,v)::zdk kill r:=by simp only[zdk,List.filter_cons,hk,Bool.not_false,if_true]
  rw[this];simp only[get,if_neg e];exact zo6 h r
theorem yl0 [Clk]{F:Oracle}(hm:P.follows .mixedOrders=true)(r:Option Nat)(cx:Cx){nt:Nat}{ops:Array Oper}{cos:List CO}{kill:List Nat}(id:Nat)(hok:yvw P gl nt ops cos kill=true)
  {e e':Env}{m':Mem}{s:S}{A:Act}(h:zjb F cx cos e s.m=some (e',m'))(hs:Sim oc gl s)(he:zc9 s e A.tmps)(hnt:nt<=A.tmps.size){Q:Exit->Act->World->Prop}
  (hQ:∀s' A',Sim oc gl s'->Ext (λ_=>True) s s'->s'.m=m'->zc9 s' (zdk kill e') A'.tmps->A'.tmps.size=A.tmps.size->A'.defers=A.defers->Q .normal A' s'.w):
  (Code.region id ops true).wpIn (fen r) 0 P Q A s.w:=by
 unfold yvw at hok;split at hok
 case h_2=>cases hok
 rename_i l zero hl hz;simp only[Bool.and_eq_true]at hok;obtain⟨⟨hd,hg⟩,hok⟩:=hok;split at hok
 case h_2=>cases hok
 rename_i kk x key y hop;simp only[Bool.and_eq_true]at hok;obtain⟨hE,hkl⟩:=hok;obtain⟨d1,d2,t,kt,vt,z,o1,o2,o3,hk⟩:=yx1 hE;obtain⟨pre,rfl⟩:=List.getLast?_eq_some_iff.1 hl;rw[List.length_append,List.length_singleton,Nat.add_sub_cancel]at hkl;rw[List.dropLast_concat]at hk;rw[hk.at1,hk.at2]at hkl;simp only[hk.dst1,hk.dst2,Bool.and_eq_true]at hkl;rw[z03]at h;cases h1:zjb F cx pre e s.m with
 |none=>rw[h1]at h;cases h
 |some p=>
  obtain⟨e1,m1⟩:=p;rw[h1,Option.bind_some]at h;obtain⟨ld,lg,lo⟩:=l;simp only at hop hd hg;subst hop;obtain rfl:lg=none:=Option.isNone_iff_eq_none.1 hg;obtain rfl:ld=none:=Option.isNone_iff_eq_none.1 hd;obtain⟨E,M,W,hT,hE0,hM0,hE',hM'⟩:=ya4 pre e e1 s.m m1 h1
  have hMi:∀i,i<=pre.length->M i=s.m:=by
   intro i;induction i with
   |zero=>intro _;exact hM0
   |succ i ih=>
    intro hi;have hc:pre[i]?=some pre[i]:=List.getElem?_eq_getElem hi;obtain⟨o,_,hp,_⟩:=hk.all i _ hc;obtain⟨p1,_,_,p8,_⟩:=zu5 hp;have:=hT.val i _ hc;simp only[zey,p1]at this;rw[yoo p8 this];exact ih (by omega)
  have hm1:m1=s.m:=by rw[<-hM'];exact hMi _ (Nat.le_refl _)
  subst hm1;simp only[zjb,zey,zc5]at h;cases h2:zjz kk s.m (Opd.ev e1 (.t x)) (Opd.ev e1 (.t key)) (Opd.ev e1 (.t y))with
  |none=>rw[h2]at h;simp at h
  |some m2=>
   rw[h2]at h;simp only[Option.map_some,Option.some.injEq,Prod.mk.injEq,put?]at h;obtain⟨rfl,rfl⟩:=h;have hms:=h2;unfold zjz at h2;split at h2<;>try cases h2
   rename_i i0 kd hx hkey;split at h2<;>try cases h2
   rename_i es hl0;split at h2<;>try cases h2
   rename_i hc;simp only[Bool.and_eq_true]at hc;simp only[Option.map_eq_some_iff]at h2;obtain⟨es2,hs2,rfl⟩:=h2;obtain⟨rr,hf⟩:=z8p es es2 hs2;obtain⟨es1,hs1⟩:=ydu (z:=.d zero) es es2 hs2;refine wpIn_region_any hm ?_;obtain⟨k1,k2⟩:=hs.calm {s.w with drawn:=s.w.drawn+1} s.Im rfl Tk.of rfl (Nat.le_refl _) (λ_ _=>rfl) (λ_ _ h=>h) (λ_ _ h=>.inl h) hs.imlt
   have hsz:(Array.replicate ops.size false).toList.countP (λb=>!b)<=ops.size:=by
    refine Nat.le_trans List.countP_le_length ?_;simp
   have nol:∀i,(Array.replicate ops.size false).getD i false=false:=by
    intro i;rw[Array.getD_eq_getD_getElem?]
    by_cases h:i<ops.size
    ·simp[h]
    simp[h]
   refine ykq (Q:=Q) r cx hk hT hMi (by rw[hE'];exact hx) (by rw[hE'];exact hkey) rfl hl0 hc.1 (by rw[hE'];exact hc.2) hf hs1 (by rw[hE'];exact hs2) rfl rfl (s0:=s) (A0:=A) hnt
    (λs' A' q1 q2 q3 q4 q5 q6=>hQ s' A' q1 q2 q3 (λu=>?_) q5 q6) ops.size _ A ⟨s.φ,s.m,{s.w with drawn:=s.w.drawn+1},s.Im⟩ hsz
    ⟨by simp,k1,k2,⟨rfl,rfl⟩,λi c t _ hp=>absurd ((nol i).symm.trans hp) (by simp),λt _ _ _=>?_,λi o e _ hp=>absurd ((nol i).symm.trans hp) (by simp),.inl ⟨nol _,rfl⟩⟩
   ·by_cases h1:u=d1
    ·subst h1;rw[zo6 hkl.1];trivial
    by_cases h2:u=d2
    ·subst h2;rw[zo6 hkl.2];trivial
    have hq:=q4 u h1 h2;rw[hE']at hq
    rcases z0j (λp:Nat×V=>!kill.elem p.1) (λ_ _ _=>rfl) e1 u with hg|hg
    ·rw[zdk,hg];exact hq
    rw[zdk,hg];trivial
   rw[hE0];exact VR.ext k2 _ _ (λ_ _=>trivial) (he t)
end
end Go.Evl
