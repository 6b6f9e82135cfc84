
/-
 The evaluator is sound, third part: regions.
-/
import Derived.Test.YtkgcnknhkobmjaaGreatDoorEvC
import Derived.Maps.RangeRun
import Derived.RangeFuncLeaves
import Derived.OrdersIn
import Derived.LoopNIn
import Derived.Scope
namespace Go.Evl
open Go.RowKit
section
variable {P : Program} {oc : zdj} {gl : Globs}
def zyt (lo:Nat) (s1:S) (b j:Nat):Prop:=
 s1.Im b j\/∃i wr t sz n xs,lo<=i.lv/\look s1.m i=some (.row wr t sz n xs)/\blk (s1.φ i)=some b/\j<n*sz
theorem ypp {lo:Nat} {s1:S} (hs:Sim oc gl s1) {i:Id} {wr:Bool} {t sz n:Nat} {xs:List D} (hlo:lo<=i.lv) (hl:look s1.m i=some (.row wr t sz n xs)) {off len top:Nat} {x:Value}
  (h2:n=top) (h3:off+len<=n) (hv:VR s1 (.ref i off len top) x):
  DR s1.w (zyt lo s1) (.list len (if off=0/\len=n then xs else win xs (off*sz) (len*sz))) x:=by
 obtain⟨hz,ys,hown,hdr,him⟩:=hs.objs i _ hl
 let s2:S:=⟨s1.φ,[(i,.row false t sz n xs)],s1.w,zyt lo s1⟩
 have hl2:look s2.m i=some (.row false t sz n xs):=by simp [s2,look]
 have hs2:Sim oc gl s2:=by
  refine⟨fun k o hk=> ?_,fun a b o o' c hab ha hb _ _ _=> ?_,fun b j h=> ?_,fun g cs hg=>CR.ext (fun _ _ h=> .inl h) (fun _ _ _=>rfl) g 0 cs (hs.glob g cs hg),fun g cs hg=> ?_⟩
  ·have hk1:(if i=k then some (Ob.row false t sz n xs) else none)=some o:=hk
   clear hk
   split at hk1
   ·rename_i e;subst e
    obtain rfl:=Option.some.inj hk1
    refine⟨hz,ys,hown,DRs.ext (fun _ _ h=> .inl h) (fun _ _ _=>rfl) xs ys hdr,fun b hb j=>⟨fun h=>⟨rfl,?_⟩,fun h=> .inr ⟨i,wr,t,sz,n,xs,hlo,hl,zk7 _ _ hb,h.2⟩⟩⟩
    rcases h with h|⟨k,wr',t',sz',n',xs',_,hk',hb',hj⟩
    ·exact((him b hb j).1 h).2
    ·by_cases e:k=i
     ·subst e
      rw [hl] at hk'
      simp only [Option.some.injEq,Ob.row.injEq] at hk'
      obtain⟨_,_,rfl,rfl,_⟩:=hk'
      exact hj
     ·exact absurd (zk7 _ _ hb) (hs.apart k i _ _ b e hk' hl (by simp) (by simp) hb')
   ·cases hk1
  ·have ha1:(if i=a then some (Ob.row false t sz n xs) else none)=some o:=ha
   have hb1:(if i=b then some (Ob.row false t sz n xs) else none)=some o':=hb
   clear ha hb
   split at ha1
   ·split at hb1
    ·rename_i e1 e2;exact absurd (e1.symm.trans e2) hab
    ·cases hb1
   ·cases ha1
  ·rcases h with h|⟨k,wr',t',sz',n',xs',_,hk',hb',hj⟩
   ·exact hs.imlt b j h
   ·exact(hs.objs k _ hk').blk_lt (by simp) hb'
  ·obtain⟨h1,h2⟩:=hs.tabs g cs hg
   refine⟨fun a o ha hgo=> ?_,h2⟩
   have ha1:(if i=a then some (Ob.row false t sz n xs) else none)=some o:=ha
   split at ha1
   ·rename_i e;subst e;exact h1 i _ hl (by simp)
   ·cases ha1
 have hv2:VR s2 (.ref i off len top) x:=by
  refine⟨hv.1,?_⟩
  have:=hv.2
  rw [hl] at this
  rw [hl2]
  exact this
 exact zyf hs2 hl2 rfl h2 h3 hv2
mutual
theorem z8p {lo:Nat} {s1:S} (hs:Sim oc gl s1):∀(v:V) (d:D) (x:Value),(∀i∈ids v,lo<=i.lv)->freeze true s1.m v=some d->VR s1 v x->DR s1.w (zyt lo s1) d x
 | .d y,d,x,_,h,hv=>by
  simp only [freeze,Option.some.injEq] at h;subst h
  exact DR.ext (fun _ _ h=> .inl h) (fun _ _ _=>rfl) _ _ hv
 | .agg cs,d,x,hk,h,hv=>by
  simp only [freeze,Option.map_eq_some_iff] at h
  obtain⟨ds,h1,rfl⟩:=h
  obtain⟨xs,rfl,hv⟩:=hv
  exact⟨xs,rfl,ygu hs cs ds _ (by simpa only [ids] using hk) h1 hv⟩
 | .ref i off len top,d,x,hk,h,hv=>by
  simp only [freeze] at h
  split at h
  ·rename_i wr t sz n xs hl
   split at h
   ·rename_i hc
    obtain⟨h1,h2,h3⟩:=hc
    obtain rfl:=Option.some.inj h
    exact ypp hs (hk i (by simp [ids])) hl h2 h3 hv
   ·cases h
  ·cases h
 | .tup _,_,_,_,h,_=>by simp [freeze] at h
 | .ptr ..,_,_,_,h,_=>by simp [freeze] at h
 | .lptr ..,_,_,_,h,_=>by simp [freeze] at h
 | .cl n cs,d,x,hk,h,hv=>by
  simp only [freeze,Option.some.injEq] at h;subst h
  obtain⟨ad,rfl,hv⟩:=hv
  exact⟨ad,n,rfl,Nat.le_refl _,hv.imp id fun⟨b,o,h1,h2⟩=>⟨b,o,h1,CR.ext (fun _ _ h=> .inl h) (fun _ _ _=>rfl) b o cs h2⟩⟩
 | .fn f [] [],d,x,_,h,hv=>by
  simp only [freeze,Option.some.injEq] at h;subst h
  exact yp1 hv
 | .fn _ (_::_) _,_,_,_,h,_=>by simp [freeze] at h
 | .fn _ [] (_::_),_,_,_,h,_=>by simp [freeze] at h
 | .yld _,_,_,_,h,_=>by simp [freeze] at h
 | .mp _,_,_,_,h,_=>by simp [freeze] at h
 | .it _,_,_,_,h,_=>by simp [freeze] at h
 | .skip,_,_,_,h,_=>by simp [freeze] at h
 | .undef,_,_,_,h,_=>by simp [freeze] at h
theorem ygu {lo:Nat} {s1:S} (hs:Sim oc gl s1):∀(cs:List V) (ds:List D) (xs:List Value),(∀i∈idsL cs,lo<=i.lv)->freezeL true s1.m cs=some ds->VRs s1 cs xs->DRs s1.w (zyt lo s1) ds xs
 | [],ds,xs,_,h,hv=>by simp only [freezeL,Option.some.injEq] at h;subst h;exact hv
 | v::r,ds,xs,hk,h,hv=>by
  obtain⟨x,ys,rfl,h1,h2,h3⟩:=hv
  simp only [freezeL] at h
  split at h
  ·rename_i d ds' e1 e2
   obtain rfl:=Option.some.inj h
   exact⟨x,ys,rfl,h1,z8p hs v d x (fun i hi=>hk i (by simp [idsL,hi])) e1 h2,ygu hs r ds' ys (fun i hi=>hk i (by simp [idsL,hi])) e2 h3⟩
  ·cases h
end
theorem z8o {lo:Nat} {s1 s':S} (hs:Sim oc gl s1) (hw:s'.w=s1.w) (him:s'.Im=zyt lo s1):∀(cs:List V) (ds:List D) (xs:List Value),(∀i∈idsL cs,lo<=i.lv)->freezeL true s1.m cs=some ds->VRt s1 cs xs->VRt s' (asV ds) xs
 | [],ds,xs,_,h,hv=>by simp only [freezeL,Option.some.injEq] at h;subst h;exact hv
 | v::r,ds,xs,hk,h,hv=>by
  obtain⟨x,ys,rfl,h2,h3⟩:=hv
  simp only [freezeL] at h
  split at h
  ·rename_i d ds' e1 e2
   obtain rfl:=Option.some.inj h
   refine⟨x,ys,rfl,?_,z8o hs hw him r ds' ys (fun i hi=>hk i (by simp [idsL,hi])) e2 h3⟩
   have:=z8p hs v d x (fun i hi=>hk i (by simp [idsL,hi])) e1 h2
   show DR s'.w s'.Im d x
   rw [hw,him];exact this
  ·cases h
theorem yeg [Clk] {lo:Nat} {s s1 sB:S} (hB:yum oc gl lo s s1 sB) {cx:Cx} {slot:Nat} {imm:Bool} {v v':V} {m':Mem} {x:Value} (h:znm cx slot lo imm sB.m s1.m v=some (v',m')) (hv:VR s1 v x):
  ∃s',s'.w=s1.w/\Sim oc gl s'/\Ext (fun _=>True) s s'/\s'.m=m'/\VR s' v' x:=by
 unfold znm at h
 split at h
 ·split at h<;>try cases h
  rename_i hids
  simp only [List.all_eq_true,decide_eq_true_eq] at hids
  simp only [Option.map_eq_some_iff,Prod.mk.injEq] at h
  obtain⟨y,hth,rfl,rfl⟩:=h
  let s':S:=⟨sB.φ,sB.m,s1.w,zyt lo s1⟩
  have h0:ybf (fun _=>True) sB s':=⟨fun b j h=> .inl (by rw [hB.im] at h;exact h),fun b j _=>by rw [hB.w],fun i o _ ho=>⟨o,ho,za4.refl _ _⟩⟩
  have hE:=hB.ext
  have hw:s'.w=sB.w:=hB.w.symm
  refine⟨s',rfl,⟨fun i o hi=> ?_,hB.sim.apart,fun b j h=> ?_,fun g cs hg=>CR.ext (fun _ _ h=> .inl h) (fun _ _ _=>rfl) g 0 cs (hB.sim1.glob g cs hg),fun g cs hg=>⟨(hB.sim.tabs g cs hg).1,(hB.sim1.tabs g cs hg).2⟩⟩,⟨by rw [hw];exact hE.os,by rw [hw];exact hE.tape,by rw [hw];exact hE.output,by rw [hw];exact hE.size,fun b hb hf=> ?_,fun b j h=> ?_,fun b j h=> .inl (by have:=hE.im b j h;rw [hB.im] at this;exact this),
   fun b j h=>by rw [hw];exact hE.keep b j h,hE.objs⟩,rfl,?_⟩
  ·by_cases hg:o= .gone
   ·subst hg;trivial
   refine ObR.ext0 h0 (fun _ _=>trivial) (fun b hb=>⟨by rw [hB.w],fun j h=> ?_⟩) (hB.sim.objs i o hi)
   rcases h with h|⟨k,wr',t',sz',n',xs',hlo,hk',hb',_⟩
   ·rw [hB.im];exact h
   ·exact absurd hb ((hB.new k _ b hk' (by simp) hlo hb').2 i o hi hg)
  ·rcases h with h|⟨k,wr',t',sz',n',xs',_,hk',hb',hj⟩
   ·exact hB.sim1.imlt b j h
   ·exact(hB.sim1.objs k _ hk').blk_lt (by simp) hb'
  ·obtain⟨h1,h2⟩:=hE.frame b hb hf
   exact⟨by rw [hw];exact h1,h2⟩
  ·rcases h with h|⟨k,wr',t',sz',n',xs',hlo,hk',hb',_⟩
   ·exact hE.imnew b j (by rw [hB.im];exact h)
   ·exact .inr ((hB.new k _ b hk' (by simp) hlo hb').1)
  ·unfold thaw at hth
   split at hth
   ·rename_i vs
    simp only [Option.map_eq_some_iff] at hth
    obtain⟨ds,h1,rfl⟩:=hth
    obtain⟨xs,rfl,hv⟩:=hv
    exact⟨xs,rfl,z8o (s':=s') hB.sim1 rfl rfl vs ds _ (by simpa only [ids] using hids) h1 hv⟩
   ·simp only [Option.map_eq_some_iff] at hth
    obtain⟨d,h1,rfl⟩:=hth
    exact z8p hB.sim1 v d x hids h1 hv
 ·exact yl7 hB h hv
theorem yji [Clk] {s s1:S} (hs:Sim oc gl s) (h1:Sim oc gl s1) (hE:Ext (fun _=>True) ⟨s.φ,[],s.w,s.Im⟩ s1):yum oc gl 0 s s1 ⟨s.φ,s.m,s1.w,s1.Im⟩:=by
 have free0:∀b,zuz ⟨s.φ,[],s.w,s.Im⟩ b:=fun b i o hi _=>by simp [look] at hi
 have hE':Ext (fun _=>True) s ⟨s.φ,s.m,s1.w,s1.Im⟩:=
  ⟨hE.os,hE.tape,hE.output,hE.size,fun b hb hf=>⟨(hE.frame b hb (free0 b)).1,hf⟩,fun b j h=>by
   rcases hE.imnew b j h with h|h|h
   ·exact .inl h
   ·exact .inr (.inl h)
   ·exact absurd (free0 b) h,hE.im,hE.keep,fun i o _ ho=>⟨o,ho,za4.refl _ _⟩⟩
 refine⟨h1,⟨fun i o hi=> ?_,hs.apart,h1.imlt,h1.glob,hs.tabs.ext hE'⟩,hE',rfl,rfl,fun i o b hi hg _ hb=> ?_,fun i h=>absurd h (Nat.not_lt_zero _)⟩
 ·by_cases hg:o= .gone
  ·subst hg;trivial
  refine ObR.ext hE' (fun b hb=> ?_) (hs.objs i o hi)
  have hlt:=(hs.objs i o hi).blk_lt hg hb
  refine⟨(hE.frame b hlt (free0 b)).1,fun j h=> ?_⟩
  rcases hE.imnew b j h with h|h|h
  ·exact h
  ·have h:s.w.heap.size<=b:=h
   omega
  ·exact absurd (free0 b) h
 ·have hge:s.w.heap.size<=b:=by
   rcases Nat.lt_or_ge b s.w.heap.size with hlt|hge
   ·exact absurd hb ((hE.frame b hlt (free0 b)).2 i o hi hg)
   ·exact hge
  refine⟨.inl hge,fun j o' hj hg' hb'=> ?_⟩
  have:=(hs.objs j o' hj).blk_lt hg' hb'
  omega
theorem zt6 [Clk] {nx:Nat} {s s1:S} (h1:Sim oc gl s1) (hE:Ext (fun _=>True) s s1) (hlow:ziy nx (zrf s.m)=true) (hids:ziy nx (idsAll (zdu nx s1.m))=true):
  yum oc gl nx s s1 ⟨s1.φ,zdu nx s1.m,s1.w,s1.Im⟩:=by
 simp only [ziy,List.all_eq_true,decide_eq_true_eq] at hlow hids
 obtain⟨k1,k2⟩:=h1.sub (fun i=>decide (i.lv<nx)) (fun i hi=>by simpa using hids i hi)
 have hkey:∀i o,look s.m i=some o->i.lv<nx:=by
  have:∀(m:Mem) i o,look m i=some o->i∈zrf m:=by
   intro m
   induction m with
   | nil=>intro i o h;simp [look] at h
   | cons p r ih=>
    intro i o h
    obtain⟨j,y⟩:=p
    simp only [look] at h
    split at h
    ·rename_i e;subst e;simp [zrf]
    ·have:=ih i o h
     simp only [zrf,List.map_cons,List.mem_cons]
     exact .inr this
  exact fun i o h=>hlow i (this _ i o h)
 refine⟨h1,k1,?_,rfl,rfl,fun i o b hi hg hlo hb=>⟨?_,fun j o' hj hg' hb'=> ?_⟩,fun i h=>⟨?_,rfl⟩⟩
 ·refine Ext.of_look (Ext.trans (Ext.mono hE (fun _ _=>trivial)) k2 fun i hi=> ?_)
  cases ho:look s.m i with
  | none=>exact absurd ho hi
  | some o=>simpa using hkey i o ho
 ·rcases Nat.lt_or_ge b s.w.heap.size with hlt|hge
  ·exact .inr fun hf=>(hE.frame b hlt hf).2 i o hi hg hb
  ·exact .inl hge
 ·have hj:look (s1.m.filter fun q=>decide (q.1.lv<nx)) j=some o':=hj
  rw [zmq (fun i=>decide (i.lv<nx))] at hj
  split at hj
  ·rename_i hjl
   simp only [decide_eq_true_eq] at hjl
   refine h1.apart j i o' o b (fun e=> ?_) hj hi hg' hg hb' hb
   subst e;omega
  ·cases hj
 ·show look (s1.m.filter fun q=>decide (q.1.lv<nx)) i=_
  rw [zmq (fun i=>decide (i.lv<nx))]
  simp [h]
end
end Go.Evl
namespace Go.Evl
open Go.RowKit
section
variable {P : Program} {oc : zdj} {gl : Globs}
def Enters (P:Program) (f:Nat):Prop:=∃fn,P.funcs[f]? =some fn/\fn.name≠ "runtime.NumGoroutine" /\fn.body≠none
def zu1 [Clk] (oc:zdj) (gl:Globs) (s:S) (v:V) (m':Mem):Ending->World->Prop:=
 fun e w'=>∃s' x,e= .returned x/\s'.w=w'/\Sim oc gl s'/\Ext (fun _=>True) s s'/\s'.m=m'/\VR s' v x
def zsh [Clk] (P:Program) (oc:zdj) (gl:Globs) (F:Oracle):Prop:=
 ∀lv f args m v m',F (.call lv f args m)=some (.val v m')->Enters P f/\
  ∀s,Sim oc gl s->s.m=m->∀xs:List Value,VRt s args xs->CallsIn Fence.wide 0 P f xs.toArray s.w (zu1 oc gl s v m')
def z0x [Clk] (P:Program) (oc:zdj) (gl:Globs) (F:Oracle):Prop:=
 ∀nx o args m v m',F (.round nx o args m)=some (.val v m')->(∃e ps a b lv bu ov j,look m o=some (.loop e ps a b lv bu ov j))/\
  ∀s,Sim oc gl s->s.m=m->∀xs:List Value,VRt s args xs->∀l,s.φ o= .pointer (some ⟨l,0,none⟩)->∃L,s.w.heap[l]? =some (.loop L)/\L.params.size=xs.length/\
   RoundIn Fence.wide 0 P l L.fn ((L.params.zip xs.toArray).foldl (fun tmps (t,a)=>tmps.setIfInBounds t a) L.tmps) L.assign L.body s.w (zu1 oc gl s v m')
theorem VRt.length {s:S}:∀(cs:List V) (xs:List Value),VRt s cs xs->cs.length=xs.length
 | [],_,h=>by simp only [VRt] at h;subst h;rfl
 | _::r,_,⟨x,ys,h1,_,h4⟩=>by subst h1;simp [VRt.length r ys h4]
theorem VRt.append {s:S}:∀(a:List V) (x:List Value) (b:List V) (y:List Value),VRt s a x->VRt s b y->VRt s (a++b) (x++y)
 | [],_,b,y,h,k=>by simp only [VRt] at h;subst h;exact k
 | _::r,_,b,y,⟨x,ys,h1,h3,h4⟩,k=>by subst h1;exact⟨x,ys++y,rfl,h3,VRt.append r ys b y h4 k⟩
theorem yka {s s':S} (hs:Sim oc gl s) (hw:s'.w=s.w) (him:s'.Im=s.Im):∀(cs:List V) (ds:List D) (xs:List Value),freezeL false s.m cs=some ds->VRt s cs xs->VRt s' (asV ds) xs
 | [],ds,xs,h,hv=>by simp only [freezeL,Option.some.injEq] at h;subst h;exact hv
 | v::r,ds,xs,h,hv=>by
  obtain⟨x,ys,rfl,h2,h3⟩:=hv
  simp only [freezeL] at h
  split at h
  ·rename_i d ds' e1 e2
   obtain rfl:=Option.some.inj h
   refine⟨x,ys,rfl,?_,yka hs hw him r ds' ys e2 h3⟩
   have:=zmo hs v d x e1 h2
   show DR s'.w s'.Im d x
   rw [hw,him];exact this
  ·cases h
def zky (gl:Globs) (o:Oper) (f:Opd) (args:List Opd):Bool:=
 match o.op with
 | .call c=>
  match c.callee with
  | .value g=>okX gl g f&&yk5 gl c.args.toList args
  | _=>false
 | _=>false
theorem zi6 [Clk] {f:Nat} {args:Array Value} {w:World} (h:Enters P f):(callFunc f args).run P w= .ok (.enter f args) w:=by
 obtain⟨fn,h1,h2,h3⟩:=h
 simp [callFunc,run_program,h1,h2,h3]
theorem yl8 {s:S} (hs:Sim oc gl s):Sim oc gl ⟨s.φ,[],s.w,s.Im⟩:=
 ⟨fun i o h=>by simp [look] at h,fun i j o o' b _ h=>by simp [look] at h,hs.imlt,hs.glob,fun g cs hg=>⟨fun i o h=>by simp [look] at h,(hs.tabs g cs hg).2⟩⟩
theorem zl5 [Clk] {F:Oracle} (hF:zsh P oc gl F) (hR:z0x P oc gl F) {s:S} {A:Act} {o:Oper} {e:Env} (hs:Sim oc gl s) (he:zcc s e A.tmps) (r:Option Nat) (cx:Cx) (slot:Nat) {shared imm:Bool} {f:Opd} {args:List Opd} {v:V} {m':Mem}
  (ok:zky gl o f args=true) (h:zks F cx slot shared imm (zpp (f.ev e)) (evs e args) s.m=some (v,m')):yna P oc gl r s A o v m':=by
 unfold zky at ok
 split at ok<;>try cases ok
 rename_i c ho
 split at ok<;>try cases ok
 rename_i g hc
 simp only [Bool.and_eq_true] at ok
 have hf:=za1 hs he ok.1
 have hargs:=zr9 hs he _ _ ok.2
 replace hf:=z00 hf
 generalize zpp (f.ev e)=vf at hf h
 generalize evs e args=vs at hargs h
 intro next Q hn
 refine⟨fun _ _=>trivial,?_⟩
 rw [Oper.semAt_eq _ _ _ (fun c' hc'=>by rw [ho] at hc';cases hc')]
 have hmap:(c.args.map A.eval).toList=c.args.toList.map A.eval:=by simp
 -- how a function is entered
 have enter:∀(fid:Nat) (xs ys:Array Value) (R:Ending->World->Prop),A.eval g= .func (.func fid) xs ys->Enters P fid->CallsIn Fence.wide 0 P fid (xs.toList++(c.args.toList.map A.eval)++ys.toList).toArray s.w R->
   (∀e' w',R e' w'->∃x,e'= .returned x/\next (A.put o.dst x) w')->o.uponIn (fen r) 0 P A next Q ((execOp A.eval o).run P s.w):=by
  intro fid xs ys R hg hen hcall hnext
  have hrun:(execOp A.eval o).run P s.w= .ok (.enter fid (xs++c.args.map A.eval++ys)) s.w:=by
   simp [execOp,ho,Go.resolve,hc,hg,Deferred.ofValue,invoke,zi6 hen]
  rw [hrun]
  refine⟨fun h=>by simp [fen] at h,?_⟩
  have harr:(xs.toList++(c.args.toList.map A.eval)++ys.toList).toArray=xs++c.args.map A.eval++ys:=by
   apply Array.ext';simp
  rw [harr] at hcall
  exact CallsIn.mono (F:=fen r) (n:=0) hcall fun e' w' hr=>by
   obtain⟨x,rfl,hx⟩:=hnext e' w' hr
   exact hx
 unfold zks at h
 split at h
 ·split at h<;>try cases h
  rename_i hlow
  split at h<;>try cases h
  rename_i v1 m1 hsh
  split at h<;>try cases h
  rename_i hids
  have back:∀e' w',zu1 oc gl s v1 m1 e' w'->∃x,e'= .returned x/\next (A.put o.dst x) w':=by
   rintro e' w' ⟨s1,x,rfl,rfl,k1,k2,rfl,k4⟩
   obtain⟨s',hw',q1,q2,q3,q4⟩:=yeg (zt6 k1 k2 hlow hids) h k4
   exact⟨x,rfl,hw'▸hn s' x q1 q2 q3 q4⟩
  unfold zhn at hsh
  split at hsh
  ·rename_i fid first caps
   split at hsh<;>try cases hsh
   rename_i v2 m2 hcall
   obtain⟨xs,ys,hg,hx,hy⟩:=hf
   obtain⟨hen,hgo⟩:=hF _ _ _ _ _ _ hcall
   exact enter fid xs ys _ hg hen (hgo s hs rfl _ (VRt.append _ _ _ _ (VRt.append _ _ _ _ hx hargs) hy)) back
  ·rename_i i
   split at hsh<;>try cases hsh
   rename_i v2 m2 hround
   obtain⟨⟨e1,ps,ca,cb,lv,bu,ov,j,hlo⟩,hgo⟩:=hR _ _ _ _ _ _ hround
   obtain⟨_,hy⟩:=hf
   rw [hlo] at hy
   obtain⟨l,hp,hg⟩:=hy
   obtain⟨L,hL,hsz,hgo⟩:=hgo s hs rfl _ hargs l hp
   have harr:(c.args.toList.map A.eval).toArray=c.args.map A.eval:=by apply Array.ext';simp
   rw [harr] at hgo
   have hsz':c.args.size=L.params.size:=by simpa using hsz.symm
   have hrun:(execOp A.eval o).run P s.w= .ok (.round l L.fn ((L.params.zip (c.args.map A.eval)).foldl (fun tmps (t,a)=>tmps.setIfInBounds t a) L.tmps) L.assign L.body) s.w:=by
    simp [execOp,ho,Go.resolve,hc,hg,Deferred.ofValue,invoke,Instr.yield,Instr.getLoop,getObj,Sem.run,hL,hsz']
   rw [hrun]
   refine⟨fun h=>by simp [fen] at h,?_⟩
   exact RoundIn.mono (F:=fen r) (n:=0) hgo fun e' w' hr=>by
    obtain⟨x,rfl,hx⟩:=back e' w' hr
    exact hx
  ·cases hsh
 ·split at h<;>try cases h
  rename_i fid first caps
  split at h<;>try cases h
  rename_i ds hfr
  split at h<;>try cases h
  rename_i v1 m1 hcall
  obtain⟨xs,ys,hg,hx,hy⟩:=hf
  obtain⟨hen,hgo⟩:=hF _ _ _ _ _ _ hcall
  have hv0:=yka (s':=⟨s.φ,[],s.w,s.Im⟩) hs rfl rfl _ _ _ hfr (VRt.append _ _ _ _ (VRt.append _ _ _ _ hx hargs) hy)
  refine enter fid xs ys _ hg hen (hgo ⟨s.φ,[],s.w,s.Im⟩ (yl8 hs) rfl _ hv0) ?_
  rintro e' w' ⟨s1,x,rfl,rfl,k1,k2,rfl,k4⟩
  obtain⟨s',hw',q1,q2,q3,q4⟩:=yeg (yji hs k1 k2) h k4
  exact⟨x,rfl,hw'▸hn s' x q1 q2 q3 q4⟩
end
end Go.Evl
namespace Go.Evl
open Go.RowKit
theorem zyc (F:Oracle) (cx:Cx) (o:CO) (r:List CO) (e:Env) (m:Mem):
  zh7 F cx (o::r) e m=(match zdr F cx e m o with
   | some (v,m')=>zh7 F cx r (put? e o.dst v) m'
   | none=>none):=rfl
section
variable {P : Program} {oc : zdj} {gl : Globs}
theorem yfr (f:Id->Ob->Ob):∀(m:Mem) (i:Id),look (m.map fun p=>(p.1,f p.1 p.2)) i=(look m i).map (f i)
 | [],_=>rfl
 | (j,o)::r,i=>by
  simp only [List.map_cons,look]
  split
  ·rename_i e;subst e;rfl
  ·exact yfr f r i
theorem z7k (m0:Mem):∀(a b:Mem),leM m0 a b=true->∀i,(look a i=none/\look b i=none)\/∃o o',look a i=some o/\look b i=some o'/\leO (look m0 i) o o'=true
 | [],[],_,_=> .inl ⟨rfl,rfl⟩
 | [],_::_,h,_=>by simp [leM] at h
 | _::_,[],h,_=>by simp [leM] at h
 | (j,o)::r,(k,o')::q,h,i=>by
  simp only [leM,Bool.and_eq_true,decide_eq_true_eq] at h
  obtain⟨⟨rfl,h1⟩,h2⟩:=h
  simp only [look]
  split
  ·rename_i e;subst e;exact .inr ⟨o,o',rfl,rfl,h1⟩
  ·exact z7k m0 r q h2 i
def zje:Ob->Option (List Nat×C×C×Nat)
 | .loop _ ps a b lv _ _ _=>some (ps,a,b,lv)
 | _=>none
theorem ypk {a b:Option ymy} (h:yl2 a b=true):a=b:=by
 cases a with
 | none=>cases b<;>simp [yl2] at h ⊢
 | some x=>
  cases b with
  | none=>cases x<;>simp [yl2] at h
  | some y=>cases x<;>cases y<;>simp [yl2] at h ⊢;exact h
def ys6 (o o':Ob):Prop:=o'=o\/(∃t sz n xs ys,o= .row true t sz n xs/\o'= .bag t sz n ys/\yuz sz n ys xs=true)\/∃es fs,o= .map es/\o'= .map fs/\ym9 fs/\es.Perm fs
theorem ye2:∀ {es:List (D×V)},yjx es=true->ym9 es
 | [],_=>List.Pairwise.nil
 | (k,v)::r,h=>by
  simp only [yjx,Bool.and_eq_true,List.all_eq_true] at h
  refine List.pairwise_cons.2 ⟨fun b hb=> ?_,ye2 h.2⟩
  have h1:=h.1 b hb
  split at h1
  ·rename_i e
   exact⟨e,by rw [z6z];exact e⟩
  ·cases h1
theorem ytm {es fs:List (D×V)} (h:(yre es fs||(yjx fs&&z57 es fs))=true):ys6 (.map es) (.map fs):=by
 rcases Bool.or_eq_true _ _▸h with h|h
 ·rw [ycg _ _ h];exact .inl rfl
 ·simp only [Bool.and_eq_true] at h
  exact .inr (.inr ⟨_,_,rfl,rfl,ye2 h.1,z2w _ _ h.2⟩)
theorem ytn {o0:Option Ob} {o o':Ob} (h:leO o0 o o'=true) (hc:∀c,o0.bind zje=some c->zje o=some c/\zje o'=some c):
  ys6 o o':=by
 unfold leO at h
 split at h<;>try cases h
 ·simp only [Bool.and_eq_true,decide_eq_true_eq] at h
  obtain⟨rfl,h⟩:=h
  rw [zns _ _ h];exact .inl rfl
 ·simp only [Bool.and_eq_true,decide_eq_true_eq] at h
  obtain⟨⟨⟨⟨rfl,rfl⟩,rfl⟩,rfl⟩,h⟩:=h
  rw [zfq _ _ h];exact .inl rfl
 ·simp only [Bool.and_eq_true,decide_eq_true_eq] at h
  obtain⟨⟨⟨rfl,rfl⟩,rfl⟩,h⟩:=h
  exact .inr (.inl ⟨_,_,_,_,_,rfl,rfl,h⟩)
 ·simp only [Bool.and_eq_true,decide_eq_true_eq] at h
  obtain⟨⟨⟨rfl,rfl⟩,rfl⟩,h⟩:=h
  rw [zfq _ _ h];exact .inl rfl
 ·exact ytm h
 ·simp only [Bool.and_eq_true,decide_eq_true_eq] at h
  obtain⟨rfl,rfl⟩:=h;exact .inl rfl
 ·split at h<;>try cases h
  simp only [Bool.and_eq_true,decide_eq_true_eq] at h
  obtain⟨⟨⟨h1,rfl⟩,rfl⟩,h2⟩:=h
  obtain⟨k1,k2⟩:=hc _ rfl
  simp only [zje,Option.some.injEq,Prod.mk.injEq] at k1 k2
  obtain⟨rfl,rfl,rfl,rfl⟩:=k1
  obtain⟨rfl,rfl,rfl,rfl⟩:=k2
  rw [yce _ _ h1,ypk h2];exact .inl rfl
 ·exact .inl rfl
theorem z9e {o o':Ob} {p q:Value} (t:za4 o o' p q) {c} (h:zje o=some c) (hl:isLoop o'=true):zje o'=some c:=by
 cases o<;>simp only [zje,reduceCtorEq] at h
 cases o'<;>simp only [isLoop,Bool.false_eq_true] at hl
 obtain⟨_,rfl,rfl,rfl,rfl⟩:=t
 exact h
theorem yjj (o0:Option Ob) (y:Ob) (h:isLoop (yp3 o0 y)=true):yp3 o0 y=y:=by
 cases y with
 | row wr t sz n xs=>
  cases wr with
  | false=>rfl
  | true=>
   exfalso
   have hb:isLoop (yp3 o0 (.row true t sz n xs))=false:=by
    cases o0 with
    | none=>rfl
    | some x=>
     cases x with
     | row w _ _ n0 _=>
      cases w with
      | false=>rfl
      | true=>
       show isLoop (if n0=n then _ else _)=false
       split<;>rfl
     | _=>rfl
   rw [hb] at h;cases h
 | _=>rfl
theorem yha (bag:Bool) (o0:Option Ob) (o:Ob) {c} (h:o0.bind zje=some c) (hl:isLoop (if bag then yp3 o0 (yhg o0 o) else yhg o0 o)=true):zje (if bag then yp3 o0 (yhg o0 o) else yhg o0 o)=some c:=by
 have key:isLoop (yhg o0 o)=true->zje (yhg o0 o)=some c:=by
  intro hl
  cases o with
  | loop e ps a b lv bu ov j=>
   cases o0 with
   | none=>simp at h
   | some x=>
    cases x<;>simp only [Option.bind_some,zje,reduceCtorEq] at h
    exact h
  | _=>simp [yhg,isLoop] at hl
 cases bag with
 | false=>exact key hl
 | true=>
  simp only [if_true] at hl ⊢
  have e:=yjj o0 _ hl
  rw [e] at hl ⊢
  exact key hl
theorem yfn {o0:Option Ob} {o o':Ob} (h:leO o0 o o'=true):isLoop o=isLoop o'/\(isLoop o=true->∃c,o0.bind zje=some c)/\(o= .gone↔o'= .gone):=by
 unfold leO at h
 split at h
 case h_7=>
  split at h<;>first |cases h|skip
  exact⟨rfl,fun _=>⟨_,rfl⟩,by simp⟩
 case h_9=>cases h
 all_goals exact⟨rfl,fun e=>by simp [isLoop] at e,by simp⟩
theorem ykj {o0:Option Ob} {o o':Ob} (h:leO o0 o o'=true) (hl:isLoop o=false):ys6 o o':=by
 unfold leO at h
 split at h<;>first |cases h|skip
 ·simp only [Bool.and_eq_true,decide_eq_true_eq] at h
  obtain⟨rfl,h⟩:=h
  rw [zns _ _ h];exact .inl rfl
 ·simp only [Bool.and_eq_true,decide_eq_true_eq] at h
  obtain⟨⟨⟨⟨rfl,rfl⟩,rfl⟩,rfl⟩,h⟩:=h
  rw [zfq _ _ h];exact .inl rfl
 ·simp only [Bool.and_eq_true,decide_eq_true_eq] at h
  obtain⟨⟨⟨rfl,rfl⟩,rfl⟩,h⟩:=h
  exact .inr (.inl ⟨_,_,_,_,_,rfl,rfl,h⟩)
 ·simp only [Bool.and_eq_true,decide_eq_true_eq] at h
  obtain⟨⟨⟨rfl,rfl⟩,rfl⟩,h⟩:=h
  rw [zfq _ _ h];exact .inl rfl
 ·exact ytm h
 ·simp only [Bool.and_eq_true,decide_eq_true_eq] at h
  obtain⟨rfl,rfl⟩:=h;exact .inl rfl
 ·simp [isLoop] at hl
 ·exact .inl rfl
theorem yfk [Clk] {s s1:S} (hs1:Sim oc gl s1) (hE:∀i o,look s.m i=some o->∃o',look s1.m i=some o'/\za4 o o' (s.φ i) (s1.φ i)) {mm:Mem}
  (hco:∀i o',look mm i=some o'->∀c,(look s.m i).bind zje=some c->isLoop o'=true->zje o'=some c) (hle:leM s.m s1.m mm=true):
  Sim oc gl ⟨s1.φ,mm,s1.w,s1.Im⟩/\Ext (fun _=>True) s1 ⟨s1.φ,mm,s1.w,s1.Im⟩:=by
 have step:∀i o o',look s1.m i=some o->look mm i=some o'->leO (look s.m i) o o'=true->ys6 o o':=by
  intro i o o' ho ho' hl
  obtain⟨l1,l2,l3⟩:=yfn hl
  cases hb:isLoop o with
  | false=>exact ykj hl hb
  | true=>
   refine ytn hl fun c hc=> ?_
   constructor
   ·cases h0:look s.m i with
    | none=>rw [h0] at hc;simp at hc
    | some x=>
     rw [h0] at hc
     obtain⟨o1,h1,t1⟩:=hE i x h0
     rw [ho] at h1
     obtain rfl:=Option.some.inj h1
     exact z9e t1 hc hb
   ·exact hco i o' ho' c hc (l1▸hb)
 have both:∀i o',look (mm) i=some o'->∃o,look s1.m i=some o/\(o= .gone↔o'= .gone)/\ys6 o o':=by
  intro i o' ho'
  rcases z7k _ _ _ hle i with⟨_,h2⟩|⟨o,o2,h1,h2,h3⟩
  ·rw [h2] at ho';cases ho'
  ·rw [h2] at ho'
   obtain rfl:=Option.some.inj ho'
   exact⟨o,h1,(yfn h3).2.2,step i o o2 h1 h2 h3⟩
 have hE2:Ext (fun _=>True) s1 ⟨s1.φ,mm,s1.w,s1.Im⟩:=by
  refine⟨rfl,Tk.of,rfl,Nat.le_refl _,fun b _ hf=>⟨rfl,fun i o' ho' hg=> ?_⟩,fun b j hi=> .inl hi,fun _ _ hi=>hi,fun _ _ _=>rfl,fun i o _ ho=> ?_⟩
  ·obtain⟨o,h1,h2,_⟩:=both i o' ho'
   exact hf i o h1 (fun e=>hg (h2.1 e))
  ·rcases z7k _ _ _ hle i with⟨h1,_⟩|⟨o1,o2,h1,h2,h3⟩
   ·rw [h1] at ho;cases ho
   ·rw [h1] at ho
    obtain rfl:=Option.some.inj ho
    refine⟨o2,h2,?_⟩
    rcases step i o1 o2 h1 h2 h3 with rfl|⟨t,sz,n,xs,ys,rfl,rfl,_⟩|⟨es,fs,rfl,rfl,_,_⟩
    ·exact za4.refl _ _
    ·exact⟨rfl,rfl,rfl,Nat.le_refl _,fun _=>rfl⟩
    ·rfl
 refine⟨⟨fun i o' ho'=> ?_,fun i j o o' b hij hi hj' hg hg'=> ?_,hs1.imlt,hs1.glob,hs1.tabs.ext hE2⟩,hE2⟩
 ·obtain⟨o,h1,_,h3⟩:=both i o' ho'
  have h4:=ObR.ext hE2 (p:=s1.φ i) (fun b _=>⟨rfl,fun _ hj=>hj⟩) (hs1.objs i o h1)
  rcases h3 with rfl|⟨t,sz,n,xs,ys,rfl,rfl,hb⟩|⟨es,fs,rfl,rfl,hd,hp⟩
  ·exact h4
  rotate_left
  ·obtain⟨b,ces,clock,h5,h6,h7,h8⟩:=h4
   exact⟨b,ces,clock,h5,h6,h7.perm hd hp h8.2.2,h8⟩
  ·obtain⟨hz,vs,hown,hd,hi⟩:=h4
   simp only [yuz,Bool.and_eq_true,decide_eq_true_eq] at hb
   exact⟨hz,xs,vs,⟨hb.1.1,hb.1.2,z56 _ _ hb.2⟩,hown,hd,fun b hb j hj=>by have:=(hi b hb j).1 hj;simp at this⟩
 ·obtain⟨o1,h1,h2,_⟩:=both i o hi
  obtain⟨o2,k1,k2,_⟩:=both j o' hj'
  exact hs1.apart i j o1 o2 b hij h1 k1 (fun e=>hg (h2.1 e)) (fun e=>hg' (k2.1 e))
theorem yfl [Clk] {s s1:S} (hs1:Sim oc gl s1) (hE:∀i o,look s.m i=some o->∃o',look s1.m i=some o'/\za4 o o' (s.φ i) (s1.φ i)) (bag:Bool) {m:Mem} (hle:leM s.m s1.m (ztl bag s.m m)=true):
  Sim oc gl ⟨s1.φ,ztl bag s.m m,s1.w,s1.Im⟩/\Ext (fun _=>True) s1 ⟨s1.φ,ztl bag s.m m,s1.w,s1.Im⟩:=by
 refine yfk hs1 hE (fun i o' ho' c hc hl=> ?_) hle
 have hj:look (ztl bag s.m m) i=(look m i).map fun o=>if bag then yp3 (look s.m i) (yhg (look s.m i) o) else yhg (look s.m i) o:=
  yfr (fun i o=>if bag then yp3 (look s.m i) (yhg (look s.m i) o) else yhg (look s.m i) o) m i
 rw [hj] at ho'
 obtain⟨x,_,rfl⟩:=Option.map_eq_some_iff.1 ho'
 exact yha bag _ x hc hl
theorem z1v (sz:Nat):∀(n:Nat) (ds:List D),ds.length=n*sz->(zto sz n ds).flatten=ds
 | 0,ds,h=>by
  have:ds=[]:=List.eq_nil_of_length_eq_zero (by omega)
  subst this;rfl
 | n+1,ds,h=>by
  simp only [zto,List.flatten_cons]
  rw [z1v sz n (ds.drop sz) (by rw [List.length_drop,h,Nat.succ_mul];omega),List.take_append_drop]
theorem yg6 [Clk] {s:S} {A:Act} {o:Oper} {e:Env} (hs:Sim oc gl s) (he:zcc s e A.tmps) {r:Option Nat} {run:Mem->Option (V×Mem)} {t:Nat} {v:V} {m':Mem}
  (hrun:∀s1,Sim oc gl s1->zcc s1 e A.tmps->∀v m1,run s1.m=some (v,m1)->yna P oc gl r s1 A o v m1) (h:zx8 run s.m (get e t)=some (v,m')):yna P oc gl r s A o v m':=by
 unfold zx8 at h
 split at h
 ·rename_i i off len top hv
  split at h
  ·rename_i t' sz n xs hl
   split at h<;>try cases h
   rename_i hlen
   obtain⟨⟨v1,m1⟩,h1,h⟩:=Option.bind_eq_some_iff.1 h
   obtain⟨rs,hrs,h⟩:=Option.bind_eq_some_iff.1 h
   unfold yeq at h
   split at h
   case isFalse=>cases h
   rename_i hall
   simp only [Option.some.injEq,Prod.mk.injEq] at h
   obtain⟨rfl,rfl⟩:=h
   obtain⟨hz,ds',vs,hp,hown,hd,him⟩:=hs.objs i _ hl
   -- the row as it lies
   have hmem:zto sz n ds'∈ydf (zto sz n xs):=(z2l _ _).2 hp.2.2.symm
   obtain⟨⟨v2,m2⟩,hin,h2⟩:=z6p hrs _ hmem
   rw [z1v sz n ds' hp.2.1] at h2
   have hthis:=List.all_eq_true.1 hall _ hin
   simp only [Bool.and_eq_true] at hthis
   obtain⟨hv2,hm2⟩:=hthis
   obtain rfl:=zya _ _ hv2
   obtain⟨k1,k2⟩:=hs.change i (.row true t' sz n ds') (s.φ i) s.w s.Im rfl Tk.of rfl (Nat.le_refl _) (fun _ _ _=>rfl) (fun _ _ h=>h) (fun _ _ _=>rfl) (fun _ _ h=> .inl h) hs.imlt
    (fun b hb=> .inr ⟨⟨_,hl,by simp⟩,hb⟩) (fun o ho=>by rw [hl] at ho;cases ho;exact⟨rfl,rfl,Nat.le_refl _,fun _=>rfl⟩)
    (fun hE=>⟨hz,vs,hown,DRs.ext hE.im hE.keep _ _ hd,fun b hb j=>⟨fun hj=>absurd hj (him b hb j),fun hj=>by simp at hj⟩⟩)
   rw [zsv] at k1 k2
   have hgo:=hrun _ k1 (zcc.ext k2 (fun _ _ _=>trivial) he) v2 m2 h2
   intro next Q hn
   refine hgo next Q fun s' x q1 q2 q3 q4=> ?_
   subst q3
   obtain⟨j1,j2⟩:=yfl (s:=s) q1 (fun i o ho=>(Ext.trans k2 q2 (fun _ _=>trivial)).objs i o trivial ho) false hm2
   exact hn ⟨s'.φ,ztl false s.m m1,s'.w,s'.Im⟩ x j1 (Ext.trans (Ext.trans k2 q2 (fun _ _=>trivial)) j2 (fun _ _=>trivial)) rfl (VR.ext j2 _ _ (fun _ _=>trivial) q4)
  ·exact hrun s hs he v m' h
 ·exact hrun s hs he v m' h
theorem zyq:∀(σ:List (Id×Id)) (a b:Id),(∀a a' b,(a,b)∈σ->(a',b)∈σ->a=a')->(a,b)∈σ->subst (znc σ) b=a
 | [],_,_,_,h=>by simp at h
 | (x,y)::r,a,b,hu,h=>by
  simp only [znc,List.map_cons,subst]
  by_cases e:y=b
  ·subst e
   rw [if_pos rfl]
   exact hu x a y (by simp) h
  ·rw [if_neg e]
   have h':(a,b)∈r:=by
    simp only [List.mem_cons,Prod.mk.injEq] at h
    rcases h with⟨_,h⟩|h
    ·exact absurd h.symm e
    ·exact h
   exact zyq r a b (fun a a' b h1 h2=>hu a a' b (by simp [h1]) (by simp [h2])) h'
mutual
theorem yf9 {σ τ:List (Id×Id)} {is:List Id} (h:∀i∈is,subst τ (subst σ i)=i):∀v:V,(∀i∈ids v,i∈is)->ren τ (ren σ v)=v
 | .d _,_=>rfl
 | .agg cs,hk=>by simp only [Evl.ren];rw [zpn h cs (by simpa only [ids] using hk)]
 | .tup cs,hk=>by simp only [Evl.ren];rw [zpn h cs (by simpa only [ids] using hk)]
 | .ref o a b c,hk=>by simp only [Evl.ren];rw [h o (hk o (by simp [ids]))]
 | .ptr o a b,hk=>by simp only [Evl.ren];rw [h o (hk o (by simp [ids]))]
 | .lptr _ _,_=>rfl
 | .cl _ _,_=>rfl
 | .fn f a b,hk=>by simp only [Evl.ren];rw [zpn h a (fun i hi=>hk i (by simp [ids,hi])),zpn h b (fun i hi=>hk i (by simp [ids,hi]))]
 | .yld o,hk=>by simp only [Evl.ren];rw [h o (hk o (by simp [ids]))]
 | .mp o,hk=>by simp only [Evl.ren];rw [h o (hk o (by simp [ids]))]
 | .it o,hk=>by simp only [Evl.ren];rw [h o (hk o (by simp [ids]))]
 | .skip,_=>rfl
 | .undef,_=>rfl
theorem zpn {σ τ:List (Id×Id)} {is:List Id} (h:∀i∈is,subst τ (subst σ i)=i):∀cs:List V,(∀i∈idsL cs,i∈is)->renL τ (renL σ cs)=cs
 | [],_=>rfl
 | v::r,hk=>by
  simp only [renL]
  rw [yf9 h v (fun i hi=>hk i (by simp [idsL,hi])),zpn h r (fun i hi=>hk i (by simp [idsL,hi]))]
end
mutual
theorem yke (σ:List (Id×Id)):∀v:V,ids (ren σ v)=(ids v).map (subst σ)
 | .d _=>rfl
 | .agg cs=>by simp only [Evl.ren,ids];exact zsp σ cs
 | .tup cs=>by simp only [Evl.ren,ids];exact zsp σ cs
 | .ref .. =>rfl
 | .ptr .. =>rfl
 | .lptr _ _=>rfl
 | .cl _ _=>rfl
 | .fn f a b=>by simp only [Evl.ren,ids,List.map_append];rw [zsp σ a,zsp σ b]
 | .yld _=>rfl
 | .mp _=>rfl
 | .it _=>rfl
 | .skip=>rfl
 | .undef=>rfl
theorem zsp (σ:List (Id×Id)):∀cs:List V,idsL (renL σ cs)=(idsL cs).map (subst σ)
 | []=>rfl
 | v::r=>by simp only [renL,idsL,List.map_append];rw [yke σ v,zsp σ r]
end
theorem yfc (σ:List (Id×Id)):∀es:List (D×V),idsM (ydh σ es)=(idsM es).map (subst σ)
 | []=>rfl
 | (_,v)::r=>by simp only [ydh,idsM,List.map_append];rw [yke σ v,yfc σ r]
theorem yan {σ τ:List (Id×Id)} {is:List Id} (h:∀i∈is,subst τ (subst σ i)=i):∀es:List (D×V),(∀i∈idsM es,i∈is)->ydh τ (ydh σ es)=es
 | [],_=>rfl
 | (k,v)::r,hk=>by
  simp only [ydh]
  rw [yf9 h v (fun i hi=>hk i (by simp [idsM,hi])),yan h r (fun i hi=>hk i (by simp [idsM,hi]))]
theorem ylm {σ τ:List (Id×Id)} {is:List Id} (h:∀i∈is,subst τ (subst σ i)=i) (o:Ob) (hl:isLoop o=false) (hk:∀i∈idsO o,i∈is):renO τ (renO σ o)=o:=by
 cases o with
 | cells t cs=>simp only [renO];rw [zpn h cs hk]
 | map es=>simp only [renO];rw [yan h es hk]
 | loop=>simp [isLoop] at hl
 | _=>rfl
theorem yn2 (σ:List (Id×Id)) (o:Ob) (hl:isLoop o=false):idsO (renO σ o)=(idsO o).map (subst σ):=by
 cases o with
 | cells t cs=>exact zsp σ cs
 | map es=>exact yfc σ es
 | loop=>simp [isLoop] at hl
 | _=>rfl
theorem z5j (σ:List (Id×Id)) (o:Ob):isLoop (renO σ o)=isLoop o:=by cases o<;>rfl
theorem z5l (m1:Mem):∀(m:Mem),z90 m1 m=true->∀i o,look m i=some o->look m1 i=some o/\isLoop o=false/\o≠ .gone
 | [],_,i,o,h=>by simp [look] at h
 | (j,x)::r,h,i,o,hl=>by
  simp only [z90,Bool.and_eq_true] at h
  obtain⟨h1,h2⟩:=h
  simp only [look] at hl
  split at hl
  ·rename_i e;subst e
   obtain rfl:=Option.some.inj hl
   split at h1
   ·rename_i o' ho
    have:=ypl _ _ h1
    subst this
    refine⟨ho,?_,?_⟩
    ·cases x<;>first |rfl|(simp [ydt] at h1)
    ·rintro rfl;simp [ydt] at h1
   ·cases h1
  ·exact z5l m1 r h2 i o hl
theorem yh0 [Clk] {s:S} (hs:Sim oc gl s) {as1:List V} {is:List Id} (hw:within is 0 (idsL as1)=true) (hmv:movable is 0 s.m=true) {xs:List Value} (hv:VRt s as1 xs):
  ∃s0:S,s0.m=moved (number ⟨0,0⟩ 0 0 is) s.m (number ⟨0,0⟩ 0 0 is)/\s0.w=s.w/\Sim oc gl s0/\VRt s0 (renL (number ⟨0,0⟩ 0 0 is) as1) xs/\
   ∀(s1:S) (v:V) (x:Value),Sim oc gl s1->Ext (fun _=>True) s0 s1->z90 s1.m (moved (number ⟨0,0⟩ 0 0 is) s.m (number ⟨0,0⟩ 0 0 is))=true->
    (ids v).all (fun i=>((number ⟨0,0⟩ 0 0 is).map (·.2)).elem i)=true->VR s1 v x->
    ∃s':S,s'.w=s1.w/\Sim oc gl s'/\Ext (fun _=>True) s s'/\s'.m=s.m/\VR s' (ren (znc (number ⟨0,0⟩ 0 0 is)) v) x:=by
 obtain⟨σ,hσ⟩:∃σ,σ=number ⟨0,0⟩ 0 0 is:=⟨_,rfl⟩
 rw [<-hσ]
 simp only [movable,Bool.and_eq_true,List.all_eq_true] at hmv
 obtain⟨honce,hall⟩:=hmv
 have inj:∀a a' b,(a,b)∈σ->(a',b)∈σ->a=a':=by subst hσ;exact z7p _ _ is 0
 have isin:∀a b,(a,b)∈σ->a∈is:=by subst hσ;exact fun a b h=>(zr8 _ _ is 0 a b h).1
 have sub:∀i∈is,(i,subst σ i)∈σ:=by subst hσ;exact zw1 _ _ is 0
 have only:∀a b,(a,b)∈σ->b=subst σ a:=by subst hσ;exact fun a b=>z0j _ _ is 0 a b honce
 have obj:∀i∈is,∃o,look s.m i=some o/\(∀j∈idsO o,j∈is)/\isLoop o=false:=by
  intro i hi
  have:=hall i hi
  split at this
  ·rename_i o ho
   simp only [Bool.and_eq_true,within,List.all_eq_true,Bool.or_eq_true,List.elem_eq_mem,decide_eq_true_eq,Bool.not_eq_true'] at this
   exact⟨o,ho,fun j hj=>(this.1.1 j hj).resolve_right (Nat.not_lt_zero _),this.1.2⟩
  ·cases this
 have hids:∀i∈idsL as1,i∈is:=by
  have h:∀i∈idsL as1,i∈is\/i.lv<0:=by
   simpa only [within,List.all_eq_true,Bool.or_eq_true,List.elem_eq_mem,decide_eq_true_eq] using hw
  exact fun i hi=>(h i hi).resolve_right (Nat.not_lt_zero _)
 let φ0:Id->Value:=fun i=>match σ.find? (fun p=>decide (p.2=i)) with
  | some p=>s.φ p.1
  | none=>undef
 have φnew:∀a b,(a,b)∈σ->φ0 b=s.φ a:=by
  intro a b hab
  show (match σ.find? (fun p=>decide (p.2=b)) with|some p=>s.φ p.1|none=>undef)=_
  cases hf:σ.find? (fun p=>decide (p.2=b)) with
  | none=>exact absurd (List.find?_eq_none.1 hf _ hab) (by simp)
  | some p=>
   have h1:=List.find?_some hf
   have h2:=List.mem_of_find?_eq_some hf
   simp only [decide_eq_true_eq] at h1
   obtain⟨p1,p2⟩:=p
   simp only at h1
   subst h1
   simp only
   rw [inj p1 a p2 h2 hab]
 let s0:S:=⟨φ0,moved σ s.m σ,s.w,s.Im⟩
 have lnew:∀a b o,(a,b)∈σ->look s.m a=some o->look s0.m b=some (renO σ o):=fun a b o hab ho=>zsr σ s.m σ a b o (fun a' h=>inj a' a b h hab) hab ho
 have lany:∀i o,look s0.m i=some o->∃a o',(a,i)∈σ/\look s.m a=some o'/\o=renO σ o':=fun i o hi=>zl3 σ s.m σ i o hi
 have ngone:∀o,renO σ o≠ .gone->o≠ .gone:=fun o h e=>h (by rw [e];rfl)
 have hren:Ren σ (fun i=>i∈is) s s0:=by
  refine⟨fun _ _ h=>h,fun _ _ _=>rfl,fun i o hi ho=> ?_⟩
  have hab:=sub i hi
  refine⟨_,lnew i _ o hab ho,?_⟩
  show za4 o _ (s.φ i) (φ0 (subst σ i))
  rw [φnew _ _ hab]
  exact za4.renO σ o _
 -- who is free among all is free here
 have free0:∀b,zuz s b->zuz s0 b:=by
  intro b hf i o hi hg
  obtain⟨a,o',hab,ho',rfl⟩:=lany i o hi
  show blk (φ0 i)≠some b
  rw [φnew a i hab]
  exact hf a o' ho' (ngone _ hg)
 have sim0:Sim oc gl s0:=by
  refine⟨fun i o hi=> ?_,fun i j o o' b hij hi hj hg hg' hb=> ?_,hs.imlt,hs.glob,fun g cs hg=> ?_⟩
  ·obtain⟨a,o',hab,ho',rfl⟩:=lany i o hi
   show ObR oc s0 (φ0 i) _
   rw [φnew a i hab]
   obtain⟨o2,h1,h2,h3⟩:=obj a (isin a i hab)
   rw [ho'] at h1
   obtain rfl:=Option.some.inj h1
   exact ObR.ren hren h2 h3 (fun b _=>⟨rfl,fun _ h=>h⟩) (hs.objs a _ ho')
  ·obtain⟨a,o1,hab,ho1,rfl⟩:=lany i o hi
   obtain⟨a',o2,hab',ho2,rfl⟩:=lany j o' hj
   have hb:blk (φ0 i)=some b:=hb
   show blk (φ0 j)≠some b
   rw [φnew a i hab] at hb
   rw [φnew a' j hab']
   refine hs.apart a a' o1 o2 b (fun e=>hij ?_) ho1 ho2 (ngone _ hg) (ngone _ hg') hb
   subst e
   rw [only _ _ hab,only _ _ hab']
  ·obtain⟨h1,h2⟩:=hs.tabs g cs hg
   exact⟨free0 g h1,h2⟩
 refine⟨s0,rfl,rfl,sim0,VRt.ren hren as1 xs hids hv,fun s1 v x h1 hE hk hvids hvx=> ?_⟩
 have hkl:=z5l s1.m _ hk
 -- an object of the question's, as it was and as it is
 have same:∀a b o,(a,b)∈σ->look s.m a=some o->look s1.m b=some (renO σ o)/\s1.φ b=s.φ a/\isLoop o=false/\o≠ .gone:=by
  intro a b o hab ho
  have h0:=lnew a b o hab ho
  obtain⟨k1,k2,k3⟩:=hkl b _ h0
  obtain⟨o',ho',ht⟩:=hE.objs b _ trivial h0
  rw [k1] at ho'
  obtain rfl:=Option.some.inj ho'
  have hφ:s0.φ b=s.φ a:=φnew a b hab
  rw [z5j] at k2
  refine⟨k1,?_,k2,ngone _ k3⟩
  rw [<-hφ]
  cases o<;>simp only [renO,za4] at ht
  ·exact ht.1
  ·exact ht.2.2.2.2 trivial
  ·exact ht.2.2.2 trivial
  ·exact ht
  ·exact ht
  ·simp [isLoop] at k2
  ·exact ht
 have hback:∀i∈is,subst (znc σ) (subst σ i)=i:=fun i hi=>zyq σ i _ inj (sub i hi)
 have hτ:Ren (znc σ) (fun i=>∃a∈is,i=subst σ a) s1 ⟨s.φ,s.m,s1.w,s1.Im⟩:=by
  refine⟨fun _ _ h=>h,fun _ _ _=>rfl,?_⟩
  rintro i o ⟨a,ha,rfl⟩ ho
  obtain⟨o2,h2,_,_⟩:=obj a ha
  obtain⟨k1,k2,k3,_⟩:=same a _ o2 (sub a ha) h2
  rw [k1] at ho
  obtain rfl:=Option.some.inj ho
  rw [hback a ha]
  refine⟨o2,h2,?_⟩
  rw [k2]
  cases o2<;>simp [za4,Evl.renO,zqe,isLoop] at k3 ⊢
 have hE':Ext (fun _=>True) s ⟨s.φ,s.m,s1.w,s1.Im⟩:=
  ⟨hE.os,hE.tape,hE.output,hE.size,fun b hb hf=>⟨(hE.frame b hb (free0 b hf)).1,hf⟩,fun b j h=>by
   rcases hE.imnew b j h with h|h|h
   ·exact .inl h
   ·exact .inr (.inl h)
   ·exact .inr (.inr fun hf=>h (free0 b hf)),hE.im,hE.keep,fun i o _ ho=>⟨o,ho,za4.refl _ _⟩⟩
 refine⟨⟨s.φ,s.m,s1.w,s1.Im⟩,rfl,⟨fun i o hi=> ?_,hs.apart,h1.imlt,h1.glob,hs.tabs.ext hE'⟩,hE',rfl,?_⟩
 ·by_cases hmem:i∈is
  ·obtain⟨o2,h2,h3,h4⟩:=obj i hmem
   have hi:look s.m i=some o:=hi
   rw [hi] at h2
   obtain rfl:=Option.some.inj h2
   obtain⟨k1,k2,_,_⟩:=same i _ o (sub i hmem) hi
   have hob:=h1.objs _ _ k1
   rw [k2] at hob
   have:=ObR.ren hτ (o:=renO σ o) (by
    rw [yn2 σ o h4]
    intro j hj
    obtain⟨a,ha,rfl⟩:=List.mem_map.1 hj
    exact⟨a,h3 a ha,rfl⟩) (by rw [z5j];exact h4) (fun b _=>⟨rfl,fun _ h=>h⟩) hob
   rw [ylm hback o h4 h3] at this
   exact this
  ·by_cases hg:o= .gone
   ·subst hg;trivial
   have hfree:∀b,blk (s.φ i)=some b->zuz s0 b:=by
    intro b hb j o' hj hg'
    obtain⟨a,o2,hab,ho2,rfl⟩:=lany j o' hj
    show blk (φ0 j)≠some b
    rw [φnew a j hab]
    exact hs.apart i a o o2 b (fun e=>hmem (e▸isin a j hab)) hi ho2 hg (ngone _ hg') hb
   refine ObR.ext hE' (fun b hb=> ?_) (hs.objs i o hi)
   have hlt:=(hs.objs i o hi).blk_lt hg hb
   refine⟨(hE.frame b hlt (hfree b hb)).1,fun j h=> ?_⟩
   rcases hE.imnew b j h with h|h|h
   ·exact h
   ·have h:s.w.heap.size<=b:=h
    omega
   ·exact absurd (hfree b hb) h
 ·refine VR.ren hτ v x (fun i hi=> ?_) hvx
  simp only [List.all_eq_true,List.elem_eq_mem,decide_eq_true_eq,List.mem_map] at hvids
  obtain⟨⟨a,b⟩,hab,rfl⟩:=hvids i hi
  exact⟨a,isin a b hab,only a b hab⟩
theorem yd7 [Clk] {F:Oracle} (hF:zsh P oc gl F) {s:S} {A:Act} {o:Oper} {e:Env} (hs:Sim oc gl s) (he:zcc s e A.tmps) (r:Option Nat) {f:Opd} {args:List Opd} {v:V}
  (ok:zky gl o f args=true) (h:zwg F (zpp (f.ev e)) (evs e args) s.m=some v):yna P oc gl r s A o v s.m:=by
 unfold zky at ok
 split at ok<;>try cases ok
 rename_i c ho
 split at ok<;>try cases ok
 rename_i g hc
 simp only [Bool.and_eq_true] at ok
 have hf:=za1 hs he ok.1
 have hargs:=zr9 hs he _ _ ok.2
 replace hf:=z00 hf
 generalize zpp (f.ev e)=vf at hf h
 generalize evs e args=vs at hargs h
 intro next Q hn
 refine⟨fun _ _=>trivial,?_⟩
 rw [Oper.semAt_eq _ _ _ (fun c' hc'=>by rw [ho] at hc';cases hc')]
 have enter:∀(fid:Nat) (xs ys:Array Value) (R:Ending->World->Prop),A.eval g= .func (.func fid) xs ys->Enters P fid->CallsIn Fence.wide 0 P fid (xs.toList++(c.args.toList.map A.eval)++ys.toList).toArray s.w R->
   (∀e' w',R e' w'->∃x,e'= .returned x/\next (A.put o.dst x) w')->o.uponIn (fen r) 0 P A next Q ((execOp A.eval o).run P s.w):=by
  intro fid xs ys R hg hen hcall hnext
  have hrun:(execOp A.eval o).run P s.w= .ok (.enter fid (xs++c.args.map A.eval++ys)) s.w:=by
   simp [execOp,ho,Go.resolve,hc,hg,Deferred.ofValue,invoke,zi6 hen]
  rw [hrun]
  refine⟨fun h=>by simp [fen] at h,?_⟩
  have harr:(xs.toList++(c.args.toList.map A.eval)++ys.toList).toArray=xs++c.args.map A.eval++ys:=by
   apply Array.ext';simp
  rw [harr] at hcall
  exact CallsIn.mono (F:=fen r) (n:=0) hcall fun e' w' hr=>by
   obtain⟨x,rfl,hx⟩:=hnext e' w' hr
   exact hx
 unfold zwg at h
 split at h<;>try cases h
 rename_i fid first caps
 simp only at h
 split at h
 case isFalse=>cases h
 rename_i hcond
 simp only [Bool.and_eq_true] at hcond
 split at h<;>try cases h
 rename_i v1 m1 hcall
 split at h
 case isFalse=>cases h
 rename_i hk
 simp only [Bool.and_eq_true] at hk
 obtain rfl:=Option.some.inj h
 obtain⟨xs,ys,hg,hx,hy⟩:=hf
 obtain⟨hen,hgo⟩:=hF _ _ _ _ _ _ hcall
 obtain⟨s0,hm0,hw0,hs0,hv0,hend⟩:=yh0 hs hcond.1 hcond.2 (VRt.append _ _ _ _ (VRt.append _ _ _ _ hx hargs) hy)
 have hgo:=hgo s0 hs0 hm0 _ hv0
 rw [hw0] at hgo
 refine enter fid xs ys _ hg hen hgo ?_
 rintro e' w' ⟨s1,x,rfl,rfl,k1,k2,rfl,k4⟩
 obtain⟨s',hw',q1,q2,q3,q4⟩:=hend s1 v1 x k1 k2 hk.1 hk.2 k4
 exact⟨x,rfl,hw'▸hn s' x q1 q2 q3 q4⟩
theorem za4.back {σ τ:List (Id×Id)} {o o1:Ob} {p q:Value} (h:za4 (Evl.renO σ o) o1 p q) (hu:okU o1=true):za4 o (Evl.renO τ o1) p q:=by
 cases o<;>cases o1<;>simp [okU] at hu<;>simp only [Evl.renO,za4,zqe] at h ⊢ <;>exact h
theorem z4z (σ:List (Id×Id)) (m1:Mem):∀(l:List (Id×Id)) (m m':Mem),(∀a b b',(a,b)∈l->(a,b')∈l->b=b')->zt5 σ m1 l m=some m'->
  (∀a b,(a,b)∈l->∃o,look m1 b=some o/\okU o=true/\(∀j∈idsO o,(σ.map (·.2)).elem j=true)/\look m' a=some (renO (znc σ) o))/\∀i,(∀b,(i,b)∉l)->look m' i=look m i
 | [],m,m',_,h=>by
  simp only [zt5,Option.some.injEq] at h
  subst h
  exact⟨fun a b h=>by simp at h,fun _ _=>rfl⟩
 | (a0,b0)::r,m,m',hf,h=>by
  simp only [zt5] at h
  split at h
  case h_2=>cases h
  rename_i o ho
  split at h
  case isFalse=>cases h
  rename_i hc
  simp only [Bool.and_eq_true,List.all_eq_true] at hc
  obtain⟨h1,h2⟩:=z4z σ m1 r _ m' (fun a b b' h h'=>hf a b b' (by simp [h]) (by simp [h'])) h
  refine⟨fun a b hab=> ?_,fun i hi=> ?_⟩
  ·by_cases hr:∃b',(a,b')∈r
   ·obtain⟨b',hb'⟩:=hr
    have e:=hf a b b' hab (by simp [hb'])
    subst e
    exact h1 a b hb'
   ·have hab':a=a0/\b=b0:=by
     simp only [List.mem_cons,Prod.mk.injEq] at hab
     exact hab.resolve_right fun h=>hr ⟨b,h⟩
    obtain⟨rfl,rfl⟩:=hab'
    refine⟨o,ho,hc.1,hc.2,?_⟩
    rw [h2 a fun b' hb'=>hr ⟨b',hb'⟩]
    exact za6 _ _ _
  ·rw [h2 i fun b hb=>hi b (by simp [hb])]
   exact zay _ _ _ _ fun e=>hi b0 (by simp [e])
theorem yeh [Clk] {s:S} (hs:Sim oc gl s) {as1:List V} {is:List Id} (hw:within is 0 (idsL as1)=true) (hmv:movable is 0 s.m=true) {xs:List Value} (hv:VRt s as1 xs):
  ∃s0:S,s0.m=moved (number ⟨0,0⟩ 0 0 is) s.m (number ⟨0,0⟩ 0 0 is)/\s0.w=s.w/\Sim oc gl s0/\VRt s0 (renL (number ⟨0,0⟩ 0 0 is) as1) xs/\
   ∀(s1:S) (v:V) (x:Value) (m':Mem),Sim oc gl s1->Ext (fun _=>True) s0 s1->zt5 (number ⟨0,0⟩ 0 0 is) s1.m (number ⟨0,0⟩ 0 0 is) s.m=some m'->
    (ids v).all (fun i=>((number ⟨0,0⟩ 0 0 is).map (·.2)).elem i)=true->VR s1 v x->
    ∃s':S,s'.w=s1.w/\Sim oc gl s'/\Ext (fun _=>True) s s'/\s'.m=m'/\VR s' (ren (znc (number ⟨0,0⟩ 0 0 is)) v) x:=by
 obtain⟨σ,hσ⟩:∃σ,σ=number ⟨0,0⟩ 0 0 is:=⟨_,rfl⟩
 rw [<-hσ]
 simp only [movable,Bool.and_eq_true,List.all_eq_true] at hmv
 obtain⟨honce,hall⟩:=hmv
 have inj:∀a a' b,(a,b)∈σ->(a',b)∈σ->a=a':=by subst hσ;exact z7p _ _ is 0
 have isin:∀a b,(a,b)∈σ->a∈is:=by subst hσ;exact fun a b h=>(zr8 _ _ is 0 a b h).1
 have sub:∀i∈is,(i,subst σ i)∈σ:=by subst hσ;exact zw1 _ _ is 0
 have only:∀a b,(a,b)∈σ->b=subst σ a:=by subst hσ;exact fun a b=>z0j _ _ is 0 a b honce
 have obj:∀i∈is,∃o,look s.m i=some o/\(∀j∈idsO o,j∈is)/\isLoop o=false:=by
  intro i hi
  have:=hall i hi
  split at this
  ·rename_i o ho
   simp only [Bool.and_eq_true,within,List.all_eq_true,Bool.or_eq_true,List.elem_eq_mem,decide_eq_true_eq,Bool.not_eq_true'] at this
   exact⟨o,ho,fun j hj=>(this.1.1 j hj).resolve_right (Nat.not_lt_zero _),this.1.2⟩
  ·cases this
 have hids:∀i∈idsL as1,i∈is:=by
  have h:∀i∈idsL as1,i∈is\/i.lv<0:=by
   simpa only [within,List.all_eq_true,Bool.or_eq_true,List.elem_eq_mem,decide_eq_true_eq] using hw
  exact fun i hi=>(h i hi).resolve_right (Nat.not_lt_zero _)
 let φ0:Id->Value:=fun i=>match σ.find? (fun p=>decide (p.2=i)) with
  | some p=>s.φ p.1
  | none=>undef
 have φnew:∀a b,(a,b)∈σ->φ0 b=s.φ a:=by
  intro a b hab
  show (match σ.find? (fun p=>decide (p.2=b)) with|some p=>s.φ p.1|none=>undef)=_
  cases hf:σ.find? (fun p=>decide (p.2=b)) with
  | none=>exact absurd (List.find?_eq_none.1 hf _ hab) (by simp)
  | some p=>
   have h1:=List.find?_some hf
   have h2:=List.mem_of_find?_eq_some hf
   simp only [decide_eq_true_eq] at h1
   obtain⟨p1,p2⟩:=p
   simp only at h1
   subst h1
   simp only
   rw [inj p1 a p2 h2 hab]
 let s0:S:=⟨φ0,moved σ s.m σ,s.w,s.Im⟩
 have lnew:∀a b o,(a,b)∈σ->look s.m a=some o->look s0.m b=some (renO σ o):=fun a b o hab ho=>zsr σ s.m σ a b o (fun a' h=>inj a' a b h hab) hab ho
 have lany:∀i o,look s0.m i=some o->∃a o',(a,i)∈σ/\look s.m a=some o'/\o=renO σ o':=fun i o hi=>zl3 σ s.m σ i o hi
 have ngone:∀o,renO σ o≠ .gone->o≠ .gone:=fun o h e=>h (by rw [e];rfl)
 have hren:Ren σ (fun i=>i∈is) s s0:=by
  refine⟨fun _ _ h=>h,fun _ _ _=>rfl,fun i o hi ho=> ?_⟩
  have hab:=sub i hi
  refine⟨_,lnew i _ o hab ho,?_⟩
  show za4 o _ (s.φ i) (φ0 (subst σ i))
  rw [φnew _ _ hab]
  exact za4.renO σ o _
 -- who is free among all is free here
 have free0:∀b,zuz s b->zuz s0 b:=by
  intro b hf i o hi hg
  obtain⟨a,o',hab,ho',rfl⟩:=lany i o hi
  show blk (φ0 i)≠some b
  rw [φnew a i hab]
  exact hf a o' ho' (ngone _ hg)
 have sim0:Sim oc gl s0:=by
  refine⟨fun i o hi=> ?_,fun i j o o' b hij hi hj hg hg' hb=> ?_,hs.imlt,hs.glob,fun g cs hg=> ?_⟩
  ·obtain⟨a,o',hab,ho',rfl⟩:=lany i o hi
   show ObR oc s0 (φ0 i) _
   rw [φnew a i hab]
   obtain⟨o2,h1,h2,h3⟩:=obj a (isin a i hab)
   rw [ho'] at h1
   obtain rfl:=Option.some.inj h1
   exact ObR.ren hren h2 h3 (fun b _=>⟨rfl,fun _ h=>h⟩) (hs.objs a _ ho')
  ·obtain⟨a,o1,hab,ho1,rfl⟩:=lany i o hi
   obtain⟨a',o2,hab',ho2,rfl⟩:=lany j o' hj
   have hb:blk (φ0 i)=some b:=hb
   show blk (φ0 j)≠some b
   rw [φnew a i hab] at hb
   rw [φnew a' j hab']
   refine hs.apart a a' o1 o2 b (fun e=>hij ?_) ho1 ho2 (ngone _ hg) (ngone _ hg') hb
   subst e
   rw [only _ _ hab,only _ _ hab']
  ·obtain⟨h1,h2⟩:=hs.tabs g cs hg
   exact⟨free0 g h1,h2⟩
 refine⟨s0,rfl,rfl,sim0,VRt.ren hren as1 xs hids hv,fun s1 v x m' h1 hE hk hvids hvx=> ?_⟩
 have fst1:∀a b b',(a,b)∈σ->(a,b')∈σ->b=b':=fun a b b' h h'=>(only a b h).trans (only a b' h').symm
 obtain⟨hin,hout⟩:=z4z σ s1.m σ s.m m' fst1 hk
 have hrange:∀j,(σ.map (·.2)).elem j=true->∃a∈is,j=subst σ a:=by
  intro j hj
  simp only [List.elem_eq_mem,decide_eq_true_eq,List.mem_map] at hj
  obtain⟨⟨a,b⟩,hab,rfl⟩:=hj
  exact⟨a,isin a b hab,only a b hab⟩
 -- an object of the call's, as it is behind it, and as it comes back
 have now:∀i∈is,∃o1,look s1.m (subst σ i)=some o1/\okU o1=true/\(∀j∈idsO o1,∃a∈is,j=subst σ a)/\look m' i=some (renO (znc σ) o1):=by
  intro i hi
  obtain⟨o1,k1,k2,k3,k4⟩:=hin i _ (sub i hi)
  exact⟨o1,k1,k2,fun j hj=>hrange j (k3 j hj),k4⟩
 have away:∀i,i∉is->look m' i=look s.m i:=fun i hi=>hout i fun b hab=>hi (isin i b hab)
 let φ':Id->Value:=fun i=>if i∈is then s1.φ (subst σ i) else s.φ i
 have φin:∀i∈is,φ' i=s1.φ (subst σ i):=fun i hi=>if_pos hi
 have φout:∀i,i∉is->φ' i=s.φ i:=fun i hi=>if_neg hi
 have gone1:∀o1,okU o1=true->renO (znc σ) o1≠ .gone/\o1≠ .gone/\isLoop o1=false:=by
  intro o1 h
  cases o1<;>simp [okU,Evl.renO,isLoop] at h ⊢
 have hback:∀i∈is,subst (znc σ) (subst σ i)=i:=fun i hi=>zyq σ i _ inj (sub i hi)
 have hfree:∀i o,i∉is->look s.m i=some o->o≠ .gone->∀b,blk (s.φ i)=some b->zuz s0 b:=by
  intro i o hmem hi hg b hb j o' hj hg'
  obtain⟨a,o2,hab,ho2,rfl⟩:=lany j o' hj
  show blk (φ0 j)≠some b
  rw [φnew a j hab]
  exact hs.apart i a o o2 b (fun e=>hmem (e▸isin a j hab)) hi ho2 hg (ngone _ hg') hb
 let s':S:=⟨φ',m',s1.w,s1.Im⟩
 have hτ:Ren (znc σ) (fun i=>∃a∈is,i=subst σ a) s1 s':=by
  refine⟨fun _ _ h=>h,fun _ _ _=>rfl,?_⟩
  rintro i o ⟨a,ha,rfl⟩ ho
  obtain⟨o1,k1,k2,k3,k4⟩:=now a ha
  rw [k1] at ho
  obtain rfl:=Option.some.inj ho
  rw [hback a ha]
  refine⟨_,k4,?_⟩
  show za4 o1 _ (s1.φ (subst σ a)) (φ' a)
  rw [φin a ha]
  exact za4.renO _ _ _
 have hE':Ext (fun _=>True) s s':=by
  refine⟨hE.os,hE.tape,hE.output,hE.size,fun b hb hf=>⟨(hE.frame b hb (free0 b hf)).1,fun i o hi hg=> ?_⟩,fun b j h=> ?_,hE.im,hE.keep,fun i o _ ho=> ?_⟩
  ·show blk (φ' i)≠some b
   by_cases hmem:i∈is
   ·obtain⟨o1,k1,k2,_,_⟩:=now i hmem
    rw [φin i hmem]
    exact(hE.frame b hb (free0 b hf)).2 _ o1 k1 (gone1 o1 k2).2.1
   ·rw [φout i hmem]
    have hi:look m' i=some o:=hi
    rw [away i hmem] at hi
    exact hf i o hi hg
  ·rcases hE.imnew b j h with h|h|h
   ·exact .inl h
   ·exact .inr (.inl h)
   ·exact .inr (.inr fun hf=>h (free0 b hf))
  ·by_cases hmem:i∈is
   ·obtain⟨o1,k1,k2,_,k4⟩:=now i hmem
    refine⟨_,k4,?_⟩
    obtain⟨o',ho',ht⟩:=hE.objs (subst σ i) _ trivial (lnew i _ o (sub i hmem) ho)
    rw [k1] at ho'
    obtain rfl:=Option.some.inj ho'
    have hφ:s0.φ (subst σ i)=s.φ i:=φnew i _ (sub i hmem)
    rw [hφ] at ht
    show za4 o _ (s.φ i) (φ' i)
    rw [φin i hmem]
    exact ht.back k2
   ·refine⟨o,(away i hmem).trans ho,?_⟩
    show za4 o o (s.φ i) (φ' i)
    rw [φout i hmem]
    exact za4.refl _ _
 refine⟨s',rfl,⟨fun i o hi=> ?_,fun i j o o' b hij hi hj hg hg' hb=> ?_,h1.imlt,h1.glob,hs.tabs.ext hE'⟩,hE',rfl,?_⟩
 ·have hi:look m' i=some o:=hi
  show ObR oc s' (φ' i) o
  by_cases hmem:i∈is
  ·obtain⟨o1,k1,k2,k3,k4⟩:=now i hmem
   rw [k4] at hi
   obtain rfl:=Option.some.inj hi
   rw [φin i hmem]
   exact ObR.ren hτ k3 (gone1 o1 k2).2.2 (fun b _=>⟨rfl,fun _ h=>h⟩) (h1.objs _ _ k1)
  ·by_cases hg:o= .gone
   ·subst hg;trivial
   rw [away i hmem] at hi
   rw [φout i hmem]
   refine ObR.ext hE' (fun b hb=> ?_) (hs.objs i o hi)
   have hf0:=hfree i o hmem hi hg b hb
   have hlt:=(hs.objs i o hi).blk_lt hg hb
   refine⟨(hE.frame b hlt hf0).1,fun j h=> ?_⟩
   rcases hE.imnew b j h with h|h|h
   ·exact h
   ·have h:s.w.heap.size<=b:=h
    omega
   ·exact absurd hf0 h
 ·have hi:look m' i=some o:=hi
  have hj:look m' j=some o':=hj
  have hb:blk (φ' i)=some b:=hb
  show blk (φ' j)≠some b
  by_cases mi:i∈is
  ·obtain⟨oi,a1,a2,_,_⟩:=now i mi
   rw [φin i mi] at hb
   by_cases mj:j∈is
   ·obtain⟨oj,b1,b2,_,_⟩:=now j mj
    rw [φin j mj]
    refine h1.apart _ _ oi oj b (fun e=>hij ?_) a1 b1 (gone1 oi a2).2.1 (gone1 oj b2).2.1 hb
    rw [<-hback i mi,<-hback j mj,e]
   ·rw [φout j mj]
    rw [away j mj] at hj
    intro hbj
    have hlt:=(hs.objs j o' hj).blk_lt hg' hbj
    exact(hE.frame b hlt (hfree j o' mj hj hg' b hbj)).2 _ oi a1 (gone1 oi a2).2.1 hb
  ·rw [φout i mi] at hb
   rw [away i mi] at hi
   by_cases mj:j∈is
   ·obtain⟨oj,b1,b2,_,_⟩:=now j mj
    rw [φin j mj]
    have hlt:=(hs.objs i o hi).blk_lt hg hb
    exact(hE.frame b hlt (hfree i o mi hi hg b hb)).2 _ oj b1 (gone1 oj b2).2.1
   ·rw [φout j mj]
    rw [away j mj] at hj
    exact hs.apart i j o o' b hij hi hj hg hg' hb
 ·refine VR.ren hτ v x (fun i hi=> ?_) hvx
  simp only [List.all_eq_true] at hvids
  exact hrange i (hvids i hi)
theorem yj9 {s:S} (hs:Sim oc gl s):∀(vs:List V) (xs:List Value),VRt s vs xs->VRt s (vs.map (z0f s.m)) xs
 | [],_,h=>h
 | v::r,_,⟨x,xs,h1,h2,h3⟩=>by
  refine⟨x,xs,h1,?_,yj9 hs r xs h3⟩
  cases v<;>simp only [z0f]<;>try exact h2
  split
  ·rename_i d hd
   exact zmo hs _ _ _ hd h2
  ·exact h2
theorem ya8 [Clk] {F:Oracle} (hF:zsh P oc gl F) {s:S} {A:Act} {o:Oper} {e:Env} (hs:Sim oc gl s) (he:zcc s e A.tmps) (r:Option Nat) {f:Opd} {args:List Opd} {v:V} {m':Mem}
  (imm:Bool) (ok:zky gl o f args=true) (h:zwh F imm (zpp (f.ev e)) (evs e args) s.m=some (v,m')):yna P oc gl r s A o v m':=by
 unfold zky at ok
 split at ok<;>try cases ok
 rename_i c ho
 split at ok<;>try cases ok
 rename_i g hc
 simp only [Bool.and_eq_true] at ok
 have hf:=za1 hs he ok.1
 have hargs:=zr9 hs he _ _ ok.2
 replace hf:=z00 hf
 generalize zpp (f.ev e)=vf at hf h
 generalize evs e args=vs at hargs h
 intro next Q hn
 refine⟨fun _ _=>trivial,?_⟩
 rw [Oper.semAt_eq _ _ _ (fun c' hc'=>by rw [ho] at hc';cases hc')]
 have enter:∀(fid:Nat) (xs ys:Array Value) (R:Ending->World->Prop),A.eval g= .func (.func fid) xs ys->Enters P fid->CallsIn Fence.wide 0 P fid (xs.toList++(c.args.toList.map A.eval)++ys.toList).toArray s.w R->
   (∀e' w',R e' w'->∃x,e'= .returned x/\next (A.put o.dst x) w')->o.uponIn (fen r) 0 P A next Q ((execOp A.eval o).run P s.w):=by
  intro fid xs ys R hg hen hcall hnext
  have hrun:(execOp A.eval o).run P s.w= .ok (.enter fid (xs++c.args.map A.eval++ys)) s.w:=by
   simp [execOp,ho,Go.resolve,hc,hg,Deferred.ofValue,invoke,zi6 hen]
  rw [hrun]
  refine⟨fun h=>by simp [fen] at h,?_⟩
  have harr:(xs.toList++(c.args.toList.map A.eval)++ys.toList).toArray=xs++c.args.map A.eval++ys:=by
   apply Array.ext';simp
  rw [harr] at hcall
  exact CallsIn.mono (F:=fen r) (n:=0) hcall fun e' w' hr=>by
   obtain⟨x,rfl,hx⟩:=hnext e' w' hr
   exact hx
 unfold zwh at h
 split at h<;>try cases h
 rename_i fid first caps
 simp only at h
 split at h
 case isFalse=>cases h
 rename_i hcond
 simp only [Bool.and_eq_true] at hcond
 split at h<;>try cases h
 rename_i v1 m1 hcall
 obtain⟨xs,ys,hg,hx,hy⟩:=hf
 obtain⟨hen,hgo⟩:=hF _ _ _ _ _ _ hcall
 obtain⟨s0,hm0,hw0,hs0,hv0,hend⟩:=yeh hs hcond.1 hcond.2 (yj9 hs _ _ (VRt.append _ _ _ _ (VRt.append _ _ _ _ hx hargs) hy))
 have hgo:=hgo s0 hs0 hm0 _ hv0
 rw [hw0] at hgo
 refine enter fid xs ys _ hg hen hgo ?_
 rintro e' w' ⟨s1,x,rfl,rfl,k1,k2,rfl,k4⟩
 split at h
 ·split at h
  case isFalse=>cases h
  rename_i hlow
  simp only [Bool.and_eq_true] at hlow
  split at h<;>try cases h
  rename_i v2 m2 htk
  split at h
  case isFalse=>cases h
  rename_i hk
  simp only [Option.map_eq_some_iff,Prod.mk.injEq] at h
  obtain⟨m3,hb,rfl,rfl⟩:=h
  obtain⟨s2,hw2,p1,p2,p3,p4⟩:=yeg (zt6 k1 k2 (by rw [hm0];exact hlow.1) hlow.2) htk k4
  subst p3
  obtain⟨s',hw',q1,q2,q3,q4⟩:=hend s2 v2 x m3 p1 p2 hb hk p4
  exact⟨x,rfl,(hw'.trans hw2)▸hn s' x q1 q2 q3 q4⟩
 ·split at h
  case isFalse=>cases h
  rename_i hk
  simp only [Option.map_eq_some_iff,Prod.mk.injEq] at h
  obtain⟨m2,hb,rfl,rfl⟩:=h
  obtain⟨s',hw',q1,q2,q3,q4⟩:=hend s1 v1 x m2 k1 k2 hb hk k4
  exact⟨x,rfl,hw'▸hn s' x q1 q2 q3 q4⟩
theorem yf6 {w w':World} {Im Im':Nat->Nat->Prop}:∀(d:D) (v:Value),z2x d=true->DR w Im d v->DR w' Im' d v
 | .int ..,_,_,h=>by simpa only [DR] using h
 | .bool _,_,_,h=>by simpa only [DR] using h
 | .str _,_,_,h=>by simpa only [DR] using h
 | .nil,_,h,_=>by cases h
 | .list ..,_,h,_=>by cases h
 | .agg _,_,h,_=>by cases h
 | .nilp,_,h,_=>by cases h
 | .nilf,_,h,_=>by cases h
 | .nili,_,h,_=>by cases h
 | .ifc _,_,h,_=>by cases h
 | .nilm,_,h,_=>by cases h
 | .fn _,_,h,_=>by cases h
theorem yaj {w w':World} {Im Im':Nat->Nat->Prop}:∀(ds:List D) (vs:List Value),ds.all z2x=true->DRs w Im ds vs->DRs w' Im' ds vs
 | [],vs,_,h=>h
 | d::r,vs,hp,h=>by
  simp only [List.all_cons,Bool.and_eq_true] at hp
  obtain⟨y,zs,rfl,h1,h2,h3⟩:=h
  exact⟨y,zs,rfl,h1,yf6 d y hp.1 h2,yaj r zs hp.2 h3⟩
def ImZ (s s1:S) (b j:Nat):Prop:=s.Im b j\/(s.w.heap.size<=b/\zyt 0 s1 b j)
structure yun (gl:Globs) (s s1:S):Prop where
 size:s.w.heap.size<=s1.w.heap.size
 old:∀b j,s.Im b j->b<s.w.heap.size
 new:∀i o b,look s1.m i=some o->o≠ .gone->blk (s1.φ i)=some b->s.w.heap.size<=b
 glob:∀g cs,(g,cs)∈gl->CR s1.w (ImZ s s1) g 0 cs
theorem yj8 {s s1:S} (hs:Sim oc gl s1) (hz0:yun gl s s1) {i:Id} {wr:Bool} {t sz n:Nat} {xs:List D} (hp:xs.all z2x=true) (hl:look s1.m i=some (.row wr t sz n xs)) {off len top:Nat} {x:Value}
  (h2:n=top) (h3:off+len<=n) (hv:VR s1 (.ref i off len top) x):
  DR s1.w (ImZ s s1) (.list len (if off=0/\len=n then xs else win xs (off*sz) (len*sz))) x:=by
 obtain⟨hz,ys,hown,hdr,him⟩:=hs.objs i _ hl
 let s2:S:=⟨s1.φ,[(i,.row false t sz n xs)],s1.w,ImZ s s1⟩
 have hl2:look s2.m i=some (.row false t sz n xs):=by simp [s2,look]
 have hs2:Sim oc gl s2:=by
  refine⟨fun k o hk=> ?_,fun a b o o' c hab ha hb _ _ _=> ?_,fun b j h=> ?_,hz0.glob,fun g cs hg=> ?_⟩
  ·have hk1:(if i=k then some (Ob.row false t sz n xs) else none)=some o:=hk
   clear hk
   split at hk1
   ·rename_i e;subst e
    obtain rfl:=Option.some.inj hk1
    refine⟨hz,ys,hown,yaj xs ys hp hdr,fun b hb j=>⟨fun h=>⟨rfl,?_⟩,fun h=> .inr ⟨hz0.new i _ b hl (by simp) (zk7 _ _ hb),.inr ⟨i,wr,t,sz,n,xs,Nat.zero_le _,hl,zk7 _ _ hb,h.2⟩⟩⟩⟩
    have hge:=hz0.new i _ b hl (by simp) (zk7 _ _ hb)
    rcases h with h|⟨_,h|⟨k,wr',t',sz',n',xs',_,hk',hb',hj⟩⟩
    ·have:=hz0.old b j h;omega
    ·exact((him b hb j).1 h).2
    ·by_cases e:k=i
     ·subst e
      rw [hl] at hk'
      simp only [Option.some.injEq,Ob.row.injEq] at hk'
      obtain⟨_,_,rfl,rfl,_⟩:=hk'
      exact hj
     ·exact absurd (zk7 _ _ hb) (hs.apart k i _ _ b e hk' hl (by simp) (by simp) hb')
   ·cases hk1
  ·have ha1:(if i=a then some (Ob.row false t sz n xs) else none)=some o:=ha
   have hb1:(if i=b then some (Ob.row false t sz n xs) else none)=some o':=hb
   clear ha hb
   split at ha1
   ·split at hb1
    ·rename_i e1 e2;exact absurd (e1.symm.trans e2) hab
    ·cases hb1
   ·cases ha1
  ·rcases h with h|⟨_,h|⟨k,wr',t',sz',n',xs',_,hk',hb',hj⟩⟩
   ·exact Nat.lt_of_lt_of_le (hz0.old b j h) hz0.size
   ·exact hs.imlt b j h
   ·exact(hs.objs k _ hk').blk_lt (by simp) hb'
  ·obtain⟨h1,h2⟩:=hs.tabs g cs hg
   refine⟨fun a o ha hgo=> ?_,h2⟩
   have ha1:(if i=a then some (Ob.row false t sz n xs) else none)=some o:=ha
   split at ha1
   ·rename_i e;subst e;exact h1 i _ hl (by simp)
   ·cases ha1
 have hv2:VR s2 (.ref i off len top) x:=by
  refine⟨hv.1,?_⟩
  have:=hv.2
  rw [hl] at this
  rw [hl2]
  exact this
 exact zyf hs2 hl2 rfl h2 h3 hv2
theorem z9v {s s1:S} (hs:Sim oc gl s1) (hz0:yun gl s s1):∀(v:V) (d:D) (x:Value),z19 s1.m v=true->freeze true s1.m v=some d->VR s1 v x->DR s1.w (ImZ s s1) d x:=by
 intro v d x hf h hv
 unfold z19 at hf
 split at hf
 ·simp only [freeze,Option.some.injEq] at h
  subst h
  exact yf6 _ _ hf hv
 ·rename_i i off len top
  split at hf
  ·rename_i hl
   simp only [freeze,hl] at h
   split at h
   ·rename_i hc
    obtain⟨h1,h2,h3⟩:=hc
    obtain rfl:=Option.some.inj h
    exact yj8 hs hz0 hf hl h2 h3 hv
   ·cases h
  ·cases hf
 ·cases hf
theorem z9w {s s1 s':S} (hs:Sim oc gl s1) (hz0:yun gl s s1) (hw:s'.w=s1.w) (him:s'.Im=ImZ s s1):∀(cs:List V) (ds:List D) (xs:List Value),cs.all (z19 s1.m)=true->freezeL true s1.m cs=some ds->VRt s1 cs xs->VRt s' (asV ds) xs
 | [],ds,xs,_,h,hv=>by simp only [freezeL,Option.some.injEq] at h;subst h;exact hv
 | v::r,ds,xs,hk,h,hv=>by
  simp only [List.all_cons,Bool.and_eq_true] at hk
  obtain⟨x,ys,rfl,h2,h3⟩:=hv
  simp only [freezeL] at h
  split at h
  ·rename_i d ds' e1 e2
   obtain rfl:=Option.some.inj h
   refine⟨x,ys,rfl,?_,z9w hs hz0 hw him r ds' ys hk.2 e2 h3⟩
   have:=z9v hs hz0 v d x hk.1 e1 h2
   show DR s'.w s'.Im d x
   rw [hw,him];exact this
  ·cases h
theorem yip [Clk] {F:Oracle} (hF:zsh P oc gl F) {s:S} {A:Act} {o:Oper} {e:Env} (hs:Sim oc gl s) (he:zcc s e A.tmps) (r:Option Nat) {f:Opd} {args:List Opd} {v:V} {m':Mem}
  (ok:zky gl o f args=true) (h:z1s F (zpp (f.ev e)) (evs e args) s.m=some (v,m')):yna P oc gl r s A o v m':=by
 unfold zky at ok
 split at ok<;>try cases ok
 rename_i c ho
 split at ok<;>try cases ok
 rename_i g hc
 simp only [Bool.and_eq_true] at ok
 have hf:=za1 hs he ok.1
 have hargs:=zr9 hs he _ _ ok.2
 replace hf:=z00 hf
 generalize zpp (f.ev e)=vf at hf h
 generalize evs e args=vs at hargs h
 intro next Q hn
 refine⟨fun _ _=>trivial,?_⟩
 rw [Oper.semAt_eq _ _ _ (fun c' hc'=>by rw [ho] at hc';cases hc')]
 have hmap:(c.args.map A.eval).toList=c.args.toList.map A.eval:=by simp
 unfold z1s at h
 split at h<;>try cases h
 rename_i fid first caps
 split at h<;>try cases h
 rename_i ds hfr
 split at h<;>try cases h
 rename_i v1 m1 hcall
 split at h<;>try cases h
 rename_i hfresh
 simp only [Option.map_eq_some_iff,Prod.mk.injEq] at h
 obtain⟨v2,hth,rfl,rfl⟩:=h
 obtain⟨xs,ys,hg,hx,hy⟩:=hf
 obtain⟨hen,hgo⟩:=hF _ _ _ _ _ _ hcall
 let s0:S:=⟨s.φ,[],s.w,zyt 0 s⟩
 have hs0:Sim oc gl s0:=by
  refine⟨fun i o h=>by simp [s0,look] at h,fun i j o o' b _ h=>by simp [s0,look] at h,fun b j h=> ?_,fun g cs hg=>CR.ext (fun _ _ h=> .inl h) (fun _ _ _=>rfl) g 0 cs (hs.glob g cs hg),fun g cs hg=>⟨fun i o h=>by simp [s0,look] at h,(hs.tabs g cs hg).2⟩⟩
  rcases h with h|⟨k,wr',t',sz',n',xs',_,hk',hb',_⟩
  ·exact hs.imlt b j h
  ·exact(hs.objs k _ hk').blk_lt (by simp) hb'
 have hv0:=z8o (lo:=0) (s':=s0) hs rfl rfl _ _ _ (fun _ _=>Nat.zero_le _) hfr (VRt.append _ _ _ _ (VRt.append _ _ _ _ hx hargs) hy)
 have hrun:(execOp A.eval o).run P s.w= .ok (.enter fid (xs++c.args.map A.eval++ys)) s.w:=by
  simp [execOp,ho,Go.resolve,hc,hg,Deferred.ofValue,invoke,zi6 hen]
 rw [hrun]
 refine⟨fun h=>by simp [fen] at h,?_⟩
 have harr:(xs.toList++(c.args.toList.map A.eval)++ys.toList).toArray=xs++c.args.map A.eval++ys:=by
  apply Array.ext';simp
 have hcalls:=hgo s0 hs0 rfl _ hv0
 rw [harr] at hcalls
 refine CallsIn.mono (F:=fen r) (n:=0) hcalls ?_
 rintro e' w' ⟨s1,x,rfl,rfl,k1,k2,rfl,k4⟩
 have free0:∀b,zuz s0 b:=fun b i o hi _=>by simp [s0,look] at hi
 have hsn:yun gl s s1:=by
  refine⟨k2.size,hs.imlt,fun i o b hi hg hb=> ?_,fun g cs hg=>CR.ext (fun _ _ h=> .inl h) (fun b j h=>k2.keep b j (.inl h)) g 0 cs (hs.glob g cs hg)⟩
  rcases Nat.lt_or_ge b s.w.heap.size with hlt|hge
  ·exact absurd hb ((k2.frame b hlt (free0 b)).2 i o hi hg)
  ·exact hge
 let s':S:=⟨s.φ,s.m,s1.w,ImZ s s1⟩
 have hE:Ext (fun _=>True) s s':=
  ⟨k2.os,k2.tape,k2.output,k2.size,fun b hb hf=>⟨(k2.frame b hb (free0 b)).1,hf⟩,fun b j h=>h.elim .inl fun h=> .inr (.inl h.1),fun b j h=> .inl h,fun b j h=>k2.keep b j (.inl h),fun i o _ ho=>⟨o,ho,za4.refl _ _⟩⟩
 have hS:Sim oc gl s':=by
  refine⟨fun i o hi=> ?_,hs.apart,fun b j h=> ?_,hsn.glob,hs.tabs.ext hE⟩
  ·by_cases hg:o= .gone
   ·subst hg;trivial
   refine ObR.ext hE (fun b hb=> ?_) (hs.objs i o hi)
   have hlt:=(hs.objs i o hi).blk_lt hg hb
   exact⟨(k2.frame b hlt (free0 b)).1,fun j h=>h.elim id fun h=>absurd h.1 (by omega)⟩
  ·rcases h with h|⟨_,h|⟨k,wr',t',sz',n',xs',_,hk',hb',_⟩⟩
   ·exact Nat.lt_of_lt_of_le (hs.imlt b j h) k2.size
   ·exact k1.imlt b j h
   ·exact(k1.objs k _ hk').blk_lt (by simp) hb'
 refine hn s' x hS hE rfl ?_
 unfold thaw at hth
 split at hth
 ·rename_i vs'
  simp only [Option.map_eq_some_iff] at hth
  obtain⟨ds',h1,rfl⟩:=hth
  obtain⟨xs',rfl,hv⟩:=k4
  exact⟨xs',rfl,z9w (s':=s') k1 hsn rfl rfl vs' ds' _ hfresh h1 hv⟩
 ·rename_i hnt
  simp only [Option.map_eq_some_iff] at hth
  obtain⟨d,h1,rfl⟩:=hth
  have hf1:z19 s1.m v1=true:=by
   unfold z9x at hfresh
   split at hfresh
   ·exact absurd rfl (hnt _)
   ·exact hfresh
  exact z9v k1 hsn v1 d x hf1 h1 k4
def ykd (ops:Array Oper) (nt:Nat):Option (Nat×Bool)->Option (Nat×Bool)->Bool
 | none,none=>true
 | some (t,w),some (j,w')=>w==w'&&(ops[j]?).bind (·.dst)==some t&&decide (t<nt)
 | _,_=>false
def ytr (P:Program) (gl:Globs) (o:Oper):COp->Bool
 | .call _ _ f args=>zky gl o f args
 | .callR _ f args _=>zky gl o f args
 | .callB _ f args _=>zky gl o f args
 | .callD f args=>zky gl o f args
 | .callN f args=>zky gl o f args
 | .callK _ f args=>zky gl o f args
 | .callQ f args=>zky gl o f args
 | .callU _ f args=>zky gl o f args
 | .callZ f args=>zky gl o f args
 | .storeR n a x _=>ym6 P gl o (.store n a x)
 | .appendF r a x=>ym6 P gl o (.append r a x)
 | .mapSetR kk m k x _=>ym6 P gl o (.mapSet kk m k x)
 | op=>ym6 P gl o op
def ysy (P:Program) (gl:Globs) (nt:Nat) (ops:Array Oper) (c:CO) (o:Oper):Bool:=
 c.dst==o.dst&&(match c.dst with|none=>true|some d=>decide (d<nt))&&ykd ops nt c.guard o.guard&&
  ytr P gl o c.op
def zow (P:Program) (gl:Globs) (nt:Nat) (ops:Array Oper):List CO->List Oper->Bool
 | [],[]=>true
 | c::r,o::q=>ysy P gl nt ops c o&&zow P gl nt ops r q
 | _,_=>false
structure Good [Clk] (P:Program) (oc:zdj) (gl:Globs) (F:Oracle):Prop where
 call:zsh P oc gl F
 round:z0x P oc gl F
theorem ymd [Clk] {F:Oracle} (hF:Good P oc gl F) {s:S} {A:Act} {o:Oper} {e:Env} (hs:Sim oc gl s) (he:zcc s e A.tmps) (r:Option Nat) (cx:Cx) (slot:Nat) {op:COp} {v:V} {m':Mem}
  (ok:ytr P gl o op=true) (h:zca F cx slot e s.m op=some (v,m')):yna P oc gl r s A o v m':=by
 by_cases hc:∃a b f args,op= .call a b f args
 ·obtain⟨a,b,f,args,rfl⟩:=hc
  exact zl5 hF.call hF.round hs he r cx slot ok h
 by_cases hr:∃b f args rs,op= .callR b f args rs
 ·obtain⟨b,f,args,rs,rfl⟩:=hr
  simp only [zca] at h
  split at h<;>try cases h
  rename_i v1 m1 hcall
  split at h<;>try cases h
  exact zl5 hF.call hF.round hs he r cx slot ok hcall
 by_cases hbb:∃b f args t,op= .callB b f args t
 ·obtain⟨b,f,args,t,rfl⟩:=hbb
  simp only [zca] at h
  exact yg6 hs he (fun s1 h1 h2 v m1 hr=>zl5 hF.call hF.round h1 h2 r cx slot ok hr) h
 by_cases hdd:∃f args,op= .callD f args
 ·obtain⟨f,args,rfl⟩:=hdd
  simp only [zca] at h
  split at h<;>try cases h
  rename_i g hf
  split at h<;>try cases h
  rw [<-hf] at h
  exact zl5 hF.call hF.round hs he r cx slot ok h
 by_cases hkk:∃b f args,op= .callK b f args
 ·obtain⟨b,f,args,rfl⟩:=hkk
  simp only [zca] at h
  split at h<;>try cases h
  rename_i v1 m1 hcall
  split at h
  case isFalse=>cases h
  rename_i hle
  simp only [Option.some.injEq,Prod.mk.injEq] at h
  obtain⟨rfl,rfl⟩:=h
  have hgo:=zl5 (o:=o) (A:=A) hF.call hF.round hs he r cx slot ok hcall
  intro next Q hn
  refine hgo next Q fun s' x q1 q2 q3 q4=> ?_
  subst q3
  obtain⟨j1,j2⟩:=yfk (s:=s) (mm:=s.m) q1 (fun i o ho=>q2.objs i o trivial ho) (fun i o' ho' c hc _=>by rw [ho'] at hc;exact hc) hle
  exact hn ⟨s'.φ,s.m,s'.w,s'.Im⟩ x j1 (Ext.trans q2 j2 (fun _ _=>trivial)) rfl (VR.ext j2 _ _ (fun _ _=>trivial) q4)
 by_cases hqq:∃f args,op= .callQ f args
 ·obtain⟨f,args,rfl⟩:=hqq
  simp only [zca,Option.map_eq_some_iff,Prod.mk.injEq] at h
  obtain⟨v1,hq,rfl,rfl⟩:=h
  exact yd7 hF.call hs he r ok hq
 by_cases huu:∃b f args,op= .callU b f args
 ·obtain⟨b,f,args,rfl⟩:=huu
  simp only [zca] at h
  exact ya8 hF.call hs he r b ok h
 by_cases hzz:∃f args,op= .callZ f args
 ·obtain⟨f,args,rfl⟩:=hzz
  simp only [zca] at h
  exact yip hF.call hs he r ok h
 by_cases hnn:∃f args,op= .callN f args
 ·obtain⟨f,args,rfl⟩:=hnn
  simp only [zca] at h
  split at h<;>try cases h
  rename_i g hf
  split at h<;>try cases h
  rw [<-hf] at h
  exact zl5 hF.call hF.round hs he r cx slot ok h
 by_cases ht:∃n a x rs,op= .storeR n a x rs
 ·obtain⟨n,a,x,rs,rfl⟩:=ht
  simp only [zca] at h
  split at h<;>try cases h
  exact yqu.ok (z0q hs he F cx slot (op:= .store n a x) ok h)
 by_cases hap:∃r a x,op= .appendF r a x
 ·obtain⟨rr,a,x,rfl⟩:=hap
  simp only [zca] at h
  split at h<;>try cases h
  rename_i v1 m1 happ
  simp only [Option.map_eq_some_iff,Prod.mk.injEq] at h
  obtain⟨d,hd,rfl,rfl⟩:=h
  have hgo:yna P oc gl r s A o v1 m1:=yqu.ok (z0q hs he F cx slot (op:= .append rr a x) ok happ)
  intro next Q hn
  refine hgo next Q fun s' y q1 q2 q3 q4=>hn s' y q1 q2 q3 ?_
  subst q3
  exact zmo q1 _ _ _ hd q4
 by_cases hm:∃kk m k x rs,op= .mapSetR kk m k x rs
 ·obtain⟨kk,m,k,x,rs,rfl⟩:=hm
  simp only [zca] at h
  split at h<;>try cases h
  exact yqu.ok (z0q hs he F cx slot (op:= .mapSet kk m k x) ok h)
 refine yqu.ok (z0q hs he F cx slot ?_ h)
 cases op<;>first |exact ok|exact absurd ⟨_,_,_,_,rfl⟩ hc|exact absurd ⟨_,_,_,_,rfl⟩ hr|exact absurd ⟨_,_,_,_,rfl⟩ ht|exact absurd ⟨_,_,_,_,_,rfl⟩ hm|exact absurd ⟨_,_,rfl⟩ hdd|exact absurd ⟨_,_,rfl⟩ hnn|exact absurd ⟨_,_,rfl⟩ hzz|exact absurd ⟨_,_,rfl⟩ hqq|exact absurd ⟨_,_,_,rfl⟩ huu|exact absurd ⟨_,_,_,rfl⟩ hkk|exact absurd ⟨_,_,_,rfl⟩ hap|exact absurd ⟨_,_,_,_,rfl⟩ hbb
theorem z8j [Clk] {F:Oracle} (hF:Good P oc gl F) {s:S} {A:Act} {e:Env} (hs:Sim oc gl s) (he:zcc s e A.tmps) (r:Option Nat) (cx:Cx) {nt:Nat} (hnt:nt<=A.tmps.size) {ops:Array Oper} {i:Nat} {c:CO} {o:Oper} (hi:ops[i]? =some o) {v:V} {m':Mem}
  (ok:ysy P gl nt ops c o=true) (h:zdr F cx e s.m c=some (v,m')) {K:Act->World->Prop} {Q:Exit->Act->World->Prop}
  (hK:∀s' x,Sim oc gl s'->Ext (fun _=>True) s s'->s'.m=m'->VR s' v x->K (A.put o.dst x) s'.w):wpOpIn (fen r) 0 P ops Q i K A s.w:=by
 simp only [ysy,Bool.and_eq_true,beq_iff_eq] at ok
 obtain⟨⟨⟨hd,hdt⟩,hg⟩,hop⟩:=ok
 unfold wpOpIn
 simp only [hi]
 have go:zca F cx (c.dst.getD 0) e s.m c.op=some (v,m')->o.wpIn (fen r) 0 P A s.w K Q:=fun h=>ymd hF hs he r cx _ hop h K Q hK
 have skip:v= .skip->m'=s.m->(∀f,o.about P s.w A.eval=some f->(fen r).fn f)/\K (A.put o.dst undef) s.w:=by
  rintro rfl rfl
  exact⟨fun _ _=>trivial,hK s undef hs (Ext.refl _ _) rfl rfl⟩
 unfold zdr at h
 unfold ykd at hg
 cases hcg:c.guard with
 | none=>
  rw [hcg] at h hg
  cases hog:o.guard with
  | none=>simp only [Region.wanted,hog,if_true];exact go h
  | some p=>rw [hog] at hg;cases hg
 | some p=>
  obtain⟨t,w⟩:=p
  rw [hcg] at h hg
  cases hog:o.guard with
  | none=>rw [hog] at hg;cases hg
  | some q=>
   obtain⟨j,w'⟩:=q
   rw [hog] at hg
   simp only [Bool.and_eq_true,beq_iff_eq,decide_eq_true_eq] at hg
   obtain⟨⟨rfl,hj⟩,ht⟩:=hg
   have hlt:t<A.tmps.size:=by omega
   have hval:=he t
   simp only at h
   split at h
   ·rename_i b hget
    rw [hget] at hval
    have hv:A.tmps.getD t undef= .bool b:=hval
    have hv2:A.tmps[t]? =some (.bool b):=by
     rw [Array.getD_eq_getD_getElem?] at hv
     simp [hlt] at hv ⊢;exact hv
    have hy:yielded ops A.tmps j=some b:=by
     simp only [yielded,hj,Option.bind_some,hv2]
    have hw:Region.wanted o (yielded ops A.tmps)=(b==w):=by
     simp only [Region.wanted,hog,hy];cases b<;>cases w<;>rfl
    rw [hw]
    split at h
    ·rename_i e;subst e
     simp only [beq_self_eq_true,if_true]
     exact go h
    ·rename_i e
     simp only [Option.some.injEq,Prod.mk.injEq] at h
     have:(b==w)=false:=by simpa using e
     simp only [this,Bool.false_eq_true,if_false]
     exact skip h.1.symm h.2.symm
   ·rename_i hget
    rw [hget] at hval
    have hv:A.tmps.getD t undef=undef:=hval
    have hy:yielded ops A.tmps j=none:=by
     simp only [yielded,hj,Option.bind_some]
     have:A.tmps[t]? =some undef:=by
      rw [Array.getD_eq_getD_getElem?] at hv
      simp [hlt] at hv ⊢;exact hv
     rw [this];rfl
    have hw:Region.wanted o (yielded ops A.tmps)=false:=by
     simp only [Region.wanted,hog,hy];rfl
    simp only [Option.some.injEq,Prod.mk.injEq] at h
    rw [hw]
    exact skip h.1.symm h.2.symm
   ·cases h
theorem zg2 (A:Act) (d:Option Nat) (x:Value):(A.put d x).tmps.size=A.tmps.size/\(A.put d x).defers=A.defers:=by
 cases d<;>simp [Act.put]
theorem zlj (A:Act) (d:Nat) (x:Value) (h:d<A.tmps.size) (t:Nat):(A.put (some d) x).tmps.getD t undef=if d=t then x else A.tmps.getD t undef:=by
 simp only [Act.put,Array.getD_eq_getD_getElem?,Array.getElem?_setIfInBounds]
 by_cases e:d=t
 ·subst e;simp [h]
 ·simp [e]
theorem zwp {s:S} {e:Env} {A:Act} (he:zcc s e A.tmps) (d:Option Nat) (hd:∀t,d=some t->t<A.tmps.size) {v:V} {x:Value} (hv:VR s v x):zcc s (put? e d v) (A.put d x).tmps:=by
 cases d with
 | none=>exact he
 | some d=>
  intro t
  rw [zlj A d x (hd d rfl) t]
  show VR s (get (put e d v) t) _
  by_cases h:d=t
  ·subst h;rw [zi0];simpa using hv
  ·rw [zlw e d t v h];simpa [h] using he t
theorem zur {s:S} {e:Env} {tmps:Array Value} (p:Nat×V->Bool) (hp:∀t v v',p (t,v)=p (t,v')) (he:zcc s e tmps):zcc s (e.filter p) tmps:=by
 intro t
 rcases zyg p hp e t with h|h
 ·rw [h];exact he t
 ·rw [h];trivial
theorem yfb (e:Env) (u:Nat):∀(live:List Nat),get (only live e) u=get e u\/get (only live e) u= .undef
 | []=> .inr rfl
 | t::r=>by
  by_cases h:t=u
  ·subst h;exact .inl (by simp [only,get])
  ·have:=yfb e u r
   simpa [only,get,h] using this
theorem zrz {s:S} {e:Env} {tmps:Array Value} (live:List Nat) (he:zcc s e tmps):zcc s (only live e) tmps:=by
 intro t
 rcases yfb e t live with h|h
 ·rw [h];exact he t
 ·rw [h];trivial
theorem z7q {nt:Nat} {ops:Array Oper} {c:CO} {o:Oper} (ok:ysy P gl nt ops c o=true):c.dst=o.dst/\∀t,c.dst=some t->t<nt:=by
 simp only [ysy,Bool.and_eq_true,beq_iff_eq] at ok
 refine⟨ok.1.1.1,fun t ht=> ?_⟩
 have:=ok.1.1.2
 rw [ht] at this
 simpa using this
theorem yk7 [Clk] {F:Oracle} (hF:Good P oc gl F) (r:Option Nat) (cx:Cx) {nt:Nat} {ops:Array Oper} {Q:Exit->Act->World->Prop} (rest:List Nat):
  ∀(cos:List CO) (os:List Oper) (i:Nat) (e e':Env) (m':Mem) (s:S) (A:Act),(∀k,k<os.length->ops[i+k]? =os[k]?)->zow P gl nt ops cos os=true->zh7 F cx cos e s.m=some (e',m')->
   Sim oc gl s->zcc s e A.tmps->nt<=A.tmps.size->
   (∀s' A',Sim oc gl s'->Ext (fun _=>True) s s'->s'.m=m'->zcc s' e' A'.tmps->A'.tmps.size=A.tmps.size->A'.defers=A.defers->wpOpsIn (fen r) 0 P ops Q rest A' s'.w)->
   wpOpsIn (fen r) 0 P ops Q (List.range' i os.length++rest) A s.w
 | [],[],i,e,e',m',s,A,_,_,h,hs,he,hnt,hQ=>by
  simp only [zh7,Option.some.injEq,Prod.mk.injEq] at h
  obtain⟨rfl,rfl⟩:=h
  exact hQ s A hs (Ext.refl _ _) rfl he rfl rfl
 | [],_::_,_,_,_,_,_,_,_,ok,_,_,_,_,_=>by simp [zow] at ok
 | _::_,[],_,_,_,_,_,_,_,ok,_,_,_,_,_=>by simp [zow] at ok
 | c::cos,o::os,i,e,e',m',s,A,hops,ok,h,hs,he,hnt,hQ=>by
  simp only [zow,Bool.and_eq_true] at ok
  rw [zyc] at h
  split at h<;>try cases h
  rename_i v m1 h1
  have hi:ops[i]? =some o:=by simpa using hops 0 (by simp)
  rw [List.length_cons,List.range'_succ,List.cons_append,wpOpsIn_cons]
  obtain⟨hd,hdt⟩:=z7q ok.1
  refine z8j hF hs he r cx hnt hi ok.1 h1 fun s1 x k1 k2 k3 k4=> ?_
  have hsz:=zg2 A o.dst x
  subst k3
  refine yk7 hF r cx rest cos os (i+1) _ e' m' s1 (A.put o.dst x) (fun k hk=> ?_) ok.2 h k1 ?_ (by rw [hsz.1];exact hnt) fun s' A' q1 q2 q3 q4 q5 q6=> ?_
  ·have:=hops (k+1) (by simp;omega)
   rw [show i+1+k=i+(k+1) by omega,this]
   simp
  ·rw [hd]
   exact zwp (zcc.ext k2 (fun _ _ _=>trivial) he) o.dst (fun t ht=>by have:=hdt t (hd.trans ht);omega) k4
  ·exact hQ s' A' q1 (Ext.trans k2 q2 (fun _ _=>trivial)) q3 q4 (q5.trans hsz.1) (q6.trans hsz.2)
theorem z5x [Clk] {ops:Array Oper} {i:Nat} {o:Oper} (hi:ops[i]? =some o) (hg:o.guard=none) (r:Option Nat) {A:Act} {w w':World} {x:Value} (h:(execOp A.eval o).run P w= .ok (.value x) w') {K:Act->World->Prop} {Q:Exit->Act->World->Prop}
  (hK:K (A.put o.dst x) w'):wpOpIn (fen r) 0 P ops Q i K A w:=by
 unfold wpOpIn
 simp only [hi,Region.wanted,hg,if_true]
 refine⟨fun _ _=>trivial,?_⟩
 rw [Oper.semAt_eq _ _ _ (zr7 h (by simp)),h]
 exact hK
theorem yda [Clk] {F:Oracle} (hF:Good P oc gl F) (r:Option Nat) (cx:Cx) {nt:Nat} {ops:Array Oper} {Q:Exit->Act->World->Prop}:
  ∀(cos:List CO) (os:List Oper) (i:Nat) (e e':Env) (m':Mem) (s:S) (A:Act),(∀k,k<os.length->ops[i+k]? =os[k]?)->zow P gl nt ops cos os=true->zh7 F cx cos e s.m=some (e',m')->
   Sim oc gl s->zcc s e A.tmps->nt<=A.tmps.size->
   (∀s' A',Sim oc gl s'->Ext (fun _=>True) s s'->s'.m=m'->zcc s' e' A'.tmps->A'.tmps.size=A.tmps.size->A'.defers=A.defers->Q .normal A' s'.w)->
   wpOpsIn (fen r) 0 P ops Q (List.range' i os.length) A s.w
 | [],[],i,e,e',m',s,A,_,_,h,hs,he,hnt,hQ=>by
  simp only [zh7,Option.some.injEq,Prod.mk.injEq] at h
  obtain⟨rfl,rfl⟩:=h
  exact hQ s A hs (Ext.refl _ _) rfl he rfl rfl
 | [],_::_,_,_,_,_,_,_,_,ok,_,_,_,_,_=>by simp [zow] at ok
 | _::_,[],_,_,_,_,_,_,_,ok,_,_,_,_,_=>by simp [zow] at ok
 | c::cos,o::os,i,e,e',m',s,A,hops,ok,h,hs,he,hnt,hQ=>by
  simp only [zow,Bool.and_eq_true] at ok
  rw [zyc] at h
  split at h<;>try cases h
  rename_i v m1 h1
  have hi:ops[i]? =some o:=by simpa using hops 0 (by simp)
  rw [List.length_cons,List.range'_succ,wpOpsIn_cons]
  obtain⟨hd,hdt⟩:=z7q ok.1
  refine z8j hF hs he r cx hnt hi ok.1 h1 fun s1 x k1 k2 k3 k4=> ?_
  have hsz:=zg2 A o.dst x
  subst k3
  refine yda hF r cx cos os (i+1) _ e' m' s1 (A.put o.dst x) (fun k hk=> ?_) ok.2 h k1 ?_ (by rw [hsz.1];exact hnt) fun s' A' q1 q2 q3 q4 q5 q6=> ?_
  ·have:=hops (k+1) (by simp;omega)
   rw [show i+1+k=i+(k+1) by omega,this]
   simp
  ·rw [hd]
   exact zwp (zcc.ext k2 (fun _ _ _=>trivial) he) o.dst (fun t ht=>by have:=hdt t (hd.trans ht);omega) k4
  ·exact hQ s' A' q1 (Ext.trans k2 q2 (fun _ _=>trivial)) q3 q4 (q5.trans hsz.1) (q6.trans hsz.2)
end
end Go.Evl
namespace Go.Evl
open Go.RowKit
def tO:Opd->List Nat
 | .t n=>[n]
 | .k _=>[]
def tOs:List Opd->List Nat
 | []=>[]
 | x::r=>tO x++tOs r
def tP:List (Nat×Nat×Opd)->List Nat
 | []=>[]
 | (_,_,x)::r=>tO x++tP r
def tQ:Option Opd->List Nat
 | none=>[]
 | some x=>tO x
def reads:COp->List Nat
 | .mv x=>tO x
 | .ownNil _=>[]
 | .pick c a b=>tO c++(tO a++tO b)
 | .alloc .. =>[]
 | .box _ x=>tO x
 | .build _ ps=>tP ps
 | .mkList _ _ ps=>tOs ps
 | .mkListD _ _ ps=>tOs ps
 | .mkRow _ _ ps=>tOs ps
 | .load _ a=>tO a
 | .store _ a x=>tO a++tO x
 | .nilCheck x=>tO x
 | .bin _ x y=>tO x++tO y
 | .eqv _ _ x y=>tO x++tO y
 | .un _ x=>tO x
 | .conv _ x=>tO x
 | .mkFunc _ a b=>tOs a++tOs b
 | .makeRow _ _ n=>tO n
 | .sliceS x lo hi=>tO x++(tQ lo++tQ hi)
 | .slice _ x lo hi mx=>tO x++(tQ lo++(tQ hi++tQ mx))
 | .fieldAddr _ x=>tO x
 | .field _ _ x=>tO x
 | .idxAddr _ x i=>tO x++tO i
 | .idxAddrA _ _ x i=>tO x++tO i
 | .idxS x i=>tO x++tO i
 | .idxA _ _ _ x i=>tO x++tO i
 | .mkMap=>[]
 | .lookup _ _ _ m k=>tO m++tO k
 | .mapSet _ m k x=>tO m++(tO k++tO x)
 | .rangeS x=>tO x
 | .nextS x=>tO x
 | .extract x _=>tO x
 | .call _ _ f args=>tO f++tOs args
 | .storeR _ a x rs=>tO a++(tO x++rs)
 | .callR _ f args rs=>tO f++(tOs args++rs)
 | .callB _ f args t=>tO f++(tOs args++[t])
 | .bad=>[]
 | .callN f args=>tO f++tOs args
 | .callK _ f args=>tO f++tOs args
 | .callQ f args=>tO f++tOs args
 | .callU _ f args=>tO f++tOs args
 | .callZ f args=>tO f++tOs args
 | .appendZ _ _ a n=>tO a++tO n
 | .mapSetR _ m k x rs=>tO m++(tO k++(tO x++rs))
 | .appendIn _ a x=>tO a++tO x
 | .loadD _ a=>tO a
 | .nilEq _ _ x=>tO x
 | .callD f args=>tO f++tOs args
 | .idxAddrD _ x i=>tO x++tO i
 | .fieldAddrD _ x=>tO x
 | .sealMv x=>tO x
 | .sliceC _ x h m=>tO x++tO h++tO m
 | .len _ x=>tO x
 | .append _ a x=>tO a++tO x
 | .appendS _ a x=>tO a++tO x
 | .appendF _ a x=>tO a++tO x
 | .strB x=>tO x
 | .copy _ a x=>tO a++tO x
 | .minmax _ args=>tOs args
 | .clear _ x=>tO x
def zj0 (c:CO):List Nat:=
 match c.guard with
 | none=>reads c.op
 | some (t,_)=>t::reads c.op
def ym1:List ybl->Bool
 | []=>true
 | .z _::r=>ym1 r
 | _=>false
theorem ybp (cx:Cx) (slot:Nat):∀(l:List ybl) (m:Mem),ym1 l=true->(zbc cx slot l m).2=m/\∀m2,zbc cx slot l m2=((zbc cx slot l m).1,m2)
 | [],m,_=>⟨rfl,fun _=>rfl⟩
 | .z x::r,m,h=>by
  obtain⟨h1,h2⟩:=ybp cx slot r m h
  exact⟨by simp [zbc,h1],fun m2=>by simp [zbc,h2 m2]⟩
 | .own _::_,_,h=>by simp [ym1] at h
def cls:COp->Nat
 | .mv _=>0
 | .pick .. =>0
 | .bin .. =>0
 | .eqv .. =>0
 | .un .. =>0
 | .conv .. =>0
 | .mkFunc .. =>0
 | .sliceS .. =>0
 | .field .. =>0
 | .idxS .. =>0
 | .idxA .. =>0
 | .extract .. =>0
 | .minmax .. =>0
 | .loadD .. =>0
 | .nilEq .. =>1
 | .callD .. =>0
 | .idxAddrD .. =>0
 | .fieldAddrD .. =>0
 | .bad=>0
 | .mkListD .. =>0
 | .build z _=>if ym1 z then 0 else 3
 | .alloc .. =>3
 | .box .. =>3
 | .ownNil _=>3
 | .mkRow .. =>3
 | .mkMap=>3
 | .callN .. =>3
 | .storeR .. =>4
 | .callR .. =>4
 | .mapSetR .. =>4
 | .mkList .. =>1
 | .load .. =>1
 | .nilCheck _=>1
 | .slice .. =>1
 | .fieldAddr .. =>1
 | .idxAddr .. =>1
 | .idxAddrA .. =>1
 | .lookup .. =>1
 | .len .. =>1
 | .call false true _ _=>1
 | .call false false _ _=>3
 | _=>2
section
variable {F : Oracle} {cx : Cx} {slot : Nat} {e e' : Env} {m : Mem}
theorem zai (x:Opd) (h:∀t∈tO x,get e t=get e' t):x.ev e=x.ev e':=by
 cases x with
 | t n=>exact h n (by simp [tO])
 | k v=>rfl
theorem zds:∀(xs:List Opd),(∀t∈tOs xs,get e t=get e' t)->evs e xs=evs e' xs
 | [],_=>rfl
 | x::r,h=>by
  simp only [evs]
  rw [zai x fun t ht=>h t (by simp [tOs,ht]),zds r fun t ht=>h t (by simp [tOs,ht])]
theorem z2v:∀(xs:List (Nat×Nat×Opd)),(∀t∈tP xs,get e t=get e' t)->zw3 e xs=zw3 e' xs
 | [],_=>rfl
 | (a,b,x)::r,h=>by
  simp only [zw3]
  rw [zai x fun t ht=>h t (by simp [tP,ht]),z2v r fun t ht=>h t (by simp [tP,ht])]
theorem zr0 (x:Option Opd) (h:∀t∈tQ x,get e t=get e' t):x.map (·.ev e)=x.map (·.ev e'):=by
 cases x with
 | none=>rfl
 | some x=>simp only [Option.map_some];rw [zai x fun t ht=>h t (by simp [tQ,ht])]
theorem zso:∀(l:List Nat),(∀t∈l,get e t=get e' t)->l.map (get e)=l.map (get e')
 | [],_=>rfl
 | t::r,h=>by rw [List.map_cons,List.map_cons,h t (by simp),zso r fun u hu=>h u (by simp [hu])]
theorem zyb (op:COp) (h:∀t∈reads op,get e t=get e' t):zca F cx slot e m op=zca F cx slot e' m op:=by
 cases op<;>simp only [reads] at h<;>simp only [zca]
 case mv x=>rw [zai x h]
 case pick c a b=>rw [zai c fun t ht=>h t (by simp [ht]),zai a fun t ht=>h t (by simp [ht]),zai b fun t ht=>h t (by simp [ht])]
 case box x=>rw [zai x h]
 case build z ps=>rw [z2v ps h]
 case mkList a b ps=>rw [zds ps h]
 case mkRow a b ps=>rw [zds ps h]
 case load n x=>rw [zai x h]
 case store n a x=>rw [zai a fun t ht=>h t (by simp [ht]),zai x fun t ht=>h t (by simp [ht])]
 case nilCheck x=>rw [zai x h]
 case bin op a x=>rw [zai a fun t ht=>h t (by simp [ht]),zai x fun t ht=>h t (by simp [ht])]
 case eqv n b a x=>rw [zai a fun t ht=>h t (by simp [ht]),zai x fun t ht=>h t (by simp [ht])]
 case un op x=>rw [zai x h]
 case conv k x=>rw [zai x h]
 case mkFunc f a b=>rw [zds a fun t ht=>h t (by simp [ht]),zds b fun t ht=>h t (by simp [ht])]
 case makeRow r z x=>rw [zai x h]
 case sliceS x lo hi=>rw [zai x fun t ht=>h t (by simp [ht]),zr0 lo fun t ht=>h t (by simp [ht]),zr0 hi fun t ht=>h t (by simp [ht])]
 case slice n x lo hi mx=>rw [zai x fun t ht=>h t (by simp [ht]),zr0 lo fun t ht=>h t (by simp [ht]),zr0 hi fun t ht=>h t (by simp [ht]),zr0 mx fun t ht=>h t (by simp [ht])]
 case fieldAddr n x=>rw [zai x h]
 case field n k x=>rw [zai x h]
 case idxAddr n a x=>rw [zai a fun t ht=>h t (by simp [ht]),zai x fun t ht=>h t (by simp [ht])]
 case idxAddrA l n a x=>rw [zai a fun t ht=>h t (by simp [ht]),zai x fun t ht=>h t (by simp [ht])]
 case idxS a x=>rw [zai a fun t ht=>h t (by simp [ht]),zai x fun t ht=>h t (by simp [ht])]
 case idxA l n k a x=>rw [zai a fun t ht=>h t (by simp [ht]),zai x fun t ht=>h t (by simp [ht])]
 case lookup kk z c a x=>rw [zai a fun t ht=>h t (by simp [ht]),zai x fun t ht=>h t (by simp [ht])]
 case mapSet kk c a b=>rw [zai c fun t ht=>h t (by simp [ht]),zai a fun t ht=>h t (by simp [ht]),zai b fun t ht=>h t (by simp [ht])]
 case rangeS x=>rw [zai x h]
 case nextS x=>rw [zai x h]
 case extract x i=>rw [zai x h]
 case call a b f args=>rw [zai f fun t ht=>h t (by simp [ht]),zds args fun t ht=>h t (by simp [ht])]
 case storeR n a x rs=>rw [zai a fun t ht=>h t (by simp [ht]),zai x fun t ht=>h t (by simp [ht]),zso rs fun t ht=>h t (by simp [ht])]
 case callR i f args rs=>rw [zai f fun t ht=>h t (by simp [ht]),zds args fun t ht=>h t (by simp [ht]),zso rs fun t ht=>h t (by simp [ht])]
 case appendZ r z a n=>rw [zai a fun t ht=>h t (by simp [ht]),zai n fun t ht=>h t (by simp [ht])]
 case mkListD a b ps=>rw [zds ps h]
 case callB i f args t=>rw [zai f fun t ht=>h t (by simp [ht]),zds args fun t ht=>h t (by simp [ht]),h t (by simp)]
 case mapSetR kk c a b rs=>rw [zai c fun t ht=>h t (by simp [ht]),zai a fun t ht=>h t (by simp [ht]),zai b fun t ht=>h t (by simp [ht]),zso rs fun t ht=>h t (by simp [ht])]
 case loadD n x=>rw [zai x h]
 case nilEq kd neg x=>rw [zai x h]
 case callQ f args=>rw [zai f fun t ht=>h t (by simp [ht]),zds args fun t ht=>h t (by simp [ht])]
 case callZ f args=>rw [zai f fun t ht=>h t (by simp [ht]),zds args fun t ht=>h t (by simp [ht])]
 case callU b f args=>rw [zai f fun t ht=>h t (by simp [ht]),zds args fun t ht=>h t (by simp [ht])]
 case callK b f args=>rw [zai f fun t ht=>h t (by simp [ht]),zds args fun t ht=>h t (by simp [ht])]
 case callN f args=>rw [zai f fun t ht=>h t (by simp [ht]),zds args fun t ht=>h t (by simp [ht])]
 case callD f args=>rw [zai f fun t ht=>h t (by simp [ht]),zds args fun t ht=>h t (by simp [ht])]
 case fieldAddrD n x=>rw [zai x h]
 case sealMv x=>rw [zai x h]
 case sliceC n a x y=>rw [zai a fun t ht=>h t (by simp [ht]),zai x fun t ht=>h t (by simp [ht]),zai y fun t ht=>h t (by simp [ht])]
 case idxAddrD n a x=>rw [zai a fun t ht=>h t (by simp [ht]),zai x fun t ht=>h t (by simp [ht])]
 case appendIn r a x=>rw [zai a fun t ht=>h t (by simp [ht]),zai x fun t ht=>h t (by simp [ht])]
 case len k x=>rw [zai x h]
 case appendS r a x=>rw [zai a fun t ht=>h t (by simp [ht]),zai x fun t ht=>h t (by simp [ht])]
 case appendF r a x=>rw [zai a fun t ht=>h t (by simp [ht]),zai x fun t ht=>h t (by simp [ht])]
 case strB x=>rw [zai x h]
 case append r a x=>rw [zai a fun t ht=>h t (by simp [ht]),zai x fun t ht=>h t (by simp [ht])]
 case copy n a x=>rw [zai a fun t ht=>h t (by simp [ht]),zai x fun t ht=>h t (by simp [ht])]
 case minmax b args=>rw [zds args h]
 case clear z x=>rw [zai x h]
theorem ych (c:CO) (h:∀t∈zj0 c,get e t=get e' t):zdr F cx e m c=zdr F cx e' m c:=by
 unfold zdr
 unfold zj0 at h
 cases hg:c.guard with
 | none=>rw [hg] at h;exact zyb _ h
 | some p=>
  obtain⟨t,w⟩:=p
  rw [hg] at h
  simp only
  rw [h t (by simp),zyb c.op fun t ht=>h t (by simp [ht])]
theorem zr2:∀(vs:List V),yfg vs=true->∃ds,∀m,freezeL false m vs=some ds
 | [],_=>⟨[],fun _=>rfl⟩
 | v::r,h=>by
  cases v<;>simp only [yfg,Bool.false_eq_true] at h
  rename_i x
  obtain⟨ds,hds⟩:=zr2 r h
  exact⟨x::ds,fun m=>by simp only [freezeL,freeze,hds m]⟩
theorem yu1 {op:COp} {v:V} {m':Mem} (hc:cls op=0) (h:zca F cx slot e m op=some (v,m')):m'=m/\∀m2,zca F cx slot e m2 op=some (v,m2):=by
 cases op<;>first |exact absurd (show (2:Nat)=0 from hc) (by decide)|exact absurd (show (1:Nat)=0 from hc) (by decide)|exact absurd (show (3:Nat)=0 from hc) (by decide)|exact absurd (show (4:Nat)=0 from hc) (by decide)|skip
 all_goals simp only [zca,Option.map_eq_some_iff,Option.some.injEq,Prod.mk.injEq] at h
 case mv=>obtain⟨rfl,rfl⟩:=h;exact⟨rfl,fun _=>by simp_all [zca]⟩
 case pick=>
  split at h<;>try cases h
  rename_i hx
  exact⟨rfl,fun _=>by simp_all [zca]⟩
 case bin=>obtain⟨a,h1,rfl,rfl⟩:=h;exact⟨rfl,fun _=>by simp_all [zca]⟩
 case eqv=>obtain⟨a,h1,rfl,rfl⟩:=h;exact⟨rfl,fun _=>by simp_all [zca]⟩
 case un=>obtain⟨a,h1,rfl,rfl⟩:=h;exact⟨rfl,fun _=>by simp_all [zca]⟩
 case conv=>
  split at h<;>try cases h
  rename_i hx
  exact⟨rfl,fun _=>by simp_all [zca]⟩
 case mkFunc=>obtain⟨rfl,rfl⟩:=h;exact⟨rfl,fun _=>by simp_all [zca]⟩
 case mkListD=>
  split at h
  case isFalse=>cases h
  rename_i hd
  simp only [Option.map_eq_some_iff,Prod.mk.injEq] at h
  obtain⟨ds,h,rfl,rfl⟩:=h
  exact⟨rfl,fun _=>by simp only [zca,hd,if_true,h,Option.map_some]⟩
 case sliceS=>
  split at h<;>try cases h
  rename_i hx
  split at h<;>try cases h
  rename_i hb
  exact⟨rfl,fun _=>by simp_all [zca]⟩
 case field=>obtain⟨a,h1,rfl,rfl⟩:=h;exact⟨rfl,fun _=>by simp_all [zca]⟩
 case idxS=>
  split at h<;>try cases h
  rename_i hx hi
  split at h<;>try cases h
  rename_i h0
  simp only [Option.map_eq_some_iff,Prod.mk.injEq] at h
  obtain⟨a,h1,rfl,rfl⟩:=h
  exact⟨rfl,fun _=>by simp_all [zca]⟩
 case idxA=>
  split at h<;>try cases h
  rename_i hi
  split at h<;>try cases h
  rename_i h0
  simp only [Option.map_eq_some_iff,Prod.mk.injEq] at h
  obtain⟨a,h1,rfl,rfl⟩:=h
  exact⟨rfl,fun _=>by simp_all [zca]⟩
 case extract=>
  split at h<;>try cases h
  rename_i hx
  simp only [Option.map_eq_some_iff,Prod.mk.injEq] at h
  obtain⟨a,h1,rfl,rfl⟩:=h
  exact⟨rfl,fun _=>by simp_all [zca]⟩
 case minmax=>obtain⟨a,h1,rfl,rfl⟩:=h;exact⟨rfl,fun _=>by simp_all [zca]⟩
 case build z ps=>
  have hz:ym1 z=true:=by
   cases hz:ym1 z with
   | true=>rfl
   | false=>simp [cls,hz] at hc
  obtain⟨a,h1,rfl,rfl⟩:=h
  obtain⟨k1,k2⟩:=ybp cx slot z m hz
  exact⟨k1,fun m2=>by simp [zca,k2 m2,h1]⟩
 case call a b _ _=>cases a<;>cases b<;>simp [cls] at hc
 case loadD=>
  split at h<;>try cases h
  rename_i hx
  simp only [Option.map_eq_some_iff,Prod.mk.injEq] at h
  obtain⟨a,h1,rfl,rfl⟩:=h
  exact⟨rfl,fun _=>by simp_all [zca]⟩
 case bad=>cases h
 case fieldAddrD=>
  split at h<;>try cases h
  exact⟨rfl,fun _=>by simp_all [zca]⟩
 case idxAddrD=>
  split at h<;>try cases h
  rename_i hx hi
  split at h<;>try cases h
  rename_i hr
  exact⟨rfl,fun _=>by simp_all [zca]⟩
 case callD f args=>
  split at h<;>try cases h
  rename_i g hf
  split at h<;>try cases h
  rename_i hd
  obtain⟨ds,hds⟩:=zr2 _ hd
  simp only [zks,Bool.false_eq_true,if_false,List.nil_append,List.append_nil,hds] at h
  split at h<;>try cases h
  rename_i v1 m1 hcall
  simp only [znm,if_true] at h
  split at h<;>try cases h
  rename_i hids
  simp only [Option.map_eq_some_iff,Prod.mk.injEq] at h
  obtain⟨a,h1,rfl,rfl⟩:=h
  refine⟨rfl,fun m2=> ?_⟩
  simp only [zca,hf,hd,if_true,zks,Bool.false_eq_true,if_false,List.nil_append,List.append_nil,hds,hcall,znm,hids,h1]
  rfl
theorem yvq {op:COp} {v:V} {m':Mem} (hc:cls op<=1) (h:zca F cx slot e m op=some (v,m')):m'=m:=by
 by_cases h0:cls op=0
 ·exact(yu1 h0 h).1
 cases op<;>first |exact absurd (show (2:Nat)<=1 from hc) (by decide)|exact absurd (show (3:Nat)<=1 from hc) (by decide)|exact absurd (show (4:Nat)<=1 from hc) (by decide)|exact absurd rfl h0|skip
 all_goals simp only [zca,Option.map_eq_some_iff,Prod.mk.injEq] at h
 case build z ps=>
  cases hz:ym1 z with
  | true=>simp [cls,hz] at h0
  | false=>simp [cls,hz] at hc
 case mkList=>obtain⟨a,h1,rfl,rfl⟩:=h;rfl
 case load=>obtain⟨a,h1,rfl,rfl⟩:=h;rfl
 case nilCheck=>
  split at h
  ·simp only [Option.some.injEq,Prod.mk.injEq] at h;exact h.2.symm
  ·split at h<;>try cases h
   rfl
 case slice=>obtain⟨a,h1,rfl,rfl⟩:=h;rfl
 case fieldAddr=>obtain⟨a,h1,rfl,rfl⟩:=h;rfl
 case idxAddr=>obtain⟨a,h1,rfl,rfl⟩:=h;rfl
 case idxAddrA=>
  split at h<;>try cases h
  split at h<;>try cases h
  simp only [Option.map_eq_some_iff,Prod.mk.injEq] at h
  obtain⟨a,h1,rfl,rfl⟩:=h;rfl
 case lookup=>obtain⟨a,h1,rfl,rfl⟩:=h;rfl
 case len=>obtain⟨a,h1,rfl,rfl⟩:=h;rfl
 case nilEq=>
  split at h<;>try cases h
  split at h<;>try cases h
  rfl
 case call a b f args=>
  cases a<;>cases b<;>first |exact absurd (show (2:Nat)<=1 from hc) (by decide)|exact absurd (show (3:Nat)<=1 from hc) (by decide)|skip
  simp only [zks,Bool.false_eq_true,if_false] at h
  split at h<;>try cases h
  split at h<;>try cases h
  split at h<;>try cases h
  simp only [znm,if_true] at h
  split at h<;>try cases h
  simp only [Option.map_eq_some_iff,Prod.mk.injEq] at h
  obtain⟨a,h1,rfl,rfl⟩:=h;rfl
theorem yu2 {c:CO} {v:V} {m':Mem} (hc:cls c.op=0) (h:zdr F cx e m c=some (v,m')):m'=m/\∀m2,zdr F cx e m2 c=some (v,m2):=by
 unfold zdr at h ⊢
 split at h
 ·simpa using yu1 hc h
 ·split at h
  ·split at h
   ·rename_i hb
    have:=yu1 hc h
    simp only [hb,if_true]
    exact this
   ·rename_i hb
    simp only [Option.some.injEq,Prod.mk.injEq] at h
    obtain⟨rfl,rfl⟩:=h
    exact⟨rfl,fun _=>by simp only [hb,if_false]⟩
  ·simp only [Option.some.injEq,Prod.mk.injEq] at h
   obtain⟨rfl,rfl⟩:=h
   exact⟨rfl,fun _=>rfl⟩
  ·cases h
theorem yq8 {c:CO} {v:V} {m':Mem} (hc:cls c.op<=1) (h:zdr F cx e m c=some (v,m')):m'=m:=by
 unfold zdr at h
 split at h
 ·exact yvq hc h
 ·split at h
  ·split at h
   ·exact yvq hc h
   ·simp only [Option.some.injEq,Prod.mk.injEq] at h;exact h.2.symm
  ·simp only [Option.some.injEq,Prod.mk.injEq] at h;exact h.2.symm
  ·cases h
end
end Go.Evl
namespace Go.Evl
def Sub (m m':Mem):Prop:=∀i o,look m i=some o->look m' i=some o
def ybh (is:List Id) (m m':Mem):Prop:=∀i∈is,∀o,look m i=some o->look m' i=some o
def zwt (e:Env):COp->List Id
 | .mkList _ _ xs=>idsL (evs e xs)
 | .load _ a=>ids (a.ev e)
 | .nilCheck x=>ids (x.ev e)
 | .slice _ x _ _ _=>ids (x.ev e)
 | .fieldAddr _ x=>ids (x.ev e)
 | .idxAddr _ x _=>ids (x.ev e)
 | .nilEq _ _ x=>ids (x.ev e)
 | .idxAddrA _ _ x _=>ids (x.ev e)
 | .lookup _ _ _ x _=>ids (x.ev e)
 | .len _ x=>ids (x.ev e)
 | .call _ _ f args=>ids (f.ev e)++idsL (evs e args)
 | _=>[]
theorem z2d:∀(a b:List V),idsL (a++b)=idsL a++idsL b
 | [],_=>rfl
 | v::r,b=>by simp only [List.cons_append,idsL,z2d r b,List.append_assoc]
section
variable {m m' : Mem}
mutual
theorem z18 (any:Bool):∀(v:V) (d:D),ybh (ids v) m m'->freeze any m v=some d->freeze any m' v=some d
 | .d _,_,_,h=>h
 | .agg cs,d,hs,h=>by
  simp only [freeze,Option.map_eq_some_iff] at h ⊢
  obtain⟨x,h1,h2⟩:=h
  exact⟨x,zr3 any cs x hs h1,h2⟩
 | .ref i off len top,d,hs,h=>by
  simp only [freeze] at h ⊢
  cases hl:look m i with
  | none=>rw [hl] at h;cases h
  | some o=>rw [hl] at h;rw [hs i (by simp [ids]) o hl];exact h
 | .tup _,_,_,h=>by simp [freeze] at h
 | .ptr ..,_,_,h=>by simp [freeze] at h
 | .lptr ..,_,_,h=>by simp [freeze] at h
 | .cl ..,_,_,h=>h
 | .fn f [] [],d,_,h=>by simpa only [freeze] using h
 | .fn _ (_::_) _,_,_,h=>by simp [freeze] at h
 | .fn _ [] (_::_),_,_,h=>by simp [freeze] at h
 | .yld _,_,_,h=>by simp [freeze] at h
 | .mp _,_,_,h=>by simp [freeze] at h
 | .it _,_,_,h=>by simp [freeze] at h
 | .skip,_,_,h=>by simp [freeze] at h
 | .undef,_,_,h=>by simp [freeze] at h
theorem zr3 (any:Bool):∀(cs:List V) (ds:List D),ybh (idsL cs) m m'->freezeL any m cs=some ds->freezeL any m' cs=some ds
 | [],_,_,h=>h
 | v::r,ds,hs,h=>by
  simp only [freezeL] at h ⊢
  split at h
  ·rename_i x xs h1 h2
   rw [z18 any v x (fun i hi=>hs i (by simp [idsL,hi])) h1,zr3 any r xs (fun i hi=>hs i (by simp [idsL,hi])) h2]
   exact h
  ·cases h
end
theorem yb1 {v:V} {ds:List D} (hs:ybh (ids v) m m') (h:zql m v=some ds):zql m' v=some ds:=by
 unfold zql at h ⊢
 cases hf:freeze false m v with
 | none=>rw [hf] at h;cases h
 | some d=>rw [hf] at h;rw [z18 false v d hs hf];exact h
theorem z5p (sz:Nat):∀(vs:List V) (ds:List D),ybh (idsL vs) m m'->zrd sz m vs=some ds->zrd sz m' vs=some ds
 | [],_,_,h=>h
 | v::r,ds,hs,h=>by
  simp only [zrd] at h ⊢
  split at h
  ·rename_i x xs h1 h2
   rw [yb1 (fun i hi=>hs i (by simp [idsL,hi])) h1,z5p sz r xs (fun i hi=>hs i (by simp [idsL,hi])) h2]
   exact h
  ·cases h
theorem z93 {α:Type} {i:Id} (hs:ybh [i] m m') (f:Option Ob->Option α) (hf:f none=none) {r:α} (h:f (look m i)=some r):f (look m' i)=some r:=by
 cases hl:look m i with
 | none=>rw [hl,hf] at h;cases h
 | some o=>rw [hl] at h;rw [hs i (by simp) o hl];exact h
theorem yhr {n:Option Nat} {a v:V} (hs:ybh (ids a) m m') (h:z2i n m a=some v):z2i n m' a=some v:=by
 cases a<;>simp only [z2i] at h ⊢ <;>first |exact h|skip
 exact z93 hs (fun x=>match x with|some (.cells _ cs)=>yhx n cs _|some (.row _ _ _ l xs)=>if l=_ then z4l n xs _ else none|_=>none) rfl h
theorem z3n {v:V} (hs:ybh (ids v) m m') (h:z8v m v=true):z8v m' v=true:=by
 cases v<;>simp only [z8v] at h ⊢ <;>first |exact h|skip
 rename_i i off top
 cases hl:look m i with
 | none=>rw [hl] at h;cases h
 | some o=>rw [hl] at h;rw [hs i (by simp [ids]) o hl];exact h
theorem yku {v:V} {r:Nat×Bool} (hs:ybh (ids v) m m') (h:ykt m v=some r):ykt m' v=some r:=by
 unfold ykt at h ⊢
 split at h<;>first |exact h|skip
 ·split at h
  ·rename_i hsu
   rw [if_pos (z3n hs hsu)];exact h
  ·cases h
 ·rename_i i off len top
  exact z93 hs (fun x=>match x with|some (.row _ _ _ n _)=>if n=top/\off+len<=n/\len≠0 then some (2,false) else none|_=>none) rfl h
theorem zw0 {off:Nat} {v r:V} (hs:ybh (ids v) m m') (h:zf2 off m v=some r):zf2 off m' v=some r:=by
 unfold zf2 at h ⊢
 split at h
 ·rename_i hsu
  rw [if_pos (z3n hs hsu)];exact h
 ·cases h
theorem z7d {sz:Nat} {x i r:V} (hs:ybh (ids x) m m') (h:zlx sz m x i=some r):zlx sz m' x i=some r:=by
 unfold zlx at h ⊢
 split at h
 ·cases h
 ·cases x<;>first |exact h|skip
  case d x=>cases x<;>exact h
  case ref id _ _ _=>
   dsimp only at h ⊢
   cases hl:look m id with
   | none=>rw [hl] at h;cases h
   | some o=>rw [hl] at h;rw [hs id (by simp [ids]) o hl];exact h
theorem ydy {sz:Nat} {x:V} {lo hi mx:Option V} {r:V} (hs:ybh (ids x) m m') (h:ztu sz m x lo hi mx=some r):ztu sz m' x lo hi mx=some r:=by
 unfold ztu at h ⊢
 cases x<;>first |exact h|skip
 case d x=>cases x<;>exact h
 case ref id _ _ _=>
  dsimp only at h ⊢
  cases hl:look m id with
  | none=>rw [hl] at h;cases h
  | some o=>rw [hl] at h;rw [hs id (by simp [ids]) o hl];exact h
theorem ykl {k:Kd} {x:V} {n:Nat} (hs:ybh (ids x) m m') (h:yi4 m k x=some n):yi4 m' k x=some n:=by
 unfold yi4 at h ⊢
 cases k<;>cases x<;>first |exact h|skip
 case slc.d x=>cases x<;>exact h
 case slc.ref id _ _ _=>
  dsimp only at h ⊢
  cases hl:look m id with
  | none=>rw [hl] at h;cases h
  | some o=>rw [hl] at h;rw [hs id (by simp [ids]) o hl];exact h
 case map.mp id=>
  dsimp only at h ⊢
  cases hl:look m id with
  | none=>rw [hl] at h;cases h
  | some o=>rw [hl] at h;rw [hs id (by simp [ids]) o hl];exact h
theorem z94 {kk:KK} {z:D} {c:Bool} {x k r:V} (hs:ybh (ids x) m m') (h:zoq kk z c m x k=some r):zoq kk z c m' x k=some r:=by
 unfold zoq at h ⊢
 split at h<;>try cases h
 split at h<;>try cases h
 rename_i hk
 simp only [hk,if_true]
 cases x<;>first |exact h|skip
 case d x=>cases x<;>exact h
 case mp id=>
  dsimp only at h ⊢
  cases hl:look m id with
  | none=>rw [hl] at h;cases h
  | some o=>rw [hl] at h;rw [hs id (by simp [ids]) o hl];exact h
theorem yfe {v:V} {g:Nat} {a b:List V} (h:zpp v= .fn g a b):ids v=idsL a++idsL b:=by
 unfold zpp at h
 split at h
 ·injection h with _ h1 h2;subst h1 h2;rfl
 ·subst h;rfl
theorem z89 {F:Oracle} {cx:Cx} {slot:Nat} {e:Env} {op:COp} (hs:ybh (zwt e op) m m') (hc:cls op=1) {v:V} {m1:Mem} (h:zca F cx slot e m op=some (v,m1)):zca F cx slot e m' op=some (v,m'):=by
 cases op<;>first |exact absurd (show (2:Nat)=1 from hc) (by decide)|exact absurd (show (0:Nat)=1 from hc) (by decide)|exact absurd (show (3:Nat)=1 from hc) (by decide)|exact absurd (show (4:Nat)=1 from hc) (by decide)|skip
 all_goals simp only [zca,Option.map_eq_some_iff,Prod.mk.injEq] at h ⊢
 case mkList=>obtain⟨a,h1,h2,_⟩:=h;exact⟨a,z5p _ _ _ hs h1,h2,by first |trivial|rfl⟩
 case load=>obtain⟨a,h1,h2,_⟩:=h;exact⟨a,yhr hs h1,h2,by first |trivial|rfl⟩
 case nilCheck x=>
  split at h
  ·rename_i hsu
   simp only [Option.some.injEq,Prod.mk.injEq] at h
   rw [if_pos (z3n hs hsu),h.1]
  ·generalize hx:x.ev e=y at h ⊢
   split at h<;>try cases h
   rename_i hfn
   have hy:z8v m' y=false:=by
    unfold zpp at hfn
    split at hfn
    ·rfl
    ·subst hfn;rfl
   rw [hy]
   rfl
 case slice=>obtain⟨a,h1,h2,_⟩:=h;exact⟨a,ydy hs h1,h2,by first |trivial|rfl⟩
 case fieldAddr=>obtain⟨a,h1,h2,_⟩:=h;exact⟨a,zw0 hs h1,h2,by first |trivial|rfl⟩
 case idxAddr=>obtain⟨a,h1,h2,_⟩:=h;exact⟨a,z7d hs h1,h2,by first |trivial|rfl⟩
 case nilEq kd neg x=>
  split at h<;>try cases h
  rename_i k b hb
  rw [yku hs hb]
  split at h<;>try cases h
  rename_i hk
  exact if_pos hk
 case idxAddrA=>
  split at h<;>try cases h
  split at h<;>try cases h
  rename_i hr
  simp only [Option.map_eq_some_iff,Prod.mk.injEq] at h
  obtain⟨a,h1,h2,_⟩:=h
  rw [if_pos hr,zw0 hs h1,<-h2]
  rfl
 case lookup=>obtain⟨a,h1,h2,_⟩:=h;exact⟨a,z94 hs h1,h2,by first |trivial|rfl⟩
 case len=>obtain⟨a,h1,h2,_⟩:=h;exact⟨a,ykl hs h1,h2,by first |trivial|rfl⟩
 case build z ps=>cases hz:ym1 z<;>simp [cls,hz] at hc
 case call a b f args=>
  cases a<;>cases b<;>first |exact absurd (show (2:Nat)=1 from hc) (by decide)|exact absurd (show (3:Nat)=1 from hc) (by decide)|skip
  simp only [zks,Bool.false_eq_true,if_false] at h ⊢
  split at h<;>try cases h
  rename_i g first caps hf
  split at h<;>try cases h
  rename_i hfr
  split at h<;>try cases h
  rename_i hcall
  have hs':ybh (idsL (first ++evs e args++caps)) m m':=fun i hi=>hs i (by
   simp only [z2d,List.mem_append] at hi
   simp only [zwt,yfe hf,List.mem_append]
   rcases hi with(hi|hi)|hi
   ·exact .inl (.inl hi)
   ·exact .inr hi
   ·exact .inl (.inr hi))
  simp only [zr3 false _ _ hs' hfr,hcall]
  simp only [znm,if_true] at h ⊢
  split at h<;>try cases h
  rename_i hid
  rw [if_pos hid]
  simp only [Option.map_eq_some_iff,Prod.mk.injEq] at h ⊢
  obtain⟨a,h1,h2,_⟩:=h
  exact⟨a,h1,h2,by first |trivial|rfl⟩
theorem yg9 {F:Oracle} {cx:Cx} {e:Env} {c:CO} (hs:ybh (zwt e c.op) m m') (hc:cls c.op=1) {v:V} {m1:Mem} (h:zdr F cx e m c=some (v,m1)):zdr F cx e m' c=some (v,m'):=by
 unfold zdr at h ⊢
 split at h
 ·exact z89 hs hc h
 ·split at h
  ·split at h
   ·rename_i hb
    rw [if_pos hb]
    exact z89 hs hc h
   ·rename_i hb
    rw [if_neg hb]
    simp only [Option.some.injEq,Prod.mk.injEq] at h ⊢
    exact⟨h.1,trivial⟩
  ·simp only [Option.some.injEq,Prod.mk.injEq] at h ⊢
   exact⟨h.1,trivial⟩
  ·cases h
theorem zyp (cx:Cx) (slot:Nat) (m:Mem) (ob:Ob):Sub m (upd m (zcn cx slot m) ob):=by
 intro i o hi
 rw [zay _ _ _ _ fun e=> ?_]
 ·exact hi
 ·rw [<-e,zc3] at hi
  cases hi
theorem z0v (cx:Cx) (slot:Nat):∀(l:List ybl) (m:Mem),Sub m (zbc cx slot l m).2
 | [],_=>fun _ _ h=>h
 | .z _::r,m=>by simp only [zbc];exact z0v cx slot r m
 | .own s::r,m=>by
  simp only [zbc]
  exact fun i o h=>z0v cx slot r _ i o (zyp cx slot m _ i o h)
theorem zyo:∀(m r:Mem),Sub m (m++r)
 | [],_,i,o,h=>by simp [look] at h
 | (j,x)::m,r,i,o,h=>by
  simp only [List.cons_append,look] at h ⊢
  split at h
  ·rename_i e;rw [if_pos e];exact h
  ·rename_i e;rw [if_neg e];exact zyo m r i o h
theorem yey {F:Oracle} {cx:Cx} {e:Env} {c:CO} (hc:cls c.op=3) {v:V} (h:zdr F cx e m c=some (v,m')):Sub m m':=by
 have key:∀slot,zca F cx slot e m c.op=some (v,m')->Sub m m':=by
  intro slot h
  generalize hop:c.op=op at hc h
  cases op<;>first |exact absurd (show (2:Nat)=3 from hc) (by decide)|exact absurd (show (1:Nat)=3 from hc) (by decide)|exact absurd (show (0:Nat)=3 from hc) (by decide)|exact absurd (show (4:Nat)=3 from hc) (by decide)|skip
  all_goals simp only [zca] at h
  case ownNil=>
   simp only [Option.some.injEq,Prod.mk.injEq] at h
   obtain⟨_,rfl⟩:=h
   exact zyp _ _ _ _
  case mkMap=>
   simp only [Option.some.injEq,Prod.mk.injEq] at h
   obtain⟨_,rfl⟩:=h
   exact zyp _ _ _ _
  case box=>
   split at h<;>try cases h
   exact zyp _ _ _ _
  case mkRow=>
   simp only [Option.map_eq_some_iff,Prod.mk.injEq] at h
   obtain⟨_,_,_,rfl⟩:=h
   exact zyp _ _ _ _
  case alloc=>
   simp only [Option.some.injEq,Prod.mk.injEq] at h
   obtain⟨_,rfl⟩:=h
   exact fun i o hi=>zyp _ _ _ _ i o (z0v cx slot _ m i o hi)
  case build=>
   simp only [Option.map_eq_some_iff,Prod.mk.injEq] at h
   obtain⟨_,_,_,rfl⟩:=h
   exact z0v _ _ _ _
  case call a b f args=>
   cases a<;>cases b<;>first |exact absurd (show (2:Nat)=3 from hc) (by decide)|exact absurd (show (1:Nat)=3 from hc) (by decide)|skip
   simp only [zks,Bool.false_eq_true,if_false] at h
   split at h<;>try cases h
   split at h<;>try cases h
   split at h<;>try cases h
   simp only [znm,Bool.false_eq_true,if_false,settle] at h
   split at h<;>try cases h
   exact zyo _ _
  case callN f args=>
   split at h<;>try cases h
   split at h<;>try cases h
   simp only [zks,Bool.false_eq_true,if_false] at h
   split at h<;>try cases h
   split at h<;>try cases h
   simp only [znm,Bool.false_eq_true,if_false,settle] at h
   split at h<;>try cases h
   exact zyo _ _
 unfold zdr at h
 split at h
 ·exact key _ h
 ·split at h
  ·split at h
   ·exact key _ h
   ·simp only [Option.some.injEq,Prod.mk.injEq] at h;exact h.2▸fun _ _ h=>h
  ·simp only [Option.some.injEq,Prod.mk.injEq] at h;exact h.2▸fun _ _ h=>h
  ·cases h
def z58:COp->List Nat
 | .storeR _ _ _ rs=>rs
 | .callR _ _ _ rs=>rs
 | .mapSetR _ _ _ _ rs=>rs
 | _=>[]
theorem z5m:∀(vs:List V),z7i m m' vs=true->∀v∈vs,∀i∈ids v,look m' i=look m i
 | [],_,v,hv,_,_=>by simp at hv
 | w::r,h,v,hv,i,hi=>by
  unfold z7i at h
  split at h
  ·rename_i e;cases e
  ·rename_i o a b r' e
   obtain⟨rfl,rfl⟩:=(List.cons.injEq ..).mp e
   simp only [Bool.and_eq_true] at h
   rcases List.mem_cons.1 hv with rfl|hv
   ·simp only [ids,List.mem_singleton] at hi
    subst hi
    have h1:=h.1
    unfold yof at h1
    split at h1
    ·rename_i t cs u ds k1 k2
     simp only [Bool.and_eq_true,decide_eq_true_eq] at h1
     obtain⟨rfl,h2⟩:=h1
     rw [k1,k2,yat _ _ h2]
    ·cases h1
   ·exact z5m r h.2 v hv i hi
  ·cases h
theorem yg0 {n:Nat} {a x:V} {vs:List V} (ha:yeo a vs=true) (h:zxd n m a x=some m'):∀v∈vs,∀i∈ids v,look m' i=look m i:=by
 intro v hv i hi
 unfold yeo at ha
 split at ha
 ·rename_i o off top
  have:=List.all_eq_true.1 ha v hv
  cases v<;>simp only [Bool.false_eq_true] at this
  rename_i o' _ _
  simp only [ids,List.mem_singleton] at hi
  subst hi
  have hne:i≠o:=by simpa using this
  simp only [zxd] at h
  split at h
  ·split at h<;>try cases h
   split at h<;>try cases h
   exact zay _ _ _ _ (Ne.symm hne)
  ·split at h<;>try cases h
   split at h<;>try cases h
   exact zay _ _ _ _ (Ne.symm hne)
  ·cases h
 ·cases ha
theorem ybq {kk:KK} {a k x:V} {vs:List V} (ha:yen a vs=true) (h:zh2 kk m a k x=some m'):∀v∈vs,∀i∈ids v,look m' i=look m i:=by
 intro v hv i hi
 unfold yen at ha
 split at ha
 ·rename_i o
  have:=List.all_eq_true.1 ha v hv
  cases v<;>simp only [Bool.false_eq_true] at this
  rename_i o' _ _
  simp only [ids,List.mem_singleton] at hi
  subst hi
  have hne:i≠o:=by simpa using this
  unfold zh2 at h
  split at h<;>try cases h
  rename_i hmp
  injection hmp with hmp
  subst hmp
  split at h<;>try cases h
  split at h<;>try cases h
  simp only [Option.map_eq_some_iff] at h
  obtain⟨es,_,rfl⟩:=h
  exact zay _ _ _ _ (Ne.symm hne)
 ·cases ha
theorem z9a {F:Oracle} {cx:Cx} {e:Env} {c:CO} (hc:cls c.op=4) {v:V} (h:zdr F cx e m c=some (v,m')):∀t∈z58 c.op,∀i∈ids (get e t),look m' i=look m i:=by
 have key:∀slot,zca F cx slot e m c.op=some (v,m')->∀t∈z58 c.op,∀i∈ids (get e t),look m' i=look m i:=by
  intro slot h
  generalize hop:c.op=op at hc h
  cases op<;>first |exact absurd (show (2:Nat)=4 from hc) (by decide)|exact absurd (show (1:Nat)=4 from hc) (by decide)|exact absurd (show (0:Nat)=4 from hc) (by decide)|exact absurd (show (3:Nat)=4 from hc) (by decide)|skip
  case build z ps=>cases hz:ym1 z<;>simp [cls,hz] at hc
  case call a b f args=>cases a<;>cases b<;>simp [cls] at hc
  all_goals simp only [zca] at h
  case storeR=>
   split at h<;>try cases h
   rename_i ha
   simp only [Option.map_eq_some_iff,Prod.mk.injEq] at h
   obtain⟨m1,h1,_,rfl⟩:=h
   exact fun t ht=>yg0 ha h1 _ (List.mem_map_of_mem ht)
  case mapSetR=>
   split at h<;>try cases h
   rename_i ha
   simp only [Option.map_eq_some_iff,Prod.mk.injEq] at h
   obtain⟨m1,h1,_,rfl⟩:=h
   exact fun t ht=>ybq ha h1 _ (List.mem_map_of_mem ht)
  case callR _ _ _ rs=>
   split at h<;>try cases h
   split at h<;>try cases h
   have hk:z7i m m' (rs.map (get e))=true:=by assumption
   exact fun t ht=>z5m _ hk _ (List.mem_map_of_mem ht)
 unfold zdr at h
 split at h
 ·exact key _ h
 ·split at h
  ·split at h
   ·exact key _ h
   ·simp only [Option.some.injEq,Prod.mk.injEq] at h;exact fun _ _ _ _=>by rw [h.2]
  ·simp only [Option.some.injEq,Prod.mk.injEq] at h;exact fun _ _ _ _=>by rw [h.2]
  ·cases h
theorem yhm {e:Env} {op:COp} {i:Id} (h:i∈zwt e op):(∃t∈reads op,i∈ids (get e t))\/i∈zwt [] op:=by
 have one:∀x:Opd,i∈ids (x.ev e)->(∃t∈tO x,i∈ids (get e t))\/i∈ids (x.ev []):=by
  intro x hx
  cases x with
  | t n=>exact .inl ⟨n,by simp [tO],hx⟩
  | k v=>exact .inr hx
 have many:∀xs:List Opd,i∈idsL (evs e xs)->(∃t∈tOs xs,i∈ids (get e t))\/i∈idsL (evs [] xs):=by
  intro xs
  induction xs with
  | nil=>intro hx;simp [evs,idsL] at hx
  | cons x r ih=>
   intro hx
   simp only [evs,idsL,List.mem_append] at hx ⊢
   rcases hx with hx|hx
   ·rcases one x hx with⟨t,ht,h⟩|h
    ·exact .inl ⟨t,by simp [tOs,ht],h⟩
    ·exact .inr (.inl h)
   ·rcases ih hx with⟨t,ht,h⟩|h
    ·exact .inl ⟨t,by simp [tOs,ht],h⟩
    ·exact .inr (.inr h)
 cases op<;>simp only [zwt,List.not_mem_nil] at h ⊢ <;>simp only [reads,List.mem_append]
 case mkList a b xs=>exact many xs h
 case load n a=>exact one a h
 case nilCheck x=>exact one x h
 case slice n x lo hi mx=>exact(one x h).imp (fun⟨t,ht,h⟩=>⟨t,.inl ht,h⟩) id
 case fieldAddr n x=>exact one x h
 case idxAddr n x j=>exact(one x h).imp (fun⟨t,ht,h⟩=>⟨t,.inl ht,h⟩) id
 case idxAddrA l n x j=>exact(one x h).imp (fun⟨t,ht,h⟩=>⟨t,.inl ht,h⟩) id
 case lookup kk z c x k=>exact(one x h).imp (fun⟨t,ht,h⟩=>⟨t,.inl ht,h⟩) id
 case len k x=>exact one x h
 case nilEq kd neg x=>exact one x h
 case call a b f args=>
  simp only [List.mem_append] at h
  rcases h with h|h
  ·rcases one f h with⟨t,ht,h⟩|h
   ·exact .inl ⟨t,.inl ht,h⟩
   ·exact .inr (.inl h)
  ·rcases many args h with⟨t,ht,h⟩|h
   ·exact .inl ⟨t,.inr ht,h⟩
   ·exact .inr (.inr h)
mutual
theorem z6m (s:S):∀(v:V) (x:Value),VR s v x->∀i∈ids v,∃o,look s.m i=some o
 | .d _,_,_,i,hi=>by simp [ids] at hi
 | .agg cs,x,h,i,hi=>by
  simp only [VR] at h
  obtain⟨xs,_,h⟩:=h
  exact z8y s cs _ h i hi
 | .tup cs,x,h,i,hi=>by
  simp only [VR] at h
  obtain⟨xs,_,h⟩:=h
  exact zu3 s cs _ h i hi
 | .ref o _ _ _,x,h,i,hi=>by
  simp only [VR] at h
  simp only [ids,List.mem_singleton] at hi
  subst hi
  cases hl:look s.m i with
  | none=>rw [hl] at h;exact h.2.elim
  | some o=>exact⟨o,rfl⟩
 | .ptr o _ _,x,h,i,hi=>by
  simp only [VR] at h
  simp only [ids,List.mem_singleton] at hi
  subst hi
  cases hl:look s.m i with
  | none=>rw [hl] at h;exact h.2.elim
  | some o=>exact⟨o,rfl⟩
 | .lptr ..,_,_,i,hi=>by simp [ids] at hi
 | .cl ..,_,_,i,hi=>by simp [ids] at hi
 | .fn f a b,x,h,i,hi=>by
  simp only [VR] at h
  obtain⟨xs,ys,_,h1,h2⟩:=h
  simp only [ids,List.mem_append] at hi
  rcases hi with hi|hi
  ·exact zu3 s a _ h1 i hi
  ·exact zu3 s b _ h2 i hi
 | .yld o,x,h,i,hi=>by
  simp only [VR] at h
  simp only [ids,List.mem_singleton] at hi
  subst hi
  cases hl:look s.m i with
  | none=>rw [hl] at h;exact h.2.elim
  | some o=>exact⟨o,rfl⟩
 | .mp o,x,h,i,hi=>by
  simp only [VR] at h
  simp only [ids,List.mem_singleton] at hi
  subst hi
  cases hl:look s.m i with
  | none=>rw [hl] at h;exact h.2.elim
  | some o=>exact⟨o,rfl⟩
 | .it o,x,h,i,hi=>by
  simp only [VR] at h
  simp only [ids,List.mem_singleton] at hi
  subst hi
  cases hl:look s.m i with
  | none=>rw [hl] at h;exact h.2.elim
  | some o=>exact⟨o,rfl⟩
 | .skip,_,_,i,hi=>by simp [ids] at hi
 | .undef,_,_,i,hi=>by simp [ids] at hi
theorem z8y (s:S):∀(cs:List V) (xs:List Value),VRs s cs xs->∀i∈idsL cs,∃o,look s.m i=some o
 | [],_,_,i,hi=>by simp [idsL] at hi
 | v::r,xs,h,i,hi=>by
  simp only [VRs] at h
  obtain⟨x,ys,_,_,h1,h2⟩:=h
  simp only [idsL,List.mem_append] at hi
  rcases hi with hi|hi
  ·exact z6m s v x h1 i hi
  ·exact z8y s r ys h2 i hi
theorem zu3 (s:S):∀(cs:List V) (xs:List Value),VRt s cs xs->∀i∈idsL cs,∃o,look s.m i=some o
 | [],_,_,i,hi=>by simp [idsL] at hi
 | v::r,xs,h,i,hi=>by
  simp only [VRt] at h
  obtain⟨x,ys,_,h1,h2⟩:=h
  simp only [idsL,List.mem_append] at hi
  rcases hi with hi|hi
  ·exact z6m s v x h1 i hi
  ·exact zu3 s r ys h2 i hi
end
end
end Go.Evl
namespace Go.Evl
open Go.RowKit
def yrs (acc:List Nat) (o:Oper):Nat:=o.after.toList.foldl (fun m e=>if Region.binds .any e then m|||((1<<<e.on)|||acc.getD e.on 0) else m) 0
def yht:List Oper->List Nat->List Nat
 | [],acc=>acc
 | o::r,acc=>yht r (acc++[yrs acc o])
def zus:COp->Option Nat
 | .fieldAddr _ (.t b)=>some b
 | .idxAddrA _ _ (.t b) _=>some b
 | .mv (.t b)=>some b
 | .nilCheck (.t b)=>some b
 | _=>none
def z83 (cos:List CO) (a:Nat):Nat:=
 match (cos.takeWhile fun x=> !(zj0 x).elem a).find? (fun x=>x.dst==some a&&x.guard.isNone) with
 | some x=>(zus x.op).getD a
 | none=>a
def z06 (cos:List CO) (a:Nat):Nat:=z83 cos (z83 cos (z83 cos a))
theorem zqq {α:Type} {p:α->Bool} {x c:α}:∀(l:List α) (i:Nat),x∈l.takeWhile p->l[i]? =some c->p c=false->∃j,j<i/\l[j]? =some x
 | [],_,h,_,_=>by simp at h
 | y::r,i,h,hc,hp=>by
  rw [List.takeWhile_cons] at h
  split at h
  ·rename_i hy
   cases i with
   | zero=>
    simp only [List.getElem?_cons_zero,Option.some.injEq] at hc
    subst hc
    rw [hy] at hp;cases hp
   | succ i=>
    rcases List.mem_cons.1 h with rfl|h
    ·exact⟨0,by omega,rfl⟩
    ·obtain⟨j,h1,h2⟩:=zqq r i h (by simpa using hc) hp
     exact⟨j+1,by omega,by simpa using h2⟩
  ·simp at h
theorem ybt (cos:List CO) (a:Nat) {i:Nat} {c:CO} (hc:cos[i]? =some c) (ha:a∈zj0 c):z83 cos a=a\/∃(j:Nat) (x:CO),j<i/\cos[j]? =some x/\x.dst=some a/\x.guard=none/\zus x.op=some (z83 cos a):=by
 unfold z83
 split
 ·rename_i x hx
  have h1:=List.mem_of_find?_eq_some hx
  have h2:=List.find?_some hx
  simp only [Bool.and_eq_true,beq_iff_eq,Option.isNone_iff_eq_none] at h2
  obtain⟨j,h3,h4⟩:=zqq cos i h1 hc (by simpa using ha)
  cases hf:zus x.op with
  | none=>exact .inl rfl
  | some b=>exact .inr ⟨j,x,h3,h4,h2.1,h2.2,by simp [hf]⟩
 ·exact .inl rfl
theorem z63 [Clk] {op:COp} {b:Nat} (h:zus op=some b):b∈reads op:=by
 unfold zus at h
 split at h<;>cases h<;>simp [reads,tO]
def yja:COp->Option Nat
 | .load _ (.t a)=>some a
 | .fieldAddr _ (.t a)=>some a
 | .idxAddrA _ _ (.t a) _=>some a
 | .nilCheck (.t a)=>some a
 | _=>none
theorem zxg {op:COp} {a:Nat} (h:yja op=some a) (e:Env):a∈reads op/\zwt e op=ids (get e a):=by
 unfold yja at h
 split at h<;>cases h
 all_goals exact⟨by simp [reads,tO],rfl⟩
def zut (cos:List CO) (r w:COp):Bool:=
 match yja r with
 | some a=>(z58 w).elem (z06 cos a)&&cos.all fun x=>x.dst !=some (z06 cos a)
 | _=>false
def ydg:COp->Bool
 | .alloc _ cs=>ym1 cs
 | .box .. =>true
 | .mkMap=>true
 | .ownNil _=>true
 | .callN .. =>true
 | _=>false
def zic (c:CO):Bool:=ydg c.op&&c.dst.isSome
theorem z17 (lv slot:Nat):∀m:Mem,freeK lv slot m=0\/∃n:Id,n.lv=lv/\n.slot=slot/\(∃o,look m n=some o)/\n.k+1=freeK lv slot m
 | []=> .inl rfl
 | (j,x)::r=>by
  have there:∀n:Id,(∃o,look r n=some o)->∃o,look ((j,x)::r) n=some o:=by
   rintro n ⟨o,ho⟩
   simp only [look]
   by_cases e:j=n
   ·exact⟨x,by rw [if_pos e]⟩
   ·exact⟨o,by rw [if_neg e];exact ho⟩
  simp only [freeK]
  split
  ·rename_i hj
   rcases z17 lv slot r with h|⟨n,h1,h2,h3,h4⟩
   ·exact .inr ⟨j,hj.1,hj.2,⟨x,by simp [look]⟩,by rw [h];omega⟩
   ·by_cases hc:j.k+1<=freeK lv slot r
    ·exact .inr ⟨n,h1,h2,there n h3,by omega⟩
    ·exact .inr ⟨j,hj.1,hj.2,⟨x,by simp [look]⟩,by omega⟩
  ·rcases z17 lv slot r with h|⟨n,h1,h2,h3,h4⟩
   ·exact .inl h
   ·exact .inr ⟨n,h1,h2,there n h3,h4⟩
theorem ycl {lv slot:Nat} {m m2:Mem} (h:∀n:Id,n.lv=lv->n.slot=slot->look m n=look m2 n):freeK lv slot m=freeK lv slot m2:=by
 have le:∀a b:Mem,(∀n:Id,n.lv=lv->n.slot=slot->look a n=look b n)->freeK lv slot a<=freeK lv slot b:=by
  intro a b h
  rcases z17 lv slot a with e|⟨n,h1,h2,⟨o,h3⟩,h4⟩
  ·omega
  ·have:=z0e lv slot b n o ((h n h1 h2).symm.trans h3) h1 h2
   omega
 exact Nat.le_antisymm (le _ _ h) (le _ _ fun n h1 h2=>(h n h1 h2).symm)
theorem z2o (cx:Cx) (slot:Nat):∀(l:List Id) (k:Nat) (a b:Id),(a,b)∈number cx slot k l->b.lv=cx.lv/\b.slot=slot
 | [],_,_,_,h=>by simp [number] at h
 | i::r,k,a,b,h=>by
  simp only [number,List.mem_cons,Prod.mk.injEq] at h
  rcases h with⟨_,rfl⟩|h
  ·exact⟨rfl,rfl⟩
  ·exact z2o cx slot r (k+1) a b h
theorem z5s {cx:Cx} {slot:Nat} {m m2:Mem} (h:∀n:Id,n.lv=cx.lv->n.slot=slot->look m2 n=look m n):freeK cx.lv slot m2=freeK cx.lv slot m:=ycl h
theorem yf7 {F:Oracle} {cx:Cx} {slot:Nat} {e:Env} {m m':Mem} {op:COp} {v:V} (hp:ydg op=true) (h:zca F cx slot e m op=some (v,m')):
  (∀n:Id,look m' n≠look m n->n.slot=slot)/\∀m2,(∀n:Id,n.lv=cx.lv->n.slot=slot->look m2 n=look m n)->
   ∃m2',zca F cx slot e m2 op=some (v,m2')/\∀n,(look m2' n=look m2 n/\look m' n=look m n)\/(n.slot=slot/\look m2' n=look m' n):=by
 have key:(∃ob,m'=upd m (zcn cx slot m) ob/\∀m2,zcn cx slot m2=zcn cx slot m->zca F cx slot e m2 op=some (v,upd m2 (zcn cx slot m) ob))->
   (∀n:Id,look m' n≠look m n->n.slot=slot)/\∀m2,(∀n:Id,n.lv=cx.lv->n.slot=slot->look m2 n=look m n)->
   ∃m2',zca F cx slot e m2 op=some (v,m2')/\∀n,(look m2' n=look m2 n/\look m' n=look m n)\/(n.slot=slot/\look m2' n=look m' n):=by
  rintro⟨ob,rfl,h2⟩
  refine⟨fun n hn=> ?_,fun m2 hm=>⟨_,h2 m2 (by unfold zcn;rw [z5s hm]),fun n=> ?_⟩⟩
  ·by_cases en:n=zcn cx slot m
   ·rw [en];rfl
   ·exact absurd (zay _ _ _ _ (Ne.symm en)) hn
  ·by_cases en:n=zcn cx slot m
   ·subst en
    exact .inr ⟨rfl,by rw [za6,za6]⟩
   ·exact .inl ⟨zay _ _ _ _ (Ne.symm en),zay _ _ _ _ (Ne.symm en)⟩
 cases op<;>simp only [ydg,Bool.false_eq_true] at hp<;>simp only [zca] at h
 case alloc t cs=>
  refine key ?_
  obtain⟨h1,h2⟩:=ybp cx slot cs m hp
  simp only [Option.some.injEq,Prod.mk.injEq] at h
  obtain⟨rfl,rfl⟩:=h
  refine⟨_,by rw [h1],fun m2 hm=> ?_⟩
  simp only [zca,h2 m2,h1,hm]
 case box t x=>
  refine key ?_
  split at h<;>try cases h
  rename_i cs hc
  refine⟨_,rfl,fun m2 hm=> ?_⟩
  simp only [zca,hc,hm]
 case mkMap=>
  refine key ?_
  simp only [Option.some.injEq,Prod.mk.injEq] at h
  obtain⟨rfl,rfl⟩:=h
  exact⟨_,rfl,fun m2 hm=>by simp only [zca,hm]⟩
 case ownNil r=>
  refine key ?_
  simp only [Option.some.injEq,Prod.mk.injEq] at h
  obtain⟨rfl,rfl⟩:=h
  exact⟨_,rfl,fun m2 hm=>by simp only [zca,hm]⟩
 case callN f args=>
  split at h<;>try cases h
  rename_i g hf
  split at h
  case isFalse=>cases h
  rename_i hd
  obtain⟨ds,hds⟩:=zr2 _ hd
  simp only [zks,Bool.false_eq_true,if_false,List.nil_append,List.append_nil,hds m] at h
  split at h<;>try cases h
  rename_i v1 m1 hF
  simp only [znm,Bool.false_eq_true,if_false] at h
  unfold settle at h
  dsimp only at h
  split at h
  case isFalse=>cases h
  rename_i hw
  simp only [Option.some.injEq,Prod.mk.injEq] at h
  obtain⟨rfl,rfl⟩:=h
  have hl:∀(n:Id) (o:Ob),look (moved (number cx slot (freeK cx.lv slot m) (reach 0 m1 64 (ids v1) [])) m1 (number cx slot (freeK cx.lv slot m) (reach 0 m1 64 (ids v1) []))) n=some o->n.lv=cx.lv/\n.slot=slot:=by
   intro n o hn
   obtain⟨a,o',h1,_⟩:=zl3 _ _ _ _ _ hn
   exact z2o cx slot _ _ _ _ h1
  refine⟨fun n hn=> ?_,fun m2 hm=> ?_⟩
  ·rw [zio] at hn
   cases hq:look (moved (number cx slot (freeK cx.lv slot m) (reach 0 m1 64 (ids v1) [])) m1 (number cx slot (freeK cx.lv slot m) (reach 0 m1 64 (ids v1) []))) n with
   | none=>rw [hq,Option.or_none] at hn;exact absurd rfl hn
   | some o=>exact(hl n o hq).2
  ·refine⟨m2++moved (number cx slot (freeK cx.lv slot m) (reach 0 m1 64 (ids v1) [])) m1 (number cx slot (freeK cx.lv slot m) (reach 0 m1 64 (ids v1) [])),?_,fun n=> ?_⟩
   ·simp only [zca,hf,hd,if_true,zks,Bool.false_eq_true,if_false,List.nil_append,List.append_nil,hds m2,hF,znm]
    unfold settle
    dsimp only
    rw [z5s hm,if_pos hw]
   ·rw [zio,zio]
    cases hq:look (moved (number cx slot (freeK cx.lv slot m) (reach 0 m1 64 (ids v1) [])) m1 (number cx slot (freeK cx.lv slot m) (reach 0 m1 64 (ids v1) []))) n with
    | none=>rw [Option.or_none,Option.or_none];exact .inl ⟨rfl,rfl⟩
    | some o=>
     obtain⟨h1,h2⟩:=hl n o hq
     exact .inr ⟨h2,by rw [hm n h1 h2]⟩
theorem ylf {op:COp} (h:ydg op=true):cls op=3:=by
 cases op<;>simp only [ydg,Bool.false_eq_true] at h<;>rfl
def zkg (cos:List CO) (c d:COp):Bool:=
 (cls d==1&&cls c==1)||(cls d==1&&cls c==3)||(cls d==3&&cls c==1&&(zwt [] c).isEmpty)||
 (cls d==1&&cls c==4&&zut cos d c)||(cls d==4&&cls c==1&&zut cos c d)
def ytw:COp->Option Nat
 | .load _ (.t a)=>some a
 | .fieldAddr _ (.t a)=>some a
 | .idxAddrA _ _ (.t a) _=>some a
 | .nilCheck (.t a)=>some a
 | .slice _ (.t a) _ _ _=>some a
 | .len _ (.t a)=>some a
 | .idxAddr _ (.t a) _=>some a
 | _=>none
theorem yf8 {op:COp} {a:Nat} (h:ytw op=some a) (e:Env):a∈reads op/\zwt e op=ids (get e a)/\cls op=1:=by
 unfold ytw at h
 split at h<;>cases h
 all_goals exact⟨by simp [reads,tO],rfl,rfl⟩
def ymo (c:CO):Option Nat:=
 match c.op with
 | .append .. =>c.dst
 | .appendS .. =>c.dst
 | .store _ (.t a) _=>if c.dst.isNone then some a else none
 | .mapSet _ (.t a) _ _=>if c.dst.isNone then some a else none
 | _=>none
def ylg:COp->Bool
 | .callK .. =>true
 | .callQ .. =>true
 | _=>false
theorem yoz {F:Oracle} {cx:Cx} {e:Env} {m m':Mem} {c:CO} {v:V} (hq:ylg c.op=true) (h:zdr F cx e m c=some (v,m')):m'=m:=by
 have key:∀slot,zca F cx slot e m c.op=some (v,m')->m'=m:=by
  intro slot h
  generalize c.op=op at hq h
  cases op<;>simp only [ylg,Bool.false_eq_true] at hq
  case callQ=>
   simp only [zca,Option.map_eq_some_iff,Prod.mk.injEq] at h
   obtain⟨_,_,_,h⟩:=h
   exact h.symm
  simp only [zca] at h
  split at h<;>try cases h
  split at h
  case isFalse=>cases h
  simp only [Option.some.injEq,Prod.mk.injEq] at h
  exact h.2.symm
 unfold zdr at h
 split at h
 ·exact key _ h
 ·split at h
  ·split at h
   ·exact key _ h
   ·simp only [Option.some.injEq,Prod.mk.injEq] at h;exact h.2.symm
  ·simp only [Option.some.injEq,Prod.mk.injEq] at h;exact h.2.symm
  ·cases h
def znn (chk:List (Nat×Nat)) (cos:List CO) (i j:Nat) (c d:CO):Bool:=
 (cls c.op==1&&ylg d.op)||
 match ytw c.op,ymo d with
 | some x,some t=>chk.elem (x,t)&&((cos.drop i).all fun y=>y.dst !=some x)&&((cos.drop (j+1)).all fun y=>y.dst !=some t)&&(d.dst==none||d.dst==some t)
 | _,_=>false
theorem zey {chk:List (Nat×Nat)} {cos:List CO} {i j:Nat} {c d:CO} (h:2<=cls c.op):znn chk cos i j c d=false:=by
 unfold znn
 have h1:(cls c.op==1)=false:=by simp;omega
 rw [h1,Bool.false_and,Bool.false_or]
 split
 ·rename_i x t hx _
  have:=(yf8 hx []).2.2
  omega
 ·rfl
def yab (chk:List (Nat×Nat)) (ops:Array Oper) (cos:List CO):Bool:=
 let ms:=yht ops.toList []
 (List.range cos.length).all fun i=>
  match cos[i]?,ops[i]? with
  | some c,some o=>
   o.after.toList.all (fun e=> !Region.binds .any e||decide (e.on<i))&&
   (List.range cos.length).all fun j=>
    match cos[j]? with
    | some d=>
     (decide (i=j)||d.dst.isNone||d.dst !=c.dst)&&
     (match d.dst with
      | some t=> !(zj0 c).elem t||(decide (j<i)&&(ms.getD i 0).testBit j)||(decide (i=j)||(decide (i<j)&&(ms.getD j 0).testBit i))
      | none=>true)&&
     (!decide (j<i)||cls c.op==0||cls d.op==0||zkg cos c.op d.op||(zic c&&zic d)||znn chk cos i j c d||znn chk cos j i d c||(ms.getD i 0).testBit j)
    | none=>false
  | _,_=>false
def ypx (ops:Array Oper) (p:Nat->Prop):Prop:=∀i o e,ops[i]? =some o->p i->e∈o.after->Region.binds .any e=true->p e.on
def z0y (ops:Array Oper) (i a:Nat):Prop:=∀p,ypx ops p->p i->p a
theorem z95 (acc:List Nat) (a:Nat):∀(l:List Edge) (m:Nat),(l.foldl (fun m e=>if Region.binds .any e then m|||((1<<<e.on)|||acc.getD e.on 0) else m) m).testBit a=true->
  m.testBit a=true\/∃e∈l,Region.binds .any e=true/\(a=e.on\/(acc.getD e.on 0).testBit a=true)
 | [],m,h=> .inl h
 | e::r,m,h=>by
  simp only [List.foldl_cons] at h
  rcases z95 acc a r _ h with h|⟨e',h1,h2⟩
  ·split at h
   ·rename_i hb
    simp only [Nat.testBit_or,Bool.or_eq_true] at h
    rcases h with h|h|h
    ·exact .inl h
    ·refine .inr ⟨e,by simp,hb,.inl ?_⟩
     simp only [Nat.testBit_shiftLeft,Bool.and_eq_true,decide_eq_true_eq,Nat.testBit_one_eq_true_iff_self_eq_zero] at h
     omega
    ·exact .inr ⟨e,by simp,hb,.inr h⟩
   ·exact .inl h
  ·exact .inr ⟨e',by simp [h1],h2⟩
theorem yfs {ops:Array Oper}:∀(os:List Oper) (acc:List Nat),(∀i a,(acc.getD i 0).testBit a=true->z0y ops i a)->(∀k,k<os.length->os[k]? =ops[acc.length+k]?)->∀i a,((yht os acc).getD i 0).testBit a=true->z0y ops i a
 | [],acc,h,_=>h
 | o::r,acc,h,ho=>by
  refine yfs r (acc++[yrs acc o]) (fun i a hb=> ?_) (fun k hk=> ?_)
  ·have ho0:ops[acc.length]? =some o:=by simpa using (ho 0 (by simp)).symm
   rcases Nat.lt_trichotomy i acc.length with hi|hi|hi
   ·rw [List.getD_eq_getElem?_getD,List.getElem?_append_left hi,<-List.getD_eq_getElem?_getD] at hb
    exact h i a hb
   ·subst hi
    rw [List.getD_eq_getElem?_getD,List.getElem?_append_right (Nat.le_refl _)] at hb
    simp only [Nat.sub_self,List.getElem?_cons_zero,Option.getD_some,yrs] at hb
    rcases z95 acc a _ 0 hb with hb|⟨e,he,hbd,hb⟩
    ·simp at hb
    ·intro p hp hi
     have h1:=hp _ o e ho0 hi (by simpa using he) hbd
     rcases hb with rfl|hb
     ·exact h1
     ·exact h e.on a hb p hp h1
   ·rw [List.getD_eq_getElem?_getD,List.getElem?_eq_none (by simp;omega)] at hb
    simp at hb
  ·have:=ho (k+1) (by simp;omega)
   simp only [List.getElem?_cons_succ] at this
   rw [this,List.length_append,List.length_singleton]
   congr 1;omega
structure z0z (F:Oracle) (cx:Cx) (cos:List CO) (E:Nat->Env) (M:Nat->Mem) (W:Nat->V):Prop where
 val:∀i c,cos[i]? =some c->zdr F cx (E i) (M i) c=some (W i,M (i+1))
 env:∀i c,cos[i]? =some c->E (i+1)=put? (E i) c.dst (W i)
theorem z8q {F:Oracle} {cx:Cx}:∀(cos:List CO) (e e':Env) (m m':Mem),zh7 F cx cos e m=some (e',m')->∃E M W,z0z F cx cos E M W/\E 0=e/\M 0=m/\E cos.length=e'/\M cos.length=m'
 | [],e,e',m,m',h=>by
  simp only [zh7,Option.some.injEq,Prod.mk.injEq] at h
  obtain⟨rfl,rfl⟩:=h
  exact⟨fun _=>e,fun _=>m,fun _=> .undef,⟨fun i c h=>by simp at h,fun i c h=>by simp at h⟩,rfl,rfl,rfl,rfl⟩
 | c::r,e,e',m,m',h=>by
  rw [zyc] at h
  split at h<;>try cases h
  rename_i v m1 h1
  obtain⟨E,M,W,hT,hE,hM,hE',hM'⟩:=z8q r _ e' m1 m' h
  refine⟨fun i=>match i with|0=>e|i+1=>E i,fun i=>match i with|0=>m|i+1=>M i,fun i=>match i with|0=>v|i+1=>W i,⟨fun i d hd=> ?_,fun i d hd=> ?_⟩,rfl,rfl,hE',hM'⟩
  ·cases i with
   | zero=>simp at hd;subst hd;simpa [hM] using h1
   | succ i=>exact hT.val i d (by simpa using hd)
  ·cases i with
   | zero=>simp at hd;subst hd;simpa using hE
   | succ i=>exact hT.env i d (by simpa using hd)
section
variable {F : Oracle} {cx : Cx} {cos : List CO} {E : Nat -> Env} {M : Nat -> Mem} {W : Nat -> V}
theorem z0z.same (hT:z0z F cx cos E M W) (t:Nat) (a:Nat):∀b,a<=b->b<=cos.length->(∀k c,a<=k->k<b->cos[k]? =some c->c.dst≠some t)->get (E b) t=get (E a) t:=by
 intro b
 induction b with
 | zero=>
   intro h _ _;obtain rfl:a=0:=by omega
   rfl
 | succ b ih=>
  intro hab hb hk
  rcases Nat.lt_or_ge b a with h|h
  ·obtain rfl:a=b+1:=by omega
   rfl
  ·obtain⟨c,hc⟩:∃c,cos[b]? =some c:=⟨_,List.getElem?_eq_getElem (by omega)⟩
   rw [hT.env b c hc]
   have hne:=hk b c h (by omega) hc
   have:get (put? (E b) c.dst (W b)) t=get (E b) t:=by
    cases hd:c.dst with
    | none=>rfl
    | some d=>exact zlw _ _ _ _ (fun e=>hne (by rw [hd,e]))
   rw [this]
   exact ih h (by omega) fun k c h1 h2=>hk k c h1 (by omega)
theorem z0z.mem (hT:z0z F cx cos E M W) (a:Nat):∀b,a<=b->b<=cos.length->(∀k c,a<=k->k<b->cos[k]? =some c->cls c.op<=1)->M b=M a:=by
 intro b
 induction b with
 | zero=>
   intro h _ _;obtain rfl:a=0:=by omega
   rfl
 | succ b ih=>
  intro hab hb hk
  rcases Nat.lt_or_ge b a with h|h
  ·obtain rfl:a=b+1:=by omega
   rfl
  ·obtain⟨c,hc⟩:∃c,cos[b]? =some c:=⟨_,List.getElem?_eq_getElem (by omega)⟩
   rw [yq8 (hk b c h (by omega) hc) (hT.val b c hc)]
   exact ih h (by omega) fun k c h1 h2=>hk k c h1 (by omega)
theorem z0z.keep (hT:z0z F cx cos E M W) {n:Id} {o:Ob} (a:Nat):∀b,a<=b->b<=cos.length->(∀k c,a<=k->k<b->cos[k]? =some c->cls c.op<=1\/cls c.op=3\/(cls c.op=4/\∃t∈z58 c.op,n∈ids (get (E k) t)))->look (M a) n=some o->look (M b) n=some o:=by
 intro b
 induction b with
 | zero=>
   intro h _ _;obtain rfl:a=0:=by omega
   exact id
 | succ b ih=>
  intro hab hb hk h0
  rcases Nat.lt_or_ge b a with h|h
  ·obtain rfl:a=b+1:=by omega
   exact h0
  ·obtain⟨c,hc⟩:∃c,cos[b]? =some c:=⟨_,List.getElem?_eq_getElem (by omega)⟩
   have h1:=ih h (by omega) (fun k c h1 h2=>hk k c h1 (by omega)) h0
   rcases hk b c h (by omega) hc with hl|hl|⟨hl,t,ht,hn⟩
   ·rw [yq8 hl (hT.val b c hc)];exact h1
   ·exact yey hl (hT.val b c hc) n o h1
   ·rw [z9a hl (hT.val b c hc) t ht n hn];exact h1
omit F cx cos E M W in
theorem yfv {off:Nat} {m:Mem} {w r:V} (hv:zf2 off m w=some r):∀n∈ids r,n∈ids w:=by
 unfold zf2 at hv
 split at hv
 ·cases w<;>simp at hv<;>subst hv<;>simp [ids]
 ·cases hv
omit F cx cos E M W in
theorem yj2 {F:Oracle} {cx:Cx} {e:Env} {m m':Mem} {x:CO} {b:Nat} {v:V} (hg:x.guard=none) (hf:zus x.op=some b) (h:zdr F cx e m x=some (v,m')):∀n∈ids v,n∈ids (get e b):=by
 obtain⟨dst,guard,op⟩:=x
 subst hg
 simp only at hf
 unfold zus at hf
 split at hf<;>cases hf<;>simp only [zdr,zca] at h
 all_goals
  show ∀n∈ids v,n∈ids ((Opd.t b).ev e)
  generalize (Opd.t b).ev e=w at h ⊢
 ·simp only [Option.map_eq_some_iff,Prod.mk.injEq] at h
  obtain⟨r,hv,rfl,_⟩:=h
  exact yfv hv
 ·split at h<;>try cases h
  split at h<;>try cases h
  simp only [Option.map_eq_some_iff,Prod.mk.injEq] at h
  obtain⟨r,hv,rfl,_⟩:=h
  exact yfv hv
 ·simp only [Option.some.injEq,Prod.mk.injEq] at h
  obtain⟨rfl,_⟩:=h
  exact fun n hn=>hn
 ·split at h
  ·simp only [Option.some.injEq,Prod.mk.injEq] at h
   obtain⟨rfl,_⟩:=h
   exact fun n hn=>hn
  ·split at h<;>try cases h
   rename_i hf
   intro n hn
   rw [yfe hf];exact hn
theorem z0z.wrote (hT:z0z F cx cos E M W) {t j:Nat} {d:CO} (hd:cos[j]? =some d) (hdt:d.dst=some t) (huniq:∀k c,cos[k]? =some c->c.dst=some t->k=j) {i:Nat} (hi:j<i) (hn:i<=cos.length):get (E i) t=W j:=by
 rw [hT.same t (j+1) i (by omega) hn fun k c h1 h2 hc he=>by have:=huniq k c hc he;omega]
 rw [hT.env j d hd,hdt]
 exact zi0 _ _ _
end
end Go.Evl
namespace Go.Evl
open Go.RowKit
section
variable {P : Program} {oc : zdj} {gl : Globs}
theorem z7r {nt:Nat} {ops:Array Oper}:∀(cos:List CO) (os:List Oper),zow P gl nt ops cos os=true->cos.length=os.length/\∀(i:Nat) (c:CO) (o:Oper),cos[i]? =some c->os[i]? =some o->ysy P gl nt ops c o=true
 | [],[],_=>⟨rfl,fun i c o h=>by simp at h⟩
 | [],_::_,h=>by simp [zow] at h
 | _::_,[],h=>by simp [zow] at h
 | c::r,o::q,h=>by
  simp only [zow,Bool.and_eq_true] at h
  obtain⟨h1,h2⟩:=z7r r q h.2
  refine⟨by simp [h1],fun i c' o' hc ho=> ?_⟩
  cases i with
  | zero=>simp at hc ho;subst hc;subst ho;exact h.1
  | succ i=>exact h2 i c' o' (by simpa using hc) (by simpa using ho)
structure ypy (chk:List (Nat×Nat)) (ops:Array Oper) (cos:List CO):Prop where
 len:cos.length=ops.size
 edge:∀(i:Nat) (o:Oper) (e:Edge),ops[i]? =some o->e∈o.after->Region.binds .any e=true->e.on<i
 uniq:∀(i j:Nat) (c d:CO) (t:Nat),cos[i]? =some c->cos[j]? =some d->c.dst=some t->d.dst=some t->i=j
 read:∀(i j:Nat) (c d:CO) (t:Nat),cos[i]? =some c->cos[j]? =some d->t∈zj0 c->d.dst=some t->(j<i/\z0y ops i j)\/i=j\/(i<j/\z0y ops j i)
 loud:∀(i j:Nat) (c d:CO),cos[i]? =some c->cos[j]? =some d->j<i->cls c.op≠0->cls d.op≠0->zkg cos c.op d.op=false->(zic c&&zic d)=false->znn chk cos i j c d=false->znn chk cos j i d c=false->z0y ops i j
theorem yjy {chk:List (Nat×Nat)} {nt:Nat} {ops:Array Oper} {cos:List CO} (h1:zow P gl nt ops cos ops.toList=true) (h2:yab chk ops cos=true):ypy chk ops cos:=by
 have hlen:cos.length=ops.size:=by simpa using (z7r cos ops.toList h1).1
 have hm:∀i a,((yht ops.toList []).getD i 0).testBit a=true->z0y ops i a:=yfs ops.toList [] (fun i a h=>by simp at h) (fun k _=>by simp)
 simp only [yab,List.all_eq_true,List.mem_range] at h2
 have key:∀(i:Nat) (c:CO),cos[i]? =some c->∃o,ops[i]? =some o/\(∀e∈o.after,Region.binds .any e=true->e.on<i)/\∀(j:Nat) (d:CO),cos[j]? =some d->
   (i=j\/d.dst=none\/d.dst≠c.dst)/\(∀t,d.dst=some t->t∈zj0 c->(j<i/\z0y ops i j)\/i=j\/(i<j/\z0y ops j i))/\(j<i->cls c.op≠0->cls d.op≠0->zkg cos c.op d.op=false->(zic c&&zic d)=false->znn chk cos i j c d=false->znn chk cos j i d c=false->z0y ops i j):=by
  intro i c hc
  have hi:i<cos.length:=(List.getElem?_eq_some_iff.1 hc).1
  have h:=h2 i hi
  rw [hc] at h
  obtain⟨o,ho⟩:∃o,ops[i]? =some o:=⟨_,Array.getElem?_eq_getElem (by omega)⟩
  rw [ho] at h
  simp only [Bool.and_eq_true,List.all_eq_true,List.mem_range] at h
  refine⟨o,ho,fun e he hb=> ?_,fun j d hd=> ?_⟩
  ·have:=h.1 e (by simpa using he)
   simpa [hb] using this
  ·have h3:=h.2 j (List.getElem?_eq_some_iff.1 hd).1
   rw [hd] at h3
   simp only [Bool.and_eq_true] at h3
   obtain⟨⟨q1,q2⟩,q3⟩:=h3
   refine⟨?_,fun t ht hr=> ?_,fun hji c1 c2 c3 c4 c5 c6=> ?_⟩
   ·simp only [Bool.or_eq_true,decide_eq_true_eq,Option.isNone_iff_eq_none,bne_iff_ne] at q1
    rcases q1 with(q1|q1)|q1
    ·exact .inl q1
    ·exact .inr (.inl q1)
    ·exact .inr (.inr q1)
   ·rw [ht] at q2
    simp only [Bool.or_eq_true,Bool.not_eq_true',List.elem_eq_mem,decide_eq_false_iff_not,Bool.and_eq_true,decide_eq_true_eq] at q2
    rcases q2 with(q2|q2)|q2|q2
    ·exact absurd hr q2
    ·exact .inl ⟨q2.1,hm i j q2.2⟩
    ·exact .inr (.inl q2)
    ·exact .inr (.inr ⟨q2.1,hm j i q2.2⟩)
   ·simp only [Bool.or_eq_true,Bool.not_eq_true',decide_eq_false_iff_not,beq_iff_eq] at q3
    rcases q3 with((((((q3|q3)|q3)|q3)|q3)|q3)|q3)|q3
    ·exact absurd hji q3
    ·exact absurd q3 c1
    ·exact absurd q3 c2
    ·rw [c3] at q3;cases q3
    ·simp [q3] at c4
    ·rw [c5] at q3;cases q3
    ·rw [c6] at q3;cases q3
    ·exact hm i j q3
 refine⟨hlen,fun i o e ho he hb=> ?_,fun i j c d t hc hd h3 h4=> ?_,fun i j c d t hc hd h3 h4=> ?_,fun i j c d hc hd hji c1 c2 c3 c4 c5 c6=> ?_⟩
 ·have hi:i<ops.size:=(Array.getElem?_eq_some_iff.1 ho).1
  obtain⟨c,hc⟩:∃c,cos[i]? =some c:=⟨_,List.getElem?_eq_getElem (by omega)⟩
  obtain⟨o',ho',hedge,_⟩:=key i c hc
  rw [ho] at ho'
  obtain rfl:=Option.some.inj ho'
  exact hedge e he hb
 ·obtain⟨_,_,_,hk⟩:=key i c hc
  rcases (hk j d hd).1 with h|h|h
  ·exact h
  ·rw [h] at h4;cases h4
  ·exact absurd (h4.trans h3.symm) h
 ·obtain⟨_,_,_,hk⟩:=key i c hc
  exact(hk j d hd).2.1 t h4 h3
 ·obtain⟨_,_,_,hk⟩:=key i c hc
  exact(hk j d hd).2.2 hji c1 c2 c3 c4 c5 c6
theorem Sim.again [Clk] {oc:zdj} {gl:Globs} {s:S} (hs:Sim oc gl s) {m':Mem} (h:∀n,look m' n=look s.m n):Sim oc gl ⟨s.φ,m',s.w,s.Im⟩/\Ext (fun _=>True) s ⟨s.φ,m',s.w,s.Im⟩:=by
 have hE:Ext (fun _=>True) s ⟨s.φ,m',s.w,s.Im⟩:=
  ⟨rfl,Tk.of,rfl,Nat.le_refl _,fun b _ hf=>⟨rfl,fun i o ho=>hf i o ((h i).symm.trans ho)⟩,fun b j hi=> .inl hi,fun _ _ hi=>hi,fun _ _ _=>rfl,fun k o _ hk=>⟨o,(h k).trans hk,za4.refl _ _⟩⟩
 exact⟨⟨fun k o hk=>ObR.ext hE (fun b _=>⟨rfl,fun _ hj=>hj⟩) (hs.objs k o ((h k).symm.trans hk)),fun i j o o' b hij hi hj=>hs.apart i j o o' b hij ((h i).symm.trans hi) ((h j).symm.trans hj),hs.imlt,hs.glob,hs.tabs.ext hE⟩,hE⟩
theorem ysl {F:Oracle} {cx:Cx} {e:Env} {m m':Mem} {d:CO} {v:V} {n:Id} (h:zdr F cx e m d=some (v,m')) (h1:∀t,ymo d=some t->d.dst=some t->n∉ids v) (h2:∀t,ymo d=some t->d.dst≠some t->n∉ids (get e t)) (h0:(ymo d).isSome=true):look m' n=look m n:=by
 obtain⟨t,ht⟩:=Option.isSome_iff_exists.1 h0
 have key:∀slot,zca F cx slot e m d.op=some (v,m')->look m' n=look m n:=by
  intro slot hq
  have ht0:=ht
  unfold ymo at ht
  split at ht
  ·rename_i r s x hop
   rw [hop] at hq
   simp only [zca,ztz,zn9] at hq
   have hv:=h1 t ht0 ht
   split at hq<;>try cases hq
   split at hq
   ·split at hq<;>try cases hq
    split at hq<;>try cases hq
    exact zay _ _ _ _ (fun e=>hv (by simp [ids,e]))
   ·split at hq<;>try cases hq
    exact zay _ _ _ _ (fun e=>hv (by simp [ids,e]))
   ·split at hq<;>try cases hq
    exact zay _ _ _ _ (fun e=>hv (by simp [ids,e]))
   ·cases hq
  ·rename_i r s x hop
   rw [hop] at hq
   simp only [zca] at hq
   have hv:=h1 t ht0 ht
   unfold zu6 at hq
   split at hq<;>try cases hq
   simp only [zn9] at hq
   repeat' (split at hq)
   all_goals first
    | (cases hq;done)
    | skip
   all_goals (cases hq;exact zay _ _ _ _ (fun e=>hv (by simp [ids,e])))
  ·rename_i k a x hop
   rw [hop] at hq
   split at ht<;>try cases ht
   rename_i hnone
   have hv:n∉ids ((Opd.t t).ev e):=h2 t ht0 (by rw [Option.isNone_iff_eq_none.1 hnone];simp)
   simp only [zca,Option.map_eq_some_iff,Prod.mk.injEq] at hq
   obtain⟨m1,hq,_,rfl⟩:=hq
   revert hv hq
   generalize (Opd.t t).ev e=w
   intro hv hq
   unfold zxd at hq
   split at hq<;>try cases hq
   split at hq
   ·split at hq<;>try cases hq
    split at hq<;>try cases hq
    exact zay _ _ _ _ (fun e=>hv (by simp [ids,e]))
   ·split at hq<;>try cases hq
    split at hq<;>try cases hq
    exact zay _ _ _ _ (fun e=>hv (by simp [ids,e]))
   ·cases hq
  ·rename_i kk mp k x hop
   rw [hop] at hq
   split at ht<;>try cases ht
   rename_i hnone
   have hv:n∉ids ((Opd.t t).ev e):=h2 t ht0 (by rw [Option.isNone_iff_eq_none.1 hnone];simp)
   simp only [zca,Option.map_eq_some_iff,Prod.mk.injEq] at hq
   obtain⟨m1,hq,_,rfl⟩:=hq
   revert hv hq
   generalize (Opd.t t).ev e=w
   intro hv hq
   unfold zh2 at hq
   split at hq<;>try cases hq
   split at hq<;>try cases hq
   split at hq<;>try cases hq
   simp only [Option.map_eq_some_iff] at hq
   obtain⟨es,_,rfl⟩:=hq
   exact zay _ _ _ _ (fun e=>hv (by simp [ids,e]))
  ·cases ht
 unfold zdr at h
 split at h
 ·exact key _ h
 ·split at h
  ·split at h
   ·exact key _ h
   ·simp only [Option.some.injEq,Prod.mk.injEq] at h;rw [h.2]
  ·simp only [Option.some.injEq,Prod.mk.injEq] at h;rw [h.2]
  ·cases h
structure yvo [Clk] (oc:zdj) (gl:Globs) (ops:Array Oper) (cos:List CO) (M:Nat->Mem) (W:Nat->V) (e:Env) (s0:S) (A0:Act) (listed:Array Bool) (A:Act) (s:S):Prop where
 size:listed.size=cos.length
 closed:ypx ops (fun i=>listed.getD i false=true)
 sim:Sim oc gl s
 ext:Ext (fun _=>True) s0 s
 mem:∀n:Id,∃k,k<=cos.length/\look s.m n=look (M k) n/\(∀j,j<k->look (M (j+1)) n≠look (M j) n->listed.getD j false=true)/\(∀j,k<=j->j<cos.length->look (M (j+1)) n≠look (M j) n->listed.getD j false=false)
 env1:∀(i:Nat) (c:CO) (t:Nat),cos[i]? =some c->listed.getD i false=true->c.dst=some t->VR s (W i) (A.tmps.getD t undef)
 env2:∀t,(∀(i:Nat) (c:CO),cos[i]? =some c->listed.getD i false=true->c.dst≠some t)->VR s (get e t) (A.tmps.getD t undef)
 tmps:A.tmps.size=A0.tmps.size/\A.defers=A0.defers
theorem zp8 {listed:Array Bool} {i j:Nat} (h:i<listed.size):(listed.setIfInBounds i true).getD j false=(decide (i=j)||listed.getD j false):=by
 rw [Array.getD_eq_getD_getElem?,Array.getElem?_setIfInBounds,Array.getD_eq_getD_getElem?]
 by_cases e:i=j
 ·subst e;simp [h]
 ·simp [e]
theorem yjz [Clk] {F:Oracle} (hF:Good P oc gl F) (r:Option Nat) (cx:Cx) {nt:Nat} {ops:Array Oper} {cos:List CO} (hok:zow P gl nt ops cos ops.toList=true) {chk:List (Nat×Nat)} (hd:ypy chk ops cos)
  {E:Nat->Env} {M:Nat->Mem} {W:Nat->V} (hT:z0z F cx cos E M W) (hchk:yrc (E cos.length) chk=true) {s0:S} {A0:Act} (hnt:nt<=A0.tmps.size) {Q:Exit->Act->World->Prop}
  (hQ:∀s' A',Sim oc gl s'->Ext (fun _=>True) s0 s'->s'.m=M cos.length->zcc s' (E cos.length) A'.tmps->A'.tmps.size=A0.tmps.size->A'.defers=A0.defers->Q .normal A' s'.w):
  ∀(fuel:Nat) (listed:Array Bool) (A:Act) (s:S),listed.toList.countP (fun b=> !b)<=fuel->yvo oc gl ops cos M W (E 0) s0 A0 listed A s->wpAnyIn (fen r) 0 P .any ops Q fuel listed A s.w:=by
 -- what stands under a name where nothing turns it
 have still:∀ {n:Id} (a b:Nat),a<=b->(∀j,a<=j->j<b->look (M (j+1)) n=look (M j) n)->look (M b) n=look (M a) n:=by
  intro n a b hab
  induction hab with
  | refl=>exact fun _=>rfl
  | step hab ih=>exact fun h=>(h _ hab (Nat.lt_succ_self _)).trans (ih fun j h1 h2=>h j h1 (Nat.lt_succ_of_lt h2))
 -- what keeps an object, or does not touch it
 have stay:∀ {n:Id} {o:Ob} (a b:Nat),a<=b->b<=cos.length->(∀j d,a<=j->j<b->cos[j]? =some d->look (M (j+1)) n=look (M j) n\/cls d.op=3\/(cls d.op=4/\∃t∈z58 d.op,n∈ids (get (E j) t)))->look (M a) n=some o->look (M b) n=some o:=by
  intro n o a b hab
  induction hab with
  | refl=>exact fun _ _ h=>h
  | step hab ih=>
   rename_i b
   intro hb hk h0
   obtain⟨d,hdd⟩:∃d,cos[b]? =some d:=⟨_,List.getElem?_eq_getElem (by omega)⟩
   have h1:=ih (by omega) (fun j d h1 h2=>hk j d h1 (by omega)) h0
   rcases hk b d hab (Nat.lt_succ_self _) hdd with h|h|⟨h,t,ht,hn⟩
   ·rw [h];exact h1
   ·exact yey h (hT.val b d hdd) n o h1
   ·rw [z9a h (hT.val b d hdd) t ht n hn];exact h1
 have loudC:∀ {n:Id} {j:Nat} {d:CO},cos[j]? =some d->look (M (j+1)) n≠look (M j) n->2<=cls d.op:=by
  intro n j d hj hn
  rcases Nat.lt_or_ge (cls d.op) 2 with h|h
  ·exact absurd (by rw [yq8 (by omega) (hT.val j d hj)]) hn
  ·exact h
 -- a pure allocation turns no other name than one of its own
 have pureN:∀ {n:Id} {j:Nat} {d:CO},cos[j]? =some d->zic d=true->look (M (j+1)) n≠look (M j) n->n.slot=d.dst.getD 0:=by
  intro n j d hj hp hn
  simp only [zic,Bool.and_eq_true] at hp
  have hv:=hT.val j d hj
  have key:∀v m',zca F cx (d.dst.getD 0) (E j) (M j) d.op=some (v,m')->m'=M (j+1)->n.slot=d.dst.getD 0:=by
   intro v m' h e
   exact(yf7 hp.1 h).1 n (by rw [e];exact hn)
  unfold zdr at hv
  split at hv
  ·exact key _ _ hv rfl
  ·split at hv
   ·split at hv
    ·exact key _ _ hv rfl
    ·simp only [Option.some.injEq,Prod.mk.injEq] at hv
     exact absurd (by rw [<-hv.2]) hn
   ·simp only [Option.some.injEq,Prod.mk.injEq] at hv
    exact absurd (by rw [<-hv.2]) hn
   ·cases hv
 -- what the region's end tells of two operations
 have apartN:∀ {n:Id} {i j:Nat} {c d:CO},cos[i]? =some c->cos[j]? =some d->znn chk cos i j c d=true->(∀x,ytw c.op=some x->n∈ids (get (E i) x))->look (M (j+1)) n=look (M j) n:=by
  intro n i j c d hc hj hap hn0
  have hin:i<cos.length:=(List.getElem?_eq_some_iff.1 hc).1
  have hjn:j<cos.length:=(List.getElem?_eq_some_iff.1 hj).1
  unfold znn at hap
  by_cases hqd:ylg d.op=true
  ·rw [yoz hqd (hT.val j d hj)]
  have hqf:ylg d.op=false:=by simpa using hqd
  rw [hqf,Bool.and_false,Bool.false_or] at hap
  split at hap
  ·rename_i x t hx ht
   simp only [Bool.and_eq_true,List.elem_eq_mem,decide_eq_true_eq,List.all_eq_true,bne_iff_ne,Bool.or_eq_true,beq_iff_eq] at hap
   obtain⟨⟨⟨hmem,h1⟩,h2⟩,h3⟩:=hap
   have hn:=hn0 x hx
   rw [<-hT.same x i cos.length (by omega) (Nat.le_refl _) fun k y hk hkn hy he=>h1 y (List.mem_of_getElem? (i:=k-i) (by rw [List.getElem?_drop,show i+(k-i)=k by omega];exact hy)) he] at hn
   have hno:n∉ids (get (E cos.length) t):=by
    have:∀l:List (Nat×Nat),yrc (E cos.length) l=true->(x,t)∈l->∀i∈ids (get (E cos.length) x),i∉ids (get (E cos.length) t):=by
     intro l
     induction l with
     | nil=>intro _ h;cases h
     | cons p r ih=>
      obtain⟨a,b⟩:=p
      intro hd hm
      simp only [yrc,Bool.and_eq_true,List.all_eq_true,Bool.not_eq_true',List.elem_eq_mem,decide_eq_false_iff_not] at hd
      rcases List.mem_cons.1 hm with e|hm
      ·cases e;exact hd.1
      ·exact ih hd.2 hm
    exact this chk hchk hmem n hn
   have hend:get (E cos.length) t=get (E (j+1)) t:=hT.same t (j+1) cos.length (by omega) (Nat.le_refl _) fun k y hk hkn hy he=>h2 y (List.mem_of_getElem? (i:=k-(j+1)) (by rw [List.getElem?_drop,show j+1+(k-(j+1))=k by omega];exact hy)) he
   rw [hend] at hno
   have hv:=hT.val j d hj
   have hE:=hT.env j d hj
   refine ysl hv (fun t' ht'=> ?_) (fun t' ht' hd'=> ?_) (by rw [ht];rfl)
   ·rw [ht] at ht'
    obtain rfl:=Option.some.inj ht'
    exact fun hd'=>by
     rw [hE,hd'] at hno
     rw [show get (put? (E j) (some t) (W j)) t=W j from zi0 _ _ _] at hno
     exact hno
   ·rw [ht] at ht'
    obtain rfl:=Option.some.inj ht'
    rcases h3 with h3|h3
    ·rw [hE,h3] at hno
     exact hno
    ·exact absurd h3 hd'
  ·cases hap
 -- when nothing is ready, all has been run
 have alldone:∀(listed:Array Bool) (A:Act) (s:S),yvo oc gl ops cos M W (E 0) s0 A0 listed A s->Region.ready .any ops listed=[]->Q .normal A s.w:=by
  intro listed A s hI hr
  have all:∀i,i<cos.length->listed.getD i false=true:=by
   intro i
   induction i using Nat.strongRecOn with
   | ind i ih=>
    intro hi
    cases hl:listed.getD i false with
    | true=>rfl
    | false=>
     obtain⟨o,ho⟩:∃o,ops[i]? =some o:=⟨_,Array.getElem?_eq_getElem (by rw [<-hd.len];exact hi)⟩
     have:i∈Region.ready .any ops listed:=by
      refine mem_ready.2 ⟨?_,o,ho,fun e he hb=> ?_⟩
      ·have hlt:i<listed.size:=by rw [hI.size];exact hi
       rw [Array.getD_eq_getD_getElem?] at hl ⊢
       simp [hlt] at hl ⊢;exact hl
      ·have hlt:=hd.edge i o e ho he hb
       exact ih e.on hlt (by omega)
     rw [hr] at this
     cases this
  obtain⟨q1,q2⟩:=hI.sim.again (m':=M cos.length) fun n=>by
   obtain⟨k,hk,hm,h1,h2⟩:=hI.mem n
   rw [hm]
   refine still k cos.length hk (fun j hj hjn=> ?_)
   by_cases hch:look (M (j+1)) n=look (M j) n
   ·exact hch
   ·have:=h2 j hj hjn hch
    rw [all j hjn] at this;cases this
  refine hQ ⟨s.φ,M cos.length,s.w,s.Im⟩ A q1 (Ext.trans hI.ext q2 (fun _ _=>trivial)) rfl (fun t=>VR.ext q2 _ _ (fun _ _=>trivial) ?_) hI.tmps.1 hI.tmps.2
  ·by_cases hex:∃(i:Nat) (c:CO),cos[i]? =some c/\c.dst=some t
   ·obtain⟨i,c,hc,hct⟩:=hex
    have hi:i<cos.length:=(List.getElem?_eq_some_iff.1 hc).1
    rw [hT.wrote hc hct (fun k d hk hkt=>hd.uniq k i d c t hk hc hkt hct) hi (Nat.le_refl _)]
    exact hI.env1 i c t hc (all i hi) hct
   ·rw [hT.same t 0 cos.length (Nat.zero_le _) (Nat.le_refl _) fun k c _ _ hc he=>hex ⟨k,c,hc,he⟩]
    exact hI.env2 t fun i c hc _ he=>hex ⟨i,c,hc,he⟩
 intro fuel
 induction fuel with
 | zero=>
  intro listed A s hcount hI
  have hr:Region.ready .any ops listed=[]:=by
   cases hr:Region.ready .any ops listed with
   | nil=>rfl
   | cons i q=>
    have hi:i∈Region.ready .any ops listed:=by rw [hr];simp
    have h0:=(mem_ready.1 hi).1
    have hlt:i<listed.size:=by
     rcases Nat.lt_or_ge i listed.size with h'|h'
     ·exact h'
     ·rw [Array.getD_eq_getD_getElem?,Array.getElem?_eq_none h'] at h0;cases h0
    have hf:listed[i]=false:=by rw [Array.getD_eq_getD_getElem?] at h0;simpa [hlt] using h0
    have:0<listed.toList.countP (fun b=> !b):=List.countP_pos_iff.2 ⟨listed[i],by simp,by simp [hf]⟩
    omega
  exact⟨hr,alldone listed A s hI hr⟩
 | succ fuel ih=>
  intro listed A s hcount hI
  refine⟨fun hr=>alldone listed A s hI hr,fun i hi=> ?_⟩
  obtain⟨h0,o,ho,hedges⟩:=mem_ready.1 hi
  have hio:i<ops.size:=(Array.getElem?_eq_some_iff.1 ho).1
  have hin:i<cos.length:=by rw [hd.len];exact hio
  have hlt:i<listed.size:=by rw [hI.size];exact hin
  have hf:listed[i]=false:=by rw [Array.getD_eq_getD_getElem?] at h0;simpa [hlt] using h0
  have hnl:listed.getD i false=false:=by rw [Array.getD_eq_getD_getElem?];simp [hlt,hf]
  obtain⟨c,hc⟩:∃c,cos[i]? =some c:=⟨_,List.getElem?_eq_getElem hin⟩
  have hco:=(z7r cos ops.toList hok).2 i c o hc (by simpa using ho)
  obtain⟨hdst,hdlt⟩:=z7q hco
  -- what stands before it has been run
  have before:∀j,j≠i->z0y ops i j->listed.getD j false=true:=by
   intro j hj hn
   have:=hn (fun k=>k=i\/listed.getD k false=true) (fun k o' e hk hp he hb=>by
    rcases hp with rfl|hp
    ·rw [ho] at hk
     obtain rfl:=Option.some.inj hk
     exact .inr (hedges e he hb)
    ·exact .inr (hI.closed k o' e hk hp he hb)) (.inl rfl)
   exact this.resolve_left hj
  have behind:∀j,z0y ops j i->listed.getD j false=true->False:=by
   intro j hn hj
   have:=hn (fun k=>listed.getD k false=true) hI.closed hj
   rw [hnl] at this;cases this
  -- what it reads
  let e1:Env:=(E i).filter fun p=>(zj0 c).elem p.1
  have hread:∀t∈zj0 c,get e1 t=get (E i) t:=by
   intro t ht
   have:∀(l:Env),get (l.filter fun p=>(zj0 c).elem p.1) t=get l t:=by
    intro l
    induction l with
    | nil=>rfl
    | cons p l ihl=>
     obtain⟨u,v⟩:=p
     rw [List.filter_cons]
     split
     ·simp only [get];rw [ihl]
     ·rename_i hu
      have hne:u≠t:=fun e=>hu (by subst e;simpa using ht)
      simp only [get,hne,if_false];exact ihl
   exact this _
  have hnread:∀t,t∉zj0 c->get e1 t= .undef:=by
   intro t ht
   have:∀(l:Env),get (l.filter fun p=>(zj0 c).elem p.1) t= .undef:=by
    intro l
    induction l with
    | nil=>rfl
    | cons p l ihl=>
     obtain⟨u,v⟩:=p
     rw [List.filter_cons]
     split
     ·rename_i hu
      have hne:u≠t:=fun e=>ht (by subst e;simpa using hu)
      simp only [get,hne,if_false];exact ihl
     ·exact ihl
   exact this _
  have henv:zcc s e1 A.tmps:=by
   intro t
   by_cases ht:t∈zj0 c
   ·rw [hread t ht]
    by_cases hex:∃(j:Nat) (d:CO),cos[j]? =some d/\d.dst=some t
    ·obtain⟨j,d,hj,hjt⟩:=hex
     have late:i<=j->listed.getD j false=false->VR s (get (E i) t) (A.tmps.getD t undef):=by
      intro hij hjl
      rw [hT.same t 0 i (Nat.zero_le _) (by omega) fun k d' _ hki hk he=>by
       have:=hd.uniq k j d' d t hk hj he hjt
       omega]
      refine hI.env2 t fun k d' hk hkl he=> ?_
      obtain rfl:=hd.uniq k j d' d t hk hj he hjt
      rw [hjl] at hkl;cases hkl
     rcases hd.read i j c d t hc hj ht hjt with⟨hji,hn⟩|rfl|⟨hij,hn⟩
     ·rw [hT.wrote hj hjt (fun k d' hk hkt=>hd.uniq k j d' d t hk hj hkt hjt) hji (by omega)]
      exact hI.env1 j d t hj (before j (by omega) hn) hjt
     ·exact late (Nat.le_refl _) hnl
     ·refine late (by omega) ?_
      cases hjl:listed.getD j false with
      | false=>rfl
      | true=>exact(behind j hn hjl).elim
    ·rw [hT.same t 0 i (Nat.zero_le _) (by omega) fun k d _ _ hk he=>hex ⟨k,d,hk,he⟩]
     exact hI.env2 t fun j d hj _ he=>hex ⟨j,d,hj,he⟩
   ·rw [hnread t ht];trivial
  -- its memory
  have hval:=hT.val i c hc
  rw [<-ych c hread] at hval
  have npure:∀ {d:CO},(cls c.op<=2\/cls c.op=4)->(zic c&&zic d)=false/\(zic d&&zic c)=false:=by
   intro d h
   have:zic c=false:=by
    unfold zic
    cases hp:ydg c.op with
    | false=>rfl
    | true=>have:=ylf hp;omega
   rw [this];simp
  have nodown:cls c.op≠0->∀(j:Nat) (d:CO),cos[j]? =some d->2<=cls d.op->j<i->listed.getD j false=false->zkg cos c.op d.op=true\/(zic c&&zic d)=true\/znn chk cos i j c d=true:=by
   intro hc0 j d hj hdl hji hjl
   cases hp:zkg cos c.op d.op with
   | true=>exact .inl rfl
   | false=>
    cases hq:(zic c&&zic d) with
    | true=>exact .inr (.inl rfl)
    | false=>
     cases hr:znn chk cos i j c d with
     | true=>exact .inr (.inr rfl)
     | false=>rw [before j (by omega) (hd.loud i j c d hc hj hji hc0 (by omega) hp hq hr (zey hdl))] at hjl;cases hjl
  have noup:cls c.op≠0->∀(j:Nat) (d:CO),cos[j]? =some d->2<=cls d.op->i<=j->listed.getD j false=true->zkg cos d.op c.op=true\/(zic d&&zic c)=true\/znn chk cos i j c d=true:=by
   intro hc0 j d hj hdl hij hjl
   rcases Nat.lt_or_ge i j with h|h
   ·cases hp:zkg cos d.op c.op with
    | true=>exact .inl rfl
    | false=>
     cases hq:(zic d&&zic c) with
     | true=>exact .inr (.inl rfl)
     | false=>
      cases hr:znn chk cos i j c d with
      | true=>exact .inr (.inr rfl)
      | false=>exact(behind j (hd.loud j i d c hj hc h (by omega) hc0 hp hq (zey hdl) hr) hjl).elim
   ·obtain rfl:i=j:=by omega
    rw [hnl] at hjl;cases hjl
  have hpass:∀x y:COp,zkg cos x y=true->(cls y=1/\cls x=1)\/(cls y=1/\cls x=3)\/(cls y=3/\cls x=1/\zwt [] x=[])\/(cls y=1/\cls x=4/\zut cos y x=true)\/(cls y=4/\cls x=1/\zut cos x y=true):=by
   intro x y h
   simp only [zkg,Bool.or_eq_true,Bool.and_eq_true,beq_iff_eq,List.isEmpty_iff] at h
   rcases h with(((h|h)|h)|h)|h
   ·exact .inl h
   ·exact .inr (.inl h)
   ·exact .inr (.inr (.inl ⟨h.1.1,h.1.2,h.2⟩))
   ·exact .inr (.inr (.inr (.inl ⟨h.1.1,h.1.2,h.2⟩)))
   ·exact .inr (.inr (.inr (.inr ⟨h.1.1,h.1.2,h.2⟩)))
  -- what a zut load asks for
  have hguard:∀w:COp,zut cos c.op w=true->zwt [] c.op=[]/\∀n∈zwt e1 c.op,∀j,j<=cos.length->∃t∈z58 w,n∈ids (get (E j) t):=by
   intro w hw
   unfold zut at hw
   split at hw
   ·rename_i a hop
    simp only [Bool.and_eq_true,List.elem_eq_mem,decide_eq_true_eq,List.all_eq_true,bne_iff_ne] at hw
    have hra:a∈zj0 c:=by
     have:=(zxg hop []).1
     unfold zj0
     split<;>simp [this]
    have hnw:∀(k':Nat) (d:CO),cos[k']? =some d->d.dst≠some (z06 cos a):=fun k' d hd'=>hw.2 d (List.mem_of_getElem? hd')
    rw [(zxg hop []).2,(zxg hop e1).2]
    refine⟨rfl,fun n hn j hj=>⟨z06 cos a,hw.1,?_⟩⟩
    have hn':n∈ids (get e1 a):=hn
    rw [hread a hra] at hn'
    have hb:n∈ids (get (E 0) (z06 cos a)):=by
     have one:∀(i:Nat) (c:CO) (a:Nat),cos[i]? =some c->a∈zj0 c->n∈ids (get (E i) a)->∃(j:Nat) (x:CO),cos[j]? =some x/\z83 cos a∈zj0 x/\n∈ids (get (E j) (z83 cos a)):=by
      intro i c a hc ha hn
      rcases ybt cos a hc ha with e|⟨j0,x,h1,h2,h3,h4,h5⟩
      ·exact⟨i,c,hc,by rw [e];exact ha,by rw [e];exact hn⟩
      ·have hi:=(List.getElem?_eq_some_iff.1 hc).1
       rw [hT.wrote h2 h3 (fun k' d' hk hkt=>hd.uniq k' j0 d' x a hk h2 hkt h3) h1 (by omega)] at hn
       refine⟨j0,x,h2,?_,yj2 h4 h5 (hT.val j0 x h2) n hn⟩
       have:=z63 h5
       unfold zj0
       split<;>simp [this]
     obtain⟨j1,x1,g1,g2,g3⟩:=one i c a hc hra hn'
     obtain⟨j2,x2,g4,g5,g6⟩:=one j1 x1 _ g1 g2 g3
     obtain⟨j3,x3,g7,g8,g9⟩:=one j2 x2 _ g4 g5 g6
     have hj3:=(List.getElem?_eq_some_iff.1 g7).1
     rw [<-hT.same (z06 cos a) 0 j3 (Nat.zero_le _) (by omega) fun k' d _ _ hd'=>hnw k' d hd']
     exact g9
    rw [hT.same (z06 cos a) 0 j (Nat.zero_le _) hj fun k' d _ _ hd'=>hnw k' d hd']
    exact hb
   ·cases hw
  have loudly:∀x y:COp,2<=cls x->2<=cls y->zkg cos x y=false:=by
   intro x y hx hy
   cases hp:zkg cos x y with
   | false=>rfl
   | true=>have:=hpass x y hp;omega
  -- the world as it is, memory listed so that the text's step fits
  obtain⟨s1,hw1,hsim1,hext1,m',hev,hmem'⟩:∃s1:S,s1.w=s.w/\Sim oc gl s1/\Ext (fun _=>True) s s1/\∃m',zdr F cx e1 s1.m c=some (W i,m')/\
    ∀n:Id,∃k,k<=cos.length/\look m' n=look (M k) n/\(∀j,j<k->look (M (j+1)) n≠look (M j) n->j=i\/listed.getD j false=true)/\(∀j,k<=j->j<cos.length->look (M (j+1)) n≠look (M j) n->j≠i/\listed.getD j false=false):=by
   rcases Nat.lt_or_ge (cls c.op) 2 with hc2|hc2
   ·have hsame:zdr F cx e1 s.m c=some (W i,s.m):=by
     by_cases hc0:cls c.op=0
     ·exact(yu2 hc0 hval).2 s.m
     ·have hc1:cls c.op=1:=by omega
      have nopure:∀(d:CO),(zic c&&zic d)≠true/\(zic d&&zic c)≠true:=fun d=>by
       rw [(npure (d:=d) (.inl (by omega))).1,(npure (d:=d) (.inl (by omega))).2];simp
      have hrd:∀n∈zwt e1 c.op,∀x,ytw c.op=some x->n∈ids (get (E i) x):=by
       intro n hn x hx
       have h1:=yf8 hx e1
       rw [h1.2.1] at hn
       rw [hread x (by unfold zj0;split<;>simp [h1.1])] at hn
       exact hn
      refine yg9 (fun n hn o hl=> ?_) hc1 hval
      obtain⟨k,hk,hm,hk1,hk2⟩:=hI.mem n
      rw [hm]
      rcases Nat.le_total i k with h|h
      ·refine stay i k h hk (fun j d h1 h2 hj=> ?_) hl
       by_cases hch:look (M (j+1)) n=look (M j) n
       ·exact .inl hch
       ·have hdl:=loudC hj hch
        have hmp:zkg cos d.op c.op=true:=by
         rcases noup hc0 j d hj hdl h1 (hk1 j h2 hch) with h|h|h
         ·exact h
         ·exact absurd h (nopure d).2
         ·exact absurd (apartN hc hj h (hrd n hn)) hch
        rcases hpass _ _ hmp with h|h|h|h|h
        ·omega
        ·exact .inr (.inl h.2)
        ·omega
        ·exact .inr (.inr ⟨h.2.1,(hguard d.op h.2.2).2 n hn j (by omega)⟩)
        ·omega
      ·by_cases hloud:∃(j:Nat) (d:CO),k<=j/\j<i/\cos[j]? =some d/\look (M (j+1)) n≠look (M j) n
       ·have pass:∀(j:Nat) (d:CO),k<=j->j<i->cos[j]? =some d->look (M (j+1)) n≠look (M j) n->zkg cos c.op d.op=true:=fun j d h1 h2 hj hch=>by
         rcases nodown hc0 j d hj (loudC hj hch) h2 (hk2 j h1 (by omega) hch) with h|h|h
         ·exact h
         ·exact absurd h (nopure d).1
         ·exact absurd (apartN hc hj h (hrd n hn)) hch
        have hclosed:zwt [] c.op=[]:=by
         obtain⟨j,d,h1,h2,hj,hch⟩:=hloud
         have hdl:=loudC hj hch
         rcases hpass _ _ (pass j d h1 h2 hj hch) with h|h|h|h|h
         ·omega
         ·omega
         ·exact h.2.2
         ·omega
         ·exact(hguard d.op h.2.2).1
        obtain⟨o',ho'⟩:∃o',look (M k) n=some o':=by
         rw [<-hm]
         rcases yhm hn with⟨t,_,hi⟩|hi
         ·exact z6m s _ _ (henv t) n hi
         ·rw [hclosed] at hi;simp at hi
        have:=stay k i h (by omega) (fun j d h1 h2 hj=>by
         by_cases hch:look (M (j+1)) n=look (M j) n
         ·exact .inl hch
         ·have hdl:=loudC hj hch
          rcases hpass _ _ (pass j d h1 h2 hj hch) with h|h|h|h|h
          ·omega
          ·omega
          ·exact .inr (.inl h.1)
          ·omega
          ·exact .inr (.inr ⟨h.1,(hguard d.op h.2.2).2 n hn j (by omega)⟩)) ho'
        rw [hl] at this
        rw [ho',this]
       ·rw [<-still k i h fun j h1 h2=> ?_]
        ·exact hl
        ·by_cases hch:look (M (j+1)) n=look (M j) n
         ·exact hch
         ·exact absurd ⟨j,cos[j]'(by omega),h1,h2,List.getElem?_eq_getElem (by omega),hch⟩ hloud
    refine⟨s,rfl,hI.sim,Ext.refl _ _,s.m,hsame,fun n=> ?_⟩
    obtain⟨k,hk,hm,hk1,hk2⟩:=hI.mem n
    refine⟨k,hk,hm,fun j hj hch=> .inr (hk1 j hj hch),fun j hj hjn hch=>⟨?_,hk2 j hj hjn hch⟩⟩
    rintro rfl
    have:=loudC hc hch
    omega
   ·have hc0:cls c.op≠0:=by omega
    by_cases hpc:zic c=true
    ·--a new object:its name is the text's
     have order:∀(n:Id) (j:Nat) (d:CO),cos[j]? =some d->j≠i->look (M (j+1)) n≠look (M j) n->n.slot=c.dst.getD 0->(j<i->listed.getD j false=true)/\(i<j->listed.getD j false=false):=by
      intro n j d hj hji hch hns
      have hdl:=loudC hj hch
      have hnp:zic d=false:=by
       cases hp:zic d with
       | false=>rfl
       | true=>
        exfalso
        have:=pureN hj hp hch
        rw [this] at hns
        simp only [zic,Bool.and_eq_true,Option.isSome_iff_exists] at hp hpc
        obtain⟨_,t,ht⟩:=hp
        obtain⟨_,u,hu⟩:=hpc
        simp only [ht,hu,Option.getD_some] at hns
        subst hns
        exact hji (hd.uniq j i d c t hj hc ht hu)
      refine⟨fun h=>before j hji (hd.loud i j c d hc hj h hc0 (by omega) (loudly _ _ hc2 hdl) (by rw [hnp,Bool.and_false]) (zey hc2) (zey hdl)),fun h=> ?_⟩
      cases hl:listed.getD j false with
      | false=>rfl
      | true=>exact(behind j (hd.loud j i d c hj hc h (by omega) hc0 (loudly _ _ hdl hc2) (by rw [hnp,Bool.false_and]) (zey hdl) (zey hc2)) hl).elim
     have sameSlot:∀n:Id,n.slot=c.dst.getD 0->look s.m n=look (M i) n:=by
      intro n hns
      obtain⟨k,hk,hm,hk1,hk2⟩:=hI.mem n
      rw [hm]
      rcases Nat.le_total i k with h|h
      ·refine still i k h fun j h1 h2=> ?_
       by_cases hch:look (M (j+1)) n=look (M j) n
       ·exact hch
       ·have hjl:=hk1 j h2 hch
        have hji:j≠i:=by rintro rfl;rw [hnl] at hjl;cases hjl
        have:=(order n j _ (List.getElem?_eq_getElem (by omega)) hji hch hns).2 (by omega)
        rw [hjl] at this;cases this
      ·refine(still k i h fun j h1 h2=> ?_).symm
       by_cases hch:look (M (j+1)) n=look (M j) n
       ·exact hch
       ·have hjl:=hk2 j h1 (by omega) hch
        have:=(order n j _ (List.getElem?_eq_getElem (by omega)) (by omega) hch hns).1 h2
        rw [hjl] at this;cases this
     have hpa:ydg c.op=true:=by
      simp only [zic,Bool.and_eq_true] at hpc;exact hpc.1
     have hstep:∃m',zdr F cx e1 s.m c=some (W i,m')/\∀n,(look m' n=look s.m n/\look (M (i+1)) n=look (M i) n)\/(n.slot=c.dst.getD 0/\look m' n=look (M (i+1)) n):=by
      have key:zca F cx (c.dst.getD 0) e1 (M i) c.op=some (W i,M (i+1))->∃m',zca F cx (c.dst.getD 0) e1 s.m c.op=some (W i,m')/\∀n,(look m' n=look s.m n/\look (M (i+1)) n=look (M i) n)\/(n.slot=c.dst.getD 0/\look m' n=look (M (i+1)) n):=by
       intro h
       exact(yf7 hpa h).2 s.m fun n _ hn=>sameSlot n hn
      have skip:(∀m2,zdr F cx e1 m2 c=some (V.skip,m2))->∃m',zdr F cx e1 s.m c=some (W i,m')/\∀n,(look m' n=look s.m n/\look (M (i+1)) n=look (M i) n)\/(n.slot=c.dst.getD 0/\look m' n=look (M (i+1)) n):=by
       intro h
       rw [h] at hval
       simp only [Option.some.injEq,Prod.mk.injEq] at hval
       exact⟨s.m,by rw [h,hval.1],fun n=> .inl ⟨rfl,by rw [hval.2]⟩⟩
      have run:(∀m2,zdr F cx e1 m2 c=zca F cx (c.dst.getD 0) e1 m2 c.op)->∃m',zdr F cx e1 s.m c=some (W i,m')/\∀n,(look m' n=look s.m n/\look (M (i+1)) n=look (M i) n)\/(n.slot=c.dst.getD 0/\look m' n=look (M (i+1)) n):=by
       intro h
       rw [h] at hval
       obtain⟨m',k1,k2⟩:=key hval
       exact⟨m',(h _).trans k1,k2⟩
      cases hg:c.guard with
      | none=>exact run fun m2=>by simp only [zdr,hg]
      | some p=>
       obtain⟨t,w⟩:=p
       cases hb:get e1 t with
       | skip=>exact skip fun m2=>by simp only [zdr,hg,hb]
       | d x=>
        cases x with
        | bool b=>
         by_cases hbw:b=w
         ·exact run fun m2=>by simp only [zdr,hg,hb,if_pos hbw]
         ·exact skip fun m2=>by simp only [zdr,hg,hb,if_neg hbw]
        | _=>simp [zdr,hg,hb] at hval
       | _=>simp [zdr,hg,hb] at hval
     obtain⟨m',hev,hlk⟩:=hstep
     refine⟨s,rfl,hI.sim,Ext.refl _ _,m',hev,fun n=> ?_⟩
     rcases hlk n with⟨h1,h2⟩|⟨hns,h1⟩
     ·obtain⟨k,hk,hm,hk1,hk2⟩:=hI.mem n
      refine⟨k,hk,h1.trans hm,fun j hj hch=> .inr (hk1 j hj hch),fun j hj hjn hch=>⟨?_,hk2 j hj hjn hch⟩⟩
      rintro rfl
      exact hch h2
     ·refine⟨i+1,by omega,h1,fun j hj hch=> ?_,fun j hj hjn hch=>⟨by omega,?_⟩⟩
      ·by_cases hji:j=i
       ·exact .inl hji
       ·exact .inr ((order n j _ (List.getElem?_eq_getElem (by omega)) hji hch hns).1 (by omega))
      ·exact(order n j _ (List.getElem?_eq_getElem hjn) (by omega) hch hns).2 (by omega)
    ·--all that turns memory before it has been run,nothing behind it
     have hnp:zic c=false:=Bool.eq_false_iff.2 hpc
     have order:∀(n:Id) (j:Nat) (d:CO),cos[j]? =some d->j≠i->look (M (j+1)) n≠look (M j) n->(j<i->listed.getD j false=true)/\(i<j->listed.getD j false=false):=by
      intro n j d hj hji hch
      have hdl:=loudC hj hch
      refine⟨fun h=>before j hji (hd.loud i j c d hc hj h hc0 (by omega) (loudly _ _ hc2 hdl) (by rw [hnp,Bool.false_and]) (zey hc2) (zey hdl)),fun h=> ?_⟩
      cases hl:listed.getD j false with
      | false=>rfl
      | true=>exact(behind j (hd.loud j i d c hj hc h (by omega) hc0 (loudly _ _ hdl hc2) (by rw [hnp,Bool.and_false]) (zey hdl) (zey hc2)) hl).elim
     obtain⟨q1,q2⟩:=hI.sim.again (m':=M i) fun n=>by
      obtain⟨k,hk,hm,hk1,hk2⟩:=hI.mem n
      rw [hm]
      rcases Nat.le_total i k with h|h
      ·refine(still i k h fun j h1 h2=> ?_).symm
       by_cases hch:look (M (j+1)) n=look (M j) n
       ·exact hch
       ·have hjl:=hk1 j h2 hch
        have hji:j≠i:=by rintro rfl;rw [hnl] at hjl;cases hjl
        have:=(order n j _ (List.getElem?_eq_getElem (by omega)) hji hch).2 (by omega)
        rw [hjl] at this;cases this
      ·refine still k i h fun j h1 h2=> ?_
       by_cases hch:look (M (j+1)) n=look (M j) n
       ·exact hch
       ·have hjl:=hk2 j h1 (by omega) hch
        have:=(order n j _ (List.getElem?_eq_getElem (by omega)) (by omega) hch).1 h2
        rw [hjl] at this;cases this
     refine⟨⟨s.φ,M i,s.w,s.Im⟩,rfl,q1,q2,M (i+1),hval,fun n=>⟨i+1,by omega,rfl,fun j hj hch=> ?_,fun j hj hjn hch=>⟨by omega,?_⟩⟩⟩
     ·by_cases hji:j=i
      ·exact .inl hji
      ·exact .inr ((order n j _ (List.getElem?_eq_getElem (by omega)) hji hch).1 (by omega))
     ·exact(order n j _ (List.getElem?_eq_getElem hjn) (by omega) hch).2 (by omega)
  rw [<-hw1]
  have henv1:zcc s1 e1 A.tmps:=fun t=>VR.ext hext1 _ _ (fun _ _=>trivial) (henv t)
  refine z8j hF hsim1 henv1 r cx (by rw [hI.tmps.1];exact hnt) ho hco hev fun s' x q1 q2' q3 q4=> ?_
  have q2:=Ext.trans hext1 q2' (fun _ _=>trivial)
  have hsz:=zg2 A o.dst x
  refine ih (listed.setIfInBounds i true) (A.put o.dst x) s' ?_ ⟨by simpa using hI.size,fun j o' e hj hp he hb=> ?_,q1,Ext.trans hI.ext q2 (fun _ _=>trivial),fun n=> ?_,
   fun j d t hj hl hdt=> ?_,fun t hno=> ?_,⟨hsz.1.trans hI.tmps.1,hsz.2.trans hI.tmps.2⟩⟩
  ·rw [Array.toList_setIfInBounds,List.countP_set (by simpa using hlt)]
   have hpos:0<listed.toList.countP (fun b=> !b):=List.countP_pos_iff.2 ⟨listed[i],by simp,by simp [hf]⟩
   simp only [Array.getElem_toList,hf,Bool.not_false,Bool.not_true,if_true,Bool.false_eq_true,if_false]
   omega
  ·simp only [zp8 hlt,Bool.or_eq_true,decide_eq_true_eq] at hp ⊢
   rcases hp with rfl|hp
   ·rw [ho] at hj
    obtain rfl:=Option.some.inj hj
    exact .inr (hedges e he hb)
   ·exact .inr (hI.closed j o' e hj hp he hb)
  ·obtain⟨k,hk,hmk,hka,hkb⟩:=hmem' n
   refine⟨k,hk,by rw [q3];exact hmk,fun j hj hch=> ?_,fun j hj hjn hch=> ?_⟩
   ·simp only [zp8 hlt,Bool.or_eq_true,decide_eq_true_eq]
    exact(hka j hj hch).imp Eq.symm id
   ·obtain⟨h1,h2⟩:=hkb j hj hjn hch
    rw [zp8 hlt,h2,decide_eq_false (Ne.symm h1)];rfl
  ·simp only [zp8 hlt,Bool.or_eq_true,decide_eq_true_eq] at hl
   by_cases e:i=j
   ·subst e
    rw [hc] at hj
    obtain rfl:=Option.some.inj hj
    have hot:o.dst=some t:=hdst▸hdt
    rw [hot,zlj A t x (by have:=hdlt t hdt;rw [hI.tmps.1];omega) t]
    simpa using q4
   ·have hl:=hl.resolve_left e
    have hv:=VR.ext q2 _ _ (fun _ _=>trivial) (hI.env1 j d t hj hl hdt)
    cases hod:o.dst with
    | none=>exact hv
    | some u=>
     have hu:c.dst=some u:=hdst.trans hod
     have hne:u≠t:=fun e'=>e (hd.uniq i j c d t hc hj (by rw [hu,e']) hdt)
     rw [zlj A u x (by have:=hdlt u hu;rw [hI.tmps.1];omega) t]
     simpa [hne] using hv
  ·have hv:=VR.ext q2 _ _ (fun _ _=>trivial) (hI.env2 t fun j d hj hl=>hno j d hj (by simp [zp8 hlt,hl]))
   cases hod:o.dst with
   | none=>exact hv
   | some u=>
    have hu:c.dst=some u:=hdst.trans hod
    have hne:u≠t:=fun e'=>hno i c hc (by simp [zp8 hlt]) (by rw [hu,e'])
    rw [zlj A u x (by have:=hdlt u hu;rw [hI.tmps.1];omega) t]
    simpa [hne] using hv
theorem ya5 [Clk] {F:Oracle} (hF:Good P oc gl F) (hm:P.follows .mixedOrders=true) (r:Option Nat) (cx:Cx) {nt:Nat} {ops:Array Oper} {cos:List CO} (draw:Bool) (id:Nat) (hok:zow P gl nt ops cos ops.toList=true) {chk:List (Nat×Nat)}
  {e e':Env} (hdr:draw=true->yab chk ops cos=true/\yrc e' chk=true) {m':Mem} {s:S} {A:Act} (h:zh7 F cx cos e s.m=some (e',m')) (hs:Sim oc gl s) (he:zcc s e A.tmps) (hnt:nt<=A.tmps.size) {Q:Exit->Act->World->Prop}
  (hQ:∀s' A',Sim oc gl s'->Ext (fun _=>True) s s'->s'.m=m'->zcc s' e' A'.tmps->A'.tmps.size=A.tmps.size->A'.defers=A.defers->Q .normal A' s'.w):
  (Code.region id ops draw).wpIn (fen r) 0 P Q A s.w:=by
 cases draw with
 | false=>
  refine wpIn_region ?_
  have:=yda hF r cx cos ops.toList 0 e e' m' s A (fun k _=>by simp) hok h hs he hnt hQ
  rw [List.range_eq_range']
  simpa using this
 | true=>
  have hd:=yjy hok (hdr rfl).1
  obtain⟨E,M,W,hT,hE,hM,hE',hM'⟩:=z8q cos e e' s.m m' h
  refine wpIn_region_any hm ?_
  obtain⟨k1,k2⟩:=hs.calm {s.w with drawn:=s.w.drawn+1} s.Im rfl Tk.of rfl (Nat.le_refl _) (fun _ _=>rfl) (fun _ _ h=>h) (fun _ _ h=> .inl h) hs.imlt
  have hsz:(Array.replicate ops.size false).toList.countP (fun b=> !b)<=ops.size:=by
   refine Nat.le_trans List.countP_le_length ?_
   simp
  have nol:∀i,(Array.replicate ops.size false).getD i false=false:=by
   intro i
   rw [Array.getD_eq_getD_getElem?]
   by_cases h:i<ops.size
   ·simp [h]
   ·simp [h]
  refine yjz (Q:=Q) hF r cx hok hd hT (by rw [hE'];exact(hdr rfl).2) (s0:=s) (A0:=A) hnt (fun s' A' q1 q2 q3 q4 q5 q6=>hQ s' A' q1 q2 (q3.trans hM') (hE'▸q4) q5 q6) ops.size _ A ⟨s.φ,s.m,{s.w with drawn:=s.w.drawn+1},s.Im⟩ hsz
   ⟨by simp [hd.len],fun i o e _ hp=>absurd ((nol i).symm.trans hp) (by simp),k1,k2,fun n=>⟨0,Nat.zero_le _,by rw [hM],fun j h=>absurd h (Nat.not_lt_zero _),fun j _ _ _=>nol j⟩,
    fun i c t _ hp=>absurd ((nol i).symm.trans hp) (by simp),fun t _=> ?_,rfl,rfl⟩
  rw [hE]
  exact VR.ext k2 _ _ (fun _ _=>trivial) (he t)
end
def zyn:COp->Bool
 | .mv _=>true
 | .nilCheck _=>true
 | .fieldAddr .. =>true
 | .load .. =>true
 | .lookup .. =>true
 | .bin .. =>true
 | _=>false
def ys5 [Clk] (P:Program) (w:World) (kt:TypeId) (bm:Nat) (v:Value) (st:Nat):Prop:=
 ∃(ces:Array MapEntry) (clock j:Nat) (e0:MapEntry),w.heap[bm]? =some (.map ces clock)/\ces.toList[j]? =some e0/\e0.key=v/\e0.born=st/\(ces.toList.map (·.born)).Nodup/\(Instr.findKey kt v ces.toList).run P w= .ok (some (j,e0.val)) w
theorem z5f {same:Value->Option Bool} {v u:Value} {b:Nat} (hs:same v=some true):∀(q:List MapEntry) (i:Nat),zho same q i=some none->zho same (q++[{key:=v,val:=u,born:=b}]) i=some (some (i+q.length,u))
 | [],i,_=>by simp [zho,hs]
 | e::q,i,h=>by
  simp only [zho] at h
  split at h
  ·cases h
  ·rename_i he
   simp only [List.cons_append,zho,he]
   rw [z5f hs q (i+1) h,List.length_cons,show i+1+q.length=i+(q.length+1) by omega]
  ·cases h
theorem z9s {l:List MapEntry} (hn:(l.map (·.born)).Nodup) {j:Nat} {e0:MapEntry} (h:l[j]? =some e0):l.findIdx? (fun e=>((e.born:Nat):Int)==((e0.born:Nat):Int))=some j:=by
 induction l generalizing j with
 | nil=>simp at h
 | cons a r ih=>
  simp only [List.map_cons,List.nodup_cons] at hn
  cases j with
  | zero=>
   simp only [List.getElem?_cons_zero,Option.some.injEq] at h
   subst h
   simp [List.findIdx?_cons]
  | succ j=>
   simp only [List.getElem?_cons_succ] at h
   have hne:a.born≠e0.born:=fun e1=>hn.1 (List.mem_map.2 ⟨e0,List.mem_of_getElem? h,e1.symm⟩)
   have hb:(((a.born:Nat):Int)==((e0.born:Nat):Int))=false:=by
    simp only [beq_eq_false_iff_ne,ne_eq,Int.natCast_inj]
    exact hne
   rw [List.findIdx?_cons,hb]
   simp [ih hn.2 h]
theorem ycv {l:Array MapEntry} {j:Nat} {e0:MapEntry} {f:MapEntry->MapEntry} (h:l.toList[j]? =some e0) (hf:f e0=e0):l.modify j f=l:=by
 apply Array.ext'
 rw [Array.toList_modify]
 apply List.ext_getElem?
 intro i
 rw [List.getElem?_modify]
 by_cases e:j=i
 ·subst e;simp [h,hf]
 ·simp [e]
theorem z97 {l:Array MapEntry} {j:Nat} {e0:MapEntry} {f g:MapEntry->MapEntry} (h:l.toList[j]? =some e0) (hf:f e0=g e0):l.modify j f=l.modify j g:=by
 apply Array.ext'
 rw [Array.toList_modify,Array.toList_modify]
 apply List.ext_getElem?
 intro i
 rw [List.getElem?_modify,List.getElem?_modify]
 by_cases e:j=i
 ·subst e;simp [h,hf]
 ·simp [e]
theorem yl6 {α:Type} {xs:Array α} {b:Nat} {x:α} (h:xs[b]? =some x):xs.setIfInBounds b x=xs:=by
 apply Array.ext_getElem?
 intro i
 rw [Array.getElem?_setIfInBounds]
 by_cases e:b=i
 ·subst e
  rw [if_pos rfl,h]
  have:=(Array.getElem?_eq_some_iff.1 h).1
  rw [if_pos this]
 ·rw [if_neg e]
section
variable {P : Program} {oc : zdj} {gl : Globs} {s : S} {A : Act} {e : Env} {o : Oper}
theorem yic [Clk] (hs:Sim oc gl s) (he:zcc s e A.tmps) (F:Oracle) (cx:Cx) (slot:Nat) {op:COp} {v:V} {m':Mem} (hp:zyn op=true) (ok:ym6 P gl o op=true) (h:zca F cx slot e s.m op=some (v,m')):m'=s.m/\zhs P s A o v:=by
 cases op<;>simp only [zyn,Bool.false_eq_true] at hp<;>simp only [ym6] at ok<;>simp only [zca] at h
 case mv x=>
  simp only [Option.some.injEq,Prod.mk.injEq] at h;obtain⟨rfl,rfl⟩:=h
  exact⟨rfl,ydu hs he ok⟩
 case nilCheck x=>exact zxb hs he ok h
 case load n a=>
  simp only [Option.map_eq_some_iff,Prod.mk.injEq] at h
  obtain⟨cs,hf,rfl,rfl⟩:=h
  exact⟨rfl,yau hs he ok hf⟩
 case fieldAddr off x=>
  simp only [Option.map_eq_some_iff,Prod.mk.injEq] at h
  obtain⟨cs,hf,rfl,rfl⟩:=h
  exact⟨rfl,ztt hs he ok hf⟩
 case lookup kk z c m k=>
  simp only [Option.map_eq_some_iff,Prod.mk.injEq] at h
  obtain⟨cs,hf,rfl,rfl⟩:=h
  exact⟨rfl,z3k hs he ok hf⟩
 case bin op x y=>
  simp only [Option.map_eq_some_iff,Prod.mk.injEq] at h
  obtain⟨cs,hf,rfl,rfl⟩:=h
  exact⟨rfl,ygm hs he ok hf⟩
theorem ye6 {same:Value->Option Bool} {x:D} {v:Value}
  (hd:∀(y:D) (u:Value) (r:Bool),DR s.w s.Im y u->eqD x y=some r->same u=some r/\(r=true->v=u/\x=y)):
  ∀(es:List (D×V)) (q:List MapEntry) (i:Nat) (y:V),zoy s es q->zf1 x es=some (some y)->
   ∃j en,zho same q i=some (some (i+j,en.val))/\q[j]? =some en/\en.key=v/\VR s y en.val
 | [],_,i,y,hm,h=>by simp [zf1] at h
 | (k,z)::es,_,i,y,hm,h=>by
  obtain⟨en,q,rfl,_,hk,hy,hrest⟩:=hm
  simp only [zf1] at h
  split at h
  ·rename_i he
   obtain rfl:=Option.some.inj (Option.some.inj h)
   obtain⟨h1,h2⟩:=hd k en.key true hk he
   exact⟨0,en,by simp [zho,h1],rfl,(h2 rfl).1.symm,hy⟩
  ·rename_i he
   have h1:=(hd k en.key false hk he).1
   obtain⟨j,en',k1,k2,k3,k4⟩:=ye6 hd es q (i+1) y hrest h
   exact⟨j+1,en',by simp only [zho,h1];rw [k1,show i+1+j=i+(j+1) by omega],by simpa using k2,k3,k4⟩
  ·cases h
theorem ynz {same:Value->Option Bool} {x:D} {v:Value}
  (hd:∀(y:D) (u:Value) (r:Bool),DR s.w s.Im y u->eqD x y=some r->same u=some r/\(r=true->v=u/\x=y)) (es:List (D×V)) (q:List MapEntry) (i:Nat) (y:V) (hm:zsi s es q) (h:zf1 x es=some (some y)):
   ∃j en,zho same q i=some (some (i+j,en.val))/\q[j]? =some en/\en.key=v/\VR s y en.val:=by
 rcases hm with hm|⟨hdk,hn,q',hp,hm⟩
 ·exact ye6 hd es q i y hm h
 ·rcases zwr hd es q' _ hdk hm h with⟨g1,_⟩|⟨y',en,g1,g2,g3,g4,g5,g6⟩
  ·cases g1
  ·obtain rfl:=Option.some.inj g1
   obtain⟨j,k1,k2⟩:=zr1 g4 q i (fun e he=>g6 e (hp.mem_iff.2 he)) hn en (hp.mem_iff.1 g2) g3
   exact⟨j,en,k1,k2,g3,g5⟩
theorem yd2 [Clk] (hs:Sim oc gl s) (he:zcc s e A.tmps) {kk:KK} {zero:D} {x key:Opd} {t:TypeId} {a b:Operand} (ho:o.op= .mapEntry t a b) (okx:okX gl a x=true) (okk:okX gl b key=true)
  {kt vt:TypeId} (hmt:ym4 P t=some (kt,vt)) (hkk:kkP P kt kk=true) {z:Value} (hzz:(P.info? vt).bind (·.zero)=some z) (hz:ziz zero z=true)
  {i:Id} {kd:D} {es:List (D×V)} (hx:x.ev e= .mp i) (hk:key.ev e= .d kd) (hl:look s.m i=some (.map es)) (hkey:zhp kk kd=true) {r:Option V} (hf:zf1 kd es=some r) {es1:List (D×V)} (h1:r=none->zqi kd (.d zero) es=some es1):
  ∃(s1:S) (v0:Value) (st bm:Nat),(execOp A.eval o).run P s.w= .ok (.value (.tuple #[v0,goInt st])) s1.w/\Sim oc gl s1/\Ext (fun _=>True) s s1/\s1.m=(if r.isSome then s.m else upd s.m i (.map es1))/\
   A.eval a= .map (some bm)/\ys5 P s1.w kt bm (A.eval b) st:=by
 have hu:=z7m hmt
 have hv1:=za1 hs he okx
 have hv2:=za1 hs he okk
 rw [hx] at hv1
 rw [hk] at hv2
 obtain⟨bm,ces,clock,hp,hh,hm,hst⟩:=hs.objs i _ hl
 have hxa:A.eval a= .map (some bm):=by
  have:=hv1.2
  rw [hl] at this
  exact this.trans hp
 obtain⟨same,hsame,hfind,hck⟩:=zwv hkk hkey hv2
 obtain⟨info,hinfo,hiz⟩:∃i,P.info? vt=some i/\i.zero=some z:=by
  simpa only [Option.bind_eq_some_iff] using hzz
 have hzr:∀w,(zeroValue vt).run P w= .ok z w:=fun w=>by simp [zeroValue,typeInfo,hinfo,hiz]
 have hzd:VR s (.d zero) z:=zrw _ _ _ _ hz
 cases r with
 | none=>
  have hset:=h1 rfl
  rcases z64 hsame es ces.toList 0 none hm hf with⟨_,hfn⟩|⟨y,j,u,hc,_,_⟩
  case inr=>cases hc
  rcases yl5 hkey hv2 hsame (.d zero) z hzd es ces.toList 0 es1 hm hset with⟨k1,k2,k4⟩|⟨j,old,k1,k2,k3⟩
  case inr=>rw [hfn] at k1;cases k1
  have hlt:bm<s.w.heap.size:=(Array.getElem?_eq_some_iff.1 hh).1
  have hst1:=hst.push (u:=z) k4
  have hm1:zsi s es1 (ces.push {key:=A.eval b,val:=z,born:=clock}).toList:=by simpa using k2 clock
  obtain⟨q1,q2⟩:=zsx hs i (.map es) (.map es1) hl (by simp) bm (.map (some bm)) hp rfl _ (.map (ces.push {key:=A.eval b,val:=z,born:=clock}) (clock+1)) hh rfl rfl rfl
   (fun hE=>⟨bm,_,clock+1,rfl,by simp [hlt],zsi.ext hE es1 _ hm1,hst1⟩)
  refine⟨_,z,clock,bm,?_,q1,q2,rfl,hxa,?_⟩
  ·have hfk:=hfind _ _ k1
   simp [execOp,ho,Instr.mapEntry,run_underlying hu,hxa,MapKept.run_getObj_map hh,hck,hfk,hzr,MapKept.run_setObj_map _ hh]
  ·refine⟨_,clock+1,ces.size,{key:=A.eval b,val:=z,born:=clock},by simp [hlt],by simp,rfl,rfl,hst1.2.1,?_⟩
   have hv2':=VR.ext q2 (.d kd) _ (fun _ _=>trivial) hv2
   obtain⟨same1,hsame1,hfind1,_⟩:=zwv hkk hkey hv2'
   have hm':=zsi.ext q2 es _ hm
   rcases z64 hsame1 es ces.toList 0 none hm' hf with⟨_,hfn1⟩|⟨y,j,u,hc,_,_⟩
   case inr=>cases hc
   have:=z5f (u:=z) (b:=clock) (hsame1 kd (A.eval b) true hv2' (z1z hkey)).1 ces.toList 0 hfn1
   rw [Nat.zero_add,Array.length_toList] at this
   refine hfind1 _ _ ?_
   rw [Array.toList_push]
   exact this
 | some y=>
  obtain⟨j,en,k1,k2,k3,k4⟩:=ynz hsame es ces.toList 0 y hm hf
  rw [Nat.zero_add] at k1
  have hfk:=hfind _ _ k1
  have hold:((ces[j]?).map (·.key)).getD (A.eval b)=A.eval b:=by
   rw [<-Array.getElem?_toList,k2];exact k3
  have hborn:((ces[j]?).map (fun x=>(x.born:Int))).getD 0=(en.born:Int):=by
   rw [<-Array.getElem?_toList,k2];rfl
  have hmod:ces.modify j (fun e=>{e with key:=A.eval b})=ces:=ycv k2 (by rw [<-k3])
  refine⟨s,en.val,en.born,bm,?_,hs,Ext.refl _ _,rfl,hxa,ces,clock,j,en,hh,k2,k3,rfl,hst.2.1,hfk⟩
  simp [execOp,ho,Instr.mapEntry,run_underlying hu,hxa,MapKept.run_getObj_map hh,hck,hfk,Instr.keyThatStays,hold,zsc hkey hv2,MapKept.run_setObj_map _ hh,hmod,hborn,yl6 hh]
theorem zz4 [Clk] (hs:Sim oc gl s) (he:zcc s e A.tmps) {kk:KK} {x key y:Opd} {m2:Mem} {t:TypeId} {a b c u:Operand} (ho:o.op= .entryStore t a u c) (ok:zn7 P gl {o with op:= .mapUpdate t a b c} kk x key y=true)
  (hm:zh2 kk s.m (x.ev e) (key.ev e) (y.ev e)=some m2) {kt vt:TypeId} (hmt:ym4 P t=some (kt,vt)) {bm st:Nat} (ha:A.eval a= .map (some bm)) (hu':A.eval u=goInt st) (hE:ys5 P s.w kt bm (A.eval b) st):z8x P oc gl s A o m2:=by
 obtain⟨s',hr,q1,q2,q3⟩:=zy4 hs he ok hm
 refine⟨s',?_,q1,q2,q3⟩
 rw [<-hr]
 have hu:=z7m hmt
 obtain⟨ces,clock,j,e0,hh,h1,h2,h3,h4,h5⟩:=hE
 obtain⟨kd,hkd,hkey,hkk⟩:∃kd,key.ev e= .d kd/\zhp kk kd=true/\kkP P kt kk=true:=by
  unfold zn7 at ok
  simp only [Bool.and_eq_true,hmt] at ok
  unfold zh2 at hm
  split at hm<;>try cases hm
  rename_i i kd _ hk
  split at hm<;>try cases hm
  split at hm<;>try cases hm
  rename_i hc
  simp only [Bool.and_eq_true] at hc
  exact⟨kd,hk,hc.1,ok.2⟩
 have okk:okX gl b key=true:=by
  unfold zn7 at ok
  simp only [Bool.and_eq_true] at ok
  exact ok.1.1.2
 have hv2:=za1 hs he okk
 rw [hkd] at hv2
 obtain⟨same,_,_,hck⟩:=zwv hkk hkey hv2
 have hold:((ces[j]?).map (·.key)).getD (A.eval b)=A.eval b:=by
  rw [<-Array.getElem?_toList,h1];exact h2
 have hidx:ces.findIdx? (fun e=>((e.born:Nat):Int)==(st:Int))=some j:=by
  have:ces.findIdx? (fun e=>((e.born:Nat):Int)==(st:Int))=ces.toList.findIdx? (fun e=>((e.born:Nat):Int)==(st:Int)):=by cases ces;simp
  rw [this,<-h3]
  exact z9s h4 h1
 have hmod:ces.modify j (fun e=>{e with val:=A.eval c})=ces.modify j (fun e=>{e with key:=A.eval b,val:=A.eval c}):=z97 h1 (by rw [<-h2])
 have e1:(execOp A.eval o).run P s.w= .ok .skip {s.w with heap:=s.w.heap.setIfInBounds bm (.map (ces.modify j fun e=>{e with key:=A.eval b,val:=A.eval c}) clock)}:=by
  simp [execOp,ho,Instr.entryStore,ha,hu',MapKept.run_getObj_map hh,asInt,asIntOf,goInt,hidx,hmod,MapKept.run_setObj_map _ hh]
 have e2:(execOp A.eval {o with op:= .mapUpdate t a b c}).run P s.w= .ok .skip {s.w with heap:=s.w.heap.setIfInBounds bm (.map (ces.modify j fun e=>{e with key:=A.eval b,val:=A.eval c}) clock)}:=by
  simp [execOp,Instr.mapUpdate,run_underlying hu,ha,MapKept.run_getObj_map hh,hck,h5,Instr.keyThatStays,hold,zsc hkey hv2,MapKept.run_setObj_map _ hh]
 rw [e1,e2]
end
def z8c:Opd->Nat->Bool
 | .t a,x=>a==x
 | _,_=>false
def yki (kk:KK) (zero:D) (x key:Nat):COp->Bool
 | .mv _=>true
 | .bin .. =>true
 | .lookup k z c a b=>decide (k=kk)&&zi9 z zero&& !c&&z8c a x&&z8c b key
 | _=>false
def zll (o:Oper) (j:Nat):Bool:=o.after.toList.any fun e=>Region.binds .any e&&e.on==j
def zjf (o:Oper) (i:Nat):Bool:=o.after.toList.all fun e=> !Region.binds .any e||decide (e.on<i)
def yov (P:Program) (gl:Globs) (nt:Nat) (pre:List CO) (d1 d2:Nat) (i:Nat) (c:CO) (o:Oper):Bool:=
 c.guard.isNone&&o.guard.isNone&&c.dst==o.dst&&(match c.dst with|some t=>decide (t<nt)&&t !=d1&&t !=d2|none=>false)&&zyn c.op&&ym6 P gl o c.op&&zjf o i&&
 (reads c.op).all (fun t=>t !=d1&&t !=d2)&&
 (List.range pre.length).all fun j=>match pre[j]? with
  | some d=>(i==j||d.dst !=c.dst)&&(match d.dst with|some t=> !(reads c.op).elem t||(decide (j<i)&&zll o j)|none=>false)
  | none=>false
def okE (P:Program) (gl:Globs) (nt:Nat) (os:Array Oper) (pre:List CO) (kk:KK) (zero:D) (x key y:Nat):Bool:=
 os.size==pre.length+3&&
 match os[pre.length]?,os[pre.length+1]?,os[pre.length+2]? with
 | some o1,some o2,some o3=>
  (match o1.op,o1.dst,o2.op,o2.dst,o3.op,o3.dst with
  | .mapEntry t (.tmp a) (.tmp b),some d1,.extract (.tmp u) 1,some d2,.entryStore t' (.tmp a') (.tmp u') (.tmp c),none=>
   a==x&&b==key&&u==d1&&t'==t&&a'==x&&u'==d2&&c==y&&decide (d1<nt)&&decide (d2<nt)&&d1 !=d2&&x !=d1&&x !=d2&&key !=d1&&key !=d2&&y !=d1&&y !=d2&&
   (match ym4 P t with
   | some (kt,vt)=>kkP P kt kk&&(match (P.info? vt).bind (·.zero) with|some z=>ziz zero z|none=>false)
   | none=>false)&&
   (List.range pre.length).all fun i=>match pre[i]?,os[i]? with
    | some c,some o=>yov P gl nt pre d1 d2 i c o&&(zll o1 i||(yki kk zero x key c.op&&c.dst !=some x&&c.dst !=some key))&&zll o3 i
    | _,_=>false
  | _,_,_,_,_,_=>false)&&
  o1.guard.isNone&&o2.guard.isNone&&o3.guard.isNone&&zjf o1 pre.length&&zjf o2 (pre.length+1)&&zjf o3 (pre.length+2)&&zll o2 pre.length&&zll o3 pre.length&&zll o3 (pre.length+1)
 | _,_,_=>false
theorem z9l {o:Oper} {j:Nat} (h:zll o j=true):∃e∈o.after,Region.binds .any e=true/\e.on=j:=by
 unfold zll at h
 rw [List.any_eq_true] at h
 obtain⟨e,he,h⟩:=h
 simp only [Bool.and_eq_true,beq_iff_eq] at h
 exact⟨e,Array.mem_toList_iff.1 he,h.1,h.2⟩
theorem ycd {o:Oper} {i:Nat} (h:zjf o i=true):∀e∈o.after,Region.binds .any e=true->e.on<i:=by
 unfold zjf at h
 rw [List.all_eq_true] at h
 intro e he hb
 have:=h e (Array.mem_toList_iff.2 he)
 rw [hb] at this
 simpa using this
theorem ylc {F:Oracle} {cx:Cx} {slot:Nat} {e:Env} {m m':Mem} {op:COp} {v:V} (hp:zyn op=true) (h:zca F cx slot e m op=some (v,m')):m'=m:=by
 cases op<;>simp only [zyn,Bool.false_eq_true] at hp<;>simp only [zca] at h
 case mv x=>
  simp only [Option.some.injEq,Prod.mk.injEq] at h;exact h.2.symm
 case nilCheck x=>
  split at h
  ·simp only [Option.some.injEq,Prod.mk.injEq] at h;exact h.2.symm
  ·split at h
   ·simp only [Option.some.injEq,Prod.mk.injEq] at h;exact h.2.symm
   ·cases h
 all_goals
  simp only [Option.map_eq_some_iff,Prod.mk.injEq] at h
  obtain⟨_,_,_,rfl⟩:=h
  rfl
theorem yav {kk:KK} {kd:D} (hkey:zhp kk kd=true) {y:V}:∀(es es1:List (D×V)),zf1 kd es=some none->zqi kd y es=some es1->zf1 kd es1=some (some y)
 | [],es1,_,h=>by
  simp only [zqi,Option.some.injEq] at h
  subst h
  simp [zf1,z1z hkey]
 | (k,z)::es,es1,hf,h=>by
  simp only [zf1] at hf
  simp only [zqi] at h
  split at hf
  ·cases hf
  ·rename_i he
   rw [he] at h
   simp only [Option.map_eq_some_iff] at h
   obtain⟨e2,h2,rfl⟩:=h
   simp only [zf1,he]
   exact yav hkey es e2 hf h2
  ·cases hf
theorem z6f {kk:KK} {kd:D} (hkey:zhp kk kd=true) {y z:V}:∀(es es1:List (D×V)),zf1 kd es=some none->zqi kd z es=some es1->zqi kd y es1=zqi kd y es
 | [],es1,_,h=>by
  simp only [zqi,Option.some.injEq] at h
  subst h
  simp [zqi,z1z hkey]
 | (k,w)::es,es1,hf,h=>by
  simp only [zf1] at hf
  simp only [zqi] at h
  split at hf
  ·cases hf
  ·rename_i he
   rw [he] at h
   simp only [Option.map_eq_some_iff] at h
   obtain⟨e2,h2,rfl⟩:=h
   simp only [zqi,he]
   rw [z6f hkey es e2 hf h2]
  ·cases hf
theorem yax {kd:D} {y z:V}:∀(es es1:List (D×V)),zqi kd y es=some es1->∃es2,zqi kd z es=some es2
 | [],_,_=>⟨_,rfl⟩
 | (k,w)::es,es1,h=>by
  simp only [zqi] at h ⊢
  split at h
  ·exact⟨_,rfl⟩
  ·simp only [Option.map_eq_some_iff] at h
   obtain⟨e2,h2,_⟩:=h
   obtain⟨e3,h3⟩:=yax es e2 h2
   exact⟨_,by rw [h3];rfl⟩
  ·cases h
theorem z6e {kd:D} {y:V}:∀(es es1:List (D×V)),zqi kd y es=some es1->∃r,zf1 kd es=some r
 | [],_,_=>⟨_,rfl⟩
 | (k,w)::es,es1,h=>by
  simp only [zqi] at h
  simp only [zf1]
  split at h
  ·exact⟨_,rfl⟩
  ·simp only [Option.map_eq_some_iff] at h
   obtain⟨e2,h2,_⟩:=h
   exact z6e es e2 h2
  ·cases h
theorem z6d:∀ {a:Opd} {x:Nat},z8c a x=true->a= .t x
 | .t a,x,h=>by
  simp only [z8c,beq_iff_eq] at h
  rw [h]
structure EOk (P:Program) (gl:Globs) (nt:Nat) (os:Array Oper) (pre:List CO) (kk:KK) (zero:D) (x key y d1 d2:Nat) (t kt vt:TypeId) (z:Value) (o1 o2 o3:Oper):Prop where
 size:os.size=pre.length+3
 at1:os[pre.length]? =some o1
 at2:os[pre.length+1]? =some o2
 at3:os[pre.length+2]? =some o3
 op1:o1.op= .mapEntry t (.tmp x) (.tmp key)
 op2:o2.op= .extract (.tmp d1) 1
 op3:o3.op= .entryStore t (.tmp x) (.tmp d2) (.tmp y)
 dst1:o1.dst=some d1
 dst2:o2.dst=some d2
 dst3:o3.dst=none
 g1:o1.guard=none
 g2:o2.guard=none
 g3:o3.guard=none
 lt1:d1<nt
 lt2:d2<nt
 ne:d1≠d2/\x≠d1/\x≠d2/\key≠d1/\key≠d2/\y≠d1/\y≠d2
 mapT:ym4 P t=some (kt,vt)
 kkT:kkP P kt kk=true
 zT:(P.info? vt).bind (·.zero)=some z
 zC:ziz zero z=true
 all:∀i c,pre[i]? =some c->∃o,os[i]? =some o/\yov P gl nt pre d1 d2 i c o=true/\(zll o1 i=true\/(yki kk zero x key c.op=true/\c.dst≠some x/\c.dst≠some key))/\zll o3 i=true
 low1:zjf o1 pre.length=true
 low2:zjf o2 (pre.length+1)=true
 low3:zjf o3 (pre.length+2)=true
 e21:zll o2 pre.length=true
 e31:zll o3 pre.length=true
 e32:zll o3 (pre.length+1)=true
theorem yts {P:Program} {gl:Globs} {nt:Nat} {os:Array Oper} {pre:List CO} {kk:KK} {zero:D} {x key y:Nat} (h:okE P gl nt os pre kk zero x key y=true):
  ∃d1 d2 t kt vt z o1 o2 o3,EOk P gl nt os pre kk zero x key y d1 d2 t kt vt z o1 o2 o3:=by
 unfold okE at h
 simp only [Bool.and_eq_true,beq_iff_eq] at h
 obtain⟨hsz,h⟩:=h
 split at h
 case h_2=>cases h
 rename_i o1 o2 o3 h1 h2 h3
 simp only [Bool.and_eq_true] at h
 obtain⟨⟨⟨⟨⟨⟨⟨⟨⟨h,g1⟩,g2⟩,g3⟩,l1⟩,l2⟩,l3⟩,e1⟩,e2⟩,e3⟩:=h
 split at h
 case h_2=>cases h
 rename_i t a b d1 u d2 t' a' u' c p1 q1 p2 q2 p3 q3
 simp only [Bool.and_eq_true,beq_iff_eq,decide_eq_true_eq,bne_iff_ne] at h
 obtain⟨⟨⟨⟨⟨⟨⟨⟨⟨⟨⟨⟨⟨⟨⟨⟨⟨rfl,rfl⟩,rfl⟩,rfl⟩,rfl⟩,rfl⟩,rfl⟩,k1⟩,k2⟩,k3⟩,k4⟩,k5⟩,k6⟩,k7⟩,k8⟩,k9⟩,hty⟩,hpre⟩:=h
 split at hty<;>try cases hty
 rename_i kt vt hmt
 simp only [Bool.and_eq_true] at hty
 obtain⟨hkk,hz⟩:=hty
 split at hz<;>try cases hz
 rename_i z hzz
 refine⟨_,_,_,_,_,_,_,_,_,hsz,h1,h2,h3,p1,p2,p3,q1,q2,q3,Option.isNone_iff_eq_none.1 g1,Option.isNone_iff_eq_none.1 g2,Option.isNone_iff_eq_none.1 g3,k1,k2,⟨k3,k4,k5,k6,k7,k8,k9⟩,hmt,hkk,hzz,hz,fun i c hc=> ?_,l1,l2,l3,e1,e2,e3⟩
 rw [List.all_eq_true] at hpre
 have hi:i<pre.length:=(List.getElem?_eq_some_iff.1 hc).1
 have:=hpre i (List.mem_range.2 hi)
 rw [hc] at this
 cases ho:os[i]? with
 | none=>rw [ho] at this;cases this
 | some o=>
  rw [ho] at this
  simp only [Bool.and_eq_true,Bool.or_eq_true,bne_iff_ne] at this
  obtain⟨⟨w1,w2⟩,w3⟩:=this
  refine⟨o,rfl,w1,?_,w3⟩
  rcases w2 with w2|w2
  ·exact .inl w2
  ·exact .inr ⟨w2.1.1,w2.1.2,w2.2⟩
theorem zsu {P:Program} {gl:Globs} {nt:Nat} {pre:List CO} {d1 d2 i:Nat} {c:CO} {o:Oper} (h:yov P gl nt pre d1 d2 i c o=true):
  c.guard=none/\o.guard=none/\(∃t,c.dst=some t/\o.dst=some t/\t<nt/\t≠d1/\t≠d2)/\zyn c.op=true/\ym6 P gl o c.op=true/\zjf o i=true/\(∀t∈reads c.op,t≠d1/\t≠d2)/\
   ∀j d t,pre[j]? =some d->d.dst=some t->(j≠i->c.dst≠some t)/\(t∈reads c.op->j<i/\zll o j=true):=by
 unfold yov at h
 simp only [Bool.and_eq_true,beq_iff_eq] at h
 obtain⟨⟨⟨⟨⟨⟨⟨⟨h1,h2⟩,h3⟩,h4⟩,h5⟩,h6⟩,h7⟩,h8⟩,h9⟩:=h
 split at h4
 case h_2=>cases h4
 rename_i t ht
 simp only [Bool.and_eq_true,decide_eq_true_eq,bne_iff_ne] at h4
 refine⟨Option.isNone_iff_eq_none.1 h1,Option.isNone_iff_eq_none.1 h2,⟨t,ht,h3▸ht,h4.1.1,h4.1.2,h4.2⟩,h5,h6,h7,fun u hu=> ?_,fun j d u hj hu=> ?_⟩
 ·rw [List.all_eq_true] at h8
  have:=h8 u hu
  simpa using this
 ·rw [List.all_eq_true] at h9
  have:=h9 j (List.mem_range.2 (List.getElem?_eq_some_iff.1 hj).1)
  rw [hj] at this
  simp only [Bool.and_eq_true,Bool.or_eq_true,beq_iff_eq,bne_iff_ne] at this
  obtain⟨w1,w2⟩:=this
  rw [hu] at w1 w2
  refine⟨fun hji e=> ?_,fun hm=> ?_⟩
  ·rcases w1 with w1|w1
   ·exact hji w1.symm
   ·exact w1 e.symm
  ·simp only [Bool.or_eq_true,Bool.not_eq_true',Bool.and_eq_true,decide_eq_true_eq,List.elem_eq_mem,decide_eq_false_iff_not] at w2
   exact w2.resolve_left fun hn=>hn hm
theorem ybd:∀(m:Mem) (i:Id) (a b:Ob),upd (upd m i a) i b=upd m i b
 | [],i,a,b=>by simp [upd]
 | (j,o)::r,i,a,b=>by
  by_cases e:j=i
  ·simp [upd,e]
  ·simp [upd,e,ybd r i a b]
structure yuw [Clk] (P:Program) (oc:zdj) (gl:Globs) (os:Array Oper) (pre:List CO) (W:Nat->V) (e:Env) (kt:TypeId) (x key d1 d2:Nat) (m m1 m2:Mem) (s0:S) (A0:Act) (listed:Array Bool) (A:Act) (s:S):Prop where
 size:listed.size=os.size
 sim:Sim oc gl s
 ext:Ext (fun _=>True) s0 s
 tmps:A.tmps.size=A0.tmps.size/\A.defers=A0.defers
 env1:∀(i:Nat) (c:CO) (t:Nat),pre[i]? =some c->listed.getD i false=true->c.dst=some t->VR s (W i) (A.tmps.getD t undef)
 env2:∀t,t≠d1->t≠d2->(∀(i:Nat) (c:CO),pre[i]? =some c->listed.getD i false=true->c.dst≠some t)->VR s (get e t) (A.tmps.getD t undef)
 closed:∀j o ed,os[j]? =some o->listed.getD j false=true->ed∈o.after->Region.binds .any ed=true->listed.getD ed.on false=true
 ph:(listed.getD pre.length false=false/\s.m=m)\/
  (listed.getD pre.length false=true/\listed.getD (pre.length+2) false=false/\s.m=m1/\∃(st bm:Nat) (v0:Value),A.tmps.getD d1 undef= .tuple #[v0,goInt st]/\(listed.getD (pre.length+1) false=true->A.tmps.getD d2 undef=goInt st)/\
   A.tmps.getD x undef= .map (some bm)/\ys5 P s.w kt bm (A.tmps.getD key undef) st)\/
  (listed.getD (pre.length+2) false=true/\s.m=m2)
section
variable {P : Program} {oc : zdj} {gl : Globs}
theorem yhc [Clk] {F:Oracle} (r:Option Nat) (cx:Cx) {nt:Nat} {os:Array Oper} {pre:List CO} {kk:KK} {zero:D} {x key y d1 d2:Nat} {t kt vt:TypeId} {z:Value} {o1 o2 o3:Oper} (hk:EOk P gl nt os pre kk zero x key y d1 d2 t kt vt z o1 o2 o3)
  {E:Nat->Env} {M:Nat->Mem} {W:Nat->V} (hT:z0z F cx pre E M W) {m m1 m2:Mem} (hM:∀i,i<=pre.length->M i=m)
  {i0:Id} {kd:D} {es es1 es2:List (D×V)} {vy:V} {rr:Option V} (hx:get (E pre.length) x= .mp i0) (hkey:get (E pre.length) key= .d kd) (hy:get (E pre.length) y=vy) (hl:look m i0=some (.map es)) (hik:zhp kk kd=true) (hcy:(cellsOf vy).isSome=true)
  (hf:zf1 kd es=some rr) (hs1:zqi kd (.d zero) es=some es1) (hs2:zqi kd vy es=some es2) (hm1:m1=(if rr.isSome then m else upd m i0 (.map es1))) (hm2:m2=upd m i0 (.map es2))
  {s0:S} {A0:Act} (hnt:nt<=A0.tmps.size) {Q:Exit->Act->World->Prop}
  (hQ:∀s' A',Sim oc gl s'->Ext (fun _=>True) s0 s'->s'.m=m2->(∀u,u≠d1->u≠d2->VR s' (get (E pre.length) u) (A'.tmps.getD u undef))->A'.tmps.size=A0.tmps.size->A'.defers=A0.defers->Q .normal A' s'.w):
  ∀(fuel:Nat) (listed:Array Bool) (A:Act) (s:S),listed.toList.countP (fun b=> !b)<=fuel->yuw P oc gl os pre W (E 0) kt x key d1 d2 m m1 m2 s0 A0 listed A s->wpAnyIn (fen r) 0 P .any os Q fuel listed A s.w:=by
 have uniq:∀(i j:Nat) (c d:CO) (u:Nat),pre[i]? =some c->pre[j]? =some d->c.dst=some u->d.dst=some u->i=j:=by
  intro i j c d u hc hd h1 h2
  obtain⟨o,_,ho,_⟩:=hk.all i c hc
  obtain⟨_,_,_,_,_,_,_,h9⟩:=zsu ho
  by_cases e:j=i
  ·exact e.symm
  ·exact absurd h1 ((h9 j d u hd h2).1 e)
 -- what stands in a temporary whose writer has been run
 have valAt:∀ {listed:Array Bool} {A:Act} {s:S},yuw P oc gl os pre W (E 0) kt x key d1 d2 m m1 m2 s0 A0 listed A s->∀u,u≠d1->u≠d2->(∀(j:Nat) (c:CO),pre[j]? =some c->c.dst=some u->listed.getD j false=true)->VR s (get (E pre.length) u) (A.tmps.getD u undef):=by
  intro listed A s hI u h1 h2 hw
  by_cases hex:∃(j:Nat) (c:CO),pre[j]? =some c/\c.dst=some u
  ·obtain⟨j,c,hc,hu⟩:=hex
   rw [hT.wrote hc hu (fun k d hd hku=>uniq k j d c u hd hc hku hu) (List.getElem?_eq_some_iff.1 hc).1 (Nat.le_refl _)]
   exact hI.env1 j c u hc (hw j c hc hu) hu
  ·rw [hT.same u 0 pre.length (Nat.zero_le _) (Nat.le_refl _) fun k c _ _ hc he=>hex ⟨k,c,hc,he⟩]
   exact hI.env2 u h1 h2 fun j c hc _ he=>hex ⟨j,c,hc,he⟩
 have alldone:∀(listed:Array Bool) (A:Act) (s:S),yuw P oc gl os pre W (E 0) kt x key d1 d2 m m1 m2 s0 A0 listed A s->Region.ready .any os listed=[]->Q .normal A s.w:=by
  intro listed A s hI hr
  have all:∀i,i<pre.length+3->listed.getD i false=true:=by
   intro i
   induction i using Nat.strongRecOn with
   | ind i ih=>
    intro hi
    cases hl:listed.getD i false with
    | true=>rfl
    | false=>
     obtain⟨o,ho⟩:∃o,os[i]? =some o:=⟨_,Array.getElem?_eq_getElem (by rw [hk.size];exact hi)⟩
     have hlow:zjf o i=true:=by
      by_cases h1:i<pre.length
      ·obtain⟨o',ho',h2,_⟩:=hk.all i pre[i] (List.getElem?_eq_getElem h1)
       rw [ho] at ho'
       obtain rfl:=Option.some.inj ho'
       exact(zsu h2).2.2.2.2.2.1
      ·by_cases h2:i=pre.length
       ·subst h2;rw [hk.at1] at ho;obtain rfl:=Option.some.inj ho;exact hk.low1
       ·by_cases h3:i=pre.length+1
        ·subst h3;rw [hk.at2] at ho;obtain rfl:=Option.some.inj ho;exact hk.low2
        ·obtain rfl:i=pre.length+2:=by omega
         rw [hk.at3] at ho;obtain rfl:=Option.some.inj ho;exact hk.low3
     have:i∈Region.ready .any os listed:=by
      refine mem_ready.2 ⟨?_,o,ho,fun ed he hb=> ?_⟩
      ·have hlt:i<listed.size:=by rw [hI.size,hk.size];exact hi
       rw [Array.getD_eq_getD_getElem?] at hl ⊢
       simp [hlt] at hl ⊢;exact hl
      ·have hlt:=ycd hlow ed he hb
       exact ih ed.on hlt (by omega)
     rw [hr] at this
     cases this
  have h3:=all (pre.length+2) (by omega)
  rcases hI.ph with⟨h,_⟩|⟨_,h,_⟩|⟨_,hm⟩
  ·rw [all _ (by omega)] at h;cases h
  ·rw [h3] at h;cases h
  ·exact hQ s A hI.sim hI.ext hm (fun u h1 h2=>valAt hI u h1 h2 fun j c hc _=>all j (by have:=(List.getElem?_eq_some_iff.1 hc).1;omega)) hI.tmps.1 hI.tmps.2
 intro fuel
 induction fuel with
 | zero=>
  intro listed A s hcount hI
  have hr:Region.ready .any os listed=[]:=by
   cases hr:Region.ready .any os listed with
   | nil=>rfl
   | cons i q=>
    have hi:i∈Region.ready .any os listed:=by rw [hr];simp
    have h0:=(mem_ready.1 hi).1
    have hlt:i<listed.size:=by
     rcases Nat.lt_or_ge i listed.size with h'|h'
     ·exact h'
     ·rw [Array.getD_eq_getD_getElem?,Array.getElem?_eq_none h'] at h0;cases h0
    have hf:listed[i]=false:=by rw [Array.getD_eq_getD_getElem?] at h0;simpa [hlt] using h0
    have:0<listed.toList.countP (fun b=> !b):=List.countP_pos_iff.2 ⟨listed[i],by simp,by simp [hf]⟩
    omega
  exact⟨hr,alldone listed A s hI hr⟩
 | succ fuel ih=>
  intro listed A s hcount hI
  refine⟨fun hr=>alldone listed A s hI hr,fun i hi=> ?_⟩
  obtain⟨h0,o,ho,hedges⟩:=mem_ready.1 hi
  have hio:i<os.size:=(Array.getElem?_eq_some_iff.1 ho).1
  have hlt:i<listed.size:=by rw [hI.size];exact hio
  have hfl:listed[i]=false:=by rw [Array.getD_eq_getD_getElem?] at h0;simpa [hlt] using h0
  have hnl:listed.getD i false=false:=by rw [Array.getD_eq_getD_getElem?];simp [hlt,hfl]
  have hcnt:(listed.setIfInBounds i true).toList.countP (fun b=> !b)<=fuel:=by
   rw [Array.toList_setIfInBounds,List.countP_set (by simpa using hlt)]
   have hpos:0<listed.toList.countP (fun b=> !b):=List.countP_pos_iff.2 ⟨listed[i],by simp,by simp [hfl]⟩
   simp only [Array.getElem_toList,hfl,Bool.not_false,Bool.not_true,if_true,Bool.false_eq_true,if_false]
   omega
  have hset:∀j,(listed.setIfInBounds i true).getD j false=(decide (i=j)||listed.getD j false):=fun j=>zp8 hlt
  have hclosed:∀j o' ed,os[j]? =some o'->(listed.setIfInBounds i true).getD j false=true->ed∈o'.after->Region.binds .any ed=true->(listed.setIfInBounds i true).getD ed.on false=true:=by
   intro j o' ed hj hp he hb
   simp only [hset,Bool.or_eq_true,decide_eq_true_eq] at hp ⊢
   rcases hp with rfl|hp
   ·rw [ho] at hj
    obtain rfl:=Option.some.inj hj
    exact .inr (hedges ed he hb)
   ·exact .inr (hI.closed j o' ed hj hp he hb)
  have edge:∀j,zll o j=true->listed.getD j false=true:=fun j h=>by
   obtain⟨ed,h1,h2,h3⟩:=z9l h
   rw [<-h3];exact hedges ed h1 h2
  have edgeOf:∀(k:Nat) (o':Oper),os[k]? =some o'->listed.getD k false=true->∀j,zll o' j=true->listed.getD j false=true:=fun k o' hk' hlk j h=>by
   obtain⟨ed,h1,h2,h3⟩:=z9l h
   rw [<-h3];exact hI.closed k o' ed hk' hlk h1 h2
  have go:∀ {n:Next} {w':World} {K:Act->World->Prop},o.guard=none->(execOp A.eval o).run P s.w= .ok n w'->((∃xv,n= .value xv/\K (A.put o.dst xv) w')\/(n= .skip/\K (A.put o.dst undef) w'))->wpOpIn (fen r) 0 P os Q i K A s.w:=by
   intro n w' K hg hr hn
   unfold wpOpIn
   simp only [ho,Region.wanted,hg,if_true]
   refine⟨fun _ _=>trivial,?_⟩
   rcases hn with⟨xv,rfl,hK⟩|⟨rfl,hK⟩
   ·rw [Oper.semAt_eq _ _ _ (zr7 hr (by simp)),hr]
    exact hK
   ·rw [Oper.semAt_eq _ _ _ (zr7 hr (by simp)),hr]
    exact hK
  have hn0:i≠pre.length->(listed.setIfInBounds i true).getD pre.length false=listed.getD pre.length false:=fun h=>by rw [hset,decide_eq_false h,Bool.false_or]
  have hn1:i≠pre.length+1->(listed.setIfInBounds i true).getD (pre.length+1) false=listed.getD (pre.length+1) false:=fun h=>by rw [hset,decide_eq_false h,Bool.false_or]
  have hn2:i≠pre.length+2->(listed.setIfInBounds i true).getD (pre.length+2) false=listed.getD (pre.length+2) false:=fun h=>by rw [hset,decide_eq_false h,Bool.false_or]
  have hsz:(listed.setIfInBounds i true).size=os.size:=by rw [Array.size_setIfInBounds];exact hI.size
  -- a value put into a temporary that nobody else writes
  by_cases hip:i<pre.length
  ·--a plain operation
   have hc:pre[i]? =some pre[i]:=List.getElem?_eq_getElem hip
   generalize pre[i]=c at hc
   obtain⟨o',ho',hp,hlate,he3⟩:=hk.all i c hc
   rw [ho] at ho'
   obtain rfl:=Option.some.inj ho'
   obtain⟨p1,p2,⟨u,p3,p4,p5,p6,p7⟩,p8,p9,p10,p11,p12⟩:=zsu hp
   let e1:Env:=(E i).filter fun p=>(reads c.op).elem p.1
   have hread:∀t∈reads c.op,get e1 t=get (E i) t:=by
    intro t ht
    have:∀(l:Env),get (l.filter fun p=>(reads c.op).elem p.1) t=get l t:=by
     intro l
     induction l with
     | nil=>rfl
     | cons p l ihl=>
      obtain⟨u,v⟩:=p
      rw [List.filter_cons]
      split
      ·simp only [get];rw [ihl]
      ·rename_i hu
       have hne:u≠t:=fun e=>hu (by subst e;simpa using ht)
       simp only [get,hne,if_false];exact ihl
    exact this _
   have hnread:∀t,t∉reads c.op->get e1 t= .undef:=by
    intro t ht
    have:∀(l:Env),get (l.filter fun p=>(reads c.op).elem p.1) t= .undef:=by
     intro l
     induction l with
     | nil=>rfl
     | cons p l ihl=>
      obtain⟨u,v⟩:=p
      rw [List.filter_cons]
      split
      ·rename_i hu
       have hne:u≠t:=fun e=>ht (by subst e;simpa using hu)
       simp only [get,hne,if_false];exact ihl
      ·exact ihl
    exact this _
   have henv:zcc s e1 A.tmps:=by
    intro t
    by_cases ht:t∈reads c.op
    ·rw [hread t ht]
     by_cases hex:∃(j:Nat) (d:CO),pre[j]? =some d/\d.dst=some t
     ·obtain⟨j,d,hj,hjt⟩:=hex
      obtain⟨q1,q2⟩:=(p12 j d t hj hjt).2 ht
      rw [hT.wrote hj hjt (fun k d' hk' hkt=>uniq k j d' d t hk' hj hkt hjt) q1 (by omega)]
      exact hI.env1 j d t hj (edge j q2) hjt
     ·rw [hT.same t 0 i (Nat.zero_le _) (by omega) fun k d _ _ hk' he=>hex ⟨k,d,hk',he⟩]
      exact hI.env2 t (p11 t ht).1 (p11 t ht).2 fun j d hj _ he=>hex ⟨j,d,hj,he⟩
    ·rw [hnread t ht];trivial
   have hval:zca F cx u e1 m c.op=some (W i,m):=by
    have:=hT.val i c hc
    rw [hM i (by omega),hM (i+1) (by omega)] at this
    simp only [zdr,p1,p3,Option.getD_some] at this
    rw [zyb c.op hread]
    exact this
   have hev:zca F cx u e1 s.m c.op=some (W i,s.m):=by
    rcases hI.ph with⟨_,hm⟩|⟨hp1,_,hm,_⟩|⟨hp3,_⟩
    ·rw [hm];exact hval
    ·rw [hm]
     have hlt':=hlate.resolve_left fun he=>by
      have:=edgeOf pre.length o1 hk.at1 hp1 i he
      rw [hnl] at this;cases this
     obtain⟨hlo,_,_⟩:=hlt'
     generalize c.op=op at *
     cases op<;>simp only [yki,Bool.false_eq_true] at hlo
     case mv a=>
      simp only [zca,Option.some.injEq,Prod.mk.injEq] at hval ⊢
      exact⟨hval.1,trivial⟩
     case bin bo a b=>
      simp only [zca,Option.map_eq_some_iff,Prod.mk.injEq] at hval ⊢
      obtain⟨v,h1,h2,_⟩:=hval
      exact⟨v,h1,h2,trivial⟩
     case lookup k1 z1 c1 a b=>
      simp only [Bool.and_eq_true,decide_eq_true_eq,Bool.not_eq_true'] at hlo
      obtain⟨⟨⟨⟨rfl,hz1⟩,rfl⟩,ha⟩,hb⟩:=hlo
      obtain rfl:=zqh _ _ hz1
      obtain rfl:=z6d ha
      obtain rfl:=z6d hb
      cases hrr:rr with
      | some w=>rw [hm1,hrr];exact hval
      | none=>
       subst hrr
       simp only [Option.isSome_none,Bool.false_eq_true,if_false] at hm1
       simp only [zca,Option.map_eq_some_iff,Prod.mk.injEq] at hval ⊢
       obtain⟨v,h1,h2,_⟩:=hval
       refine⟨v,?_,h2,trivial⟩
       have hxe:(Opd.t x).ev e1= .mp i0/\(Opd.t key).ev e1= .d kd:=by
        have hra:x∈reads (.lookup k1 z1 false (.t x) (.t key)):=by simp [reads,tO]
        have hrb:key∈reads (.lookup k1 z1 false (.t x) (.t key)):=by simp [reads,tO]
        have fixed:∀q,q∈reads (.lookup k1 z1 false (.t x) (.t key))->get (E i) q=get (E pre.length) q:=by
         intro q hq
         refine(hT.same q i pre.length (by omega) (Nat.le_refl _) fun k d hk1 hk2 hk3 he=> ?_).symm
         have:=((p12 k d q hk3 he).2 hq).1
         omega
        exact⟨by show get e1 x=_;rw [hread x hra,fixed x hra,hx],by show get e1 key=_;rw [hread key hrb,fixed key hrb,hkey]⟩
       rw [hxe.1,hxe.2] at h1 ⊢
       unfold zoq at h1 ⊢
       simp only [hik,if_true,hl,hf,Option.map_some] at h1
       simp only [hik,if_true,hm1,za6,yav hik es es1 hf hs1,Option.map_some]
       rw [<-h1]
       rfl
    ·have:=edgeOf (pre.length+2) o3 hk.at3 hp3 i he3
     rw [hnl] at this;cases this
   obtain⟨_,xv,hrun,hvr⟩:=yic hI.sim henv F cx u p8 p9 hev
   refine go p2 hrun (.inl ⟨xv,rfl,?_⟩)
   have hsz':=zg2 A o.dst xv
   have hother:∀q,q≠u->(A.put o.dst xv).tmps.getD q undef=A.tmps.getD q undef:=fun q hq=>by
    rw [p4,zlj A u xv (by rw [hI.tmps.1];omega) q,if_neg (Ne.symm hq)]
   refine ih _ (A.put o.dst xv) s hcnt ⟨hsz,hI.sim,hI.ext,⟨hsz'.1.trans hI.tmps.1,hsz'.2.trans hI.tmps.2⟩,fun j d q hj hlj hq=> ?_,fun q h1 h2 hno=> ?_,hclosed,?_⟩
   ·by_cases e:q=u
    ·subst e
     obtain rfl:=uniq j i d c q hj hc hq p3
     rw [p4,zlj A q xv (by rw [hI.tmps.1];omega) q,if_pos rfl]
     rw [hc] at hj
     exact hvr
    ·rw [hother q e]
     simp only [hset,Bool.or_eq_true,decide_eq_true_eq] at hlj
     rcases hlj with rfl|hlj
     ·rw [hc] at hj
      obtain rfl:=Option.some.inj hj
      rw [p3] at hq
      exact absurd (Option.some.inj hq).symm e
     ·exact hI.env1 j d q hj hlj hq
   ·have hqu:q≠u:=fun e=>hno i c hc (by simp [hset]) (by rw [p3,e])
    rw [hother q hqu]
    exact hI.env2 q h1 h2 fun j d hj hlj=>hno j d hj (by simp [hset,hlj])
   ·rw [hn0 (by omega),hn1 (by omega),hn2 (by omega),hother d1 (Ne.symm p6),hother d2 (Ne.symm p7)]
    rcases hI.ph with h|⟨q1,q2,q3,q4⟩|h
    ·exact .inl h
    ·obtain⟨_,hx1,hx2⟩:=hlate.resolve_left fun he=>by
      have:=edgeOf pre.length o1 hk.at1 q1 i he
      rw [hnl] at this;cases this
     rw [hother x (fun e=>hx1 (by rw [p3,e])),hother key (fun e=>hx2 (by rw [p3,e]))]
     exact .inr (.inl ⟨q1,q2,q3,q4⟩)
    ·exact .inr (.inr h)
  ·obtain⟨ne1,ne2,ne3,ne4,ne5,ne6,ne7⟩:=hk.ne
   by_cases hi1:i=pre.length
   ·--the entry
    subst hi1
    rw [hk.at1] at ho
    obtain rfl:=Option.some.inj ho
    have hph:s.m=m:=by
     rcases hI.ph with⟨_,hm⟩|⟨hp1,_⟩|⟨hp3,_⟩
     ·exact hm
     ·rw [hnl] at hp1;cases hp1
     ·have:=edgeOf (pre.length+2) o3 hk.at3 hp3 _ hk.e31
      rw [hnl] at this;cases this
    have hvx:∀q,(q=x\/q=key)->VR s (get (E pre.length) q) (A.tmps.getD q undef):=fun q hq=>valAt hI q (by rcases hq with rfl|rfl<;>assumption) (by rcases hq with rfl|rfl<;>assumption) fun j c hc hu=>by
     obtain⟨_,_,_,hlate,_⟩:=hk.all j c hc
     rcases hlate with he|⟨_,h1,h2⟩
     ·exact edge j he
     ·rcases hq with rfl|rfl
      ·exact absurd hu h1
      ·exact absurd hu h2
    let ex:Env:=[(x,.mp i0),(key,.d kd)]
    have hex:zcc s ex A.tmps:=by
     intro q
     show VR s (get [(x,V.mp i0),(key,V.d kd)] q) _
     simp only [get]
     split
     ·rename_i e;subst e
      have:=hvx x (.inl rfl)
      rwa [hx] at this
     ·split
      ·rename_i e;subst e
       have:=hvx key (.inr rfl)
       rwa [hkey] at this
      ·trivial
    have hxk:x≠key:=fun e=>by rw [e,hkey] at hx;cases hx
    obtain⟨s1,v0,st,bm,hrun,q1,q2,q3,q4,q5⟩:=yd2 hI.sim hex hk.op1 (x:= .t x) (key:= .t key) (by simp [okX]) (by simp [okX]) hk.mapT hk.kkT hk.zT hk.zC (i:=i0) (kd:=kd) (es:=es) (by simp [Opd.ev,ex,get]) (by simp [Opd.ev,ex,get,hxk]) (by rw [hph];exact hl) hik hf (es1:=es1) (fun _=>hs1)
    refine go hk.g1 hrun (.inl ⟨_,rfl,?_⟩)
    have hsz':=zg2 A o1.dst (.tuple #[v0,goInt st])
    have hd:∀q,(A.put o1.dst (.tuple #[v0,goInt st])).tmps.getD q undef=if d1=q then .tuple #[v0,goInt st] else A.tmps.getD q undef:=fun q=>by
     rw [hk.dst1,zlj A d1 _ (by rw [hI.tmps.1];have:=hk.lt1;omega) q]
    refine ih _ (A.put o1.dst (.tuple #[v0,goInt st])) s1 hcnt ⟨hsz,q1,Ext.trans hI.ext q2 (fun _ _=>trivial),⟨hsz'.1.trans hI.tmps.1,hsz'.2.trans hI.tmps.2⟩,fun j d q hj hlj hq=> ?_,fun q h1 h2 hno=> ?_,hclosed,.inr (.inl ⟨by simp [hset],?_,?_,st,bm,v0,by rw [hd,if_pos rfl],fun h=> ?_,?_,?_⟩)⟩
    ·obtain⟨_,_,hp',_⟩:=hk.all j d hj
     obtain⟨_,_,⟨u,w3,_,_,w6,_⟩,_⟩:=zsu hp'
     have:q≠d1:=by rw [w3] at hq;obtain rfl:=Option.some.inj hq;exact w6
     rw [hd,if_neg (Ne.symm this)]
     have hlj':listed.getD j false=true:=by
      simp only [hset,Bool.or_eq_true,decide_eq_true_eq] at hlj
      refine hlj.resolve_left fun e=> ?_
      have:=(List.getElem?_eq_some_iff.1 hj).1
      omega
     exact VR.ext q2 _ _ (fun _ _=>trivial) (hI.env1 j d q hj hlj' hq)
    ·rw [hd,if_neg (Ne.symm h1)]
     exact VR.ext q2 _ _ (fun _ _=>trivial) (hI.env2 q h1 h2 fun j d hj hlj=>hno j d hj (by simp [hset,hlj]))
    ·rw [hn2 (by omega)]
     cases h:listed.getD (pre.length+2) false with
     | false=>rfl
     | true=>
      have:=edgeOf (pre.length+2) o3 hk.at3 h _ hk.e31
      rw [hnl] at this;cases this
    ·rw [q3,hph,hm1]
    ·rw [hn1 (by omega)] at h
     have:=edgeOf (pre.length+1) o2 hk.at2 h _ hk.e21
     rw [hnl] at this;cases this
    ·rw [hd,if_neg (Ne.symm ne2)];exact q4
    ·rw [hd,if_neg (Ne.symm ne4)];exact q5
   ·by_cases hi2:i=pre.length+1
    ·--the entry's number
     subst hi2
     rw [hk.at2] at ho
     obtain rfl:=Option.some.inj ho
     have hl1:=edge _ hk.e21
     obtain⟨_,hp2,hm,st,bm,v0,w1,w2,w3,w4⟩:listed.getD pre.length false=true/\listed.getD (pre.length+2) false=false/\s.m=m1/\∃(st bm:Nat) (v0:Value),A.tmps.getD d1 undef= .tuple #[v0,goInt st]/\(listed.getD (pre.length+1) false=true->A.tmps.getD d2 undef=goInt st)/\
       A.tmps.getD x undef= .map (some bm)/\ys5 P s.w kt bm (A.tmps.getD key undef) st:=by
      rcases hI.ph with⟨h,_⟩|h|⟨hp3,_⟩
      ·rw [hl1] at h;cases h
      ·exact h
      ·have:=edgeOf (pre.length+2) o3 hk.at3 hp3 _ hk.e32
       rw [hnl] at this;cases this
     have hrun:(execOp A.eval o2).run P s.w= .ok (.value (goInt st)) s.w:=by
      have:A.eval (.tmp d1)= .tuple #[v0,goInt st]:=w1
      simp [execOp,hk.op2,Instr.extract,this]
     refine go hk.g2 hrun (.inl ⟨_,rfl,?_⟩)
     have hsz':=zg2 A o2.dst (goInt st)
     have hd:∀q,(A.put o2.dst (goInt st)).tmps.getD q undef=if d2=q then goInt st else A.tmps.getD q undef:=fun q=>by
      rw [hk.dst2,zlj A d2 _ (by rw [hI.tmps.1];have:=hk.lt2;omega) q]
     refine ih _ (A.put o2.dst (goInt st)) s hcnt ⟨hsz,hI.sim,hI.ext,⟨hsz'.1.trans hI.tmps.1,hsz'.2.trans hI.tmps.2⟩,fun j d q hj hlj hq=> ?_,fun q h1 h2 hno=> ?_,hclosed,.inr (.inl ⟨by rw [hn0 (by omega)];exact hl1,by rw [hn2 (by omega)];exact hp2,hm,st,bm,v0,by rw [hd,if_neg (Ne.symm ne1)];exact w1,fun _=>by rw [hd,if_pos rfl],by rw [hd,if_neg (Ne.symm ne3)];exact w3,by rw [hd,if_neg (Ne.symm ne5)];exact w4⟩)⟩
     ·obtain⟨_,_,hp',_⟩:=hk.all j d hj
      obtain⟨_,_,⟨u,w3,_,_,_,w7⟩,_⟩:=zsu hp'
      have:q≠d2:=by rw [w3] at hq;obtain rfl:=Option.some.inj hq;exact w7
      rw [hd,if_neg (Ne.symm this)]
      have hlj':listed.getD j false=true:=by
       simp only [hset,Bool.or_eq_true,decide_eq_true_eq] at hlj
       refine hlj.resolve_left fun e=> ?_
       have:=(List.getElem?_eq_some_iff.1 hj).1
       omega
      exact hI.env1 j d q hj hlj' hq
     ·rw [hd,if_neg (Ne.symm h2)]
      exact hI.env2 q h1 h2 fun j d hj hlj=>hno j d hj (by simp [hset,hlj])
    ·--its new value
     obtain rfl:i=pre.length+2:=by rw [hk.size] at hio;omega
     rw [hk.at3] at ho
     obtain rfl:=Option.some.inj ho
     have hl1:=edge _ hk.e31
     have hl2:=edge _ hk.e32
     obtain⟨_,_,hm,st,bm,v0,w1,w2,w3,w4⟩:listed.getD pre.length false=true/\listed.getD (pre.length+2) false=false/\s.m=m1/\∃(st bm:Nat) (v0:Value),A.tmps.getD d1 undef= .tuple #[v0,goInt st]/\(listed.getD (pre.length+1) false=true->A.tmps.getD d2 undef=goInt st)/\
       A.tmps.getD x undef= .map (some bm)/\ys5 P s.w kt bm (A.tmps.getD key undef) st:=by
      rcases hI.ph with⟨h,_⟩|h|⟨hp3,_⟩
      ·rw [hl1] at h;cases h
      ·exact h
      ·rw [hnl] at hp3;cases hp3
     have hva:∀q,q≠d1->q≠d2->VR s (get (E pre.length) q) (A.tmps.getD q undef):=fun q h1 h2=>valAt hI q h1 h2 fun j c hc _=>by
      obtain⟨_,_,_,_,he3⟩:=hk.all j c hc
      exact edge j he3
     let ex:Env:=[(x,.mp i0),(key,.d kd),(y,vy)]
     have hxk:x≠key:=fun e=>by rw [e,hkey] at hx;cases hx
     have hex:zcc s ex A.tmps:=by
      intro q
      show VR s (get [(x,V.mp i0),(key,V.d kd),(y,vy)] q) _
      simp only [get]
      split
      ·rename_i e;subst e
       have:=hva x ne2 ne3
       rwa [hx] at this
      ·split
       ·rename_i e;subst e
        have:=hva key ne4 ne5
        rwa [hkey] at this
       ·split
        ·rename_i e;subst e
         have:=hva y ne6 ne7
         rwa [hy] at this
        ·trivial
     have hgx:get ex x= .mp i0:=by simp [ex,get]
     have hgk:get ex key= .d kd:=by simp [ex,get,hxk]
     have hgy:get ex y=vy:=by
      simp only [ex,get]
      by_cases e1:x=y
      ·rw [if_pos e1,<-hx,e1,hy]
      ·rw [if_neg e1]
       by_cases e2:key=y
       ·rw [if_pos e2,<-hkey,e2,hy]
       ·simp [e2]
     have hms:zh2 kk s.m (Opd.ev ex (.t x)) (Opd.ev ex (.t key)) (Opd.ev ex (.t y))=some m2:=by
      show zh2 kk s.m (get ex x) (get ex key) (get ex y)=some m2
      rw [hgx,hgk,hgy,hm,hm1,hm2]
      unfold zh2
      cases hrr:rr with
      | some w=>simp only [Option.isSome_some,if_true,hl,hik,hcy,Bool.and_self,if_true,hs2,Option.map_some]
      | none=>
       subst hrr
       simp only [Option.isSome_none,Bool.false_eq_true,if_false,za6,hik,hcy,Bool.and_self,if_true,z6f hik es es1 hf hs1,hs2,Option.map_some,ybd]
     have hok:zn7 P gl {o3 with op:= .mapUpdate t (.tmp x) (.tmp key) (.tmp y)} kk (.t x) (.t key) (.t y)=true:=by
      unfold zn7
      simp [okX,hk.mapT,hk.kkT]
     obtain⟨s',hrun,q1,q2,q3⟩:=zz4 hI.sim hex hk.op3 hok hms hk.mapT (A:=A) (bm:=bm) (st:=st) w3 (w2 hl2) w4
     refine go hk.g3 hrun (.inr ⟨rfl,?_⟩)
     have hput:A.put o3.dst undef=A:=by rw [hk.dst3];rfl
     rw [hput]
     refine ih _ A s' hcnt ⟨hsz,q1,Ext.trans hI.ext q2 (fun _ _=>trivial),hI.tmps,fun j d q hj hlj hq=> ?_,fun q h1 h2 hno=> ?_,hclosed,.inr (.inr ⟨by simp [hset],q3⟩)⟩
     ·have hlj':listed.getD j false=true:=by
       simp only [hset,Bool.or_eq_true,decide_eq_true_eq] at hlj
       refine hlj.resolve_left fun e=> ?_
       have:=(List.getElem?_eq_some_iff.1 hj).1
       omega
      exact VR.ext q2 _ _ (fun _ _=>trivial) (hI.env1 j d q hj hlj' hq)
     ·exact VR.ext q2 _ _ (fun _ _=>trivial) (hI.env2 q h1 h2 fun j d hj hlj=>hno j d hj (by simp [hset,hlj]))
theorem zyv {F:Oracle} {cx:Cx}:∀(a b:List CO) (e:Env) (m:Mem),zh7 F cx (a++b) e m=(zh7 F cx a e m).bind fun p=>zh7 F cx b p.1 p.2
 | [],_,_,_=>rfl
 | o::a,b,e,m=>by
  simp only [List.cons_append,zh7]
  cases zdr F cx e m o with
  | none=>rfl
  | some p=>exact zyv a b _ _
def yqt:List CO->Option D
 | []=>none
 | o::r=>match o.op with
  | .lookup _ z _ _ _=>some z
  | _=>yqt r
def yr1 (P:Program) (gl:Globs) (nt:Nat) (os:Array Oper) (ops:List CO) (kill:List Nat):Bool:=
 match ops.getLast?,yqt ops with
 | some l,some zero=>l.dst.isNone&&l.guard.isNone&&
  (match l.op with
  | .mapSet kk (.t x) (.t key) (.t y)=>okE P gl nt os ops.dropLast kk zero x key y&&
   (match os[ops.length-1]?,os[ops.length]? with
   | some o1,some o2=>(match o1.dst,o2.dst with|some d1,some d2=>kill.elem d1&&kill.elem d2|_,_=>false)
   | _,_=>false)
  | _=>false)
 | _,_=>false
theorem zmp {kill:List Nat} {u:Nat} (h:kill.elem u=true):∀(e:Env),get (zdb kill e) u= .undef
 | []=>rfl
 | (t,v)::r=>by
  by_cases e:t=u
  ·subst e
   have:zdb kill ((t,v)::r)=zdb kill r:=by simp only [zdb,List.filter_cons,h,Bool.not_true,Bool.false_eq_true,if_false]
   rw [this];exact zmp h r
  ·by_cases hk:kill.elem t=true
   ·have:zdb kill ((t,v)::r)=zdb kill r:=by simp only [zdb,List.filter_cons,hk,Bool.not_true,Bool.false_eq_true,if_false]
    rw [this];exact zmp h r
   ·have:zdb kill ((t,v)::r)=(t,v)::zdb kill r:=by simp only [zdb,List.filter_cons,hk,Bool.not_false,if_true]
    rw [this]
    simp only [get,if_neg e]
    exact zmp h r
theorem yin [Clk] {F:Oracle} (hm:P.follows .mixedOrders=true) (r:Option Nat) (cx:Cx) {nt:Nat} {ops:Array Oper} {cos:List CO} {kill:List Nat} (id:Nat) (hok:yr1 P gl nt ops cos kill=true)
  {e e':Env} {m':Mem} {s:S} {A:Act} (h:zh7 F cx cos e s.m=some (e',m')) (hs:Sim oc gl s) (he:zcc s e A.tmps) (hnt:nt<=A.tmps.size) {Q:Exit->Act->World->Prop}
  (hQ:∀s' A',Sim oc gl s'->Ext (fun _=>True) s s'->s'.m=m'->zcc s' (zdb kill e') A'.tmps->A'.tmps.size=A.tmps.size->A'.defers=A.defers->Q .normal A' s'.w):
  (Code.region id ops true).wpIn (fen r) 0 P Q A s.w:=by
 unfold yr1 at hok
 split at hok
 case h_2=>cases hok
 rename_i l zero hl hz
 simp only [Bool.and_eq_true] at hok
 obtain⟨⟨hd,hg⟩,hok⟩:=hok
 split at hok
 case h_2=>cases hok
 rename_i kk x key y hop
 simp only [Bool.and_eq_true] at hok
 obtain⟨hE,hkl⟩:=hok
 obtain⟨d1,d2,t,kt,vt,z,o1,o2,o3,hk⟩:=yts hE
 obtain⟨pre,rfl⟩:=List.getLast?_eq_some_iff.1 hl
 rw [List.length_append,List.length_singleton,Nat.add_sub_cancel] at hkl
 rw [List.dropLast_concat] at hk
 rw [hk.at1,hk.at2] at hkl
 simp only [hk.dst1,hk.dst2,Bool.and_eq_true] at hkl
 rw [zyv] at h
 cases h1:zh7 F cx pre e s.m with
 | none=>rw [h1] at h;cases h
 | some p=>
  obtain⟨e1,m1⟩:=p
  rw [h1,Option.bind_some] at h
  obtain⟨ld,lg,lo⟩:=l
  simp only at hop hd hg
  subst hop
  obtain rfl:lg=none:=Option.isNone_iff_eq_none.1 hg
  obtain rfl:ld=none:=Option.isNone_iff_eq_none.1 hd
  obtain⟨E,M,W,hT,hE0,hM0,hE',hM'⟩:=z8q pre e e1 s.m m1 h1
  have hMi:∀i,i<=pre.length->M i=s.m:=by
   intro i
   induction i with
   | zero=>intro _;exact hM0
   | succ i ih=>
    intro hi
    have hc:pre[i]? =some pre[i]:=List.getElem?_eq_getElem hi
    obtain⟨o,_,hp,_⟩:=hk.all i _ hc
    obtain⟨p1,_,_,p8,_⟩:=zsu hp
    have:=hT.val i _ hc
    simp only [zdr,p1] at this
    rw [ylc p8 this]
    exact ih (by omega)
  have hm1:m1=s.m:=by rw [<-hM'];exact hMi _ (Nat.le_refl _)
  subst hm1
  simp only [zh7,zdr,zca] at h
  cases h2:zh2 kk s.m (Opd.ev e1 (.t x)) (Opd.ev e1 (.t key)) (Opd.ev e1 (.t y)) with
  | none=>rw [h2] at h;simp at h
  | some m2=>
   rw [h2] at h
   simp only [Option.map_some,Option.some.injEq,Prod.mk.injEq,put?] at h
   obtain⟨rfl,rfl⟩:=h
   have hms:=h2
   unfold zh2 at h2
   split at h2<;>try cases h2
   rename_i i0 kd hx hkey
   split at h2<;>try cases h2
   rename_i es hl0
   split at h2<;>try cases h2
   rename_i hc
   simp only [Bool.and_eq_true] at hc
   simp only [Option.map_eq_some_iff] at h2
   obtain⟨es2,hs2,rfl⟩:=h2
   obtain⟨rr,hf⟩:=z6e es es2 hs2
   obtain⟨es1,hs1⟩:=yax (z:= .d zero) es es2 hs2
   refine wpIn_region_any hm ?_
   obtain⟨k1,k2⟩:=hs.calm {s.w with drawn:=s.w.drawn+1} s.Im rfl Tk.of rfl (Nat.le_refl _) (fun _ _=>rfl) (fun _ _ h=>h) (fun _ _ h=> .inl h) hs.imlt
   have hsz:(Array.replicate ops.size false).toList.countP (fun b=> !b)<=ops.size:=by
    refine Nat.le_trans List.countP_le_length ?_
    simp
   have nol:∀i,(Array.replicate ops.size false).getD i false=false:=by
    intro i
    rw [Array.getD_eq_getD_getElem?]
    by_cases h:i<ops.size
    ·simp [h]
    ·simp [h]
   refine yhc (Q:=Q) r cx hk hT hMi (by rw [hE'];exact hx) (by rw [hE'];exact hkey) rfl hl0 hc.1 (by rw [hE'];exact hc.2) hf hs1 (by rw [hE'];exact hs2) rfl rfl (s0:=s) (A0:=A) hnt
    (fun s' A' q1 q2 q3 q4 q5 q6=>hQ s' A' q1 q2 q3 (fun u=> ?_) q5 q6) ops.size _ A ⟨s.φ,s.m,{s.w with drawn:=s.w.drawn+1},s.Im⟩ hsz
    ⟨by simp,k1,k2,⟨rfl,rfl⟩,fun i c t _ hp=>absurd ((nol i).symm.trans hp) (by simp),fun t _ _ _=> ?_,fun i o e _ hp=>absurd ((nol i).symm.trans hp) (by simp),.inl ⟨nol _,rfl⟩⟩
   ·by_cases h1:u=d1
    ·subst h1;rw [zmp hkl.1];trivial
    ·by_cases h2:u=d2
     ·subst h2;rw [zmp hkl.2];trivial
     ·have hq:=q4 u h1 h2
      rw [hE'] at hq
      rcases zyg (fun p:Nat×V=> !kill.elem p.1) (fun _ _ _=>rfl) e1 u with hg|hg
      ·rw [zdb,hg];exact hq
      ·rw [zdb,hg];trivial
   ·rw [hE0]
    exact VR.ext k2 _ _ (fun _ _=>trivial) (he t)
end
end Go.Evl
