
/-
 The evaluator is sound, third part: regions, code, activations, rounds.
-/
import Derived.Test.YtnabmkmhbncidaaGreatDoorEvC
import Derived.Maps.RangeRun
import Derived.RangeFuncLeaves
import Derived.OrdersIn
import Derived.LoopNIn
import Derived.Scope
namespace Go.Evl
open Go.RowKit
section
variable {P : Program} {oc : zek} {gl : Globs}
def z3b (lo:Nat) (s1:S) (b j:Nat):Prop:=
 s1.Im b j\/∃i wr t sz n xs,lo<=i.lv/\look s1.m i=some (.row wr t sz n xs)/\blk (s1.φ i)=some b/\j<n*sz
theorem yl6 {lo:Nat} {s1:S} (hs:Sim oc gl s1) {i:Id} {wr:Bool} {t sz n:Nat} {xs:List D} (hlo:lo<=i.lv) (hl:look s1.m i=some (.row wr t sz n xs)) {off len top:Nat} {x:Value}
  (h2:n=top) (h3:off+len<=n) (hv:VR s1 (.ref i off len top) x):
  DR s1.w (z3b lo s1) (.list len (if off=0/\len=n then xs else win xs (off*sz) (len*sz))) x:=by
 obtain⟨hz,ys,hown,hdr,him⟩:=hs.objs i _ hl
 let s2:S:=⟨s1.φ,[(i,.row false t sz n xs)],s1.w,z3b lo s1⟩
 have hl2:look s2.m i=some (.row false t sz n xs):=by simp [s2,look]
 have hs2:Sim oc gl s2:=by
  refine⟨fun k o hk=> ?_,fun a b o o' c hab ha hb _ _ _=> ?_,fun b j h=> ?_,fun g cs hg=>CR.ext (fun _ _ h=> .inl h) (fun _ _ _=>rfl) g 0 cs (hs.glob g cs hg),fun g cs hg=> ?_⟩
  ·have hk1:(if i=k then some (Ob.row false t sz n xs) else none)=some o:=hk
   clear hk
   split at hk1
   ·rename_i e;subst e
    obtain rfl:=Option.some.inj hk1
    refine⟨hz,ys,hown,DRs.ext (fun _ _ h=> .inl h) (fun _ _ _=>rfl) xs ys hdr,fun b hb j=>⟨fun h=>⟨rfl,?_⟩,fun h=> .inr ⟨i,wr,t,sz,n,xs,hlo,hl,zv1 _ _ hb,h.2⟩⟩⟩
    rcases h with h|⟨k,wr',t',sz',n',xs',_,hk',hb',hj⟩
    ·exact((him b hb j).1 h).2
    ·by_cases e:k=i
     ·subst e
      rw [hl] at hk'
      simp only [Option.some.injEq,Ob.row.injEq] at hk'
      obtain⟨_,_,rfl,rfl,_⟩:=hk'
      exact hj
     ·exact absurd (zv1 _ _ hb) (hs.apart k i _ _ b e hk' hl (by simp) (by simp) hb')
   ·cases hk1
  ·have ha1:(if i=a then some (Ob.row false t sz n xs) else none)=some o:=ha
   have hb1:(if i=b then some (Ob.row false t sz n xs) else none)=some o':=hb
   clear ha hb
   split at ha1
   ·split at hb1
    ·rename_i e1 e2;exact absurd (e1.symm.trans e2) hab
    ·cases hb1
   ·cases ha1
  ·rcases h with h|⟨k,wr',t',sz',n',xs',_,hk',hb',hj⟩
   ·exact hs.imlt b j h
   ·exact(hs.objs k _ hk').blk_lt (by simp) hb'
  ·obtain⟨h1,h2⟩:=hs.tabs g cs hg
   refine⟨fun a o ha hgo=> ?_,h2⟩
   have ha1:(if i=a then some (Ob.row false t sz n xs) else none)=some o:=ha
   split at ha1
   ·rename_i e;subst e;exact h1 i _ hl (by simp)
   ·cases ha1
 have hv2:VR s2 (.ref i off len top) x:=by
  refine⟨hv.1,?_⟩
  have:=hv.2
  rw [hl] at this
  rw [hl2]
  exact this
 exact z3q hs2 hl2 rfl h2 h3 hv2
mutual
theorem ycc {lo:Nat} {s1:S} (hs:Sim oc gl s1):∀(v:V) (d:D) (x:Value),(∀i∈ids v,lo<=i.lv)->freeze true s1.m v=some d->VR s1 v x->DR s1.w (z3b lo s1) d x
 | .d y,d,x,_,h,hv=>by
  simp only [freeze,Option.some.injEq] at h;subst h
  exact DR.ext (fun _ _ h=> .inl h) (fun _ _ _=>rfl) _ _ hv
 | .agg cs,d,x,hk,h,hv=>by
  simp only [freeze,Option.map_eq_some_iff] at h
  obtain⟨ds,h1,rfl⟩:=h
  obtain⟨xs,rfl,hv⟩:=hv
  exact⟨xs,rfl,yej hs cs ds _ (by simpa only [ids] using hk) h1 hv⟩
 | .ref i off len top,d,x,hk,h,hv=>by
  simp only [freeze] at h
  split at h
  ·rename_i wr t sz n xs hl
   split at h
   ·rename_i hc
    obtain⟨h1,h2,h3⟩:=hc
    obtain rfl:=Option.some.inj h
    exact yl6 hs (hk i (by simp [ids])) hl h2 h3 hv
   ·cases h
  ·cases h
 | .tup _,_,_,_,h,_=>by simp [freeze] at h
 | .ptr ..,_,_,_,h,_=>by simp [freeze] at h
 | .lptr ..,_,_,_,h,_=>by simp [freeze] at h
 | .fn f [] [],d,x,_,h,hv=>by
  simp only [freeze,Option.some.injEq] at h;subst h
  exact ymr hv
 | .fn _ (_::_) _,_,_,_,h,_=>by simp [freeze] at h
 | .fn _ [] (_::_),_,_,_,h,_=>by simp [freeze] at h
 | .yld _,_,_,_,h,_=>by simp [freeze] at h
 | .mp _,_,_,_,h,_=>by simp [freeze] at h
 | .it _,_,_,_,h,_=>by simp [freeze] at h
 | .skip,_,_,_,h,_=>by simp [freeze] at h
 | .undef,_,_,_,h,_=>by simp [freeze] at h
theorem yej {lo:Nat} {s1:S} (hs:Sim oc gl s1):∀(cs:List V) (ds:List D) (xs:List Value),(∀i∈idsL cs,lo<=i.lv)->zen true s1.m cs=some ds->VRs s1 cs xs->DRs s1.w (z3b lo s1) ds xs
 | [],ds,xs,_,h,hv=>by simp only [zen,Option.some.injEq] at h;subst h;exact hv
 | v::r,ds,xs,hk,h,hv=>by
  obtain⟨x,ys,rfl,h1,h2,h3⟩:=hv
  simp only [zen] at h
  split at h
  ·rename_i d ds' e1 e2
   obtain rfl:=Option.some.inj h
   exact⟨x,ys,rfl,h1,ycc hs v d x (fun i hi=>hk i (by simp [idsL,hi])) e1 h2,yej hs r ds' ys (fun i hi=>hk i (by simp [idsL,hi])) e2 h3⟩
  ·cases h
end
theorem yek {lo:Nat} {s1 s':S} (hs:Sim oc gl s1) (hw:s'.w=s1.w) (him:s'.Im=z3b lo s1):∀(cs:List V) (ds:List D) (xs:List Value),(∀i∈idsL cs,lo<=i.lv)->zen true s1.m cs=some ds->VRt s1 cs xs->VRt s' (asV ds) xs
 | [],ds,xs,_,h,hv=>by simp only [zen,Option.some.injEq] at h;subst h;exact hv
 | v::r,ds,xs,hk,h,hv=>by
  obtain⟨x,ys,rfl,h2,h3⟩:=hv
  simp only [zen] at h
  split at h
  ·rename_i d ds' e1 e2
   obtain rfl:=Option.some.inj h
   refine⟨x,ys,rfl,?_,yek hs hw him r ds' ys (fun i hi=>hk i (by simp [idsL,hi])) e2 h3⟩
   have:=ycc hs v d x (fun i hi=>hk i (by simp [idsL,hi])) e1 h2
   show DR s'.w s'.Im d x
   rw [hw,him];exact this
  ·cases h
theorem yca {lo:Nat} {s s1 sB:S} (hB:yq8 oc gl lo s s1 sB) {cx:Cx} {slot:Nat} {imm:Bool} {v v':V} {m':Mem} {x:Value} (h:znk cx slot lo imm sB.m s1.m v=some (v',m')) (hv:VR s1 v x):
  ∃s',s'.w=s1.w/\Sim oc gl s'/\Ext (fun _=>True) s s'/\s'.m=m'/\VR s' v' x:=by
 unfold znk at h
 split at h
 ·split at h<;>try cases h
  rename_i hids
  simp only [List.all_eq_true,decide_eq_true_eq] at hids
  simp only [Option.map_eq_some_iff,Prod.mk.injEq] at h
  obtain⟨y,hth,rfl,rfl⟩:=h
  let s':S:=⟨sB.φ,sB.m,s1.w,z3b lo s1⟩
  have h0:z98 (fun _=>True) sB s':=⟨fun b j h=> .inl (by rw [hB.im] at h;exact h),fun b j _=>by rw [hB.w],fun i o _ ho=>⟨o,ho,Turned.refl _ _⟩⟩
  have hE:=hB.ext
  have hw:s'.w=sB.w:=hB.w.symm
  refine⟨s',rfl,⟨fun i o hi=> ?_,hB.sim.apart,fun b j h=> ?_,fun g cs hg=>CR.ext (fun _ _ h=> .inl h) (fun _ _ _=>rfl) g 0 cs (hB.sim1.glob g cs hg),fun g cs hg=>⟨(hB.sim.tabs g cs hg).1,(hB.sim1.tabs g cs hg).2⟩⟩,⟨by rw [hw];exact hE.os,by rw [hw];exact hE.tape,by rw [hw];exact hE.output,by rw [hw];exact hE.size,fun b hb hf=> ?_,fun b j h=> ?_,fun b j h=> .inl (by have:=hE.im b j h;rw [hB.im] at this;exact this),
   fun b j h=>by rw [hw];exact hE.keep b j h,hE.objs⟩,rfl,?_⟩
  ·by_cases hg:o= .gone
   ·subst hg;trivial
   refine ObR.ext0 h0 (fun _ _=>trivial) (fun b hb=>⟨by rw [hB.w],fun j h=> ?_⟩) (hB.sim.objs i o hi)
   rcases h with h|⟨k,wr',t',sz',n',xs',hlo,hk',hb',_⟩
   ·rw [hB.im];exact h
   ·exact absurd hb ((hB.new k _ b hk' (by simp) hlo hb').2 i o hi hg)
  ·rcases h with h|⟨k,wr',t',sz',n',xs',_,hk',hb',hj⟩
   ·exact hB.sim1.imlt b j h
   ·exact(hB.sim1.objs k _ hk').blk_lt (by simp) hb'
  ·obtain⟨h1,h2⟩:=hE.frame b hb hf
   exact⟨by rw [hw];exact h1,h2⟩
  ·rcases h with h|⟨k,wr',t',sz',n',xs',hlo,hk',hb',_⟩
   ·exact hE.imnew b j (by rw [hB.im];exact h)
   ·exact .inr ((hB.new k _ b hk' (by simp) hlo hb').1)
  ·unfold ycb at hth
   split at hth
   ·rename_i vs
    simp only [Option.map_eq_some_iff] at hth
    obtain⟨ds,h1,rfl⟩:=hth
    obtain⟨xs,rfl,hv⟩:=hv
    exact⟨xs,rfl,yek (s':=s') hB.sim1 rfl rfl vs ds _ (by simpa only [ids] using hids) h1 hv⟩
   ·simp only [Option.map_eq_some_iff] at hth
    obtain⟨d,h1,rfl⟩:=hth
    exact ycc hB.sim1 v d x hids h1 hv
 ·exact yje hB h hv
theorem ygf {s s1:S} (hs:Sim oc gl s) (h1:Sim oc gl s1) (hE:Ext (fun _=>True) ⟨s.φ,[],s.w,s.Im⟩ s1):yq8 oc gl 0 s s1 ⟨s.φ,s.m,s1.w,s1.Im⟩:=by
 have free0:∀b,zt1 ⟨s.φ,[],s.w,s.Im⟩ b:=fun b i o hi _=>by simp [look] at hi
 have hE':Ext (fun _=>True) s ⟨s.φ,s.m,s1.w,s1.Im⟩:=
  ⟨hE.os,hE.tape,hE.output,hE.size,fun b hb hf=>⟨(hE.frame b hb (free0 b)).1,hf⟩,fun b j h=>by
   rcases hE.imnew b j h with h|h|h
   ·exact .inl h
   ·exact .inr (.inl h)
   ·exact absurd (free0 b) h,hE.im,hE.keep,fun i o _ ho=>⟨o,ho,Turned.refl _ _⟩⟩
 refine⟨h1,⟨fun i o hi=> ?_,hs.apart,h1.imlt,h1.glob,hs.tabs.ext hE'⟩,hE',rfl,rfl,fun i o b hi hg _ hb=> ?_,fun i h=>absurd h (Nat.not_lt_zero _)⟩
 ·by_cases hg:o= .gone
  ·subst hg;trivial
  refine ObR.ext hE' (fun b hb=> ?_) (hs.objs i o hi)
  have hlt:=(hs.objs i o hi).blk_lt hg hb
  refine⟨(hE.frame b hlt (free0 b)).1,fun j h=> ?_⟩
  rcases hE.imnew b j h with h|h|h
  ·exact h
  ·have h:s.w.heap.size<=b:=h
   omega
  ·exact absurd (free0 b) h
 ·have hge:s.w.heap.size<=b:=by
   rcases Nat.lt_or_ge b s.w.heap.size with hlt|hge
   ·exact absurd hb ((hE.frame b hlt (free0 b)).2 i o hi hg)
   ·exact hge
  refine⟨.inl hge,fun j o' hj hg' hb'=> ?_⟩
  have:=(hs.objs j o' hj).blk_lt hg' hb'
  omega
theorem zs4 {nx:Nat} {s s1:S} (h1:Sim oc gl s1) (hE:Ext (fun _=>True) s s1) (hlow:zig nx (znr s.m)=true) (hids:zig nx (idsAll (zel nx s1.m))=true):
  yq8 oc gl nx s s1 ⟨s1.φ,zel nx s1.m,s1.w,s1.Im⟩:=by
 simp only [zig,List.all_eq_true,decide_eq_true_eq] at hlow hids
 obtain⟨k1,k2⟩:=h1.sub (fun i=>decide (i.lv<nx)) (fun i hi=>by simpa using hids i hi)
 have hkey:∀i o,look s.m i=some o->i.lv<nx:=by
  have:∀(m:Mem) i o,look m i=some o->i∈znr m:=by
   intro m
   induction m with
   | nil=>intro i o h;simp [look] at h
   | cons p r ih=>
    intro i o h
    obtain⟨j,y⟩:=p
    simp only [look] at h
    split at h
    ·rename_i e;subst e;simp [znr]
    ·have:=ih i o h
     simp only [znr,List.map_cons,List.mem_cons]
     exact .inr this
  exact fun i o h=>hlow i (this _ i o h)
 refine⟨h1,k1,?_,rfl,rfl,fun i o b hi hg hlo hb=>⟨?_,fun j o' hj hg' hb'=> ?_⟩,fun i h=>⟨?_,rfl⟩⟩
 ·refine Ext.of_look (Ext.trans (Ext.mono hE (fun _ _=>trivial)) k2 fun i hi=> ?_)
  cases ho:look s.m i with
  | none=>exact absurd ho hi
  | some o=>simpa using hkey i o ho
 ·rcases Nat.lt_or_ge b s.w.heap.size with hlt|hge
  ·exact .inr fun hf=>(hE.frame b hlt hf).2 i o hi hg hb
  ·exact .inl hge
 ·have hj:look (s1.m.filter fun q=>decide (q.1.lv<nx)) j=some o':=hj
  rw [zmx (fun i=>decide (i.lv<nx))] at hj
  split at hj
  ·rename_i hjl
   simp only [decide_eq_true_eq] at hjl
   refine h1.apart j i o' o b (fun e=> ?_) hj hi hg' hg hb' hb
   subst e;omega
  ·cases hj
 ·show look (s1.m.filter fun q=>decide (q.1.lv<nx)) i=_
  rw [zmx (fun i=>decide (i.lv<nx))]
  simp [h]
end
end Go.Evl
namespace Go.Evl
open Go.RowKit
section
variable {P : Program} {oc : zek} {gl : Globs}
def Enters (P:Program) (f:Nat):Prop:=∃fn,P.funcs[f]? =some fn/\fn.name≠ "runtime.NumGoroutine" /\fn.body≠none
def zt0 (oc:zek) (gl:Globs) (s:S) (v:V) (m':Mem):Ending->World->Prop:=
 fun e w'=>∃s' x,e= .returned x/\s'.w=w'/\Sim oc gl s'/\Ext (fun _=>True) s s'/\s'.m=m'/\VR s' v x
def zt2 (P:Program) (oc:zek) (gl:Globs) (F:Oracle):Prop:=
 ∀lv f args m v m',F (.call lv f args m)=some (.val v m')->Enters P f/\
  ∀s,Sim oc gl s->s.m=m->∀xs:List Value,VRt s args xs->CallsIn Fence.wide 0 P f xs.toArray s.w (zt0 oc gl s v m')
def zy7 (P:Program) (oc:zek) (gl:Globs) (F:Oracle):Prop:=
 ∀nx o args m v m',F (.round nx o args m)=some (.val v m')->(∃e ps a b lv bu ov j,look m o=some (.loop e ps a b lv bu ov j))/\
  ∀s,Sim oc gl s->s.m=m->∀xs:List Value,VRt s args xs->∀l,s.φ o= .pointer (some ⟨l,0,none⟩)->∃L,s.w.heap[l]? =some (.loop L)/\L.params.size=xs.length/\
   RoundIn Fence.wide 0 P l L.fn ((L.params.zip xs.toArray).foldl (fun tmps (t,a)=>tmps.setIfInBounds t a) L.tmps) L.assign L.body s.w (zt0 oc gl s v m')
theorem VRt.length {s:S}:∀(cs:List V) (xs:List Value),VRt s cs xs->cs.length=xs.length
 | [],_,h=>by simp only [VRt] at h;subst h;rfl
 | _::r,_,⟨x,ys,h1,_,h4⟩=>by subst h1;simp [VRt.length r ys h4]
theorem VRt.append {s:S}:∀(a:List V) (x:List Value) (b:List V) (y:List Value),VRt s a x->VRt s b y->VRt s (a++b) (x++y)
 | [],_,b,y,h,k=>by simp only [VRt] at h;subst h;exact k
 | _::r,_,b,y,⟨x,ys,h1,h3,h4⟩,k=>by subst h1;exact⟨x,ys++y,rfl,h3,VRt.append r ys b y h4 k⟩
theorem yg0 {s s':S} (hs:Sim oc gl s) (hw:s'.w=s.w) (him:s'.Im=s.Im):∀(cs:List V) (ds:List D) (xs:List Value),zen false s.m cs=some ds->VRt s cs xs->VRt s' (asV ds) xs
 | [],ds,xs,h,hv=>by simp only [zen,Option.some.injEq] at h;subst h;exact hv
 | v::r,ds,xs,h,hv=>by
  obtain⟨x,ys,rfl,h2,h3⟩:=hv
  simp only [zen] at h
  split at h
  ·rename_i d ds' e1 e2
   obtain rfl:=Option.some.inj h
   refine⟨x,ys,rfl,?_,yg0 hs hw him r ds' ys e2 h3⟩
   have:=zor hs v d x e1 h2
   show DR s'.w s'.Im d x
   rw [hw,him];exact this
  ·cases h
def znw (gl:Globs) (o:Oper) (f:Opd) (args:List Opd):Bool:=
 match o.op with
 | .call c=>
  match c.callee with
  | .value g=>okX gl g f&&yh3 gl c.args.toList args
  | _=>false
 | _=>false
theorem zn2 {f:Nat} {args:Array Value} {w:World} (h:Enters P f):(callFunc f args).run P w= .ok (.enter f args) w:=by
 obtain⟨fn,h1,h2,h3⟩:=h
 simp [callFunc,run_program,h1,h2,h3]
theorem yjf {s:S} (hs:Sim oc gl s):Sim oc gl ⟨s.φ,[],s.w,s.Im⟩:=
 ⟨fun i o h=>by simp [look] at h,fun i j o o' b _ h=>by simp [look] at h,hs.imlt,hs.glob,fun g cs hg=>⟨fun i o h=>by simp [look] at h,(hs.tabs g cs hg).2⟩⟩
theorem zmp {F:Oracle} (hF:zt2 P oc gl F) (hR:zy7 P oc gl F) {s:S} {A:Act} {o:Oper} {e:Env} (hs:Sim oc gl s) (he:zdc s e A.tmps) (r:Option Nat) (cx:Cx) (slot:Nat) {shared imm:Bool} {f:Opd} {args:List Opd} {v:V} {m':Mem}
  (ok:znw gl o f args=true) (h:zkd F cx slot shared imm (zqo (f.ev e)) (evs e args) s.m=some (v,m')):ymp P oc gl r s A o v m':=by
 unfold znw at ok
 split at ok<;>try cases ok
 rename_i c ho
 split at ok<;>try cases ok
 rename_i g hc
 simp only [Bool.and_eq_true] at ok
 have hf:=zbp hs he ok.1
 have hargs:=ztu hs he _ _ ok.2
 replace hf:=z40 hf
 generalize zqo (f.ev e)=vf at hf h
 generalize evs e args=vs at hargs h
 intro next Q hn
 refine⟨fun _ _=>trivial,?_⟩
 rw [Oper.semAt_eq _ _ _ (fun c' hc'=>by rw [ho] at hc';cases hc')]
 have hmap:(c.args.map A.eval).toList=c.args.toList.map A.eval:=by simp
 -- how a function is entered
 have enter:∀(fid:Nat) (xs ys:Array Value) (R:Ending->World->Prop),A.eval g= .func (.func fid) xs ys->Enters P fid->CallsIn Fence.wide 0 P fid (xs.toList++(c.args.toList.map A.eval)++ys.toList).toArray s.w R->
   (∀e' w',R e' w'->∃x,e'= .returned x/\next (A.put o.dst x) w')->o.uponIn (fen r) 0 P A next Q ((execOp A.eval o).run P s.w):=by
  intro fid xs ys R hg hen hcall hnext
  have hrun:(execOp A.eval o).run P s.w= .ok (.enter fid (xs++c.args.map A.eval++ys)) s.w:=by
   simp [execOp,ho,Go.resolve,hc,hg,Deferred.ofValue,invoke,zn2 hen]
  rw [hrun]
  refine⟨fun h=>by simp [fen] at h,?_⟩
  have harr:(xs.toList++(c.args.toList.map A.eval)++ys.toList).toArray=xs++c.args.map A.eval++ys:=by
   apply Array.ext';simp
  rw [harr] at hcall
  exact CallsIn.mono (F:=fen r) (n:=0) hcall fun e' w' hr=>by
   obtain⟨x,rfl,hx⟩:=hnext e' w' hr
   exact hx
 unfold zkd at h
 split at h
 ·split at h<;>try cases h
  rename_i hlow
  split at h<;>try cases h
  rename_i v1 m1 hsh
  split at h<;>try cases h
  rename_i hids
  have back:∀e' w',zt0 oc gl s v1 m1 e' w'->∃x,e'= .returned x/\next (A.put o.dst x) w':=by
   rintro e' w' ⟨s1,x,rfl,rfl,k1,k2,rfl,k4⟩
   obtain⟨s',hw',q1,q2,q3,q4⟩:=yca (zs4 k1 k2 hlow hids) h k4
   exact⟨x,rfl,hw'▸hn s' x q1 q2 q3 q4⟩
  unfold zhx at hsh
  split at hsh
  ·rename_i fid first caps
   split at hsh<;>try cases hsh
   rename_i v2 m2 hcall
   obtain⟨xs,ys,hg,hx,hy⟩:=hf
   obtain⟨hen,hgo⟩:=hF _ _ _ _ _ _ hcall
   exact enter fid xs ys _ hg hen (hgo s hs rfl _ (VRt.append _ _ _ _ (VRt.append _ _ _ _ hx hargs) hy)) back
  ·rename_i i
   split at hsh<;>try cases hsh
   rename_i v2 m2 hround
   obtain⟨⟨e1,ps,ca,cb,lv,bu,ov,j,hlo⟩,hgo⟩:=hR _ _ _ _ _ _ hround
   obtain⟨_,hy⟩:=hf
   rw [hlo] at hy
   obtain⟨l,hp,hg⟩:=hy
   obtain⟨L,hL,hsz,hgo⟩:=hgo s hs rfl _ hargs l hp
   have harr:(c.args.toList.map A.eval).toArray=c.args.map A.eval:=by apply Array.ext';simp
   rw [harr] at hgo
   have hsz':c.args.size=L.params.size:=by simpa using hsz.symm
   have hrun:(execOp A.eval o).run P s.w= .ok (.round l L.fn ((L.params.zip (c.args.map A.eval)).foldl (fun tmps (t,a)=>tmps.setIfInBounds t a) L.tmps) L.assign L.body) s.w:=by
    simp [execOp,ho,Go.resolve,hc,hg,Deferred.ofValue,invoke,Instr.yield,Instr.getLoop,getObj,Sem.run,hL,hsz']
   rw [hrun]
   refine⟨fun h=>by simp [fen] at h,?_⟩
   exact RoundIn.mono (F:=fen r) (n:=0) hgo fun e' w' hr=>by
    obtain⟨x,rfl,hx⟩:=back e' w' hr
    exact hx
  ·cases hsh
 ·split at h<;>try cases h
  rename_i fid first caps
  split at h<;>try cases h
  rename_i ds hfr
  split at h<;>try cases h
  rename_i v1 m1 hcall
  obtain⟨xs,ys,hg,hx,hy⟩:=hf
  obtain⟨hen,hgo⟩:=hF _ _ _ _ _ _ hcall
  have hv0:=yg0 (s':=⟨s.φ,[],s.w,s.Im⟩) hs rfl rfl _ _ _ hfr (VRt.append _ _ _ _ (VRt.append _ _ _ _ hx hargs) hy)
  refine enter fid xs ys _ hg hen (hgo ⟨s.φ,[],s.w,s.Im⟩ (yjf hs) rfl _ hv0) ?_
  rintro e' w' ⟨s1,x,rfl,rfl,k1,k2,rfl,k4⟩
  obtain⟨s',hw',q1,q2,q3,q4⟩:=yca (ygf hs k1 k2) h k4
  exact⟨x,rfl,hw'▸hn s' x q1 q2 q3 q4⟩
end
end Go.Evl
namespace Go.Evl
open Go.RowKit
theorem zws (F:Oracle) (cx:Cx) (o:CO) (r:List CO) (e:Env) (m:Mem):
  zk9 F cx (o::r) e m=(match zfk F cx e m o with
   | some (v,m')=>zk9 F cx r (put? e o.dst v) m'
   | none=>none):=rfl
section
variable {P : Program} {oc : zek} {gl : Globs}
theorem ydk (f:Id->Ob->Ob):∀(m:Mem) (i:Id),look (m.map fun p=>(p.1,f p.1 p.2)) i=(look m i).map (f i)
 | [],_=>rfl
 | (j,o)::r,i=>by
  simp only [List.map_cons,look]
  split
  ·rename_i e;subst e;rfl
  ·exact ydk f r i
theorem z6b (m0:Mem):∀(a b:Mem),leM m0 a b=true->∀i,(look a i=none/\look b i=none)\/∃o o',look a i=some o/\look b i=some o'/\leO (look m0 i) o o'=true
 | [],[],_,_=> .inl ⟨rfl,rfl⟩
 | [],_::_,h,_=>by simp [leM] at h
 | _::_,[],h,_=>by simp [leM] at h
 | (j,o)::r,(k,o')::q,h,i=>by
  simp only [leM,Bool.and_eq_true,decide_eq_true_eq] at h
  obtain⟨⟨rfl,h1⟩,h2⟩:=h
  simp only [look]
  split
  ·rename_i e;subst e;exact .inr ⟨o,o',rfl,rfl,h1⟩
  ·exact z6b m0 r q h2 i
def zjk:Ob->Option (List Nat×C×C×Nat)
 | .loop _ ps a b lv _ _ _=>some (ps,a,b,lv)
 | _=>none
theorem yl0 {a b:Option yf7} (h:yfi a b=true):a=b:=by
 cases a with
 | none=>cases b<;>simp [yfi] at h ⊢
 | some x=>
  cases b with
  | none=>cases x<;>simp [yfi] at h
  | some y=>cases x<;>cases y<;>simp [yfi] at h ⊢;exact h
theorem yp6 {o0:Option Ob} {o o':Ob} (h:leO o0 o o'=true) (hc:∀c,o0.bind zjk=some c->zjk o=some c/\zjk o'=some c):
  o'=o\/∃t sz n xs ys,o= .row true t sz n xs/\o'= .bag t sz n ys/\ykc sz n ys xs=true:=by
 unfold leO at h
 split at h<;>try cases h
 ·simp only [Bool.and_eq_true,decide_eq_true_eq] at h
  obtain⟨rfl,h⟩:=h
  rw [zmb _ _ h];exact .inl rfl
 ·simp only [Bool.and_eq_true,decide_eq_true_eq] at h
  obtain⟨⟨⟨⟨rfl,rfl⟩,rfl⟩,rfl⟩,h⟩:=h
  rw [zgg _ _ h];exact .inl rfl
 ·simp only [Bool.and_eq_true,decide_eq_true_eq] at h
  obtain⟨⟨⟨rfl,rfl⟩,rfl⟩,h⟩:=h
  exact .inr ⟨_,_,_,_,_,rfl,rfl,h⟩
 ·simp only [Bool.and_eq_true,decide_eq_true_eq] at h
  obtain⟨⟨⟨rfl,rfl⟩,rfl⟩,h⟩:=h
  rw [zgg _ _ h];exact .inl rfl
 ·rw [z5y _ _ h];exact .inl rfl
 ·simp only [Bool.and_eq_true,decide_eq_true_eq] at h
  obtain⟨rfl,rfl⟩:=h;exact .inl rfl
 ·split at h<;>try cases h
  simp only [Bool.and_eq_true,decide_eq_true_eq] at h
  obtain⟨⟨⟨h1,rfl⟩,rfl⟩,h2⟩:=h
  obtain⟨k1,k2⟩:=hc _ rfl
  simp only [zjk,Option.some.injEq,Prod.mk.injEq] at k1 k2
  obtain⟨rfl,rfl,rfl,rfl⟩:=k1
  obtain⟨rfl,rfl,rfl,rfl⟩:=k2
  rw [yan _ _ h1,yl0 h2];exact .inl rfl
 ·exact .inl rfl
theorem z74 {o o':Ob} {p q:Value} (t:Turned o o' p q) {c} (h:zjk o=some c) (hl:isLoop o'=true):zjk o'=some c:=by
 cases o<;>simp only [zjk,reduceCtorEq] at h
 cases o'<;>simp only [isLoop,Bool.false_eq_true] at hl
 obtain⟨_,rfl,rfl,rfl,rfl⟩:=t
 exact h
theorem ygg (o0:Option Ob) (y:Ob) (h:isLoop (ykd o0 y)=true):ykd o0 y=y:=by
 cases y with
 | row wr t sz n xs=>
  cases wr with
  | false=>rfl
  | true=>
   exfalso
   have hb:isLoop (ykd o0 (.row true t sz n xs))=false:=by
    cases o0 with
    | none=>rfl
    | some x=>
     cases x with
     | row w _ _ n0 _=>
      cases w with
      | false=>rfl
      | true=>
       show isLoop (if n0=n then _ else _)=false
       split<;>rfl
     | _=>rfl
   rw [hb] at h;cases h
 | _=>rfl
theorem ye0 (bag:Bool) (o0:Option Ob) (o:Ob) {c} (h:o0.bind zjk=some c) (hl:isLoop (if bag then ykd o0 (z96 o0 o) else z96 o0 o)=true):zjk (if bag then ykd o0 (z96 o0 o) else z96 o0 o)=some c:=by
 have key:isLoop (z96 o0 o)=true->zjk (z96 o0 o)=some c:=by
  intro hl
  cases o with
  | loop e ps a b lv bu ov j=>
   cases o0 with
   | none=>simp at h
   | some x=>
    cases x<;>simp only [Option.bind_some,zjk,reduceCtorEq] at h
    exact h
  | _=>simp [z96,isLoop] at hl
 cases bag with
 | false=>exact key hl
 | true=>
  simp only [if_true] at hl ⊢
  have e:=ygg o0 _ hl
  rw [e] at hl ⊢
  exact key hl
theorem ydf {o0:Option Ob} {o o':Ob} (h:leO o0 o o'=true):isLoop o=isLoop o'/\(isLoop o=true->∃c,o0.bind zjk=some c)/\(o= .gone↔o'= .gone):=by
 unfold leO at h
 split at h
 case h_7=>
  split at h<;>first |cases h|skip
  exact⟨rfl,fun _=>⟨_,rfl⟩,by simp⟩
 case h_9=>cases h
 all_goals exact⟨rfl,fun e=>by simp [isLoop] at e,by simp⟩
theorem yhe {o0:Option Ob} {o o':Ob} (h:leO o0 o o'=true) (hl:isLoop o=false):o'=o\/∃t sz n xs ys,o= .row true t sz n xs/\o'= .bag t sz n ys/\ykc sz n ys xs=true:=by
 unfold leO at h
 split at h<;>first |cases h|skip
 ·simp only [Bool.and_eq_true,decide_eq_true_eq] at h
  obtain⟨rfl,h⟩:=h
  rw [zmb _ _ h];exact .inl rfl
 ·simp only [Bool.and_eq_true,decide_eq_true_eq] at h
  obtain⟨⟨⟨⟨rfl,rfl⟩,rfl⟩,rfl⟩,h⟩:=h
  rw [zgg _ _ h];exact .inl rfl
 ·simp only [Bool.and_eq_true,decide_eq_true_eq] at h
  obtain⟨⟨⟨rfl,rfl⟩,rfl⟩,h⟩:=h
  exact .inr ⟨_,_,_,_,_,rfl,rfl,h⟩
 ·simp only [Bool.and_eq_true,decide_eq_true_eq] at h
  obtain⟨⟨⟨rfl,rfl⟩,rfl⟩,h⟩:=h
  rw [zgg _ _ h];exact .inl rfl
 ·rw [z5y _ _ h];exact .inl rfl
 ·simp only [Bool.and_eq_true,decide_eq_true_eq] at h
  obtain⟨rfl,rfl⟩:=h;exact .inl rfl
 ·simp [isLoop] at hl
 ·exact .inl rfl
theorem ydb {s s1:S} (hs1:Sim oc gl s1) (hE:∀i o,look s.m i=some o->∃o',look s1.m i=some o'/\Turned o o' (s.φ i) (s1.φ i)) {mm:Mem}
  (hco:∀i o',look mm i=some o'->∀c,(look s.m i).bind zjk=some c->isLoop o'=true->zjk o'=some c) (hle:leM s.m s1.m mm=true):
  Sim oc gl ⟨s1.φ,mm,s1.w,s1.Im⟩/\Ext (fun _=>True) s1 ⟨s1.φ,mm,s1.w,s1.Im⟩:=by
 have step:∀i o o',look s1.m i=some o->look mm i=some o'->leO (look s.m i) o o'=true->
   o'=o\/∃t sz n xs ys,o= .row true t sz n xs/\o'= .bag t sz n ys/\ykc sz n ys xs=true:=by
  intro i o o' ho ho' hl
  obtain⟨l1,l2,l3⟩:=ydf hl
  cases hb:isLoop o with
  | false=>exact yhe hl hb
  | true=>
   refine yp6 hl fun c hc=> ?_
   constructor
   ·cases h0:look s.m i with
    | none=>rw [h0] at hc;simp at hc
    | some x=>
     rw [h0] at hc
     obtain⟨o1,h1,t1⟩:=hE i x h0
     rw [ho] at h1
     obtain rfl:=Option.some.inj h1
     exact z74 t1 hc hb
   ·exact hco i o' ho' c hc (l1▸hb)
 have both:∀i o',look (mm) i=some o'->∃o,look s1.m i=some o/\(o= .gone↔o'= .gone)/\
   (o'=o\/∃t sz n xs ys,o= .row true t sz n xs/\o'= .bag t sz n ys/\ykc sz n ys xs=true):=by
  intro i o' ho'
  rcases z6b _ _ _ hle i with⟨_,h2⟩|⟨o,o2,h1,h2,h3⟩
  ·rw [h2] at ho';cases ho'
  ·rw [h2] at ho'
   obtain rfl:=Option.some.inj ho'
   exact⟨o,h1,(ydf h3).2.2,step i o o2 h1 h2 h3⟩
 have hE2:Ext (fun _=>True) s1 ⟨s1.φ,mm,s1.w,s1.Im⟩:=by
  refine⟨rfl,rfl,rfl,Nat.le_refl _,fun b _ hf=>⟨rfl,fun i o' ho' hg=> ?_⟩,fun b j hi=> .inl hi,fun _ _ hi=>hi,fun _ _ _=>rfl,fun i o _ ho=> ?_⟩
  ·obtain⟨o,h1,h2,_⟩:=both i o' ho'
   exact hf i o h1 (fun e=>hg (h2.1 e))
  ·rcases z6b _ _ _ hle i with⟨h1,_⟩|⟨o1,o2,h1,h2,h3⟩
   ·rw [h1] at ho;cases ho
   ·rw [h1] at ho
    obtain rfl:=Option.some.inj ho
    refine⟨o2,h2,?_⟩
    rcases step i o1 o2 h1 h2 h3 with rfl|⟨t,sz,n,xs,ys,rfl,rfl,_⟩
    ·exact Turned.refl _ _
    ·exact⟨rfl,rfl,rfl,Nat.le_refl _,fun _=>rfl⟩
 refine⟨⟨fun i o' ho'=> ?_,fun i j o o' b hij hi hj' hg hg'=> ?_,hs1.imlt,hs1.glob,hs1.tabs.ext hE2⟩,hE2⟩
 ·obtain⟨o,h1,_,h3⟩:=both i o' ho'
  have h4:=ObR.ext hE2 (p:=s1.φ i) (fun b _=>⟨rfl,fun _ hj=>hj⟩) (hs1.objs i o h1)
  rcases h3 with rfl|⟨t,sz,n,xs,ys,rfl,rfl,hb⟩
  ·exact h4
  ·obtain⟨hz,vs,hown,hd,hi⟩:=h4
   simp only [ykc,Bool.and_eq_true,decide_eq_true_eq] at hb
   exact⟨hz,xs,vs,⟨hb.1.1,hb.1.2,z4f _ _ hb.2⟩,hown,hd,fun b hb j hj=>by have:=(hi b hb j).1 hj;simp at this⟩
 ·obtain⟨o1,h1,h2,_⟩:=both i o hi
  obtain⟨o2,k1,k2,_⟩:=both j o' hj'
  exact hs1.apart i j o1 o2 b hij h1 k1 (fun e=>hg (h2.1 e)) (fun e=>hg' (k2.1 e))
theorem ydc {s s1:S} (hs1:Sim oc gl s1) (hE:∀i o,look s.m i=some o->∃o',look s1.m i=some o'/\Turned o o' (s.φ i) (s1.φ i)) (bag:Bool) {m:Mem} (hle:leM s.m s1.m (zlt bag s.m m)=true):
  Sim oc gl ⟨s1.φ,zlt bag s.m m,s1.w,s1.Im⟩/\Ext (fun _=>True) s1 ⟨s1.φ,zlt bag s.m m,s1.w,s1.Im⟩:=by
 refine ydb hs1 hE (fun i o' ho' c hc hl=> ?_) hle
 have hj:look (zlt bag s.m m) i=(look m i).map fun o=>if bag then ykd (look s.m i) (z96 (look s.m i) o) else z96 (look s.m i) o:=
  ydk (fun i o=>if bag then ykd (look s.m i) (z96 (look s.m i) o) else z96 (look s.m i) o) m i
 rw [hj] at ho'
 obtain⟨x,_,rfl⟩:=Option.map_eq_some_iff.1 ho'
 exact ye0 bag _ x hc hl
theorem z0d (sz:Nat):∀(n:Nat) (ds:List D),ds.length=n*sz->(zk6 sz n ds).flatten=ds
 | 0,ds,h=>by
  have:ds=[]:=List.eq_nil_of_length_eq_zero (by omega)
  subst this;rfl
 | n+1,ds,h=>by
  simp only [zk6,List.flatten_cons]
  rw [z0d sz n (ds.drop sz) (by rw [List.length_drop,h,Nat.succ_mul];omega),List.take_append_drop]
theorem zwo {s:S} {A:Act} {o:Oper} {e:Env} (hs:Sim oc gl s) (he:zdc s e A.tmps) {r:Option Nat} {run:Mem->Option (V×Mem)} {t:Nat} {v:V} {m':Mem}
  (hrun:∀s1,Sim oc gl s1->zdc s1 e A.tmps->∀v m1,run s1.m=some (v,m1)->ymp P oc gl r s1 A o v m1) (h:zn8 run s.m (get e t)=some (v,m')):ymp P oc gl r s A o v m':=by
 unfold zn8 at h
 split at h
 ·rename_i i off len top hv
  split at h
  ·rename_i t' sz n xs hl
   split at h<;>try cases h
   rename_i hlen
   obtain⟨⟨v1,m1⟩,h1,h⟩:=Option.bind_eq_some_iff.1 h
   obtain⟨rs,hrs,h⟩:=Option.bind_eq_some_iff.1 h
   unfold z5b at h
   split at h
   case isFalse=>cases h
   rename_i hall
   simp only [Option.some.injEq,Prod.mk.injEq] at h
   obtain⟨rfl,rfl⟩:=h
   obtain⟨hz,ds',vs,hp,hown,hd,him⟩:=hs.objs i _ hl
   -- the row as it lies
   have hmem:zk6 sz n ds'∈z1h (zk6 sz n xs):=(zou _ _).2 hp.2.2.symm
   obtain⟨⟨v2,m2⟩,hin,h2⟩:=z42 hrs _ hmem
   rw [z0d sz n ds' hp.2.1] at h2
   have hthis:=List.all_eq_true.1 hall _ hin
   simp only [Bool.and_eq_true] at hthis
   obtain⟨hv2,hm2⟩:=hthis
   obtain rfl:=ztk _ _ hv2
   obtain⟨k1,k2⟩:=hs.change i (.row true t' sz n ds') (s.φ i) s.w s.Im rfl rfl rfl (Nat.le_refl _) (fun _ _ _=>rfl) (fun _ _ h=>h) (fun _ _ _=>rfl) (fun _ _ h=> .inl h) hs.imlt
    (fun b hb=> .inr ⟨⟨_,hl,by simp⟩,hb⟩) (fun o ho=>by rw [hl] at ho;cases ho;exact⟨rfl,rfl,rfl,Nat.le_refl _,fun _=>rfl⟩)
    (fun hE=>⟨hz,vs,hown,DRs.ext hE.im hE.keep _ _ hd,fun b hb j=>⟨fun hj=>absurd hj (him b hb j),fun hj=>by simp at hj⟩⟩)
   rw [zvb] at k1 k2
   have hgo:=hrun _ k1 (zdc.ext k2 (fun _ _ _=>trivial) he) v2 m2 h2
   intro next Q hn
   refine hgo next Q fun s' x q1 q2 q3 q4=> ?_
   subst q3
   obtain⟨j1,j2⟩:=ydc (s:=s) q1 (fun i o ho=>(Ext.trans k2 q2 (fun _ _=>trivial)).objs i o trivial ho) false hm2
   exact hn ⟨s'.φ,zlt false s.m m1,s'.w,s'.Im⟩ x j1 (Ext.trans (Ext.trans k2 q2 (fun _ _=>trivial)) j2 (fun _ _=>trivial)) rfl (VR.ext j2 _ _ (fun _ _=>trivial) q4)
  ·exact hrun s hs he v m' h
 ·exact hrun s hs he v m' h
theorem zw5:∀(σ:List (Id×Id)) (a b:Id),(∀a a' b,(a,b)∈σ->(a',b)∈σ->a=a')->(a,b)∈σ->subst (znd σ) b=a
 | [],_,_,_,h=>by simp at h
 | (x,y)::r,a,b,hu,h=>by
  simp only [znd,List.map_cons,subst]
  by_cases e:y=b
  ·subst e
   rw [if_pos rfl]
   exact hu x a y (by simp) h
  ·rw [if_neg e]
   have h':(a,b)∈r:=by
    simp only [List.mem_cons,Prod.mk.injEq] at h
    rcases h with⟨_,h⟩|h
    ·exact absurd h.symm e
    ·exact h
   exact zw5 r a b (fun a a' b h1 h2=>hu a a' b (by simp [h1]) (by simp [h2])) h'
mutual
theorem yd3 {σ τ:List (Id×Id)} {is:List Id} (h:∀i∈is,subst τ (subst σ i)=i):∀v:V,(∀i∈ids v,i∈is)->ren τ (ren σ v)=v
 | .d _,_=>rfl
 | .agg cs,hk=>by simp only [Evl.ren];rw [zo2 h cs (by simpa only [ids] using hk)]
 | .tup cs,hk=>by simp only [Evl.ren];rw [zo2 h cs (by simpa only [ids] using hk)]
 | .ref o a b c,hk=>by simp only [Evl.ren];rw [h o (hk o (by simp [ids]))]
 | .ptr o a b,hk=>by simp only [Evl.ren];rw [h o (hk o (by simp [ids]))]
 | .lptr _ _,_=>rfl
 | .fn f a b,hk=>by simp only [Evl.ren];rw [zo2 h a (fun i hi=>hk i (by simp [ids,hi])),zo2 h b (fun i hi=>hk i (by simp [ids,hi]))]
 | .yld o,hk=>by simp only [Evl.ren];rw [h o (hk o (by simp [ids]))]
 | .mp o,hk=>by simp only [Evl.ren];rw [h o (hk o (by simp [ids]))]
 | .it o,hk=>by simp only [Evl.ren];rw [h o (hk o (by simp [ids]))]
 | .skip,_=>rfl
 | .undef,_=>rfl
theorem zo2 {σ τ:List (Id×Id)} {is:List Id} (h:∀i∈is,subst τ (subst σ i)=i):∀cs:List V,(∀i∈idsL cs,i∈is)->renL τ (renL σ cs)=cs
 | [],_=>rfl
 | v::r,hk=>by
  simp only [renL]
  rw [yd3 h v (fun i hi=>hk i (by simp [idsL,hi])),zo2 h r (fun i hi=>hk i (by simp [idsL,hi]))]
end
mutual
theorem yg4 (σ:List (Id×Id)):∀v:V,ids (ren σ v)=(ids v).map (subst σ)
 | .d _=>rfl
 | .agg cs=>by simp only [Evl.ren,ids];exact zrk σ cs
 | .tup cs=>by simp only [Evl.ren,ids];exact zrk σ cs
 | .ref .. =>rfl
 | .ptr .. =>rfl
 | .lptr _ _=>rfl
 | .fn f a b=>by simp only [Evl.ren,ids,List.map_append];rw [zrk σ a,zrk σ b]
 | .yld _=>rfl
 | .mp _=>rfl
 | .it _=>rfl
 | .skip=>rfl
 | .undef=>rfl
theorem zrk (σ:List (Id×Id)):∀cs:List V,idsL (renL σ cs)=(idsL cs).map (subst σ)
 | []=>rfl
 | v::r=>by simp only [renL,idsL,List.map_append];rw [yg4 σ v,zrk σ r]
end
theorem yc6 (σ:List (Id×Id)):∀es:List (D×V),idsM (yna σ es)=(idsM es).map (subst σ)
 | []=>rfl
 | (_,v)::r=>by simp only [yna,idsM,List.map_append];rw [yg4 σ v,yc6 σ r]
theorem z9c {σ τ:List (Id×Id)} {is:List Id} (h:∀i∈is,subst τ (subst σ i)=i):∀es:List (D×V),(∀i∈idsM es,i∈is)->yna τ (yna σ es)=es
 | [],_=>rfl
 | (k,v)::r,hk=>by
  simp only [yna]
  rw [yd3 h v (fun i hi=>hk i (by simp [idsM,hi])),z9c h r (fun i hi=>hk i (by simp [idsM,hi]))]
theorem yiw {σ τ:List (Id×Id)} {is:List Id} (h:∀i∈is,subst τ (subst σ i)=i) (o:Ob) (hl:isLoop o=false) (hk:∀i∈idsO o,i∈is):renO τ (renO σ o)=o:=by
 cases o with
 | cells t cs=>simp only [renO];rw [zo2 h cs hk]
 | map es=>simp only [renO];rw [z9c h es hk]
 | loop=>simp [isLoop] at hl
 | _=>rfl
theorem yk2 (σ:List (Id×Id)) (o:Ob) (hl:isLoop o=false):idsO (renO σ o)=(idsO o).map (subst σ):=by
 cases o with
 | cells t cs=>exact zrk σ cs
 | map es=>exact yc6 σ es
 | loop=>simp [isLoop] at hl
 | _=>rfl
theorem z3w (σ:List (Id×Id)) (o:Ob):isLoop (renO σ o)=isLoop o:=by cases o<;>rfl
theorem z3y (m1:Mem):∀(m:Mem),z8r m1 m=true->∀i o,look m i=some o->look m1 i=some o/\isLoop o=false/\o≠ .gone
 | [],_,i,o,h=>by simp [look] at h
 | (j,x)::r,h,i,o,hl=>by
  simp only [z8r,Bool.and_eq_true] at h
  obtain⟨h1,h2⟩:=h
  simp only [look] at hl
  split at hl
  ·rename_i e;subst e
   obtain rfl:=Option.some.inj hl
   split at h1
   ·rename_i o' ho
    have:=yl1 _ _ h1
    subst this
    refine⟨ho,?_,?_⟩
    ·cases x<;>first |rfl|(simp [ybt] at h1)
    ·rintro rfl;simp [ybt] at h1
   ·cases h1
  ·exact z3y m1 r h2 i o hl
theorem yfc {s:S} (hs:Sim oc gl s) {as1:List V} {is:List Id} (hw:within is 0 (idsL as1)=true) (hmv:movable is 0 s.m=true) {xs:List Value} (hv:VRt s as1 xs):
  ∃s0:S,s0.m=moved (number ⟨0,0⟩ 0 0 is) s.m (number ⟨0,0⟩ 0 0 is)/\s0.w=s.w/\Sim oc gl s0/\VRt s0 (renL (number ⟨0,0⟩ 0 0 is) as1) xs/\
   ∀(s1:S) (v:V) (x:Value),Sim oc gl s1->Ext (fun _=>True) s0 s1->z8r s1.m (moved (number ⟨0,0⟩ 0 0 is) s.m (number ⟨0,0⟩ 0 0 is))=true->
    (ids v).all (fun i=>((number ⟨0,0⟩ 0 0 is).map (·.2)).elem i)=true->VR s1 v x->
    ∃s':S,s'.w=s1.w/\Sim oc gl s'/\Ext (fun _=>True) s s'/\s'.m=s.m/\VR s' (ren (znd (number ⟨0,0⟩ 0 0 is)) v) x:=by
 obtain⟨σ,hσ⟩:∃σ,σ=number ⟨0,0⟩ 0 0 is:=⟨_,rfl⟩
 rw [<-hσ]
 simp only [movable,Bool.and_eq_true,List.all_eq_true] at hmv
 obtain⟨honce,hall⟩:=hmv
 have inj:∀a a' b,(a,b)∈σ->(a',b)∈σ->a=a':=by subst hσ;exact z6g _ _ is 0
 have isin:∀a b,(a,b)∈σ->a∈is:=by subst hσ;exact fun a b h=>(zq5 _ _ is 0 a b h).1
 have sub:∀i∈is,(i,subst σ i)∈σ:=by subst hσ;exact zu6 _ _ is 0
 have only:∀a b,(a,b)∈σ->b=subst σ a:=by subst hσ;exact fun a b=>zys _ _ is 0 a b honce
 have obj:∀i∈is,∃o,look s.m i=some o/\(∀j∈idsO o,j∈is)/\isLoop o=false:=by
  intro i hi
  have:=hall i hi
  split at this
  ·rename_i o ho
   simp only [Bool.and_eq_true,within,List.all_eq_true,Bool.or_eq_true,List.elem_eq_mem,decide_eq_true_eq,Bool.not_eq_true'] at this
   exact⟨o,ho,fun j hj=>(this.1.1 j hj).resolve_right (Nat.not_lt_zero _),this.1.2⟩
  ·cases this
 have hids:∀i∈idsL as1,i∈is:=by
  have h:∀i∈idsL as1,i∈is\/i.lv<0:=by
   simpa only [within,List.all_eq_true,Bool.or_eq_true,List.elem_eq_mem,decide_eq_true_eq] using hw
  exact fun i hi=>(h i hi).resolve_right (Nat.not_lt_zero _)
 let φ0:Id->Value:=fun i=>match σ.find? (fun p=>decide (p.2=i)) with
  | some p=>s.φ p.1
  | none=>undef
 have φnew:∀a b,(a,b)∈σ->φ0 b=s.φ a:=by
  intro a b hab
  show (match σ.find? (fun p=>decide (p.2=b)) with|some p=>s.φ p.1|none=>undef)=_
  cases hf:σ.find? (fun p=>decide (p.2=b)) with
  | none=>exact absurd (List.find?_eq_none.1 hf _ hab) (by simp)
  | some p=>
   have h1:=List.find?_some hf
   have h2:=List.mem_of_find?_eq_some hf
   simp only [decide_eq_true_eq] at h1
   obtain⟨p1,p2⟩:=p
   simp only at h1
   subst h1
   simp only
   rw [inj p1 a p2 h2 hab]
 let s0:S:=⟨φ0,moved σ s.m σ,s.w,s.Im⟩
 have lnew:∀a b o,(a,b)∈σ->look s.m a=some o->look s0.m b=some (renO σ o):=fun a b o hab ho=>zrm σ s.m σ a b o (fun a' h=>inj a' a b h hab) hab ho
 have lany:∀i o,look s0.m i=some o->∃a o',(a,i)∈σ/\look s.m a=some o'/\o=renO σ o':=fun i o hi=>zmo σ s.m σ i o hi
 have ngone:∀o,renO σ o≠ .gone->o≠ .gone:=fun o h e=>h (by rw [e];rfl)
 have hren:Ren σ (fun i=>i∈is) s s0:=by
  refine⟨fun _ _ h=>h,fun _ _ _=>rfl,fun i o hi ho=> ?_⟩
  have hab:=sub i hi
  refine⟨_,lnew i _ o hab ho,?_⟩
  show Turned o _ (s.φ i) (φ0 (subst σ i))
  rw [φnew _ _ hab]
  exact Turned.renO σ o _
 -- who is free among all is free here
 have free0:∀b,zt1 s b->zt1 s0 b:=by
  intro b hf i o hi hg
  obtain⟨a,o',hab,ho',rfl⟩:=lany i o hi
  show blk (φ0 i)≠some b
  rw [φnew a i hab]
  exact hf a o' ho' (ngone _ hg)
 have sim0:Sim oc gl s0:=by
  refine⟨fun i o hi=> ?_,fun i j o o' b hij hi hj hg hg' hb=> ?_,hs.imlt,hs.glob,fun g cs hg=> ?_⟩
  ·obtain⟨a,o',hab,ho',rfl⟩:=lany i o hi
   show ObR oc s0 (φ0 i) _
   rw [φnew a i hab]
   obtain⟨o2,h1,h2,h3⟩:=obj a (isin a i hab)
   rw [ho'] at h1
   obtain rfl:=Option.some.inj h1
   exact ObR.ren hren h2 h3 (fun b _=>⟨rfl,fun _ h=>h⟩) (hs.objs a _ ho')
  ·obtain⟨a,o1,hab,ho1,rfl⟩:=lany i o hi
   obtain⟨a',o2,hab',ho2,rfl⟩:=lany j o' hj
   have hb:blk (φ0 i)=some b:=hb
   show blk (φ0 j)≠some b
   rw [φnew a i hab] at hb
   rw [φnew a' j hab']
   refine hs.apart a a' o1 o2 b (fun e=>hij ?_) ho1 ho2 (ngone _ hg) (ngone _ hg') hb
   subst e
   rw [only _ _ hab,only _ _ hab']
  ·obtain⟨h1,h2⟩:=hs.tabs g cs hg
   exact⟨free0 g h1,h2⟩
 refine⟨s0,rfl,rfl,sim0,VRt.ren hren as1 xs hids hv,fun s1 v x h1 hE hk hvids hvx=> ?_⟩
 have hkl:=z3y s1.m _ hk
 -- an object of the question's, as it was and as it is
 have same:∀a b o,(a,b)∈σ->look s.m a=some o->look s1.m b=some (renO σ o)/\s1.φ b=s.φ a/\isLoop o=false/\o≠ .gone:=by
  intro a b o hab ho
  have h0:=lnew a b o hab ho
  obtain⟨k1,k2,k3⟩:=hkl b _ h0
  obtain⟨o',ho',ht⟩:=hE.objs b _ trivial h0
  rw [k1] at ho'
  obtain rfl:=Option.some.inj ho'
  have hφ:s0.φ b=s.φ a:=φnew a b hab
  rw [z3w] at k2
  refine⟨k1,?_,k2,ngone _ k3⟩
  rw [<-hφ]
  cases o<;>simp only [renO,Turned] at ht
  ·exact ht.1
  ·exact ht.2.2.2.2 trivial
  ·exact ht.2.2.2 trivial
  ·exact ht
  ·exact ht
  ·simp [isLoop] at k2
  ·exact ht
 have hback:∀i∈is,subst (znd σ) (subst σ i)=i:=fun i hi=>zw5 σ i _ inj (sub i hi)
 have hτ:Ren (znd σ) (fun i=>∃a∈is,i=subst σ a) s1 ⟨s.φ,s.m,s1.w,s1.Im⟩:=by
  refine⟨fun _ _ h=>h,fun _ _ _=>rfl,?_⟩
  rintro i o ⟨a,ha,rfl⟩ ho
  obtain⟨o2,h2,_,_⟩:=obj a ha
  obtain⟨k1,k2,k3,_⟩:=same a _ o2 (sub a ha) h2
  rw [k1] at ho
  obtain rfl:=Option.some.inj ho
  rw [hback a ha]
  refine⟨o2,h2,?_⟩
  rw [k2]
  cases o2<;>simp [Turned,Evl.renO,zpw,isLoop] at k3 ⊢
 have hE':Ext (fun _=>True) s ⟨s.φ,s.m,s1.w,s1.Im⟩:=
  ⟨hE.os,hE.tape,hE.output,hE.size,fun b hb hf=>⟨(hE.frame b hb (free0 b hf)).1,hf⟩,fun b j h=>by
   rcases hE.imnew b j h with h|h|h
   ·exact .inl h
   ·exact .inr (.inl h)
   ·exact .inr (.inr fun hf=>h (free0 b hf)),hE.im,hE.keep,fun i o _ ho=>⟨o,ho,Turned.refl _ _⟩⟩
 refine⟨⟨s.φ,s.m,s1.w,s1.Im⟩,rfl,⟨fun i o hi=> ?_,hs.apart,h1.imlt,h1.glob,hs.tabs.ext hE'⟩,hE',rfl,?_⟩
 ·by_cases hmem:i∈is
  ·obtain⟨o2,h2,h3,h4⟩:=obj i hmem
   have hi:look s.m i=some o:=hi
   rw [hi] at h2
   obtain rfl:=Option.some.inj h2
   obtain⟨k1,k2,_,_⟩:=same i _ o (sub i hmem) hi
   have hob:=h1.objs _ _ k1
   rw [k2] at hob
   have:=ObR.ren hτ (o:=renO σ o) (by
    rw [yk2 σ o h4]
    intro j hj
    obtain⟨a,ha,rfl⟩:=List.mem_map.1 hj
    exact⟨a,h3 a ha,rfl⟩) (by rw [z3w];exact h4) (fun b _=>⟨rfl,fun _ h=>h⟩) hob
   rw [yiw hback o h4 h3] at this
   exact this
  ·by_cases hg:o= .gone
   ·subst hg;trivial
   have hfree:∀b,blk (s.φ i)=some b->zt1 s0 b:=by
    intro b hb j o' hj hg'
    obtain⟨a,o2,hab,ho2,rfl⟩:=lany j o' hj
    show blk (φ0 j)≠some b
    rw [φnew a j hab]
    exact hs.apart i a o o2 b (fun e=>hmem (e▸isin a j hab)) hi ho2 hg (ngone _ hg') hb
   refine ObR.ext hE' (fun b hb=> ?_) (hs.objs i o hi)
   have hlt:=(hs.objs i o hi).blk_lt hg hb
   refine⟨(hE.frame b hlt (hfree b hb)).1,fun j h=> ?_⟩
   rcases hE.imnew b j h with h|h|h
   ·exact h
   ·have h:s.w.heap.size<=b:=h
    omega
   ·exact absurd (hfree b hb) h
 ·refine VR.ren hτ v x (fun i hi=> ?_) hvx
  simp only [List.all_eq_true,List.elem_eq_mem,decide_eq_true_eq,List.mem_map] at hvids
  obtain⟨⟨a,b⟩,hab,rfl⟩:=hvids i hi
  exact⟨a,isin a b hab,only a b hab⟩
theorem yb4 {F:Oracle} (hF:zt2 P oc gl F) {s:S} {A:Act} {o:Oper} {e:Env} (hs:Sim oc gl s) (he:zdc s e A.tmps) (r:Option Nat) {f:Opd} {args:List Opd} {v:V}
  (ok:znw gl o f args=true) (h:zup F (zqo (f.ev e)) (evs e args) s.m=some v):ymp P oc gl r s A o v s.m:=by
 unfold znw at ok
 split at ok<;>try cases ok
 rename_i c ho
 split at ok<;>try cases ok
 rename_i g hc
 simp only [Bool.and_eq_true] at ok
 have hf:=zbp hs he ok.1
 have hargs:=ztu hs he _ _ ok.2
 replace hf:=z40 hf
 generalize zqo (f.ev e)=vf at hf h
 generalize evs e args=vs at hargs h
 intro next Q hn
 refine⟨fun _ _=>trivial,?_⟩
 rw [Oper.semAt_eq _ _ _ (fun c' hc'=>by rw [ho] at hc';cases hc')]
 have enter:∀(fid:Nat) (xs ys:Array Value) (R:Ending->World->Prop),A.eval g= .func (.func fid) xs ys->Enters P fid->CallsIn Fence.wide 0 P fid (xs.toList++(c.args.toList.map A.eval)++ys.toList).toArray s.w R->
   (∀e' w',R e' w'->∃x,e'= .returned x/\next (A.put o.dst x) w')->o.uponIn (fen r) 0 P A next Q ((execOp A.eval o).run P s.w):=by
  intro fid xs ys R hg hen hcall hnext
  have hrun:(execOp A.eval o).run P s.w= .ok (.enter fid (xs++c.args.map A.eval++ys)) s.w:=by
   simp [execOp,ho,Go.resolve,hc,hg,Deferred.ofValue,invoke,zn2 hen]
  rw [hrun]
  refine⟨fun h=>by simp [fen] at h,?_⟩
  have harr:(xs.toList++(c.args.toList.map A.eval)++ys.toList).toArray=xs++c.args.map A.eval++ys:=by
   apply Array.ext';simp
  rw [harr] at hcall
  exact CallsIn.mono (F:=fen r) (n:=0) hcall fun e' w' hr=>by
   obtain⟨x,rfl,hx⟩:=hnext e' w' hr
   exact hx
 unfold zup at h
 split at h<;>try cases h
 rename_i fid first caps
 simp only at h
 split at h
 case isFalse=>cases h
 rename_i hcond
 simp only [Bool.and_eq_true] at hcond
 split at h<;>try cases h
 rename_i v1 m1 hcall
 split at h
 case isFalse=>cases h
 rename_i hk
 simp only [Bool.and_eq_true] at hk
 obtain rfl:=Option.some.inj h
 obtain⟨xs,ys,hg,hx,hy⟩:=hf
 obtain⟨hen,hgo⟩:=hF _ _ _ _ _ _ hcall
 obtain⟨s0,hm0,hw0,hs0,hv0,hend⟩:=yfc hs hcond.1 hcond.2 (VRt.append _ _ _ _ (VRt.append _ _ _ _ hx hargs) hy)
 have hgo:=hgo s0 hs0 hm0 _ hv0
 rw [hw0] at hgo
 refine enter fid xs ys _ hg hen hgo ?_
 rintro e' w' ⟨s1,x,rfl,rfl,k1,k2,rfl,k4⟩
 obtain⟨s',hw',q1,q2,q3,q4⟩:=hend s1 v1 x k1 k2 hk.1 hk.2 k4
 exact⟨x,rfl,hw'▸hn s' x q1 q2 q3 q4⟩
theorem Turned.back {σ τ:List (Id×Id)} {o o1:Ob} {p q:Value} (h:Turned (Evl.renO σ o) o1 p q) (hu:okU o1=true):Turned o (Evl.renO τ o1) p q:=by
 cases o<;>cases o1<;>simp [okU] at hu<;>simp only [Evl.renO,Turned,zpw] at h ⊢ <;>exact h
theorem z3e (σ:List (Id×Id)) (m1:Mem):∀(l:List (Id×Id)) (m m':Mem),(∀a b b',(a,b)∈l->(a,b')∈l->b=b')->zs3 σ m1 l m=some m'->
  (∀a b,(a,b)∈l->∃o,look m1 b=some o/\okU o=true/\(∀j∈idsO o,(σ.map (·.2)).elem j=true)/\look m' a=some (renO (znd σ) o))/\∀i,(∀b,(i,b)∉l)->look m' i=look m i
 | [],m,m',_,h=>by
  simp only [zs3,Option.some.injEq] at h
  subst h
  exact⟨fun a b h=>by simp at h,fun _ _=>rfl⟩
 | (a0,b0)::r,m,m',hf,h=>by
  simp only [zs3] at h
  split at h
  case h_2=>cases h
  rename_i o ho
  split at h
  case isFalse=>cases h
  rename_i hc
  simp only [Bool.and_eq_true,List.all_eq_true] at hc
  obtain⟨h1,h2⟩:=z3e σ m1 r _ m' (fun a b b' h h'=>hf a b b' (by simp [h]) (by simp [h'])) h
  refine⟨fun a b hab=> ?_,fun i hi=> ?_⟩
  ·by_cases hr:∃b',(a,b')∈r
   ·obtain⟨b',hb'⟩:=hr
    have e:=hf a b b' hab (by simp [hb'])
    subst e
    exact h1 a b hb'
   ·have hab':a=a0/\b=b0:=by
     simp only [List.mem_cons,Prod.mk.injEq] at hab
     exact hab.resolve_right fun h=>hr ⟨b,h⟩
    obtain⟨rfl,rfl⟩:=hab'
    refine⟨o,ho,hc.1,hc.2,?_⟩
    rw [h2 a fun b' hb'=>hr ⟨b',hb'⟩]
    exact zbj _ _ _
  ·rw [h2 i fun b hb=>hi b (by simp [hb])]
   exact za5 _ _ _ _ fun e=>hi b0 (by simp [e])
theorem ycd {s:S} (hs:Sim oc gl s) {as1:List V} {is:List Id} (hw:within is 0 (idsL as1)=true) (hmv:movable is 0 s.m=true) {xs:List Value} (hv:VRt s as1 xs):
  ∃s0:S,s0.m=moved (number ⟨0,0⟩ 0 0 is) s.m (number ⟨0,0⟩ 0 0 is)/\s0.w=s.w/\Sim oc gl s0/\VRt s0 (renL (number ⟨0,0⟩ 0 0 is) as1) xs/\
   ∀(s1:S) (v:V) (x:Value) (m':Mem),Sim oc gl s1->Ext (fun _=>True) s0 s1->zs3 (number ⟨0,0⟩ 0 0 is) s1.m (number ⟨0,0⟩ 0 0 is) s.m=some m'->
    (ids v).all (fun i=>((number ⟨0,0⟩ 0 0 is).map (·.2)).elem i)=true->VR s1 v x->
    ∃s':S,s'.w=s1.w/\Sim oc gl s'/\Ext (fun _=>True) s s'/\s'.m=m'/\VR s' (ren (znd (number ⟨0,0⟩ 0 0 is)) v) x:=by
 obtain⟨σ,hσ⟩:∃σ,σ=number ⟨0,0⟩ 0 0 is:=⟨_,rfl⟩
 rw [<-hσ]
 simp only [movable,Bool.and_eq_true,List.all_eq_true] at hmv
 obtain⟨honce,hall⟩:=hmv
 have inj:∀a a' b,(a,b)∈σ->(a',b)∈σ->a=a':=by subst hσ;exact z6g _ _ is 0
 have isin:∀a b,(a,b)∈σ->a∈is:=by subst hσ;exact fun a b h=>(zq5 _ _ is 0 a b h).1
 have sub:∀i∈is,(i,subst σ i)∈σ:=by subst hσ;exact zu6 _ _ is 0
 have only:∀a b,(a,b)∈σ->b=subst σ a:=by subst hσ;exact fun a b=>zys _ _ is 0 a b honce
 have obj:∀i∈is,∃o,look s.m i=some o/\(∀j∈idsO o,j∈is)/\isLoop o=false:=by
  intro i hi
  have:=hall i hi
  split at this
  ·rename_i o ho
   simp only [Bool.and_eq_true,within,List.all_eq_true,Bool.or_eq_true,List.elem_eq_mem,decide_eq_true_eq,Bool.not_eq_true'] at this
   exact⟨o,ho,fun j hj=>(this.1.1 j hj).resolve_right (Nat.not_lt_zero _),this.1.2⟩
  ·cases this
 have hids:∀i∈idsL as1,i∈is:=by
  have h:∀i∈idsL as1,i∈is\/i.lv<0:=by
   simpa only [within,List.all_eq_true,Bool.or_eq_true,List.elem_eq_mem,decide_eq_true_eq] using hw
  exact fun i hi=>(h i hi).resolve_right (Nat.not_lt_zero _)
 let φ0:Id->Value:=fun i=>match σ.find? (fun p=>decide (p.2=i)) with
  | some p=>s.φ p.1
  | none=>undef
 have φnew:∀a b,(a,b)∈σ->φ0 b=s.φ a:=by
  intro a b hab
  show (match σ.find? (fun p=>decide (p.2=b)) with|some p=>s.φ p.1|none=>undef)=_
  cases hf:σ.find? (fun p=>decide (p.2=b)) with
  | none=>exact absurd (List.find?_eq_none.1 hf _ hab) (by simp)
  | some p=>
   have h1:=List.find?_some hf
   have h2:=List.mem_of_find?_eq_some hf
   simp only [decide_eq_true_eq] at h1
   obtain⟨p1,p2⟩:=p
   simp only at h1
   subst h1
   simp only
   rw [inj p1 a p2 h2 hab]
 let s0:S:=⟨φ0,moved σ s.m σ,s.w,s.Im⟩
 have lnew:∀a b o,(a,b)∈σ->look s.m a=some o->look s0.m b=some (renO σ o):=fun a b o hab ho=>zrm σ s.m σ a b o (fun a' h=>inj a' a b h hab) hab ho
 have lany:∀i o,look s0.m i=some o->∃a o',(a,i)∈σ/\look s.m a=some o'/\o=renO σ o':=fun i o hi=>zmo σ s.m σ i o hi
 have ngone:∀o,renO σ o≠ .gone->o≠ .gone:=fun o h e=>h (by rw [e];rfl)
 have hren:Ren σ (fun i=>i∈is) s s0:=by
  refine⟨fun _ _ h=>h,fun _ _ _=>rfl,fun i o hi ho=> ?_⟩
  have hab:=sub i hi
  refine⟨_,lnew i _ o hab ho,?_⟩
  show Turned o _ (s.φ i) (φ0 (subst σ i))
  rw [φnew _ _ hab]
  exact Turned.renO σ o _
 -- who is free among all is free here
 have free0:∀b,zt1 s b->zt1 s0 b:=by
  intro b hf i o hi hg
  obtain⟨a,o',hab,ho',rfl⟩:=lany i o hi
  show blk (φ0 i)≠some b
  rw [φnew a i hab]
  exact hf a o' ho' (ngone _ hg)
 have sim0:Sim oc gl s0:=by
  refine⟨fun i o hi=> ?_,fun i j o o' b hij hi hj hg hg' hb=> ?_,hs.imlt,hs.glob,fun g cs hg=> ?_⟩
  ·obtain⟨a,o',hab,ho',rfl⟩:=lany i o hi
   show ObR oc s0 (φ0 i) _
   rw [φnew a i hab]
   obtain⟨o2,h1,h2,h3⟩:=obj a (isin a i hab)
   rw [ho'] at h1
   obtain rfl:=Option.some.inj h1
   exact ObR.ren hren h2 h3 (fun b _=>⟨rfl,fun _ h=>h⟩) (hs.objs a _ ho')
  ·obtain⟨a,o1,hab,ho1,rfl⟩:=lany i o hi
   obtain⟨a',o2,hab',ho2,rfl⟩:=lany j o' hj
   have hb:blk (φ0 i)=some b:=hb
   show blk (φ0 j)≠some b
   rw [φnew a i hab] at hb
   rw [φnew a' j hab']
   refine hs.apart a a' o1 o2 b (fun e=>hij ?_) ho1 ho2 (ngone _ hg) (ngone _ hg') hb
   subst e
   rw [only _ _ hab,only _ _ hab']
  ·obtain⟨h1,h2⟩:=hs.tabs g cs hg
   exact⟨free0 g h1,h2⟩
 refine⟨s0,rfl,rfl,sim0,VRt.ren hren as1 xs hids hv,fun s1 v x m' h1 hE hk hvids hvx=> ?_⟩
 have fst1:∀a b b',(a,b)∈σ->(a,b')∈σ->b=b':=fun a b b' h h'=>(only a b h).trans (only a b' h').symm
 obtain⟨hin,hout⟩:=z3e σ s1.m σ s.m m' fst1 hk
 have hrange:∀j,(σ.map (·.2)).elem j=true->∃a∈is,j=subst σ a:=by
  intro j hj
  simp only [List.elem_eq_mem,decide_eq_true_eq,List.mem_map] at hj
  obtain⟨⟨a,b⟩,hab,rfl⟩:=hj
  exact⟨a,isin a b hab,only a b hab⟩
 -- an object of the call's, as it is behind it, and as it comes back
 have now:∀i∈is,∃o1,look s1.m (subst σ i)=some o1/\okU o1=true/\(∀j∈idsO o1,∃a∈is,j=subst σ a)/\look m' i=some (renO (znd σ) o1):=by
  intro i hi
  obtain⟨o1,k1,k2,k3,k4⟩:=hin i _ (sub i hi)
  exact⟨o1,k1,k2,fun j hj=>hrange j (k3 j hj),k4⟩
 have away:∀i,i∉is->look m' i=look s.m i:=fun i hi=>hout i fun b hab=>hi (isin i b hab)
 let φ':Id->Value:=fun i=>if i∈is then s1.φ (subst σ i) else s.φ i
 have φin:∀i∈is,φ' i=s1.φ (subst σ i):=fun i hi=>if_pos hi
 have φout:∀i,i∉is->φ' i=s.φ i:=fun i hi=>if_neg hi
 have gone1:∀o1,okU o1=true->renO (znd σ) o1≠ .gone/\o1≠ .gone/\isLoop o1=false:=by
  intro o1 h
  cases o1<;>simp [okU,Evl.renO,isLoop] at h ⊢
 have hback:∀i∈is,subst (znd σ) (subst σ i)=i:=fun i hi=>zw5 σ i _ inj (sub i hi)
 have hfree:∀i o,i∉is->look s.m i=some o->o≠ .gone->∀b,blk (s.φ i)=some b->zt1 s0 b:=by
  intro i o hmem hi hg b hb j o' hj hg'
  obtain⟨a,o2,hab,ho2,rfl⟩:=lany j o' hj
  show blk (φ0 j)≠some b
  rw [φnew a j hab]
  exact hs.apart i a o o2 b (fun e=>hmem (e▸isin a j hab)) hi ho2 hg (ngone _ hg') hb
 let s':S:=⟨φ',m',s1.w,s1.Im⟩
 have hτ:Ren (znd σ) (fun i=>∃a∈is,i=subst σ a) s1 s':=by
  refine⟨fun _ _ h=>h,fun _ _ _=>rfl,?_⟩
  rintro i o ⟨a,ha,rfl⟩ ho
  obtain⟨o1,k1,k2,k3,k4⟩:=now a ha
  rw [k1] at ho
  obtain rfl:=Option.some.inj ho
  rw [hback a ha]
  refine⟨_,k4,?_⟩
  show Turned o1 _ (s1.φ (subst σ a)) (φ' a)
  rw [φin a ha]
  exact Turned.renO _ _ _
 have hE':Ext (fun _=>True) s s':=by
  refine⟨hE.os,hE.tape,hE.output,hE.size,fun b hb hf=>⟨(hE.frame b hb (free0 b hf)).1,fun i o hi hg=> ?_⟩,fun b j h=> ?_,hE.im,hE.keep,fun i o _ ho=> ?_⟩
  ·show blk (φ' i)≠some b
   by_cases hmem:i∈is
   ·obtain⟨o1,k1,k2,_,_⟩:=now i hmem
    rw [φin i hmem]
    exact(hE.frame b hb (free0 b hf)).2 _ o1 k1 (gone1 o1 k2).2.1
   ·rw [φout i hmem]
    have hi:look m' i=some o:=hi
    rw [away i hmem] at hi
    exact hf i o hi hg
  ·rcases hE.imnew b j h with h|h|h
   ·exact .inl h
   ·exact .inr (.inl h)
   ·exact .inr (.inr fun hf=>h (free0 b hf))
  ·by_cases hmem:i∈is
   ·obtain⟨o1,k1,k2,_,k4⟩:=now i hmem
    refine⟨_,k4,?_⟩
    obtain⟨o',ho',ht⟩:=hE.objs (subst σ i) _ trivial (lnew i _ o (sub i hmem) ho)
    rw [k1] at ho'
    obtain rfl:=Option.some.inj ho'
    have hφ:s0.φ (subst σ i)=s.φ i:=φnew i _ (sub i hmem)
    rw [hφ] at ht
    show Turned o _ (s.φ i) (φ' i)
    rw [φin i hmem]
    exact ht.back k2
   ·refine⟨o,(away i hmem).trans ho,?_⟩
    show Turned o o (s.φ i) (φ' i)
    rw [φout i hmem]
    exact Turned.refl _ _
 refine⟨s',rfl,⟨fun i o hi=> ?_,fun i j o o' b hij hi hj hg hg' hb=> ?_,h1.imlt,h1.glob,hs.tabs.ext hE'⟩,hE',rfl,?_⟩
 ·have hi:look m' i=some o:=hi
  show ObR oc s' (φ' i) o
  by_cases hmem:i∈is
  ·obtain⟨o1,k1,k2,k3,k4⟩:=now i hmem
   rw [k4] at hi
   obtain rfl:=Option.some.inj hi
   rw [φin i hmem]
   exact ObR.ren hτ k3 (gone1 o1 k2).2.2 (fun b _=>⟨rfl,fun _ h=>h⟩) (h1.objs _ _ k1)
  ·by_cases hg:o= .gone
   ·subst hg;trivial
   rw [away i hmem] at hi
   rw [φout i hmem]
   refine ObR.ext hE' (fun b hb=> ?_) (hs.objs i o hi)
   have hf0:=hfree i o hmem hi hg b hb
   have hlt:=(hs.objs i o hi).blk_lt hg hb
   refine⟨(hE.frame b hlt hf0).1,fun j h=> ?_⟩
   rcases hE.imnew b j h with h|h|h
   ·exact h
   ·have h:s.w.heap.size<=b:=h
    omega
   ·exact absurd hf0 h
 ·have hi:look m' i=some o:=hi
  have hj:look m' j=some o':=hj
  have hb:blk (φ' i)=some b:=hb
  show blk (φ' j)≠some b
  by_cases mi:i∈is
  ·obtain⟨oi,a1,a2,_,_⟩:=now i mi
   rw [φin i mi] at hb
   by_cases mj:j∈is
   ·obtain⟨oj,b1,b2,_,_⟩:=now j mj
    rw [φin j mj]
    refine h1.apart _ _ oi oj b (fun e=>hij ?_) a1 b1 (gone1 oi a2).2.1 (gone1 oj b2).2.1 hb
    rw [<-hback i mi,<-hback j mj,e]
   ·rw [φout j mj]
    rw [away j mj] at hj
    intro hbj
    have hlt:=(hs.objs j o' hj).blk_lt hg' hbj
    exact(hE.frame b hlt (hfree j o' mj hj hg' b hbj)).2 _ oi a1 (gone1 oi a2).2.1 hb
  ·rw [φout i mi] at hb
   rw [away i mi] at hi
   by_cases mj:j∈is
   ·obtain⟨oj,b1,b2,_,_⟩:=now j mj
    rw [φin j mj]
    have hlt:=(hs.objs i o hi).blk_lt hg hb
    exact(hE.frame b hlt (hfree i o mi hi hg b hb)).2 _ oj b1 (gone1 oj b2).2.1
   ·rw [φout j mj]
    rw [away j mj] at hj
    exact hs.apart i j o o' b hij hi hj hg hg' hb
 ·refine VR.ren hτ v x (fun i hi=> ?_) hvx
  simp only [List.all_eq_true] at hvids
  exact hrange i (hvids i hi)
theorem ygz {s:S} (hs:Sim oc gl s):∀(vs:List V) (xs:List Value),VRt s vs xs->VRt s (vs.map (zvq s.m)) xs
 | [],_,h=>h
 | v::r,_,⟨x,xs,h1,h2,h3⟩=>by
  refine⟨x,xs,h1,?_,ygz hs r xs h3⟩
  cases v<;>simp only [zvq]<;>try exact h2
  split
  ·rename_i d hd
   exact zor hs _ _ _ hd h2
  ·exact h2
theorem z9w {F:Oracle} (hF:zt2 P oc gl F) {s:S} {A:Act} {o:Oper} {e:Env} (hs:Sim oc gl s) (he:zdc s e A.tmps) (r:Option Nat) {f:Opd} {args:List Opd} {v:V} {m':Mem}
  (imm:Bool) (ok:znw gl o f args=true) (h:zsj F imm (zqo (f.ev e)) (evs e args) s.m=some (v,m')):ymp P oc gl r s A o v m':=by
 unfold znw at ok
 split at ok<;>try cases ok
 rename_i c ho
 split at ok<;>try cases ok
 rename_i g hc
 simp only [Bool.and_eq_true] at ok
 have hf:=zbp hs he ok.1
 have hargs:=ztu hs he _ _ ok.2
 replace hf:=z40 hf
 generalize zqo (f.ev e)=vf at hf h
 generalize evs e args=vs at hargs h
 intro next Q hn
 refine⟨fun _ _=>trivial,?_⟩
 rw [Oper.semAt_eq _ _ _ (fun c' hc'=>by rw [ho] at hc';cases hc')]
 have enter:∀(fid:Nat) (xs ys:Array Value) (R:Ending->World->Prop),A.eval g= .func (.func fid) xs ys->Enters P fid->CallsIn Fence.wide 0 P fid (xs.toList++(c.args.toList.map A.eval)++ys.toList).toArray s.w R->
   (∀e' w',R e' w'->∃x,e'= .returned x/\next (A.put o.dst x) w')->o.uponIn (fen r) 0 P A next Q ((execOp A.eval o).run P s.w):=by
  intro fid xs ys R hg hen hcall hnext
  have hrun:(execOp A.eval o).run P s.w= .ok (.enter fid (xs++c.args.map A.eval++ys)) s.w:=by
   simp [execOp,ho,Go.resolve,hc,hg,Deferred.ofValue,invoke,zn2 hen]
  rw [hrun]
  refine⟨fun h=>by simp [fen] at h,?_⟩
  have harr:(xs.toList++(c.args.toList.map A.eval)++ys.toList).toArray=xs++c.args.map A.eval++ys:=by
   apply Array.ext';simp
  rw [harr] at hcall
  exact CallsIn.mono (F:=fen r) (n:=0) hcall fun e' w' hr=>by
   obtain⟨x,rfl,hx⟩:=hnext e' w' hr
   exact hx
 unfold zsj at h
 split at h<;>try cases h
 rename_i fid first caps
 simp only at h
 split at h
 case isFalse=>cases h
 rename_i hcond
 simp only [Bool.and_eq_true] at hcond
 split at h<;>try cases h
 rename_i v1 m1 hcall
 obtain⟨xs,ys,hg,hx,hy⟩:=hf
 obtain⟨hen,hgo⟩:=hF _ _ _ _ _ _ hcall
 obtain⟨s0,hm0,hw0,hs0,hv0,hend⟩:=ycd hs hcond.1 hcond.2 (ygz hs _ _ (VRt.append _ _ _ _ (VRt.append _ _ _ _ hx hargs) hy))
 have hgo:=hgo s0 hs0 hm0 _ hv0
 rw [hw0] at hgo
 refine enter fid xs ys _ hg hen hgo ?_
 rintro e' w' ⟨s1,x,rfl,rfl,k1,k2,rfl,k4⟩
 split at h
 ·split at h
  case isFalse=>cases h
  rename_i hlow
  simp only [Bool.and_eq_true] at hlow
  split at h<;>try cases h
  rename_i v2 m2 htk
  split at h
  case isFalse=>cases h
  rename_i hk
  simp only [Option.map_eq_some_iff,Prod.mk.injEq] at h
  obtain⟨m3,hb,rfl,rfl⟩:=h
  obtain⟨s2,hw2,p1,p2,p3,p4⟩:=yca (zs4 k1 k2 (by rw [hm0];exact hlow.1) hlow.2) htk k4
  subst p3
  obtain⟨s',hw',q1,q2,q3,q4⟩:=hend s2 v2 x m3 p1 p2 hb hk p4
  exact⟨x,rfl,(hw'.trans hw2)▸hn s' x q1 q2 q3 q4⟩
 ·split at h
  case isFalse=>cases h
  rename_i hk
  simp only [Option.map_eq_some_iff,Prod.mk.injEq] at h
  obtain⟨m2,hb,rfl,rfl⟩:=h
  obtain⟨s',hw',q1,q2,q3,q4⟩:=hend s1 v1 x m2 k1 k2 hb hk k4
  exact⟨x,rfl,hw'▸hn s' x q1 q2 q3 q4⟩
def yg3 (ops:Array Oper) (nt:Nat):Option (Nat×Bool)->Option (Nat×Bool)->Bool
 | none,none=>true
 | some (t,w),some (j,w')=>w==w'&&(ops[j]?).bind (·.dst)==some t&&decide (t<nt)
 | _,_=>false
def yqd (P:Program) (gl:Globs) (o:Oper):COp->Bool
 | .call _ _ f args=>znw gl o f args
 | .callR _ f args _=>znw gl o f args
 | .callB _ f args _=>znw gl o f args
 | .callD f args=>znw gl o f args
 | .callN f args=>znw gl o f args
 | .callK _ f args=>znw gl o f args
 | .callQ f args=>znw gl o f args
 | .callU _ f args=>znw gl o f args
 | .storeR n a x _=>ypi P gl o (.store n a x)
 | .appendF r a x=>ypi P gl o (.append r a x)
 | .mapSetR kk m k x _=>ypi P gl o (.mapSet kk m k x)
 | op=>ypi P gl o op
def yph (P:Program) (gl:Globs) (nt:Nat) (ops:Array Oper) (c:CO) (o:Oper):Bool:=
 c.dst==o.dst&&(match c.dst with|none=>true|some d=>decide (d<nt))&&yg3 ops nt c.guard o.guard&&
  yqd P gl o c.op
def zog (P:Program) (gl:Globs) (nt:Nat) (ops:Array Oper):List CO->List Oper->Bool
 | [],[]=>true
 | c::r,o::q=>yph P gl nt ops c o&&zog P gl nt ops r q
 | _,_=>false
structure Good (P:Program) (oc:zek) (gl:Globs) (F:Oracle):Prop where
 call:zt2 P oc gl F
 round:zy7 P oc gl F
theorem yjl {F:Oracle} (hF:Good P oc gl F) {s:S} {A:Act} {o:Oper} {e:Env} (hs:Sim oc gl s) (he:zdc s e A.tmps) (r:Option Nat) (cx:Cx) (slot:Nat) {op:COp} {v:V} {m':Mem}
  (ok:yqd P gl o op=true) (h:zdg F cx slot e s.m op=some (v,m')):ymp P oc gl r s A o v m':=by
 by_cases hc:∃a b f args,op= .call a b f args
 ·obtain⟨a,b,f,args,rfl⟩:=hc
  exact zmp hF.call hF.round hs he r cx slot ok h
 by_cases hr:∃b f args rs,op= .callR b f args rs
 ·obtain⟨b,f,args,rs,rfl⟩:=hr
  simp only [zdg] at h
  split at h<;>try cases h
  rename_i v1 m1 hcall
  split at h<;>try cases h
  exact zmp hF.call hF.round hs he r cx slot ok hcall
 by_cases hbb:∃b f args t,op= .callB b f args t
 ·obtain⟨b,f,args,t,rfl⟩:=hbb
  simp only [zdg] at h
  exact zwo hs he (fun s1 h1 h2 v m1 hr=>zmp hF.call hF.round h1 h2 r cx slot ok hr) h
 by_cases hdd:∃f args,op= .callD f args
 ·obtain⟨f,args,rfl⟩:=hdd
  simp only [zdg] at h
  split at h<;>try cases h
  rename_i g hf
  split at h<;>try cases h
  rw [<-hf] at h
  exact zmp hF.call hF.round hs he r cx slot ok h
 by_cases hkk:∃b f args,op= .callK b f args
 ·obtain⟨b,f,args,rfl⟩:=hkk
  simp only [zdg] at h
  split at h<;>try cases h
  rename_i v1 m1 hcall
  split at h
  case isFalse=>cases h
  rename_i hle
  simp only [Option.some.injEq,Prod.mk.injEq] at h
  obtain⟨rfl,rfl⟩:=h
  have hgo:=zmp (o:=o) (A:=A) hF.call hF.round hs he r cx slot ok hcall
  intro next Q hn
  refine hgo next Q fun s' x q1 q2 q3 q4=> ?_
  subst q3
  obtain⟨j1,j2⟩:=ydb (s:=s) (mm:=s.m) q1 (fun i o ho=>q2.objs i o trivial ho) (fun i o' ho' c hc _=>by rw [ho'] at hc;exact hc) hle
  exact hn ⟨s'.φ,s.m,s'.w,s'.Im⟩ x j1 (Ext.trans q2 j2 (fun _ _=>trivial)) rfl (VR.ext j2 _ _ (fun _ _=>trivial) q4)
 by_cases hqq:∃f args,op= .callQ f args
 ·obtain⟨f,args,rfl⟩:=hqq
  simp only [zdg,Option.map_eq_some_iff,Prod.mk.injEq] at h
  obtain⟨v1,hq,rfl,rfl⟩:=h
  exact yb4 hF.call hs he r ok hq
 by_cases huu:∃b f args,op= .callU b f args
 ·obtain⟨b,f,args,rfl⟩:=huu
  simp only [zdg] at h
  exact z9w hF.call hs he r b ok h
 by_cases hnn:∃f args,op= .callN f args
 ·obtain⟨f,args,rfl⟩:=hnn
  simp only [zdg] at h
  split at h<;>try cases h
  rename_i g hf
  split at h<;>try cases h
  rw [<-hf] at h
  exact zmp hF.call hF.round hs he r cx slot ok h
 by_cases ht:∃n a x rs,op= .storeR n a x rs
 ·obtain⟨n,a,x,rs,rfl⟩:=ht
  simp only [zdg] at h
  split at h<;>try cases h
  exact ynf.ok (zy1 hs he F cx slot (op:= .store n a x) ok h)
 by_cases hap:∃r a x,op= .appendF r a x
 ·obtain⟨rr,a,x,rfl⟩:=hap
  simp only [zdg] at h
  split at h<;>try cases h
  rename_i v1 m1 happ
  simp only [Option.map_eq_some_iff,Prod.mk.injEq] at h
  obtain⟨d,hd,rfl,rfl⟩:=h
  have hgo:ymp P oc gl r s A o v1 m1:=ynf.ok (zy1 hs he F cx slot (op:= .append rr a x) ok happ)
  intro next Q hn
  refine hgo next Q fun s' y q1 q2 q3 q4=>hn s' y q1 q2 q3 ?_
  subst q3
  exact zor q1 _ _ _ hd q4
 by_cases hm:∃kk m k x rs,op= .mapSetR kk m k x rs
 ·obtain⟨kk,m,k,x,rs,rfl⟩:=hm
  simp only [zdg] at h
  split at h<;>try cases h
  exact ynf.ok (zy1 hs he F cx slot (op:= .mapSet kk m k x) ok h)
 refine ynf.ok (zy1 hs he F cx slot ?_ h)
 cases op<;>first |exact ok|exact absurd ⟨_,_,_,_,rfl⟩ hc|exact absurd ⟨_,_,_,_,rfl⟩ hr|exact absurd ⟨_,_,_,_,rfl⟩ ht|exact absurd ⟨_,_,_,_,_,rfl⟩ hm|exact absurd ⟨_,_,rfl⟩ hdd|exact absurd ⟨_,_,rfl⟩ hnn|exact absurd ⟨_,_,rfl⟩ hqq|exact absurd ⟨_,_,_,rfl⟩ huu|exact absurd ⟨_,_,_,rfl⟩ hkk|exact absurd ⟨_,_,_,rfl⟩ hap|exact absurd ⟨_,_,_,_,rfl⟩ hbb
theorem z66 {F:Oracle} (hF:Good P oc gl F) {s:S} {A:Act} {e:Env} (hs:Sim oc gl s) (he:zdc s e A.tmps) (r:Option Nat) (cx:Cx) {nt:Nat} (hnt:nt<=A.tmps.size) {ops:Array Oper} {i:Nat} {c:CO} {o:Oper} (hi:ops[i]? =some o) {v:V} {m':Mem}
  (ok:yph P gl nt ops c o=true) (h:zfk F cx e s.m c=some (v,m')) {K:Act->World->Prop} {Q:Exit->Act->World->Prop}
  (hK:∀s' x,Sim oc gl s'->Ext (fun _=>True) s s'->s'.m=m'->VR s' v x->K (A.put o.dst x) s'.w):wpOpIn (fen r) 0 P ops Q i K A s.w:=by
 simp only [yph,Bool.and_eq_true,beq_iff_eq] at ok
 obtain⟨⟨⟨hd,hdt⟩,hg⟩,hop⟩:=ok
 unfold wpOpIn
 simp only [hi]
 have go:zdg F cx (c.dst.getD 0) e s.m c.op=some (v,m')->o.wpIn (fen r) 0 P A s.w K Q:=fun h=>yjl hF hs he r cx _ hop h K Q hK
 have skip:v= .skip->m'=s.m->(∀f,o.about P s.w A.eval=some f->(fen r).fn f)/\K (A.put o.dst undef) s.w:=by
  rintro rfl rfl
  exact⟨fun _ _=>trivial,hK s undef hs (Ext.refl _ _) rfl rfl⟩
 unfold zfk at h
 unfold yg3 at hg
 cases hcg:c.guard with
 | none=>
  rw [hcg] at h hg
  cases hog:o.guard with
  | none=>simp only [Region.wanted,hog,if_true];exact go h
  | some p=>rw [hog] at hg;cases hg
 | some p=>
  obtain⟨t,w⟩:=p
  rw [hcg] at h hg
  cases hog:o.guard with
  | none=>rw [hog] at hg;cases hg
  | some q=>
   obtain⟨j,w'⟩:=q
   rw [hog] at hg
   simp only [Bool.and_eq_true,beq_iff_eq,decide_eq_true_eq] at hg
   obtain⟨⟨rfl,hj⟩,ht⟩:=hg
   have hlt:t<A.tmps.size:=by omega
   have hval:=he t
   simp only at h
   split at h
   ·rename_i b hget
    rw [hget] at hval
    have hv:A.tmps.getD t undef= .bool b:=hval
    have hv2:A.tmps[t]? =some (.bool b):=by
     rw [Array.getD_eq_getD_getElem?] at hv
     simp [hlt] at hv ⊢;exact hv
    have hy:yielded ops A.tmps j=some b:=by
     simp only [yielded,hj,Option.bind_some,hv2]
    have hw:Region.wanted o (yielded ops A.tmps)=(b==w):=by
     simp only [Region.wanted,hog,hy];cases b<;>cases w<;>rfl
    rw [hw]
    split at h
    ·rename_i e;subst e
     simp only [beq_self_eq_true,if_true]
     exact go h
    ·rename_i e
     simp only [Option.some.injEq,Prod.mk.injEq] at h
     have:(b==w)=false:=by simpa using e
     simp only [this,Bool.false_eq_true,if_false]
     exact skip h.1.symm h.2.symm
   ·rename_i hget
    rw [hget] at hval
    have hv:A.tmps.getD t undef=undef:=hval
    have hy:yielded ops A.tmps j=none:=by
     simp only [yielded,hj,Option.bind_some]
     have:A.tmps[t]? =some undef:=by
      rw [Array.getD_eq_getD_getElem?] at hv
      simp [hlt] at hv ⊢;exact hv
     rw [this];rfl
    have hw:Region.wanted o (yielded ops A.tmps)=false:=by
     simp only [Region.wanted,hog,hy];rfl
    simp only [Option.some.injEq,Prod.mk.injEq] at h
    rw [hw]
    exact skip h.1.symm h.2.symm
   ·cases h
theorem zjz (A:Act) (d:Option Nat) (x:Value):(A.put d x).tmps.size=A.tmps.size/\(A.put d x).defers=A.defers:=by
 cases d<;>simp [Act.put]
theorem zq8 (A:Act) (d:Nat) (x:Value) (h:d<A.tmps.size) (t:Nat):(A.put (some d) x).tmps.getD t undef=if d=t then x else A.tmps.getD t undef:=by
 simp only [Act.put,Array.getD_eq_getD_getElem?,Array.getElem?_setIfInBounds]
 by_cases e:d=t
 ·subst e;simp [h]
 ·simp [e]
theorem zus {s:S} {e:Env} {A:Act} (he:zdc s e A.tmps) (d:Option Nat) (hd:∀t,d=some t->t<A.tmps.size) {v:V} {x:Value} (hv:VR s v x):zdc s (put? e d v) (A.put d x).tmps:=by
 cases d with
 | none=>exact he
 | some d=>
  intro t
  rw [zq8 A d x (hd d rfl) t]
  show VR s (get (put e d v) t) _
  by_cases h:d=t
  ·subst h;rw [zla];simpa using hv
  ·rw [zph e d t v h];simpa [h] using he t
theorem ztj {s:S} {e:Env} {tmps:Array Value} (p:Nat×V->Bool) (hp:∀t v v',p (t,v)=p (t,v')) (he:zdc s e tmps):zdc s (e.filter p) tmps:=by
 intro t
 rcases z3r p hp e t with h|h
 ·rw [h];exact he t
 ·rw [h];trivial
theorem yc5 (e:Env) (u:Nat):∀(live:List Nat),get (only live e) u=get e u\/get (only live e) u= .undef
 | []=> .inr rfl
 | t::r=>by
  by_cases h:t=u
  ·subst h;exact .inl (by simp [only,get])
  ·have:=yc5 e u r
   simpa [only,get,h] using this
theorem zqy {s:S} {e:Env} {tmps:Array Value} (live:List Nat) (he:zdc s e tmps):zdc s (only live e) tmps:=by
 intro t
 rcases yc5 e t live with h|h
 ·rw [h];exact he t
 ·rw [h];trivial
theorem z6h {nt:Nat} {ops:Array Oper} {c:CO} {o:Oper} (ok:yph P gl nt ops c o=true):c.dst=o.dst/\∀t,c.dst=some t->t<nt:=by
 simp only [yph,Bool.and_eq_true,beq_iff_eq] at ok
 refine⟨ok.1.1.1,fun t ht=> ?_⟩
 have:=ok.1.1.2
 rw [ht] at this
 simpa using this
theorem yh7 {F:Oracle} (hF:Good P oc gl F) (r:Option Nat) (cx:Cx) {nt:Nat} {ops:Array Oper} {Q:Exit->Act->World->Prop} (rest:List Nat):
  ∀(cos:List CO) (os:List Oper) (i:Nat) (e e':Env) (m':Mem) (s:S) (A:Act),(∀k,k<os.length->ops[i+k]? =os[k]?)->zog P gl nt ops cos os=true->zk9 F cx cos e s.m=some (e',m')->
   Sim oc gl s->zdc s e A.tmps->nt<=A.tmps.size->
   (∀s' A',Sim oc gl s'->Ext (fun _=>True) s s'->s'.m=m'->zdc s' e' A'.tmps->A'.tmps.size=A.tmps.size->A'.defers=A.defers->wpOpsIn (fen r) 0 P ops Q rest A' s'.w)->
   wpOpsIn (fen r) 0 P ops Q (List.range' i os.length++rest) A s.w
 | [],[],i,e,e',m',s,A,_,_,h,hs,he,hnt,hQ=>by
  simp only [zk9,Option.some.injEq,Prod.mk.injEq] at h
  obtain⟨rfl,rfl⟩:=h
  exact hQ s A hs (Ext.refl _ _) rfl he rfl rfl
 | [],_::_,_,_,_,_,_,_,_,ok,_,_,_,_,_=>by simp [zog] at ok
 | _::_,[],_,_,_,_,_,_,_,ok,_,_,_,_,_=>by simp [zog] at ok
 | c::cos,o::os,i,e,e',m',s,A,hops,ok,h,hs,he,hnt,hQ=>by
  simp only [zog,Bool.and_eq_true] at ok
  rw [zws] at h
  split at h<;>try cases h
  rename_i v m1 h1
  have hi:ops[i]? =some o:=by simpa using hops 0 (by simp)
  rw [List.length_cons,List.range'_succ,List.cons_append,wpOpsIn_cons]
  obtain⟨hd,hdt⟩:=z6h ok.1
  refine z66 hF hs he r cx hnt hi ok.1 h1 fun s1 x k1 k2 k3 k4=> ?_
  have hsz:=zjz A o.dst x
  subst k3
  refine yh7 hF r cx rest cos os (i+1) _ e' m' s1 (A.put o.dst x) (fun k hk=> ?_) ok.2 h k1 ?_ (by rw [hsz.1];exact hnt) fun s' A' q1 q2 q3 q4 q5 q6=> ?_
  ·have:=hops (k+1) (by simp;omega)
   rw [show i+1+k=i+(k+1) by omega,this]
   simp
  ·rw [hd]
   exact zus (zdc.ext k2 (fun _ _ _=>trivial) he) o.dst (fun t ht=>by have:=hdt t (hd.trans ht);omega) k4
  ·exact hQ s' A' q1 (Ext.trans k2 q2 (fun _ _=>trivial)) q3 q4 (q5.trans hsz.1) (q6.trans hsz.2)
theorem z4b {ops:Array Oper} {i:Nat} {o:Oper} (hi:ops[i]? =some o) (hg:o.guard=none) (r:Option Nat) {A:Act} {w w':World} {x:Value} (h:(execOp A.eval o).run P w= .ok (.value x) w') {K:Act->World->Prop} {Q:Exit->Act->World->Prop}
  (hK:K (A.put o.dst x) w'):wpOpIn (fen r) 0 P ops Q i K A w:=by
 unfold wpOpIn
 simp only [hi,Region.wanted,hg,if_true]
 refine⟨fun _ _=>trivial,?_⟩
 rw [Oper.semAt_eq _ _ _ (z07 h (by simp)),h]
 exact hK
theorem ybi {F:Oracle} (hF:Good P oc gl F) (r:Option Nat) (cx:Cx) {nt:Nat} {ops:Array Oper} {Q:Exit->Act->World->Prop}:
  ∀(cos:List CO) (os:List Oper) (i:Nat) (e e':Env) (m':Mem) (s:S) (A:Act),(∀k,k<os.length->ops[i+k]? =os[k]?)->zog P gl nt ops cos os=true->zk9 F cx cos e s.m=some (e',m')->
   Sim oc gl s->zdc s e A.tmps->nt<=A.tmps.size->
   (∀s' A',Sim oc gl s'->Ext (fun _=>True) s s'->s'.m=m'->zdc s' e' A'.tmps->A'.tmps.size=A.tmps.size->A'.defers=A.defers->Q .normal A' s'.w)->
   wpOpsIn (fen r) 0 P ops Q (List.range' i os.length) A s.w
 | [],[],i,e,e',m',s,A,_,_,h,hs,he,hnt,hQ=>by
  simp only [zk9,Option.some.injEq,Prod.mk.injEq] at h
  obtain⟨rfl,rfl⟩:=h
  exact hQ s A hs (Ext.refl _ _) rfl he rfl rfl
 | [],_::_,_,_,_,_,_,_,_,ok,_,_,_,_,_=>by simp [zog] at ok
 | _::_,[],_,_,_,_,_,_,_,ok,_,_,_,_,_=>by simp [zog] at ok
 | c::cos,o::os,i,e,e',m',s,A,hops,ok,h,hs,he,hnt,hQ=>by
  simp only [zog,Bool.and_eq_true] at ok
  rw [zws] at h
  split at h<;>try cases h
  rename_i v m1 h1
  have hi:ops[i]? =some o:=by simpa using hops 0 (by simp)
  rw [List.length_cons,List.range'_succ,wpOpsIn_cons]
  obtain⟨hd,hdt⟩:=z6h ok.1
  refine z66 hF hs he r cx hnt hi ok.1 h1 fun s1 x k1 k2 k3 k4=> ?_
  have hsz:=zjz A o.dst x
  subst k3
  refine ybi hF r cx cos os (i+1) _ e' m' s1 (A.put o.dst x) (fun k hk=> ?_) ok.2 h k1 ?_ (by rw [hsz.1];exact hnt) fun s' A' q1 q2 q3 q4 q5 q6=> ?_
  ·have:=hops (k+1) (by simp;omega)
   rw [show i+1+k=i+(k+1) by omega,this]
   simp
  ·rw [hd]
   exact zus (zdc.ext k2 (fun _ _ _=>trivial) he) o.dst (fun t ht=>by have:=hdt t (hd.trans ht);omega) k4
  ·exact hQ s' A' q1 (Ext.trans k2 q2 (fun _ _=>trivial)) q3 q4 (q5.trans hsz.1) (q6.trans hsz.2)
end
end Go.Evl
namespace Go.Evl
open Go.RowKit
def tO:Opd->List Nat
 | .t n=>[n]
 | .k _=>[]
def tOs:List Opd->List Nat
 | []=>[]
 | x::r=>tO x++tOs r
def tP:List (Nat×Nat×Opd)->List Nat
 | []=>[]
 | (_,_,x)::r=>tO x++tP r
def tQ:Option Opd->List Nat
 | none=>[]
 | some x=>tO x
def reads:COp->List Nat
 | .mv x=>tO x
 | .ownNil _=>[]
 | .pick c a b=>tO c++(tO a++tO b)
 | .alloc .. =>[]
 | .box _ x=>tO x
 | .build _ ps=>tP ps
 | .mkList _ _ ps=>tOs ps
 | .mkListD _ _ ps=>tOs ps
 | .mkRow _ _ ps=>tOs ps
 | .load _ a=>tO a
 | .store _ a x=>tO a++tO x
 | .nilCheck x=>tO x
 | .bin _ x y=>tO x++tO y
 | .eqv _ _ x y=>tO x++tO y
 | .un _ x=>tO x
 | .conv _ x=>tO x
 | .mkFunc _ a b=>tOs a++tOs b
 | .sliceS x lo hi=>tO x++(tQ lo++tQ hi)
 | .slice _ x lo hi mx=>tO x++(tQ lo++(tQ hi++tQ mx))
 | .fieldAddr _ x=>tO x
 | .field _ _ x=>tO x
 | .idxAddr _ x i=>tO x++tO i
 | .idxAddrA _ _ x i=>tO x++tO i
 | .idxS x i=>tO x++tO i
 | .mkMap=>[]
 | .lookup _ _ _ m k=>tO m++tO k
 | .mapSet _ m k x=>tO m++(tO k++tO x)
 | .rangeS x=>tO x
 | .nextS x=>tO x
 | .extract x _=>tO x
 | .call _ _ f args=>tO f++tOs args
 | .storeR _ a x rs=>tO a++(tO x++rs)
 | .callR _ f args rs=>tO f++(tOs args++rs)
 | .callB _ f args t=>tO f++(tOs args++[t])
 | .bad=>[]
 | .callN f args=>tO f++tOs args
 | .callK _ f args=>tO f++tOs args
 | .callQ f args=>tO f++tOs args
 | .callU _ f args=>tO f++tOs args
 | .appendZ _ _ a n=>tO a++tO n
 | .mapSetR _ m k x rs=>tO m++(tO k++(tO x++rs))
 | .appendIn _ a x=>tO a++tO x
 | .loadD _ a=>tO a
 | .nilEq _ _ x=>tO x
 | .callD f args=>tO f++tOs args
 | .idxAddrD _ x i=>tO x++tO i
 | .len _ x=>tO x
 | .append _ a x=>tO a++tO x
 | .appendS _ a x=>tO a++tO x
 | .appendF _ a x=>tO a++tO x
 | .strB x=>tO x
 | .minmax _ args=>tOs args
def zj1 (c:CO):List Nat:=
 match c.guard with
 | none=>reads c.op
 | some (t,_)=>t::reads c.op
def ykb:List yci->Bool
 | []=>true
 | .z _::r=>ykb r
 | _=>false
theorem z99 (cx:Cx) (slot:Nat):∀(l:List yci) (m:Mem),ykb l=true->(zbm cx slot l m).2=m/\∀m2,zbm cx slot l m2=((zbm cx slot l m).1,m2)
 | [],m,_=>⟨rfl,fun _=>rfl⟩
 | .z x::r,m,h=>by
  obtain⟨h1,h2⟩:=z99 cx slot r m h
  exact⟨by simp [zbm,h1],fun m2=>by simp [zbm,h2 m2]⟩
 | .own _::_,_,h=>by simp [ykb] at h
def cls:COp->Nat
 | .mv _=>0
 | .pick .. =>0
 | .bin .. =>0
 | .eqv .. =>0
 | .un .. =>0
 | .conv .. =>0
 | .mkFunc .. =>0
 | .sliceS .. =>0
 | .field .. =>0
 | .idxS .. =>0
 | .extract .. =>0
 | .minmax .. =>0
 | .loadD .. =>0
 | .nilEq .. =>1
 | .callD .. =>0
 | .idxAddrD .. =>0
 | .mkListD .. =>0
 | .build z _=>if ykb z then 0 else 3
 | .alloc .. =>3
 | .box .. =>3
 | .ownNil _=>3
 | .mkRow .. =>3
 | .mkMap=>3
 | .callN .. =>3
 | .storeR .. =>4
 | .callR .. =>4
 | .mapSetR .. =>4
 | .mkList .. =>1
 | .load .. =>1
 | .nilCheck _=>1
 | .slice .. =>1
 | .fieldAddr .. =>1
 | .idxAddr .. =>1
 | .idxAddrA .. =>1
 | .lookup .. =>1
 | .len .. =>1
 | .call false true _ _=>1
 | .call false false _ _=>3
 | _=>2
section
variable {F : Oracle} {cx : Cx} {slot : Nat} {e e' : Env} {m : Mem}
theorem zaq (x:Opd) (h:∀t∈tO x,get e t=get e' t):x.ev e=x.ev e':=by
 cases x with
 | t n=>exact h n (by simp [tO])
 | k v=>rfl
theorem ze3:∀(xs:List Opd),(∀t∈tOs xs,get e t=get e' t)->evs e xs=evs e' xs
 | [],_=>rfl
 | x::r,h=>by
  simp only [evs]
  rw [zaq x fun t ht=>h t (by simp [tOs,ht]),ze3 r fun t ht=>h t (by simp [tOs,ht])]
theorem z1e:∀(xs:List (Nat×Nat×Opd)),(∀t∈tP xs,get e t=get e' t)->zva e xs=zva e' xs
 | [],_=>rfl
 | (a,b,x)::r,h=>by
  simp only [zva]
  rw [zaq x fun t ht=>h t (by simp [tP,ht]),z1e r fun t ht=>h t (by simp [tP,ht])]
theorem zq0 (x:Option Opd) (h:∀t∈tQ x,get e t=get e' t):x.map (·.ev e)=x.map (·.ev e'):=by
 cases x with
 | none=>rfl
 | some x=>simp only [Option.map_some];rw [zaq x fun t ht=>h t (by simp [tQ,ht])]
theorem zrj:∀(l:List Nat),(∀t∈l,get e t=get e' t)->l.map (get e)=l.map (get e')
 | [],_=>rfl
 | t::r,h=>by rw [List.map_cons,List.map_cons,h t (by simp),zrj r fun u hu=>h u (by simp [hu])]
theorem z3m (op:COp) (h:∀t∈reads op,get e t=get e' t):zdg F cx slot e m op=zdg F cx slot e' m op:=by
 cases op<;>simp only [reads] at h<;>simp only [zdg]
 case mv x=>rw [zaq x h]
 case pick c a b=>rw [zaq c fun t ht=>h t (by simp [ht]),zaq a fun t ht=>h t (by simp [ht]),zaq b fun t ht=>h t (by simp [ht])]
 case box x=>rw [zaq x h]
 case build z ps=>rw [z1e ps h]
 case mkList a b ps=>rw [ze3 ps h]
 case mkRow a b ps=>rw [ze3 ps h]
 case load n x=>rw [zaq x h]
 case store n a x=>rw [zaq a fun t ht=>h t (by simp [ht]),zaq x fun t ht=>h t (by simp [ht])]
 case nilCheck x=>rw [zaq x h]
 case bin op a x=>rw [zaq a fun t ht=>h t (by simp [ht]),zaq x fun t ht=>h t (by simp [ht])]
 case eqv n b a x=>rw [zaq a fun t ht=>h t (by simp [ht]),zaq x fun t ht=>h t (by simp [ht])]
 case un op x=>rw [zaq x h]
 case conv k x=>rw [zaq x h]
 case mkFunc f a b=>rw [ze3 a fun t ht=>h t (by simp [ht]),ze3 b fun t ht=>h t (by simp [ht])]
 case sliceS x lo hi=>rw [zaq x fun t ht=>h t (by simp [ht]),zq0 lo fun t ht=>h t (by simp [ht]),zq0 hi fun t ht=>h t (by simp [ht])]
 case slice n x lo hi mx=>rw [zaq x fun t ht=>h t (by simp [ht]),zq0 lo fun t ht=>h t (by simp [ht]),zq0 hi fun t ht=>h t (by simp [ht]),zq0 mx fun t ht=>h t (by simp [ht])]
 case fieldAddr n x=>rw [zaq x h]
 case field n k x=>rw [zaq x h]
 case idxAddr n a x=>rw [zaq a fun t ht=>h t (by simp [ht]),zaq x fun t ht=>h t (by simp [ht])]
 case idxAddrA l n a x=>rw [zaq a fun t ht=>h t (by simp [ht]),zaq x fun t ht=>h t (by simp [ht])]
 case idxS a x=>rw [zaq a fun t ht=>h t (by simp [ht]),zaq x fun t ht=>h t (by simp [ht])]
 case lookup kk z c a x=>rw [zaq a fun t ht=>h t (by simp [ht]),zaq x fun t ht=>h t (by simp [ht])]
 case mapSet kk c a b=>rw [zaq c fun t ht=>h t (by simp [ht]),zaq a fun t ht=>h t (by simp [ht]),zaq b fun t ht=>h t (by simp [ht])]
 case rangeS x=>rw [zaq x h]
 case nextS x=>rw [zaq x h]
 case extract x i=>rw [zaq x h]
 case call a b f args=>rw [zaq f fun t ht=>h t (by simp [ht]),ze3 args fun t ht=>h t (by simp [ht])]
 case storeR n a x rs=>rw [zaq a fun t ht=>h t (by simp [ht]),zaq x fun t ht=>h t (by simp [ht]),zrj rs fun t ht=>h t (by simp [ht])]
 case callR i f args rs=>rw [zaq f fun t ht=>h t (by simp [ht]),ze3 args fun t ht=>h t (by simp [ht]),zrj rs fun t ht=>h t (by simp [ht])]
 case appendZ r z a n=>rw [zaq a fun t ht=>h t (by simp [ht]),zaq n fun t ht=>h t (by simp [ht])]
 case mkListD a b ps=>rw [ze3 ps h]
 case callB i f args t=>rw [zaq f fun t ht=>h t (by simp [ht]),ze3 args fun t ht=>h t (by simp [ht]),h t (by simp)]
 case mapSetR kk c a b rs=>rw [zaq c fun t ht=>h t (by simp [ht]),zaq a fun t ht=>h t (by simp [ht]),zaq b fun t ht=>h t (by simp [ht]),zrj rs fun t ht=>h t (by simp [ht])]
 case loadD n x=>rw [zaq x h]
 case nilEq kd neg x=>rw [zaq x h]
 case callQ f args=>rw [zaq f fun t ht=>h t (by simp [ht]),ze3 args fun t ht=>h t (by simp [ht])]
 case callU b f args=>rw [zaq f fun t ht=>h t (by simp [ht]),ze3 args fun t ht=>h t (by simp [ht])]
 case callK b f args=>rw [zaq f fun t ht=>h t (by simp [ht]),ze3 args fun t ht=>h t (by simp [ht])]
 case callN f args=>rw [zaq f fun t ht=>h t (by simp [ht]),ze3 args fun t ht=>h t (by simp [ht])]
 case callD f args=>rw [zaq f fun t ht=>h t (by simp [ht]),ze3 args fun t ht=>h t (by simp [ht])]
 case idxAddrD n a x=>rw [zaq a fun t ht=>h t (by simp [ht]),zaq x fun t ht=>h t (by simp [ht])]
 case appendIn r a x=>rw [zaq a fun t ht=>h t (by simp [ht]),zaq x fun t ht=>h t (by simp [ht])]
 case len k x=>rw [zaq x h]
 case appendS r a x=>rw [zaq a fun t ht=>h t (by simp [ht]),zaq x fun t ht=>h t (by simp [ht])]
 case appendF r a x=>rw [zaq a fun t ht=>h t (by simp [ht]),zaq x fun t ht=>h t (by simp [ht])]
 case strB x=>rw [zaq x h]
 case append r a x=>rw [zaq a fun t ht=>h t (by simp [ht]),zaq x fun t ht=>h t (by simp [ht])]
 case minmax b args=>rw [ze3 args h]
theorem yaq (c:CO) (h:∀t∈zj1 c,get e t=get e' t):zfk F cx e m c=zfk F cx e' m c:=by
 unfold zfk
 unfold zj1 at h
 cases hg:c.guard with
 | none=>rw [hg] at h;exact z3m _ h
 | some p=>
  obtain⟨t,w⟩:=p
  rw [hg] at h
  simp only
  rw [h t (by simp),z3m c.op fun t ht=>h t (by simp [ht])]
theorem zq1:∀(vs:List V),yg9 vs=true->∃ds,∀m,zen false m vs=some ds
 | [],_=>⟨[],fun _=>rfl⟩
 | v::r,h=>by
  cases v<;>simp only [yg9,Bool.false_eq_true] at h
  rename_i x
  obtain⟨ds,hds⟩:=zq1 r h
  exact⟨x::ds,fun m=>by simp only [zen,freeze,hds m]⟩
theorem yrt {op:COp} {v:V} {m':Mem} (hc:cls op=0) (h:zdg F cx slot e m op=some (v,m')):m'=m/\∀m2,zdg F cx slot e m2 op=some (v,m2):=by
 cases op<;>first |exact absurd (show (2:Nat)=0 from hc) (by decide)|exact absurd (show (1:Nat)=0 from hc) (by decide)|exact absurd (show (3:Nat)=0 from hc) (by decide)|exact absurd (show (4:Nat)=0 from hc) (by decide)|skip
 all_goals simp only [zdg,Option.map_eq_some_iff,Option.some.injEq,Prod.mk.injEq] at h
 case mv=>obtain⟨rfl,rfl⟩:=h;exact⟨rfl,fun _=>by simp_all [zdg]⟩
 case pick=>
  split at h<;>try cases h
  rename_i hx
  exact⟨rfl,fun _=>by simp_all [zdg]⟩
 case bin=>obtain⟨a,h1,rfl,rfl⟩:=h;exact⟨rfl,fun _=>by simp_all [zdg]⟩
 case eqv=>obtain⟨a,h1,rfl,rfl⟩:=h;exact⟨rfl,fun _=>by simp_all [zdg]⟩
 case un=>obtain⟨a,h1,rfl,rfl⟩:=h;exact⟨rfl,fun _=>by simp_all [zdg]⟩
 case conv=>
  split at h<;>try cases h
  rename_i hx
  exact⟨rfl,fun _=>by simp_all [zdg]⟩
 case mkFunc=>obtain⟨rfl,rfl⟩:=h;exact⟨rfl,fun _=>by simp_all [zdg]⟩
 case mkListD=>
  split at h
  case isFalse=>cases h
  rename_i hd
  simp only [Option.map_eq_some_iff,Prod.mk.injEq] at h
  obtain⟨ds,h,rfl,rfl⟩:=h
  exact⟨rfl,fun _=>by simp only [zdg,hd,if_true,h,Option.map_some]⟩
 case sliceS=>
  split at h<;>try cases h
  rename_i hx
  split at h<;>try cases h
  rename_i hb
  exact⟨rfl,fun _=>by simp_all [zdg]⟩
 case field=>obtain⟨a,h1,rfl,rfl⟩:=h;exact⟨rfl,fun _=>by simp_all [zdg]⟩
 case idxS=>
  split at h<;>try cases h
  rename_i hx hi
  split at h<;>try cases h
  rename_i h0
  simp only [Option.map_eq_some_iff,Prod.mk.injEq] at h
  obtain⟨a,h1,rfl,rfl⟩:=h
  exact⟨rfl,fun _=>by simp_all [zdg]⟩
 case extract=>
  split at h<;>try cases h
  rename_i hx
  simp only [Option.map_eq_some_iff,Prod.mk.injEq] at h
  obtain⟨a,h1,rfl,rfl⟩:=h
  exact⟨rfl,fun _=>by simp_all [zdg]⟩
 case minmax=>obtain⟨a,h1,rfl,rfl⟩:=h;exact⟨rfl,fun _=>by simp_all [zdg]⟩
 case build z ps=>
  have hz:ykb z=true:=by
   cases hz:ykb z with
   | true=>rfl
   | false=>simp [cls,hz] at hc
  obtain⟨a,h1,rfl,rfl⟩:=h
  obtain⟨k1,k2⟩:=z99 cx slot z m hz
  exact⟨k1,fun m2=>by simp [zdg,k2 m2,h1]⟩
 case call a b _ _=>cases a<;>cases b<;>simp [cls] at hc
 case loadD=>
  split at h<;>try cases h
  rename_i hx
  simp only [Option.map_eq_some_iff,Prod.mk.injEq] at h
  obtain⟨a,h1,rfl,rfl⟩:=h
  exact⟨rfl,fun _=>by simp_all [zdg]⟩
 case idxAddrD=>
  split at h<;>try cases h
  rename_i hx hi
  split at h<;>try cases h
  rename_i hr
  exact⟨rfl,fun _=>by simp_all [zdg]⟩
 case callD f args=>
  split at h<;>try cases h
  rename_i g hf
  split at h<;>try cases h
  rename_i hd
  obtain⟨ds,hds⟩:=zq1 _ hd
  simp only [zkd,Bool.false_eq_true,if_false,List.nil_append,List.append_nil,hds] at h
  split at h<;>try cases h
  rename_i v1 m1 hcall
  simp only [znk,if_true] at h
  split at h<;>try cases h
  rename_i hids
  simp only [Option.map_eq_some_iff,Prod.mk.injEq] at h
  obtain⟨a,h1,rfl,rfl⟩:=h
  refine⟨rfl,fun m2=> ?_⟩
  simp only [zdg,hf,hd,if_true,zkd,Bool.false_eq_true,if_false,List.nil_append,List.append_nil,hds,hcall,znk,hids,h1]
  rfl
theorem ysm {op:COp} {v:V} {m':Mem} (hc:cls op<=1) (h:zdg F cx slot e m op=some (v,m')):m'=m:=by
 by_cases h0:cls op=0
 ·exact(yrt h0 h).1
 cases op<;>first |exact absurd (show (2:Nat)<=1 from hc) (by decide)|exact absurd (show (3:Nat)<=1 from hc) (by decide)|exact absurd (show (4:Nat)<=1 from hc) (by decide)|exact absurd rfl h0|skip
 all_goals simp only [zdg,Option.map_eq_some_iff,Prod.mk.injEq] at h
 case build z ps=>
  cases hz:ykb z with
  | true=>simp [cls,hz] at h0
  | false=>simp [cls,hz] at hc
 case mkList=>obtain⟨a,h1,rfl,rfl⟩:=h;rfl
 case load=>obtain⟨a,h1,rfl,rfl⟩:=h;rfl
 case nilCheck=>
  split at h
  ·simp only [Option.some.injEq,Prod.mk.injEq] at h;exact h.2.symm
  ·split at h<;>try cases h
   rfl
 case slice=>obtain⟨a,h1,rfl,rfl⟩:=h;rfl
 case fieldAddr=>obtain⟨a,h1,rfl,rfl⟩:=h;rfl
 case idxAddr=>obtain⟨a,h1,rfl,rfl⟩:=h;rfl
 case idxAddrA=>
  split at h<;>try cases h
  split at h<;>try cases h
  simp only [Option.map_eq_some_iff,Prod.mk.injEq] at h
  obtain⟨a,h1,rfl,rfl⟩:=h;rfl
 case lookup=>obtain⟨a,h1,rfl,rfl⟩:=h;rfl
 case len=>obtain⟨a,h1,rfl,rfl⟩:=h;rfl
 case nilEq=>
  split at h<;>try cases h
  split at h<;>try cases h
  rfl
 case call a b f args=>
  cases a<;>cases b<;>first |exact absurd (show (2:Nat)<=1 from hc) (by decide)|exact absurd (show (3:Nat)<=1 from hc) (by decide)|skip
  simp only [zkd,Bool.false_eq_true,if_false] at h
  split at h<;>try cases h
  split at h<;>try cases h
  split at h<;>try cases h
  simp only [znk,if_true] at h
  split at h<;>try cases h
  simp only [Option.map_eq_some_iff,Prod.mk.injEq] at h
  obtain⟨a,h1,rfl,rfl⟩:=h;rfl
theorem yru {c:CO} {v:V} {m':Mem} (hc:cls c.op=0) (h:zfk F cx e m c=some (v,m')):m'=m/\∀m2,zfk F cx e m2 c=some (v,m2):=by
 unfold zfk at h ⊢
 split at h
 ·simpa using yrt hc h
 ·split at h
  ·split at h
   ·rename_i hb
    have:=yrt hc h
    simp only [hb,if_true]
    exact this
   ·rename_i hb
    simp only [Option.some.injEq,Prod.mk.injEq] at h
    obtain⟨rfl,rfl⟩:=h
    exact⟨rfl,fun _=>by simp only [hb,if_false]⟩
  ·simp only [Option.some.injEq,Prod.mk.injEq] at h
   obtain⟨rfl,rfl⟩:=h
   exact⟨rfl,fun _=>rfl⟩
  ·cases h
theorem ynq {c:CO} {v:V} {m':Mem} (hc:cls c.op<=1) (h:zfk F cx e m c=some (v,m')):m'=m:=by
 unfold zfk at h
 split at h
 ·exact ysm hc h
 ·split at h
  ·split at h
   ·exact ysm hc h
   ·simp only [Option.some.injEq,Prod.mk.injEq] at h;exact h.2.symm
  ·simp only [Option.some.injEq,Prod.mk.injEq] at h;exact h.2.symm
  ·cases h
end
end Go.Evl
namespace Go.Evl
def Sub (m m':Mem):Prop:=∀i o,look m i=some o->look m' i=some o
def z94 (is:List Id) (m m':Mem):Prop:=∀i∈is,∀o,look m i=some o->look m' i=some o
def zuw (e:Env):COp->List Id
 | .mkList _ _ xs=>idsL (evs e xs)
 | .load _ a=>ids (a.ev e)
 | .nilCheck x=>ids (x.ev e)
 | .slice _ x _ _ _=>ids (x.ev e)
 | .fieldAddr _ x=>ids (x.ev e)
 | .idxAddr _ x _=>ids (x.ev e)
 | .nilEq _ _ x=>ids (x.ev e)
 | .idxAddrA _ _ x _=>ids (x.ev e)
 | .lookup _ _ _ x _=>ids (x.ev e)
 | .len _ x=>ids (x.ev e)
 | .call _ _ f args=>ids (f.ev e)++idsL (evs e args)
 | _=>[]
theorem z0v:∀(a b:List V),idsL (a++b)=idsL a++idsL b
 | [],_=>rfl
 | v::r,b=>by simp only [List.cons_append,idsL,z0v r b,List.append_assoc]
section
variable {m m' : Mem}
mutual
theorem z0s (any:Bool):∀(v:V) (d:D),z94 (ids v) m m'->freeze any m v=some d->freeze any m' v=some d
 | .d _,_,_,h=>h
 | .agg cs,d,hs,h=>by
  simp only [freeze,Option.map_eq_some_iff] at h ⊢
  obtain⟨x,h1,h2⟩:=h
  exact⟨x,zq2 any cs x hs h1,h2⟩
 | .ref i off len top,d,hs,h=>by
  simp only [freeze] at h ⊢
  cases hl:look m i with
  | none=>rw [hl] at h;cases h
  | some o=>rw [hl] at h;rw [hs i (by simp [ids]) o hl];exact h
 | .tup _,_,_,h=>by simp [freeze] at h
 | .ptr ..,_,_,h=>by simp [freeze] at h
 | .lptr ..,_,_,h=>by simp [freeze] at h
 | .fn f [] [],d,_,h=>by simpa only [freeze] using h
 | .fn _ (_::_) _,_,_,h=>by simp [freeze] at h
 | .fn _ [] (_::_),_,_,h=>by simp [freeze] at h
 | .yld _,_,_,h=>by simp [freeze] at h
 | .mp _,_,_,h=>by simp [freeze] at h
 | .it _,_,_,h=>by simp [freeze] at h
 | .skip,_,_,h=>by simp [freeze] at h
 | .undef,_,_,h=>by simp [freeze] at h
theorem zq2 (any:Bool):∀(cs:List V) (ds:List D),z94 (idsL cs) m m'->zen any m cs=some ds->zen any m' cs=some ds
 | [],_,_,h=>h
 | v::r,ds,hs,h=>by
  simp only [zen] at h ⊢
  split at h
  ·rename_i x xs h1 h2
   rw [z0s any v x (fun i hi=>hs i (by simp [idsL,hi])) h1,zq2 any r xs (fun i hi=>hs i (by simp [idsL,hi])) h2]
   exact h
  ·cases h
end
theorem yai {v:V} {ds:List D} (hs:z94 (ids v) m m') (h:zp3 m v=some ds):zp3 m' v=some ds:=by
 unfold zp3 at h ⊢
 cases hf:freeze false m v with
 | none=>rw [hf] at h;cases h
 | some d=>rw [hf] at h;rw [z0s false v d hs hf];exact h
theorem z33 (sz:Nat):∀(vs:List V) (ds:List D),z94 (idsL vs) m m'->zqk sz m vs=some ds->zqk sz m' vs=some ds
 | [],_,_,h=>h
 | v::r,ds,hs,h=>by
  simp only [zqk] at h ⊢
  split at h
  ·rename_i x xs h1 h2
   rw [yai (fun i hi=>hs i (by simp [idsL,hi])) h1,z33 sz r xs (fun i hi=>hs i (by simp [idsL,hi])) h2]
   exact h
  ·cases h
theorem z8v {α:Type} {i:Id} (hs:z94 [i] m m') (f:Option Ob->Option α) (hf:f none=none) {r:α} (h:f (look m i)=some r):f (look m' i)=some r:=by
 cases hl:look m i with
 | none=>rw [hl,hf] at h;cases h
 | some o=>rw [hl] at h;rw [hs i (by simp) o hl];exact h
theorem ye5 {n:Option Nat} {a v:V} (hs:z94 (ids a) m m') (h:z04 n m a=some v):z04 n m' a=some v:=by
 cases a<;>simp only [z04] at h ⊢ <;>first |exact h|skip
 exact z8v hs (fun x=>match x with|some (.cells _ cs)=>yfb n cs _|some (.row _ _ _ l xs)=>if l=_ then z2y n xs _ else none|_=>none) rfl h
theorem z1y {v:V} (hs:z94 (ids v) m m') (h:z7f m v=true):z7f m' v=true:=by
 cases v<;>simp only [z7f] at h ⊢ <;>first |exact h|skip
 rename_i i off top
 cases hl:look m i with
 | none=>rw [hl] at h;cases h
 | some o=>rw [hl] at h;rw [hs i (by simp [ids]) o hl];exact h
theorem yht {v:V} {r:Nat×Bool} (hs:z94 (ids v) m m') (h:yhs m v=some r):yhs m' v=some r:=by
 unfold yhs at h ⊢
 split at h<;>first |exact h|skip
 ·split at h
  ·rename_i hsu
   rw [if_pos (z1y hs hsu)];exact h
  ·cases h
 ·rename_i i off len top
  exact z8v hs (fun x=>match x with|some (.row _ _ _ n _)=>if n=top/\off+len<=n/\len≠0 then some (2,false) else none|_=>none) rfl h
theorem zu4 {off:Nat} {v r:V} (hs:z94 (ids v) m m') (h:zgs off m v=some r):zgs off m' v=some r:=by
 unfold zgs at h ⊢
 split at h
 ·rename_i hsu
  rw [if_pos (z1y hs hsu)];exact h
 ·cases h
theorem z56 {sz:Nat} {x i r:V} (hs:z94 (ids x) m m') (h:zmc sz m x i=some r):zmc sz m' x i=some r:=by
 unfold zmc at h ⊢
 split at h
 ·cases h
 ·cases x<;>first |exact h|skip
  case d x=>cases x<;>exact h
  case ref id _ _ _=>
   dsimp only at h ⊢
   cases hl:look m id with
   | none=>rw [hl] at h;cases h
   | some o=>rw [hl] at h;rw [hs id (by simp [ids]) o hl];exact h
theorem ybw {sz:Nat} {x:V} {lo hi mx:Option V} {r:V} (hs:z94 (ids x) m m') (h:zsq sz m x lo hi mx=some r):zsq sz m' x lo hi mx=some r:=by
 unfold zsq at h ⊢
 cases x<;>first |exact h|skip
 case d x=>cases x<;>exact h
 case ref id _ _ _=>
  dsimp only at h ⊢
  cases hl:look m id with
  | none=>rw [hl] at h;cases h
  | some o=>rw [hl] at h;rw [hs id (by simp [ids]) o hl];exact h
theorem yhg {k:Kd} {x:V} {n:Nat} (hs:z94 (ids x) m m') (h:yf2 m k x=some n):yf2 m' k x=some n:=by
 unfold yf2 at h ⊢
 cases k<;>cases x<;>first |exact h|skip
 case slc.d x=>cases x<;>exact h
 case slc.ref id _ _ _=>
  dsimp only at h ⊢
  cases hl:look m id with
  | none=>rw [hl] at h;cases h
  | some o=>rw [hl] at h;rw [hs id (by simp [ids]) o hl];exact h
 case map.mp id=>
  dsimp only at h ⊢
  cases hl:look m id with
  | none=>rw [hl] at h;cases h
  | some o=>rw [hl] at h;rw [hs id (by simp [ids]) o hl];exact h
theorem z8w {kk:KK} {z:D} {c:Bool} {x k r:V} (hs:z94 (ids x) m m') (h:zpk kk z c m x k=some r):zpk kk z c m' x k=some r:=by
 unfold zpk at h ⊢
 split at h<;>try cases h
 split at h<;>try cases h
 rename_i hk
 simp only [hk,if_true]
 cases x<;>first |exact h|skip
 case d x=>cases x<;>exact h
 case mp id=>
  dsimp only at h ⊢
  cases hl:look m id with
  | none=>rw [hl] at h;cases h
  | some o=>rw [hl] at h;rw [hs id (by simp [ids]) o hl];exact h
theorem yc7 {v:V} {g:Nat} {a b:List V} (h:zqo v= .fn g a b):ids v=idsL a++idsL b:=by
 unfold zqo at h
 split at h
 ·injection h with _ h1 h2;subst h1 h2;rfl
 ·subst h;rfl
theorem z71 {F:Oracle} {cx:Cx} {slot:Nat} {e:Env} {op:COp} (hs:z94 (zuw e op) m m') (hc:cls op=1) {v:V} {m1:Mem} (h:zdg F cx slot e m op=some (v,m1)):zdg F cx slot e m' op=some (v,m'):=by
 cases op<;>first |exact absurd (show (2:Nat)=1 from hc) (by decide)|exact absurd (show (0:Nat)=1 from hc) (by decide)|exact absurd (show (3:Nat)=1 from hc) (by decide)|exact absurd (show (4:Nat)=1 from hc) (by decide)|skip
 all_goals simp only [zdg,Option.map_eq_some_iff,Prod.mk.injEq] at h ⊢
 case mkList=>obtain⟨a,h1,h2,_⟩:=h;exact⟨a,z33 _ _ _ hs h1,h2,by first |trivial|rfl⟩
 case load=>obtain⟨a,h1,h2,_⟩:=h;exact⟨a,ye5 hs h1,h2,by first |trivial|rfl⟩
 case nilCheck x=>
  split at h
  ·rename_i hsu
   simp only [Option.some.injEq,Prod.mk.injEq] at h
   rw [if_pos (z1y hs hsu),h.1]
  ·generalize hx:x.ev e=y at h ⊢
   split at h<;>try cases h
   rename_i hfn
   have hy:z7f m' y=false:=by
    unfold zqo at hfn
    split at hfn
    ·rfl
    ·subst hfn;rfl
   rw [hy]
   rfl
 case slice=>obtain⟨a,h1,h2,_⟩:=h;exact⟨a,ybw hs h1,h2,by first |trivial|rfl⟩
 case fieldAddr=>obtain⟨a,h1,h2,_⟩:=h;exact⟨a,zu4 hs h1,h2,by first |trivial|rfl⟩
 case idxAddr=>obtain⟨a,h1,h2,_⟩:=h;exact⟨a,z56 hs h1,h2,by first |trivial|rfl⟩
 case nilEq kd neg x=>
  split at h<;>try cases h
  rename_i k b hb
  rw [yht hs hb]
  split at h<;>try cases h
  rename_i hk
  exact if_pos hk
 case idxAddrA=>
  split at h<;>try cases h
  split at h<;>try cases h
  rename_i hr
  simp only [Option.map_eq_some_iff,Prod.mk.injEq] at h
  obtain⟨a,h1,h2,_⟩:=h
  rw [if_pos hr,zu4 hs h1,<-h2]
  rfl
 case lookup=>obtain⟨a,h1,h2,_⟩:=h;exact⟨a,z8w hs h1,h2,by first |trivial|rfl⟩
 case len=>obtain⟨a,h1,h2,_⟩:=h;exact⟨a,yhg hs h1,h2,by first |trivial|rfl⟩
 case build z ps=>cases hz:ykb z<;>simp [cls,hz] at hc
 case call a b f args=>
  cases a<;>cases b<;>first |exact absurd (show (2:Nat)=1 from hc) (by decide)|exact absurd (show (3:Nat)=1 from hc) (by decide)|skip
  simp only [zkd,Bool.false_eq_true,if_false] at h ⊢
  split at h<;>try cases h
  rename_i g first caps hf
  split at h<;>try cases h
  rename_i hfr
  split at h<;>try cases h
  rename_i hcall
  have hs':z94 (idsL (first ++evs e args++caps)) m m':=fun i hi=>hs i (by
   simp only [z0v,List.mem_append] at hi
   simp only [zuw,yc7 hf,List.mem_append]
   rcases hi with(hi|hi)|hi
   ·exact .inl (.inl hi)
   ·exact .inr hi
   ·exact .inl (.inr hi))
  simp only [zq2 false _ _ hs' hfr,hcall]
  simp only [znk,if_true] at h ⊢
  split at h<;>try cases h
  rename_i hid
  rw [if_pos hid]
  simp only [Option.map_eq_some_iff,Prod.mk.injEq] at h ⊢
  obtain⟨a,h1,h2,_⟩:=h
  exact⟨a,h1,h2,by first |trivial|rfl⟩
theorem yez {F:Oracle} {cx:Cx} {e:Env} {c:CO} (hs:z94 (zuw e c.op) m m') (hc:cls c.op=1) {v:V} {m1:Mem} (h:zfk F cx e m c=some (v,m1)):zfk F cx e m' c=some (v,m'):=by
 unfold zfk at h ⊢
 split at h
 ·exact z71 hs hc h
 ·split at h
  ·split at h
   ·rename_i hb
    rw [if_pos hb]
    exact z71 hs hc h
   ·rename_i hb
    rw [if_neg hb]
    simp only [Option.some.injEq,Prod.mk.injEq] at h ⊢
    exact⟨h.1,trivial⟩
  ·simp only [Option.some.injEq,Prod.mk.injEq] at h ⊢
   exact⟨h.1,trivial⟩
  ·cases h
theorem zw4 (cx:Cx) (slot:Nat) (m:Mem) (ob:Ob):Sub m (upd m (newId cx slot m) ob):=by
 intro i o hi
 rw [za5 _ _ _ _ fun e=> ?_]
 ·exact hi
 ·rw [<-e,zeg] at hi
  cases hi
theorem zy2 (cx:Cx) (slot:Nat):∀(l:List yci) (m:Mem),Sub m (zbm cx slot l m).2
 | [],_=>fun _ _ h=>h
 | .z _::r,m=>by simp only [zbm];exact zy2 cx slot r m
 | .own s::r,m=>by
  simp only [zbm]
  exact fun i o h=>zy2 cx slot r _ i o (zw4 cx slot m _ i o h)
theorem zw3:∀(m r:Mem),Sub m (m++r)
 | [],_,i,o,h=>by simp [look] at h
 | (j,x)::m,r,i,o,h=>by
  simp only [List.cons_append,look] at h ⊢
  split at h
  ·rename_i e;rw [if_pos e];exact h
  ·rename_i e;rw [if_neg e];exact zw3 m r i o h
theorem ycr {F:Oracle} {cx:Cx} {e:Env} {c:CO} (hc:cls c.op=3) {v:V} (h:zfk F cx e m c=some (v,m')):Sub m m':=by
 have key:∀slot,zdg F cx slot e m c.op=some (v,m')->Sub m m':=by
  intro slot h
  generalize hop:c.op=op at hc h
  cases op<;>first |exact absurd (show (2:Nat)=3 from hc) (by decide)|exact absurd (show (1:Nat)=3 from hc) (by decide)|exact absurd (show (0:Nat)=3 from hc) (by decide)|exact absurd (show (4:Nat)=3 from hc) (by decide)|skip
  all_goals simp only [zdg] at h
  case ownNil=>
   simp only [Option.some.injEq,Prod.mk.injEq] at h
   obtain⟨_,rfl⟩:=h
   exact zw4 _ _ _ _
  case mkMap=>
   simp only [Option.some.injEq,Prod.mk.injEq] at h
   obtain⟨_,rfl⟩:=h
   exact zw4 _ _ _ _
  case box=>
   split at h<;>try cases h
   exact zw4 _ _ _ _
  case mkRow=>
   simp only [Option.map_eq_some_iff,Prod.mk.injEq] at h
   obtain⟨_,_,_,rfl⟩:=h
   exact zw4 _ _ _ _
  case alloc=>
   simp only [Option.some.injEq,Prod.mk.injEq] at h
   obtain⟨_,rfl⟩:=h
   exact fun i o hi=>zw4 _ _ _ _ i o (zy2 cx slot _ m i o hi)
  case build=>
   simp only [Option.map_eq_some_iff,Prod.mk.injEq] at h
   obtain⟨_,_,_,rfl⟩:=h
   exact zy2 _ _ _ _
  case call a b f args=>
   cases a<;>cases b<;>first |exact absurd (show (2:Nat)=3 from hc) (by decide)|exact absurd (show (1:Nat)=3 from hc) (by decide)|skip
   simp only [zkd,Bool.false_eq_true,if_false] at h
   split at h<;>try cases h
   split at h<;>try cases h
   split at h<;>try cases h
   simp only [znk,Bool.false_eq_true,if_false,settle] at h
   split at h<;>try cases h
   exact zw3 _ _
  case callN f args=>
   split at h<;>try cases h
   split at h<;>try cases h
   simp only [zkd,Bool.false_eq_true,if_false] at h
   split at h<;>try cases h
   split at h<;>try cases h
   simp only [znk,Bool.false_eq_true,if_false,settle] at h
   split at h<;>try cases h
   exact zw3 _ _
 unfold zfk at h
 split at h
 ·exact key _ h
 ·split at h
  ·split at h
   ·exact key _ h
   ·simp only [Option.some.injEq,Prod.mk.injEq] at h;exact h.2▸fun _ _ h=>h
  ·simp only [Option.some.injEq,Prod.mk.injEq] at h;exact h.2▸fun _ _ h=>h
  ·cases h
def z4g:COp->List Nat
 | .storeR _ _ _ rs=>rs
 | .callR _ _ _ rs=>rs
 | .mapSetR _ _ _ _ rs=>rs
 | _=>[]
theorem z3z:∀(vs:List V),z8s m m' vs=true->∀v∈vs,∀i∈ids v,look m' i=look m i
 | [],_,v,hv,_,_=>by simp at hv
 | w::r,h,v,hv,i,hi=>by
  unfold z8s at h
  split at h
  ·rename_i e;cases e
  ·rename_i o a b r' e
   obtain⟨rfl,rfl⟩:=(List.cons.injEq ..).mp e
   simp only [Bool.and_eq_true] at h
   rcases List.mem_cons.1 hv with rfl|hv
   ·simp only [ids,List.mem_singleton] at hi
    subst hi
    have h1:=h.1
    unfold yn1 at h1
    split at h1
    ·rename_i t cs u ds k1 k2
     simp only [Bool.and_eq_true,decide_eq_true_eq] at h1
     obtain⟨rfl,h2⟩:=h1
     rw [k1,k2,z9l _ _ h2]
    ·cases h1
   ·exact z3z r h.2 v hv i hi
  ·cases h
theorem yeu {n:Nat} {a x:V} {vs:List V} (ha:ycp a vs=true) (h:zvm n m a x=some m'):∀v∈vs,∀i∈ids v,look m' i=look m i:=by
 intro v hv i hi
 unfold ycp at ha
 split at ha
 ·rename_i o off top
  have:=List.all_eq_true.1 ha v hv
  cases v<;>simp only [Bool.false_eq_true] at this
  rename_i o' _ _
  simp only [ids,List.mem_singleton] at hi
  subst hi
  have hne:i≠o:=by simpa using this
  simp only [zvm] at h
  split at h
  ·split at h<;>try cases h
   split at h<;>try cases h
   exact za5 _ _ _ _ (Ne.symm hne)
  ·split at h<;>try cases h
   split at h<;>try cases h
   exact za5 _ _ _ _ (Ne.symm hne)
  ·cases h
 ·cases ha
theorem yaa {kk:KK} {a k x:V} {vs:List V} (ha:yco a vs=true) (h:zpl kk m a k x=some m'):∀v∈vs,∀i∈ids v,look m' i=look m i:=by
 intro v hv i hi
 unfold yco at ha
 split at ha
 ·rename_i o
  have:=List.all_eq_true.1 ha v hv
  cases v<;>simp only [Bool.false_eq_true] at this
  rename_i o' _ _
  simp only [ids,List.mem_singleton] at hi
  subst hi
  have hne:i≠o:=by simpa using this
  unfold zpl at h
  split at h<;>try cases h
  rename_i hmp
  injection hmp with hmp
  subst hmp
  split at h<;>try cases h
  split at h<;>try cases h
  simp only [Option.map_eq_some_iff] at h
  obtain⟨es,_,rfl⟩:=h
  exact za5 _ _ _ _ (Ne.symm hne)
 ·cases ha
theorem z73 {F:Oracle} {cx:Cx} {e:Env} {c:CO} (hc:cls c.op=4) {v:V} (h:zfk F cx e m c=some (v,m')):∀t∈z4g c.op,∀i∈ids (get e t),look m' i=look m i:=by
 have key:∀slot,zdg F cx slot e m c.op=some (v,m')->∀t∈z4g c.op,∀i∈ids (get e t),look m' i=look m i:=by
  intro slot h
  generalize hop:c.op=op at hc h
  cases op<;>first |exact absurd (show (2:Nat)=4 from hc) (by decide)|exact absurd (show (1:Nat)=4 from hc) (by decide)|exact absurd (show (0:Nat)=4 from hc) (by decide)|exact absurd (show (3:Nat)=4 from hc) (by decide)|skip
  case build z ps=>cases hz:ykb z<;>simp [cls,hz] at hc
  case call a b f args=>cases a<;>cases b<;>simp [cls] at hc
  all_goals simp only [zdg] at h
  case storeR=>
   split at h<;>try cases h
   rename_i ha
   simp only [Option.map_eq_some_iff,Prod.mk.injEq] at h
   obtain⟨m1,h1,_,rfl⟩:=h
   exact fun t ht=>yeu ha h1 _ (List.mem_map_of_mem ht)
  case mapSetR=>
   split at h<;>try cases h
   rename_i ha
   simp only [Option.map_eq_some_iff,Prod.mk.injEq] at h
   obtain⟨m1,h1,_,rfl⟩:=h
   exact fun t ht=>yaa ha h1 _ (List.mem_map_of_mem ht)
  case callR _ _ _ rs=>
   split at h<;>try cases h
   split at h<;>try cases h
   have hk:z8s m m' (rs.map (get e))=true:=by assumption
   exact fun t ht=>z3z _ hk _ (List.mem_map_of_mem ht)
 unfold zfk at h
 split at h
 ·exact key _ h
 ·split at h
  ·split at h
   ·exact key _ h
   ·simp only [Option.some.injEq,Prod.mk.injEq] at h;exact fun _ _ _ _=>by rw [h.2]
  ·simp only [Option.some.injEq,Prod.mk.injEq] at h;exact fun _ _ _ _=>by rw [h.2]
  ·cases h
theorem ye3 {e:Env} {op:COp} {i:Id} (h:i∈zuw e op):(∃t∈reads op,i∈ids (get e t))\/i∈zuw [] op:=by
 have one:∀x:Opd,i∈ids (x.ev e)->(∃t∈tO x,i∈ids (get e t))\/i∈ids (x.ev []):=by
  intro x hx
  cases x with
  | t n=>exact .inl ⟨n,by simp [tO],hx⟩
  | k v=>exact .inr hx
 have many:∀xs:List Opd,i∈idsL (evs e xs)->(∃t∈tOs xs,i∈ids (get e t))\/i∈idsL (evs [] xs):=by
  intro xs
  induction xs with
  | nil=>intro hx;simp [evs,idsL] at hx
  | cons x r ih=>
   intro hx
   simp only [evs,idsL,List.mem_append] at hx ⊢
   rcases hx with hx|hx
   ·rcases one x hx with⟨t,ht,h⟩|h
    ·exact .inl ⟨t,by simp [tOs,ht],h⟩
    ·exact .inr (.inl h)
   ·rcases ih hx with⟨t,ht,h⟩|h
    ·exact .inl ⟨t,by simp [tOs,ht],h⟩
    ·exact .inr (.inr h)
 cases op<;>simp only [zuw,List.not_mem_nil] at h ⊢ <;>simp only [reads,List.mem_append]
 case mkList a b xs=>exact many xs h
 case load n a=>exact one a h
 case nilCheck x=>exact one x h
 case slice n x lo hi mx=>exact(one x h).imp (fun⟨t,ht,h⟩=>⟨t,.inl ht,h⟩) id
 case fieldAddr n x=>exact one x h
 case idxAddr n x j=>exact(one x h).imp (fun⟨t,ht,h⟩=>⟨t,.inl ht,h⟩) id
 case idxAddrA l n x j=>exact(one x h).imp (fun⟨t,ht,h⟩=>⟨t,.inl ht,h⟩) id
 case lookup kk z c x k=>exact(one x h).imp (fun⟨t,ht,h⟩=>⟨t,.inl ht,h⟩) id
 case len k x=>exact one x h
 case nilEq kd neg x=>exact one x h
 case call a b f args=>
  simp only [List.mem_append] at h
  rcases h with h|h
  ·rcases one f h with⟨t,ht,h⟩|h
   ·exact .inl ⟨t,.inl ht,h⟩
   ·exact .inr (.inl h)
  ·rcases many args h with⟨t,ht,h⟩|h
   ·exact .inl ⟨t,.inr ht,h⟩
   ·exact .inr (.inr h)
mutual
theorem z4z (s:S):∀(v:V) (x:Value),VR s v x->∀i∈ids v,∃o,look s.m i=some o
 | .d _,_,_,i,hi=>by simp [ids] at hi
 | .agg cs,x,h,i,hi=>by
  simp only [VR] at h
  obtain⟨xs,_,h⟩:=h
  exact z7h s cs _ h i hi
 | .tup cs,x,h,i,hi=>by
  simp only [VR] at h
  obtain⟨xs,_,h⟩:=h
  exact zt3 s cs _ h i hi
 | .ref o _ _ _,x,h,i,hi=>by
  simp only [VR] at h
  simp only [ids,List.mem_singleton] at hi
  subst hi
  cases hl:look s.m i with
  | none=>rw [hl] at h;exact h.2.elim
  | some o=>exact⟨o,rfl⟩
 | .ptr o _ _,x,h,i,hi=>by
  simp only [VR] at h
  simp only [ids,List.mem_singleton] at hi
  subst hi
  cases hl:look s.m i with
  | none=>rw [hl] at h;exact h.2.elim
  | some o=>exact⟨o,rfl⟩
 | .lptr ..,_,_,i,hi=>by simp [ids] at hi
 | .fn f a b,x,h,i,hi=>by
  simp only [VR] at h
  obtain⟨xs,ys,_,h1,h2⟩:=h
  simp only [ids,List.mem_append] at hi
  rcases hi with hi|hi
  ·exact zt3 s a _ h1 i hi
  ·exact zt3 s b _ h2 i hi
 | .yld o,x,h,i,hi=>by
  simp only [VR] at h
  simp only [ids,List.mem_singleton] at hi
  subst hi
  cases hl:look s.m i with
  | none=>rw [hl] at h;exact h.2.elim
  | some o=>exact⟨o,rfl⟩
 | .mp o,x,h,i,hi=>by
  simp only [VR] at h
  simp only [ids,List.mem_singleton] at hi
  subst hi
  cases hl:look s.m i with
  | none=>rw [hl] at h;exact h.2.elim
  | some o=>exact⟨o,rfl⟩
 | .it o,x,h,i,hi=>by
  simp only [VR] at h
  simp only [ids,List.mem_singleton] at hi
  subst hi
  cases hl:look s.m i with
  | none=>rw [hl] at h;exact h.2.elim
  | some o=>exact⟨o,rfl⟩
 | .skip,_,_,i,hi=>by simp [ids] at hi
 | .undef,_,_,i,hi=>by simp [ids] at hi
theorem z7h (s:S):∀(cs:List V) (xs:List Value),VRs s cs xs->∀i∈idsL cs,∃o,look s.m i=some o
 | [],_,_,i,hi=>by simp [idsL] at hi
 | v::r,xs,h,i,hi=>by
  simp only [VRs] at h
  obtain⟨x,ys,_,_,h1,h2⟩:=h
  simp only [idsL,List.mem_append] at hi
  rcases hi with hi|hi
  ·exact z4z s v x h1 i hi
  ·exact z7h s r ys h2 i hi
theorem zt3 (s:S):∀(cs:List V) (xs:List Value),VRt s cs xs->∀i∈idsL cs,∃o,look s.m i=some o
 | [],_,_,i,hi=>by simp [idsL] at hi
 | v::r,xs,h,i,hi=>by
  simp only [VRt] at h
  obtain⟨x,ys,_,h1,h2⟩:=h
  simp only [idsL,List.mem_append] at hi
  rcases hi with hi|hi
  ·exact z4z s v x h1 i hi
  ·exact zt3 s r ys h2 i hi
end
end
end Go.Evl
namespace Go.Evl
open Go.RowKit
def yn6 (acc:List Nat) (o:Oper):Nat:=o.after.toList.foldl (fun m e=>if Region.binds .any e then m|||((1<<<e.on)|||acc.getD e.on 0) else m) 0
def yhl:List Oper->List Nat->List Nat
 | [],acc=>acc
 | o::r,acc=>yhl r (acc++[yn6 acc o])
def ztl:COp->Option Nat
 | .fieldAddr _ (.t b)=>some b
 | .idxAddrA _ _ (.t b) _=>some b
 | .mv (.t b)=>some b
 | .nilCheck (.t b)=>some b
 | _=>none
def z7n (cos:List CO) (a:Nat):Nat:=
 match (cos.takeWhile fun x=> !(zj1 x).elem a).find? (fun x=>x.dst==some a&&x.guard.isNone) with
 | some x=>(ztl x.op).getD a
 | none=>a
def zzn (cos:List CO) (a:Nat):Nat:=z7n cos (z7n cos (z7n cos a))
theorem zp7 {α:Type} {p:α->Bool} {x c:α}:∀(l:List α) (i:Nat),x∈l.takeWhile p->l[i]? =some c->p c=false->∃j,j<i/\l[j]? =some x
 | [],_,h,_,_=>by simp at h
 | y::r,i,h,hc,hp=>by
  rw [List.takeWhile_cons] at h
  split at h
  ·rename_i hy
   cases i with
   | zero=>
    simp only [List.getElem?_cons_zero,Option.some.injEq] at hc
    subst hc
    rw [hy] at hp;cases hp
   | succ i=>
    rcases List.mem_cons.1 h with rfl|h
    ·exact⟨0,by omega,rfl⟩
    ·obtain⟨j,h1,h2⟩:=zp7 r i h (by simpa using hc) hp
     exact⟨j+1,by omega,by simpa using h2⟩
  ·simp at h
theorem yab (cos:List CO) (a:Nat) {i:Nat} {c:CO} (hc:cos[i]? =some c) (ha:a∈zj1 c):z7n cos a=a\/∃(j:Nat) (x:CO),j<i/\cos[j]? =some x/\x.dst=some a/\x.guard=none/\ztl x.op=some (z7n cos a):=by
 unfold z7n
 split
 ·rename_i x hx
  have h1:=List.mem_of_find?_eq_some hx
  have h2:=List.find?_some hx
  simp only [Bool.and_eq_true,beq_iff_eq,Option.isNone_iff_eq_none] at h2
  obtain⟨j,h3,h4⟩:=zp7 cos i h1 hc (by simpa using ha)
  cases hf:ztl x.op with
  | none=>exact .inl rfl
  | some b=>exact .inr ⟨j,x,h3,h4,h2.1,h2.2,by simp [hf]⟩
 ·exact .inl rfl
theorem z5z {op:COp} {b:Nat} (h:ztl op=some b):b∈reads op:=by
 unfold ztl at h
 split at h<;>cases h<;>simp [reads,tO]
def yga:COp->Option Nat
 | .load _ (.t a)=>some a
 | .fieldAddr _ (.t a)=>some a
 | .idxAddrA _ _ (.t a) _=>some a
 | .nilCheck (.t a)=>some a
 | _=>none
theorem zvr {op:COp} {a:Nat} (h:yga op=some a) (e:Env):a∈reads op/\zuw e op=ids (get e a):=by
 unfold yga at h
 split at h<;>cases h
 all_goals exact⟨by simp [reads,tO],rfl⟩
def zto (cos:List CO) (r w:COp):Bool:=
 match yga r with
 | some a=>(z4g w).elem (zzn cos a)&&cos.all fun x=>x.dst !=some (zzn cos a)
 | _=>false
def ybm:COp->Bool
 | .alloc _ cs=>ykb cs
 | .box .. =>true
 | .mkMap=>true
 | .ownNil _=>true
 | .callN .. =>true
 | _=>false
def zir (c:CO):Bool:=ybm c.op&&c.dst.isSome
theorem z0r (lv slot:Nat):∀m:Mem,freeK lv slot m=0\/∃n:Id,n.lv=lv/\n.slot=slot/\(∃o,look m n=some o)/\n.k+1=freeK lv slot m
 | []=> .inl rfl
 | (j,x)::r=>by
  have there:∀n:Id,(∃o,look r n=some o)->∃o,look ((j,x)::r) n=some o:=by
   rintro n ⟨o,ho⟩
   simp only [look]
   by_cases e:j=n
   ·exact⟨x,by rw [if_pos e]⟩
   ·exact⟨o,by rw [if_neg e];exact ho⟩
  simp only [freeK]
  split
  ·rename_i hj
   rcases z0r lv slot r with h|⟨n,h1,h2,h3,h4⟩
   ·exact .inr ⟨j,hj.1,hj.2,⟨x,by simp [look]⟩,by rw [h];omega⟩
   ·by_cases hc:j.k+1<=freeK lv slot r
    ·exact .inr ⟨n,h1,h2,there n h3,by omega⟩
    ·exact .inr ⟨j,hj.1,hj.2,⟨x,by simp [look]⟩,by omega⟩
  ·rcases z0r lv slot r with h|⟨n,h1,h2,h3,h4⟩
   ·exact .inl h
   ·exact .inr ⟨n,h1,h2,there n h3,h4⟩
theorem yas {lv slot:Nat} {m m2:Mem} (h:∀n:Id,n.lv=lv->n.slot=slot->look m n=look m2 n):freeK lv slot m=freeK lv slot m2:=by
 have le:∀a b:Mem,(∀n:Id,n.lv=lv->n.slot=slot->look a n=look b n)->freeK lv slot a<=freeK lv slot b:=by
  intro a b h
  rcases z0r lv slot a with e|⟨n,h1,h2,⟨o,h3⟩,h4⟩
  ·omega
  ·have:=zyo lv slot b n o ((h n h1 h2).symm.trans h3) h1 h2
   omega
 exact Nat.le_antisymm (le _ _ h) (le _ _ fun n h1 h2=>(h n h1 h2).symm)
theorem z09 (cx:Cx) (slot:Nat):∀(l:List Id) (k:Nat) (a b:Id),(a,b)∈number cx slot k l->b.lv=cx.lv/\b.slot=slot
 | [],_,_,_,h=>by simp [number] at h
 | i::r,k,a,b,h=>by
  simp only [number,List.mem_cons,Prod.mk.injEq] at h
  rcases h with⟨_,rfl⟩|h
  ·exact⟨rfl,rfl⟩
  ·exact z09 cx slot r (k+1) a b h
theorem z36 {cx:Cx} {slot:Nat} {m m2:Mem} (h:∀n:Id,n.lv=cx.lv->n.slot=slot->look m2 n=look m n):freeK cx.lv slot m2=freeK cx.lv slot m:=yas h
theorem ydy {F:Oracle} {cx:Cx} {slot:Nat} {e:Env} {m m':Mem} {op:COp} {v:V} (hp:ybm op=true) (h:zdg F cx slot e m op=some (v,m')):
  (∀n:Id,look m' n≠look m n->n.slot=slot)/\∀m2,(∀n:Id,n.lv=cx.lv->n.slot=slot->look m2 n=look m n)->
   ∃m2',zdg F cx slot e m2 op=some (v,m2')/\∀n,(look m2' n=look m2 n/\look m' n=look m n)\/(n.slot=slot/\look m2' n=look m' n):=by
 have key:(∃ob,m'=upd m (newId cx slot m) ob/\∀m2,newId cx slot m2=newId cx slot m->zdg F cx slot e m2 op=some (v,upd m2 (newId cx slot m) ob))->
   (∀n:Id,look m' n≠look m n->n.slot=slot)/\∀m2,(∀n:Id,n.lv=cx.lv->n.slot=slot->look m2 n=look m n)->
   ∃m2',zdg F cx slot e m2 op=some (v,m2')/\∀n,(look m2' n=look m2 n/\look m' n=look m n)\/(n.slot=slot/\look m2' n=look m' n):=by
  rintro⟨ob,rfl,h2⟩
  refine⟨fun n hn=> ?_,fun m2 hm=>⟨_,h2 m2 (by unfold newId;rw [z36 hm]),fun n=> ?_⟩⟩
  ·by_cases en:n=newId cx slot m
   ·rw [en];rfl
   ·exact absurd (za5 _ _ _ _ (Ne.symm en)) hn
  ·by_cases en:n=newId cx slot m
   ·subst en
    exact .inr ⟨rfl,by rw [zbj,zbj]⟩
   ·exact .inl ⟨za5 _ _ _ _ (Ne.symm en),za5 _ _ _ _ (Ne.symm en)⟩
 cases op<;>simp only [ybm,Bool.false_eq_true] at hp<;>simp only [zdg] at h
 case alloc t cs=>
  refine key ?_
  obtain⟨h1,h2⟩:=z99 cx slot cs m hp
  simp only [Option.some.injEq,Prod.mk.injEq] at h
  obtain⟨rfl,rfl⟩:=h
  refine⟨_,by rw [h1],fun m2 hm=> ?_⟩
  simp only [zdg,h2 m2,h1,hm]
 case box t x=>
  refine key ?_
  split at h<;>try cases h
  rename_i cs hc
  refine⟨_,rfl,fun m2 hm=> ?_⟩
  simp only [zdg,hc,hm]
 case mkMap=>
  refine key ?_
  simp only [Option.some.injEq,Prod.mk.injEq] at h
  obtain⟨rfl,rfl⟩:=h
  exact⟨_,rfl,fun m2 hm=>by simp only [zdg,hm]⟩
 case ownNil r=>
  refine key ?_
  simp only [Option.some.injEq,Prod.mk.injEq] at h
  obtain⟨rfl,rfl⟩:=h
  exact⟨_,rfl,fun m2 hm=>by simp only [zdg,hm]⟩
 case callN f args=>
  split at h<;>try cases h
  rename_i g hf
  split at h
  case isFalse=>cases h
  rename_i hd
  obtain⟨ds,hds⟩:=zq1 _ hd
  simp only [zkd,Bool.false_eq_true,if_false,List.nil_append,List.append_nil,hds m] at h
  split at h<;>try cases h
  rename_i v1 m1 hF
  simp only [znk,Bool.false_eq_true,if_false] at h
  unfold settle at h
  dsimp only at h
  split at h
  case isFalse=>cases h
  rename_i hw
  simp only [Option.some.injEq,Prod.mk.injEq] at h
  obtain⟨rfl,rfl⟩:=h
  have hl:∀(n:Id) (o:Ob),look (moved (number cx slot (freeK cx.lv slot m) (reach 0 m1 64 (ids v1) [])) m1 (number cx slot (freeK cx.lv slot m) (reach 0 m1 64 (ids v1) []))) n=some o->n.lv=cx.lv/\n.slot=slot:=by
   intro n o hn
   obtain⟨a,o',h1,_⟩:=zmo _ _ _ _ _ hn
   exact z09 cx slot _ _ _ _ h1
  refine⟨fun n hn=> ?_,fun m2 hm=> ?_⟩
  ·rw [zi1] at hn
   cases hq:look (moved (number cx slot (freeK cx.lv slot m) (reach 0 m1 64 (ids v1) [])) m1 (number cx slot (freeK cx.lv slot m) (reach 0 m1 64 (ids v1) []))) n with
   | none=>rw [hq,Option.or_none] at hn;exact absurd rfl hn
   | some o=>exact(hl n o hq).2
  ·refine⟨m2++moved (number cx slot (freeK cx.lv slot m) (reach 0 m1 64 (ids v1) [])) m1 (number cx slot (freeK cx.lv slot m) (reach 0 m1 64 (ids v1) [])),?_,fun n=> ?_⟩
   ·simp only [zdg,hf,hd,if_true,zkd,Bool.false_eq_true,if_false,List.nil_append,List.append_nil,hds m2,hF,znk]
    unfold settle
    dsimp only
    rw [z36 hm,if_pos hw]
   ·rw [zi1,zi1]
    cases hq:look (moved (number cx slot (freeK cx.lv slot m) (reach 0 m1 64 (ids v1) [])) m1 (number cx slot (freeK cx.lv slot m) (reach 0 m1 64 (ids v1) []))) n with
    | none=>rw [Option.or_none,Option.or_none];exact .inl ⟨rfl,rfl⟩
    | some o=>
     obtain⟨h1,h2⟩:=hl n o hq
     exact .inr ⟨h2,by rw [hm n h1 h2]⟩
theorem yig {op:COp} (h:ybm op=true):cls op=3:=by
 cases op<;>simp only [ybm,Bool.false_eq_true] at h<;>rfl
def zkn (cos:List CO) (c d:COp):Bool:=
 (cls d==1&&cls c==1)||(cls d==1&&cls c==3)||(cls d==3&&cls c==1&&(zuw [] c).isEmpty)||
 (cls d==1&&cls c==4&&zto cos d c)||(cls d==4&&cls c==1&&zto cos c d)
def yqk:COp->Option Nat
 | .load _ (.t a)=>some a
 | .fieldAddr _ (.t a)=>some a
 | .idxAddrA _ _ (.t a) _=>some a
 | .nilCheck (.t a)=>some a
 | .slice _ (.t a) _ _ _=>some a
 | .len _ (.t a)=>some a
 | .idxAddr _ (.t a) _=>some a
 | _=>none
theorem yd2 {op:COp} {a:Nat} (h:yqk op=some a) (e:Env):a∈reads op/\zuw e op=ids (get e a)/\cls op=1:=by
 unfold yqk at h
 split at h<;>cases h
 all_goals exact⟨by simp [reads,tO],rfl,rfl⟩
def yjz (c:CO):Option Nat:=
 match c.op with
 | .append .. =>c.dst
 | .appendS .. =>c.dst
 | .store _ (.t a) _=>if c.dst.isNone then some a else none
 | .mapSet _ (.t a) _ _=>if c.dst.isNone then some a else none
 | _=>none
def yij:COp->Bool
 | .callK .. =>true
 | .callQ .. =>true
 | _=>false
theorem ylo {F:Oracle} {cx:Cx} {e:Env} {m m':Mem} {c:CO} {v:V} (hq:yij c.op=true) (h:zfk F cx e m c=some (v,m')):m'=m:=by
 have key:∀slot,zdg F cx slot e m c.op=some (v,m')->m'=m:=by
  intro slot h
  generalize c.op=op at hq h
  cases op<;>simp only [yij,Bool.false_eq_true] at hq
  case callQ=>
   simp only [zdg,Option.map_eq_some_iff,Prod.mk.injEq] at h
   obtain⟨_,_,_,h⟩:=h
   exact h.symm
  simp only [zdg] at h
  split at h<;>try cases h
  split at h
  case isFalse=>cases h
  simp only [Option.some.injEq,Prod.mk.injEq] at h
  exact h.2.symm
 unfold zfk at h
 split at h
 ·exact key _ h
 ·split at h
  ·split at h
   ·exact key _ h
   ·simp only [Option.some.injEq,Prod.mk.injEq] at h;exact h.2.symm
  ·simp only [Option.some.injEq,Prod.mk.injEq] at h;exact h.2.symm
  ·cases h
def znm (chk:List (Nat×Nat)) (cos:List CO) (i j:Nat) (c d:CO):Bool:=
 (cls c.op==1&&yij d.op)||
 match yqk c.op,yjz d with
 | some x,some t=>chk.elem (x,t)&&((cos.drop i).all fun y=>y.dst !=some x)&&((cos.drop (j+1)).all fun y=>y.dst !=some t)&&(d.dst==none||d.dst==some t)
 | _,_=>false
theorem zfy {chk:List (Nat×Nat)} {cos:List CO} {i j:Nat} {c d:CO} (h:2<=cls c.op):znm chk cos i j c d=false:=by
 unfold znm
 have h1:(cls c.op==1)=false:=by simp;omega
 rw [h1,Bool.false_and,Bool.false_or]
 split
 ·rename_i x t hx _
  have:=(yd2 hx []).2.2
  omega
 ·rfl
def z81 (chk:List (Nat×Nat)) (ops:Array Oper) (cos:List CO):Bool:=
 let ms:=yhl ops.toList []
 (List.range cos.length).all fun i=>
  match cos[i]?,ops[i]? with
  | some c,some o=>
   o.after.toList.all (fun e=> !Region.binds .any e||decide (e.on<i))&&
   (List.range cos.length).all fun j=>
    match cos[j]? with
    | some d=>
     (decide (i=j)||d.dst.isNone||d.dst !=c.dst)&&
     (match d.dst with
      | some t=> !(zj1 c).elem t||(decide (j<i)&&(ms.getD i 0).testBit j)||(decide (i=j)||(decide (i<j)&&(ms.getD j 0).testBit i))
      | none=>true)&&
     (!decide (j<i)||cls c.op==0||cls d.op==0||zkn cos c.op d.op||(zir c&&zir d)||znm chk cos i j c d||znm chk cos j i d c||(ms.getD i 0).testBit j)
    | none=>false
  | _,_=>false
def ymn (ops:Array Oper) (p:Nat->Prop):Prop:=∀i o e,ops[i]? =some o->p i->e∈o.after->Region.binds .any e=true->p e.on
def zy8 (ops:Array Oper) (i a:Nat):Prop:=∀p,ymn ops p->p i->p a
theorem z8x (acc:List Nat) (a:Nat):∀(l:List Edge) (m:Nat),(l.foldl (fun m e=>if Region.binds .any e then m|||((1<<<e.on)|||acc.getD e.on 0) else m) m).testBit a=true->
  m.testBit a=true\/∃e∈l,Region.binds .any e=true/\(a=e.on\/(acc.getD e.on 0).testBit a=true)
 | [],m,h=> .inl h
 | e::r,m,h=>by
  simp only [List.foldl_cons] at h
  rcases z8x acc a r _ h with h|⟨e',h1,h2⟩
  ·split at h
   ·rename_i hb
    simp only [Nat.testBit_or,Bool.or_eq_true] at h
    rcases h with h|h|h
    ·exact .inl h
    ·refine .inr ⟨e,by simp,hb,.inl ?_⟩
     simp only [Nat.testBit_shiftLeft,Bool.and_eq_true,decide_eq_true_eq,Nat.testBit_one_eq_true_iff_self_eq_zero] at h
     omega
    ·exact .inr ⟨e,by simp,hb,.inr h⟩
   ·exact .inl h
  ·exact .inr ⟨e',by simp [h1],h2⟩
theorem ydm {ops:Array Oper}:∀(os:List Oper) (acc:List Nat),(∀i a,(acc.getD i 0).testBit a=true->zy8 ops i a)->(∀k,k<os.length->os[k]? =ops[acc.length+k]?)->∀i a,((yhl os acc).getD i 0).testBit a=true->zy8 ops i a
 | [],acc,h,_=>h
 | o::r,acc,h,ho=>by
  refine ydm r (acc++[yn6 acc o]) (fun i a hb=> ?_) (fun k hk=> ?_)
  ·have ho0:ops[acc.length]? =some o:=by simpa using (ho 0 (by simp)).symm
   rcases Nat.lt_trichotomy i acc.length with hi|hi|hi
   ·rw [List.getD_eq_getElem?_getD,List.getElem?_append_left hi,<-List.getD_eq_getElem?_getD] at hb
    exact h i a hb
   ·subst hi
    rw [List.getD_eq_getElem?_getD,List.getElem?_append_right (Nat.le_refl _)] at hb
    simp only [Nat.sub_self,List.getElem?_cons_zero,Option.getD_some,yn6] at hb
    rcases z8x acc a _ 0 hb with hb|⟨e,he,hbd,hb⟩
    ·simp at hb
    ·intro p hp hi
     have h1:=hp _ o e ho0 hi (by simpa using he) hbd
     rcases hb with rfl|hb
     ·exact h1
     ·exact h e.on a hb p hp h1
   ·rw [List.getD_eq_getElem?_getD,List.getElem?_eq_none (by simp;omega)] at hb
    simp at hb
  ·have:=ho (k+1) (by simp;omega)
   simp only [List.getElem?_cons_succ] at this
   rw [this,List.length_append,List.length_singleton]
   congr 1;omega
structure z15 (F:Oracle) (cx:Cx) (cos:List CO) (E:Nat->Env) (M:Nat->Mem) (W:Nat->V):Prop where
 val:∀i c,cos[i]? =some c->zfk F cx (E i) (M i) c=some (W i,M (i+1))
 env:∀i c,cos[i]? =some c->E (i+1)=put? (E i) c.dst (W i)
theorem yem {F:Oracle} {cx:Cx}:∀(cos:List CO) (e e':Env) (m m':Mem),zk9 F cx cos e m=some (e',m')->∃E M W,z15 F cx cos E M W/\E 0=e/\M 0=m/\E cos.length=e'/\M cos.length=m'
 | [],e,e',m,m',h=>by
  simp only [zk9,Option.some.injEq,Prod.mk.injEq] at h
  obtain⟨rfl,rfl⟩:=h
  exact⟨fun _=>e,fun _=>m,fun _=> .undef,⟨fun i c h=>by simp at h,fun i c h=>by simp at h⟩,rfl,rfl,rfl,rfl⟩
 | c::r,e,e',m,m',h=>by
  rw [zws] at h
  split at h<;>try cases h
  rename_i v m1 h1
  obtain⟨E,M,W,hT,hE,hM,hE',hM'⟩:=yem r _ e' m1 m' h
  refine⟨fun i=>match i with|0=>e|i+1=>E i,fun i=>match i with|0=>m|i+1=>M i,fun i=>match i with|0=>v|i+1=>W i,⟨fun i d hd=> ?_,fun i d hd=> ?_⟩,rfl,rfl,hE',hM'⟩
  ·cases i with
   | zero=>simp at hd;subst hd;simpa [hM] using h1
   | succ i=>exact hT.val i d (by simpa using hd)
  ·cases i with
   | zero=>simp at hd;subst hd;simpa using hE
   | succ i=>exact hT.env i d (by simpa using hd)
section
variable {F : Oracle} {cx : Cx} {cos : List CO} {E : Nat -> Env} {M : Nat -> Mem} {W : Nat -> V}
theorem z15.same (hT:z15 F cx cos E M W) (t:Nat) (a:Nat):∀b,a<=b->b<=cos.length->(∀k c,a<=k->k<b->cos[k]? =some c->c.dst≠some t)->get (E b) t=get (E a) t:=by
 intro b
 induction b with
 | zero=>
   intro h _ _;obtain rfl:a=0:=by omega
   rfl
 | succ b ih=>
  intro hab hb hk
  rcases Nat.lt_or_ge b a with h|h
  ·obtain rfl:a=b+1:=by omega
   rfl
  ·obtain⟨c,hc⟩:∃c,cos[b]? =some c:=⟨_,List.getElem?_eq_getElem (by omega)⟩
   rw [hT.env b c hc]
   have hne:=hk b c h (by omega) hc
   have:get (put? (E b) c.dst (W b)) t=get (E b) t:=by
    cases hd:c.dst with
    | none=>rfl
    | some d=>exact zph _ _ _ _ (fun e=>hne (by rw [hd,e]))
   rw [this]
   exact ih h (by omega) fun k c h1 h2=>hk k c h1 (by omega)
theorem z15.mem (hT:z15 F cx cos E M W) (a:Nat):∀b,a<=b->b<=cos.length->(∀k c,a<=k->k<b->cos[k]? =some c->cls c.op<=1)->M b=M a:=by
 intro b
 induction b with
 | zero=>
   intro h _ _;obtain rfl:a=0:=by omega
   rfl
 | succ b ih=>
  intro hab hb hk
  rcases Nat.lt_or_ge b a with h|h
  ·obtain rfl:a=b+1:=by omega
   rfl
  ·obtain⟨c,hc⟩:∃c,cos[b]? =some c:=⟨_,List.getElem?_eq_getElem (by omega)⟩
   rw [ynq (hk b c h (by omega) hc) (hT.val b c hc)]
   exact ih h (by omega) fun k c h1 h2=>hk k c h1 (by omega)
theorem z15.keep (hT:z15 F cx cos E M W) {n:Id} {o:Ob} (a:Nat):∀b,a<=b->b<=cos.length->(∀k c,a<=k->k<b->cos[k]? =some c->cls c.op<=1\/cls c.op=3\/(cls c.op=4/\∃t∈z4g c.op,n∈ids (get (E k) t)))->look (M a) n=some o->look (M b) n=some o:=by
 intro b
 induction b with
 | zero=>
   intro h _ _;obtain rfl:a=0:=by omega
   exact id
 | succ b ih=>
  intro hab hb hk h0
  rcases Nat.lt_or_ge b a with h|h
  ·obtain rfl:a=b+1:=by omega
   exact h0
  ·obtain⟨c,hc⟩:∃c,cos[b]? =some c:=⟨_,List.getElem?_eq_getElem (by omega)⟩
   have h1:=ih h (by omega) (fun k c h1 h2=>hk k c h1 (by omega)) h0
   rcases hk b c h (by omega) hc with hl|hl|⟨hl,t,ht,hn⟩
   ·rw [ynq hl (hT.val b c hc)];exact h1
   ·exact ycr hl (hT.val b c hc) n o h1
   ·rw [z73 hl (hT.val b c hc) t ht n hn];exact h1
omit F cx cos E M W in
theorem ydp {off:Nat} {m:Mem} {w r:V} (hv:zgs off m w=some r):∀n∈ids r,n∈ids w:=by
 unfold zgs at hv
 split at hv
 ·cases w<;>simp at hv<;>subst hv<;>simp [ids]
 ·cases hv
omit F cx cos E M W in
theorem ygv {F:Oracle} {cx:Cx} {e:Env} {m m':Mem} {x:CO} {b:Nat} {v:V} (hg:x.guard=none) (hf:ztl x.op=some b) (h:zfk F cx e m x=some (v,m')):∀n∈ids v,n∈ids (get e b):=by
 obtain⟨dst,guard,op⟩:=x
 subst hg
 simp only at hf
 unfold ztl at hf
 split at hf<;>cases hf<;>simp only [zfk,zdg] at h
 all_goals
  show ∀n∈ids v,n∈ids ((Opd.t b).ev e)
  generalize (Opd.t b).ev e=w at h ⊢
 ·simp only [Option.map_eq_some_iff,Prod.mk.injEq] at h
  obtain⟨r,hv,rfl,_⟩:=h
  exact ydp hv
 ·split at h<;>try cases h
  split at h<;>try cases h
  simp only [Option.map_eq_some_iff,Prod.mk.injEq] at h
  obtain⟨r,hv,rfl,_⟩:=h
  exact ydp hv
 ·simp only [Option.some.injEq,Prod.mk.injEq] at h
  obtain⟨rfl,_⟩:=h
  exact fun n hn=>hn
 ·split at h
  ·simp only [Option.some.injEq,Prod.mk.injEq] at h
   obtain⟨rfl,_⟩:=h
   exact fun n hn=>hn
  ·split at h<;>try cases h
   rename_i hf
   intro n hn
   rw [yc7 hf];exact hn
theorem z15.wrote (hT:z15 F cx cos E M W) {t j:Nat} {d:CO} (hd:cos[j]? =some d) (hdt:d.dst=some t) (huniq:∀k c,cos[k]? =some c->c.dst=some t->k=j) {i:Nat} (hi:j<i) (hn:i<=cos.length):get (E i) t=W j:=by
 rw [hT.same t (j+1) i (by omega) hn fun k c h1 h2 hc he=>by have:=huniq k c hc he;omega]
 rw [hT.env j d hd,hdt]
 exact zla _ _ _
end
end Go.Evl
namespace Go.Evl
open Go.RowKit
section
variable {P : Program} {oc : zek} {gl : Globs}
theorem z6i {nt:Nat} {ops:Array Oper}:∀(cos:List CO) (os:List Oper),zog P gl nt ops cos os=true->cos.length=os.length/\∀(i:Nat) (c:CO) (o:Oper),cos[i]? =some c->os[i]? =some o->yph P gl nt ops c o=true
 | [],[],_=>⟨rfl,fun i c o h=>by simp at h⟩
 | [],_::_,h=>by simp [zog] at h
 | _::_,[],h=>by simp [zog] at h
 | c::r,o::q,h=>by
  simp only [zog,Bool.and_eq_true] at h
  obtain⟨h1,h2⟩:=z6i r q h.2
  refine⟨by simp [h1],fun i c' o' hc ho=> ?_⟩
  cases i with
  | zero=>simp at hc ho;subst hc;subst ho;exact h.1
  | succ i=>exact h2 i c' o' (by simpa using hc) (by simpa using ho)
structure ymo (chk:List (Nat×Nat)) (ops:Array Oper) (cos:List CO):Prop where
 len:cos.length=ops.size
 edge:∀(i:Nat) (o:Oper) (e:Edge),ops[i]? =some o->e∈o.after->Region.binds .any e=true->e.on<i
 uniq:∀(i j:Nat) (c d:CO) (t:Nat),cos[i]? =some c->cos[j]? =some d->c.dst=some t->d.dst=some t->i=j
 read:∀(i j:Nat) (c d:CO) (t:Nat),cos[i]? =some c->cos[j]? =some d->t∈zj1 c->d.dst=some t->(j<i/\zy8 ops i j)\/i=j\/(i<j/\zy8 ops j i)
 loud:∀(i j:Nat) (c d:CO),cos[i]? =some c->cos[j]? =some d->j<i->cls c.op≠0->cls d.op≠0->zkn cos c.op d.op=false->(zir c&&zir d)=false->znm chk cos i j c d=false->znm chk cos j i d c=false->zy8 ops i j
theorem ygp {chk:List (Nat×Nat)} {nt:Nat} {ops:Array Oper} {cos:List CO} (h1:zog P gl nt ops cos ops.toList=true) (h2:z81 chk ops cos=true):ymo chk ops cos:=by
 have hlen:cos.length=ops.size:=by simpa using (z6i cos ops.toList h1).1
 have hm:∀i a,((yhl ops.toList []).getD i 0).testBit a=true->zy8 ops i a:=ydm ops.toList [] (fun i a h=>by simp at h) (fun k _=>by simp)
 simp only [z81,List.all_eq_true,List.mem_range] at h2
 have key:∀(i:Nat) (c:CO),cos[i]? =some c->∃o,ops[i]? =some o/\(∀e∈o.after,Region.binds .any e=true->e.on<i)/\∀(j:Nat) (d:CO),cos[j]? =some d->
   (i=j\/d.dst=none\/d.dst≠c.dst)/\(∀t,d.dst=some t->t∈zj1 c->(j<i/\zy8 ops i j)\/i=j\/(i<j/\zy8 ops j i))/\(j<i->cls c.op≠0->cls d.op≠0->zkn cos c.op d.op=false->(zir c&&zir d)=false->znm chk cos i j c d=false->znm chk cos j i d c=false->zy8 ops i j):=by
  intro i c hc
  have hi:i<cos.length:=(List.getElem?_eq_some_iff.1 hc).1
  have h:=h2 i hi
  rw [hc] at h
  obtain⟨o,ho⟩:∃o,ops[i]? =some o:=⟨_,Array.getElem?_eq_getElem (by omega)⟩
  rw [ho] at h
  simp only [Bool.and_eq_true,List.all_eq_true,List.mem_range] at h
  refine⟨o,ho,fun e he hb=> ?_,fun j d hd=> ?_⟩
  ·have:=h.1 e (by simpa using he)
   simpa [hb] using this
  ·have h3:=h.2 j (List.getElem?_eq_some_iff.1 hd).1
   rw [hd] at h3
   simp only [Bool.and_eq_true] at h3
   obtain⟨⟨q1,q2⟩,q3⟩:=h3
   refine⟨?_,fun t ht hr=> ?_,fun hji c1 c2 c3 c4 c5 c6=> ?_⟩
   ·simp only [Bool.or_eq_true,decide_eq_true_eq,Option.isNone_iff_eq_none,bne_iff_ne] at q1
    rcases q1 with(q1|q1)|q1
    ·exact .inl q1
    ·exact .inr (.inl q1)
    ·exact .inr (.inr q1)
   ·rw [ht] at q2
    simp only [Bool.or_eq_true,Bool.not_eq_true',List.elem_eq_mem,decide_eq_false_iff_not,Bool.and_eq_true,decide_eq_true_eq] at q2
    rcases q2 with(q2|q2)|q2|q2
    ·exact absurd hr q2
    ·exact .inl ⟨q2.1,hm i j q2.2⟩
    ·exact .inr (.inl q2)
    ·exact .inr (.inr ⟨q2.1,hm j i q2.2⟩)
   ·simp only [Bool.or_eq_true,Bool.not_eq_true',decide_eq_false_iff_not,beq_iff_eq] at q3
    rcases q3 with((((((q3|q3)|q3)|q3)|q3)|q3)|q3)|q3
    ·exact absurd hji q3
    ·exact absurd q3 c1
    ·exact absurd q3 c2
    ·rw [c3] at q3;cases q3
    ·simp [q3] at c4
    ·rw [c5] at q3;cases q3
    ·rw [c6] at q3;cases q3
    ·exact hm i j q3
 refine⟨hlen,fun i o e ho he hb=> ?_,fun i j c d t hc hd h3 h4=> ?_,fun i j c d t hc hd h3 h4=> ?_,fun i j c d hc hd hji c1 c2 c3 c4 c5 c6=> ?_⟩
 ·have hi:i<ops.size:=(Array.getElem?_eq_some_iff.1 ho).1
  obtain⟨c,hc⟩:∃c,cos[i]? =some c:=⟨_,List.getElem?_eq_getElem (by omega)⟩
  obtain⟨o',ho',hedge,_⟩:=key i c hc
  rw [ho] at ho'
  obtain rfl:=Option.some.inj ho'
  exact hedge e he hb
 ·obtain⟨_,_,_,hk⟩:=key i c hc
  rcases (hk j d hd).1 with h|h|h
  ·exact h
  ·rw [h] at h4;cases h4
  ·exact absurd (h4.trans h3.symm) h
 ·obtain⟨_,_,_,hk⟩:=key i c hc
  exact(hk j d hd).2.1 t h4 h3
 ·obtain⟨_,_,_,hk⟩:=key i c hc
  exact(hk j d hd).2.2 hji c1 c2 c3 c4 c5 c6
theorem Sim.again {oc:zek} {gl:Globs} {s:S} (hs:Sim oc gl s) {m':Mem} (h:∀n,look m' n=look s.m n):Sim oc gl ⟨s.φ,m',s.w,s.Im⟩/\Ext (fun _=>True) s ⟨s.φ,m',s.w,s.Im⟩:=by
 have hE:Ext (fun _=>True) s ⟨s.φ,m',s.w,s.Im⟩:=
  ⟨rfl,rfl,rfl,Nat.le_refl _,fun b _ hf=>⟨rfl,fun i o ho=>hf i o ((h i).symm.trans ho)⟩,fun b j hi=> .inl hi,fun _ _ hi=>hi,fun _ _ _=>rfl,fun k o _ hk=>⟨o,(h k).trans hk,Turned.refl _ _⟩⟩
 exact⟨⟨fun k o hk=>ObR.ext hE (fun b _=>⟨rfl,fun _ hj=>hj⟩) (hs.objs k o ((h k).symm.trans hk)),fun i j o o' b hij hi hj=>hs.apart i j o o' b hij ((h i).symm.trans hi) ((h j).symm.trans hj),hs.imlt,hs.glob,hs.tabs.ext hE⟩,hE⟩
theorem yo3 {F:Oracle} {cx:Cx} {e:Env} {m m':Mem} {d:CO} {v:V} {n:Id} (h:zfk F cx e m d=some (v,m')) (h1:∀t,yjz d=some t->d.dst=some t->n∉ids v) (h2:∀t,yjz d=some t->d.dst≠some t->n∉ids (get e t)) (h0:(yjz d).isSome=true):look m' n=look m n:=by
 obtain⟨t,ht⟩:=Option.isSome_iff_exists.1 h0
 have key:∀slot,zdg F cx slot e m d.op=some (v,m')->look m' n=look m n:=by
  intro slot hq
  have ht0:=ht
  unfold yjz at ht
  split at ht
  ·rename_i r s x hop
   rw [hop] at hq
   simp only [zdg,zsu,zo6] at hq
   have hv:=h1 t ht0 ht
   split at hq<;>try cases hq
   split at hq
   ·split at hq<;>try cases hq
    split at hq<;>try cases hq
    exact za5 _ _ _ _ (fun e=>hv (by simp [ids,e]))
   ·split at hq<;>try cases hq
    exact za5 _ _ _ _ (fun e=>hv (by simp [ids,e]))
   ·cases hq
  ·rename_i r s x hop
   rw [hop] at hq
   simp only [zdg] at hq
   have hv:=h1 t ht0 ht
   unfold zt7 at hq
   split at hq<;>try cases hq
   simp only [zo6] at hq
   repeat' (split at hq)
   all_goals first
    | (cases hq;done)
    | skip
   all_goals (cases hq;exact za5 _ _ _ _ (fun e=>hv (by simp [ids,e])))
  ·rename_i k a x hop
   rw [hop] at hq
   split at ht<;>try cases ht
   rename_i hnone
   have hv:n∉ids ((Opd.t t).ev e):=h2 t ht0 (by rw [Option.isNone_iff_eq_none.1 hnone];simp)
   simp only [zdg,Option.map_eq_some_iff,Prod.mk.injEq] at hq
   obtain⟨m1,hq,_,rfl⟩:=hq
   revert hv hq
   generalize (Opd.t t).ev e=w
   intro hv hq
   unfold zvm at hq
   split at hq<;>try cases hq
   split at hq
   ·split at hq<;>try cases hq
    split at hq<;>try cases hq
    exact za5 _ _ _ _ (fun e=>hv (by simp [ids,e]))
   ·split at hq<;>try cases hq
    split at hq<;>try cases hq
    exact za5 _ _ _ _ (fun e=>hv (by simp [ids,e]))
   ·cases hq
  ·rename_i kk mp k x hop
   rw [hop] at hq
   split at ht<;>try cases ht
   rename_i hnone
   have hv:n∉ids ((Opd.t t).ev e):=h2 t ht0 (by rw [Option.isNone_iff_eq_none.1 hnone];simp)
   simp only [zdg,Option.map_eq_some_iff,Prod.mk.injEq] at hq
   obtain⟨m1,hq,_,rfl⟩:=hq
   revert hv hq
   generalize (Opd.t t).ev e=w
   intro hv hq
   unfold zpl at hq
   split at hq<;>try cases hq
   split at hq<;>try cases hq
   split at hq<;>try cases hq
   simp only [Option.map_eq_some_iff] at hq
   obtain⟨es,_,rfl⟩:=hq
   exact za5 _ _ _ _ (fun e=>hv (by simp [ids,e]))
  ·cases ht
 unfold zfk at h
 split at h
 ·exact key _ h
 ·split at h
  ·split at h
   ·exact key _ h
   ·simp only [Option.some.injEq,Prod.mk.injEq] at h;rw [h.2]
  ·simp only [Option.some.injEq,Prod.mk.injEq] at h;rw [h.2]
  ·cases h
structure ysj (oc:zek) (gl:Globs) (ops:Array Oper) (cos:List CO) (M:Nat->Mem) (W:Nat->V) (e:Env) (s0:S) (A0:Act) (listed:Array Bool) (A:Act) (s:S):Prop where
 size:listed.size=cos.length
 closed:ymn ops (fun i=>listed.getD i false=true)
 sim:Sim oc gl s
 ext:Ext (fun _=>True) s0 s
 mem:∀n:Id,∃k,k<=cos.length/\look s.m n=look (M k) n/\(∀j,j<k->look (M (j+1)) n≠look (M j) n->listed.getD j false=true)/\(∀j,k<=j->j<cos.length->look (M (j+1)) n≠look (M j) n->listed.getD j false=false)
 env1:∀(i:Nat) (c:CO) (t:Nat),cos[i]? =some c->listed.getD i false=true->c.dst=some t->VR s (W i) (A.tmps.getD t undef)
 env2:∀t,(∀(i:Nat) (c:CO),cos[i]? =some c->listed.getD i false=true->c.dst≠some t)->VR s (get e t) (A.tmps.getD t undef)
 tmps:A.tmps.size=A0.tmps.size/\A.defers=A0.defers
theorem zri {listed:Array Bool} {i j:Nat} (h:i<listed.size):(listed.setIfInBounds i true).getD j false=(decide (i=j)||listed.getD j false):=by
 rw [Array.getD_eq_getD_getElem?,Array.getElem?_setIfInBounds,Array.getD_eq_getD_getElem?]
 by_cases e:i=j
 ·subst e;simp [h]
 ·simp [e]
theorem ygq {F:Oracle} (hF:Good P oc gl F) (r:Option Nat) (cx:Cx) {nt:Nat} {ops:Array Oper} {cos:List CO} (hok:zog P gl nt ops cos ops.toList=true) {chk:List (Nat×Nat)} (hd:ymo chk ops cos)
  {E:Nat->Env} {M:Nat->Mem} {W:Nat->V} (hT:z15 F cx cos E M W) (hchk:yku (E cos.length) chk=true) {s0:S} {A0:Act} (hnt:nt<=A0.tmps.size) {Q:Exit->Act->World->Prop}
  (hQ:∀s' A',Sim oc gl s'->Ext (fun _=>True) s0 s'->s'.m=M cos.length->zdc s' (E cos.length) A'.tmps->A'.tmps.size=A0.tmps.size->A'.defers=A0.defers->Q .normal A' s'.w):
  ∀(fuel:Nat) (listed:Array Bool) (A:Act) (s:S),listed.toList.countP (fun b=> !b)<=fuel->ysj oc gl ops cos M W (E 0) s0 A0 listed A s->wpAnyIn (fen r) 0 P .any ops Q fuel listed A s.w:=by
 -- what stands under a name where nothing turns it
 have still:∀ {n:Id} (a b:Nat),a<=b->(∀j,a<=j->j<b->look (M (j+1)) n=look (M j) n)->look (M b) n=look (M a) n:=by
  intro n a b hab
  induction hab with
  | refl=>exact fun _=>rfl
  | step hab ih=>exact fun h=>(h _ hab (Nat.lt_succ_self _)).trans (ih fun j h1 h2=>h j h1 (Nat.lt_succ_of_lt h2))
 -- what keeps an object, or does not touch it
 have stay:∀ {n:Id} {o:Ob} (a b:Nat),a<=b->b<=cos.length->(∀j d,a<=j->j<b->cos[j]? =some d->look (M (j+1)) n=look (M j) n\/cls d.op=3\/(cls d.op=4/\∃t∈z4g d.op,n∈ids (get (E j) t)))->look (M a) n=some o->look (M b) n=some o:=by
  intro n o a b hab
  induction hab with
  | refl=>exact fun _ _ h=>h
  | step hab ih=>
   rename_i b
   intro hb hk h0
   obtain⟨d,hdd⟩:∃d,cos[b]? =some d:=⟨_,List.getElem?_eq_getElem (by omega)⟩
   have h1:=ih (by omega) (fun j d h1 h2=>hk j d h1 (by omega)) h0
   rcases hk b d hab (Nat.lt_succ_self _) hdd with h|h|⟨h,t,ht,hn⟩
   ·rw [h];exact h1
   ·exact ycr h (hT.val b d hdd) n o h1
   ·rw [z73 h (hT.val b d hdd) t ht n hn];exact h1
 have loudC:∀ {n:Id} {j:Nat} {d:CO},cos[j]? =some d->look (M (j+1)) n≠look (M j) n->2<=cls d.op:=by
  intro n j d hj hn
  rcases Nat.lt_or_ge (cls d.op) 2 with h|h
  ·exact absurd (by rw [ynq (by omega) (hT.val j d hj)]) hn
  ·exact h
 -- a pure allocation turns no other name than one of its own
 have pureN:∀ {n:Id} {j:Nat} {d:CO},cos[j]? =some d->zir d=true->look (M (j+1)) n≠look (M j) n->n.slot=d.dst.getD 0:=by
  intro n j d hj hp hn
  simp only [zir,Bool.and_eq_true] at hp
  have hv:=hT.val j d hj
  have key:∀v m',zdg F cx (d.dst.getD 0) (E j) (M j) d.op=some (v,m')->m'=M (j+1)->n.slot=d.dst.getD 0:=by
   intro v m' h e
   exact(ydy hp.1 h).1 n (by rw [e];exact hn)
  unfold zfk at hv
  split at hv
  ·exact key _ _ hv rfl
  ·split at hv
   ·split at hv
    ·exact key _ _ hv rfl
    ·simp only [Option.some.injEq,Prod.mk.injEq] at hv
     exact absurd (by rw [<-hv.2]) hn
   ·simp only [Option.some.injEq,Prod.mk.injEq] at hv
    exact absurd (by rw [<-hv.2]) hn
   ·cases hv
 -- what the region's end tells of two operations
 have apartN:∀ {n:Id} {i j:Nat} {c d:CO},cos[i]? =some c->cos[j]? =some d->znm chk cos i j c d=true->(∀x,yqk c.op=some x->n∈ids (get (E i) x))->look (M (j+1)) n=look (M j) n:=by
  intro n i j c d hc hj hap hn0
  have hin:i<cos.length:=(List.getElem?_eq_some_iff.1 hc).1
  have hjn:j<cos.length:=(List.getElem?_eq_some_iff.1 hj).1
  unfold znm at hap
  by_cases hqd:yij d.op=true
  ·rw [ylo hqd (hT.val j d hj)]
  have hqf:yij d.op=false:=by simpa using hqd
  rw [hqf,Bool.and_false,Bool.false_or] at hap
  split at hap
  ·rename_i x t hx ht
   simp only [Bool.and_eq_true,List.elem_eq_mem,decide_eq_true_eq,List.all_eq_true,bne_iff_ne,Bool.or_eq_true,beq_iff_eq] at hap
   obtain⟨⟨⟨hmem,h1⟩,h2⟩,h3⟩:=hap
   have hn:=hn0 x hx
   rw [<-hT.same x i cos.length (by omega) (Nat.le_refl _) fun k y hk hkn hy he=>h1 y (List.mem_of_getElem? (i:=k-i) (by rw [List.getElem?_drop,show i+(k-i)=k by omega];exact hy)) he] at hn
   have hno:n∉ids (get (E cos.length) t):=by
    have:∀l:List (Nat×Nat),yku (E cos.length) l=true->(x,t)∈l->∀i∈ids (get (E cos.length) x),i∉ids (get (E cos.length) t):=by
     intro l
     induction l with
     | nil=>intro _ h;cases h
     | cons p r ih=>
      obtain⟨a,b⟩:=p
      intro hd hm
      simp only [yku,Bool.and_eq_true,List.all_eq_true,Bool.not_eq_true',List.elem_eq_mem,decide_eq_false_iff_not] at hd
      rcases List.mem_cons.1 hm with e|hm
      ·cases e;exact hd.1
      ·exact ih hd.2 hm
    exact this chk hchk hmem n hn
   have hend:get (E cos.length) t=get (E (j+1)) t:=hT.same t (j+1) cos.length (by omega) (Nat.le_refl _) fun k y hk hkn hy he=>h2 y (List.mem_of_getElem? (i:=k-(j+1)) (by rw [List.getElem?_drop,show j+1+(k-(j+1))=k by omega];exact hy)) he
   rw [hend] at hno
   have hv:=hT.val j d hj
   have hE:=hT.env j d hj
   refine yo3 hv (fun t' ht'=> ?_) (fun t' ht' hd'=> ?_) (by rw [ht];rfl)
   ·rw [ht] at ht'
    obtain rfl:=Option.some.inj ht'
    exact fun hd'=>by
     rw [hE,hd'] at hno
     rw [show get (put? (E j) (some t) (W j)) t=W j from zla _ _ _] at hno
     exact hno
   ·rw [ht] at ht'
    obtain rfl:=Option.some.inj ht'
    rcases h3 with h3|h3
    ·rw [hE,h3] at hno
     exact hno
    ·exact absurd h3 hd'
  ·cases hap
 -- when nothing is ready, all has been run
 have alldone:∀(listed:Array Bool) (A:Act) (s:S),ysj oc gl ops cos M W (E 0) s0 A0 listed A s->Region.ready .any ops listed=[]->Q .normal A s.w:=by
  intro listed A s hI hr
  have all:∀i,i<cos.length->listed.getD i false=true:=by
   intro i
   induction i using Nat.strongRecOn with
   | ind i ih=>
    intro hi
    cases hl:listed.getD i false with
    | true=>rfl
    | false=>
     obtain⟨o,ho⟩:∃o,ops[i]? =some o:=⟨_,Array.getElem?_eq_getElem (by rw [<-hd.len];exact hi)⟩
     have:i∈Region.ready .any ops listed:=by
      refine mem_ready.2 ⟨?_,o,ho,fun e he hb=> ?_⟩
      ·have hlt:i<listed.size:=by rw [hI.size];exact hi
       rw [Array.getD_eq_getD_getElem?] at hl ⊢
       simp [hlt] at hl ⊢;exact hl
      ·have hlt:=hd.edge i o e ho he hb
       exact ih e.on hlt (by omega)
     rw [hr] at this
     cases this
  obtain⟨q1,q2⟩:=hI.sim.again (m':=M cos.length) fun n=>by
   obtain⟨k,hk,hm,h1,h2⟩:=hI.mem n
   rw [hm]
   refine still k cos.length hk (fun j hj hjn=> ?_)
   by_cases hch:look (M (j+1)) n=look (M j) n
   ·exact hch
   ·have:=h2 j hj hjn hch
    rw [all j hjn] at this;cases this
  refine hQ ⟨s.φ,M cos.length,s.w,s.Im⟩ A q1 (Ext.trans hI.ext q2 (fun _ _=>trivial)) rfl (fun t=>VR.ext q2 _ _ (fun _ _=>trivial) ?_) hI.tmps.1 hI.tmps.2
  ·by_cases hex:∃(i:Nat) (c:CO),cos[i]? =some c/\c.dst=some t
   ·obtain⟨i,c,hc,hct⟩:=hex
    have hi:i<cos.length:=(List.getElem?_eq_some_iff.1 hc).1
    rw [hT.wrote hc hct (fun k d hk hkt=>hd.uniq k i d c t hk hc hkt hct) hi (Nat.le_refl _)]
    exact hI.env1 i c t hc (all i hi) hct
   ·rw [hT.same t 0 cos.length (Nat.zero_le _) (Nat.le_refl _) fun k c _ _ hc he=>hex ⟨k,c,hc,he⟩]
    exact hI.env2 t fun i c hc _ he=>hex ⟨i,c,hc,he⟩
 intro fuel
 induction fuel with
 | zero=>
  intro listed A s hcount hI
  have hr:Region.ready .any ops listed=[]:=by
   cases hr:Region.ready .any ops listed with
   | nil=>rfl
   | cons i q=>
    have hi:i∈Region.ready .any ops listed:=by rw [hr];simp
    have h0:=(mem_ready.1 hi).1
    have hlt:i<listed.size:=by
     rcases Nat.lt_or_ge i listed.size with h'|h'
     ·exact h'
     ·rw [Array.getD_eq_getD_getElem?,Array.getElem?_eq_none h'] at h0;cases h0
    have hf:listed[i]=false:=by rw [Array.getD_eq_getD_getElem?] at h0;simpa [hlt] using h0
    have:0<listed.toList.countP (fun b=> !b):=List.countP_pos_iff.2 ⟨listed[i],by simp,by simp [hf]⟩
    omega
  exact⟨hr,alldone listed A s hI hr⟩
 | succ fuel ih=>
  intro listed A s hcount hI
  refine⟨fun hr=>alldone listed A s hI hr,fun i hi=> ?_⟩
  obtain⟨h0,o,ho,hedges⟩:=mem_ready.1 hi
  have hio:i<ops.size:=(Array.getElem?_eq_some_iff.1 ho).1
  have hin:i<cos.length:=by rw [hd.len];exact hio
  have hlt:i<listed.size:=by rw [hI.size];exact hin
  have hf:listed[i]=false:=by rw [Array.getD_eq_getD_getElem?] at h0;simpa [hlt] using h0
  have hnl:listed.getD i false=false:=by rw [Array.getD_eq_getD_getElem?];simp [hlt,hf]
  obtain⟨c,hc⟩:∃c,cos[i]? =some c:=⟨_,List.getElem?_eq_getElem hin⟩
  have hco:=(z6i cos ops.toList hok).2 i c o hc (by simpa using ho)
  obtain⟨hdst,hdlt⟩:=z6h hco
  -- what stands before it has been run
  have before:∀j,j≠i->zy8 ops i j->listed.getD j false=true:=by
   intro j hj hn
   have:=hn (fun k=>k=i\/listed.getD k false=true) (fun k o' e hk hp he hb=>by
    rcases hp with rfl|hp
    ·rw [ho] at hk
     obtain rfl:=Option.some.inj hk
     exact .inr (hedges e he hb)
    ·exact .inr (hI.closed k o' e hk hp he hb)) (.inl rfl)
   exact this.resolve_left hj
  have behind:∀j,zy8 ops j i->listed.getD j false=true->False:=by
   intro j hn hj
   have:=hn (fun k=>listed.getD k false=true) hI.closed hj
   rw [hnl] at this;cases this
  -- what it reads
  let e1:Env:=(E i).filter fun p=>(zj1 c).elem p.1
  have hread:∀t∈zj1 c,get e1 t=get (E i) t:=by
   intro t ht
   have:∀(l:Env),get (l.filter fun p=>(zj1 c).elem p.1) t=get l t:=by
    intro l
    induction l with
    | nil=>rfl
    | cons p l ihl=>
     obtain⟨u,v⟩:=p
     rw [List.filter_cons]
     split
     ·simp only [get];rw [ihl]
     ·rename_i hu
      have hne:u≠t:=fun e=>hu (by subst e;simpa using ht)
      simp only [get,hne,if_false];exact ihl
   exact this _
  have hnread:∀t,t∉zj1 c->get e1 t= .undef:=by
   intro t ht
   have:∀(l:Env),get (l.filter fun p=>(zj1 c).elem p.1) t= .undef:=by
    intro l
    induction l with
    | nil=>rfl
    | cons p l ihl=>
     obtain⟨u,v⟩:=p
     rw [List.filter_cons]
     split
     ·rename_i hu
      have hne:u≠t:=fun e=>ht (by subst e;simpa using hu)
      simp only [get,hne,if_false];exact ihl
     ·exact ihl
   exact this _
  have henv:zdc s e1 A.tmps:=by
   intro t
   by_cases ht:t∈zj1 c
   ·rw [hread t ht]
    by_cases hex:∃(j:Nat) (d:CO),cos[j]? =some d/\d.dst=some t
    ·obtain⟨j,d,hj,hjt⟩:=hex
     have late:i<=j->listed.getD j false=false->VR s (get (E i) t) (A.tmps.getD t undef):=by
      intro hij hjl
      rw [hT.same t 0 i (Nat.zero_le _) (by omega) fun k d' _ hki hk he=>by
       have:=hd.uniq k j d' d t hk hj he hjt
       omega]
      refine hI.env2 t fun k d' hk hkl he=> ?_
      obtain rfl:=hd.uniq k j d' d t hk hj he hjt
      rw [hjl] at hkl;cases hkl
     rcases hd.read i j c d t hc hj ht hjt with⟨hji,hn⟩|rfl|⟨hij,hn⟩
     ·rw [hT.wrote hj hjt (fun k d' hk hkt=>hd.uniq k j d' d t hk hj hkt hjt) hji (by omega)]
      exact hI.env1 j d t hj (before j (by omega) hn) hjt
     ·exact late (Nat.le_refl _) hnl
     ·refine late (by omega) ?_
      cases hjl:listed.getD j false with
      | false=>rfl
      | true=>exact(behind j hn hjl).elim
    ·rw [hT.same t 0 i (Nat.zero_le _) (by omega) fun k d _ _ hk he=>hex ⟨k,d,hk,he⟩]
     exact hI.env2 t fun j d hj _ he=>hex ⟨j,d,hj,he⟩
   ·rw [hnread t ht];trivial
  -- its memory
  have hval:=hT.val i c hc
  rw [<-yaq c hread] at hval
  have npure:∀ {d:CO},(cls c.op<=2\/cls c.op=4)->(zir c&&zir d)=false/\(zir d&&zir c)=false:=by
   intro d h
   have:zir c=false:=by
    unfold zir
    cases hp:ybm c.op with
    | false=>rfl
    | true=>have:=yig hp;omega
   rw [this];simp
  have nodown:cls c.op≠0->∀(j:Nat) (d:CO),cos[j]? =some d->2<=cls d.op->j<i->listed.getD j false=false->zkn cos c.op d.op=true\/(zir c&&zir d)=true\/znm chk cos i j c d=true:=by
   intro hc0 j d hj hdl hji hjl
   cases hp:zkn cos c.op d.op with
   | true=>exact .inl rfl
   | false=>
    cases hq:(zir c&&zir d) with
    | true=>exact .inr (.inl rfl)
    | false=>
     cases hr:znm chk cos i j c d with
     | true=>exact .inr (.inr rfl)
     | false=>rw [before j (by omega) (hd.loud i j c d hc hj hji hc0 (by omega) hp hq hr (zfy hdl))] at hjl;cases hjl
  have noup:cls c.op≠0->∀(j:Nat) (d:CO),cos[j]? =some d->2<=cls d.op->i<=j->listed.getD j false=true->zkn cos d.op c.op=true\/(zir d&&zir c)=true\/znm chk cos i j c d=true:=by
   intro hc0 j d hj hdl hij hjl
   rcases Nat.lt_or_ge i j with h|h
   ·cases hp:zkn cos d.op c.op with
    | true=>exact .inl rfl
    | false=>
     cases hq:(zir d&&zir c) with
     | true=>exact .inr (.inl rfl)
     | false=>
      cases hr:znm chk cos i j c d with
      | true=>exact .inr (.inr rfl)
      | false=>exact(behind j (hd.loud j i d c hj hc h (by omega) hc0 hp hq (zfy hdl) hr) hjl).elim
   ·obtain rfl:i=j:=by omega
    rw [hnl] at hjl;cases hjl
  have hpass:∀x y:COp,zkn cos x y=true->(cls y=1/\cls x=1)\/(cls y=1/\cls x=3)\/(cls y=3/\cls x=1/\zuw [] x=[])\/(cls y=1/\cls x=4/\zto cos y x=true)\/(cls y=4/\cls x=1/\zto cos x y=true):=by
   intro x y h
   simp only [zkn,Bool.or_eq_true,Bool.and_eq_true,beq_iff_eq,List.isEmpty_iff] at h
   rcases h with(((h|h)|h)|h)|h
   ·exact .inl h
   ·exact .inr (.inl h)
   ·exact .inr (.inr (.inl ⟨h.1.1,h.1.2,h.2⟩))
   ·exact .inr (.inr (.inr (.inl ⟨h.1.1,h.1.2,h.2⟩)))
   ·exact .inr (.inr (.inr (.inr ⟨h.1.1,h.1.2,h.2⟩)))
  -- what a zto load asks for
  have hguard:∀w:COp,zto cos c.op w=true->zuw [] c.op=[]/\∀n∈zuw e1 c.op,∀j,j<=cos.length->∃t∈z4g w,n∈ids (get (E j) t):=by
   intro w hw
   unfold zto at hw
   split at hw
   ·rename_i a hop
    simp only [Bool.and_eq_true,List.elem_eq_mem,decide_eq_true_eq,List.all_eq_true,bne_iff_ne] at hw
    have hra:a∈zj1 c:=by
     have:=(zvr hop []).1
     unfold zj1
     split<;>simp [this]
    have hnw:∀(k':Nat) (d:CO),cos[k']? =some d->d.dst≠some (zzn cos a):=fun k' d hd'=>hw.2 d (List.mem_of_getElem? hd')
    rw [(zvr hop []).2,(zvr hop e1).2]
    refine⟨rfl,fun n hn j hj=>⟨zzn cos a,hw.1,?_⟩⟩
    have hn':n∈ids (get e1 a):=hn
    rw [hread a hra] at hn'
    have hb:n∈ids (get (E 0) (zzn cos a)):=by
     have one:∀(i:Nat) (c:CO) (a:Nat),cos[i]? =some c->a∈zj1 c->n∈ids (get (E i) a)->∃(j:Nat) (x:CO),cos[j]? =some x/\z7n cos a∈zj1 x/\n∈ids (get (E j) (z7n cos a)):=by
      intro i c a hc ha hn
      rcases yab cos a hc ha with e|⟨j0,x,h1,h2,h3,h4,h5⟩
      ·exact⟨i,c,hc,by rw [e];exact ha,by rw [e];exact hn⟩
      ·have hi:=(List.getElem?_eq_some_iff.1 hc).1
       rw [hT.wrote h2 h3 (fun k' d' hk hkt=>hd.uniq k' j0 d' x a hk h2 hkt h3) h1 (by omega)] at hn
       refine⟨j0,x,h2,?_,ygv h4 h5 (hT.val j0 x h2) n hn⟩
       have:=z5z h5
       unfold zj1
       split<;>simp [this]
     obtain⟨j1,x1,g1,g2,g3⟩:=one i c a hc hra hn'
     obtain⟨j2,x2,g4,g5,g6⟩:=one j1 x1 _ g1 g2 g3
     obtain⟨j3,x3,g7,g8,g9⟩:=one j2 x2 _ g4 g5 g6
     have hj3:=(List.getElem?_eq_some_iff.1 g7).1
     rw [<-hT.same (zzn cos a) 0 j3 (Nat.zero_le _) (by omega) fun k' d _ _ hd'=>hnw k' d hd']
     exact g9
    rw [hT.same (zzn cos a) 0 j (Nat.zero_le _) hj fun k' d _ _ hd'=>hnw k' d hd']
    exact hb
   ·cases hw
  have loudly:∀x y:COp,2<=cls x->2<=cls y->zkn cos x y=false:=by
   intro x y hx hy
   cases hp:zkn cos x y with
   | false=>rfl
   | true=>have:=hpass x y hp;omega
  -- the world as it is, memory listed so that the text's step fits
  obtain⟨s1,hw1,hsim1,hext1,m',hev,hmem'⟩:∃s1:S,s1.w=s.w/\Sim oc gl s1/\Ext (fun _=>True) s s1/\∃m',zfk F cx e1 s1.m c=some (W i,m')/\
    ∀n:Id,∃k,k<=cos.length/\look m' n=look (M k) n/\(∀j,j<k->look (M (j+1)) n≠look (M j) n->j=i\/listed.getD j false=true)/\(∀j,k<=j->j<cos.length->look (M (j+1)) n≠look (M j) n->j≠i/\listed.getD j false=false):=by
   rcases Nat.lt_or_ge (cls c.op) 2 with hc2|hc2
   ·have hsame:zfk F cx e1 s.m c=some (W i,s.m):=by
     by_cases hc0:cls c.op=0
     ·exact(yru hc0 hval).2 s.m
     ·have hc1:cls c.op=1:=by omega
      have nopure:∀(d:CO),(zir c&&zir d)≠true/\(zir d&&zir c)≠true:=fun d=>by
       rw [(npure (d:=d) (.inl (by omega))).1,(npure (d:=d) (.inl (by omega))).2];simp
      have hrd:∀n∈zuw e1 c.op,∀x,yqk c.op=some x->n∈ids (get (E i) x):=by
       intro n hn x hx
       have h1:=yd2 hx e1
       rw [h1.2.1] at hn
       rw [hread x (by unfold zj1;split<;>simp [h1.1])] at hn
       exact hn
      refine yez (fun n hn o hl=> ?_) hc1 hval
      obtain⟨k,hk,hm,hk1,hk2⟩:=hI.mem n
      rw [hm]
      rcases Nat.le_total i k with h|h
      ·refine stay i k h hk (fun j d h1 h2 hj=> ?_) hl
       by_cases hch:look (M (j+1)) n=look (M j) n
       ·exact .inl hch
       ·have hdl:=loudC hj hch
        have hmp:zkn cos d.op c.op=true:=by
         rcases noup hc0 j d hj hdl h1 (hk1 j h2 hch) with h|h|h
         ·exact h
         ·exact absurd h (nopure d).2
         ·exact absurd (apartN hc hj h (hrd n hn)) hch
        rcases hpass _ _ hmp with h|h|h|h|h
        ·omega
        ·exact .inr (.inl h.2)
        ·omega
        ·exact .inr (.inr ⟨h.2.1,(hguard d.op h.2.2).2 n hn j (by omega)⟩)
        ·omega
      ·by_cases hloud:∃(j:Nat) (d:CO),k<=j/\j<i/\cos[j]? =some d/\look (M (j+1)) n≠look (M j) n
       ·have pass:∀(j:Nat) (d:CO),k<=j->j<i->cos[j]? =some d->look (M (j+1)) n≠look (M j) n->zkn cos c.op d.op=true:=fun j d h1 h2 hj hch=>by
         rcases nodown hc0 j d hj (loudC hj hch) h2 (hk2 j h1 (by omega) hch) with h|h|h
         ·exact h
         ·exact absurd h (nopure d).1
         ·exact absurd (apartN hc hj h (hrd n hn)) hch
        have hclosed:zuw [] c.op=[]:=by
         obtain⟨j,d,h1,h2,hj,hch⟩:=hloud
         have hdl:=loudC hj hch
         rcases hpass _ _ (pass j d h1 h2 hj hch) with h|h|h|h|h
         ·omega
         ·omega
         ·exact h.2.2
         ·omega
         ·exact(hguard d.op h.2.2).1
        obtain⟨o',ho'⟩:∃o',look (M k) n=some o':=by
         rw [<-hm]
         rcases ye3 hn with⟨t,_,hi⟩|hi
         ·exact z4z s _ _ (henv t) n hi
         ·rw [hclosed] at hi;simp at hi
        have:=stay k i h (by omega) (fun j d h1 h2 hj=>by
         by_cases hch:look (M (j+1)) n=look (M j) n
         ·exact .inl hch
         ·have hdl:=loudC hj hch
          rcases hpass _ _ (pass j d h1 h2 hj hch) with h|h|h|h|h
          ·omega
          ·omega
          ·exact .inr (.inl h.1)
          ·omega
          ·exact .inr (.inr ⟨h.1,(hguard d.op h.2.2).2 n hn j (by omega)⟩)) ho'
        rw [hl] at this
        rw [ho',this]
       ·rw [<-still k i h fun j h1 h2=> ?_]
        ·exact hl
        ·by_cases hch:look (M (j+1)) n=look (M j) n
         ·exact hch
         ·exact absurd ⟨j,cos[j]'(by omega),h1,h2,List.getElem?_eq_getElem (by omega),hch⟩ hloud
    refine⟨s,rfl,hI.sim,Ext.refl _ _,s.m,hsame,fun n=> ?_⟩
    obtain⟨k,hk,hm,hk1,hk2⟩:=hI.mem n
    refine⟨k,hk,hm,fun j hj hch=> .inr (hk1 j hj hch),fun j hj hjn hch=>⟨?_,hk2 j hj hjn hch⟩⟩
    rintro rfl
    have:=loudC hc hch
    omega
   ·have hc0:cls c.op≠0:=by omega
    by_cases hpc:zir c=true
    ·--a new object:its name is the text's
     have order:∀(n:Id) (j:Nat) (d:CO),cos[j]? =some d->j≠i->look (M (j+1)) n≠look (M j) n->n.slot=c.dst.getD 0->(j<i->listed.getD j false=true)/\(i<j->listed.getD j false=false):=by
      intro n j d hj hji hch hns
      have hdl:=loudC hj hch
      have hnp:zir d=false:=by
       cases hp:zir d with
       | false=>rfl
       | true=>
        exfalso
        have:=pureN hj hp hch
        rw [this] at hns
        simp only [zir,Bool.and_eq_true,Option.isSome_iff_exists] at hp hpc
        obtain⟨_,t,ht⟩:=hp
        obtain⟨_,u,hu⟩:=hpc
        simp only [ht,hu,Option.getD_some] at hns
        subst hns
        exact hji (hd.uniq j i d c t hj hc ht hu)
      refine⟨fun h=>before j hji (hd.loud i j c d hc hj h hc0 (by omega) (loudly _ _ hc2 hdl) (by rw [hnp,Bool.and_false]) (zfy hc2) (zfy hdl)),fun h=> ?_⟩
      cases hl:listed.getD j false with
      | false=>rfl
      | true=>exact(behind j (hd.loud j i d c hj hc h (by omega) hc0 (loudly _ _ hdl hc2) (by rw [hnp,Bool.false_and]) (zfy hdl) (zfy hc2)) hl).elim
     have sameSlot:∀n:Id,n.slot=c.dst.getD 0->look s.m n=look (M i) n:=by
      intro n hns
      obtain⟨k,hk,hm,hk1,hk2⟩:=hI.mem n
      rw [hm]
      rcases Nat.le_total i k with h|h
      ·refine still i k h fun j h1 h2=> ?_
       by_cases hch:look (M (j+1)) n=look (M j) n
       ·exact hch
       ·have hjl:=hk1 j h2 hch
        have hji:j≠i:=by rintro rfl;rw [hnl] at hjl;cases hjl
        have:=(order n j _ (List.getElem?_eq_getElem (by omega)) hji hch hns).2 (by omega)
        rw [hjl] at this;cases this
      ·refine(still k i h fun j h1 h2=> ?_).symm
       by_cases hch:look (M (j+1)) n=look (M j) n
       ·exact hch
       ·have hjl:=hk2 j h1 (by omega) hch
        have:=(order n j _ (List.getElem?_eq_getElem (by omega)) (by omega) hch hns).1 h2
        rw [hjl] at this;cases this
     have hpa:ybm c.op=true:=by
      simp only [zir,Bool.and_eq_true] at hpc;exact hpc.1
     have hstep:∃m',zfk F cx e1 s.m c=some (W i,m')/\∀n,(look m' n=look s.m n/\look (M (i+1)) n=look (M i) n)\/(n.slot=c.dst.getD 0/\look m' n=look (M (i+1)) n):=by
      have key:zdg F cx (c.dst.getD 0) e1 (M i) c.op=some (W i,M (i+1))->∃m',zdg F cx (c.dst.getD 0) e1 s.m c.op=some (W i,m')/\∀n,(look m' n=look s.m n/\look (M (i+1)) n=look (M i) n)\/(n.slot=c.dst.getD 0/\look m' n=look (M (i+1)) n):=by
       intro h
       exact(ydy hpa h).2 s.m fun n _ hn=>sameSlot n hn
      have skip:(∀m2,zfk F cx e1 m2 c=some (V.skip,m2))->∃m',zfk F cx e1 s.m c=some (W i,m')/\∀n,(look m' n=look s.m n/\look (M (i+1)) n=look (M i) n)\/(n.slot=c.dst.getD 0/\look m' n=look (M (i+1)) n):=by
       intro h
       rw [h] at hval
       simp only [Option.some.injEq,Prod.mk.injEq] at hval
       exact⟨s.m,by rw [h,hval.1],fun n=> .inl ⟨rfl,by rw [hval.2]⟩⟩
      have run:(∀m2,zfk F cx e1 m2 c=zdg F cx (c.dst.getD 0) e1 m2 c.op)->∃m',zfk F cx e1 s.m c=some (W i,m')/\∀n,(look m' n=look s.m n/\look (M (i+1)) n=look (M i) n)\/(n.slot=c.dst.getD 0/\look m' n=look (M (i+1)) n):=by
       intro h
       rw [h] at hval
       obtain⟨m',k1,k2⟩:=key hval
       exact⟨m',(h _).trans k1,k2⟩
      cases hg:c.guard with
      | none=>exact run fun m2=>by simp only [zfk,hg]
      | some p=>
       obtain⟨t,w⟩:=p
       cases hb:get e1 t with
       | skip=>exact skip fun m2=>by simp only [zfk,hg,hb]
       | d x=>
        cases x with
        | bool b=>
         by_cases hbw:b=w
         ·exact run fun m2=>by simp only [zfk,hg,hb,if_pos hbw]
         ·exact skip fun m2=>by simp only [zfk,hg,hb,if_neg hbw]
        | _=>simp [zfk,hg,hb] at hval
       | _=>simp [zfk,hg,hb] at hval
     obtain⟨m',hev,hlk⟩:=hstep
     refine⟨s,rfl,hI.sim,Ext.refl _ _,m',hev,fun n=> ?_⟩
     rcases hlk n with⟨h1,h2⟩|⟨hns,h1⟩
     ·obtain⟨k,hk,hm,hk1,hk2⟩:=hI.mem n
      refine⟨k,hk,h1.trans hm,fun j hj hch=> .inr (hk1 j hj hch),fun j hj hjn hch=>⟨?_,hk2 j hj hjn hch⟩⟩
      rintro rfl
      exact hch h2
     ·refine⟨i+1,by omega,h1,fun j hj hch=> ?_,fun j hj hjn hch=>⟨by omega,?_⟩⟩
      ·by_cases hji:j=i
       ·exact .inl hji
       ·exact .inr ((order n j _ (List.getElem?_eq_getElem (by omega)) hji hch hns).1 (by omega))
      ·exact(order n j _ (List.getElem?_eq_getElem hjn) (by omega) hch hns).2 (by omega)
    ·--all that turns memory before it has been run,nothing behind it
     have hnp:zir c=false:=Bool.eq_false_iff.2 hpc
     have order:∀(n:Id) (j:Nat) (d:CO),cos[j]? =some d->j≠i->look (M (j+1)) n≠look (M j) n->(j<i->listed.getD j false=true)/\(i<j->listed.getD j false=false):=by
      intro n j d hj hji hch
      have hdl:=loudC hj hch
      refine⟨fun h=>before j hji (hd.loud i j c d hc hj h hc0 (by omega) (loudly _ _ hc2 hdl) (by rw [hnp,Bool.false_and]) (zfy hc2) (zfy hdl)),fun h=> ?_⟩
      cases hl:listed.getD j false with
      | false=>rfl
      | true=>exact(behind j (hd.loud j i d c hj hc h (by omega) hc0 (loudly _ _ hdl hc2) (by rw [hnp,Bool.and_false]) (zfy hdl) (zfy hc2)) hl).elim
     obtain⟨q1,q2⟩:=hI.sim.again (m':=M i) fun n=>by
      obtain⟨k,hk,hm,hk1,hk2⟩:=hI.mem n
      rw [hm]
      rcases Nat.le_total i k with h|h
      ·refine(still i k h fun j h1 h2=> ?_).symm
       by_cases hch:look (M (j+1)) n=look (M j) n
       ·exact hch
       ·have hjl:=hk1 j h2 hch
        have hji:j≠i:=by rintro rfl;rw [hnl] at hjl;cases hjl
        have:=(order n j _ (List.getElem?_eq_getElem (by omega)) hji hch).2 (by omega)
        rw [hjl] at this;cases this
      ·refine still k i h fun j h1 h2=> ?_
       by_cases hch:look (M (j+1)) n=look (M j) n
       ·exact hch
       ·have hjl:=hk2 j h1 (by omega) hch
        have:=(order n j _ (List.getElem?_eq_getElem (by omega)) (by omega) hch).1 h2
        rw [hjl] at this;cases this
     refine⟨⟨s.φ,M i,s.w,s.Im⟩,rfl,q1,q2,M (i+1),hval,fun n=>⟨i+1,by omega,rfl,fun j hj hch=> ?_,fun j hj hjn hch=>⟨by omega,?_⟩⟩⟩
     ·by_cases hji:j=i
      ·exact .inl hji
      ·exact .inr ((order n j _ (List.getElem?_eq_getElem (by omega)) hji hch).1 (by omega))
     ·exact(order n j _ (List.getElem?_eq_getElem hjn) (by omega) hch).2 (by omega)
  rw [<-hw1]
  have henv1:zdc s1 e1 A.tmps:=fun t=>VR.ext hext1 _ _ (fun _ _=>trivial) (henv t)
  refine z66 hF hsim1 henv1 r cx (by rw [hI.tmps.1];exact hnt) ho hco hev fun s' x q1 q2' q3 q4=> ?_
  have q2:=Ext.trans hext1 q2' (fun _ _=>trivial)
  have hsz:=zjz A o.dst x
  refine ih (listed.setIfInBounds i true) (A.put o.dst x) s' ?_ ⟨by simpa using hI.size,fun j o' e hj hp he hb=> ?_,q1,Ext.trans hI.ext q2 (fun _ _=>trivial),fun n=> ?_,
   fun j d t hj hl hdt=> ?_,fun t hno=> ?_,⟨hsz.1.trans hI.tmps.1,hsz.2.trans hI.tmps.2⟩⟩
  ·rw [Array.toList_setIfInBounds,List.countP_set (by simpa using hlt)]
   have hpos:0<listed.toList.countP (fun b=> !b):=List.countP_pos_iff.2 ⟨listed[i],by simp,by simp [hf]⟩
   simp only [Array.getElem_toList,hf,Bool.not_false,Bool.not_true,if_true,Bool.false_eq_true,if_false]
   omega
  ·simp only [zri hlt,Bool.or_eq_true,decide_eq_true_eq] at hp ⊢
   rcases hp with rfl|hp
   ·rw [ho] at hj
    obtain rfl:=Option.some.inj hj
    exact .inr (hedges e he hb)
   ·exact .inr (hI.closed j o' e hj hp he hb)
  ·obtain⟨k,hk,hmk,hka,hkb⟩:=hmem' n
   refine⟨k,hk,by rw [q3];exact hmk,fun j hj hch=> ?_,fun j hj hjn hch=> ?_⟩
   ·simp only [zri hlt,Bool.or_eq_true,decide_eq_true_eq]
    exact(hka j hj hch).imp Eq.symm id
   ·obtain⟨h1,h2⟩:=hkb j hj hjn hch
    rw [zri hlt,h2,decide_eq_false (Ne.symm h1)];rfl
  ·simp only [zri hlt,Bool.or_eq_true,decide_eq_true_eq] at hl
   by_cases e:i=j
   ·subst e
    rw [hc] at hj
    obtain rfl:=Option.some.inj hj
    have hot:o.dst=some t:=hdst▸hdt
    rw [hot,zq8 A t x (by have:=hdlt t hdt;rw [hI.tmps.1];omega) t]
    simpa using q4
   ·have hl:=hl.resolve_left e
    have hv:=VR.ext q2 _ _ (fun _ _=>trivial) (hI.env1 j d t hj hl hdt)
    cases hod:o.dst with
    | none=>exact hv
    | some u=>
     have hu:c.dst=some u:=hdst.trans hod
     have hne:u≠t:=fun e'=>e (hd.uniq i j c d t hc hj (by rw [hu,e']) hdt)
     rw [zq8 A u x (by have:=hdlt u hu;rw [hI.tmps.1];omega) t]
     simpa [hne] using hv
  ·have hv:=VR.ext q2 _ _ (fun _ _=>trivial) (hI.env2 t fun j d hj hl=>hno j d hj (by simp [zri hlt,hl]))
   cases hod:o.dst with
   | none=>exact hv
   | some u=>
    have hu:c.dst=some u:=hdst.trans hod
    have hne:u≠t:=fun e'=>hno i c hc (by simp [zri hlt]) (by rw [hu,e'])
    rw [zq8 A u x (by have:=hdlt u hu;rw [hI.tmps.1];omega) t]
    simpa [hne] using hv
theorem z9u {F:Oracle} (hF:Good P oc gl F) (hm:P.follows .mixedOrders=true) (r:Option Nat) (cx:Cx) {nt:Nat} {ops:Array Oper} {cos:List CO} (draw:Bool) (id:Nat) (hok:zog P gl nt ops cos ops.toList=true) {chk:List (Nat×Nat)}
  {e e':Env} (hdr:draw=true->z81 chk ops cos=true/\yku e' chk=true) {m':Mem} {s:S} {A:Act} (h:zk9 F cx cos e s.m=some (e',m')) (hs:Sim oc gl s) (he:zdc s e A.tmps) (hnt:nt<=A.tmps.size) {Q:Exit->Act->World->Prop}
  (hQ:∀s' A',Sim oc gl s'->Ext (fun _=>True) s s'->s'.m=m'->zdc s' e' A'.tmps->A'.tmps.size=A.tmps.size->A'.defers=A.defers->Q .normal A' s'.w):
  (Code.region id ops draw).wpIn (fen r) 0 P Q A s.w:=by
 cases draw with
 | false=>
  refine wpIn_region ?_
  have:=ybi hF r cx cos ops.toList 0 e e' m' s A (fun k _=>by simp) hok h hs he hnt hQ
  rw [List.range_eq_range']
  simpa using this
 | true=>
  have hd:=ygp hok (hdr rfl).1
  obtain⟨E,M,W,hT,hE,hM,hE',hM'⟩:=yem cos e e' s.m m' h
  refine wpIn_region_any hm ?_
  obtain⟨k1,k2⟩:=hs.calm {s.w with drawn:=s.w.drawn+1} s.Im rfl rfl rfl (Nat.le_refl _) (fun _ _=>rfl) (fun _ _ h=>h) (fun _ _ h=> .inl h) hs.imlt
  have hsz:(Array.replicate ops.size false).toList.countP (fun b=> !b)<=ops.size:=by
   refine Nat.le_trans List.countP_le_length ?_
   simp
  have nol:∀i,(Array.replicate ops.size false).getD i false=false:=by
   intro i
   rw [Array.getD_eq_getD_getElem?]
   by_cases h:i<ops.size
   ·simp [h]
   ·simp [h]
  refine ygq (Q:=Q) hF r cx hok hd hT (by rw [hE'];exact(hdr rfl).2) (s0:=s) (A0:=A) hnt (fun s' A' q1 q2 q3 q4 q5 q6=>hQ s' A' q1 q2 (q3.trans hM') (hE'▸q4) q5 q6) ops.size _ A ⟨s.φ,s.m,{s.w with drawn:=s.w.drawn+1},s.Im⟩ hsz
   ⟨by simp [hd.len],fun i o e _ hp=>absurd ((nol i).symm.trans hp) (by simp),k1,k2,fun n=>⟨0,Nat.zero_le _,by rw [hM],fun j h=>absurd h (Nat.not_lt_zero _),fun j _ _ _=>nol j⟩,
    fun i c t _ hp=>absurd ((nol i).symm.trans hp) (by simp),fun t _=> ?_,rfl,rfl⟩
  rw [hE]
  exact VR.ext k2 _ _ (fun _ _=>trivial) (he t)
end
end Go.Evl
namespace Go.Evl
open Go.RowKit
theorem yfv {F:Fence} {n:Nat} {P:Program} {Q:Exit->Act->World->Prop} {a:Act} {w:World} {c:Code} (h:c.wpIn F n P (Exit.noGoto Q) a w):(Code.scope c).wpIn F n P Q a w:=by
 intro b k cs hro hb hr
 have s0:∀(a:Act) (w:World),Go.step P (lone (b.atR a (.code (.scope c)::k)) cs w)= .next (lone (b.atR a (.code c:: .inScope c::k)) cs w):=
  fun a w=>step_lone_go (by simp [stepG,stepG.exec,Frame.atR])
 have s1:∀(a:Act) (w:World),Go.step P (lone (b.atR a (.inScope c::k)) cs w)= .next (lone (b.atR a k) cs w):=
  fun a w=>step_lone_go (by simp [stepG,stepG.exec,Frame.atR])
 have h0:(lone (b.atR a (.code (.scope c)::k)) cs w).fenced P F:=fenced_calm hb hr rfl
 obtain⟨e,a₁,w₁,hq,harr⟩:=h b (.inScope c::k) cs hro hb hr
 cases e with
 | normal=>exact⟨.normal,a₁,w₁,hq,.head h0 (s0 a w) (StepsIn.trans harr (.one (fenced_calm hb hr rfl) (s1 a₁ w₁)))⟩
 | exit id=>
  have hx:exitTo id (.inScope c::k)=exitTo id k:=by simp [exitTo]
  exact⟨.exit id,a₁,w₁,hq,fun k' hk=> .head h0 (s0 a w) (harr.1 k' (by rw [hx];exact hk)),
   fun hr' hk=>let ⟨k₁,h1,h2⟩:=harr.2 hr' (by rw [hx];exact hk);⟨k₁,h1,.head h0 (s0 a w) h2⟩⟩
 | goto l=>exact hq.elim
 | ret=>exact⟨_,a₁,w₁,hq,.of_steps (.one h0 (s0 a w)) harr⟩
 | panic ch=>exact⟨_,a₁,w₁,hq,.of_steps (.one h0 (s0 a w)) harr⟩
 | outgrown=>exact⟨_,a₁,w₁,hq,.of_steps (.one h0 (s0 a w)) harr⟩
def ysn (P:Program) (t:TypeId):Bool:=match P.underlying t with|some (.map _ _)=>true|_=>false
def yh0 (os2:Array Oper) (c:Operand) (it nt:Nat) (live:List Nat):Bool:=
 match os2.toList with
 | [a,b]=>
  match a.op,a.dst,b.op,b.dst,c with
  | .next (.tmp j) false,some nx,.extract (.tmp nx') 0,some mo,.tmp mo'=>
   j==it&&nx'==nx&&mo'==mo&&a.guard.isNone&&b.guard.isNone&&decide (nx<nt)&&decide (mo<nt)&& !live.elem nx&& !live.elem mo&& !(nx==mo)&& !(nx==it)&& !(mo==it)
  | _,_,_,_,_=>false
 | _=>false
def zyu (P:Program) (gl:Globs) (nt:Nat) (pre:List CO) (it:Nat) (x:Opd) (out nxt pair:Nat) (live:List Nat) (ops:List CO) (os:Array Oper) (out':Nat) (os2:Array Oper) (c:Operand) (out2 nxt':Nat) (os3:Array Oper):Bool:=
 out'==out&&out2==out&&nxt'==nxt&& !(nxt==out)&&live.elem it&&decide (it<nt)&& !(pair==it)&&decide (pair<nt)&&zog P gl nt os pre os.toList.dropLast&&
 (match os.toList.getLast? with
  | some o=>(match o.op with| .range t a=>ysn P t&&okX gl a x|_=>false)&&o.dst==some it&&o.guard.isNone
  | none=>false)&&
 yh0 os2 c it nt live&&
 (match os3.toList with
  | o::rest=>(match o.op with| .entry (.tmp j)=>j==it|_=>false)&&o.dst==some pair&&o.guard.isNone&&zog P gl nt os3 ops rest
  | []=>false)
def okC (P:Program) (gl:Globs) (nt:Nat) (rnd:Bool):C->Code->Bool
 | .skip,.skip=>true
 | .label,.label _=>true
 | .reg d ops _,.region _ os dr=>d==dr&&zog P gl nt os ops os.toList&&(!dr||z81 [] os ops)
 | .regC ops _ chk,.region _ os dr=>dr&&zog P gl nt os ops os.toList&&z81 chk os ops
 | .seq a b,.seq x y=>okC P gl nt rnd a x&&okC P gl nt rnd b y
 | .cond c a b,.cond x p q=>okX gl x c&&okC P gl nt rnd a p&&okC P gl nt rnd b q
 | .block i c,.block j d=>i==j&&okC P gl nt rnd c d
 | .loop _ c,.loop d=>okC P gl nt rnd c d
 | .exit i,.exit j=>i==j
 | .scope c,.scope d=>okC P gl nt rnd c d
 | .ret,.ret=>true
 | .bad,_=>true
 | .rangeFn _ f ps a b,.rangeFunc g qs x y=> !rnd&&okX gl g f&&qs.toList==ps&&ps.all (fun t=>decide (t<nt))&&okC P gl nt true a x&&okC P gl nt true b y
 | .rangeM pre it x out nxt pair live ops _ code,.seq (.region _ os false) (.block out' (.loop (.seq (.region _ os2 false) (.seq (.cond c .skip (.exit out2)) (.block nxt' (.seq (.region _ os3 false) code'))))))=>
  zyu P gl nt pre it x out nxt pair live ops os out' os2 c out2 nxt' os3&&okC P gl nt rnd code code'
 | _,_=>false
def zq6 (P:Program) (gl:Globs):zek:=fun n c code=>∃nt,nt<=n/\okC P gl nt true c code=true
def Ex.exit':Ex->Exit
 | .normal=> .normal
 | .exit id=> .exit id
 | .ret=> .ret
def zp5 (r:Nat):Deferred:={target:= .collected r,args:=#[]}
def zgi (N:Nat) (s:S) (ds:List Deferred):Prop:=
 ∃rs:List Nat,ds=rs.map zp5/\rs.Nodup/\∀r∈rs,N<=r/\s.w.heap[r]? =some (.deferred (some []))/\zt1 s r/\∀j,¬s.Im r j
theorem zgi.nil (N:Nat) (s:S):zgi N s []:=⟨[],rfl,List.nodup_nil,fun r h=>by simp at h⟩
theorem zgi.ext {K:Id->Prop} {N:Nat} {s s':S} {ds:List Deferred} (h:Ext K s s') (hm:zgi N s ds):zgi N s' ds:=by
 obtain⟨rs,h1,h2,h3⟩:=hm
 refine⟨rs,h1,h2,fun r hr=> ?_⟩
 obtain⟨k1,k2,k3,k4⟩:=h3 r hr
 have hlt:=(Array.getElem?_eq_some_iff.1 k2).1
 obtain⟨f1,f2⟩:=h.frame r hlt k3
 refine⟨k1,f1.trans k2,f2,fun j hj=> ?_⟩
 rcases h.imnew r j hj with q|q|q
 ·exact k4 j q
 ·omega
 ·exact q k3
section
variable {P : Program} {gl : Globs}
def ych (P:Program) (gl:Globs) (F:Oracle):Prop:=
 ∀cx live keep body e m x e' m',F (.loop cx live keep body e m)=some (.st x e' m')->∀(rd:Option Nat) (nt:Nat) (code:Code),okC P gl nt rd.isSome body code=true->
  ∃k,∀(N:Nat) (s:S) (A:Act),Sim (zq6 P gl) gl s->s.m=m->zdc s e A.tmps->nt<=A.tmps.size->N<=s.w.heap.size->zgi N s A.defers->∀(Q:Exit->Act->World->Prop),
   (∀s' A',Sim (zq6 P gl) gl s'->Ext (fun i=>i∈keep) s s'->s'.m=m'->zdc s' e' A'.tmps->A'.tmps.size=A.tmps.size->zgi N s' A'.defers->Q x.exit' A' s'.w)->
   Code.roundsIn (fen rd) 0 P code Q k A s.w
structure ypd (P:Program) (gl:Globs) (F:Oracle):Prop where
 good:Good P (zq6 P gl) gl F
 loop:ych P gl F
theorem zot:∀(m:Mem) (i:Id) (o:Ob),look m i=some o->i∈znr m
 | [],i,o,h=>by simp [look] at h
 | (j,y)::r,i,o,h=>by
  simp only [look] at h
  split at h
  ·rename_i e;subst e;simp [znr]
  ·have:=zot r i o h
   simp only [znr,List.map_cons,List.mem_cons]
   exact .inr this
theorem z52 (e:Env) (m:Mem):gc1 (znr m) e m=m:=by
 unfold gc1
 refine List.filter_eq_self.2 fun p hp=> ?_
 have:p.1∈znr m:=List.mem_map_of_mem hp
 simp [this]
theorem yny (e:Env) (m:Mem):gc (znr m) e m=m:=by
 unfold gc
 rw [z52,z52,z52]
theorem z9o {oc:zek} {s:S} (hs:Sim oc gl s) {r:Nat} {x obj:Obj} (hx:s.w.heap[r]? =some x) (hf:zt1 s r) (hi:∀j,¬s.Im r j):
  Sim oc gl ⟨s.φ,s.m,{s.w with heap:=s.w.heap.setIfInBounds r obj},s.Im⟩/\z98 (fun _=>True) s ⟨s.φ,s.m,{s.w with heap:=s.w.heap.setIfInBounds r obj},s.Im⟩/\
  ∀(K:Id->Prop) (s0:S),Ext K s0 s->s0.w.heap.size<=r->Ext K s0 ⟨s.φ,s.m,{s.w with heap:=s.w.heap.setIfInBounds r obj},s.Im⟩:=by
 have hoth:∀c,c≠r->(s.w.heap.setIfInBounds r obj)[c]? =s.w.heap[c]? :=fun c h=>by simp [Ne.symm h]
 have hkeep:∀b j,s.Im b j->World.cell? {s.w with heap:=s.w.heap.setIfInBounds r obj} ⟨b,j,none⟩=s.w.cell? ⟨b,j,none⟩:=fun b j h=>World.cell?_of_block (hoth b fun e=>by subst e;exact hi j h)
 have h0:z98 (fun _=>True) s ⟨s.φ,s.m,{s.w with heap:=s.w.heap.setIfInBounds r obj},s.Im⟩:=⟨fun _ _ h=>h,hkeep,fun i o _ ho=>⟨o,ho,Turned.refl _ _⟩⟩
 refine⟨⟨fun i o ho=> ?_,hs.apart,fun b j h=>by simpa using hs.imlt b j h,fun g cs hg=>CR.ext (fun _ _ h=>h) hkeep g 0 cs (hs.glob g cs hg),fun g cs hg=> ?_⟩,h0,fun K s0 hE hr=> ?_⟩
 ·by_cases hg:o= .gone
  ·subst hg;trivial
  exact ObR.ext0 h0 (fun _ _=>trivial) (fun b hb=>⟨hoth b fun e=>by subst e;exact hf i o ho hg hb,fun _ h=>h⟩) (hs.objs i o ho)
 ·obtain⟨h1,h2,arr,t,fz,h3,h4⟩:=hs.tabs g cs hg
  refine⟨h1,h2,arr,t,fz,(hoth g fun e=> ?_).trans h3,h4⟩
  subst e
  cases cs with
  | nil=>exact h2 rfl
  | cons d q=>exact hi 0 (hs.glob _ _ hg).1
 ·refine⟨hE.os,hE.tape,hE.output,by simpa using hE.size,fun b hb hfb=>⟨?_,(hE.frame b hb hfb).2⟩,hE.imnew,hE.im,fun b j h=>(hkeep b j (hE.im b j h)).trans (hE.keep b j h),hE.objs⟩
  have:(s.w.heap.setIfInBounds r obj)[b]? =s.w.heap[b]? :=hoth b (by omega)
  exact this.trans (hE.frame b hb hfb).1
theorem yg1 {oc:zek} {s:S} (hs:Sim oc gl s) (keep:List Id) (e:Env):Sim oc gl ⟨s.φ,gc1 keep e s.m,s.w,s.Im⟩/\Ext (fun i=>i∈keep\/i∈yf0 e) s ⟨s.φ,gc1 keep e s.m,s.w,s.Im⟩:=by
 obtain⟨k1,k2⟩:=hs.sub (fun i=>keep.elem i||(yf0 e).elem i||(idsAll s.m).elem i) (fun i hi=>by
  have:=zpi _ _ _ hi
  simp [this])
 exact⟨k1,Ext.mono k2 fun i hi=>by rcases hi with hi|hi<;>simp [hi]⟩
theorem ynz {oc:zek} {s:S} (hs:Sim oc gl s) (keep:List Id) (e:Env):Sim oc gl ⟨s.φ,gc keep e s.m,s.w,s.Im⟩/\Ext (fun i=>i∈keep\/i∈yf0 e) s ⟨s.φ,gc keep e s.m,s.w,s.Im⟩:=by
 obtain⟨a1,a2⟩:=yg1 hs keep e
 obtain⟨b1,b2⟩:=yg1 a1 keep e
 obtain⟨c1,c2⟩:=yg1 b1 keep e
 exact⟨c1,Ext.trans a2 (Ext.trans b2 c2 (fun _ h=>h)) (fun _ h=>h)⟩
theorem znl.perm_split {s:S}:∀(L:List (D×V)) (l:List MapEntry),znl s L l->∀x∈l,∃L1 k v L2 l1 l2,L=L1++(k,v)::L2/\l=l1++x::l2/\DR s.w s.Im k x.key/\VR s v x.val/\znl s (L1++L2) (l1++l2)
 | [],l,h,x,hx=>by
  have h:l=[]:=h
  subst h;simp at hx
 | (k,v)::r,l,h,x,hx=>by
  obtain⟨e,q,rfl,h1,h2,h3,h4⟩:=h
  rcases List.mem_cons.1 hx with rfl|hx
  ·exact⟨[],k,v,r,[],q,rfl,rfl,h2,h3,h4⟩
  ·obtain⟨L1,k',v',L2,l1,l2,rfl,rfl,g1,g2,g3⟩:=znl.perm_split r q h4 x hx
   exact⟨(k,v)::L1,k',v',L2,e::l1,l2,rfl,rfl,g1,g2,⟨e,_,rfl,h1,h2,h3,g3⟩⟩
theorem znl.length {s:S}:∀(L:List (D×V)) (l:List MapEntry),znl s L l->L.length=l.length
 | [],l,h=>by
  have h:l=[]:=h
  subst h;rfl
 | (k,v)::r,l,h=>by
  obtain⟨e,q,rfl,_,_,_,h4⟩:=h
  simp [znl.length r q h4]
theorem yhf {ces:Array MapEntry} {seen:Array Nat} {x:MapEntry} {l:List MapEntry} (hn:(ces.toList.map (·.born)).Nodup) (h:(x::l).Perm (leftOf ces seen).toList):l.Perm (leftOf ces (seen.push x.born)).toList:=by
 have e1:(leftOf ces (seen.push x.born)).toList=(leftOf ces seen).toList.filter fun y=> !(y.born==x.born):=by
  unfold leftOf
  rw [Array.toList_filter,Array.toList_filter,List.filter_filter]
  congr 1
  funext y
  simp only [Array.contains_push]
  rw [Bool.not_or,Bool.and_comm]
 rw [e1]
 have hb:((x::l).map (·.born)).Nodup:=by
  refine(h.map (·.born)).nodup_iff.2 ?_
  unfold leftOf
  rw [Array.toList_filter]
  exact(List.filter_sublist.map _).nodup hn
 have h2:=h.filter fun y=> !(y.born==x.born)
 have e2:(x::l).filter (fun y=> !(y.born==x.born))=l:=by
  rw [List.filter_cons]
  simp only [beq_self_eq_true,Bool.not_true,Bool.false_eq_true,if_false]
  refine List.filter_eq_self.2 fun y hy=> ?_
  simp only [List.map_cons,List.nodup_cons,List.mem_map,not_exists,not_and] at hb
  simpa using hb.1 y hy
 rw [e2] at h2
 exact h2
structure yka (oc:zek) (gl:Globs) (sP sG s:S) (b r:Nat) (ces:Array MapEntry) (clock:Nat):Prop where
 sim:Sim oc gl s
 ext:Ext (fun k=>look sP.m k≠none) sP s
 objs:∀k o,look sG.m k=some o->∃o',look s.m k=some o'/\Turned o o' (sG.φ k) (s.φ k)
 fb:zt1 s b
 fr:zt1 s r
 ir:∀j,¬s.Im r j
 hb:s.w.heap[b]? =some (.map ces clock)
 lt:sP.w.heap.size<=r
 rlt:r<s.w.heap.size
theorem yka.step {oc:zek} {sP sG s s':S} {b r:Nat} {ces:Array MapEntry} {clock:Nat} (h:yka oc gl sP sG s b r ces clock) (hE:Ext (fun k=>look sG.m k≠none\/look sP.m k≠none) s s') (hs:Sim oc gl s'):
  yka oc gl sP sG s' b r ces clock/\s'.w.heap[r]? =s.w.heap[r]? :=by
 have hbl:=(Array.getElem?_eq_some_iff.1 h.hb).1
 obtain⟨b1,b2⟩:=hE.frame b hbl h.fb
 obtain⟨r1,r2⟩:=hE.frame r h.rlt h.fr
 refine⟨⟨hs,Ext.trans h.ext hE (fun _ h=> .inr h),fun k o ho=> ?_,b2,r2,fun j hj=> ?_,b1.trans h.hb,h.lt,Nat.lt_of_lt_of_le h.rlt hE.size⟩,r1⟩
 ·obtain⟨o1,h1,t1⟩:=h.objs k o ho
  obtain⟨o2,h2,t2⟩:=hE.objs k o1 (.inl (by rw [ho];simp)) h1
  exact⟨o2,h2,t1.trans t2⟩
 ·rcases hE.imnew r j hj with q|q|q
  ·exact h.ir j q
  ·exact absurd h.rlt (by omega)
  ·exact q h.fr
theorem yka.aside {oc:zek} {sP sG s:S} {b r:Nat} {ces:Array MapEntry} {clock:Nat} (h:yka oc gl sP sG s b r ces clock) (w1:World) (hw:w1=s.w\/w1=s.w.drew) (obj:Obj) (hbr:b≠r):
  yka oc gl sP sG ⟨s.φ,s.m,{w1 with heap:=w1.heap.setIfInBounds r obj},s.Im⟩ b r ces clock/\z98 (fun _=>True) s ⟨s.φ,s.m,{w1 with heap:=w1.heap.setIfInBounds r obj},s.Im⟩/\
  ({w1 with heap:=w1.heap.setIfInBounds r obj}:World).heap[r]? =some obj/\
  (∀c,c≠r->({w1 with heap:=w1.heap.setIfInBounds r obj}:World).heap[c]? =s.w.heap[c]?):=by
 have hh:w1.heap=s.w.heap:=by rcases hw with rfl|rfl<;>rfl
 obtain⟨k1,k2⟩:=h.sim.calm w1 s.Im (by rcases hw with rfl|rfl<;>rfl) (by rcases hw with rfl|rfl<;>rfl) (by rcases hw with rfl|rfl<;>rfl) (by rw [hh];exact Nat.le_refl _) (fun c _=>by rw [hh]) (fun _ _ h=>h) (fun _ _ h=> .inl h) (fun c j hj=>by rw [hh];exact h.sim.imlt c j hj)
 obtain⟨i1,i2⟩:=h.step (Ext.mono k2 fun _ _=>trivial) k1
 have hr:∃x,w1.heap[r]? =some x:=by rw [hh];exact⟨_,Array.getElem?_eq_getElem h.rlt⟩
 obtain⟨x,hr⟩:=hr
 obtain⟨a1,a2,a3⟩:=z9o (s:=⟨s.φ,s.m,w1,s.Im⟩) (obj:=obj) i1.sim hr i1.fr i1.ir
 have hoth:∀c,c≠r->(w1.heap.setIfInBounds r obj)[c]? =s.w.heap[c]? :=fun c hc=>by rw [<-hh];simp [Ne.symm hc]
 refine⟨⟨a1,a3 _ sP i1.ext h.lt,i1.objs,i1.fb,i1.fr,i1.ir,(hoth b hbr).trans h.hb,h.lt,?_⟩,?_,?_,hoth⟩
 ·show r<(w1.heap.setIfInBounds r obj).size
  rw [Array.size_setIfInBounds,hh];exact h.rlt
 ·exact⟨fun b j h=>a2.im b j (k2.im b j h),fun b j h=>(a2.keep b j (k2.im b j h)).trans (k2.keep b j h),fun i o _ ho=>⟨o,ho,Turned.refl _ _⟩⟩
 ·show (w1.heap.setIfInBounds r obj)[r]? =some obj
  have:r<w1.heap.size:=by rw [hh];exact h.rlt
  simp [this]
theorem zgi.aside {N:Nat} {s s':S} {r:Nat} {ds:List Deferred} (h:zgi N s ds) (hm:s'.m=s.m) (hφ:s'.φ=s.φ) (hI:s'.Im=s.Im) {x:Obj} (hx:s.w.heap[r]? =some x) (hx':∀d,x≠ .deferred d) (hh:∀c,c≠r->s'.w.heap[c]? =s.w.heap[c]?):zgi N s' ds:=by
 obtain⟨rs,h1,h2,h3⟩:=h
 refine⟨rs,h1,h2,fun c hc=> ?_⟩
 obtain⟨k1,k2,k3,k4⟩:=h3 c hc
 refine⟨k1,(hh c fun e=> ?_).trans k2,?_,by rw [hI];exact k4⟩
 ·subst e;rw [hx] at k2;exact hx' _ (Option.some.inj k2)
 ·intro i o hi;rw [hm] at hi;rw [hφ];exact k3 i o hi
theorem znl.to {s s':S} (h:Ext (fun k=>look s.m k≠none) s s') {L:List (D×V)} {l:List MapEntry} (hm:znl s L l):znl s' L l:=
 znl.ext0 (Ext.of_look h).to0 L l (fun _ _=>trivial) hm
section
variable {P : Program}
theorem z84 (live:List Nat) (e:Env) (t:Nat) (h:live.elem t=true):get (only live e) t=get e t:=by
 induction live with
 | nil=>simp at h
 | cons u r ih=>
  simp only [only,List.map_cons,get]
  split
  ·rename_i e;subst e;rfl
  ·rename_i hne
   refine ih ?_
   rw [List.elem_cons] at h
   have:(t==u)=false:=by simpa using fun e=>hne e.symm
   rw [this] at h
   exact h
theorem z83 (live:List Nat) (e:Env) (t:Nat) (h:live.elem t=false):get (only live e) t= .undef:=by
 have hm:t∉live:=fun hm=>by rw [List.elem_eq_true_of_mem hm] at h;cases h
 clear h
 induction live with
 | nil=>rfl
 | cons u r ih=>
  simp only [List.mem_cons,not_or] at hm
  simp only [only,List.map_cons,get]
  split
  ·rename_i e;exact absurd e.symm hm.1
  ·exact ih hm.2
theorem zxe {body:Env->Mem->Option (Ex×Env×Mem)} {it:Nat} {i:Id} {out nxt pair:Nat} {live:List Nat} {keep:List Id} {k:D} {v:V} {r:List (D×V)} {e:Env} {m:Mem} {p:Ex×Env×Mem} (h:body (put e pair (.tup [.d k,v])) m=some p):
  zib body it i out nxt pair live keep ((k,v)::r) e m=zj0 it i out nxt live keep (zib body it i out nxt pair live keep r) p:=by
 simp only [zib,h,Option.bind_some]
theorem ynv (i:Id):zqz (.it i) (.it i)=true:=by simp [zqz]
theorem z6t {F:Oracle} (hF:Good P (zq6 P gl) gl F) (rd:Option Nat) (cx:Cx) {nt N:Nat} {it out nxt pair:Nat} {i:Id} {live:List Nat} {ops:List CO} {kill:List Nat} {code:C} {code':Code}
  {os2 os3:Array Oper} {id2 id3:Nat} {c:Operand} (hst:yh0 os2 c it nt live=true) (hitl:live.elem it=true) (hpi:pair≠it) (hit:it<nt) (hpn:pair<nt)
  {o3:Oper} {rest3:List Oper} (h3:os3.toList=o3::rest3) (ho3:o3.op= .entry (.tmp it)) (hd3:o3.dst=some pair) (hg3:o3.guard=none) (ok3:zog P gl nt os3 ops rest3=true)
  {T:Nat} (hT:nt<=T)
  (walk:∀(e:Env) (m:Mem) (x:Ex) (e':Env) (m':Mem),evC F cx code e m=some (x,e',m')->
   ∀(s:S) (A:Act),Sim (zq6 P gl) gl s->s.m=m->zdc s e A.tmps->nt<=A.tmps.size->N<=s.w.heap.size->zgi N s A.defers->∀(Q:Exit->Act->World->Prop),
    (∀s' A',Sim (zq6 P gl) gl s'->Ext (fun _=>True) s s'->s'.m=m'->zdc s' e' A'.tmps->A'.tmps.size=A.tmps.size->zgi N s' A'.defers->Q x.exit' A' s'.w)->code'.wpIn (fen rd) 0 P Q A s.w)
  {sP sG:S} {b r:Nat} {ces:Array MapEntry} {clock:Nat} (hbr:b≠r) (hstp:zsg ces clock) (hi:look sG.m i=some .gone) (hφi:sG.φ i= .pointer (some ⟨r,0,none⟩)) (hkeys:∀q o,look sP.m q=some o->q∈znr sG.m) (hNs:N<=sP.w.heap.size)
  (G:Ex->Env->Mem->Prop) (Q:Exit->Act->World->Prop)
  (hQ:∀x e' m',G x e' m'->∀s' A',yka (zq6 P gl) gl sP sG s' b r ces clock->s'.m=m'->zdc s' e' A'.tmps->A'.tmps.size=T->zgi N s' A'.defers->Q x.exit' A' s'.w):
  ∀(n:Nat) (L:List (D×V)) (s:S) (A:Act) (e:Env) (seen:Array Nat),L.length=n->yka (zq6 P gl) gl sP sG s b r ces clock->s.w.heap[r]? =some (.mapIter (some b) clock seen clock)->
   zdc s e A.tmps->get e it= .it i->(∀t,live.elem t=false->get e t= .undef)->A.tmps.size=T->zgi N s A.defers->
   (∃l,znl sP L l/\l.Perm (leftOf ces seen).toList)->
   (∀p,p.Perm L->∃x e' m',zib (fun e m=>(zk9 F cx ops e m).bind fun q=>evC F cx code (zj4 kill q.1) q.2) it i out nxt pair live (znr sG.m) p e s.m=some (x,e',m')/\G x e' m')->
   Code.roundsIn (fen rd) 0 P (.seq (.region id2 os2 false) (.seq (.cond c .skip (.exit out)) (.block nxt (.seq (.region id3 os3 false) code')))) (Exit.inBlock out Q) (n+1) A s.w:=by
 unfold yh0 at hst
 split at hst<;>try cases hst
 rename_i oa ob hos2
 split at hst<;>try cases hst
 rename_i j nx nx' mo mo' hoa hda hob hdb
 simp only [Bool.and_eq_true,beq_iff_eq,Option.isNone_iff_eq_none,decide_eq_true_eq,Bool.not_eq_true',beq_eq_false_iff_ne] at hst
 obtain⟨⟨⟨⟨⟨⟨⟨⟨⟨⟨⟨hj,rfl⟩,rfl⟩,hga⟩,hgb⟩,hnx⟩,hmo⟩,hlnx⟩,hlmo⟩,hnm⟩,hni⟩,hmi⟩:=hst
 subst hj
 have hos2s:os2.size=2:=by have:=congrArg List.length hos2;simpa using this
 have ha:os2[0]? =some oa:=by rw [<-Array.getElem?_toList,hos2];rfl
 have hb2:os2[1]? =some ob:=by rw [<-Array.getElem?_toList,hos2];rfl
 have hos3s:os3.size=rest3.length+1:=by have:=congrArg List.length h3;simpa using this
 have h30:os3[0]? =some o3:=by rw [<-Array.getElem?_toList,h3];rfl
 intro n
 induction n using Nat.strongRecOn with
 | ind n ih=>
 intro L s A e seen hL hR hr he heit helv hsz hmk hl hall
 obtain⟨l,hml,hlp⟩:=hl
 rw [roundsIn_succ]
 -- the iterator
 have hitv:A.eval (.tmp j)= .pointer (some ⟨r,0,none⟩):=by
  have h1:=he j
  rw [heit] at h1
  obtain⟨o',h2,t⟩:=hR.objs i _ hi
  have h3:=h1.2
  rw [h2] at h3
  have hp:s.φ i= .pointer (some ⟨r,0,none⟩):=by
   cases o'<;>simp only [Turned] at t<;>first |exact t.trans hφi|cases t
  have:A.tmps.getD j undef=s.φ i:=by
   cases o'<;>simp only [Turned] at t<;>first |exact h3|cases t
  show A.tmps.getD j undef=_
  rw [this,hp]
 have hput:∀(s:S) (A:Act) (t:Nat) (x:Value),zdc s e A.tmps->live.elem t=false->zdc s e (A.put (some t) x).tmps:=by
  intro s A t x he ht u
  by_cases hu:t=u
  ·subst hu;rw [helv t ht];trivial
  ·by_cases hlt:t<A.tmps.size
   ·rw [zq8 A t x hlt];simp only [hu,if_false];exact he u
   ·have:(A.put (some t) x).tmps=A.tmps:=by simp [Act.put,Array.setIfInBounds,hlt]
    rw [this];exact he u
 have hev:∀(A:Act) (t:Nat) (x:Value),t<A.tmps.size->(A.put (some t) x).eval (.tmp t)=x:=by
  intro A t x h
  show (A.put (some t) x).tmps.getD t undef=x
  rw [zq8 A t x h];simp
 have hnxA:nx'<A.tmps.size:=by
  rw [hsz];exact Nat.lt_of_lt_of_le hnx hT
 refine wpIn_seq (wpIn_region ?_)
 rw [hos2s,show List.range 2=[0,1] from rfl,wpOpsIn_cons]
 rcases run_next_at (P:=P) s.w oa.type r b clock clock seen ces clock hr hR.hb hstp.1 (Nat.le_refl _) with⟨h0,hrun⟩|⟨ex,hex,w1,hw1,hrun⟩
 ·--nothing is left
  have hl0:l=[]:=by
   have h1:=hlp.length_eq
   have h2:(leftOf ces seen).toList.length=(leftOf ces seen).size:=Array.length_toList
   exact List.eq_nil_of_length_eq_zero (by omega)
  subst hl0
  have hL0:L=[]:=List.eq_nil_of_length_eq_zero (znl.length _ _ hml)
  subst hL0
  obtain⟨x,e',m',h1,hG⟩:=hall [] (.refl _)
  simp only [zib,Option.some.injEq,Prod.mk.injEq] at h1
  obtain⟨rfl,rfl,rfl⟩:=h1
  refine z4b ha hga rd (x:= .tuple #[.bool false]) (w':=s.w) ?_ ?_
  ·simp [execOp,hoa,hitv,hrun,Result.andThen]
  rw [wpOpsIn_cons,hda]
  refine z4b hb2 hgb rd (x:= .bool false) (w':=s.w) ?_ ?_
  ·simp [execOp,hob,hev A nx' _ hnxA,Instr.extract]
  rw [hdb]
  have hsz2:=(zjz A (some nx') (.tuple #[.bool false])).1
  refine wpIn_seq (wpIn_cond (t:=false) (hev _ mo' _ (by rw [hsz2,hsz];exact Nat.lt_of_lt_of_le hmo hT)) (wpIn_exit ?_))
  show Exit.inBlock out Q (.exit out) _ _
  simp only [Exit.inBlock,if_true]
  have hsz3:=zjz (A.put (some nx') (.tuple #[.bool false])) (some mo') (.bool false)
  refine hQ _ _ _ hG s _ hR rfl (hput _ _ _ _ (hput _ _ _ _ he hlnx) hlmo) (by omega) ?_
  rw [hsz3.2,(zjz A (some nx') _).2];exact hmk
 ·--an entry comes
  obtain⟨L1,k,v,L2,l1,l2,rfl,rfl,hk,hv,hm'⟩:=znl.perm_split L l hml ex (hlp.symm.subset hex)
  have hpL:∀p,p.Perm (L1++L2)->((k,v)::p).Perm (L1++(k,v)::L2):=fun p hp=>(hp.cons _).trans List.perm_middle.symm
  have hlp2:=yhf hstp.2.1 (List.perm_middle.symm.trans hlp)
  obtain⟨hexm,_⟩:=mem_left hex
  have hn1:∃n',n=n'+1/\(L1++L2).length=n':=by
   have:(L1++(k,v)::L2).length=n:=hL
   simp only [List.length_append,List.length_cons] at this ⊢
   exact⟨n-1,by omega,by omega⟩
  obtain⟨n',rfl,hL'⟩:=hn1
  have hh1:w1.heap=s.w.heap:=by rcases hw1 with rfl|rfl<;>rfl
  have hset:ChangeMaps.setBlock w1 r (.mapIter (some b) clock (seen.push ex.born) clock)=({w1 with heap:=w1.heap.setIfInBounds r (.mapIter (some b) clock (seen.push ex.born) clock)}:World):=rfl
  rw [hset] at hrun
  obtain⟨hR1,x01,hr1,hoth⟩:=hR.aside w1 hw1 (.mapIter (some b) clock (seen.push ex.born) clock) hbr
  have hmk1:=zgi.aside (s':=⟨s.φ,s.m,{w1 with heap:=w1.heap.setIfInBounds r (.mapIter (some b) clock (seen.push ex.born) clock)},s.Im⟩) hmk rfl rfl rfl hr (by simp) hoth
  obtain⟨s1,hs1⟩:∃s1:S,s1=⟨s.φ,s.m,{w1 with heap:=w1.heap.setIfInBounds r (.mapIter (some b) clock (seen.push ex.born) clock)},s.Im⟩:=⟨_,rfl⟩
  have hw:({w1 with heap:=w1.heap.setIfInBounds r (.mapIter (some b) clock (seen.push ex.born) clock)}:World)=s1.w:=by rw [hs1]
  have hm1:s1.m=s.m:=by rw [hs1]
  rw [<-hs1] at hR1 x01 hmk1
  rw [hw] at hrun hr1
  have he1:zdc s1 e A.tmps:=zdc.ext0 x01 (fun _ _ _=>trivial) he
  refine z4b ha hga rd (x:= .tuple #[.bool true,ex.key,ex.val]) (w':=s1.w) ?_ ?_
  ·simp [execOp,hoa,hitv,hrun,Result.andThen]
  rw [wpOpsIn_cons,hda]
  refine z4b hb2 hgb rd (x:= .bool true) (w':=s1.w) ?_ ?_
  ·simp [execOp,hob,hev A nx' _ hnxA,Instr.extract]
  rw [hdb]
  have hsz2:=(zjz A (some nx') (.tuple #[.bool true,ex.key,ex.val])).1
  obtain⟨A2,hA2⟩:∃A2,A2=(A.put (some nx') (.tuple #[.bool true,ex.key,ex.val])).put (some mo') (.bool true):=⟨_,rfl⟩
  have hmoA:mo'<(A.put (some nx') (.tuple #[.bool true,ex.key,ex.val])).tmps.size:=by rw [hsz2,hsz];exact Nat.lt_of_lt_of_le hmo hT
  have hsz3:=zjz (A.put (some nx') (.tuple #[.bool true,ex.key,ex.val])) (some mo') (.bool true)
  have hA2s:A2.tmps.size=T:=by rw [hA2,hsz3.1,hsz2,hsz]
  have hA2d:A2.defers=A.defers:=by rw [hA2,hsz3.2,(zjz A (some nx') _).2]
  have he2:zdc s1 e A2.tmps:=by rw [hA2];exact hput _ _ _ _ (hput _ _ _ _ he1 hlnx) hlmo
  have hit2:A2.eval (.tmp j)= .pointer (some ⟨r,0,none⟩):=by
   rw [<-hitv]
   show A2.tmps.getD j undef=A.tmps.getD j undef
   rw [hA2,zq8 _ mo' _ hmoA,zq8 _ nx' _ hnxA]
   simp [hmi,hni]
  refine wpIn_seq (wpIn_cond (t:=true) (hev _ mo' _ hmoA) (wpIn_skip ?_))
  refine wpIn_block ?_
  rw [<-hA2]
  refine wpIn_seq (wpIn_region ?_)
  rw [hos3s,List.range_eq_range',List.range'_succ,wpOpsIn_cons]
  have hent:=run_entry_at (P:=P) s1.w r b clock seen ces clock ex hr1 hR1.hb hexm hstp.2.1
  refine z4b h30 hg3 rd (x:= .tuple #[ex.key,ex.val]) (w':=s1.w) ?_ ?_
  ·simp [execOp,ho3,hit2,hent,Result.andThen]
  rw [hd3]
  have hpA:pair<A2.tmps.size:=by rw [hA2s];exact Nat.lt_of_lt_of_le hpn hT
  have hA3:=zjz A2 (some pair) (.tuple #[ex.key,ex.val])
  have hmP:znl s1 (L1++(k,v)::L2) (l1++ex::l2):=znl.to hR1.ext hml
  obtain⟨_,hk1,hv1⟩:True/\DR s1.w s1.Im k ex.key/\VR s1 v ex.val:=⟨trivial,DR.ext (Ext.of_look hR1.ext).im (Ext.of_look hR1.ext).keep k _ hk,VR.ext (Ext.of_look hR1.ext) v _ (fun _ _=>trivial) hv⟩
  have he3:zdc s1 (put e pair (.tup [.d k,v])) (A2.put (some pair) (.tuple #[ex.key,ex.val])).tmps:=
   zus he2 (some pair) (fun t ht=>by cases ht;exact hpA) ⟨_,rfl,ex.key,[ex.val],rfl,hk1,ex.val,[],rfl,hv1,rfl⟩
  -- what the evaluator says of this round
  obtain⟨x0,e0',m0',h0,_⟩:=hall _ (hpL _ (.refl _))
  cases hbody:(zk9 F cx ops (put e pair (.tup [.d k,v])) s.m).bind fun q=>evC F cx code (zj4 kill q.1) q.2 with
  | none=>
   simp only [zib,hbody,Option.bind_none] at h0
   cases h0
  | some res=>
   obtain⟨xb,eb,mb⟩:=res
   rw [zxe hbody] at h0
   obtain⟨⟨eo,mo⟩,hops,hcode⟩:=Option.bind_eq_some_iff.1 hbody
   rw [<-hm1] at hops
   refine ybi hF rd cx ops rest3 1 _ eo mo s1 _ (fun q hq=> ?_) ok3 hops hR1.sim he3 (by rw [hA3.1,hA2s];exact hT) fun s2 A4 q1 q2 q3 q4 q5 q6=> ?_
   ·rw [<-Array.getElem?_toList,h3,Nat.add_comm];rfl
   obtain⟨hR2,hr2⟩:=hR1.step (Ext.mono q2 fun _ _=>trivial) q1
   refine walk _ _ xb eb mb hcode s2 A4 q1 q3 (ztj _ (fun _ _ _=>rfl) q4) (by rw [q5,hA3.1,hA2s];exact hT) (Nat.le_trans hNs hR2.ext.size) (zgi.ext q2 (by rw [q6,hA3.2,hA2d];exact hmk1)) _ fun s3 A5 p1 p2 p3 p4 p5 p6=> ?_
   obtain⟨hR3,hr3⟩:=hR2.step (Ext.mono p2 fun _ _=>trivial) p1
   have hA5:A5.tmps.size=T:=by rw [p5,q5,hA3.1,hA2s]
   -- on to the next round
   have hgo:xb.on nxt=true->Code.roundsIn (fen rd) 0 P (.seq (.region id2 os2 false) (.seq (.cond (.tmp mo') .skip (.exit out)) (.block nxt (.seq (.region id3 os3 false) code')))) (Exit.inBlock out Q) (n'+1) A5 s3.w:=by
    intro hon
    obtain⟨g1,g2⟩:=ynz p1 (znr sG.m) (only live eb)
    have hR4:yka (zq6 P gl) gl sP sG ⟨s3.φ,gc (znr sG.m) (only live eb) s3.m,s3.w,s3.Im⟩ b r ces clock:=by
     refine(hR3.step (Ext.mono g2 fun q hq=> ?_) g1).1
     rcases hq with hq|hq
     ·cases hh:look sG.m q with
      | none=>exact absurd hh hq
      | some o=>exact .inl (zot _ _ _ hh)
     ·cases hh:look sP.m q with
      | none=>exact absurd hh hq
      | some o=>exact .inl (hkeys q o hh)
    have heb:(if zqz (get eb j) (.it i)=true then zib (fun e m=>(zk9 F cx ops e m).bind fun q=>evC F cx code (zj4 kill q.1) q.2) j i out nxt pair live (znr sG.m) (L1++L2) (only live eb) (gc (znr sG.m) (only live eb) mb) else none)=some (x0,e0',m0'):=by
     unfold zj0 at h0;simp only [hon] at h0;exact h0
    split at heb<;>try cases heb
    rename_i hit4
    have hit4:=ztk _ _ hit4
    subst p3
    refine ih n' (Nat.lt_succ_self _) (L1++L2) ⟨s3.φ,gc (znr sG.m) (only live eb) s3.m,s3.w,s3.Im⟩ A5 (only live eb) (seen.push ex.born) hL' hR4 ?_ (zdc.ext g2 (fun t i hi=> .inr (z55 _ t i hi)) (zqy _ p4)) ?_ (fun t ht=>z83 live eb t ht) hA5 (zgi.ext g2 p6) ⟨_,hm',hlp2⟩ fun p hp=> ?_
    ·exact(hr3.trans (hr2.trans hr1))
    ·rw [z84 live eb j hitl,hit4]
    ·obtain⟨x9,e9,m9,h9,hG9⟩:=hall _ (hpL p hp)
     rw [zxe hbody] at h9
     unfold zj0 at h9
     simp only [hon,hit4,ynv,if_true] at h9
     exact⟨x9,e9,m9,h9,hG9⟩
   cases xb with
   | normal=>exact hgo rfl
   | ret=>
    simp only [zj0,z6u,Ex.on,Option.some.injEq,Prod.mk.injEq] at h0
    obtain⟨rfl,rfl,rfl⟩:=h0
    exact hQ _ _ _ ‹_› s3 A5 hR3 p3 p4 hA5 p6
   | exit q=>
    show Exit.inBlock nxt _ (.exit q) A5 s3.w
    simp only [Exit.inBlock]
    split
    ·rename_i hq
     exact hgo (by simp [Ex.on,hq])
    ·rename_i hq
     have hoff:Ex.on nxt (.exit q)=false:=by
      show Nat.beq q nxt=false
      cases hb:Nat.beq q nxt with
      | true=>exact absurd (Nat.eq_of_beq_eq_true hb) hq
      | false=>rfl
     show Exit.inBlock out Q (.exit q) A5 s3.w
     simp only [Exit.inBlock]
     simp only [zj0,hoff,z6u] at h0
     split at h0
     ·rename_i hqo
      simp only [Option.some.injEq,Prod.mk.injEq] at h0
      obtain⟨rfl,rfl,rfl⟩:=h0
      simp only [hqo,if_true]
      exact hQ _ _ _ ‹_› s3 A5 hR3 p3 (zqy _ p4) hA5 p6
     ·rename_i hqo
      simp only [Option.some.injEq,Prod.mk.injEq] at h0
      obtain⟨rfl,rfl,rfl⟩:=h0
      simp only [hqo,if_false]
      exact hQ _ _ _ ‹_› s3 A5 hR3 p3 p4 hA5 p6
end
theorem Sim.restore {oc:zek} {s:S} (hs:Sim oc gl s) {o:Id} {es:List (D×V)} {b:Nat} {ces:Array MapEntry} {clock:Nat} (hg:look s.m o=some .gone) (hp:s.φ o= .map (some b)) (hb:s.w.heap[b]? =some (.map ces clock)) (hf:zt1 s b)
  (hm:znl s es ces.toList) (hst:zsg ces clock):
  Sim oc gl ⟨s.φ,upd s.m o (.map es),s.w,s.Im⟩/\z98 (fun _=>True) s ⟨s.φ,upd s.m o (.map es),s.w,s.Im⟩/\∀c,c≠b->zt1 s c->zt1 ⟨s.φ,upd s.m o (.map es),s.w,s.Im⟩ c:=by
 have h0:z98 (fun _=>True) s ⟨s.φ,upd s.m o (.map es),s.w,s.Im⟩:=by
  refine⟨fun _ _ h=>h,fun _ _ _=>rfl,fun k ob _ hk=> ?_⟩
  show ∃o',look (upd s.m o (.map es)) k=some o'/\_
  rw [ziv]
  split
  ·rename_i e;subst e
   rw [hg] at hk
   obtain rfl:=Option.some.inj hk
   exact⟨_,rfl,rfl⟩
  ·exact⟨ob,hk,Turned.refl _ _⟩
 have hfr:∀c,c≠b->zt1 s c->zt1 ⟨s.φ,upd s.m o (.map es),s.w,s.Im⟩ c:=by
  intro c hc hfc k ob hk hgk
  replace hk:look (upd s.m o (.map es)) k=some ob:=hk
  rw [ziv] at hk
  split at hk
  ·rename_i e;subst e
   show blk (s.φ o)≠some c
   rw [hp]
   simp only [blk,ne_eq,Option.some.injEq]
   exact fun e=>hc e.symm
  ·exact hfc k ob hk hgk
 refine⟨⟨fun k ob hk=> ?_,fun k j ob ob' c hkj hk hj hgk hgj hc=> ?_,hs.imlt,hs.glob,fun g cs hgl=> ?_⟩,h0,hfr⟩
 ·have hk2:look (upd s.m o (.map es)) k=some ob:=hk
  rw [ziv] at hk2
  split at hk2
  ·rename_i e;subst e
   obtain rfl:=Option.some.inj hk2
   exact⟨b,ces,clock,hp,hb,znl.ext0 h0 _ _ (fun _ _=>trivial) hm,hst⟩
  ·exact ObR.ext0 h0 (fun _ _=>trivial) (fun b _=>⟨rfl,fun _ h=>h⟩) (hs.objs k ob hk2)
 ·have hk:look (upd s.m o (.map es)) k=some ob:=hk
  replace hj:look (upd s.m o (.map es)) j=some ob':=hj
  rw [ziv] at hk hj
  split at hk
  ·rename_i e;subst e
   split at hj
   ·rename_i e;exact absurd e hkj
   ·have hc:blk (s.φ o)=some c:=hc
    rw [hp] at hc
    simp only [blk,Option.some.injEq] at hc
    subst hc
    exact hf j ob' hj hgj
  ·split at hj
   ·rename_i e;subst e
    intro h2
    replace h2:blk (s.φ o)=some c:=h2
    rw [hp] at h2
    simp only [blk,Option.some.injEq] at h2
    subst h2
    exact hf k ob hk hgk hc
   ·exact hs.apart k j ob ob' c hkj hk hj hgk hgj hc
 ·obtain⟨h1,h2,arr,t,fz,h3,h4⟩:=hs.tabs g cs hgl
  refine⟨hfr g (fun e=> ?_) h1,h2,arr,t,fz,h3,h4⟩
  subst e;rw [hb] at h3;cases h3
theorem zgi.again {N:Nat} {s s':S} {b:Nat} {ds:List Deferred} (h:zgi N s ds) (hw:s'.w=s.w) (hI:s'.Im=s.Im) {x:Obj} (hx:s.w.heap[b]? =some x) (hx':∀d,x≠ .deferred d) (hf:∀c,c≠b->zt1 s c->zt1 s' c):zgi N s' ds:=by
 obtain⟨rs,h1,h2,h3⟩:=h
 refine⟨rs,h1,h2,fun c hc=> ?_⟩
 obtain⟨k1,k2,k3,k4⟩:=h3 c hc
 refine⟨k1,by rw [hw];exact k2,hf c (fun e=> ?_) k3,by rw [hI];exact k4⟩
 subst e;rw [hx] at k2;exact hx' _ (Option.some.inj k2)
theorem z16 {run:List (D×V)->Option (Ex×Env×Mem)} {m0:Mem} {es:List (D×V)} {x:Ex} {e:Env} {mm:Mem} (h:zt4 run m0 es=some (x,e,mm)):
  (∃m,mm=zlt true m0 m)/\∀p,p.Perm es->∃y e' m',run p=some (y,e',m')/\y=x/\e'=e/\leM m0 m' mm=true:=by
 unfold zt4 at h
 obtain⟨⟨x1,e1,m1⟩,h1,h⟩:=Option.bind_eq_some_iff.1 h
 obtain⟨rs,hrs,h⟩:=Option.bind_eq_some_iff.1 h
 unfold zw0 at h
 split at h
 case isFalse=>cases h
 rename_i hall
 simp only [Option.some.injEq,Prod.mk.injEq] at h
 obtain⟨rfl,rfl,rfl⟩:=h
 refine⟨⟨m1,rfl⟩,fun p hp=> ?_⟩
 obtain⟨⟨y,e',m'⟩,hin,hr⟩:=z42 hrs _ ((zou _ _).2 hp)
 have this:=List.all_eq_true.1 hall _ hin
 simp only [Bool.and_eq_true] at this
 refine⟨y,e',m',hr,?_,yan _ _ this.1.2,this.2⟩
 have hx:=this.1.1
 cases y<;>cases x1<;>simp [yqs] at hx ⊢
 exact hx
theorem yis {F:Oracle} (hF:Good P (zq6 P gl) gl F) (rd:Option Nat) (cx:Cx) {nt N:Nat} {pre:List CO} {it:Nat} {x0:Opd} {out nxt pair:Nat} {live:List Nat} {ops:List CO} {kill:List Nat} {code:C} {code':Code}
  {os os2 os3:Array Oper} {id id2 id3 out' out2 nxt':Nat} {c:Operand} (ok:zyu P gl nt pre it x0 out nxt pair live ops os out' os2 c out2 nxt' os3=true)
  (walk:∀(e:Env) (m:Mem) (x:Ex) (e':Env) (m':Mem),evC F cx code e m=some (x,e',m')->
   ∀(s:S) (A:Act),Sim (zq6 P gl) gl s->s.m=m->zdc s e A.tmps->nt<=A.tmps.size->N<=s.w.heap.size->zgi N s A.defers->∀(Q:Exit->Act->World->Prop),
    (∀s' A',Sim (zq6 P gl) gl s'->Ext (fun _=>True) s s'->s'.m=m'->zdc s' e' A'.tmps->A'.tmps.size=A.tmps.size->zgi N s' A'.defers->Q x.exit' A' s'.w)->code'.wpIn (fen rd) 0 P Q A s.w)
  {e e':Env} {m':Mem} {x:Ex} {s:S} {A:Act} (h:evC F cx (.rangeM pre it x0 out nxt pair live ops kill code) e s.m=some (x,e',m'))
  (hs:Sim (zq6 P gl) gl s) (he:zdc s e A.tmps) (hnt:nt<=A.tmps.size) (hN:N<=s.w.heap.size) (hmk:zgi N s A.defers) {Q:Exit->Act->World->Prop}
  (hQ:∀s' A',Sim (zq6 P gl) gl s'->Ext (fun _=>True) s s'->s'.m=m'->zdc s' e' A'.tmps->A'.tmps.size=A.tmps.size->zgi N s' A'.defers->Q x.exit' A' s'.w):
  (Code.seq (.region id os false) (.block out' (.loop (.seq (.region id2 os2 false) (.seq (.cond c .skip (.exit out2)) (.block nxt' (.seq (.region id3 os3 false) code'))))))).wpIn (fen rd) 0 P Q A s.w:=by
 unfold zyu at ok
 simp only [Bool.and_eq_true,beq_iff_eq,Bool.not_eq_true',beq_eq_false_iff_ne,decide_eq_true_eq] at ok
 obtain⟨⟨⟨⟨⟨⟨⟨⟨⟨⟨⟨rfl,rfl⟩,rfl⟩,_⟩,hlit⟩,hitn⟩,hpi⟩,hpn⟩,okp⟩,okr⟩,okst⟩,ok3⟩:=ok
 split at okr<;>try cases okr
 rename_i orr hlast
 split at ok3<;>try cases ok3
 rename_i o3 rest3 h3
 simp only [Bool.and_eq_true,beq_iff_eq,Option.isNone_iff_eq_none] at okr ok3
 obtain⟨⟨hrop,hrd⟩,hrg⟩:=okr
 obtain⟨⟨⟨h3op,h3d⟩,h3g⟩,ok3⟩:=ok3
 split at hrop<;>try cases hrop
 rename_i tt xa hrop'
 simp only [Bool.and_eq_true] at hrop
 obtain⟨hmt,okx⟩:=hrop
 split at h3op<;>try cases h3op
 rename_i j3 h3op'
 simp only [beq_iff_eq] at h3op
 rw [h3op] at h3op'
 have hmt2:∃kt et,P.underlying tt=some (.map kt et):=by
  unfold ysn at hmt
  split at hmt
  ·exact⟨_,_,‹_›⟩
  ·cases hmt
 obtain⟨kt,et,hmt2⟩:=hmt2
 simp only [evC] at h
 obtain⟨⟨e1,m1⟩,hpre,h⟩:=Option.bind_eq_some_iff.1 h
 unfold zpv at h
 dsimp only at h
 split at h<;>try cases h
 rename_i o hxo
 split at h<;>try cases h
 rename_i es hlo
 obtain⟨⟨x9,e9,mm⟩,hall,h⟩:=Option.bind_eq_some_iff.1 h
 unfold z1l at h
 dsimp only at h
 split at h
 rotate_left
 ·cases h
 rename_i hgone
 simp only [Option.some.injEq,Prod.mk.injEq] at h
 obtain⟨rfl,rfl,rfl⟩:=h
 -- the region's operations, the range the last of them
 have hne0:os.toList≠[]:=fun e=>by rw [e] at hlast;cases hlast
 have hospl:os.toList=os.toList.dropLast++[orr]:=by
  rw [List.getLast?_eq_some_getLast hne0,Option.some.injEq] at hlast
  rw [<-hlast]
  exact(List.dropLast_concat_getLast hne0).symm
 have hosz:os.size=os.toList.dropLast.length+1:=by
  have:=congrArg List.length hospl
  simp only [List.length_append,List.length_cons,List.length_nil] at this
  rw [<-this];simp
 refine wpIn_seq (wpIn_region ?_)
 rw [hosz,List.range_eq_range',<-List.range'_append_1 (s:=0),Nat.zero_add]
 refine yh7 hF rd cx _ pre os.toList.dropLast 0 e e1 m1 s A (fun k hk=> ?_) okp hpre hs he hnt fun sP A1 q1 q2 q3 q4 q5 q6=> ?_
 ·rw [Nat.zero_add,<-Array.getElem?_toList,hospl,List.dropLast_concat,List.getElem?_append_left hk]
 show wpOpsIn (fen rd) 0 P os _ [os.toList.dropLast.length] A1 sP.w
 rw [wpOpsIn_cons]
 have hio:os[os.toList.dropLast.length]? =some orr:=by
  have:os.toList[os.toList.dropLast.length]? =some orr:=by
   conv=>lhs;rw [hospl]
   rw [List.dropLast_concat,List.getElem?_append_right (Nat.le_refl _)];simp
  rw [<-Array.getElem?_toList];exact this
 subst q3
 -- the map
 have hxv:=zbp q1 q4 okx
 rw [hxo] at hxv
 obtain⟨b,ces,clock,hpo,hbo,hmo,hsto⟩:=q1.objs o _ hlo
 have hxe:A1.eval xa= .map (some b):=by
  have:=hxv.2
  rw [hlo] at this
  exact this.trans hpo
 have hrunr:=run_range_map (P:=P) sP.w tt kt et b ces clock hmt2 hbo
 refine z4b hio hrg rd (x:= .pointer (some ⟨sP.w.heap.size,0,none⟩)) (w':=sP.w.alloc (.mapIter (some b) clock #[] clock)) ?_ ?_
 ·simp [execOp,hrop',hxe,hrunr,Result.andThen]
 rw [hrd]
 obtain⟨i,hi⟩:∃i,i=newId cx it sP.m:=⟨_,rfl⟩
 rw [<-hi] at hall
 have hfresh:look sP.m i=none:=by rw [hi];exact zeg _ _ _
 have hio':i≠o:=fun e=>by rw [e,hlo] at hfresh;cases hfresh
 have hbl:=(Array.getElem?_eq_some_iff.1 hbo).1
 obtain⟨a1,a2⟩:=q1.change i .gone (.pointer (some ⟨sP.w.heap.size,0,none⟩)) (sP.w.alloc (.mapIter (some b) clock #[] clock)) sP.Im rfl rfl rfl (by simp) (fun c hc _=>heap_alloc_old _ _ (h:=hc)) (fun _ _ h=>h)
  (fun c j hj=>World.cell?_of_block (heap_alloc_old _ _ (h:=q1.imlt c j hj))) (fun _ _ h=> .inl h) (fun c j h=>Nat.lt_of_lt_of_le (q1.imlt c j h) (by simp))
  (fun c hc=>by simp only [blk,Option.some.injEq] at hc;exact .inl (Nat.le_of_eq hc)) (fun ob hob=>by rw [hfresh] at hob;cases hob) (fun _=>trivial)
 obtain⟨sA,hsA⟩:∃sA:S,sA=⟨fun k=>if i=k then .pointer (some ⟨sP.w.heap.size,0,none⟩) else sP.φ k,upd sP.m i .gone,sP.w.alloc (.mapIter (some b) clock #[] clock),sP.Im⟩:=⟨_,rfl⟩
 rw [<-hsA] at a1 a2
 have hAo:look sA.m o=some (.map es):=by rw [hsA];show look (upd sP.m i .gone) o=_;rw [za5 _ _ _ _ hio',hlo]
 have hAφ:sA.φ o= .map (some b):=by rw [hsA];simp only [hio',if_false];exact hpo
 have hAw:sA.w=sP.w.alloc (.mapIter (some b) clock #[] clock):=by rw [hsA]
 obtain⟨b1,b2⟩:=a1.change o .gone (sA.φ o) sA.w sA.Im rfl rfl rfl (Nat.le_refl _) (fun _ _ _=>rfl) (fun _ _ h=>h) (fun _ _ _=>rfl) (fun _ _ h=> .inl h) a1.imlt
  (fun c hc=> .inr ⟨⟨_,hAo,by simp⟩,hc⟩) (fun ob hob=>by rw [hAo] at hob;cases hob;rfl) (fun _=>trivial)
 rw [zvb] at b1 b2
 obtain⟨sG,hsG⟩:∃sG:S,sG=⟨sA.φ,upd sA.m o .gone,sA.w,sA.Im⟩:=⟨_,rfl⟩
 rw [<-hsG] at b1 b2
 have hGm:sG.m=upd (upd sP.m i .gone) o .gone:=by rw [hsG,hsA]
 have hGw:sG.w=sP.w.alloc (.mapIter (some b) clock #[] clock):=by rw [hsG];exact hAw
 have hGi:look sG.m i=some .gone:=by rw [hGm,za5 _ _ _ _ (Ne.symm hio'),zbj]
 have hGo:look sG.m o=some .gone:=by rw [hGm,zbj]
 have hGφi:sG.φ i= .pointer (some ⟨sP.w.heap.size,0,none⟩):=by rw [hsG,hsA];simp
 have hGφo:sG.φ o= .map (some b):=by rw [hsG];exact hAφ
 have hGI:sG.Im=sP.Im:=by rw [hsG,hsA]
 have hGr:sG.w.heap[sP.w.heap.size]? =some (.mapIter (some b) clock #[] clock):=by rw [hGw];exact heap_alloc_new _ _
 have hPG:Ext (fun _=>True) sP sG:=Ext.trans a2 b2 (fun _ _=>trivial)
 have hGk:∀k ob,look sG.m k=some ob->ob≠ .gone->look sP.m k=some ob/\sG.φ k=sP.φ k/\k≠o:=by
  intro k ob hk hg
  rw [hGm,ziv] at hk
  split at hk
  ·exact absurd (Option.some.inj hk).symm hg
  ·rename_i h1
   rw [ziv] at hk
   split at hk
   ·exact absurd (Option.some.inj hk).symm hg
   ·rename_i h2
    refine⟨hk,?_,fun e=>h1 e.symm⟩
    rw [hsG,hsA];simp only [h2,if_false]
 have hfb:zt1 sG b:=fun k ob hk hg hb=>by
  obtain⟨g1,g2,g3⟩:=hGk k ob hk hg
  rw [g2] at hb
  exact q1.apart k o ob _ b g3 g1 hlo hg (by simp) hb (by rw [hpo];rfl)
 have hfr:zt1 sG sP.w.heap.size:=fun k ob hk hg hb=>by
  obtain⟨g1,g2,g3⟩:=hGk k ob hk hg
  rw [g2] at hb
  exact absurd ((q1.objs k ob g1).blk_lt hg hb) (Nat.lt_irrefl _)
 have hGb:sG.w.heap[b]? =some (.map ces clock):=by rw [hGw,heap_alloc_old _ _ (h:=hbl)];exact hbo
 have hR0:yka (zq6 P gl) gl sP sG sG b sP.w.heap.size ces clock:=
  ⟨b1,Ext.mono hPG (fun _ _=>trivial),fun k ob hk=>⟨ob,hk,Turned.refl _ _⟩,hfb,hfr,fun j hj=>by rw [hGI] at hj;exact absurd (q1.imlt _ _ hj) (Nat.lt_irrefl _),hGb,Nat.le_refl _,(Array.getElem?_eq_some_iff.1 hGr).1⟩
 have hitA:it<A1.tmps.size:=by rw [q5];exact Nat.lt_of_lt_of_le hitn hnt
 have hA2:=zjz A1 (some it) (.pointer (some ⟨sP.w.heap.size,0,none⟩))
 have heG:zdc sG (put e1 it (.it i)) (A1.put (some it) (.pointer (some ⟨sP.w.heap.size,0,none⟩))).tmps:=by
  refine zus (zdc.ext hPG (fun _ _ _=>trivial) q4) (some it) (fun t ht=>by cases ht;exact hitA) ⟨rfl,?_⟩
  rw [hGi,hGφi];rfl
 have heL:=zqy live heG
 rw [<-hGm] at hall
 obtain⟨⟨mj,hmj⟩,hall⟩:=z16 hall
 have hTs:(A1.put (some it) (.pointer (some ⟨sP.w.heap.size,0,none⟩))).tmps.size=A.tmps.size:=by rw [hA2.1,q5]
 show Code.wpIn (fen rd) 0 P (Code.block _ _) _ _ _
 refine wpIn_block (wpIn_loop_rounds (es.length+1) ?_)
 rw [<-hGw]
 refine z6t (P:=P) (N:=N) hF rd cx (kill:=kill) (code:=code) okst hlit hpi hitn hpn h3 h3op' h3d h3g ok3 (T:=A.tmps.size) hnt walk (sP:=sP) (sG:=sG) (b:=b) (r:=sP.w.heap.size) (ces:=ces) (clock:=clock)
  (by omega) hsto hGi hGφi (fun q ob hq=> ?_) (Nat.le_trans hN q2.size) (fun y e m9=>y=x9/\e=e9/\leM sG.m m9 mm=true) Q (fun y e m9 hG s' A' hR hm' he' hsz' hmk'=> ?_) es.length es sG _ _ #[] rfl hR0 hGr heL ?_ (fun t ht=>z83 live _ t ht) hTs ?_ ⟨_,hmo,?_⟩ (fun p hp=> ?_)
 ·have:look sG.m q≠none:=by
   rw [hGm,ziv]
   split
   ·simp
   ·rw [ziv]
    split
    ·simp
    ·rw [hq];simp
  cases hh:look sG.m q with
  | none=>exact absurd hh this
  | some ob=>exact zot _ _ _ hh
 ·--the end
  obtain⟨rfl,rfl,hle⟩:=hG
  subst hm'
  subst hmj
  obtain⟨j1,j2⟩:=ydc (s:=sG) hR.sim hR.objs true hle
  obtain⟨oo,hoo,too⟩:=hR.objs o _ hGo
  have hφo:s'.φ o= .map (some b):=by
   cases oo<;>simp only [Turned] at too<;>first |exact too.trans hGφo|cases too
  have hfj:zt1 ⟨s'.φ,zlt true sG.m mj,s'.w,s'.Im⟩ b:=(j2.frame b (Array.getElem?_eq_some_iff.1 hR.hb).1 hR.fb).2
  have hPs:=Ext.of_look hR.ext
  have hPj:Ext (fun _=>True) sP ⟨s'.φ,zlt true sG.m mj,s'.w,s'.Im⟩:=Ext.trans hPs j2 (fun _ _=>trivial)
  obtain⟨r1,r2,r3⟩:=Sim.restore (s:=⟨s'.φ,zlt true sG.m mj,s'.w,s'.Im⟩) (es:=es) j1 hgone hφo hR.hb hfj (znl.ext0 hPj.to0 _ _ (fun _ _=>trivial) hmo) hsto
  have hPe:Ext (fun _=>True) sP ⟨s'.φ,upd (zlt true sG.m mj) o (.map es),s'.w,s'.Im⟩:=by
   refine⟨hPj.os,hPj.tape,hPj.output,hPj.size,fun c hc hf=> ?_,hPj.imnew,hPj.im,hPj.keep,fun k ob _ hk=> ?_⟩
   ·obtain⟨f1,f2⟩:=hPj.frame c hc hf
    exact⟨f1,r3 c (fun e=>by subst e;exact hf o _ hlo (by simp) (by rw [hpo];rfl)) f2⟩
   ·by_cases hko:k=o
    ·subst hko
     rw [hlo] at hk
     obtain rfl:=Option.some.inj hk
     refine⟨.map es,zbj _ _ _,?_⟩
     show s'.φ k=sP.φ k
     rw [hφo,hpo]
    ·obtain⟨o1,h1,t1⟩:=hPj.objs k ob trivial hk
     exact⟨o1,(za5 _ _ _ _ (Ne.symm hko)).trans h1,t1⟩
  refine hQ ⟨s'.φ,upd (zlt true sG.m mj) o (.map es),s'.w,s'.Im⟩ A' r1 (Ext.trans q2 hPe (fun _ _=>trivial)) rfl (zdc.ext0 r2 (fun _ _ _=>trivial) (zdc.ext j2 (fun _ _ _=>trivial) he')) hsz' ?_
  exact zgi.again (s:=⟨s'.φ,zlt true sG.m mj,s'.w,s'.Im⟩) (zgi.ext j2 hmk') rfl rfl hR.hb (by simp) r3
 ·rw [z84 live _ it hlit,zla]
 ·rw [hA2.2,q6];exact zgi.ext (Ext.trans q2 hPG (fun _ _=>trivial)) hmk
 ·have:(leftOf ces #[]).toList=ces.toList:=by
   unfold leftOf;rw [Array.toList_filter];exact List.filter_eq_self.2 fun y _=>by simp
  rw [this]
 ·obtain⟨y,e9,m9,h1,h2,h3,h4⟩:=hall p hp
  exact⟨y,e9,m9,h1,h2,h3,h4⟩
def yf8 (P:Program) (gl:Globs) (F:Oracle):Prop:=
 ∀cx slot f ps a b e m x e' m',evC F cx (.rangeFn slot f ps a b) e m=some (x,e',m')->∀(nt:Nat) (code:Code),okC P gl nt false (.rangeFn slot f ps a b) code=true->
  ∀(N:Nat) (s:S) (A:Act),Sim (zq6 P gl) gl s->s.m=m->zdc s e A.tmps->nt<=A.tmps.size->N<=s.w.heap.size->zgi N s A.defers->∀(Q:Exit->Act->World->Prop),
   (∀s' A',Sim (zq6 P gl) gl s'->Ext (fun _=>True) s s'->s'.m=m'->zdc s' e' A'.tmps->A'.tmps.size=A.tmps.size->zgi N s' A'.defers->Q x.exit' A' s'.w)->
   code.wpIn (fen none) 0 P Q A s.w
theorem yfa {nt:Nat} {rnd:Bool} {pre:List CO} {it:Nat} {x:Opd} {out nxt pair:Nat} {live:List Nat} {ops:List CO} {kill:List Nat} {code:C} {c0:Code} (h:okC P gl nt rnd (.rangeM pre it x out nxt pair live ops kill code) c0=true):
  ∃id os out' id2 os2 c out2 nxt' id3 os3 code',c0= .seq (.region id os false) (.block out' (.loop (.seq (.region id2 os2 false) (.seq (.cond c .skip (.exit out2)) (.block nxt' (.seq (.region id3 os3 false) code'))))))/\
   (zyu P gl nt pre it x out nxt pair live ops os out' os2 c out2 nxt' os3=true/\okC P gl nt rnd code code'=true):=by
 unfold okC at h
 split at h<;>first |contradiction|skip
 rename_i heq
 cases heq
 rw [Bool.and_eq_true] at h
 exact⟨_,_,_,_,_,_,_,_,_,_,_,rfl,h⟩
theorem z63 {F:Oracle} (hF:ypd P gl F) (hR:yf8 P gl F) (hmx:P.follows .mixedOrders=true) (rd:Option Nat) (nt:Nat) (cx:Cx) (N:Nat):
  ∀(c:C) (code:Code) (e:Env) (m:Mem) (x:Ex) (e':Env) (m':Mem),okC P gl nt rd.isSome c code=true->evC F cx c e m=some (x,e',m')->
  ∀(s:S) (A:Act),Sim (zq6 P gl) gl s->s.m=m->zdc s e A.tmps->nt<=A.tmps.size->N<=s.w.heap.size->zgi N s A.defers->∀(Q:Exit->Act->World->Prop),
   (∀s' A',Sim (zq6 P gl) gl s'->Ext (fun _=>True) s s'->s'.m=m'->zdc s' e' A'.tmps->A'.tmps.size=A.tmps.size->zgi N s' A'.defers->Q x.exit' A' s'.w)->
   code.wpIn (fen rd) 0 P Q A s.w:=by
 intro c
 induction c with
 | skip=>
  intro code e m x e' m' ok h s A hs hm he hnt hN hmk Q hQ
  cases code<;>simp only [okC,Bool.false_eq_true] at ok
  simp only [evC,Option.some.injEq,Prod.mk.injEq] at h
  obtain⟨rfl,rfl,rfl⟩:=h
  exact wpIn_skip (hQ s A hs (Ext.refl _ _) hm he rfl hmk)
 | label=>
  intro code e m x e' m' ok h s A hs hm he hnt hN hmk Q hQ
  cases code<;>simp only [okC,Bool.false_eq_true] at ok
  simp only [evC,Option.some.injEq,Prod.mk.injEq] at h
  obtain⟨rfl,rfl,rfl⟩:=h
  exact wpIn_label (hQ s A hs (Ext.refl _ _) hm he rfl hmk)
 | reg d ops kill=>
  intro code e m x e' m' ok h s A hs hm he hnt hN hmk Q hQ
  cases code<;>simp only [okC,Bool.false_eq_true] at ok
  simp only [Bool.and_eq_true,beq_iff_eq] at ok
  obtain⟨⟨rfl,hok⟩,hdr⟩:=ok
  simp only [evC,Option.map_eq_some_iff,Prod.mk.injEq] at h
  obtain⟨⟨e1,m1⟩,h1,rfl,rfl,rfl⟩:=h
  subst hm
  refine z9u hF.good hmx rd cx _ _ hok (chk:=[]) (fun hd=>⟨by simpa [hd] using hdr,rfl⟩) h1 hs he hnt fun s' A' q1 q2 q3 q4 q5 q6=> ?_
  exact hQ s' A' q1 q2 q3 (ztj _ (fun _ _ _=>rfl) q4) q5 (by rw [q6];exact zgi.ext q2 hmk)
 | regC ops kill chk=>
  intro code e m x e' m' ok h s A hs hm he hnt hN hmk Q hQ
  cases code<;>simp only [okC,Bool.false_eq_true] at ok
  simp only [Bool.and_eq_true] at ok
  obtain⟨⟨rfl,hok⟩,hdr⟩:=ok
  simp only [evC,Option.bind_eq_some_iff] at h
  obtain⟨⟨e1,m1⟩,h1,h2⟩:=h
  split at h2<;>try cases h2
  rename_i hdj
  subst hm
  refine z9u hF.good hmx rd cx _ _ hok (chk:=chk) (fun _=>⟨hdr,hdj⟩) h1 hs he hnt fun s' A' q1 q2 q3 q4 q5 q6=> ?_
  exact hQ s' A' q1 q2 q3 (ztj _ (fun _ _ _=>rfl) q4) q5 (by rw [q6];exact zgi.ext q2 hmk)
 | seq a b iha ihb=>
  intro code e m x e' m' ok h s A hs hm he hnt hN hmk Q hQ
  cases code<;>simp only [okC,Bool.false_eq_true] at ok
  simp only [Bool.and_eq_true] at ok
  simp only [evC] at h
  refine wpIn_seq ?_
  cases ha:evC F cx a e m with
  | none=>rw [ha] at h;simp at h
  | some p=>
   obtain⟨x1,e1,m1⟩:=p
   rw [ha] at h
   refine iha _ e m x1 e1 m1 ok.1 ha s A hs hm he hnt hN hmk _ fun s1 A1 q1 q2 q3 q4 q5 q6=> ?_
   cases x1 with
   | normal=>
    refine ihb _ e1 m1 x e' m' ok.2 h s1 A1 q1 q3 q4 (by rw [q5];exact hnt) (Nat.le_trans hN q2.size) q6 Q fun s2 A2 r1 r2 r3 r4 r5 r6=> ?_
    exact hQ s2 A2 r1 (Ext.trans q2 r2 (fun _ _=>trivial)) r3 r4 (r5.trans q5) r6
   | exit id=>
    simp only [Option.some.injEq,Prod.mk.injEq] at h
    obtain⟨rfl,rfl,rfl⟩:=h
    exact hQ s1 A1 q1 q2 q3 q4 q5 q6
   | ret=>
    simp only [Option.some.injEq,Prod.mk.injEq] at h
    obtain⟨rfl,rfl,rfl⟩:=h
    exact hQ s1 A1 q1 q2 q3 q4 q5 q6
 | cond c a b iha ihb=>
  intro code e m x e' m' ok h s A hs hm he hnt hN hmk Q hQ
  cases code<;>simp only [okC,Bool.false_eq_true] at ok
  simp only [Bool.and_eq_true] at ok
  simp only [evC] at h
  split at h<;>try cases h
  rename_i t hc
  have hv:=zbp hs he ok.1.1
  rw [hc] at hv
  refine wpIn_cond (t:=t) hv ?_
  cases t with
  | true=>
   simp only [if_true] at h ⊢
   exact iha _ e m x e' m' ok.1.2 h s A hs hm he hnt hN hmk Q hQ
  | false=>
   simp only [Bool.false_eq_true,if_false] at h ⊢
   exact ihb _ e m x e' m' ok.2 h s A hs hm he hnt hN hmk Q hQ
 | block id c ih=>
  intro code e m x e' m' ok h s A hs hm he hnt hN hmk Q hQ
  cases code<;>simp only [okC,Bool.false_eq_true] at ok
  simp only [Bool.and_eq_true,beq_iff_eq] at ok
  obtain⟨rfl,ok⟩:=ok
  simp only [evC] at h
  refine wpIn_block ?_
  cases hc:evC F cx c e m with
  | none=>rw [hc] at h;simp at h
  | some p=>
   obtain⟨x1,e1,m1⟩:=p
   rw [hc] at h
   refine ih _ e m x1 e1 m1 ok hc s A hs hm he hnt hN hmk _ fun s1 A1 q1 q2 q3 q4 q5 q6=> ?_
   cases x1 with
   | normal=>
    simp only [Option.some.injEq,Prod.mk.injEq] at h
    obtain⟨rfl,rfl,rfl⟩:=h
    exact hQ s1 A1 q1 q2 q3 q4 q5 q6
   | exit j=>
    simp only at h
    show Exit.inBlock id Q (.exit j) A1 s1.w
    simp only [Exit.inBlock]
    split at h
    ·rename_i hj
     simp only [Option.some.injEq,Prod.mk.injEq] at h
     obtain⟨rfl,rfl,rfl⟩:=h
     simp only [hj,if_true]
     exact hQ s1 A1 q1 q2 q3 q4 q5 q6
    ·rename_i hj
     simp only [Option.some.injEq,Prod.mk.injEq] at h
     obtain⟨rfl,rfl,rfl⟩:=h
     simp only [hj,if_false]
     exact hQ s1 A1 q1 q2 q3 q4 q5 q6
   | ret=>
    simp only [Option.some.injEq,Prod.mk.injEq] at h
    obtain⟨rfl,rfl,rfl⟩:=h
    exact hQ s1 A1 q1 q2 q3 q4 q5 q6
 | loop live c ih=>
  intro code e m x e' m' ok h s A hs hm he hnt hN hmk Q hQ
  cases code<;>simp only [okC,Bool.false_eq_true] at ok
  simp only [evC,yny] at h
  split at h<;>try cases h
  rename_i hl
  obtain⟨k,hk⟩:=hF.loop _ _ _ _ _ _ _ _ _ hl rd nt _ ok
  refine wpIn_loop_rounds k (hk N s A hs hm (zqy _ he) hnt hN hmk Q fun s' A' q1 q2 q3 q4 q5 q6=> ?_)
  refine hQ s' A' q1 (Ext.of_look (Ext.mono q2 fun i hi=> ?_)) q3 q4 q5 q6
  cases ho:look s.m i with
  | none=>exact absurd ho hi
  | some o=>rw [<-hm];exact zot _ i o ho
 | bad=>
  intro code e m x e' m' ok h s A hs hm he hnt hN hmk Q hQ
  simp [evC] at h
 | rangeM pre it x0 out nxt pair live ops kill code ih=>
  intro code0 e m x e' m' ok h s A hs hm he hnt hN hmk Q hQ
  obtain⟨id,os,out',id2,os2,c,out2,nxt',id3,os3,code',rfl,ok2⟩:=yfa ok
  subst hm
  exact yis hF.good rd cx ok2.1 (fun e m x e' m' h s A hs hm he hnt hN hmk Q hQ=>ih code' e m x e' m' ok2.2 h s A hs hm he hnt hN hmk Q hQ) h hs he hnt hN hmk hQ
 | rangeFn slot f ps a b=>
  intro code e m x e' m' ok h s A hs hm he hnt hN hmk Q hQ
  cases rd with
  | none=>exact hR cx slot f ps a b e m x e' m' h nt code ok N s A hs hm he hnt hN hmk Q hQ
  | some l=>cases code<;>simp [okC] at ok
 | exit id=>
  intro code e m x e' m' ok h s A hs hm he hnt hN hmk Q hQ
  cases code<;>simp only [okC,Bool.false_eq_true] at ok
  simp only [beq_iff_eq] at ok
  subst ok
  simp only [evC,Option.some.injEq,Prod.mk.injEq] at h
  obtain⟨rfl,rfl,rfl⟩:=h
  exact wpIn_exit (hQ s A hs (Ext.refl _ _) hm he rfl hmk)
 | scope c ih=>
  intro code e m x e' m' ok h s A hs hm he hnt hN hmk Q hQ
  cases code<;>simp only [okC,Bool.false_eq_true] at ok
  simp only [evC] at h
  refine yfv (ih _ e m x e' m' ok h s A hs hm he hnt hN hmk _ fun s' A' q1 q2 q3 q4 q5 q6=> ?_)
  have:=hQ s' A' q1 q2 q3 q4 q5 q6
  cases x<;>exact this
 | ret=>
  intro code e m x e' m' ok h s A hs hm he hnt hN hmk Q hQ
  cases code<;>simp only [okC,Bool.false_eq_true] at ok
  simp only [evC,Option.some.injEq,Prod.mk.injEq] at h
  obtain⟨rfl,rfl,rfl⟩:=h
  exact wpIn_ret (hQ s A hs (Ext.refl _ _) hm he rfl hmk)
end
end Go.Evl
namespace Go.Evl
open Go.RowKit
section
variable {P : Program} {gl : Globs}
theorem zt1.fresh {oc:zek} {s:S} (hs:Sim oc gl s) {b:Nat} (h:s.w.heap.size<=b):zt1 s b:=fun i o hi hg hb=>by
 have:=(hs.objs i o hi).blk_lt hg hb
 omega
theorem zyw {F:Oracle} (hF:ypd P gl F):yf8 P gl F:=by
 intro cx slot f ps ca cb e m x e' m' h nt code ok N s A hs hm he hnt hN hmk Q hQ
 cases code<;>simp only [okC,Bool.false_eq_true] at ok
 rename_i g qs cx1 cx2
 simp only [Bool.and_eq_true,Bool.not_false,Bool.true_and,beq_iff_eq,List.all_eq_true,decide_eq_true_eq] at ok
 obtain⟨⟨⟨⟨okg,hqs⟩,hps⟩,oka⟩,okb⟩:=ok
 subst hm
 have hf:=zbp hs he okg
 simp only [evC] at h
 obtain⟨i,hi⟩:∃i,i=newId cx slot s.m:=⟨_,rfl⟩
 rw [<-hi] at h
 have hfresh:look s.m i=none:=by rw [hi];exact zeg _ _ _
 split at h<;>try cases h
 rename_i hlow
 generalize f.ev e=vf at hf h
 split at h<;>try cases h
 rename_i fid first caps
 split at h<;>try cases h
 rename_i v1 m1 hcall
 split at h<;>try cases h
 rename_i e9 ps9 a9 b9 lv9 ov9 j hlk
 split at h<;>try cases h
 rename_i hids
 obtain⟨xs,ys,hg,hx,hy⟩:=hf
 refine wpIn_rangeFunc (F:=fen none) fun fn _=> ?_
 -- the record is laid
 let wA:World:=s.w.alloc (.deferred (some []))
 let L:Loop:={state:= .ready,pending:=none,fn,tmps:=A.tmps,params:=qs,assign:=cx1,body:=cx2,defers:=s.w.heap.size}
 let wB:World:=wA.alloc (.loop L)
 have hszA:wA.heap.size=s.w.heap.size+1:=by simp [wA]
 obtain⟨kA1,kA2⟩:=hs.calm wA s.Im rfl rfl rfl (by simp [wA]) (fun b hb=>heap_alloc_old _ _ (h:=hb)) (fun _ _ h=>h) (fun _ _ h=> .inl h) (fun b j h=>Nat.lt_of_lt_of_le (hs.imlt b j h) (by simp [wA]))
 let sA:S:=⟨s.φ,s.m,wA,s.Im⟩
 obtain⟨kB1,kB2⟩:=z6f (s:=sA) kA1 i hfresh (.loop e ps ca cb cx.lv false false none) (.pointer (some ⟨wA.heap.size,0,none⟩)) (.loop L) rfl
  (fun hE=>⟨wA.heap.size,L,rfl,heap_alloc_new _ _,by simp [L,<-hqs],fun t ht=>Nat.lt_of_lt_of_le (hps t ht) hnt,
   zdc.ext (Ext.trans kA2 hE (fun _ _=>trivial)) (fun _ _ _=>trivial) he,⟨nt,hnt,oka⟩,⟨nt,hnt,okb⟩,rfl,rfl⟩)
 obtain⟨sB,hsB⟩:∃sB:S,sB=⟨fun k=>if i=k then .pointer (some ⟨wA.heap.size,0,none⟩) else sA.φ k,upd sA.m i (.loop e ps ca cb cx.lv false false none),sA.w.alloc (.loop L),sA.Im⟩:=⟨_,rfl⟩
 rw [<-hsB] at kB1 kB2
 have hwB:sB.w=wB:=by rw [hsB]
 have hmB:sB.m=upd s.m i (.loop e ps ca cb cx.lv false false none):=by rw [hsB]
 have hφB:sB.φ i= .pointer (some ⟨wA.heap.size,0,none⟩):=by rw [hsB];simp
 have hsAB:Ext (fun _=>True) s sB:=Ext.trans kA2 kB2 (fun _ _=>trivial)
 obtain⟨hen,hgo⟩:=hF.good.call _ _ _ _ _ _ hcall
 have hyld:VR sB (.yld i) (.func (.yield wA.heap.size) #[] #[]):=by
  refine⟨rfl,?_⟩
  rw [hφB,hmB,zbj]
  exact⟨wA.heap.size,rfl,rfl⟩
 have hargs:VRt sB (first ++[.yld i]++caps) (xs.toList++[.func (.yield wA.heap.size) #[] #[]]++ys.toList):=
  VRt.append _ _ _ _ (VRt.append _ _ _ _ (VRt.ext hsAB _ _ (fun _ _=>trivial) hx) ⟨_,[],rfl,hyld,rfl⟩) (VRt.ext hsAB _ _ (fun _ _=>trivial) hy)
 have hgo:=hgo sB kB1 hmB _ hargs
 rw [hwB] at hgo
 have harr:(xs.toList++[Value.func (.yield wA.heap.size) #[] #[]]++ys.toList).toArray=xs++#[Value.func (.yield wA.heap.size) #[] #[]]++ys:=by
  apply Array.ext';simp
 rw [harr] at hgo
 refine⟨wA.heap.size,[zp5 s.w.heap.size],wB,{target:= .fn (.func fid) ys,args:=xs++#[Value.func (.yield wA.heap.size) #[] #[]]},wB,fid,xs++#[Value.func (.yield wA.heap.size) #[] #[]]++ys,wB,?_,?_,fun _ _=>trivial,?_,fun hd=>by simp [fen] at hd,?_⟩
 ·simp [Instr.enterLoop,fen,newObj,Sem.run,wB,wA,L,zp5]
 ·have hev:A.eval g= .func (.func fid) xs ys:=hg
  have hc:∀v,A.eval (.const v)=v:=fun _=>rfl
  simp [Go.resolve,Deferred.ofValue,hev,hc]
 ·simp [invoke,zn2 hen]
 refine CallsIn.mono (F:=fen none) (n:=0) hgo ?_
 rintro e' w' ⟨s1,x1,rfl,rfl,k1,k2,rfl,k4⟩
 -- back at the statement
 obtain⟨o1,ho1,ht⟩:=k2.objs i _ trivial (by rw [hmB,zbj])
 rw [hlk] at ho1
 obtain rfl:=Option.some.inj ho1
 have hp1:s1.φ i= .pointer (some ⟨wA.heap.size,0,none⟩):=by
  have:s1.φ i=sB.φ i:=ht.1
  rw [this,hφB]
 obtain⟨l1,L1,hpl,hL1,hpar,hpl2,henv1,hoa,hob,hst,hpend⟩:=k1.objs i _ hlk
 have hl1:l1=wA.heap.size:=by
  rw [hp1] at hpl
  simp at hpl
  exact hpl.symm
 subst hl1
 have hB:=zs4 k1 k2 (by rw [hmB];exact hlow) hids
 have hkeyi:i.lv<cx.nx:=by
  have h1:i∈znr (upd s.m i (.loop e ps ca cb cx.lv false false none)):=zot _ i _ (zbj _ _ _)
  simp only [zig,List.all_eq_true,decide_eq_true_eq] at hlow
  exact hlow i h1
 obtain⟨hli,hφi⟩:=hB.low i hkeyi
 have hCi:look (zel cx.nx s1.m) i=some (.loop e9 ps9 a9 b9 lv9 false ov9 j):=hli.trans hlk
 obtain⟨kD1,kD2⟩:=zvd (s:=⟨s1.φ,zel cx.nx s1.m,s1.w,s1.Im⟩) hB.sim i _ .gone hCi (by simp) wA.heap.size _ hp1 rfl _ (.loop {L1 with state:= .exhausted}) hL1 rfl rfl trivial (fun _=>trivial)
 have hE:Ext (fun _=>True) s _:=Ext.trans hsAB (Ext.trans hB.ext kD2 (fun _ _=>trivial)) (fun _ _=>trivial)
 have hEA:Ext (fun _=>True) sA _:=Ext.trans kB2 (Ext.trans hB.ext kD2 (fun _ _=>trivial)) (fun _ _=>trivial)
 -- the marks
 have hmkA:zgi N sA (zp5 s.w.heap.size::A.defers):=by
  obtain⟨rs,q1,q2,q3⟩:=zgi.ext kA2 hmk
  refine⟨s.w.heap.size::rs,by simp [q1],?_,fun r hr=> ?_⟩
  ·refine List.nodup_cons.2 ⟨fun hr=> ?_,q2⟩
   obtain⟨rs',p1,_,p3⟩:=hmk
   have:rs'=rs:=by
    have hinj:∀(a b:List Nat),a.map zp5=b.map zp5->a=b:=by
     intro a b hab
     exact(List.map_inj_right (f:=zp5) (fun x y hxy=>by simpa [zp5] using hxy)).1 hab
    exact hinj _ _ (p1.symm.trans q1)
   subst this
   have:=(Array.getElem?_eq_some_iff.1 (p3 _ hr).2.1).1
   omega
  ·rcases List.mem_cons.1 hr with rfl|hr
   ·refine⟨hN,heap_alloc_new _ _,fun k o hk hg' hb=> ?_,fun j' hj=> ?_⟩
    ·have:=(hs.objs k o hk).blk_lt hg' hb
     omega
    ·have:=hs.imlt _ _ hj
     omega
   ·exact q3 r hr
 have hmkD:=zgi.ext hEA hmkA
 have henvD:=zdc.ext hE (fun _ _ _=>trivial) he
 have hend:(Instr.endLoop wA.heap.size).run P s1.w= .ok L1.pending {s1.w with heap:=s1.w.heap.setIfInBounds wA.heap.size (.loop {L1 with state:= .exhausted})}:=by
  have hb':L1.state≠LoopState.busy:=by rw [hst];cases ov9<;>simp [yb8]
  simp [Instr.endLoop,Instr.getLoop,getObj,setObj,Sem.run,hL1,hb']
 have hend2:(Instr.endLoop wA.heap.size).run P s1.w= .ok (j.map zrl) {s1.w with heap:=s1.w.heap.setIfInBounds wA.heap.size (.loop {L1 with state:= .exhausted})}:=by
  rw [hend,hpend]
 refine⟨j.map zrl,_,hend2,?_⟩
 cases j with
 | none=>
  simp only [Option.some.injEq,Prod.mk.injEq] at h
  obtain⟨rfl,rfl,rfl⟩:=h
  have hq:=hQ _ {A with defers:=[zp5 s.w.heap.size]++A.defers} kD1 hE rfl henvD rfl hmkD
  simpa only [Ex.exit',Option.map_none] using hq
 | some j=>
  simp only [Option.some.injEq,Prod.mk.injEq] at h
  obtain⟨rfl,rfl,rfl⟩:=h
  cases j with
  | exit id=>
   have hq:=hQ _ {A with defers:=[zp5 s.w.heap.size]++A.defers} kD1 hE rfl henvD rfl hmkD
   exact wpIn_exit (by simpa only [Ex.exit',yf7.ex] using hq)
  | ret=>
   have hq:=hQ _ {A with defers:=[zp5 s.w.heap.size]++A.defers} kD1 hE rfl henvD rfl hmkD
   exact wpIn_ret (by simpa only [Ex.exit',yf7.ex] using hq)
end
end Go.Evl
namespace Go.Evl
open Go.RowKit
section
variable {P : Program} {gl : Globs}
theorem yp7 {oc:zek} {fn:Func} {tmps:Array Value} {R:Ending->World->Prop} {s0:S}:∀(rs:List Nat) (s:S),rs.Nodup->(∀r∈rs,s0.w.heap.size<=r/\s.w.heap[r]? =some (.deferred (some []))/\zt1 s r/\∀j,¬s.Im r j)->
  Sim oc gl s->Ext (fun _=>True) s0 s->
  (∀s',Sim oc gl s'->Ext (fun _=>True) s0 s'->z98 (fun _=>True) s s'->s'.m=s.m->∃v,(Go.results fn tmps).run P s'.w= .ok v s'.w/\R (.returned v) s'.w)->
  LeavesInM (fen none) 0 P fn tmps R (rs.map zp5) .returning s.w
 | [],s,_,_,hs,hE,h=>h s hs hE ⟨fun _ _ h=>h,fun _ _ _=>rfl,fun i o _ ho=>⟨o,ho,Turned.refl _ _⟩⟩ rfl
 | r::rs,s,hn,hr,hs,hE,h=>by
  obtain⟨h1,h2,h3,h4⟩:=hr r (by simp)
  obtain⟨k1,k2,k3⟩:=z9o (obj:= .deferred none) hs h2 h3 h4
  have hn':=List.nodup_cons.1 hn
  refine⟨by simp,.inl ⟨r,{s.w with heap:=s.w.heap.setIfInBounds r (.deferred none)},rfl,by simp [Instr.takeDeferred,getObj,setObj,Sem.run,h2],?_⟩⟩
  refine yp7 rs ⟨s.φ,s.m,{s.w with heap:=s.w.heap.setIfInBounds r (.deferred none)},s.Im⟩ hn'.2 (fun r' hr'=> ?_) k1 (k3 _ s0 hE h1) fun s' q1 q2 q3 q4=> ?_
  ·obtain⟨g1,g2,g3,g4⟩:=hr r' (by simp [hr'])
   have hne:r'≠r:=fun e=>hn'.1 (e▸hr')
   refine⟨g1,?_,g3,g4⟩
   show (s.w.heap.setIfInBounds r (.deferred none))[r']? =_
   simp [Ne.symm hne,g2]
  ·exact h s' q1 q2 ⟨fun b j h=>q3.im b j h,fun b j h=>(q3.keep b j h).trans (k2.keep b j h),fun i o _ ho=>q3.objs i o trivial ho⟩ q4
def yrg (P:Program):RV->ResultVar->Bool
 | .tmp t,.tmp u=>t==u
 | .cell t n,.cell u ty=>t==u&&ztg P ty n
 | _,_=>false
def z2w (P:Program):List RV->List ResultVar->Bool
 | [],[]=>true
 | a::r,b::q=>yrg P a b&&z2w P r q
 | _,_=>false
def zn1 (tmps:Array Value):ResultVar->Sem Value
 | .tmp t=>pure (tmps.getD t undef)
 | .cell a t=>do loadVar t (<-asAddr (tmps.getD a undef))
theorem yix {oc:zek} {s:S} (hs:Sim oc gl s) {e:Env} {tmps:Array Value} (he:zdc s e tmps) {a:RV} {b:ResultVar} {v:V} (ok:yrg P a b=true) (h:yqn s.m e a=some v):∃y,(zn1 tmps b).run P s.w= .ok y s.w/\VR s v y:=by
 cases a with
 | tmp t=>
  cases b<;>simp only [yrg,Bool.false_eq_true] at ok
  simp only [beq_iff_eq] at ok
  subst ok
  simp only [yqn,Option.some.injEq] at h
  subst h
  exact⟨_,rfl,he t⟩
 | cell t n=>
  cases b<;>simp only [yrg,Bool.false_eq_true] at ok
  simp only [Bool.and_eq_true,beq_iff_eq] at ok
  obtain⟨rfl,hc⟩:=ok
  obtain⟨ad,y,hx,hr,hv⟩:=ydi hs hc (he t) h
  exact⟨y,by simp [zn1,asAddr,hx,hr],hv⟩
theorem yd9 {oc:zek} {s:S} (hs:Sim oc gl s) {e:Env} {tmps:Array Value} (he:zdc s e tmps):∀(as:List RV) (bs:List ResultVar) (vs:List V),z2w P as bs=true->z23 s.m e as=some vs->
  ∃ys,(bs.mapM (zn1 tmps)).run P s.w= .ok ys s.w/\VRt s vs ys
 | [],[],vs,_,h=>by simp only [z23,Option.some.injEq] at h;subst h;exact⟨[],rfl,rfl⟩
 | [],_::_,_,ok,_=>by simp [z2w] at ok
 | _::_,[],_,ok,_=>by simp [z2w] at ok
 | a::as,b::bs,vs,ok,h=>by
  simp only [z2w,Bool.and_eq_true] at ok
  simp only [z23] at h
  split at h<;>try cases h
  rename_i v vs' h1 h2
  obtain⟨y,hy,hv⟩:=yix hs he ok.1 h1
  obtain⟨ys,hys,hvs⟩:=yd9 hs he as bs vs' ok.2 h2
  exact⟨y::ys,by simp [List.mapM_cons,hy,hys],y,ys,rfl,hv,hvs⟩
theorem yfe {oc:zek} {s:S} (hs:Sim oc gl s) {e:Env} {fn:Func} {tmps:Array Value} (he:zdc s e tmps) {rs:List RV} {v:V} (ok:z2w P rs fn.results.toList=true) (h:Evl.results s.m e rs=some v):
  ∃y,(Go.results fn tmps).run P s.w= .ok y s.w/\VR s v y:=by
 have hf:Go.results fn tmps=(do
   let vs <-List.toArray<$>fn.results.toList.mapM (zn1 tmps)
   pure (if h:vs.size=1 then vs[0] else .tuple vs)):=by
  have hg:∀(g:ResultVar->Sem Value),(∀x,g x=zn1 tmps x)->(fn.results.mapM g)=List.toArray<$>fn.results.toList.mapM (zn1 tmps):=by
   intro g hg
   rw [Array.mapM_eq_mapM_toList,show g=zn1 tmps from funext hg]
  unfold Go.results
  rw [hg _ fun x=>by cases x<;>rfl]
 have fin:∀(vs:List V) (ys:List Value),(fn.results.toList.mapM (zn1 tmps)).run P s.w= .ok ys s.w->(Go.results fn tmps).run P s.w= .ok (if h:ys.toArray.size=1 then ys.toArray[0] else .tuple ys.toArray) s.w:=by
  intro vs ys hy
  rw [hf]
  simp [hy]
 unfold Evl.results at h
 split at h
 ·rename_i r
  cases hb:fn.results.toList with
  | nil=>rw [hb] at ok;simp [z2w] at ok
  | cons b q=>
   rw [hb] at ok
   simp only [z2w,Bool.and_eq_true] at ok
   cases q with
   | cons _ _=>simp [z2w] at ok
   | nil=>
    obtain⟨y,hy,hv⟩:=yix hs he ok.1 h
    refine⟨y,?_,hv⟩
    rw [fin [] [y] (by rw [hb];simp [List.mapM_cons,hy])]
    rfl
 ·rename_i hne
  simp only [Option.map_eq_some_iff] at h
  obtain⟨vs,h1,rfl⟩:=h
  obtain⟨ys,hy,hv⟩:=yd9 hs he _ _ vs ok h1
  refine⟨.tuple ys.toArray,?_,ys.toArray,rfl,hv⟩
  rw [fin [] ys hy]
  have hlen:ys.length≠1:=by
   intro hl
   have h2:=(VRt.length _ _ hv).trans hl
   have h3:∀(rs:List RV) (vs:List V),z23 s.m e rs=some vs->vs.length=rs.length:=by
    intro rs
    induction rs with
    | nil=>intro vs h;simp only [z23,Option.some.injEq] at h;subst h;rfl
    | cons a r ih=>
     intro vs h
     simp only [z23] at h
     split at h<;>try cases h
     rename_i h4 h5
     simp [ih _ h5]
   have h4:=h3 _ _ h1
   match rs,hne,h4 with
   | [r],hne,_=>exact hne r rfl
   | [],_,h4=>simp [h2] at h4
   | _::_::_,_,h4=>simp [h2] at h4
  simp [hlen]
end
end Go.Evl
namespace Go.Evl
open Go.RowKit
section
variable {P : Program} {gl : Globs}
def okCF (P:Program) (gl:Globs) (f:Nat) (cf:CF):Bool:=
 match P.funcs[f]? with
 | some fn=>
  match fn.body with
  | some code=>fn.name != "runtime.NumGoroutine" &&okC P gl fn.ntmps false cf.body code&&z2w P cf.results fn.results.toList
  | none=>false
 | none=>false
theorem z4c {s:S}:∀(vs:List V) (xs:List Value) (i:Nat),VRt s vs xs->∀t,VR s (get (params i vs) t) (if i<=t then xs.getD (t-i) undef else undef)\/get (params i vs) t= .undef
 | [],_,i,_,t=> .inr rfl
 | v::vs,_,i,⟨x,ys,hx,h1,h2⟩,t=>by
  subst hx
  simp only [params,get]
  by_cases e:i=t
  ·subst e;simpa using Or.inl h1
  ·simp only [e,if_false]
   rcases z4c vs ys (i+1) h2 t with h|h
   ·by_cases hlt:i+1<=t
    ·left
     have h3:t-i=(t-(i+1))+1:=by omega
     simp only [hlt,if_true] at h
     have h4:i<=t:=by omega
     simp only [h4,if_true,h3,List.getD_cons_succ]
     exact h
    ·right
     have:∀(vs:List V) (k:Nat),t<k->get (params k vs) t= .undef:=by
      intro vs
      induction vs with
      | nil=>intro k _;rfl
      | cons v r ih=>
       intro k hk
       simp only [params,get]
       have:k≠t:=by omega
       simp only [this,if_false]
       exact ih (k+1) (by omega)
     exact this vs (i+1) (by omega)
   ·exact .inr h
theorem ygr {s:S} {vs:List V} {xs:List Value} (h:VRt s vs xs) (n:Nat):zdc s (params 0 vs) (xs.toArray++Array.replicate (n-xs.toArray.size) undef):=by
 intro t
 rcases z4c vs xs 0 h t with hv|hv
 ·by_cases ht:t<xs.length
  ·simp only [Nat.zero_le,if_true,Nat.sub_zero] at hv
   have:(xs.toArray++Array.replicate (n-xs.toArray.size) undef).getD t undef=xs.getD t undef:=by
    rw [Array.getD_eq_getD_getElem?,Array.getElem?_append_left (by simpa using ht),List.getD_eq_getElem?_getD]
    simp
   rw [this];exact hv
  ·have hl:=VRt.length _ _ h
   have:∀(vs:List V) (k:Nat),k+vs.length<=t->get (params k vs) t= .undef:=by
    intro vs
    induction vs with
    | nil=>intro k _;rfl
    | cons v r ih=>
     intro k hk
     simp only [params,get]
     simp only [List.length_cons] at hk
     have:k≠t:=by omega
     simp only [this,if_false]
     exact ih (k+1) (by omega)
   rw [this vs 0 (by omega)];trivial
 ·rw [hv];trivial
def ExternOk (P:Program) (gl:Globs) (X:Extern):Prop:=
 ∀f x,X f=some x->Enters P f/\∀args m v m',x args m=some (v,m')->∀s,Sim (zq6 P gl) gl s->s.m=m->∀xs:List Value,VRt s args xs->CallsIn Fence.wide 0 P f xs.toArray s.w (zt0 (zq6 P gl) gl s v m')
def CodeOk (P:Program) (gl:Globs) (Γ:Nat->Option CF):Prop:=∀f cf,Γ f=some cf->okCF P gl f cf=true
theorem yjs {Γ:Nat->Option CF} {X:Extern} {F:Oracle} (hF:ypd P gl F) (hmx:P.follows .mixedOrders=true):ych P gl (step Γ X F):=by
 intro cx live keep body e m x e' m' h rd nt code ok
 simp only [step] at h
 cases hb:evC F cx body e m with
 | none=>rw [hb] at h;simp at h
 | some p=>
  obtain⟨x1,e1,m1⟩:=p
  rw [hb] at h
  have walk:=fun N=>z63 hF (zyw hF) hmx rd nt cx N body code e m x1 e1 m1 ok hb
  cases x1 with
  | normal=>
   obtain⟨k,hk⟩:=hF.loop _ _ _ _ _ _ _ _ _ h rd nt code ok
   refine⟨k+1,fun N s A hs hm he hnt hN hmk Q hQ=> ?_⟩
   rw [roundsIn_succ]
   refine walk N s A hs hm he hnt hN hmk _ fun s1 A1 q1 q2 q3 q4 q5 q6=> ?_
   subst q3
   obtain⟨g1,g2⟩:=ynz q1 keep (only live e1)
   have henv:zdc s1 (only live e1) A1.tmps:=zqy _ q4
   refine hk N ⟨s1.φ,gc keep (only live e1) s1.m,s1.w,s1.Im⟩ A1 g1 rfl (zdc.ext g2 (fun t i hi=> .inr (z55 _ t i hi)) henv) (by rw [q5];exact hnt) (Nat.le_trans hN q2.size) (zgi.ext g2 q6) Q fun s' A' r1 r2 r3 r4 r5 r6=> ?_
   exact hQ s' A' r1 (Ext.trans (Ext.mono q2 (fun _ _=>trivial)) (Ext.trans (Ext.mono g2 fun i hi=> .inl hi) r2 (fun _ h=>h)) (fun _ h=>h)) r3 r4 (r5.trans q5) r6
  | exit id=>
   simp only [Option.some.injEq,Res.st.injEq] at h
   obtain⟨rfl,rfl,rfl⟩:=h
   refine⟨1,fun N s A hs hm he hnt hN hmk Q hQ=> ?_⟩
   rw [roundsIn_succ]
   exact walk N s A hs hm he hnt hN hmk _ fun s1 A1 q1 q2 q3 q4 q5 q6=>hQ s1 A1 q1 (Ext.mono q2 (fun _ _=>trivial)) q3 q4 q5 q6
  | ret=>
   simp only [Option.some.injEq,Res.st.injEq] at h
   obtain⟨rfl,rfl,rfl⟩:=h
   refine⟨1,fun N s A hs hm he hnt hN hmk Q hQ=> ?_⟩
   rw [roundsIn_succ]
   exact walk N s A hs hm he hnt hN hmk _ fun s1 A1 q1 q2 q3 q4 q5 q6=>hQ s1 A1 q1 (Ext.mono q2 (fun _ _=>trivial)) q3 q4 q5 q6
theorem yjr {Γ:Nat->Option CF} {X:Extern} {F:Oracle} (hF:ypd P gl F) (hmx:P.follows .mixedOrders=true) (hX:ExternOk P gl X) (hΓ:CodeOk P gl Γ):zt2 P (zq6 P gl) gl (step Γ X F):=by
 intro lv f args m v m' h
 simp only [step] at h
 split at h
 ·rename_i x hx
  simp only [Option.map_eq_some_iff,Res.val.injEq] at h
  obtain⟨⟨v1,m1⟩,h1,rfl,rfl⟩:=h
  obtain⟨k1,k2⟩:=hX f x hx
  exact⟨k1,k2 _ _ _ _ h1⟩
 ·split at h<;>try cases h
  rename_i cf hcf
  have hok:=hΓ f cf hcf
  unfold okCF at hok
  split at hok<;>try cases hok
  rename_i fn hfn
  split at hok<;>try cases hok
  rename_i code hcode
  simp only [Bool.and_eq_true,bne_iff_ne] at hok
  obtain⟨⟨hname,hokc⟩,hres⟩:=hok
  refine⟨⟨fn,hfn,hname,by rw [hcode];simp⟩,fun s hs hm xs hxs=> ?_⟩
  -- what the body comes to
  obtain⟨x,e1,m1,hev,hx,hr⟩:∃x e1 m1,evC F ⟨lv,lv+1⟩ cf.body (params 0 args) m=some (x,e1,m1)/\(x= .normal\/x= .ret)/\Evl.results m1 e1 cf.results=some v/\m'=m1:=by
   split at h<;>try cases h
   ·rename_i e1 m1 hev
    simp only [Option.map_eq_some_iff,Res.val.injEq] at h
    obtain⟨v1,h1,rfl,rfl⟩:=h
    exact⟨_,_,_,hev,.inl rfl,h1,rfl⟩
   ·rename_i e1 m1 hev
    simp only [Option.map_eq_some_iff,Res.val.injEq] at h
    obtain⟨v1,h1,rfl,rfl⟩:=h
    exact⟨_,_,_,hev,.inr rfl,h1,rfl⟩
  obtain⟨hr,rfl⟩:=hr
  have hsz:fn.ntmps<=(xs.toArray++Array.replicate (fn.ntmps-xs.toArray.size) undef).size:=by simp;omega
  refine callsIn_of_wp_marks (F:=Fence.wide) hfn hcode trivial ?_
  refine z63 hF (zyw hF) hmx none fn.ntmps ⟨lv,lv+1⟩ s.w.heap.size cf.body code (params 0 args) m x e1 m' hokc hev s {tmps:=xs.toArray++Array.replicate (fn.ntmps-xs.toArray.size) undef,defers:=[]} hs hm (ygr hxs _) hsz (Nat.le_refl _) (zgi.nil _ _) _ fun s1 A1 q1 q2 q3 q4 q5 q6=> ?_
  have done:LeavesInM (fen none) 0 P fn A1.tmps (zt0 (zq6 P gl) gl s v m') A1.defers .returning s1.w:=by
   obtain⟨rs,r1,r2,r3⟩:=q6
   rw [r1]
   refine yp7 rs s1 r2 r3 q1 q2 fun s2 t1 t2 t3 t4=> ?_
   have henv:=zdc.ext0 t3 (fun _ _ _=>trivial) q4
   obtain⟨y,hy,hv⟩:=yfe (fn:=fn) t1 henv hres (by rw [t4,q3];exact hr)
   exact⟨y,hy,s2,y,rfl,rfl,t1,t2,t4.trans q3,hv⟩
  rcases hx with rfl|rfl<;>exact done
end
end Go.Evl
namespace Go.Evl
open Go.RowKit
section
variable {P : Program} {gl : Globs}
theorem yj9 {s:S}:∀(ps:List Nat) (args:List V) (xs:List Value) (e:Env) (tmps:Array Value),ps.length=args.length->VRt s args xs->zdc s e tmps->(∀t∈ps,t<tmps.size)->
  zdc s (ypb ps args e) ((ps.toArray.zip xs.toArray).foldl (fun tmps (t,a)=>tmps.setIfInBounds t a) tmps)/\((ps.toArray.zip xs.toArray).foldl (fun tmps (t,a)=>tmps.setIfInBounds t a) tmps).size=tmps.size
 | [],args,xs,e,tmps,_,_,he,_=>by
  have hz:(([]:List Nat).toArray.zip xs.toArray).foldl (fun tmps (t,a)=>tmps.setIfInBounds t a) tmps=tmps:=by
   rw [<-Array.foldl_toList]
   simp
  rw [hz]
  exact⟨by cases args<;>exact he,rfl⟩
 | p::ps,[],xs,e,tmps,h,_,_,_=>by simp at h
 | p::ps,v::args,_,e,tmps,h,⟨x,ys,hx,h1,h2⟩,he,hp=>by
  subst hx
  have hpt:=hp p (by simp)
  have he':zdc s (put e p v) (tmps.setIfInBounds p x):=by
   have:=zus (A:={tmps:=tmps,defers:=[]}) he (some p) (fun t ht=>by obtain rfl:=Option.some.inj ht;exact hpt) h1
   exact this
  obtain⟨k1,k2⟩:=yj9 ps args ys (put e p v) (tmps.setIfInBounds p x) (by simpa using h) h2 he' (fun t ht=>by simpa using hp t (by simp [ht]))
  have hz:((p::ps).toArray.zip (x::ys).toArray).foldl (fun tmps (t,a)=>tmps.setIfInBounds t a) tmps=(ps.toArray.zip ys.toArray).foldl (fun tmps (t,a)=>tmps.setIfInBounds t a) (tmps.setIfInBounds p x):=by
   rw [<-Array.foldl_toList,<-Array.foldl_toList]
   simp
  rw [hz]
  exact⟨k1,by rw [k2];simp⟩
theorem yfq {Γ:Nat->Option CF} {X:Extern} {F:Oracle} (hF:ypd P gl F) (hmx:P.follows .mixedOrders=true):zy7 P (zq6 P gl) gl (step Γ X F):=by
 intro nx o args m v m' h
 simp only [step] at h
 split at h<;>try cases h
 rename_i e ps a b lv j0 hlk
 split at h<;>try cases h
 rename_i hpl
 split at h<;>try cases h
 rename_i e1 m1 heva
 split at h<;>try cases h
 rename_i e' ps' a' b' lv' j' hlk1
 split at h<;>try cases h
 rename_i x ex m2 hevb
 split at h<;>try cases h
 rename_i e3 ps3 a3 b3 lv3 j3 hlk2
 refine⟨⟨_,_,_,_,_,_,_,_,hlk⟩,fun s hs hm xs hxs l hl=> ?_⟩
 subst hm
 obtain⟨l0,L,hp0,hL,hpar,hplt,henv,hoa,hob,hst,hpend⟩:=hs.objs o _ hlk
 have hll:l0=l:=by rw [hl] at hp0;simpa using hp0.symm
 subst hll
 have hlen:=VRt.length _ _ hxs
 refine⟨L,hL,by rw [hpar];simpa using hpl.trans hlen,?_⟩
 obtain⟨nta,hnta,hoka⟩:=hoa
 obtain⟨ntb,hntb,hokb⟩:=hob
 obtain⟨z1,z2⟩:=yj9 ps args xs e L.tmps hpl hxs henv hplt
 rw [hpar]
 refine roundIn_of_wpIn (F:=Fence.wide) trivial ?_
 -- the left sides
 refine z63 hF (zyw hF) hmx (some l0) nta ⟨lv,nx⟩ 0 a L.assign _ _ .normal e1 m1 hoka heva s {tmps:=(ps.toArray.zip xs.toArray).foldl (fun tmps (t,a)=>tmps.setIfInBounds t a) L.tmps,defers:=[]} hs rfl z1 (by rw [z2];exact hnta) (Nat.zero_le _) (zgi.nil _ _) _ fun s1 A1 q1 q2 q3 q4 q5 q6=> ?_
 subst q3
 obtain⟨o1,ho1,ht1⟩:=q2.objs o _ trivial hlk
 rw [hlk1] at ho1
 obtain rfl:=Option.some.inj ho1
 have hp1:s1.φ o= .pointer (some ⟨l0,0,none⟩):=(show s1.φ o=s.φ o from ht1.1).trans hl
 obtain⟨l1,L1,hpl1,hL1,hpar1,hplt1,henv1,hoa1,hob1,hst1,hpend1⟩:=q1.objs o _ hlk1
 have hll1:l1=l0:=by rw [hp1] at hpl1;simpa using hpl1.symm
 subst hll1
 have hlt1:l1<s1.w.heap.size:=(Array.getElem?_eq_some_iff.1 hL1).1
 obtain⟨kB1,kB2⟩:=zvd q1 o _ (.loop e' ps' a' b' lv' true false j') hlk1 (by simp) l1 _ hp1 rfl _ (.loop {L1 with state:= .busy}) hL1 rfl rfl ⟨rfl,rfl,rfl,rfl,rfl⟩
  (fun hE=>⟨l1,{L1 with state:= .busy},rfl,by simp [hlt1],hpar1,hplt1,zdc.ext hE (fun _ _ _=>trivial) henv1,hoa1,hob1,rfl,hpend1⟩)
 have hready:L1.state= .ready:=hst1
 refine⟨{s1.w with heap:=s1.w.heap.setIfInBounds l1 (.loop {L1 with state:= .busy})},by simp [Instr.beginRound,Instr.getLoop,getObj,setObj,Sem.run,hL1,hready],?_⟩
 -- the body
 refine z63 hF (zyw hF) hmx (some l1) ntb ⟨lv,nx⟩ 0 b L.body e1 _ x ex m2 hokb hevb _ A1 kB1 rfl (zdc.ext kB2 (fun _ _ _=>trivial) q4) (by rw [q5];show ntb<=Array.size _;rw [z2];exact hntb) (Nat.zero_le _) (zgi.ext kB2 q6) _ fun s2 A2 r1 r2 r3 r4 r5 r6=> ?_
 subst r3
 obtain⟨o2,ho2,ht2⟩:=r2.objs o _ trivial (zbj _ _ _)
 rw [hlk2] at ho2
 obtain rfl:=Option.some.inj ho2
 have hp2:s2.φ o= .pointer (some ⟨l1,0,none⟩):=by
  have:s2.φ o=_:=ht2.1
  rw [this];simp
 obtain⟨l2,L2,hpl2,hL2,hpar2,hplt2,henv2,hoa2,hob2,hst2,hpend2⟩:=r1.objs o _ hlk2
 have hll2:l2=l1:=by rw [hp2] at hpl2;simpa using hpl2.symm
 subst hll2
 have hlt2:l2<s2.w.heap.size:=(Array.getElem?_eq_some_iff.1 hL2).1
 have hE2:Ext (fun _=>True) s s2:=Ext.trans q2 (Ext.trans kB2 r2 (fun _ _=>trivial)) (fun _ _=>trivial)
 -- the end of the round
 have fin:∀(ov:Bool) (jj:Option yf7),(if jj.isNone then LoopState.ready else .done)=yb8 false ov->
   ∃s3:S,Sim (zq6 P gl) gl s3/\Ext (fun _=>True) s s3/\s3.m=upd s2.m o (.loop e3 ps3 a3 b3 lv3 false ov jj)/\(Instr.endRound l2 (jj.map zrl)).run P s2.w= .ok (.bool jj.isNone) s3.w:=by
  intro ov jj hss
  obtain⟨k1,k2⟩:=zvd r1 o _ (.loop e3 ps3 a3 b3 lv3 false ov jj) hlk2 (by simp) l2 _ hp2 rfl _ (.loop {L2 with state:=(if jj.isNone then LoopState.ready else .done),pending:=jj.map zrl}) hL2 rfl rfl ⟨rfl,rfl,rfl,rfl,rfl⟩
   (fun hE=>⟨l2,{L2 with state:=(if jj.isNone then LoopState.ready else .done),pending:=jj.map zrl},rfl,by simp [hlt2],hpar2,hplt2,zdc.ext hE (fun _ _ _=>trivial) henv2,hoa2,hob2,hss,rfl⟩)
  refine⟨_,k1,Ext.trans hE2 k2 (fun _ _=>trivial),rfl,?_⟩
  cases jj<;>simp [Instr.endRound,Instr.getLoop,getObj,setObj,Sem.run,hL2]
 cases x with
 | normal=>
  simp only [Option.some.injEq,Res.val.injEq] at h
  obtain⟨rfl,rfl⟩:=h
  obtain⟨s3,k1,k2,k3,k4⟩:=fin false none rfl
  obtain⟨g1,g2⟩:=ynz k1 (znr s.m) []
  refine⟨.bool true,s3.w,k4,⟨s3.φ,gc (znr s.m) [] s3.m,s3.w,s3.Im⟩,.bool true,rfl,rfl,g1,?_,by rw [k3],rfl⟩
  refine Ext.of_look (Ext.trans (Ext.mono k2 (fun _ _=>trivial)) g2 fun i hi=> .inl ?_)
  cases ho:look s.m i with
  | none=>exact absurd ho hi
  | some o=>exact zot _ i o ho
 | exit id=>
  simp only [Option.some.injEq,Res.val.injEq] at h
  obtain⟨rfl,rfl⟩:=h
  obtain⟨s3,k1,k2,k3,k4⟩:=fin true (some (.exit id)) rfl
  exact⟨.bool false,s3.w,k4,s3,.bool false,rfl,rfl,k1,k2,k3,rfl⟩
 | ret=>
  simp only [Option.some.injEq,Res.val.injEq] at h
  obtain⟨rfl,rfl⟩:=h
  obtain⟨s3,k1,k2,k3,k4⟩:=fin true (some .ret) rfl
  exact⟨.bool false,s3.w,k4,s3,.bool false,rfl,rfl,k1,k2,k3,rfl⟩
theorem z8p {Γ:Nat->Option CF} {X:Extern} (hmx:P.follows .mixedOrders=true) (hX:ExternOk P gl X) (hΓ:CodeOk P gl Γ):∀n,ypd P gl (iter Γ X n)
 | 0=>⟨⟨fun _ _ _ _ _ _ h=>by simp [iter] at h,fun _ _ _ _ _ _ h=>by simp [iter] at h⟩,fun _ _ _ _ _ _ _ _ _ h=>by simp [iter] at h⟩
 | n+1=>
  have hF:=z8p hmx hX hΓ n
  ⟨⟨yjr hF hmx hX hΓ,yfq hF hmx⟩,yjs hF hmx⟩
theorem z5t {Γ:Nat->Option CF} {X:Extern} (hmx:P.follows .mixedOrders=true) (hX:ExternOk P gl X) (hΓ:CodeOk P gl Γ) {n f:Nat} {args:List V} {v:V} {m':Mem} (h:iter Γ X n (.call 0 f args [])=some (.val v m'))
  {s:S} (hs:Sim (zq6 P gl) gl s) (hm:s.m=[]) {xs:List Value} (hxs:VRt s args xs):Calls P f xs.toArray s.w (zt0 (zq6 P gl) gl s v m'):=
 callsIn_wide.1 (((z8p hmx hX hΓ n).good.call _ _ _ _ _ _ h).2 s hs hm xs hxs)
end
end Go.Evl
