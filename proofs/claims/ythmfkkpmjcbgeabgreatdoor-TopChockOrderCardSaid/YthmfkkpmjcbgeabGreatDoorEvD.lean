
/-
 The evaluator is sound, third part: regions, code, activations, rounds.
-/
import Derived.Test.YthmfkkpmjcbgeabGreatDoorEvC
import Derived.RangeFuncLeaves
import Derived.OrdersIn
import Derived.LoopNIn
import Derived.Scope
namespace Go.Evl
open Go.RowKit
section
variable {P : Program} {oc : zfd} {gl : Globs}
def z44 (lo:Nat) (s1:S) (b j:Nat):Prop:=
 s1.Im b j\/∃i wr t sz n xs,lo<=i.lv/\look s1.m i=some (.row wr t sz n xs)/\blk (s1.φ i)=some b/\j<n*sz
theorem yo9 {lo:Nat} {s1:S} (hs:Sim oc gl s1) {i:Id} {wr:Bool} {t sz n:Nat} {xs:List D} (hlo:lo<=i.lv) (hl:look s1.m i=some (.row wr t sz n xs)) {off len top:Nat} {x:Value}
  (h2:n=top) (h3:off+len<=n) (hv:VR s1 (.ref i off len top) x):
  DR s1.w (z44 lo s1) (.list len (if off=0/\len=n then xs else win xs (off*sz) (len*sz))) x:=by
 obtain⟨hz,ys,hown,hdr,him⟩:=hs.objs i _ hl
 let s2:S:=⟨s1.φ,[(i,.row false t sz n xs)],s1.w,z44 lo s1⟩
 have hl2:look s2.m i=some (.row false t sz n xs):=by simp [s2,look]
 have hs2:Sim oc gl s2:=by
  refine⟨fun k o hk=> ?_,fun a b o o' c hab ha hb _ _ _=> ?_,fun b j h=> ?_,fun g cs hg=>CR.ext (fun _ _ h=> .inl h) (fun _ _ _=>rfl) g 0 cs (hs.glob g cs hg),fun g cs hg=> ?_⟩
  ·have hk1:(if i=k then some (Ob.row false t sz n xs) else none)=some o:=hk
   clear hk
   split at hk1
   ·rename_i e;subst e
    obtain rfl:=Option.some.inj hk1
    refine⟨hz,ys,hown,DRs.ext (fun _ _ h=> .inl h) (fun _ _ _=>rfl) xs ys hdr,fun b hb j=>⟨fun h=>⟨rfl,?_⟩,fun h=> .inr ⟨i,wr,t,sz,n,xs,hlo,hl,z6m _ _ hb,h.2⟩⟩⟩
    rcases h with h|⟨k,wr',t',sz',n',xs',_,hk',hb',hj⟩
    ·exact((him b hb j).1 h).2
    ·by_cases e:k=i
     ·subst e
      rw [hl] at hk'
      simp only [Option.some.injEq,Ob.row.injEq] at hk'
      obtain⟨_,_,rfl,rfl,_⟩:=hk'
      exact hj
     ·exact absurd (z6m _ _ hb) (hs.apart k i _ _ b e hk' hl (by simp) (by simp) hb')
   ·cases hk1
  ·have ha1:(if i=a then some (Ob.row false t sz n xs) else none)=some o:=ha
   have hb1:(if i=b then some (Ob.row false t sz n xs) else none)=some o':=hb
   clear ha hb
   split at ha1
   ·split at hb1
    ·rename_i e1 e2;exact absurd (e1.symm.trans e2) hab
    ·cases hb1
   ·cases ha1
  ·rcases h with h|⟨k,wr',t',sz',n',xs',_,hk',hb',hj⟩
   ·exact hs.imlt b j h
   ·exact(hs.objs k _ hk').blk_lt (by simp) hb'
  ·obtain⟨h1,h2⟩:=hs.tabs g cs hg
   refine⟨fun a o ha hgo=> ?_,h2⟩
   have ha1:(if i=a then some (Ob.row false t sz n xs) else none)=some o:=ha
   split at ha1
   ·rename_i e;subst e;exact h1 i _ hl (by simp)
   ·cases ha1
 have hv2:VR s2 (.ref i off len top) x:=by
  refine⟨hv.1,?_⟩
  have:=hv.2
  rw [hl] at this
  rw [hl2]
  exact this
 exact z5b hs2 hl2 rfl h2 h3 hv2
mutual
theorem yci {lo:Nat} {s1:S} (hs:Sim oc gl s1):∀(v:V) (d:D) (x:Value),(∀i∈ids v,lo<=i.lv)->freeze true s1.m v=some d->VR s1 v x->DR s1.w (z44 lo s1) d x
 | .d y,d,x,_,h,hv=>by
  simp only [freeze,Option.some.injEq] at h;subst h
  exact DR.ext (fun _ _ h=> .inl h) (fun _ _ _=>rfl) _ _ hv
 | .agg cs,d,x,hk,h,hv=>by
  simp only [freeze,Option.map_eq_some_iff] at h
  obtain⟨ds,h1,rfl⟩:=h
  obtain⟨xs,rfl,hv⟩:=hv
  exact⟨xs,rfl,yfb hs cs ds _ (by simpa only [ids] using hk) h1 hv⟩
 | .ref i off len top,d,x,hk,h,hv=>by
  simp only [freeze] at h
  split at h
  ·rename_i wr t sz n xs hl
   split at h
   ·rename_i hc
    obtain⟨h1,h2,h3⟩:=hc
    obtain rfl:=Option.some.inj h
    exact yo9 hs (hk i (by simp [ids])) hl h2 h3 hv
   ·cases h
  ·cases h
 | .tup _,_,_,_,h,_=>by simp [freeze] at h
 | .ptr ..,_,_,_,h,_=>by simp [freeze] at h
 | .lptr ..,_,_,_,h,_=>by simp [freeze] at h
 | .fn f [] [],d,x,_,h,hv=>by
  simp only [freeze,Option.some.injEq] at h;subst h
  exact yqs hv
 | .fn _ (_::_) _,_,_,_,h,_=>by simp [freeze] at h
 | .fn _ [] (_::_),_,_,_,h,_=>by simp [freeze] at h
 | .yld _,_,_,_,h,_=>by simp [freeze] at h
 | .mp _,_,_,_,h,_=>by simp [freeze] at h
 | .it _,_,_,_,h,_=>by simp [freeze] at h
 | .skip,_,_,_,h,_=>by simp [freeze] at h
 | .undef,_,_,_,h,_=>by simp [freeze] at h
theorem yfb {lo:Nat} {s1:S} (hs:Sim oc gl s1):∀(cs:List V) (ds:List D) (xs:List Value),(∀i∈idsL cs,lo<=i.lv)->zen true s1.m cs=some ds->VRs s1 cs xs->DRs s1.w (z44 lo s1) ds xs
 | [],ds,xs,_,h,hv=>by simp only [zen,Option.some.injEq] at h;subst h;exact hv
 | v::r,ds,xs,hk,h,hv=>by
  obtain⟨x,ys,rfl,h1,h2,h3⟩:=hv
  simp only [zen] at h
  split at h
  ·rename_i d ds' e1 e2
   obtain rfl:=Option.some.inj h
   exact⟨x,ys,rfl,h1,yci hs v d x (fun i hi=>hk i (by simp [idsL,hi])) e1 h2,yfb hs r ds' ys (fun i hi=>hk i (by simp [idsL,hi])) e2 h3⟩
  ·cases h
end
theorem yef {lo:Nat} {s1 s':S} (hs:Sim oc gl s1) (hw:s'.w=s1.w) (him:s'.Im=z44 lo s1):∀(cs:List V) (ds:List D) (xs:List Value),(∀i∈idsL cs,lo<=i.lv)->zen true s1.m cs=some ds->VRt s1 cs xs->VRt s' (asV ds) xs
 | [],ds,xs,_,h,hv=>by simp only [zen,Option.some.injEq] at h;subst h;exact hv
 | v::r,ds,xs,hk,h,hv=>by
  obtain⟨x,ys,rfl,h2,h3⟩:=hv
  simp only [zen] at h
  split at h
  ·rename_i d ds' e1 e2
   obtain rfl:=Option.some.inj h
   refine⟨x,ys,rfl,?_,yef hs hw him r ds' ys (fun i hi=>hk i (by simp [idsL,hi])) e2 h3⟩
   have:=yci hs v d x (fun i hi=>hk i (by simp [idsL,hi])) e1 h2
   show DR s'.w s'.Im d x
   rw [hw,him];exact this
  ·cases h
theorem yje {lo:Nat} {s s1 sB:S} (hB:yxe oc gl lo s s1 sB) {cx:Cx} {slot:Nat} {imm:Bool} {v v':V} {m':Mem} {x:Value} (h:zrb cx slot lo imm sB.m s1.m v=some (v',m')) (hv:VR s1 v x):
  ∃s',s'.w=s1.w/\Sim oc gl s'/\Ext (fun _=>True) s s'/\s'.m=m'/\VR s' v' x:=by
 unfold zrb at h
 split at h
 ·split at h<;>try cases h
  rename_i hids
  simp only [List.all_eq_true,decide_eq_true_eq] at hids
  simp only [Option.map_eq_some_iff,Prod.mk.injEq] at h
  obtain⟨y,hth,rfl,rfl⟩:=h
  let s':S:=⟨sB.φ,sB.m,s1.w,z44 lo s1⟩
  have h0:yir (fun _=>True) sB s':=⟨fun b j h=> .inl (by rw [hB.im] at h;exact h),fun b j _=>by rw [hB.w],fun i o _ ho=>⟨o,ho,zcs.refl _ _⟩⟩
  have hE:=hB.ext
  have hw:s'.w=sB.w:=hB.w.symm
  refine⟨s',rfl,⟨fun i o hi=> ?_,hB.sim.apart,fun b j h=> ?_,fun g cs hg=>CR.ext (fun _ _ h=> .inl h) (fun _ _ _=>rfl) g 0 cs (hB.sim1.glob g cs hg),fun g cs hg=>⟨(hB.sim.tabs g cs hg).1,(hB.sim1.tabs g cs hg).2⟩⟩,⟨by rw [hw];exact hE.os,by rw [hw];exact hE.tape,by rw [hw];exact hE.output,by rw [hw];exact hE.size,fun b hb hf=> ?_,fun b j h=> ?_,fun b j h=> .inl (by have:=hE.im b j h;rw [hB.im] at this;exact this),
   fun b j h=>by rw [hw];exact hE.keep b j h,hE.objs⟩,rfl,?_⟩
  ·by_cases hg:o= .gone
   ·subst hg;trivial
   refine ObR.ext0 h0 (fun _ _=>trivial) (fun b hb=>⟨by rw [hB.w],fun j h=> ?_⟩) (hB.sim.objs i o hi)
   rcases h with h|⟨k,wr',t',sz',n',xs',hlo,hk',hb',_⟩
   ·rw [hB.im];exact h
   ·exact absurd hb ((hB.new k _ b hk' (by simp) hlo hb').2 i o hi hg)
  ·rcases h with h|⟨k,wr',t',sz',n',xs',_,hk',hb',hj⟩
   ·exact hB.sim1.imlt b j h
   ·exact(hB.sim1.objs k _ hk').blk_lt (by simp) hb'
  ·obtain⟨h1,h2⟩:=hE.frame b hb hf
   exact⟨by rw [hw];exact h1,h2⟩
  ·rcases h with h|⟨k,wr',t',sz',n',xs',hlo,hk',hb',_⟩
   ·exact hE.imnew b j (by rw [hB.im];exact h)
   ·exact .inr ((hB.new k _ b hk' (by simp) hlo hb').1)
  ·unfold ybb at hth
   split at hth
   ·rename_i vs
    simp only [Option.map_eq_some_iff] at hth
    obtain⟨ds,h1,rfl⟩:=hth
    obtain⟨xs,rfl,hv⟩:=hv
    exact⟨xs,rfl,yef (s':=s') hB.sim1 rfl rfl vs ds _ (by simpa only [ids] using hids) h1 hv⟩
   ·simp only [Option.map_eq_some_iff] at hth
    obtain⟨d,h1,rfl⟩:=hth
    exact yci hB.sim1 v d x hids h1 hv
 ·exact ymf hB h hv
theorem ylx {s s1:S} (hs:Sim oc gl s) (h1:Sim oc gl s1) (hE:Ext (fun _=>True) ⟨s.φ,[],s.w,s.Im⟩ s1):yxe oc gl 0 s s1 ⟨s.φ,s.m,s1.w,s1.Im⟩:=by
 have free0:∀b,ymn ⟨s.φ,[],s.w,s.Im⟩ b:=fun b i o hi _=>by simp [look] at hi
 have hE':Ext (fun _=>True) s ⟨s.φ,s.m,s1.w,s1.Im⟩:=
  ⟨hE.os,hE.tape,hE.output,hE.size,fun b hb hf=>⟨(hE.frame b hb (free0 b)).1,hf⟩,fun b j h=>by
   rcases hE.imnew b j h with h|h|h
   ·exact .inl h
   ·exact .inr (.inl h)
   ·exact absurd (free0 b) h,hE.im,hE.keep,fun i o _ ho=>⟨o,ho,zcs.refl _ _⟩⟩
 refine⟨h1,⟨fun i o hi=> ?_,hs.apart,h1.imlt,h1.glob,hs.tabs.ext hE'⟩,hE',rfl,rfl,fun i o b hi hg _ hb=> ?_,fun i h=>absurd h (Nat.not_lt_zero _)⟩
 ·by_cases hg:o= .gone
  ·subst hg;trivial
  refine ObR.ext hE' (fun b hb=> ?_) (hs.objs i o hi)
  have hlt:=(hs.objs i o hi).blk_lt hg hb
  refine⟨(hE.frame b hlt (free0 b)).1,fun j h=> ?_⟩
  rcases hE.imnew b j h with h|h|h
  ·exact h
  ·have h:s.w.heap.size<=b:=h
   omega
  ·exact absurd (free0 b) h
 ·have hge:s.w.heap.size<=b:=by
   rcases Nat.lt_or_ge b s.w.heap.size with hlt|hge
   ·exact absurd hb ((hE.frame b hlt (free0 b)).2 i o hi hg)
   ·exact hge
  refine⟨.inl hge,fun j o' hj hg' hb'=> ?_⟩
  have:=(hs.objs j o' hj).blk_lt hg' hb'
  omega
theorem z2y {nx:Nat} {s s1:S} (h1:Sim oc gl s1) (hE:Ext (fun _=>True) s s1) (hlow:zmj nx (keys s.m)=true) (hids:zmj nx (zhm (zgp nx s1.m))=true):
  yxe oc gl nx s s1 ⟨s1.φ,zgp nx s1.m,s1.w,s1.Im⟩:=by
 simp only [zmj,List.all_eq_true,decide_eq_true_eq] at hlow hids
 obtain⟨k1,k2⟩:=h1.sub (fun i=>decide (i.lv<nx)) (fun i hi=>by simpa using hids i hi)
 have hkey:∀i o,look s.m i=some o->i.lv<nx:=by
  have:∀(m:Mem) i o,look m i=some o->i∈keys m:=by
   intro m
   induction m with
   | nil=>intro i o h;simp [look] at h
   | cons p r ih=>
    intro i o h
    obtain⟨j,y⟩:=p
    simp only [look] at h
    split at h
    ·rename_i e;subst e;simp [keys]
    ·have:=ih i o h
     simp only [keys,List.map_cons,List.mem_cons]
     exact .inr this
  exact fun i o h=>hlow i (this _ i o h)
 refine⟨h1,k1,?_,rfl,rfl,fun i o b hi hg hlo hb=>⟨?_,fun j o' hj hg' hb'=> ?_⟩,fun i h=>⟨?_,rfl⟩⟩
 ·refine Ext.of_look (Ext.trans (Ext.mono hE (fun _ _=>trivial)) k2 fun i hi=> ?_)
  cases ho:look s.m i with
  | none=>exact absurd ho hi
  | some o=>simpa using hkey i o ho
 ·rcases Nat.lt_or_ge b s.w.heap.size with hlt|hge
  ·exact .inr fun hf=>(hE.frame b hlt hf).2 i o hi hg hb
  ·exact .inl hge
 ·have hj:look (s1.m.filter fun q=>decide (q.1.lv<nx)) j=some o':=hj
  rw [zlt (fun i=>decide (i.lv<nx))] at hj
  split at hj
  ·rename_i hjl
   simp only [decide_eq_true_eq] at hjl
   refine h1.apart j i o' o b (fun e=> ?_) hj hi hg' hg hb' hb
   subst e;omega
  ·cases hj
 ·show look (s1.m.filter fun q=>decide (q.1.lv<nx)) i=_
  rw [zlt (fun i=>decide (i.lv<nx))]
  simp [h]
end
end Go.Evl
namespace Go.Evl
open Go.RowKit
section
variable {P : Program} {oc : zfd} {gl : Globs}
def Enters (P:Program) (f:Nat):Prop:=∃fn,P.funcs[f]? =some fn/\fn.name≠ "runtime.NumGoroutine" /\fn.body≠none
def zvj (oc:zfd) (gl:Globs) (s:S) (v:V) (m':Mem):Ending->World->Prop:=
 fun e w'=>∃s' x,e= .returned x/\s'.w=w'/\Sim oc gl s'/\Ext (fun _=>True) s s'/\s'.m=m'/\VR s' v x
def z7w (P:Program) (oc:zfd) (gl:Globs) (F:Oracle):Prop:=
 ∀lv f args m v m',F (.call lv f args m)=some (.val v m')->Enters P f/\
  ∀s,Sim oc gl s->s.m=m->∀xs:List Value,VRt s args xs->CallsIn Fence.wide 0 P f xs.toArray s.w (zvj oc gl s v m')
def yym (ps:List Nat) (xs:List Value) (tmps:Array Value):Array Value:=(ps.toArray.zip xs.toArray).foldl (fun tmps (t,a)=>tmps.setIfInBounds t a) tmps
def z1a (P:Program) (oc:zfd) (gl:Globs) (F:Oracle):Prop:=
 ∀nx o args m v m',F (.round nx o args m)=some (.val v m')->(∃e ps a b lv bu ov j,look m o=some (.loop e ps a b lv bu ov j))/\
  ∀s,Sim oc gl s->s.m=m->∀xs:List Value,VRt s args xs->∀l,s.φ o= .pointer (some ⟨l,0,none⟩)->∃L,s.w.heap[l]? =some (.loop L)/\L.params.size=xs.length/\
   RoundIn Fence.wide 0 P l L.fn ((L.params.zip xs.toArray).foldl (fun tmps (t,a)=>tmps.setIfInBounds t a) L.tmps) L.assign L.body s.w (zvj oc gl s v m')
theorem VRt.length {s:S}:∀(cs:List V) (xs:List Value),VRt s cs xs->cs.length=xs.length
 | [],_,h=>by simp only [VRt] at h;subst h;rfl
 | _::r,_,⟨x,ys,h1,_,h4⟩=>by subst h1;simp [VRt.length r ys h4]
theorem VRt.append {s:S}:∀(a:List V) (x:List Value) (b:List V) (y:List Value),VRt s a x->VRt s b y->VRt s (a++b) (x++y)
 | [],_,b,y,h,k=>by simp only [VRt] at h;subst h;exact k
 | _::r,_,b,y,⟨x,ys,h1,h3,h4⟩,k=>by subst h1;exact⟨x,ys++y,rfl,h3,VRt.append r ys b y h4 k⟩
theorem yjo {s s':S} (hs:Sim oc gl s) (hw:s'.w=s.w) (him:s'.Im=s.Im):∀(cs:List V) (ds:List D) (xs:List Value),zen false s.m cs=some ds->VRt s cs xs->VRt s' (asV ds) xs
 | [],ds,xs,h,hv=>by simp only [zen,Option.some.injEq] at h;subst h;exact hv
 | v::r,ds,xs,h,hv=>by
  obtain⟨x,ys,rfl,h2,h3⟩:=hv
  simp only [zen] at h
  split at h
  ·rename_i d ds' e1 e2
   obtain rfl:=Option.some.inj h
   refine⟨x,ys,rfl,?_,yjo hs hw him r ds' ys e2 h3⟩
   have:=zuk hs v d x e1 h2
   show DR s'.w s'.Im d x
   rw [hw,him];exact this
  ·cases h
def z9y (gl:Globs) (o:Oper) (f:Opd) (args:List Opd):Bool:=
 match o.op with
 | .call c=>
  match c.callee with
  | .value g=>okX gl g f&&ymo gl c.args.toList args
  | _=>false
 | _=>false
theorem zxj {f:Nat} {args:Array Value} {w:World} (h:Enters P f):(callFunc f args).run P w= .ok (.enter f args) w:=by
 obtain⟨fn,h1,h2,h3⟩:=h
 simp [callFunc,run_program,h1,h2,h3]
theorem yji {s:S} (hs:Sim oc gl s):Sim oc gl ⟨s.φ,[],s.w,s.Im⟩:=
 ⟨fun i o h=>by simp [look] at h,fun i j o o' b _ h=>by simp [look] at h,hs.imlt,hs.glob,fun g cs hg=>⟨fun i o h=>by simp [look] at h,(hs.tabs g cs hg).2⟩⟩
theorem zv1 {F:Oracle} (hF:z7w P oc gl F) (hR:z1a P oc gl F) {s:S} {A:Act} {o:Oper} {e:Env} (hs:Sim oc gl s) (he:zfb s e A.tmps) (r:Option Nat) (cx:Cx) (slot:Nat) {shared imm:Bool} {f:Opd} {args:List Opd} {v:V} {m':Mem}
  (ok:z9y gl o f args=true) (h:zpc F cx slot shared imm (yat (f.ev e)) (evs e args) s.m=some (v,m')):yxy P oc gl r s A o v m':=by
 unfold z9y at ok
 split at ok<;>try cases ok
 rename_i c ho
 split at ok<;>try cases ok
 rename_i g hc
 simp only [Bool.and_eq_true] at ok
 have hf:=zbu hs he ok.1
 have hargs:=z08 hs he _ _ ok.2
 replace hf:=yi9 hf
 generalize yat (f.ev e)=vf at hf h
 generalize evs e args=vs at hargs h
 intro next Q hn
 refine⟨fun _ _=>trivial,?_⟩
 rw [Oper.semAt_eq _ _ _ (fun c' hc'=>by rw [ho] at hc';cases hc')]
 have hmap:(c.args.map A.eval).toList=c.args.toList.map A.eval:=by simp
 -- how a function is entered
 have enter:∀(fid:Nat) (xs ys:Array Value) (R:Ending->World->Prop),A.eval g= .func (.func fid) xs ys->Enters P fid->CallsIn Fence.wide 0 P fid (xs.toList++(c.args.toList.map A.eval)++ys.toList).toArray s.w R->
   (∀e' w',R e' w'->∃x,e'= .returned x/\next (A.put o.dst x) w')->o.uponIn (fen r) 0 P A next Q ((execOp A.eval o).run P s.w):=by
  intro fid xs ys R hg hen hcall hnext
  have hrun:(execOp A.eval o).run P s.w= .ok (.enter fid (xs++c.args.map A.eval++ys)) s.w:=by
   simp [execOp,ho,Go.resolve,hc,hg,Deferred.ofValue,invoke,zxj hen]
  rw [hrun]
  refine⟨fun h=>by simp [fen] at h,?_⟩
  have harr:(xs.toList++(c.args.toList.map A.eval)++ys.toList).toArray=xs++c.args.map A.eval++ys:=by
   apply Array.ext';simp
  rw [harr] at hcall
  exact CallsIn.mono (F:=fen r) (n:=0) hcall fun e' w' hr=>by
   obtain⟨x,rfl,hx⟩:=hnext e' w' hr
   exact hx
 unfold zpc at h
 split at h
 ·split at h<;>try cases h
  rename_i hlow
  split at h<;>try cases h
  rename_i v1 m1 hsh
  split at h<;>try cases h
  rename_i hids
  have back:∀e' w',zvj oc gl s v1 m1 e' w'->∃x,e'= .returned x/\next (A.put o.dst x) w':=by
   rintro e' w' ⟨s1,x,rfl,rfl,k1,k2,rfl,k4⟩
   obtain⟨s',hw',q1,q2,q3,q4⟩:=yje (z2y k1 k2 hlow hids) h k4
   exact⟨x,rfl,hw'▸hn s' x q1 q2 q3 q4⟩
  unfold zhh at hsh
  split at hsh
  ·rename_i fid first caps
   split at hsh<;>try cases hsh
   rename_i v2 m2 hcall
   obtain⟨xs,ys,hg,hx,hy⟩:=hf
   obtain⟨hen,hgo⟩:=hF _ _ _ _ _ _ hcall
   exact enter fid xs ys _ hg hen (hgo s hs rfl _ (VRt.append _ _ _ _ (VRt.append _ _ _ _ hx hargs) hy)) back
  ·rename_i i
   split at hsh<;>try cases hsh
   rename_i v2 m2 hround
   obtain⟨⟨e1,ps,ca,cb,lv,bu,ov,j,hlo⟩,hgo⟩:=hR _ _ _ _ _ _ hround
   obtain⟨_,hy⟩:=hf
   rw [hlo] at hy
   obtain⟨l,hp,hg⟩:=hy
   obtain⟨L,hL,hsz,hgo⟩:=hgo s hs rfl _ hargs l hp
   have harr:(c.args.toList.map A.eval).toArray=c.args.map A.eval:=by apply Array.ext';simp
   rw [harr] at hgo
   have hsz':c.args.size=L.params.size:=by simpa using hsz.symm
   have hrun:(execOp A.eval o).run P s.w= .ok (.round l L.fn ((L.params.zip (c.args.map A.eval)).foldl (fun tmps (t,a)=>tmps.setIfInBounds t a) L.tmps) L.assign L.body) s.w:=by
    simp [execOp,ho,Go.resolve,hc,hg,Deferred.ofValue,invoke,Instr.yield,Instr.getLoop,getObj,Sem.run,hL,hsz']
   rw [hrun]
   refine⟨fun h=>by simp [fen] at h,?_⟩
   exact RoundIn.mono (F:=fen r) (n:=0) hgo fun e' w' hr=>by
    obtain⟨x,rfl,hx⟩:=back e' w' hr
    exact hx
  ·cases hsh
 ·split at h<;>try cases h
  rename_i fid first caps
  split at h<;>try cases h
  rename_i ds hfr
  split at h<;>try cases h
  rename_i v1 m1 hcall
  obtain⟨xs,ys,hg,hx,hy⟩:=hf
  obtain⟨hen,hgo⟩:=hF _ _ _ _ _ _ hcall
  have hv0:=yjo (s':=⟨s.φ,[],s.w,s.Im⟩) hs rfl rfl _ _ _ hfr (VRt.append _ _ _ _ (VRt.append _ _ _ _ hx hargs) hy)
  refine enter fid xs ys _ hg hen (hgo ⟨s.φ,[],s.w,s.Im⟩ (yji hs) rfl _ hv0) ?_
  rintro e' w' ⟨s1,x,rfl,rfl,k1,k2,rfl,k4⟩
  obtain⟨s',hw',q1,q2,q3,q4⟩:=yje (ylx hs k1 k2) h k4
  exact⟨x,rfl,hw'▸hn s' x q1 q2 q3 q4⟩
end
end Go.Evl
namespace Go.Evl
open Go.RowKit
theorem z5q (F:Oracle) (cx:Cx) (o:CO) (r:List CO) (e:Env) (m:Mem):
  zpv F cx (o::r) e m=(match zfc F cx e m o with
   | some (v,m')=>zpv F cx r (put? e o.dst v) m'
   | none=>none):=rfl
section
variable {P : Program} {oc : zfd} {gl : Globs}
def yja (ops:Array Oper) (nt:Nat):Option (Nat×Bool)->Option (Nat×Bool)->Bool
 | none,none=>true
 | some (t,w),some (j,w')=>w==w'&&(ops[j]?).bind (·.dst)==some t&&decide (t<nt)
 | _,_=>false
def yvm (P:Program) (gl:Globs) (o:Oper):COp->Bool
 | .call _ _ f args=>z9y gl o f args
 | .callR _ f args _=>z9y gl o f args
 | .callD f args=>z9y gl o f args
 | .storeR n a x _=>ywo P gl o (.store n a x)
 | .mapSetR kk m k x _=>ywo P gl o (.mapSet kk m k x)
 | op=>ywo P gl o op
def yub (P:Program) (gl:Globs) (nt:Nat) (ops:Array Oper) (c:CO) (o:Oper):Bool:=
 c.dst==o.dst&&(match c.dst with|none=>true|some d=>decide (d<nt))&&yja ops nt c.guard o.guard&&
  yvm P gl o c.op
def zvi (P:Program) (gl:Globs) (nt:Nat) (ops:Array Oper):List CO->List Oper->Bool
 | [],[]=>true
 | c::r,o::q=>yub P gl nt ops c o&&zvi P gl nt ops r q
 | _,_=>false
structure Good (P:Program) (oc:zfd) (gl:Globs) (F:Oracle):Prop where
 call:z7w P oc gl F
 round:z1a P oc gl F
theorem ylp {F:Oracle} (hF:Good P oc gl F) {s:S} {A:Act} {o:Oper} {e:Env} (hs:Sim oc gl s) (he:zfb s e A.tmps) (r:Option Nat) (cx:Cx) (slot:Nat) {op:COp} {v:V} {m':Mem}
  (ok:yvm P gl o op=true) (h:zd2 F cx slot e s.m op=some (v,m')):yxy P oc gl r s A o v m':=by
 by_cases hc:∃a b f args,op= .call a b f args
 ·obtain⟨a,b,f,args,rfl⟩:=hc
  exact zv1 hF.call hF.round hs he r cx slot ok h
 by_cases hr:∃b f args rs,op= .callR b f args rs
 ·obtain⟨b,f,args,rs,rfl⟩:=hr
  simp only [zd2] at h
  split at h<;>try cases h
  rename_i v1 m1 hcall
  split at h<;>try cases h
  exact zv1 hF.call hF.round hs he r cx slot ok hcall
 by_cases hdd:∃f args,op= .callD f args
 ·obtain⟨f,args,rfl⟩:=hdd
  simp only [zd2] at h
  split at h<;>try cases h
  rename_i g hf
  split at h<;>try cases h
  rw [<-hf] at h
  exact zv1 hF.call hF.round hs he r cx slot ok h
 by_cases ht:∃n a x rs,op= .storeR n a x rs
 ·obtain⟨n,a,x,rs,rfl⟩:=ht
  simp only [zd2] at h
  split at h<;>try cases h
  exact yt9.ok (z6v hs he F cx slot (op:= .store n a x) ok h)
 by_cases hm:∃kk m k x rs,op= .mapSetR kk m k x rs
 ·obtain⟨kk,m,k,x,rs,rfl⟩:=hm
  simp only [zd2] at h
  split at h<;>try cases h
  exact yt9.ok (z6v hs he F cx slot (op:= .mapSet kk m k x) ok h)
 refine yt9.ok (z6v hs he F cx slot ?_ h)
 cases op<;>first |exact ok|exact absurd ⟨_,_,_,_,rfl⟩ hc|exact absurd ⟨_,_,_,_,rfl⟩ hr|exact absurd ⟨_,_,_,_,rfl⟩ ht|exact absurd ⟨_,_,_,_,_,rfl⟩ hm|exact absurd ⟨_,_,rfl⟩ hdd
theorem yfe {F:Oracle} (hF:Good P oc gl F) {s:S} {A:Act} {e:Env} (hs:Sim oc gl s) (he:zfb s e A.tmps) (r:Option Nat) (cx:Cx) {nt:Nat} (hnt:nt<=A.tmps.size) {ops:Array Oper} {i:Nat} {c:CO} {o:Oper} (hi:ops[i]? =some o) {v:V} {m':Mem}
  (ok:yub P gl nt ops c o=true) (h:zfc F cx e s.m c=some (v,m')) {K:Act->World->Prop} {Q:Exit->Act->World->Prop}
  (hK:∀s' x,Sim oc gl s'->Ext (fun _=>True) s s'->s'.m=m'->VR s' v x->K (A.put o.dst x) s'.w):wpOpIn (fen r) 0 P ops Q i K A s.w:=by
 simp only [yub,Bool.and_eq_true,beq_iff_eq] at ok
 obtain⟨⟨⟨hd,hdt⟩,hg⟩,hop⟩:=ok
 unfold wpOpIn
 simp only [hi]
 have go:zd2 F cx (c.dst.getD 0) e s.m c.op=some (v,m')->o.wpIn (fen r) 0 P A s.w K Q:=fun h=>ylp hF hs he r cx _ hop h K Q hK
 have skip:v= .skip->m'=s.m->(∀f,o.about P s.w A.eval=some f->(fen r).fn f)/\K (A.put o.dst undef) s.w:=by
  rintro rfl rfl
  exact⟨fun _ _=>trivial,hK s undef hs (Ext.refl _ _) rfl rfl⟩
 unfold zfc at h
 unfold yja at hg
 cases hcg:c.guard with
 | none=>
  rw [hcg] at h hg
  cases hog:o.guard with
  | none=>simp only [Region.wanted,hog,if_true];exact go h
  | some p=>rw [hog] at hg;cases hg
 | some p=>
  obtain⟨t,w⟩:=p
  rw [hcg] at h hg
  cases hog:o.guard with
  | none=>rw [hog] at hg;cases hg
  | some q=>
   obtain⟨j,w'⟩:=q
   rw [hog] at hg
   simp only [Bool.and_eq_true,beq_iff_eq,decide_eq_true_eq] at hg
   obtain⟨⟨rfl,hj⟩,ht⟩:=hg
   have hlt:t<A.tmps.size:=by omega
   have hval:=he t
   simp only at h
   split at h
   ·rename_i b hget
    rw [hget] at hval
    have hv:A.tmps.getD t undef= .bool b:=hval
    have hv2:A.tmps[t]? =some (.bool b):=by
     rw [Array.getD_eq_getD_getElem?] at hv
     simp [hlt] at hv ⊢;exact hv
    have hy:yielded ops A.tmps j=some b:=by
     simp only [yielded,hj,Option.bind_some,hv2]
    have hw:Region.wanted o (yielded ops A.tmps)=(b==w):=by
     simp only [Region.wanted,hog,hy];cases b<;>cases w<;>rfl
    rw [hw]
    split at h
    ·rename_i e;subst e
     simp only [beq_self_eq_true,if_true]
     exact go h
    ·rename_i e
     simp only [Option.some.injEq,Prod.mk.injEq] at h
     have:(b==w)=false:=by simpa using e
     simp only [this,Bool.false_eq_true,if_false]
     exact skip h.1.symm h.2.symm
   ·rename_i hget
    rw [hget] at hval
    have hv:A.tmps.getD t undef=undef:=hval
    have hy:yielded ops A.tmps j=none:=by
     simp only [yielded,hj,Option.bind_some]
     have:A.tmps[t]? =some undef:=by
      rw [Array.getD_eq_getD_getElem?] at hv
      simp [hlt] at hv ⊢;exact hv
     rw [this];rfl
    have hw:Region.wanted o (yielded ops A.tmps)=false:=by
     simp only [Region.wanted,hog,hy];rfl
    simp only [Option.some.injEq,Prod.mk.injEq] at h
    rw [hw]
    exact skip h.1.symm h.2.symm
   ·cases h
theorem yek (A:Act) (d:Option Nat) (x:Value):(A.put d x).tmps.size=A.tmps.size/\(A.put d x).defers=A.defers:=by
 cases d<;>simp [Act.put]
theorem z6q (A:Act) (d:Nat) (x:Value) (h:d<A.tmps.size) (t:Nat):(A.put (some d) x).tmps.getD t undef=if d=t then x else A.tmps.getD t undef:=by
 simp only [Act.put,Array.getD_eq_getD_getElem?,Array.getElem?_setIfInBounds]
 by_cases e:d=t
 ·subst e;simp [h]
 ·simp [e]
theorem yew {s:S} {e:Env} {A:Act} (he:zfb s e A.tmps) (d:Option Nat) (hd:∀t,d=some t->t<A.tmps.size) {v:V} {x:Value} (hv:VR s v x):zfb s (put? e d v) (A.put d x).tmps:=by
 cases d with
 | none=>exact he
 | some d=>
  intro t
  rw [z6q A d x (hd d rfl) t]
  show VR s (get (put e d v) t) _
  by_cases h:d=t
  ·subst h;rw [zmq];simpa using hv
  ·rw [zoa e d t v h];simpa [h] using he t
theorem z2t {s:S} {e:Env} {tmps:Array Value} (p:Nat×V->Bool) (hp:∀t v v',p (t,v)=p (t,v')) (he:zfb s e tmps):zfb s (e.filter p) tmps:=by
 intro t
 rcases z40 p hp e t with h|h
 ·rw [h];exact he t
 ·rw [h];trivial
theorem yfk (e:Env) (u:Nat):∀(live:List Nat),get (only live e) u=get e u\/get (only live e) u= .undef
 | []=> .inr rfl
 | t::r=>by
  by_cases h:t=u
  ·subst h;exact .inl (by simp [only,get])
  ·have:=yfk e u r
   simpa [only,get,h] using this
theorem z9q {s:S} {e:Env} {tmps:Array Value} (live:List Nat) (he:zfb s e tmps):zfb s (only live e) tmps:=by
 intro t
 rcases yfk e t live with h|h
 ·rw [h];exact he t
 ·rw [h];trivial
theorem yfr {nt:Nat} {ops:Array Oper} {c:CO} {o:Oper} (ok:yub P gl nt ops c o=true):c.dst=o.dst/\∀t,c.dst=some t->t<nt:=by
 simp only [yub,Bool.and_eq_true,beq_iff_eq] at ok
 refine⟨ok.1.1.1,fun t ht=> ?_⟩
 have:=ok.1.1.2
 rw [ht] at this
 simpa using this
theorem yli {F:Oracle} (hF:Good P oc gl F) (r:Option Nat) (cx:Cx) {nt:Nat} {ops:Array Oper} {Q:Exit->Act->World->Prop}:
  ∀(cos:List CO) (os:List Oper) (i:Nat) (e e':Env) (m':Mem) (s:S) (A:Act),(∀k,k<os.length->ops[i+k]? =os[k]?)->zvi P gl nt ops cos os=true->zpv F cx cos e s.m=some (e',m')->
   Sim oc gl s->zfb s e A.tmps->nt<=A.tmps.size->
   (∀s' A',Sim oc gl s'->Ext (fun _=>True) s s'->s'.m=m'->zfb s' e' A'.tmps->A'.tmps.size=A.tmps.size->A'.defers=A.defers->Q .normal A' s'.w)->
   wpOpsIn (fen r) 0 P ops Q (List.range' i os.length) A s.w
 | [],[],i,e,e',m',s,A,_,_,h,hs,he,hnt,hQ=>by
  simp only [zpv,Option.some.injEq,Prod.mk.injEq] at h
  obtain⟨rfl,rfl⟩:=h
  exact hQ s A hs (Ext.refl _ _) rfl he rfl rfl
 | [],_::_,_,_,_,_,_,_,_,ok,_,_,_,_,_=>by simp [zvi] at ok
 | _::_,[],_,_,_,_,_,_,_,ok,_,_,_,_,_=>by simp [zvi] at ok
 | c::cos,o::os,i,e,e',m',s,A,hops,ok,h,hs,he,hnt,hQ=>by
  simp only [zvi,Bool.and_eq_true] at ok
  rw [z5q] at h
  split at h<;>try cases h
  rename_i v m1 h1
  have hi:ops[i]? =some o:=by simpa using hops 0 (by simp)
  rw [List.length_cons,List.range'_succ,wpOpsIn_cons]
  obtain⟨hd,hdt⟩:=yfr ok.1
  refine yfe hF hs he r cx hnt hi ok.1 h1 fun s1 x k1 k2 k3 k4=> ?_
  have hsz:=yek A o.dst x
  subst k3
  refine yli hF r cx cos os (i+1) _ e' m' s1 (A.put o.dst x) (fun k hk=> ?_) ok.2 h k1 ?_ (by rw [hsz.1];exact hnt) fun s' A' q1 q2 q3 q4 q5 q6=> ?_
  ·have:=hops (k+1) (by simp;omega)
   rw [show i+1+k=i+(k+1) by omega,this]
   simp
  ·rw [hd]
   exact yew (zfb.ext k2 (fun _ _ _=>trivial) he) o.dst (fun t ht=>by have:=hdt t (hd.trans ht);omega) k4
  ·exact hQ s' A' q1 (Ext.trans k2 q2 (fun _ _=>trivial)) q3 q4 (q5.trans hsz.1) (q6.trans hsz.2)
end
end Go.Evl
namespace Go.Evl
open Go.RowKit
def tO:Opd->List Nat
 | .t n=>[n]
 | .k _=>[]
def tOs:List Opd->List Nat
 | []=>[]
 | x::r=>tO x++tOs r
def tP:List (Nat×Nat×Opd)->List Nat
 | []=>[]
 | (_,_,x)::r=>tO x++tP r
def tQ:Option Opd->List Nat
 | none=>[]
 | some x=>tO x
def reads:COp->List Nat
 | .mv x=>tO x
 | .ownNil _=>[]
 | .pick c a b=>tO c++(tO a++tO b)
 | .alloc .. =>[]
 | .box _ x=>tO x
 | .build _ ps=>tP ps
 | .mkList _ _ ps=>tOs ps
 | .mkRow _ _ ps=>tOs ps
 | .load _ a=>tO a
 | .store _ a x=>tO a++tO x
 | .nilCheck x=>tO x
 | .bin _ x y=>tO x++tO y
 | .eqv _ _ x y=>tO x++tO y
 | .un _ x=>tO x
 | .conv _ x=>tO x
 | .mkFunc _ a b=>tOs a++tOs b
 | .makeRow _ _ n=>tO n
 | .sliceS x lo hi=>tO x++(tQ lo++tQ hi)
 | .slice _ x lo hi mx=>tO x++(tQ lo++(tQ hi++tQ mx))
 | .fieldAddr _ x=>tO x
 | .field _ _ x=>tO x
 | .idxAddr _ x i=>tO x++tO i
 | .idxAddrA _ _ x i=>tO x++tO i
 | .idxS x i=>tO x++tO i
 | .idxA _ _ _ x i=>tO x++tO i
 | .mkMap=>[]
 | .lookup _ _ _ m k=>tO m++tO k
 | .mapSet _ m k x=>tO m++(tO k++tO x)
 | .rangeS x=>tO x
 | .nextS x=>tO x
 | .extract x _=>tO x
 | .call _ _ f args=>tO f++tOs args
 | .storeR _ a x rs=>tO a++(tO x++rs)
 | .callR _ f args rs=>tO f++(tOs args++rs)
 | .mapSetR _ m k x rs=>tO m++(tO k++(tO x++rs))
 | .appendIn _ a x=>tO a++tO x
 | .sliceZ _ x h m=>tO x++(tO h++tO m)
 | .loadD _ a=>tO a
 | .nilEq _ _ x=>tO x
 | .callD f args=>tO f++tOs args
 | .idxAddrD _ x i=>tO x++tO i
 | .len _ x=>tO x
 | .append _ a x=>tO a++tO x
 | .appendS _ a x=>tO a++tO x
 | .copy _ a x=>tO a++tO x
 | .minmax _ args=>tOs args
 | .clear _ x=>tO x
def zkx (c:CO):List Nat:=
 match c.guard with
 | none=>reads c.op
 | some (t,_)=>t::reads c.op
def ym4:List ygl->Bool
 | []=>true
 | .z _::r=>ym4 r
 | _=>false
theorem yc9 (cx:Cx) (slot:Nat):∀(l:List ygl) (m:Mem),ym4 l=true->(zbw cx slot l m).2=m/\∀m2,zbw cx slot l m2=((zbw cx slot l m).1,m2)
 | [],m,_=>⟨rfl,fun _=>rfl⟩
 | .z x::r,m,h=>by
  obtain⟨h1,h2⟩:=yc9 cx slot r m h
  exact⟨by simp [zbw,h1],fun m2=>by simp [zbw,h2 m2]⟩
 | .own _::_,_,h=>by simp [ym4] at h
def cls:COp->Nat
 | .mv _=>0
 | .pick .. =>0
 | .bin .. =>0
 | .eqv .. =>0
 | .un .. =>0
 | .conv .. =>0
 | .mkFunc .. =>0
 | .sliceS .. =>0
 | .field .. =>0
 | .idxS .. =>0
 | .idxA .. =>0
 | .extract .. =>0
 | .minmax .. =>0
 | .loadD .. =>0
 | .nilEq .. =>1
 | .callD .. =>0
 | .idxAddrD .. =>0
 | .build z _=>if ym4 z then 0 else 3
 | .alloc .. =>3
 | .box .. =>3
 | .ownNil _=>3
 | .mkRow .. =>3
 | .mkMap=>3
 | .storeR .. =>4
 | .callR .. =>4
 | .mapSetR .. =>4
 | .mkList .. =>1
 | .load .. =>1
 | .nilCheck _=>1
 | .slice .. =>1
 | .fieldAddr .. =>1
 | .idxAddr .. =>1
 | .idxAddrA .. =>1
 | .lookup .. =>1
 | .len .. =>1
 | .call false true _ _=>1
 | .call false false _ _=>3
 | _=>2
section
variable {F : Oracle} {cx : Cx} {slot : Nat} {e e' : Env} {m : Mem}
theorem zav (x:Opd) (h:∀t∈tO x,get e t=get e' t):x.ev e=x.ev e':=by
 cases x with
 | t n=>exact h n (by simp [tO])
 | k v=>rfl
theorem zje:∀(xs:List Opd),(∀t∈tOs xs,get e t=get e' t)->evs e xs=evs e' xs
 | [],_=>rfl
 | x::r,h=>by
  simp only [evs]
  rw [zav x fun t ht=>h t (by simp [tOs,ht]),zje r fun t ht=>h t (by simp [tOs,ht])]
theorem z0k:∀(xs:List (Nat×Nat×Opd)),(∀t∈tP xs,get e t=get e' t)->zu6 e xs=zu6 e' xs
 | [],_=>rfl
 | (a,b,x)::r,h=>by
  simp only [zu6]
  rw [zav x fun t ht=>h t (by simp [tP,ht]),z0k r fun t ht=>h t (by simp [tP,ht])]
theorem zp9 (x:Option Opd) (h:∀t∈tQ x,get e t=get e' t):x.map (·.ev e)=x.map (·.ev e'):=by
 cases x with
 | none=>rfl
 | some x=>simp only [Option.map_some];rw [zav x fun t ht=>h t (by simp [tQ,ht])]
theorem zqi:∀(l:List Nat),(∀t∈l,get e t=get e' t)->l.map (get e)=l.map (get e')
 | [],_=>rfl
 | t::r,h=>by rw [List.map_cons,List.map_cons,h t (by simp),zqi r fun u hu=>h u (by simp [hu])]
theorem z5m (op:COp) (h:∀t∈reads op,get e t=get e' t):zd2 F cx slot e m op=zd2 F cx slot e' m op:=by
 cases op<;>simp only [reads] at h<;>simp only [zd2]
 case mv x=>rw [zav x h]
 case pick c a b=>rw [zav c fun t ht=>h t (by simp [ht]),zav a fun t ht=>h t (by simp [ht]),zav b fun t ht=>h t (by simp [ht])]
 case box x=>rw [zav x h]
 case build z ps=>rw [z0k ps h]
 case mkList a b ps=>rw [zje ps h]
 case mkRow a b ps=>rw [zje ps h]
 case load n x=>rw [zav x h]
 case store n a x=>rw [zav a fun t ht=>h t (by simp [ht]),zav x fun t ht=>h t (by simp [ht])]
 case nilCheck x=>rw [zav x h]
 case bin op a x=>rw [zav a fun t ht=>h t (by simp [ht]),zav x fun t ht=>h t (by simp [ht])]
 case eqv n b a x=>rw [zav a fun t ht=>h t (by simp [ht]),zav x fun t ht=>h t (by simp [ht])]
 case un op x=>rw [zav x h]
 case conv k x=>rw [zav x h]
 case mkFunc f a b=>rw [zje a fun t ht=>h t (by simp [ht]),zje b fun t ht=>h t (by simp [ht])]
 case makeRow r z x=>rw [zav x h]
 case sliceS x lo hi=>rw [zav x fun t ht=>h t (by simp [ht]),zp9 lo fun t ht=>h t (by simp [ht]),zp9 hi fun t ht=>h t (by simp [ht])]
 case slice n x lo hi mx=>rw [zav x fun t ht=>h t (by simp [ht]),zp9 lo fun t ht=>h t (by simp [ht]),zp9 hi fun t ht=>h t (by simp [ht]),zp9 mx fun t ht=>h t (by simp [ht])]
 case fieldAddr n x=>rw [zav x h]
 case field n k x=>rw [zav x h]
 case idxAddr n a x=>rw [zav a fun t ht=>h t (by simp [ht]),zav x fun t ht=>h t (by simp [ht])]
 case idxAddrA l n a x=>rw [zav a fun t ht=>h t (by simp [ht]),zav x fun t ht=>h t (by simp [ht])]
 case idxS a x=>rw [zav a fun t ht=>h t (by simp [ht]),zav x fun t ht=>h t (by simp [ht])]
 case idxA l n k a x=>rw [zav a fun t ht=>h t (by simp [ht]),zav x fun t ht=>h t (by simp [ht])]
 case lookup kk z c a x=>rw [zav a fun t ht=>h t (by simp [ht]),zav x fun t ht=>h t (by simp [ht])]
 case mapSet kk c a b=>rw [zav c fun t ht=>h t (by simp [ht]),zav a fun t ht=>h t (by simp [ht]),zav b fun t ht=>h t (by simp [ht])]
 case rangeS x=>rw [zav x h]
 case nextS x=>rw [zav x h]
 case extract x i=>rw [zav x h]
 case call a b f args=>rw [zav f fun t ht=>h t (by simp [ht]),zje args fun t ht=>h t (by simp [ht])]
 case storeR n a x rs=>rw [zav a fun t ht=>h t (by simp [ht]),zav x fun t ht=>h t (by simp [ht]),zqi rs fun t ht=>h t (by simp [ht])]
 case callR i f args rs=>rw [zav f fun t ht=>h t (by simp [ht]),zje args fun t ht=>h t (by simp [ht]),zqi rs fun t ht=>h t (by simp [ht])]
 case mapSetR kk c a b rs=>rw [zav c fun t ht=>h t (by simp [ht]),zav a fun t ht=>h t (by simp [ht]),zav b fun t ht=>h t (by simp [ht]),zqi rs fun t ht=>h t (by simp [ht])]
 case loadD n x=>rw [zav x h]
 case nilEq kd neg x=>rw [zav x h]
 case callD f args=>rw [zav f fun t ht=>h t (by simp [ht]),zje args fun t ht=>h t (by simp [ht])]
 case idxAddrD n a x=>rw [zav a fun t ht=>h t (by simp [ht]),zav x fun t ht=>h t (by simp [ht])]
 case sliceZ sz x a b=>rw [zav x fun t ht=>h t (by simp [ht]),zav a fun t ht=>h t (by simp [ht]),zav b fun t ht=>h t (by simp [ht])]
 case appendIn r a x=>rw [zav a fun t ht=>h t (by simp [ht]),zav x fun t ht=>h t (by simp [ht])]
 case len k x=>rw [zav x h]
 case appendS r a x=>rw [zav a fun t ht=>h t (by simp [ht]),zav x fun t ht=>h t (by simp [ht])]
 case append r a x=>rw [zav a fun t ht=>h t (by simp [ht]),zav x fun t ht=>h t (by simp [ht])]
 case copy n a x=>rw [zav a fun t ht=>h t (by simp [ht]),zav x fun t ht=>h t (by simp [ht])]
 case minmax b args=>rw [zje args h]
 case clear z x=>rw [zav x h]
theorem ycb (c:CO) (h:∀t∈zkx c,get e t=get e' t):zfc F cx e m c=zfc F cx e' m c:=by
 unfold zfc
 unfold zkx at h
 cases hg:c.guard with
 | none=>rw [hg] at h;exact z5m _ h
 | some p=>
  obtain⟨t,w⟩:=p
  rw [hg] at h
  simp only
  rw [h t (by simp),z5m c.op fun t ht=>h t (by simp [ht])]
theorem zxu:∀(vs:List V),yu8 vs=true->∃ds,∀m,zen false m vs=some ds
 | [],_=>⟨[],fun _=>rfl⟩
 | v::r,h=>by
  cases v<;>simp only [yu8,Bool.false_eq_true] at h
  rename_i x
  obtain⟨ds,hds⟩:=zxu r h
  exact⟨x::ds,fun m=>by simp only [zen,freeze,hds m]⟩
theorem yx4 {op:COp} {v:V} {m':Mem} (hc:cls op=0) (h:zd2 F cx slot e m op=some (v,m')):m'=m/\∀m2,zd2 F cx slot e m2 op=some (v,m2):=by
 cases op<;>first |exact absurd (show (2:Nat)=0 from hc) (by decide)|exact absurd (show (1:Nat)=0 from hc) (by decide)|exact absurd (show (3:Nat)=0 from hc) (by decide)|exact absurd (show (4:Nat)=0 from hc) (by decide)|skip
 all_goals simp only [zd2,Option.map_eq_some_iff,Option.some.injEq,Prod.mk.injEq] at h
 case mv=>obtain⟨rfl,rfl⟩:=h;exact⟨rfl,fun _=>by simp_all [zd2]⟩
 case pick=>
  split at h<;>try cases h
  rename_i hx
  exact⟨rfl,fun _=>by simp_all [zd2]⟩
 case bin=>obtain⟨a,h1,rfl,rfl⟩:=h;exact⟨rfl,fun _=>by simp_all [zd2]⟩
 case eqv=>obtain⟨a,h1,rfl,rfl⟩:=h;exact⟨rfl,fun _=>by simp_all [zd2]⟩
 case un=>obtain⟨a,h1,rfl,rfl⟩:=h;exact⟨rfl,fun _=>by simp_all [zd2]⟩
 case conv=>
  split at h<;>try cases h
  rename_i hx
  exact⟨rfl,fun _=>by simp_all [zd2]⟩
 case mkFunc=>obtain⟨rfl,rfl⟩:=h;exact⟨rfl,fun _=>by simp_all [zd2]⟩
 case sliceS=>
  split at h<;>try cases h
  rename_i hx
  split at h<;>try cases h
  rename_i hb
  exact⟨rfl,fun _=>by simp_all [zd2]⟩
 case field=>obtain⟨a,h1,rfl,rfl⟩:=h;exact⟨rfl,fun _=>by simp_all [zd2]⟩
 case idxS=>
  split at h<;>try cases h
  rename_i hx hi
  split at h<;>try cases h
  rename_i h0
  simp only [Option.map_eq_some_iff,Prod.mk.injEq] at h
  obtain⟨a,h1,rfl,rfl⟩:=h
  exact⟨rfl,fun _=>by simp_all [zd2]⟩
 case idxA=>
  split at h<;>try cases h
  rename_i hi
  split at h<;>try cases h
  rename_i h0
  simp only [Option.map_eq_some_iff,Prod.mk.injEq] at h
  obtain⟨a,h1,rfl,rfl⟩:=h
  exact⟨rfl,fun _=>by simp_all [zd2]⟩
 case extract=>
  split at h<;>try cases h
  rename_i hx
  simp only [Option.map_eq_some_iff,Prod.mk.injEq] at h
  obtain⟨a,h1,rfl,rfl⟩:=h
  exact⟨rfl,fun _=>by simp_all [zd2]⟩
 case minmax=>obtain⟨a,h1,rfl,rfl⟩:=h;exact⟨rfl,fun _=>by simp_all [zd2]⟩
 case build z ps=>
  have hz:ym4 z=true:=by
   cases hz:ym4 z with
   | true=>rfl
   | false=>simp [cls,hz] at hc
  obtain⟨a,h1,rfl,rfl⟩:=h
  obtain⟨k1,k2⟩:=yc9 cx slot z m hz
  exact⟨k1,fun m2=>by simp [zd2,k2 m2,h1]⟩
 case call a b _ _=>cases a<;>cases b<;>simp [cls] at hc
 case loadD=>
  split at h<;>try cases h
  rename_i hx
  simp only [Option.map_eq_some_iff,Prod.mk.injEq] at h
  obtain⟨a,h1,rfl,rfl⟩:=h
  exact⟨rfl,fun _=>by simp_all [zd2]⟩
 case idxAddrD=>
  split at h<;>try cases h
  rename_i hx hi
  split at h<;>try cases h
  rename_i hr
  exact⟨rfl,fun _=>by simp_all [zd2]⟩
 case callD f args=>
  split at h<;>try cases h
  rename_i g hf
  split at h<;>try cases h
  rename_i hd
  obtain⟨ds,hds⟩:=zxu _ hd
  simp only [zpc,Bool.false_eq_true,if_false,List.nil_append,List.append_nil,hds] at h
  split at h<;>try cases h
  rename_i v1 m1 hcall
  simp only [zrb,if_true] at h
  split at h<;>try cases h
  rename_i hids
  simp only [Option.map_eq_some_iff,Prod.mk.injEq] at h
  obtain⟨a,h1,rfl,rfl⟩:=h
  refine⟨rfl,fun m2=> ?_⟩
  simp only [zd2,hf,hd,if_true,zpc,Bool.false_eq_true,if_false,List.nil_append,List.append_nil,hds,hcall,zrb,hids,h1]
  rfl
theorem yyn {op:COp} {v:V} {m':Mem} (hc:cls op<=1) (h:zd2 F cx slot e m op=some (v,m')):m'=m:=by
 by_cases h0:cls op=0
 ·exact(yx4 h0 h).1
 cases op<;>first |exact absurd (show (2:Nat)<=1 from hc) (by decide)|exact absurd (show (3:Nat)<=1 from hc) (by decide)|exact absurd (show (4:Nat)<=1 from hc) (by decide)|exact absurd rfl h0|skip
 all_goals simp only [zd2,Option.map_eq_some_iff,Prod.mk.injEq] at h
 case build z ps=>
  cases hz:ym4 z with
  | true=>simp [cls,hz] at h0
  | false=>simp [cls,hz] at hc
 case mkList=>obtain⟨a,h1,rfl,rfl⟩:=h;rfl
 case load=>obtain⟨a,h1,rfl,rfl⟩:=h;rfl
 case nilCheck=>
  split at h
  ·simp only [Option.some.injEq,Prod.mk.injEq] at h;exact h.2.symm
  ·split at h<;>try cases h
   rfl
 case slice=>obtain⟨a,h1,rfl,rfl⟩:=h;rfl
 case fieldAddr=>obtain⟨a,h1,rfl,rfl⟩:=h;rfl
 case idxAddr=>obtain⟨a,h1,rfl,rfl⟩:=h;rfl
 case idxAddrA=>
  split at h<;>try cases h
  split at h<;>try cases h
  simp only [Option.map_eq_some_iff,Prod.mk.injEq] at h
  obtain⟨a,h1,rfl,rfl⟩:=h;rfl
 case lookup=>obtain⟨a,h1,rfl,rfl⟩:=h;rfl
 case len=>obtain⟨a,h1,rfl,rfl⟩:=h;rfl
 case nilEq=>
  split at h<;>try cases h
  split at h<;>try cases h
  rfl
 case call a b f args=>
  cases a<;>cases b<;>first |exact absurd (show (2:Nat)<=1 from hc) (by decide)|exact absurd (show (3:Nat)<=1 from hc) (by decide)|skip
  simp only [zpc,Bool.false_eq_true,if_false] at h
  split at h<;>try cases h
  split at h<;>try cases h
  split at h<;>try cases h
  simp only [zrb,if_true] at h
  split at h<;>try cases h
  simp only [Option.map_eq_some_iff,Prod.mk.injEq] at h
  obtain⟨a,h1,rfl,rfl⟩:=h;rfl
theorem yxv {c:CO} {v:V} {m':Mem} (hc:cls c.op=0) (h:zfc F cx e m c=some (v,m')):m'=m/\∀m2,zfc F cx e m2 c=some (v,m2):=by
 unfold zfc at h ⊢
 split at h
 ·simpa using yx4 hc h
 ·split at h
  ·split at h
   ·rename_i hb
    have:=yx4 hc h
    simp only [hb,if_true]
    exact this
   ·rename_i hb
    simp only [Option.some.injEq,Prod.mk.injEq] at h
    obtain⟨rfl,rfl⟩:=h
    exact⟨rfl,fun _=>by simp only [hb,if_false]⟩
  ·simp only [Option.some.injEq,Prod.mk.injEq] at h
   obtain⟨rfl,rfl⟩:=h
   exact⟨rfl,fun _=>rfl⟩
  ·cases h
theorem ysc {c:CO} {v:V} {m':Mem} (hc:cls c.op<=1) (h:zfc F cx e m c=some (v,m')):m'=m:=by
 unfold zfc at h
 split at h
 ·exact yyn hc h
 ·split at h
  ·split at h
   ·exact yyn hc h
   ·simp only [Option.some.injEq,Prod.mk.injEq] at h;exact h.2.symm
  ·simp only [Option.some.injEq,Prod.mk.injEq] at h;exact h.2.symm
  ·cases h
end
end Go.Evl
namespace Go.Evl
def Sub (m m':Mem):Prop:=∀i o,look m i=some o->look m' i=some o
def ybc (is:List Id) (m m':Mem):Prop:=∀i∈is,∀o,look m i=some o->look m' i=some o
def ztf (e:Env):COp->List Id
 | .mkList _ _ xs=>idsL (evs e xs)
 | .load _ a=>ids (a.ev e)
 | .nilCheck x=>ids (x.ev e)
 | .slice _ x _ _ _=>ids (x.ev e)
 | .fieldAddr _ x=>ids (x.ev e)
 | .idxAddr _ x _=>ids (x.ev e)
 | .nilEq _ _ x=>ids (x.ev e)
 | .idxAddrA _ _ x _=>ids (x.ev e)
 | .lookup _ _ _ x _=>ids (x.ev e)
 | .len _ x=>ids (x.ev e)
 | .call _ _ f args=>ids (f.ev e)++idsL (evs e args)
 | _=>[]
theorem z19:∀(a b:List V),idsL (a++b)=idsL a++idsL b
 | [],_=>rfl
 | v::r,b=>by simp only [List.cons_append,idsL,z19 r b,List.append_assoc]
section
variable {m m' : Mem}
mutual
theorem z1i (any:Bool):∀(v:V) (d:D),ybc (ids v) m m'->freeze any m v=some d->freeze any m' v=some d
 | .d _,_,_,h=>h
 | .agg cs,d,hs,h=>by
  simp only [freeze,Option.map_eq_some_iff] at h ⊢
  obtain⟨x,h1,h2⟩:=h
  exact⟨x,zp5 any cs x hs h1,h2⟩
 | .ref i off len top,d,hs,h=>by
  simp only [freeze] at h ⊢
  cases hl:look m i with
  | none=>rw [hl] at h;cases h
  | some o=>rw [hl] at h;rw [hs i (by simp [ids]) o hl];exact h
 | .tup _,_,_,h=>by simp [freeze] at h
 | .ptr ..,_,_,h=>by simp [freeze] at h
 | .lptr ..,_,_,h=>by simp [freeze] at h
 | .fn f [] [],d,_,h=>by simpa only [freeze] using h
 | .fn _ (_::_) _,_,_,h=>by simp [freeze] at h
 | .fn _ [] (_::_),_,_,h=>by simp [freeze] at h
 | .yld _,_,_,h=>by simp [freeze] at h
 | .mp _,_,_,h=>by simp [freeze] at h
 | .it _,_,_,h=>by simp [freeze] at h
 | .skip,_,_,h=>by simp [freeze] at h
 | .undef,_,_,h=>by simp [freeze] at h
theorem zp5 (any:Bool):∀(cs:List V) (ds:List D),ybc (idsL cs) m m'->zen any m cs=some ds->zen any m' cs=some ds
 | [],_,_,h=>h
 | v::r,ds,hs,h=>by
  simp only [zen] at h ⊢
  split at h
  ·rename_i x xs h1 h2
   rw [z1i any v x (fun i hi=>hs i (by simp [idsL,hi])) h1,zp5 any r xs (fun i hi=>hs i (by simp [idsL,hi])) h2]
   exact h
  ·cases h
end
theorem ycu {v:V} {ds:List D} (hs:ybc (ids v) m m') (h:zti m v=some ds):zti m' v=some ds:=by
 unfold zti at h ⊢
 cases hf:freeze false m v with
 | none=>rw [hf] at h;cases h
 | some d=>rw [hf] at h;rw [z1i false v d hs hf];exact h
theorem z50 (sz:Nat):∀(vs:List V) (ds:List D),ybc (idsL vs) m m'->ztv sz m vs=some ds->ztv sz m' vs=some ds
 | [],_,_,h=>h
 | v::r,ds,hs,h=>by
  simp only [ztv] at h ⊢
  split at h
  ·rename_i x xs h1 h2
   rw [ycu (fun i hi=>hs i (by simp [idsL,hi])) h1,z50 sz r xs (fun i hi=>hs i (by simp [idsL,hi])) h2]
   exact h
  ·cases h
theorem z8e {α:Type} {i:Id} (hs:ybc [i] m m') (f:Option Ob->Option α) (hf:f none=none) {r:α} (h:f (look m i)=some r):f (look m' i)=some r:=by
 cases hl:look m i with
 | none=>rw [hl,hf] at h;cases h
 | some o=>rw [hl] at h;rw [hs i (by simp) o hl];exact h
theorem yh4 {n:Option Nat} {a v:V} (hs:ybc (ids a) m m') (h:z33 n m a=some v):z33 n m' a=some v:=by
 cases a<;>simp only [z33] at h ⊢ <;>first |exact h|skip
 exact z8e hs (fun x=>match x with|some (.cells _ cs)=>ygw n cs _|some (.row _ _ _ l xs)=>if l=_ then z34 n xs _ else none|_=>none) rfl h
theorem z0y {v:V} (hs:ybc (ids v) m m') (h:z8m m v=true):z8m m' v=true:=by
 cases v<;>simp only [z8m] at h ⊢ <;>first |exact h|skip
 rename_i i off top
 cases hl:look m i with
 | none=>rw [hl] at h;cases h
 | some o=>rw [hl] at h;rw [hs i (by simp [ids]) o hl];exact h
theorem yma {v:V} {r:Nat×Bool} (hs:ybc (ids v) m m') (h:yjt m v=some r):yjt m' v=some r:=by
 unfold yjt at h ⊢
 split at h<;>first |exact h|skip
 ·split at h
  ·rename_i hsu
   rw [if_pos (z0y hs hsu)];exact h
  ·cases h
 ·rename_i i off len top
  exact z8e hs (fun x=>match x with|some (.row _ _ _ n _)=>if n=top/\off+len<=n/\len≠0 then some (2,false) else none|_=>none) rfl h
theorem ztw {off:Nat} {v r:V} (hs:ybc (ids v) m m') (h:zf1 off m v=some r):zf1 off m' v=some r:=by
 unfold zf1 at h ⊢
 split at h
 ·rename_i hsu
  rw [if_pos (z0y hs hsu)];exact h
 ·cases h
theorem z6g {sz:Nat} {x i r:V} (hs:ybc (ids x) m m') (h:zk4 sz m x i=some r):zk4 sz m' x i=some r:=by
 unfold zk4 at h ⊢
 split at h
 ·cases h
 ·cases x<;>first |exact h|skip
  case d x=>cases x<;>exact h
  case ref id _ _ _=>
   dsimp only at h ⊢
   cases hl:look m id with
   | none=>rw [hl] at h;cases h
   | some o=>rw [hl] at h;rw [hs id (by simp [ids]) o hl];exact h
theorem ydr {sz:Nat} {x:V} {lo hi mx:Option V} {r:V} (hs:ybc (ids x) m m') (h:zva sz m x lo hi mx=some r):zva sz m' x lo hi mx=some r:=by
 unfold zva at h ⊢
 cases x<;>first |exact h|skip
 case d x=>cases x<;>exact h
 case ref id _ _ _=>
  dsimp only at h ⊢
  cases hl:look m id with
  | none=>rw [hl] at h;cases h
  | some o=>rw [hl] at h;rw [hs id (by simp [ids]) o hl];exact h
theorem ykg {k:Kd} {x:V} {n:Nat} (hs:ybc (ids x) m m') (h:ydp m k x=some n):ydp m' k x=some n:=by
 unfold ydp at h ⊢
 cases k<;>cases x<;>first |exact h|skip
 case slc.d x=>cases x<;>exact h
 case slc.ref id _ _ _=>
  dsimp only at h ⊢
  cases hl:look m id with
  | none=>rw [hl] at h;cases h
  | some o=>rw [hl] at h;rw [hs id (by simp [ids]) o hl];exact h
 case map.mp id=>
  dsimp only at h ⊢
  cases hl:look m id with
  | none=>rw [hl] at h;cases h
  | some o=>rw [hl] at h;rw [hs id (by simp [ids]) o hl];exact h
theorem z8w {kk:KK} {z:D} {c:Bool} {x k r:V} (hs:ybc (ids x) m m') (h:zps kk z c m x k=some r):zps kk z c m' x k=some r:=by
 unfold zps at h ⊢
 split at h<;>try cases h
 split at h<;>try cases h
 rename_i hk
 simp only [hk,if_true]
 cases x<;>first |exact h|skip
 case d x=>cases x<;>exact h
 case mp id=>
  dsimp only at h ⊢
  cases hl:look m id with
  | none=>rw [hl] at h;cases h
  | some o=>rw [hl] at h;rw [hs id (by simp [ids]) o hl];exact h
theorem yok {v:V} {g:Nat} {a b:List V} (h:yat v= .fn g a b):ids v=idsL a++idsL b:=by
 unfold yat at h
 split at h
 ·injection h with _ h1 h2;subst h1 h2;rfl
 ·subst h;rfl
theorem yan {F:Oracle} {cx:Cx} {slot:Nat} {e:Env} {op:COp} (hs:ybc (ztf e op) m m') (hc:cls op=1) {v:V} {m1:Mem} (h:zd2 F cx slot e m op=some (v,m1)):zd2 F cx slot e m' op=some (v,m'):=by
 cases op<;>first |exact absurd (show (2:Nat)=1 from hc) (by decide)|exact absurd (show (0:Nat)=1 from hc) (by decide)|exact absurd (show (3:Nat)=1 from hc) (by decide)|exact absurd (show (4:Nat)=1 from hc) (by decide)|skip
 all_goals simp only [zd2,Option.map_eq_some_iff,Prod.mk.injEq] at h ⊢
 case mkList=>obtain⟨a,h1,h2,_⟩:=h;exact⟨a,z50 _ _ _ hs h1,h2,by first |trivial|rfl⟩
 case load=>obtain⟨a,h1,h2,_⟩:=h;exact⟨a,yh4 hs h1,h2,by first |trivial|rfl⟩
 case nilCheck x=>
  split at h
  ·rename_i hsu
   simp only [Option.some.injEq,Prod.mk.injEq] at h
   rw [if_pos (z0y hs hsu),h.1]
  ·generalize hx:x.ev e=y at h ⊢
   split at h<;>try cases h
   rename_i hfn
   have hy:z8m m' y=false:=by
    unfold yat at hfn
    split at hfn
    ·rfl
    ·subst hfn;rfl
   rw [hy]
   rfl
 case slice=>obtain⟨a,h1,h2,_⟩:=h;exact⟨a,ydr hs h1,h2,by first |trivial|rfl⟩
 case fieldAddr=>obtain⟨a,h1,h2,_⟩:=h;exact⟨a,ztw hs h1,h2,by first |trivial|rfl⟩
 case idxAddr=>obtain⟨a,h1,h2,_⟩:=h;exact⟨a,z6g hs h1,h2,by first |trivial|rfl⟩
 case nilEq kd neg x=>
  split at h<;>try cases h
  rename_i k b hb
  rw [yma hs hb]
  split at h<;>try cases h
  rename_i hk
  exact if_pos hk
 case idxAddrA=>
  split at h<;>try cases h
  split at h<;>try cases h
  rename_i hr
  simp only [Option.map_eq_some_iff,Prod.mk.injEq] at h
  obtain⟨a,h1,h2,_⟩:=h
  rw [if_pos hr,ztw hs h1,<-h2]
  rfl
 case lookup=>obtain⟨a,h1,h2,_⟩:=h;exact⟨a,z8w hs h1,h2,by first |trivial|rfl⟩
 case len=>obtain⟨a,h1,h2,_⟩:=h;exact⟨a,ykg hs h1,h2,by first |trivial|rfl⟩
 case build z ps=>cases hz:ym4 z<;>simp [cls,hz] at hc
 case call a b f args=>
  cases a<;>cases b<;>first |exact absurd (show (2:Nat)=1 from hc) (by decide)|exact absurd (show (3:Nat)=1 from hc) (by decide)|skip
  simp only [zpc,Bool.false_eq_true,if_false] at h ⊢
  split at h<;>try cases h
  rename_i g first caps hf
  split at h<;>try cases h
  rename_i hfr
  split at h<;>try cases h
  rename_i hcall
  have hs':ybc (idsL (first ++evs e args++caps)) m m':=fun i hi=>hs i (by
   simp only [z19,List.mem_append] at hi
   simp only [ztf,yok hf,List.mem_append]
   rcases hi with(hi|hi)|hi
   ·exact .inl (.inl hi)
   ·exact .inr hi
   ·exact .inl (.inr hi))
  simp only [zp5 false _ _ hs' hfr,hcall]
  simp only [zrb,if_true] at h ⊢
  split at h<;>try cases h
  rename_i hid
  rw [if_pos hid]
  simp only [Option.map_eq_some_iff,Prod.mk.injEq] at h ⊢
  obtain⟨a,h1,h2,_⟩:=h
  exact⟨a,h1,h2,by first |trivial|rfl⟩
theorem yhe {F:Oracle} {cx:Cx} {e:Env} {c:CO} (hs:ybc (ztf e c.op) m m') (hc:cls c.op=1) {v:V} {m1:Mem} (h:zfc F cx e m c=some (v,m1)):zfc F cx e m' c=some (v,m'):=by
 unfold zfc at h ⊢
 split at h
 ·exact yan hs hc h
 ·split at h
  ·split at h
   ·rename_i hb
    rw [if_pos hb]
    exact yan hs hc h
   ·rename_i hb
    rw [if_neg hb]
    simp only [Option.some.injEq,Prod.mk.injEq] at h ⊢
    exact⟨h.1,trivial⟩
  ·simp only [Option.some.injEq,Prod.mk.injEq] at h ⊢
   exact⟨h.1,trivial⟩
  ·cases h
theorem zw3 (cx:Cx) (slot:Nat) (m:Mem) (ob:Ob):Sub m (upd m (zc8 cx slot m) ob):=by
 intro i o hi
 rw [zbz _ _ _ _ fun e=> ?_]
 ·exact hi
 ·rw [<-e,ze4] at hi
  cases hi
theorem zzf (cx:Cx) (slot:Nat):∀(l:List ygl) (m:Mem),Sub m (zbw cx slot l m).2
 | [],_=>fun _ _ h=>h
 | .z _::r,m=>by simp only [zbw];exact zzf cx slot r m
 | .own s::r,m=>by
  simp only [zbw]
  exact fun i o h=>zzf cx slot r _ i o (zw3 cx slot m _ i o h)
theorem z5s:∀(m r:Mem),Sub m (m++r)
 | [],_,i,o,h=>by simp [look] at h
 | (j,x)::m,r,i,o,h=>by
  simp only [List.cons_append,look] at h ⊢
  split at h
  ·rename_i e;rw [if_pos e];exact h
  ·rename_i e;rw [if_neg e];exact z5s m r i o h
theorem yd8 {F:Oracle} {cx:Cx} {e:Env} {c:CO} (hc:cls c.op=3) {v:V} (h:zfc F cx e m c=some (v,m')):Sub m m':=by
 have key:∀slot,zd2 F cx slot e m c.op=some (v,m')->Sub m m':=by
  intro slot h
  generalize hop:c.op=op at hc h
  cases op<;>first |exact absurd (show (2:Nat)=3 from hc) (by decide)|exact absurd (show (1:Nat)=3 from hc) (by decide)|exact absurd (show (0:Nat)=3 from hc) (by decide)|exact absurd (show (4:Nat)=3 from hc) (by decide)|skip
  all_goals simp only [zd2] at h
  case ownNil=>
   simp only [Option.some.injEq,Prod.mk.injEq] at h
   obtain⟨_,rfl⟩:=h
   exact zw3 _ _ _ _
  case mkMap=>
   simp only [Option.some.injEq,Prod.mk.injEq] at h
   obtain⟨_,rfl⟩:=h
   exact zw3 _ _ _ _
  case box=>
   split at h<;>try cases h
   exact zw3 _ _ _ _
  case mkRow=>
   simp only [Option.map_eq_some_iff,Prod.mk.injEq] at h
   obtain⟨_,_,_,rfl⟩:=h
   exact zw3 _ _ _ _
  case alloc=>
   simp only [Option.some.injEq,Prod.mk.injEq] at h
   obtain⟨_,rfl⟩:=h
   exact fun i o hi=>zw3 _ _ _ _ i o (zzf cx slot _ m i o hi)
  case build=>
   simp only [Option.map_eq_some_iff,Prod.mk.injEq] at h
   obtain⟨_,_,_,rfl⟩:=h
   exact zzf _ _ _ _
  case call a b f args=>
   cases a<;>cases b<;>first |exact absurd (show (2:Nat)=3 from hc) (by decide)|exact absurd (show (1:Nat)=3 from hc) (by decide)|skip
   simp only [zpc,Bool.false_eq_true,if_false] at h
   split at h<;>try cases h
   split at h<;>try cases h
   split at h<;>try cases h
   simp only [zrb,Bool.false_eq_true,if_false,settle] at h
   split at h<;>try cases h
   exact z5s _ _
 unfold zfc at h
 split at h
 ·exact key _ h
 ·split at h
  ·split at h
   ·exact key _ h
   ·simp only [Option.some.injEq,Prod.mk.injEq] at h;exact h.2▸fun _ _ h=>h
  ·simp only [Option.some.injEq,Prod.mk.injEq] at h;exact h.2▸fun _ _ h=>h
  ·cases h
def z4x:COp->List Nat
 | .storeR _ _ _ rs=>rs
 | .callR _ _ _ rs=>rs
 | .mapSetR _ _ _ _ rs=>rs
 | _=>[]
theorem z4e:∀(vs:List V),yao m m' vs=true->∀v∈vs,∀i∈ids v,look m' i=look m i
 | [],_,v,hv,_,_=>by simp at hv
 | w::r,h,v,hv,i,hi=>by
  unfold yao at h
  split at h
  ·rename_i e;cases e
  ·rename_i o a b r' e
   obtain⟨rfl,rfl⟩:=(List.cons.injEq ..).mp e
   simp only [Bool.and_eq_true] at h
   rcases List.mem_cons.1 hv with rfl|hv
   ·simp only [ids,List.mem_singleton] at hi
    subst hi
    have h1:=h.1
    unfold yrh at h1
    split at h1
    ·rename_i t cs u ds k1 k2
     simp only [Bool.and_eq_true,decide_eq_true_eq] at h1
     obtain⟨rfl,h2⟩:=h1
     rw [k1,k2,z8l _ _ h2]
    ·cases h1
   ·exact z4e r h.2 v hv i hi
  ·cases h
theorem yhc {n:Nat} {a x:V} {vs:List V} (ha:yfs a vs=true) (h:zvd n m a x=some m'):∀v∈vs,∀i∈ids v,look m' i=look m i:=by
 intro v hv i hi
 unfold yfs at ha
 split at ha
 ·rename_i o off top
  have:=List.all_eq_true.1 ha v hv
  cases v<;>simp only [Bool.false_eq_true] at this
  rename_i o' _ _
  simp only [ids,List.mem_singleton] at hi
  subst hi
  have hne:i≠o:=by simpa using this
  simp only [zvd] at h
  split at h
  ·split at h<;>try cases h
   split at h<;>try cases h
   exact zbz _ _ _ _ (Ne.symm hne)
  ·split at h<;>try cases h
   split at h<;>try cases h
   exact zbz _ _ _ _ (Ne.symm hne)
  ·cases h
 ·cases ha
theorem ydi {kk:KK} {a k x:V} {vs:List V} (ha:yfd a vs=true) (h:zog kk m a k x=some m'):∀v∈vs,∀i∈ids v,look m' i=look m i:=by
 intro v hv i hi
 unfold yfd at ha
 split at ha
 ·rename_i o
  have:=List.all_eq_true.1 ha v hv
  cases v<;>simp only [Bool.false_eq_true] at this
  rename_i o' _ _
  simp only [ids,List.mem_singleton] at hi
  subst hi
  have hne:i≠o:=by simpa using this
  unfold zog at h
  split at h<;>try cases h
  rename_i hmp
  injection hmp with hmp
  subst hmp
  split at h<;>try cases h
  split at h<;>try cases h
  simp only [Option.map_eq_some_iff] at h
  obtain⟨es,_,rfl⟩:=h
  exact zbz _ _ _ _ (Ne.symm hne)
 ·cases ha
theorem yam {F:Oracle} {cx:Cx} {e:Env} {c:CO} (hc:cls c.op=4) {v:V} (h:zfc F cx e m c=some (v,m')):∀t∈z4x c.op,∀i∈ids (get e t),look m' i=look m i:=by
 have key:∀slot,zd2 F cx slot e m c.op=some (v,m')->∀t∈z4x c.op,∀i∈ids (get e t),look m' i=look m i:=by
  intro slot h
  generalize hop:c.op=op at hc h
  cases op<;>first |exact absurd (show (2:Nat)=4 from hc) (by decide)|exact absurd (show (1:Nat)=4 from hc) (by decide)|exact absurd (show (0:Nat)=4 from hc) (by decide)|exact absurd (show (3:Nat)=4 from hc) (by decide)|skip
  case build z ps=>cases hz:ym4 z<;>simp [cls,hz] at hc
  case call a b f args=>cases a<;>cases b<;>simp [cls] at hc
  all_goals simp only [zd2] at h
  case storeR=>
   split at h<;>try cases h
   rename_i ha
   simp only [Option.map_eq_some_iff,Prod.mk.injEq] at h
   obtain⟨m1,h1,_,rfl⟩:=h
   exact fun t ht=>yhc ha h1 _ (List.mem_map_of_mem ht)
  case mapSetR=>
   split at h<;>try cases h
   rename_i ha
   simp only [Option.map_eq_some_iff,Prod.mk.injEq] at h
   obtain⟨m1,h1,_,rfl⟩:=h
   exact fun t ht=>ydi ha h1 _ (List.mem_map_of_mem ht)
  case callR _ _ _ rs=>
   split at h<;>try cases h
   split at h<;>try cases h
   have hk:yao m m' (rs.map (get e))=true:=by assumption
   exact fun t ht=>z4e _ hk _ (List.mem_map_of_mem ht)
 unfold zfc at h
 split at h
 ·exact key _ h
 ·split at h
  ·split at h
   ·exact key _ h
   ·simp only [Option.some.injEq,Prod.mk.injEq] at h;exact fun _ _ _ _=>by rw [h.2]
  ·simp only [Option.some.injEq,Prod.mk.injEq] at h;exact fun _ _ _ _=>by rw [h.2]
  ·cases h
theorem yx8 (op:COp):cls op<=4:=by
 cases op<;>simp only [cls]<;>first |omega|skip
 ·split<;>omega
 ·rename_i a b _ _;cases a<;>cases b<;>simp
theorem yhm {e:Env} {op:COp} {i:Id} (h:i∈ztf e op):(∃t∈reads op,i∈ids (get e t))\/i∈ztf [] op:=by
 have one:∀x:Opd,i∈ids (x.ev e)->(∃t∈tO x,i∈ids (get e t))\/i∈ids (x.ev []):=by
  intro x hx
  cases x with
  | t n=>exact .inl ⟨n,by simp [tO],hx⟩
  | k v=>exact .inr hx
 have many:∀xs:List Opd,i∈idsL (evs e xs)->(∃t∈tOs xs,i∈ids (get e t))\/i∈idsL (evs [] xs):=by
  intro xs
  induction xs with
  | nil=>intro hx;simp [evs,idsL] at hx
  | cons x r ih=>
   intro hx
   simp only [evs,idsL,List.mem_append] at hx ⊢
   rcases hx with hx|hx
   ·rcases one x hx with⟨t,ht,h⟩|h
    ·exact .inl ⟨t,by simp [tOs,ht],h⟩
    ·exact .inr (.inl h)
   ·rcases ih hx with⟨t,ht,h⟩|h
    ·exact .inl ⟨t,by simp [tOs,ht],h⟩
    ·exact .inr (.inr h)
 cases op<;>simp only [ztf,List.not_mem_nil] at h ⊢ <;>simp only [reads,List.mem_append]
 case mkList a b xs=>exact many xs h
 case load n a=>exact one a h
 case nilCheck x=>exact one x h
 case slice n x lo hi mx=>exact(one x h).imp (fun⟨t,ht,h⟩=>⟨t,.inl ht,h⟩) id
 case fieldAddr n x=>exact one x h
 case idxAddr n x j=>exact(one x h).imp (fun⟨t,ht,h⟩=>⟨t,.inl ht,h⟩) id
 case idxAddrA l n x j=>exact(one x h).imp (fun⟨t,ht,h⟩=>⟨t,.inl ht,h⟩) id
 case lookup kk z c x k=>exact(one x h).imp (fun⟨t,ht,h⟩=>⟨t,.inl ht,h⟩) id
 case len k x=>exact one x h
 case nilEq kd neg x=>exact one x h
 case call a b f args=>
  simp only [List.mem_append] at h
  rcases h with h|h
  ·rcases one f h with⟨t,ht,h⟩|h
   ·exact .inl ⟨t,.inl ht,h⟩
   ·exact .inr (.inl h)
  ·rcases many args h with⟨t,ht,h⟩|h
   ·exact .inl ⟨t,.inr ht,h⟩
   ·exact .inr (.inr h)
mutual
theorem z68 (s:S):∀(v:V) (x:Value),VR s v x->∀i∈ids v,∃o,look s.m i=some o
 | .d _,_,_,i,hi=>by simp [ids] at hi
 | .agg cs,x,h,i,hi=>by
  simp only [VR] at h
  obtain⟨xs,_,h⟩:=h
  exact z8g s cs _ h i hi
 | .tup cs,x,h,i,hi=>by
  simp only [VR] at h
  obtain⟨xs,_,h⟩:=h
  exact zuu s cs _ h i hi
 | .ref o _ _ _,x,h,i,hi=>by
  simp only [VR] at h
  simp only [ids,List.mem_singleton] at hi
  subst hi
  cases hl:look s.m i with
  | none=>rw [hl] at h;exact h.2.elim
  | some o=>exact⟨o,rfl⟩
 | .ptr o _ _,x,h,i,hi=>by
  simp only [VR] at h
  simp only [ids,List.mem_singleton] at hi
  subst hi
  cases hl:look s.m i with
  | none=>rw [hl] at h;exact h.2.elim
  | some o=>exact⟨o,rfl⟩
 | .lptr ..,_,_,i,hi=>by simp [ids] at hi
 | .fn f a b,x,h,i,hi=>by
  simp only [VR] at h
  obtain⟨xs,ys,_,h1,h2⟩:=h
  simp only [ids,List.mem_append] at hi
  rcases hi with hi|hi
  ·exact zuu s a _ h1 i hi
  ·exact zuu s b _ h2 i hi
 | .yld o,x,h,i,hi=>by
  simp only [VR] at h
  simp only [ids,List.mem_singleton] at hi
  subst hi
  cases hl:look s.m i with
  | none=>rw [hl] at h;exact h.2.elim
  | some o=>exact⟨o,rfl⟩
 | .mp o,x,h,i,hi=>by
  simp only [VR] at h
  simp only [ids,List.mem_singleton] at hi
  subst hi
  cases hl:look s.m i with
  | none=>rw [hl] at h;exact h.2.elim
  | some o=>exact⟨o,rfl⟩
 | .it o,x,h,i,hi=>by
  simp only [VR] at h
  simp only [ids,List.mem_singleton] at hi
  subst hi
  cases hl:look s.m i with
  | none=>rw [hl] at h;exact h.2.elim
  | some o=>exact⟨o,rfl⟩
 | .skip,_,_,i,hi=>by simp [ids] at hi
 | .undef,_,_,i,hi=>by simp [ids] at hi
theorem z8g (s:S):∀(cs:List V) (xs:List Value),VRs s cs xs->∀i∈idsL cs,∃o,look s.m i=some o
 | [],_,_,i,hi=>by simp [idsL] at hi
 | v::r,xs,h,i,hi=>by
  simp only [VRs] at h
  obtain⟨x,ys,_,_,h1,h2⟩:=h
  simp only [idsL,List.mem_append] at hi
  rcases hi with hi|hi
  ·exact z68 s v x h1 i hi
  ·exact z8g s r ys h2 i hi
theorem zuu (s:S):∀(cs:List V) (xs:List Value),VRt s cs xs->∀i∈idsL cs,∃o,look s.m i=some o
 | [],_,_,i,hi=>by simp [idsL] at hi
 | v::r,xs,h,i,hi=>by
  simp only [VRt] at h
  obtain⟨x,ys,_,h1,h2⟩:=h
  simp only [idsL,List.mem_append] at hi
  rcases hi with hi|hi
  ·exact z68 s v x h1 i hi
  ·exact zuu s r ys h2 i hi
end
end
end Go.Evl
namespace Go.Evl
open Go.RowKit
def yrp (acc:List Nat) (o:Oper):Nat:=o.after.toList.foldl (fun m e=>if Region.binds .any e then m|||((1<<<e.on)|||acc.getD e.on 0) else m) 0
def yg2:List Oper->List Nat->List Nat
 | [],acc=>acc
 | o::r,acc=>yg2 r (acc++[yrp acc o])
def yc2:COp->Option Nat
 | .fieldAddr _ (.t b)=>some b
 | .idxAddrA _ _ (.t b) _=>some b
 | _=>none
def zp3 (cos:List CO) (a:Nat):Nat:=
 match (cos.takeWhile fun x=> !(zkx x).elem a).find? (fun x=>x.dst==some a&&x.guard.isNone) with
 | some x=>(yc2 x.op).getD a
 | none=>a
theorem zos {α:Type} {p:α->Bool} {x c:α}:∀(l:List α) (i:Nat),x∈l.takeWhile p->l[i]? =some c->p c=false->∃j,j<i/\l[j]? =some x
 | [],_,h,_,_=>by simp at h
 | y::r,i,h,hc,hp=>by
  rw [List.takeWhile_cons] at h
  split at h
  ·rename_i hy
   cases i with
   | zero=>
    simp only [List.getElem?_cons_zero,Option.some.injEq] at hc
    subst hc
    rw [hy] at hp;cases hp
   | succ i=>
    rcases List.mem_cons.1 h with rfl|h
    ·exact⟨0,by omega,rfl⟩
    ·obtain⟨j,h1,h2⟩:=zos r i h (by simpa using hc) hp
     exact⟨j+1,by omega,by simpa using h2⟩
  ·simp at h
theorem z9u (cos:List CO) (a:Nat) {i:Nat} {c:CO} (hc:cos[i]? =some c) (ha:a∈zkx c):zp3 cos a=a\/∃(j:Nat) (x:CO),j<i/\cos[j]? =some x/\x.dst=some a/\x.guard=none/\((∃off,x.op= .fieldAddr off (.t (zp3 cos a)))\/∃len sz k,x.op= .idxAddrA len sz (.t (zp3 cos a)) k):=by
 unfold zp3
 split
 ·rename_i x hx
  have h1:=List.mem_of_find?_eq_some hx
  have h2:=List.find?_some hx
  simp only [Bool.and_eq_true,beq_iff_eq,Option.isNone_iff_eq_none] at h2
  obtain⟨j,h3,h4⟩:=zos cos i h1 hc (by simpa using ha)
  cases hf:yc2 x.op with
  | none=>exact .inl rfl
  | some b=>
   refine .inr ⟨j,x,?_⟩
   unfold yc2 at hf
   split at hf
   ·rename_i off b' hop
    obtain rfl:=Option.some.inj hf
    exact⟨h3,h4,h2.1,h2.2,.inl ⟨off,hop⟩⟩
   ·rename_i len sz b' k hop
    obtain rfl:=Option.some.inj hf
    exact⟨h3,h4,h2.1,h2.2,.inr ⟨len,sz,k,hop⟩⟩
   ·cases hf
 ·exact .inl rfl
def yl0:COp->Option Nat
 | .load _ (.t a)=>some a
 | .fieldAddr _ (.t a)=>some a
 | .idxAddrA _ _ (.t a) _=>some a
 | .nilCheck (.t a)=>some a
 | _=>none
theorem zvy {op:COp} {a:Nat} (h:yl0 op=some a) (e:Env):a∈reads op/\ztf e op=ids (get e a):=by
 unfold yl0 at h
 split at h<;>cases h
 all_goals exact⟨by simp [reads,tO],rfl⟩
def zr2 (cos:List CO) (r w:COp):Bool:=
 match yl0 r with
 | some a=>(z4x w).elem (zp3 cos a)&&cos.all fun x=>x.dst !=some (zp3 cos a)
 | _=>false
def ybv:COp->Bool
 | .alloc _ cs=>ym4 cs
 | .box .. =>true
 | .mkMap=>true
 | .ownNil _=>true
 | _=>false
def zhy (c:CO):Bool:=ybv c.op&&c.dst.isSome
theorem ye0 {F:Oracle} {cx:Cx} {slot:Nat} {e:Env} {m m':Mem} {op:COp} {v:V} (hp:ybv op=true) (h:zd2 F cx slot e m op=some (v,m')):
  ∃ob,m'=upd m (zc8 cx slot m) ob/\∀m2,zc8 cx slot m2=zc8 cx slot m->zd2 F cx slot e m2 op=some (v,upd m2 (zc8 cx slot m) ob):=by
 cases op<;>simp only [ybv,Bool.false_eq_true] at hp<;>simp only [zd2] at h
 case alloc t cs=>
  obtain⟨h1,h2⟩:=yc9 cx slot cs m hp
  simp only [Option.some.injEq,Prod.mk.injEq] at h
  obtain⟨rfl,rfl⟩:=h
  refine⟨_,by rw [h1],fun m2 hm=> ?_⟩
  simp only [zd2,h2 m2,h1,hm]
 case box t x=>
  split at h<;>try cases h
  rename_i cs hc
  refine⟨_,rfl,fun m2 hm=> ?_⟩
  simp only [zd2,hc,hm]
 case mkMap=>
  simp only [Option.some.injEq,Prod.mk.injEq] at h
  obtain⟨rfl,rfl⟩:=h
  exact⟨_,rfl,fun m2 hm=>by simp only [zd2,hm]⟩
 case ownNil r=>
  simp only [Option.some.injEq,Prod.mk.injEq] at h
  obtain⟨rfl,rfl⟩:=h
  exact⟨_,rfl,fun m2 hm=>by simp only [zd2,hm]⟩
theorem yjr {op:COp} (h:ybv op=true):cls op=3:=by
 cases op<;>simp only [ybv,Bool.false_eq_true] at h<;>rfl
def zjw (cos:List CO) (c d:COp):Bool:=
 (cls d==1&&cls c==1)||(cls d==1&&cls c==3)||(cls d==3&&cls c==1&&(ztf [] c).isEmpty)||
 (cls d==1&&cls c==4&&zr2 cos d c)||(cls d==4&&cls c==1&&zr2 cos c d)
def ywi:COp->Option Nat
 | .load _ (.t a)=>some a
 | .fieldAddr _ (.t a)=>some a
 | .idxAddrA _ _ (.t a) _=>some a
 | .nilCheck (.t a)=>some a
 | .slice _ (.t a) _ _ _=>some a
 | .len _ (.t a)=>some a
 | .idxAddr _ (.t a) _=>some a
 | _=>none
theorem yeu {op:COp} {a:Nat} (h:ywi op=some a) (e:Env):a∈reads op/\ztf e op=ids (get e a)/\cls op=1:=by
 unfold ywi at h
 split at h<;>cases h
 all_goals exact⟨by simp [reads,tO],rfl,rfl⟩
def ykk (c:CO):Option Nat:=
 match c.op with
 | .append .. =>c.dst
 | .appendS .. =>c.dst
 | .store _ (.t a) _=>if c.dst.isNone then some a else none
 | .mapSet _ (.t a) _ _=>if c.dst.isNone then some a else none
 | _=>none
def zml (chk:List (Nat×Nat)) (cos:List CO) (i j:Nat) (c d:CO):Bool:=
 match ywi c.op,ykk d with
 | some x,some t=>chk.elem (x,t)&&((cos.drop i).all fun y=>y.dst !=some x)&&((cos.drop (j+1)).all fun y=>y.dst !=some t)&&(d.dst==none||d.dst==some t)
 | _,_=>false
theorem zfv {chk:List (Nat×Nat)} {cos:List CO} {i j:Nat} {c d:CO} (h:2<=cls c.op):zml chk cos i j c d=false:=by
 unfold zml
 split
 ·rename_i x t hx _
  have:=(yeu hx []).2.2
  omega
 ·rfl
def z8o (chk:List (Nat×Nat)) (ops:Array Oper) (cos:List CO):Bool:=
 let ms:=yg2 ops.toList []
 (List.range cos.length).all fun i=>
  match cos[i]?,ops[i]? with
  | some c,some o=>
   o.after.toList.all (fun e=> !Region.binds .any e||decide (e.on<i))&&
   (List.range cos.length).all fun j=>
    match cos[j]? with
    | some d=>
     (decide (i=j)||d.dst.isNone||d.dst !=c.dst)&&
     (match d.dst with
      | some t=> !(zkx c).elem t||(decide (j<i)&&(ms.getD i 0).testBit j)||(decide (i=j)||(decide (i<j)&&(ms.getD j 0).testBit i))
      | none=>true)&&
     (!decide (j<i)||cls c.op==0||cls d.op==0||zjw cos c.op d.op||(zhy c&&zhy d)||zml chk cos i j c d||zml chk cos j i d c||(ms.getD i 0).testBit j)
    | none=>false
  | _,_=>false
def yq2 (ops:Array Oper) (p:Nat->Prop):Prop:=∀i o e,ops[i]? =some o->p i->e∈o.after->Region.binds .any e=true->p e.on
def z0c (ops:Array Oper) (i a:Nat):Prop:=∀p,yq2 ops p->p i->p a
theorem z8j (acc:List Nat) (a:Nat):∀(l:List Edge) (m:Nat),(l.foldl (fun m e=>if Region.binds .any e then m|||((1<<<e.on)|||acc.getD e.on 0) else m) m).testBit a=true->
  m.testBit a=true\/∃e∈l,Region.binds .any e=true/\(a=e.on\/(acc.getD e.on 0).testBit a=true)
 | [],m,h=> .inl h
 | e::r,m,h=>by
  simp only [List.foldl_cons] at h
  rcases z8j acc a r _ h with h|⟨e',h1,h2⟩
  ·split at h
   ·rename_i hb
    simp only [Nat.testBit_or,Bool.or_eq_true] at h
    rcases h with h|h|h
    ·exact .inl h
    ·refine .inr ⟨e,by simp,hb,.inl ?_⟩
     simp only [Nat.testBit_shiftLeft,Bool.and_eq_true,decide_eq_true_eq,Nat.testBit_one_eq_true_iff_self_eq_zero] at h
     omega
    ·exact .inr ⟨e,by simp,hb,.inr h⟩
   ·exact .inl h
  ·exact .inr ⟨e',by simp [h1],h2⟩
theorem yfo {ops:Array Oper}:∀(os:List Oper) (acc:List Nat),(∀i a,(acc.getD i 0).testBit a=true->z0c ops i a)->(∀k,k<os.length->os[k]? =ops[acc.length+k]?)->∀i a,((yg2 os acc).getD i 0).testBit a=true->z0c ops i a
 | [],acc,h,_=>h
 | o::r,acc,h,ho=>by
  refine yfo r (acc++[yrp acc o]) (fun i a hb=> ?_) (fun k hk=> ?_)
  ·have ho0:ops[acc.length]? =some o:=by simpa using (ho 0 (by simp)).symm
   rcases Nat.lt_trichotomy i acc.length with hi|hi|hi
   ·rw [List.getD_eq_getElem?_getD,List.getElem?_append_left hi,<-List.getD_eq_getElem?_getD] at hb
    exact h i a hb
   ·subst hi
    rw [List.getD_eq_getElem?_getD,List.getElem?_append_right (Nat.le_refl _)] at hb
    simp only [Nat.sub_self,List.getElem?_cons_zero,Option.getD_some,yrp] at hb
    rcases z8j acc a _ 0 hb with hb|⟨e,he,hbd,hb⟩
    ·simp at hb
    ·intro p hp hi
     have h1:=hp _ o e ho0 hi (by simpa using he) hbd
     rcases hb with rfl|hb
     ·exact h1
     ·exact h e.on a hb p hp h1
   ·rw [List.getD_eq_getElem?_getD,List.getElem?_eq_none (by simp;omega)] at hb
    simp at hb
  ·have:=ho (k+1) (by simp;omega)
   simp only [List.getElem?_cons_succ] at this
   rw [this,List.length_append,List.length_singleton]
   congr 1;omega
structure z3o (F:Oracle) (cx:Cx) (cos:List CO) (E:Nat->Env) (M:Nat->Mem) (W:Nat->V):Prop where
 val:∀i c,cos[i]? =some c->zfc F cx (E i) (M i) c=some (W i,M (i+1))
 env:∀i c,cos[i]? =some c->E (i+1)=put? (E i) c.dst (W i)
theorem ygb {F:Oracle} {cx:Cx}:∀(cos:List CO) (e e':Env) (m m':Mem),zpv F cx cos e m=some (e',m')->∃E M W,z3o F cx cos E M W/\E 0=e/\M 0=m/\E cos.length=e'/\M cos.length=m'
 | [],e,e',m,m',h=>by
  simp only [zpv,Option.some.injEq,Prod.mk.injEq] at h
  obtain⟨rfl,rfl⟩:=h
  exact⟨fun _=>e,fun _=>m,fun _=> .undef,⟨fun i c h=>by simp at h,fun i c h=>by simp at h⟩,rfl,rfl,rfl,rfl⟩
 | c::r,e,e',m,m',h=>by
  rw [z5q] at h
  split at h<;>try cases h
  rename_i v m1 h1
  obtain⟨E,M,W,hT,hE,hM,hE',hM'⟩:=ygb r _ e' m1 m' h
  refine⟨fun i=>match i with|0=>e|i+1=>E i,fun i=>match i with|0=>m|i+1=>M i,fun i=>match i with|0=>v|i+1=>W i,⟨fun i d hd=> ?_,fun i d hd=> ?_⟩,rfl,rfl,hE',hM'⟩
  ·cases i with
   | zero=>simp at hd;subst hd;simpa [hM] using h1
   | succ i=>exact hT.val i d (by simpa using hd)
  ·cases i with
   | zero=>simp at hd;subst hd;simpa using hE
   | succ i=>exact hT.env i d (by simpa using hd)
section
variable {F : Oracle} {cx : Cx} {cos : List CO} {E : Nat -> Env} {M : Nat -> Mem} {W : Nat -> V}
theorem z3o.same (hT:z3o F cx cos E M W) (t:Nat) (a:Nat):∀b,a<=b->b<=cos.length->(∀k c,a<=k->k<b->cos[k]? =some c->c.dst≠some t)->get (E b) t=get (E a) t:=by
 intro b
 induction b with
 | zero=>
   intro h _ _;obtain rfl:a=0:=by omega
   rfl
 | succ b ih=>
  intro hab hb hk
  rcases Nat.lt_or_ge b a with h|h
  ·obtain rfl:a=b+1:=by omega
   rfl
  ·obtain⟨c,hc⟩:∃c,cos[b]? =some c:=⟨_,List.getElem?_eq_getElem (by omega)⟩
   rw [hT.env b c hc]
   have hne:=hk b c h (by omega) hc
   have:get (put? (E b) c.dst (W b)) t=get (E b) t:=by
    cases hd:c.dst with
    | none=>rfl
    | some d=>exact zoa _ _ _ _ (fun e=>hne (by rw [hd,e]))
   rw [this]
   exact ih h (by omega) fun k c h1 h2=>hk k c h1 (by omega)
theorem z3o.mem (hT:z3o F cx cos E M W) (a:Nat):∀b,a<=b->b<=cos.length->(∀k c,a<=k->k<b->cos[k]? =some c->cls c.op<=1)->M b=M a:=by
 intro b
 induction b with
 | zero=>
   intro h _ _;obtain rfl:a=0:=by omega
   rfl
 | succ b ih=>
  intro hab hb hk
  rcases Nat.lt_or_ge b a with h|h
  ·obtain rfl:a=b+1:=by omega
   rfl
  ·obtain⟨c,hc⟩:∃c,cos[b]? =some c:=⟨_,List.getElem?_eq_getElem (by omega)⟩
   rw [ysc (hk b c h (by omega) hc) (hT.val b c hc)]
   exact ih h (by omega) fun k c h1 h2=>hk k c h1 (by omega)
theorem z3o.keep (hT:z3o F cx cos E M W) {n:Id} {o:Ob} (a:Nat):∀b,a<=b->b<=cos.length->(∀k c,a<=k->k<b->cos[k]? =some c->cls c.op<=1\/cls c.op=3\/(cls c.op=4/\∃t∈z4x c.op,n∈ids (get (E k) t)))->look (M a) n=some o->look (M b) n=some o:=by
 intro b
 induction b with
 | zero=>
   intro h _ _;obtain rfl:a=0:=by omega
   exact id
 | succ b ih=>
  intro hab hb hk h0
  rcases Nat.lt_or_ge b a with h|h
  ·obtain rfl:a=b+1:=by omega
   exact h0
  ·obtain⟨c,hc⟩:∃c,cos[b]? =some c:=⟨_,List.getElem?_eq_getElem (by omega)⟩
   have h1:=ih h (by omega) (fun k c h1 h2=>hk k c h1 (by omega)) h0
   rcases hk b c h (by omega) hc with hl|hl|⟨hl,t,ht,hn⟩
   ·rw [ysc hl (hT.val b c hc)];exact h1
   ·exact yd8 hl (hT.val b c hc) n o h1
   ·rw [yam hl (hT.val b c hc) t ht n hn];exact h1
omit F cx cos E M W in
theorem yk9 {F:Oracle} {cx:Cx} {e:Env} {m m':Mem} {x:CO} {off b:Nat} {v:V} (hg:x.guard=none) (hop:x.op= .fieldAddr off (.t b)) (h:zfc F cx e m x=some (v,m')):∀n∈ids v,n∈ids (get e b):=by
 obtain⟨dst,guard,op⟩:=x
 subst hg
 subst hop
 simp only [zfc,zd2,Opd.ev] at h
 revert h
 generalize get e b=w
 intro h
 cases hv:zf1 off m w with
 | none=>rw [hv] at h;simp at h
 | some r=>
  rw [hv] at h
  simp only [Option.map_some,Option.some.injEq,Prod.mk.injEq] at h
  obtain⟨rfl,_⟩:=h
  unfold zf1 at hv
  split at hv
  ·cases w<;>simp at hv<;>subst hv<;>simp [ids]
  ·cases hv
omit F cx cos E M W in
theorem yso {F:Oracle} {cx:Cx} {e:Env} {m m':Mem} {x:CO} {len sz b:Nat} {k:Opd} {v:V} (hg:x.guard=none) (hop:x.op= .idxAddrA len sz (.t b) k) (h:zfc F cx e m x=some (v,m')):∀n∈ids v,n∈ids (get e b):=by
 obtain⟨dst,guard,op⟩:=x
 subst hg
 subst hop
 simp only [zfc,zd2,Opd.ev] at h
 revert h
 generalize get e b=w
 intro h
 split at h<;>try cases h
 rename_i i hi
 split at h<;>try cases h
 cases hv:zf1 (i.toNat*sz) m w with
 | none=>rw [hv] at h;simp at h
 | some r=>
  rw [hv] at h
  simp only [Option.map_some,Option.some.injEq,Prod.mk.injEq] at h
  obtain⟨rfl,_⟩:=h
  unfold zf1 at hv
  split at hv
  ·cases w<;>simp at hv<;>subst hv<;>simp [ids]
  ·cases hv
theorem z3o.wrote (hT:z3o F cx cos E M W) {t j:Nat} {d:CO} (hd:cos[j]? =some d) (hdt:d.dst=some t) (huniq:∀k c,cos[k]? =some c->c.dst=some t->k=j) {i:Nat} (hi:j<i) (hn:i<=cos.length):get (E i) t=W j:=by
 rw [hT.same t (j+1) i (by omega) hn fun k c h1 h2 hc he=>by have:=huniq k c hc he;omega]
 rw [hT.env j d hd,hdt]
 exact zmq _ _ _
end
end Go.Evl
namespace Go.Evl
open Go.RowKit
section
variable {P : Program} {oc : zfd} {gl : Globs}
theorem z7a {nt:Nat} {ops:Array Oper}:∀(cos:List CO) (os:List Oper),zvi P gl nt ops cos os=true->cos.length=os.length/\∀(i:Nat) (c:CO) (o:Oper),cos[i]? =some c->os[i]? =some o->yub P gl nt ops c o=true
 | [],[],_=>⟨rfl,fun i c o h=>by simp at h⟩
 | [],_::_,h=>by simp [zvi] at h
 | _::_,[],h=>by simp [zvi] at h
 | c::r,o::q,h=>by
  simp only [zvi,Bool.and_eq_true] at h
  obtain⟨h1,h2⟩:=z7a r q h.2
  refine⟨by simp [h1],fun i c' o' hc ho=> ?_⟩
  cases i with
  | zero=>simp at hc ho;subst hc;subst ho;exact h.1
  | succ i=>exact h2 i c' o' (by simpa using hc) (by simpa using ho)
structure yqd (chk:List (Nat×Nat)) (ops:Array Oper) (cos:List CO):Prop where
 len:cos.length=ops.size
 edge:∀(i:Nat) (o:Oper) (e:Edge),ops[i]? =some o->e∈o.after->Region.binds .any e=true->e.on<i
 uniq:∀(i j:Nat) (c d:CO) (t:Nat),cos[i]? =some c->cos[j]? =some d->c.dst=some t->d.dst=some t->i=j
 read:∀(i j:Nat) (c d:CO) (t:Nat),cos[i]? =some c->cos[j]? =some d->t∈zkx c->d.dst=some t->(j<i/\z0c ops i j)\/i=j\/(i<j/\z0c ops j i)
 loud:∀(i j:Nat) (c d:CO),cos[i]? =some c->cos[j]? =some d->j<i->cls c.op≠0->cls d.op≠0->zjw cos c.op d.op=false->(zhy c&&zhy d)=false->zml chk cos i j c d=false->zml chk cos j i d c=false->z0c ops i j
theorem yls {chk:List (Nat×Nat)} {nt:Nat} {ops:Array Oper} {cos:List CO} (h1:zvi P gl nt ops cos ops.toList=true) (h2:z8o chk ops cos=true):yqd chk ops cos:=by
 have hlen:cos.length=ops.size:=by simpa using (z7a cos ops.toList h1).1
 have hm:∀i a,((yg2 ops.toList []).getD i 0).testBit a=true->z0c ops i a:=yfo ops.toList [] (fun i a h=>by simp at h) (fun k _=>by simp)
 simp only [z8o,List.all_eq_true,List.mem_range] at h2
 have key:∀(i:Nat) (c:CO),cos[i]? =some c->∃o,ops[i]? =some o/\(∀e∈o.after,Region.binds .any e=true->e.on<i)/\∀(j:Nat) (d:CO),cos[j]? =some d->
   (i=j\/d.dst=none\/d.dst≠c.dst)/\(∀t,d.dst=some t->t∈zkx c->(j<i/\z0c ops i j)\/i=j\/(i<j/\z0c ops j i))/\(j<i->cls c.op≠0->cls d.op≠0->zjw cos c.op d.op=false->(zhy c&&zhy d)=false->zml chk cos i j c d=false->zml chk cos j i d c=false->z0c ops i j):=by
  intro i c hc
  have hi:i<cos.length:=(List.getElem?_eq_some_iff.1 hc).1
  have h:=h2 i hi
  rw [hc] at h
  obtain⟨o,ho⟩:∃o,ops[i]? =some o:=⟨_,Array.getElem?_eq_getElem (by omega)⟩
  rw [ho] at h
  simp only [Bool.and_eq_true,List.all_eq_true,List.mem_range] at h
  refine⟨o,ho,fun e he hb=> ?_,fun j d hd=> ?_⟩
  ·have:=h.1 e (by simpa using he)
   simpa [hb] using this
  ·have h3:=h.2 j (List.getElem?_eq_some_iff.1 hd).1
   rw [hd] at h3
   simp only [Bool.and_eq_true] at h3
   obtain⟨⟨q1,q2⟩,q3⟩:=h3
   refine⟨?_,fun t ht hr=> ?_,fun hji c1 c2 c3 c4 c5 c6=> ?_⟩
   ·simp only [Bool.or_eq_true,decide_eq_true_eq,Option.isNone_iff_eq_none,bne_iff_ne] at q1
    rcases q1 with(q1|q1)|q1
    ·exact .inl q1
    ·exact .inr (.inl q1)
    ·exact .inr (.inr q1)
   ·rw [ht] at q2
    simp only [Bool.or_eq_true,Bool.not_eq_true',List.elem_eq_mem,decide_eq_false_iff_not,Bool.and_eq_true,decide_eq_true_eq] at q2
    rcases q2 with(q2|q2)|q2|q2
    ·exact absurd hr q2
    ·exact .inl ⟨q2.1,hm i j q2.2⟩
    ·exact .inr (.inl q2)
    ·exact .inr (.inr ⟨q2.1,hm j i q2.2⟩)
   ·simp only [Bool.or_eq_true,Bool.not_eq_true',decide_eq_false_iff_not,beq_iff_eq] at q3
    rcases q3 with((((((q3|q3)|q3)|q3)|q3)|q3)|q3)|q3
    ·exact absurd hji q3
    ·exact absurd q3 c1
    ·exact absurd q3 c2
    ·rw [c3] at q3;cases q3
    ·simp [q3] at c4
    ·rw [c5] at q3;cases q3
    ·rw [c6] at q3;cases q3
    ·exact hm i j q3
 refine⟨hlen,fun i o e ho he hb=> ?_,fun i j c d t hc hd h3 h4=> ?_,fun i j c d t hc hd h3 h4=> ?_,fun i j c d hc hd hji c1 c2 c3 c4 c5 c6=> ?_⟩
 ·have hi:i<ops.size:=(Array.getElem?_eq_some_iff.1 ho).1
  obtain⟨c,hc⟩:∃c,cos[i]? =some c:=⟨_,List.getElem?_eq_getElem (by omega)⟩
  obtain⟨o',ho',hedge,_⟩:=key i c hc
  rw [ho] at ho'
  obtain rfl:=Option.some.inj ho'
  exact hedge e he hb
 ·obtain⟨_,_,_,hk⟩:=key i c hc
  rcases (hk j d hd).1 with h|h|h
  ·exact h
  ·rw [h] at h4;cases h4
  ·exact absurd (h4.trans h3.symm) h
 ·obtain⟨_,_,_,hk⟩:=key i c hc
  exact(hk j d hd).2.1 t h4 h3
 ·obtain⟨_,_,_,hk⟩:=key i c hc
  exact(hk j d hd).2.2 hji c1 c2 c3 c4 c5 c6
theorem z1n (lv slot:Nat):∀m:Mem,freeK lv slot m=0\/∃n:Id,n.lv=lv/\n.slot=slot/\(∃o,look m n=some o)/\n.k+1=freeK lv slot m
 | []=> .inl rfl
 | (j,x)::r=>by
  have there:∀n:Id,(∃o,look r n=some o)->∃o,look ((j,x)::r) n=some o:=by
   rintro n ⟨o,ho⟩
   simp only [look]
   by_cases e:j=n
   ·exact⟨x,by rw [if_pos e]⟩
   ·exact⟨o,by rw [if_neg e];exact ho⟩
  simp only [freeK]
  split
  ·rename_i hj
   rcases z1n lv slot r with h|⟨n,h1,h2,h3,h4⟩
   ·exact .inr ⟨j,hj.1,hj.2,⟨x,by simp [look]⟩,by rw [h];omega⟩
   ·by_cases hc:j.k+1<=freeK lv slot r
    ·exact .inr ⟨n,h1,h2,there n h3,by omega⟩
    ·exact .inr ⟨j,hj.1,hj.2,⟨x,by simp [look]⟩,by omega⟩
  ·rcases z1n lv slot r with h|⟨n,h1,h2,h3,h4⟩
   ·exact .inl h
   ·exact .inr ⟨n,h1,h2,there n h3,h4⟩
theorem yb0 {lv slot:Nat} {m m2:Mem} (h:∀n:Id,n.lv=lv->n.slot=slot->look m n=look m2 n):freeK lv slot m=freeK lv slot m2:=by
 have le:∀a b:Mem,(∀n:Id,n.lv=lv->n.slot=slot->look a n=look b n)->freeK lv slot a<=freeK lv slot b:=by
  intro a b h
  rcases z1n lv slot a with e|⟨n,h1,h2,⟨o,h3⟩,h4⟩
  ·omega
  ·have:=zzw lv slot b n o ((h n h1 h2).symm.trans h3) h1 h2
   omega
 exact Nat.le_antisymm (le _ _ h) (le _ _ fun n h1 h2=>(h n h1 h2).symm)
theorem Sim.again {oc:zfd} {gl:Globs} {s:S} (hs:Sim oc gl s) {m':Mem} (h:∀n,look m' n=look s.m n):Sim oc gl ⟨s.φ,m',s.w,s.Im⟩/\Ext (fun _=>True) s ⟨s.φ,m',s.w,s.Im⟩:=by
 have hE:Ext (fun _=>True) s ⟨s.φ,m',s.w,s.Im⟩:=
  ⟨rfl,rfl,rfl,Nat.le_refl _,fun b _ hf=>⟨rfl,fun i o ho=>hf i o ((h i).symm.trans ho)⟩,fun b j hi=> .inl hi,fun _ _ hi=>hi,fun _ _ _=>rfl,fun k o _ hk=>⟨o,(h k).trans hk,zcs.refl _ _⟩⟩
 exact⟨⟨fun k o hk=>ObR.ext hE (fun b _=>⟨rfl,fun _ hj=>hj⟩) (hs.objs k o ((h k).symm.trans hk)),fun i j o o' b hij hi hj=>hs.apart i j o o' b hij ((h i).symm.trans hi) ((h j).symm.trans hj),hs.imlt,hs.glob,hs.tabs.ext hE⟩,hE⟩
theorem yt0 {F:Oracle} {cx:Cx} {e:Env} {m m':Mem} {d:CO} {v:V} {n:Id} (h:zfc F cx e m d=some (v,m')) (h1:∀t,ykk d=some t->d.dst=some t->n∉ids v) (h2:∀t,ykk d=some t->d.dst≠some t->n∉ids (get e t)) (h0:(ykk d).isSome=true):look m' n=look m n:=by
 obtain⟨t,ht⟩:=Option.isSome_iff_exists.1 h0
 have key:∀slot,zd2 F cx slot e m d.op=some (v,m')->look m' n=look m n:=by
  intro slot hq
  have ht0:=ht
  unfold ykk at ht
  split at ht
  ·rename_i r s x hop
   rw [hop] at hq
   simp only [zd2,z15,zoi] at hq
   have hv:=h1 t ht0 ht
   split at hq<;>try cases hq
   split at hq
   ·split at hq<;>try cases hq
    split at hq<;>try cases hq
    exact zbz _ _ _ _ (fun e=>hv (by simp [ids,e]))
   ·split at hq<;>try cases hq
    exact zbz _ _ _ _ (fun e=>hv (by simp [ids,e]))
   ·cases hq
  ·rename_i r s x hop
   rw [hop] at hq
   simp only [zd2] at hq
   have hv:=h1 t ht0 ht
   unfold zvl at hq
   split at hq<;>try cases hq
   simp only [zoi] at hq
   repeat' (split at hq)
   all_goals first
    | (cases hq;done)
    | skip
   all_goals (cases hq;exact zbz _ _ _ _ (fun e=>hv (by simp [ids,e])))
  ·rename_i k a x hop
   rw [hop] at hq
   split at ht<;>try cases ht
   rename_i hnone
   have hv:n∉ids ((Opd.t t).ev e):=h2 t ht0 (by rw [Option.isNone_iff_eq_none.1 hnone];simp)
   simp only [zd2,Option.map_eq_some_iff,Prod.mk.injEq] at hq
   obtain⟨m1,hq,_,rfl⟩:=hq
   revert hv hq
   generalize (Opd.t t).ev e=w
   intro hv hq
   unfold zvd at hq
   split at hq<;>try cases hq
   split at hq
   ·split at hq<;>try cases hq
    split at hq<;>try cases hq
    exact zbz _ _ _ _ (fun e=>hv (by simp [ids,e]))
   ·split at hq<;>try cases hq
    split at hq<;>try cases hq
    exact zbz _ _ _ _ (fun e=>hv (by simp [ids,e]))
   ·cases hq
  ·rename_i kk mp k x hop
   rw [hop] at hq
   split at ht<;>try cases ht
   rename_i hnone
   have hv:n∉ids ((Opd.t t).ev e):=h2 t ht0 (by rw [Option.isNone_iff_eq_none.1 hnone];simp)
   simp only [zd2,Option.map_eq_some_iff,Prod.mk.injEq] at hq
   obtain⟨m1,hq,_,rfl⟩:=hq
   revert hv hq
   generalize (Opd.t t).ev e=w
   intro hv hq
   unfold zog at hq
   split at hq<;>try cases hq
   split at hq<;>try cases hq
   split at hq<;>try cases hq
   simp only [Option.map_eq_some_iff] at hq
   obtain⟨es,_,rfl⟩:=hq
   exact zbz _ _ _ _ (fun e=>hv (by simp [ids,e]))
  ·cases ht
 unfold zfc at h
 split at h
 ·exact key _ h
 ·split at h
  ·split at h
   ·exact key _ h
   ·simp only [Option.some.injEq,Prod.mk.injEq] at h;rw [h.2]
  ·simp only [Option.some.injEq,Prod.mk.injEq] at h;rw [h.2]
  ·cases h
structure yyk (oc:zfd) (gl:Globs) (ops:Array Oper) (cos:List CO) (M:Nat->Mem) (W:Nat->V) (e:Env) (s0:S) (A0:Act) (listed:Array Bool) (A:Act) (s:S):Prop where
 size:listed.size=cos.length
 closed:yq2 ops (fun i=>listed.getD i false=true)
 sim:Sim oc gl s
 ext:Ext (fun _=>True) s0 s
 mem:∀n:Id,∃k,k<=cos.length/\look s.m n=look (M k) n/\(∀j,j<k->look (M (j+1)) n≠look (M j) n->listed.getD j false=true)/\(∀j,k<=j->j<cos.length->look (M (j+1)) n≠look (M j) n->listed.getD j false=false)
 env1:∀(i:Nat) (c:CO) (t:Nat),cos[i]? =some c->listed.getD i false=true->c.dst=some t->VR s (W i) (A.tmps.getD t undef)
 env2:∀t,(∀(i:Nat) (c:CO),cos[i]? =some c->listed.getD i false=true->c.dst≠some t)->VR s (get e t) (A.tmps.getD t undef)
 tmps:A.tmps.size=A0.tmps.size/\A.defers=A0.defers
theorem ywx {listed:Array Bool} {i:Nat} (h:listed.getD i false=true):i<listed.size:=by
 rcases Nat.lt_or_ge i listed.size with h'|h'
 ·exact h'
 ·rw [Array.getD_eq_getD_getElem?,Array.getElem?_eq_none h'] at h;cases h
theorem zj6 {listed:Array Bool} {i j:Nat} (h:i<listed.size):(listed.setIfInBounds i true).getD j false=(decide (i=j)||listed.getD j false):=by
 rw [Array.getD_eq_getD_getElem?,Array.getElem?_setIfInBounds,Array.getD_eq_getD_getElem?]
 by_cases e:i=j
 ·subst e;simp [h]
 ·simp [e]
theorem yjf {F:Oracle} (hF:Good P oc gl F) (r:Option Nat) (cx:Cx) {nt:Nat} {ops:Array Oper} {cos:List CO} (hok:zvi P gl nt ops cos ops.toList=true) {chk:List (Nat×Nat)} (hd:yqd chk ops cos)
  {E:Nat->Env} {M:Nat->Mem} {W:Nat->V} (hT:z3o F cx cos E M W) (hchk:yrz (E cos.length) chk=true) {s0:S} {A0:Act} (hnt:nt<=A0.tmps.size) {Q:Exit->Act->World->Prop}
  (hQ:∀s' A',Sim oc gl s'->Ext (fun _=>True) s0 s'->s'.m=M cos.length->zfb s' (E cos.length) A'.tmps->A'.tmps.size=A0.tmps.size->A'.defers=A0.defers->Q .normal A' s'.w):
  ∀(fuel:Nat) (listed:Array Bool) (A:Act) (s:S),listed.toList.countP (fun b=> !b)<=fuel->yyk oc gl ops cos M W (E 0) s0 A0 listed A s->wpAnyIn (fen r) 0 P .any ops Q fuel listed A s.w:=by
 -- what stands under a name where nothing turns it
 have still:∀ {n:Id} (a b:Nat),a<=b->(∀j,a<=j->j<b->look (M (j+1)) n=look (M j) n)->look (M b) n=look (M a) n:=by
  intro n a b hab
  induction hab with
  | refl=>exact fun _=>rfl
  | step hab ih=>exact fun h=>(h _ hab (Nat.lt_succ_self _)).trans (ih fun j h1 h2=>h j h1 (Nat.lt_succ_of_lt h2))
 -- what keeps an object, or does not touch it
 have stay:∀ {n:Id} {o:Ob} (a b:Nat),a<=b->b<=cos.length->(∀j d,a<=j->j<b->cos[j]? =some d->look (M (j+1)) n=look (M j) n\/cls d.op=3\/(cls d.op=4/\∃t∈z4x d.op,n∈ids (get (E j) t)))->look (M a) n=some o->look (M b) n=some o:=by
  intro n o a b hab
  induction hab with
  | refl=>exact fun _ _ h=>h
  | step hab ih=>
   rename_i b
   intro hb hk h0
   obtain⟨d,hdd⟩:∃d,cos[b]? =some d:=⟨_,List.getElem?_eq_getElem (by omega)⟩
   have h1:=ih (by omega) (fun j d h1 h2=>hk j d h1 (by omega)) h0
   rcases hk b d hab (Nat.lt_succ_self _) hdd with h|h|⟨h,t,ht,hn⟩
   ·rw [h];exact h1
   ·exact yd8 h (hT.val b d hdd) n o h1
   ·rw [yam h (hT.val b d hdd) t ht n hn];exact h1
 have loudC:∀ {n:Id} {j:Nat} {d:CO},cos[j]? =some d->look (M (j+1)) n≠look (M j) n->2<=cls d.op:=by
  intro n j d hj hn
  rcases Nat.lt_or_ge (cls d.op) 2 with h|h
  ·exact absurd (by rw [ysc (by omega) (hT.val j d hj)]) hn
  ·exact h
 -- a pure allocation turns no other name than one of its own
 have pureN:∀ {n:Id} {j:Nat} {d:CO},cos[j]? =some d->zhy d=true->look (M (j+1)) n≠look (M j) n->n=zc8 cx (d.dst.getD 0) (M j):=by
  intro n j d hj hp hn
  simp only [zhy,Bool.and_eq_true] at hp
  have hv:=hT.val j d hj
  have key:∀v m',zd2 F cx (d.dst.getD 0) (E j) (M j) d.op=some (v,m')->m'=M (j+1)->n=zc8 cx (d.dst.getD 0) (M j):=by
   intro v m' h e
   obtain⟨ob,h1,_⟩:=ye0 hp.1 h
   by_cases en:n=zc8 cx (d.dst.getD 0) (M j)
   ·exact en
   ·refine absurd ?_ hn
    rw [<-e,h1,zbz _ _ _ _ (Ne.symm en)]
  unfold zfc at hv
  split at hv
  ·exact key _ _ hv rfl
  ·split at hv
   ·split at hv
    ·exact key _ _ hv rfl
    ·simp only [Option.some.injEq,Prod.mk.injEq] at hv
     exact absurd (by rw [<-hv.2]) hn
   ·simp only [Option.some.injEq,Prod.mk.injEq] at hv
    exact absurd (by rw [<-hv.2]) hn
   ·cases hv
 -- what the region's end tells of two operations
 have apartN:∀ {n:Id} {i j:Nat} {c d:CO},cos[i]? =some c->cos[j]? =some d->zml chk cos i j c d=true->(∀x,ywi c.op=some x->n∈ids (get (E i) x))->look (M (j+1)) n=look (M j) n:=by
  intro n i j c d hc hj hap hn0
  have hin:i<cos.length:=(List.getElem?_eq_some_iff.1 hc).1
  have hjn:j<cos.length:=(List.getElem?_eq_some_iff.1 hj).1
  unfold zml at hap
  split at hap
  ·rename_i x t hx ht
   simp only [Bool.and_eq_true,List.elem_eq_mem,decide_eq_true_eq,List.all_eq_true,bne_iff_ne,Bool.or_eq_true,beq_iff_eq] at hap
   obtain⟨⟨⟨hmem,h1⟩,h2⟩,h3⟩:=hap
   have hn:=hn0 x hx
   rw [<-hT.same x i cos.length (by omega) (Nat.le_refl _) fun k y hk hkn hy he=>h1 y (List.mem_of_getElem? (i:=k-i) (by rw [List.getElem?_drop,show i+(k-i)=k by omega];exact hy)) he] at hn
   have hno:n∉ids (get (E cos.length) t):=by
    have:∀l:List (Nat×Nat),yrz (E cos.length) l=true->(x,t)∈l->∀i∈ids (get (E cos.length) x),i∉ids (get (E cos.length) t):=by
     intro l
     induction l with
     | nil=>intro _ h;cases h
     | cons p r ih=>
      obtain⟨a,b⟩:=p
      intro hd hm
      simp only [yrz,Bool.and_eq_true,List.all_eq_true,Bool.not_eq_true',List.elem_eq_mem,decide_eq_false_iff_not] at hd
      rcases List.mem_cons.1 hm with e|hm
      ·cases e;exact hd.1
      ·exact ih hd.2 hm
    exact this chk hchk hmem n hn
   have hend:get (E cos.length) t=get (E (j+1)) t:=hT.same t (j+1) cos.length (by omega) (Nat.le_refl _) fun k y hk hkn hy he=>h2 y (List.mem_of_getElem? (i:=k-(j+1)) (by rw [List.getElem?_drop,show j+1+(k-(j+1))=k by omega];exact hy)) he
   rw [hend] at hno
   have hv:=hT.val j d hj
   have hE:=hT.env j d hj
   refine yt0 hv (fun t' ht'=> ?_) (fun t' ht' hd'=> ?_) (by rw [ht];rfl)
   ·rw [ht] at ht'
    obtain rfl:=Option.some.inj ht'
    exact fun hd'=>by
     rw [hE,hd'] at hno
     rw [show get (put? (E j) (some t) (W j)) t=W j from zmq _ _ _] at hno
     exact hno
   ·rw [ht] at ht'
    obtain rfl:=Option.some.inj ht'
    rcases h3 with h3|h3
    ·rw [hE,h3] at hno
     exact hno
    ·exact absurd h3 hd'
  ·cases hap
 -- when nothing is ready, all has been run
 have alldone:∀(listed:Array Bool) (A:Act) (s:S),yyk oc gl ops cos M W (E 0) s0 A0 listed A s->Region.ready .any ops listed=[]->Q .normal A s.w:=by
  intro listed A s hI hr
  have all:∀i,i<cos.length->listed.getD i false=true:=by
   intro i
   induction i using Nat.strongRecOn with
   | ind i ih=>
    intro hi
    cases hl:listed.getD i false with
    | true=>rfl
    | false=>
     obtain⟨o,ho⟩:∃o,ops[i]? =some o:=⟨_,Array.getElem?_eq_getElem (by rw [<-hd.len];exact hi)⟩
     have:i∈Region.ready .any ops listed:=by
      refine mem_ready.2 ⟨?_,o,ho,fun e he hb=> ?_⟩
      ·have hlt:i<listed.size:=by rw [hI.size];exact hi
       rw [Array.getD_eq_getD_getElem?] at hl ⊢
       simp [hlt] at hl ⊢;exact hl
      ·have hlt:=hd.edge i o e ho he hb
       exact ih e.on hlt (by omega)
     rw [hr] at this
     cases this
  obtain⟨q1,q2⟩:=hI.sim.again (m':=M cos.length) fun n=>by
   obtain⟨k,hk,hm,h1,h2⟩:=hI.mem n
   rw [hm]
   refine still k cos.length hk (fun j hj hjn=> ?_)
   by_cases hch:look (M (j+1)) n=look (M j) n
   ·exact hch
   ·have:=h2 j hj hjn hch
    rw [all j hjn] at this;cases this
  refine hQ ⟨s.φ,M cos.length,s.w,s.Im⟩ A q1 (Ext.trans hI.ext q2 (fun _ _=>trivial)) rfl (fun t=>VR.ext q2 _ _ (fun _ _=>trivial) ?_) hI.tmps.1 hI.tmps.2
  ·by_cases hex:∃(i:Nat) (c:CO),cos[i]? =some c/\c.dst=some t
   ·obtain⟨i,c,hc,hct⟩:=hex
    have hi:i<cos.length:=(List.getElem?_eq_some_iff.1 hc).1
    rw [hT.wrote hc hct (fun k d hk hkt=>hd.uniq k i d c t hk hc hkt hct) hi (Nat.le_refl _)]
    exact hI.env1 i c t hc (all i hi) hct
   ·rw [hT.same t 0 cos.length (Nat.zero_le _) (Nat.le_refl _) fun k c _ _ hc he=>hex ⟨k,c,hc,he⟩]
    exact hI.env2 t fun i c hc _ he=>hex ⟨i,c,hc,he⟩
 intro fuel
 induction fuel with
 | zero=>
  intro listed A s hcount hI
  have hr:Region.ready .any ops listed=[]:=by
   cases hr:Region.ready .any ops listed with
   | nil=>rfl
   | cons i q=>
    have hi:i∈Region.ready .any ops listed:=by rw [hr];simp
    have h0:=(mem_ready.1 hi).1
    have hlt:i<listed.size:=by
     rcases Nat.lt_or_ge i listed.size with h'|h'
     ·exact h'
     ·rw [Array.getD_eq_getD_getElem?,Array.getElem?_eq_none h'] at h0;cases h0
    have hf:listed[i]=false:=by rw [Array.getD_eq_getD_getElem?] at h0;simpa [hlt] using h0
    have:0<listed.toList.countP (fun b=> !b):=List.countP_pos_iff.2 ⟨listed[i],by simp,by simp [hf]⟩
    omega
  exact⟨hr,alldone listed A s hI hr⟩
 | succ fuel ih=>
  intro listed A s hcount hI
  refine⟨fun hr=>alldone listed A s hI hr,fun i hi=> ?_⟩
  obtain⟨h0,o,ho,hedges⟩:=mem_ready.1 hi
  have hio:i<ops.size:=(Array.getElem?_eq_some_iff.1 ho).1
  have hin:i<cos.length:=by rw [hd.len];exact hio
  have hlt:i<listed.size:=by rw [hI.size];exact hin
  have hf:listed[i]=false:=by rw [Array.getD_eq_getD_getElem?] at h0;simpa [hlt] using h0
  have hnl:listed.getD i false=false:=by rw [Array.getD_eq_getD_getElem?];simp [hlt,hf]
  obtain⟨c,hc⟩:∃c,cos[i]? =some c:=⟨_,List.getElem?_eq_getElem hin⟩
  have hco:=(z7a cos ops.toList hok).2 i c o hc (by simpa using ho)
  obtain⟨hdst,hdlt⟩:=yfr hco
  -- what stands before it has been run
  have before:∀j,j≠i->z0c ops i j->listed.getD j false=true:=by
   intro j hj hn
   have:=hn (fun k=>k=i\/listed.getD k false=true) (fun k o' e hk hp he hb=>by
    rcases hp with rfl|hp
    ·rw [ho] at hk
     obtain rfl:=Option.some.inj hk
     exact .inr (hedges e he hb)
    ·exact .inr (hI.closed k o' e hk hp he hb)) (.inl rfl)
   exact this.resolve_left hj
  have behind:∀j,z0c ops j i->listed.getD j false=true->False:=by
   intro j hn hj
   have:=hn (fun k=>listed.getD k false=true) hI.closed hj
   rw [hnl] at this;cases this
  -- what it reads
  let e1:Env:=(E i).filter fun p=>(zkx c).elem p.1
  have hread:∀t∈zkx c,get e1 t=get (E i) t:=by
   intro t ht
   have:∀(l:Env),get (l.filter fun p=>(zkx c).elem p.1) t=get l t:=by
    intro l
    induction l with
    | nil=>rfl
    | cons p l ihl=>
     obtain⟨u,v⟩:=p
     rw [List.filter_cons]
     split
     ·simp only [get];rw [ihl]
     ·rename_i hu
      have hne:u≠t:=fun e=>hu (by subst e;simpa using ht)
      simp only [get,hne,if_false];exact ihl
   exact this _
  have hnread:∀t,t∉zkx c->get e1 t= .undef:=by
   intro t ht
   have:∀(l:Env),get (l.filter fun p=>(zkx c).elem p.1) t= .undef:=by
    intro l
    induction l with
    | nil=>rfl
    | cons p l ihl=>
     obtain⟨u,v⟩:=p
     rw [List.filter_cons]
     split
     ·rename_i hu
      have hne:u≠t:=fun e=>ht (by subst e;simpa using hu)
      simp only [get,hne,if_false];exact ihl
     ·exact ihl
   exact this _
  have henv:zfb s e1 A.tmps:=by
   intro t
   by_cases ht:t∈zkx c
   ·rw [hread t ht]
    by_cases hex:∃(j:Nat) (d:CO),cos[j]? =some d/\d.dst=some t
    ·obtain⟨j,d,hj,hjt⟩:=hex
     have late:i<=j->listed.getD j false=false->VR s (get (E i) t) (A.tmps.getD t undef):=by
      intro hij hjl
      rw [hT.same t 0 i (Nat.zero_le _) (by omega) fun k d' _ hki hk he=>by
       have:=hd.uniq k j d' d t hk hj he hjt
       omega]
      refine hI.env2 t fun k d' hk hkl he=> ?_
      obtain rfl:=hd.uniq k j d' d t hk hj he hjt
      rw [hjl] at hkl;cases hkl
     rcases hd.read i j c d t hc hj ht hjt with⟨hji,hn⟩|rfl|⟨hij,hn⟩
     ·rw [hT.wrote hj hjt (fun k d' hk hkt=>hd.uniq k j d' d t hk hj hkt hjt) hji (by omega)]
      exact hI.env1 j d t hj (before j (by omega) hn) hjt
     ·exact late (Nat.le_refl _) hnl
     ·refine late (by omega) ?_
      cases hjl:listed.getD j false with
      | false=>rfl
      | true=>exact(behind j hn hjl).elim
    ·rw [hT.same t 0 i (Nat.zero_le _) (by omega) fun k d _ _ hk he=>hex ⟨k,d,hk,he⟩]
     exact hI.env2 t fun j d hj _ he=>hex ⟨j,d,hj,he⟩
   ·rw [hnread t ht];trivial
  -- its memory
  have hval:=hT.val i c hc
  rw [<-ycb c hread] at hval
  have npure:∀ {d:CO},(cls c.op<=2\/cls c.op=4)->(zhy c&&zhy d)=false/\(zhy d&&zhy c)=false:=by
   intro d h
   have:zhy c=false:=by
    unfold zhy
    cases hp:ybv c.op with
    | false=>rfl
    | true=>have:=yjr hp;omega
   rw [this];simp
  have nodown:cls c.op≠0->∀(j:Nat) (d:CO),cos[j]? =some d->2<=cls d.op->j<i->listed.getD j false=false->zjw cos c.op d.op=true\/(zhy c&&zhy d)=true\/zml chk cos i j c d=true:=by
   intro hc0 j d hj hdl hji hjl
   cases hp:zjw cos c.op d.op with
   | true=>exact .inl rfl
   | false=>
    cases hq:(zhy c&&zhy d) with
    | true=>exact .inr (.inl rfl)
    | false=>
     cases hr:zml chk cos i j c d with
     | true=>exact .inr (.inr rfl)
     | false=>rw [before j (by omega) (hd.loud i j c d hc hj hji hc0 (by omega) hp hq hr (zfv hdl))] at hjl;cases hjl
  have noup:cls c.op≠0->∀(j:Nat) (d:CO),cos[j]? =some d->2<=cls d.op->i<=j->listed.getD j false=true->zjw cos d.op c.op=true\/(zhy d&&zhy c)=true\/zml chk cos i j c d=true:=by
   intro hc0 j d hj hdl hij hjl
   rcases Nat.lt_or_ge i j with h|h
   ·cases hp:zjw cos d.op c.op with
    | true=>exact .inl rfl
    | false=>
     cases hq:(zhy d&&zhy c) with
     | true=>exact .inr (.inl rfl)
     | false=>
      cases hr:zml chk cos i j c d with
      | true=>exact .inr (.inr rfl)
      | false=>exact(behind j (hd.loud j i d c hj hc h (by omega) hc0 hp hq (zfv hdl) hr) hjl).elim
   ·obtain rfl:i=j:=by omega
    rw [hnl] at hjl;cases hjl
  have hpass:∀x y:COp,zjw cos x y=true->(cls y=1/\cls x=1)\/(cls y=1/\cls x=3)\/(cls y=3/\cls x=1/\ztf [] x=[])\/(cls y=1/\cls x=4/\zr2 cos y x=true)\/(cls y=4/\cls x=1/\zr2 cos x y=true):=by
   intro x y h
   simp only [zjw,Bool.or_eq_true,Bool.and_eq_true,beq_iff_eq,List.isEmpty_iff] at h
   rcases h with(((h|h)|h)|h)|h
   ·exact .inl h
   ·exact .inr (.inl h)
   ·exact .inr (.inr (.inl ⟨h.1.1,h.1.2,h.2⟩))
   ·exact .inr (.inr (.inr (.inl ⟨h.1.1,h.1.2,h.2⟩)))
   ·exact .inr (.inr (.inr (.inr ⟨h.1.1,h.1.2,h.2⟩)))
  -- what a zr2 load asks for
  have hguard:∀w:COp,zr2 cos c.op w=true->ztf [] c.op=[]/\∀n∈ztf e1 c.op,∀j,j<=cos.length->∃t∈z4x w,n∈ids (get (E j) t):=by
   intro w hw
   unfold zr2 at hw
   split at hw
   ·rename_i a hop
    simp only [Bool.and_eq_true,List.elem_eq_mem,decide_eq_true_eq,List.all_eq_true,bne_iff_ne] at hw
    have hra:a∈zkx c:=by
     have:=(zvy hop []).1
     unfold zkx
     split<;>simp [this]
    have hnw:∀(k':Nat) (d:CO),cos[k']? =some d->d.dst≠some (zp3 cos a):=fun k' d hd'=>hw.2 d (List.mem_of_getElem? hd')
    rw [(zvy hop []).2,(zvy hop e1).2]
    refine⟨rfl,fun n hn j hj=>⟨zp3 cos a,hw.1,?_⟩⟩
    have hn':n∈ids (get e1 a):=hn
    rw [hread a hra] at hn'
    have hb:n∈ids (get (E 0) (zp3 cos a)):=by
     rcases z9u cos a hc hra with e|⟨j0,x,h1,h2,h3,h4,h5⟩
     ·rw [e] at hnw ⊢
      rw [hT.same a 0 i (Nat.zero_le _) (by omega) fun k' d _ _ hd'=>hnw k' d hd'] at hn'
      exact hn'
     ·rw [hT.wrote h2 h3 (fun k' d' hk hkt=>hd.uniq k' j0 d' x a hk h2 hkt h3) h1 (by omega)] at hn'
      have hv:=hT.val j0 x h2
      rw [<-hT.same (zp3 cos a) 0 j0 (Nat.zero_le _) (by omega) fun k' d _ _ hd'=>hnw k' d hd']
      rcases h5 with⟨off,h5⟩|⟨len,sz,k',h5⟩
      ·exact yk9 h4 h5 hv n hn'
      ·exact yso h4 h5 hv n hn'
    rw [hT.same (zp3 cos a) 0 j (Nat.zero_le _) hj fun k' d _ _ hd'=>hnw k' d hd']
    exact hb
   ·cases hw
  have loudly:∀x y:COp,2<=cls x->2<=cls y->zjw cos x y=false:=by
   intro x y hx hy
   cases hp:zjw cos x y with
   | false=>rfl
   | true=>have:=hpass x y hp;omega
  -- the world as it is, memory listed so that the text's step fits
  obtain⟨s1,hw1,hsim1,hext1,m',hev,hmem'⟩:∃s1:S,s1.w=s.w/\Sim oc gl s1/\Ext (fun _=>True) s s1/\∃m',zfc F cx e1 s1.m c=some (W i,m')/\
    ∀n:Id,∃k,k<=cos.length/\look m' n=look (M k) n/\(∀j,j<k->look (M (j+1)) n≠look (M j) n->j=i\/listed.getD j false=true)/\(∀j,k<=j->j<cos.length->look (M (j+1)) n≠look (M j) n->j≠i/\listed.getD j false=false):=by
   rcases Nat.lt_or_ge (cls c.op) 2 with hc2|hc2
   ·have hsame:zfc F cx e1 s.m c=some (W i,s.m):=by
     by_cases hc0:cls c.op=0
     ·exact(yxv hc0 hval).2 s.m
     ·have hc1:cls c.op=1:=by omega
      have nopure:∀(d:CO),(zhy c&&zhy d)≠true/\(zhy d&&zhy c)≠true:=fun d=>by
       rw [(npure (d:=d) (.inl (by omega))).1,(npure (d:=d) (.inl (by omega))).2];simp
      have hrd:∀n∈ztf e1 c.op,∀x,ywi c.op=some x->n∈ids (get (E i) x):=by
       intro n hn x hx
       have h1:=yeu hx e1
       rw [h1.2.1] at hn
       rw [hread x (by unfold zkx;split<;>simp [h1.1])] at hn
       exact hn
      refine yhe (fun n hn o hl=> ?_) hc1 hval
      obtain⟨k,hk,hm,hk1,hk2⟩:=hI.mem n
      rw [hm]
      rcases Nat.le_total i k with h|h
      ·refine stay i k h hk (fun j d h1 h2 hj=> ?_) hl
       by_cases hch:look (M (j+1)) n=look (M j) n
       ·exact .inl hch
       ·have hdl:=loudC hj hch
        have hmp:zjw cos d.op c.op=true:=by
         rcases noup hc0 j d hj hdl h1 (hk1 j h2 hch) with h|h|h
         ·exact h
         ·exact absurd h (nopure d).2
         ·exact absurd (apartN hc hj h (hrd n hn)) hch
        rcases hpass _ _ hmp with h|h|h|h|h
        ·omega
        ·exact .inr (.inl h.2)
        ·omega
        ·exact .inr (.inr ⟨h.2.1,(hguard d.op h.2.2).2 n hn j (by omega)⟩)
        ·omega
      ·by_cases hloud:∃(j:Nat) (d:CO),k<=j/\j<i/\cos[j]? =some d/\look (M (j+1)) n≠look (M j) n
       ·have pass:∀(j:Nat) (d:CO),k<=j->j<i->cos[j]? =some d->look (M (j+1)) n≠look (M j) n->zjw cos c.op d.op=true:=fun j d h1 h2 hj hch=>by
         rcases nodown hc0 j d hj (loudC hj hch) h2 (hk2 j h1 (by omega) hch) with h|h|h
         ·exact h
         ·exact absurd h (nopure d).1
         ·exact absurd (apartN hc hj h (hrd n hn)) hch
        have hclosed:ztf [] c.op=[]:=by
         obtain⟨j,d,h1,h2,hj,hch⟩:=hloud
         have hdl:=loudC hj hch
         rcases hpass _ _ (pass j d h1 h2 hj hch) with h|h|h|h|h
         ·omega
         ·omega
         ·exact h.2.2
         ·omega
         ·exact(hguard d.op h.2.2).1
        obtain⟨o',ho'⟩:∃o',look (M k) n=some o':=by
         rw [<-hm]
         rcases yhm hn with⟨t,_,hi⟩|hi
         ·exact z68 s _ _ (henv t) n hi
         ·rw [hclosed] at hi;simp at hi
        have:=stay k i h (by omega) (fun j d h1 h2 hj=>by
         by_cases hch:look (M (j+1)) n=look (M j) n
         ·exact .inl hch
         ·have hdl:=loudC hj hch
          rcases hpass _ _ (pass j d h1 h2 hj hch) with h|h|h|h|h
          ·omega
          ·omega
          ·exact .inr (.inl h.1)
          ·omega
          ·exact .inr (.inr ⟨h.1,(hguard d.op h.2.2).2 n hn j (by omega)⟩)) ho'
        rw [hl] at this
        rw [ho',this]
       ·rw [<-still k i h fun j h1 h2=> ?_]
        ·exact hl
        ·by_cases hch:look (M (j+1)) n=look (M j) n
         ·exact hch
         ·exact absurd ⟨j,cos[j]'(by omega),h1,h2,List.getElem?_eq_getElem (by omega),hch⟩ hloud
    refine⟨s,rfl,hI.sim,Ext.refl _ _,s.m,hsame,fun n=> ?_⟩
    obtain⟨k,hk,hm,hk1,hk2⟩:=hI.mem n
    refine⟨k,hk,hm,fun j hj hch=> .inr (hk1 j hj hch),fun j hj hjn hch=>⟨?_,hk2 j hj hjn hch⟩⟩
    rintro rfl
    have:=loudC hc hch
    omega
   ·have hc0:cls c.op≠0:=by omega
    by_cases hpc:zhy c=true
    ·--a new object:its name is the text's
     have order:∀(n:Id) (j:Nat) (d:CO),cos[j]? =some d->j≠i->look (M (j+1)) n≠look (M j) n->n.slot=c.dst.getD 0->(j<i->listed.getD j false=true)/\(i<j->listed.getD j false=false):=by
      intro n j d hj hji hch hns
      have hdl:=loudC hj hch
      have hnp:zhy d=false:=by
       cases hp:zhy d with
       | false=>rfl
       | true=>
        exfalso
        have:=pureN hj hp hch
        rw [this] at hns
        simp only [zhy,Bool.and_eq_true,Option.isSome_iff_exists] at hp hpc
        obtain⟨_,t,ht⟩:=hp
        obtain⟨_,u,hu⟩:=hpc
        simp only [zc8,ht,hu,Option.getD_some] at hns
        subst hns
        exact hji (hd.uniq j i d c t hj hc ht hu)
      refine⟨fun h=>before j hji (hd.loud i j c d hc hj h hc0 (by omega) (loudly _ _ hc2 hdl) (by rw [hnp,Bool.and_false]) (zfv hc2) (zfv hdl)),fun h=> ?_⟩
      cases hl:listed.getD j false with
      | false=>rfl
      | true=>exact(behind j (hd.loud j i d c hj hc h (by omega) hc0 (loudly _ _ hdl hc2) (by rw [hnp,Bool.false_and]) (zfv hdl) (zfv hc2)) hl).elim
     have sameSlot:∀n:Id,n.slot=c.dst.getD 0->look s.m n=look (M i) n:=by
      intro n hns
      obtain⟨k,hk,hm,hk1,hk2⟩:=hI.mem n
      rw [hm]
      rcases Nat.le_total i k with h|h
      ·refine still i k h fun j h1 h2=> ?_
       by_cases hch:look (M (j+1)) n=look (M j) n
       ·exact hch
       ·have hjl:=hk1 j h2 hch
        have hji:j≠i:=by rintro rfl;rw [hnl] at hjl;cases hjl
        have:=(order n j _ (List.getElem?_eq_getElem (by omega)) hji hch hns).2 (by omega)
        rw [hjl] at this;cases this
      ·refine(still k i h fun j h1 h2=> ?_).symm
       by_cases hch:look (M (j+1)) n=look (M j) n
       ·exact hch
       ·have hjl:=hk2 j h1 (by omega) hch
        have:=(order n j _ (List.getElem?_eq_getElem (by omega)) (by omega) hch hns).1 h2
        rw [hjl] at this;cases this
     have hid:zc8 cx (c.dst.getD 0) s.m=zc8 cx (c.dst.getD 0) (M i):=by
      unfold zc8
      rw [yb0 fun n _ h=>sameSlot n h]
     have hpa:ybv c.op=true:=by
      simp only [zhy,Bool.and_eq_true] at hpc;exact hpc.1
     have hstep:∃m',zfc F cx e1 s.m c=some (W i,m')/\∀n,(look m' n=look s.m n/\look (M (i+1)) n=look (M i) n)\/(n.slot=c.dst.getD 0/\look m' n=look (M (i+1)) n):=by
      have key:zd2 F cx (c.dst.getD 0) e1 (M i) c.op=some (W i,M (i+1))->∃m',zd2 F cx (c.dst.getD 0) e1 s.m c.op=some (W i,m')/\∀n,(look m' n=look s.m n/\look (M (i+1)) n=look (M i) n)\/(n.slot=c.dst.getD 0/\look m' n=look (M (i+1)) n):=by
       intro h
       obtain⟨ob,h1,h2⟩:=ye0 hpa h
       refine⟨_,h2 s.m hid,fun n=> ?_⟩
       by_cases en:n=zc8 cx (c.dst.getD 0) (M i)
       ·subst en
        exact .inr ⟨rfl,by rw [h1,zci,zci]⟩
       ·exact .inl ⟨zbz _ _ _ _ (Ne.symm en),by rw [h1,zbz _ _ _ _ (Ne.symm en)]⟩
      have skip:(∀m2,zfc F cx e1 m2 c=some (V.skip,m2))->∃m',zfc F cx e1 s.m c=some (W i,m')/\∀n,(look m' n=look s.m n/\look (M (i+1)) n=look (M i) n)\/(n.slot=c.dst.getD 0/\look m' n=look (M (i+1)) n):=by
       intro h
       rw [h] at hval
       simp only [Option.some.injEq,Prod.mk.injEq] at hval
       exact⟨s.m,by rw [h,hval.1],fun n=> .inl ⟨rfl,by rw [hval.2]⟩⟩
      have run:(∀m2,zfc F cx e1 m2 c=zd2 F cx (c.dst.getD 0) e1 m2 c.op)->∃m',zfc F cx e1 s.m c=some (W i,m')/\∀n,(look m' n=look s.m n/\look (M (i+1)) n=look (M i) n)\/(n.slot=c.dst.getD 0/\look m' n=look (M (i+1)) n):=by
       intro h
       rw [h] at hval
       obtain⟨m',k1,k2⟩:=key hval
       exact⟨m',(h _).trans k1,k2⟩
      cases hg:c.guard with
      | none=>exact run fun m2=>by simp only [zfc,hg]
      | some p=>
       obtain⟨t,w⟩:=p
       cases hb:get e1 t with
       | skip=>exact skip fun m2=>by simp only [zfc,hg,hb]
       | d x=>
        cases x with
        | bool b=>
         by_cases hbw:b=w
         ·exact run fun m2=>by simp only [zfc,hg,hb,if_pos hbw]
         ·exact skip fun m2=>by simp only [zfc,hg,hb,if_neg hbw]
        | _=>simp [zfc,hg,hb] at hval
       | _=>simp [zfc,hg,hb] at hval
     obtain⟨m',hev,hlk⟩:=hstep
     refine⟨s,rfl,hI.sim,Ext.refl _ _,m',hev,fun n=> ?_⟩
     rcases hlk n with⟨h1,h2⟩|⟨hns,h1⟩
     ·obtain⟨k,hk,hm,hk1,hk2⟩:=hI.mem n
      refine⟨k,hk,h1.trans hm,fun j hj hch=> .inr (hk1 j hj hch),fun j hj hjn hch=>⟨?_,hk2 j hj hjn hch⟩⟩
      rintro rfl
      exact hch h2
     ·refine⟨i+1,by omega,h1,fun j hj hch=> ?_,fun j hj hjn hch=>⟨by omega,?_⟩⟩
      ·by_cases hji:j=i
       ·exact .inl hji
       ·exact .inr ((order n j _ (List.getElem?_eq_getElem (by omega)) hji hch hns).1 (by omega))
      ·exact(order n j _ (List.getElem?_eq_getElem hjn) (by omega) hch hns).2 (by omega)
    ·--all that turns memory before it has been run,nothing behind it
     have hnp:zhy c=false:=Bool.eq_false_iff.2 hpc
     have order:∀(n:Id) (j:Nat) (d:CO),cos[j]? =some d->j≠i->look (M (j+1)) n≠look (M j) n->(j<i->listed.getD j false=true)/\(i<j->listed.getD j false=false):=by
      intro n j d hj hji hch
      have hdl:=loudC hj hch
      refine⟨fun h=>before j hji (hd.loud i j c d hc hj h hc0 (by omega) (loudly _ _ hc2 hdl) (by rw [hnp,Bool.false_and]) (zfv hc2) (zfv hdl)),fun h=> ?_⟩
      cases hl:listed.getD j false with
      | false=>rfl
      | true=>exact(behind j (hd.loud j i d c hj hc h (by omega) hc0 (loudly _ _ hdl hc2) (by rw [hnp,Bool.and_false]) (zfv hdl) (zfv hc2)) hl).elim
     obtain⟨q1,q2⟩:=hI.sim.again (m':=M i) fun n=>by
      obtain⟨k,hk,hm,hk1,hk2⟩:=hI.mem n
      rw [hm]
      rcases Nat.le_total i k with h|h
      ·refine(still i k h fun j h1 h2=> ?_).symm
       by_cases hch:look (M (j+1)) n=look (M j) n
       ·exact hch
       ·have hjl:=hk1 j h2 hch
        have hji:j≠i:=by rintro rfl;rw [hnl] at hjl;cases hjl
        have:=(order n j _ (List.getElem?_eq_getElem (by omega)) hji hch).2 (by omega)
        rw [hjl] at this;cases this
      ·refine still k i h fun j h1 h2=> ?_
       by_cases hch:look (M (j+1)) n=look (M j) n
       ·exact hch
       ·have hjl:=hk2 j h1 (by omega) hch
        have:=(order n j _ (List.getElem?_eq_getElem (by omega)) (by omega) hch).1 h2
        rw [hjl] at this;cases this
     refine⟨⟨s.φ,M i,s.w,s.Im⟩,rfl,q1,q2,M (i+1),hval,fun n=>⟨i+1,by omega,rfl,fun j hj hch=> ?_,fun j hj hjn hch=>⟨by omega,?_⟩⟩⟩
     ·by_cases hji:j=i
      ·exact .inl hji
      ·exact .inr ((order n j _ (List.getElem?_eq_getElem (by omega)) hji hch).1 (by omega))
     ·exact(order n j _ (List.getElem?_eq_getElem hjn) (by omega) hch).2 (by omega)
  rw [<-hw1]
  have henv1:zfb s1 e1 A.tmps:=fun t=>VR.ext hext1 _ _ (fun _ _=>trivial) (henv t)
  refine yfe hF hsim1 henv1 r cx (by rw [hI.tmps.1];exact hnt) ho hco hev fun s' x q1 q2' q3 q4=> ?_
  have q2:=Ext.trans hext1 q2' (fun _ _=>trivial)
  have hsz:=yek A o.dst x
  refine ih (listed.setIfInBounds i true) (A.put o.dst x) s' ?_ ⟨by simpa using hI.size,fun j o' e hj hp he hb=> ?_,q1,Ext.trans hI.ext q2 (fun _ _=>trivial),fun n=> ?_,
   fun j d t hj hl hdt=> ?_,fun t hno=> ?_,⟨hsz.1.trans hI.tmps.1,hsz.2.trans hI.tmps.2⟩⟩
  ·rw [Array.toList_setIfInBounds,List.countP_set (by simpa using hlt)]
   have hpos:0<listed.toList.countP (fun b=> !b):=List.countP_pos_iff.2 ⟨listed[i],by simp,by simp [hf]⟩
   simp only [Array.getElem_toList,hf,Bool.not_false,Bool.not_true,if_true,Bool.false_eq_true,if_false]
   omega
  ·simp only [zj6 hlt,Bool.or_eq_true,decide_eq_true_eq] at hp ⊢
   rcases hp with rfl|hp
   ·rw [ho] at hj
    obtain rfl:=Option.some.inj hj
    exact .inr (hedges e he hb)
   ·exact .inr (hI.closed j o' e hj hp he hb)
  ·obtain⟨k,hk,hmk,hka,hkb⟩:=hmem' n
   refine⟨k,hk,by rw [q3];exact hmk,fun j hj hch=> ?_,fun j hj hjn hch=> ?_⟩
   ·simp only [zj6 hlt,Bool.or_eq_true,decide_eq_true_eq]
    exact(hka j hj hch).imp Eq.symm id
   ·obtain⟨h1,h2⟩:=hkb j hj hjn hch
    rw [zj6 hlt,h2,decide_eq_false (Ne.symm h1)];rfl
  ·simp only [zj6 hlt,Bool.or_eq_true,decide_eq_true_eq] at hl
   by_cases e:i=j
   ·subst e
    rw [hc] at hj
    obtain rfl:=Option.some.inj hj
    have hot:o.dst=some t:=hdst▸hdt
    rw [hot,z6q A t x (by have:=hdlt t hdt;rw [hI.tmps.1];omega) t]
    simpa using q4
   ·have hl:=hl.resolve_left e
    have hv:=VR.ext q2 _ _ (fun _ _=>trivial) (hI.env1 j d t hj hl hdt)
    cases hod:o.dst with
    | none=>exact hv
    | some u=>
     have hu:c.dst=some u:=hdst.trans hod
     have hne:u≠t:=fun e'=>e (hd.uniq i j c d t hc hj (by rw [hu,e']) hdt)
     rw [z6q A u x (by have:=hdlt u hu;rw [hI.tmps.1];omega) t]
     simpa [hne] using hv
  ·have hv:=VR.ext q2 _ _ (fun _ _=>trivial) (hI.env2 t fun j d hj hl=>hno j d hj (by simp [zj6 hlt,hl]))
   cases hod:o.dst with
   | none=>exact hv
   | some u=>
    have hu:c.dst=some u:=hdst.trans hod
    have hne:u≠t:=fun e'=>hno i c hc (by simp [zj6 hlt]) (by rw [hu,e'])
    rw [z6q A u x (by have:=hdlt u hu;rw [hI.tmps.1];omega) t]
    simpa [hne] using hv
theorem yaf {F:Oracle} (hF:Good P oc gl F) (hm:P.follows .mixedOrders=true) (r:Option Nat) (cx:Cx) {nt:Nat} {ops:Array Oper} {cos:List CO} (draw:Bool) (id:Nat) (hok:zvi P gl nt ops cos ops.toList=true) {chk:List (Nat×Nat)}
  {e e':Env} (hdr:draw=true->z8o chk ops cos=true/\yrz e' chk=true) {m':Mem} {s:S} {A:Act} (h:zpv F cx cos e s.m=some (e',m')) (hs:Sim oc gl s) (he:zfb s e A.tmps) (hnt:nt<=A.tmps.size) {Q:Exit->Act->World->Prop}
  (hQ:∀s' A',Sim oc gl s'->Ext (fun _=>True) s s'->s'.m=m'->zfb s' e' A'.tmps->A'.tmps.size=A.tmps.size->A'.defers=A.defers->Q .normal A' s'.w):
  (Code.region id ops draw).wpIn (fen r) 0 P Q A s.w:=by
 cases draw with
 | false=>
  refine wpIn_region ?_
  have:=yli hF r cx cos ops.toList 0 e e' m' s A (fun k _=>by simp) hok h hs he hnt hQ
  rw [List.range_eq_range']
  simpa using this
 | true=>
  have hd:=yls hok (hdr rfl).1
  obtain⟨E,M,W,hT,hE,hM,hE',hM'⟩:=ygb cos e e' s.m m' h
  refine wpIn_region_any hm ?_
  obtain⟨k1,k2⟩:=hs.calm {s.w with drawn:=s.w.drawn+1} s.Im rfl rfl rfl (Nat.le_refl _) (fun _ _=>rfl) (fun _ _ h=>h) (fun _ _ h=> .inl h) hs.imlt
  have hsz:(Array.replicate ops.size false).toList.countP (fun b=> !b)<=ops.size:=by
   refine Nat.le_trans List.countP_le_length ?_
   simp
  have nol:∀i,(Array.replicate ops.size false).getD i false=false:=by
   intro i
   rw [Array.getD_eq_getD_getElem?]
   by_cases h:i<ops.size
   ·simp [h]
   ·simp [h]
  refine yjf (Q:=Q) hF r cx hok hd hT (by rw [hE'];exact(hdr rfl).2) (s0:=s) (A0:=A) hnt (fun s' A' q1 q2 q3 q4 q5 q6=>hQ s' A' q1 q2 (q3.trans hM') (hE'▸q4) q5 q6) ops.size _ A ⟨s.φ,s.m,{s.w with drawn:=s.w.drawn+1},s.Im⟩ hsz
   ⟨by simp [hd.len],fun i o e _ hp=>absurd ((nol i).symm.trans hp) (by simp),k1,k2,fun n=>⟨0,Nat.zero_le _,by rw [hM],fun j h=>absurd h (Nat.not_lt_zero _),fun j _ _ _=>nol j⟩,
    fun i c t _ hp=>absurd ((nol i).symm.trans hp) (by simp),fun t _=> ?_,rfl,rfl⟩
  rw [hE]
  exact VR.ext k2 _ _ (fun _ _=>trivial) (he t)
end
end Go.Evl
namespace Go.Evl
open Go.RowKit
theorem ygx {F:Fence} {n:Nat} {P:Program} {Q:Exit->Act->World->Prop} {a:Act} {w:World} {c:Code} (h:c.wpIn F n P (Exit.noGoto Q) a w):(Code.scope c).wpIn F n P Q a w:=by
 intro b k cs hro hb hr
 have s0:∀(a:Act) (w:World),Go.step P (lone (b.atR a (.code (.scope c)::k)) cs w)= .next (lone (b.atR a (.code c:: .inScope c::k)) cs w):=
  fun a w=>step_lone_go (by simp [stepG,stepG.exec,Frame.atR])
 have s1:∀(a:Act) (w:World),Go.step P (lone (b.atR a (.inScope c::k)) cs w)= .next (lone (b.atR a k) cs w):=
  fun a w=>step_lone_go (by simp [stepG,stepG.exec,Frame.atR])
 have h0:(lone (b.atR a (.code (.scope c)::k)) cs w).fenced P F:=fenced_calm hb hr rfl
 obtain⟨e,a₁,w₁,hq,harr⟩:=h b (.inScope c::k) cs hro hb hr
 cases e with
 | normal=>exact⟨.normal,a₁,w₁,hq,.head h0 (s0 a w) (StepsIn.trans harr (.one (fenced_calm hb hr rfl) (s1 a₁ w₁)))⟩
 | exit id=>
  have hx:exitTo id (.inScope c::k)=exitTo id k:=by simp [exitTo]
  exact⟨.exit id,a₁,w₁,hq,fun k' hk=> .head h0 (s0 a w) (harr.1 k' (by rw [hx];exact hk)),
   fun hr' hk=>let ⟨k₁,h1,h2⟩:=harr.2 hr' (by rw [hx];exact hk);⟨k₁,h1,.head h0 (s0 a w) h2⟩⟩
 | goto l=>exact hq.elim
 | ret=>exact⟨_,a₁,w₁,hq,.of_steps (.one h0 (s0 a w)) harr⟩
 | panic ch=>exact⟨_,a₁,w₁,hq,.of_steps (.one h0 (s0 a w)) harr⟩
 | outgrown=>exact⟨_,a₁,w₁,hq,.of_steps (.one h0 (s0 a w)) harr⟩
def okC (P:Program) (gl:Globs) (nt:Nat) (rnd:Bool):C->Code->Bool
 | .skip,.skip=>true
 | .label,.label _=>true
 | .reg d ops _,.region _ os dr=>d==dr&&zvi P gl nt os ops os.toList&&(!dr||z8o [] os ops)
 | .regC ops _ chk,.region _ os dr=>dr&&zvi P gl nt os ops os.toList&&z8o chk os ops
 | .seq a b,.seq x y=>okC P gl nt rnd a x&&okC P gl nt rnd b y
 | .cond c a b,.cond x p q=>okX gl x c&&okC P gl nt rnd a p&&okC P gl nt rnd b q
 | .block i c,.block j d=>i==j&&okC P gl nt rnd c d
 | .loop _ c,.loop d=>okC P gl nt rnd c d
 | .exit i,.exit j=>i==j
 | .scope c,.scope d=>okC P gl nt rnd c d
 | .ret,.ret=>true
 | .rangeFn _ f ps a b,.rangeFunc g qs x y=> !rnd&&okX gl g f&&qs.toList==ps&&ps.all (fun t=>decide (t<nt))&&okC P gl nt true a x&&okC P gl nt true b y
 | _,_=>false
def z2o (P:Program) (gl:Globs):zfd:=fun n c code=>∃nt,nt<=n/\okC P gl nt true c code=true
def Ex.exit':Ex->Exit
 | .normal=> .normal
 | .exit id=> .exit id
 | .ret=> .ret
def zoq (r:Nat):Deferred:={target:= .collected r,args:=#[]}
def znq (N:Nat) (s:S) (ds:List Deferred):Prop:=
 ∃rs:List Nat,ds=rs.map zoq/\rs.Nodup/\∀r∈rs,N<=r/\s.w.heap[r]? =some (.deferred (some []))/\ymn s r/\∀j,¬s.Im r j
theorem znq.nil (N:Nat) (s:S):znq N s []:=⟨[],rfl,List.nodup_nil,fun r h=>by simp at h⟩
theorem znq.ext {K:Id->Prop} {N:Nat} {s s':S} {ds:List Deferred} (h:Ext K s s') (hm:znq N s ds):znq N s' ds:=by
 obtain⟨rs,h1,h2,h3⟩:=hm
 refine⟨rs,h1,h2,fun r hr=> ?_⟩
 obtain⟨k1,k2,k3,k4⟩:=h3 r hr
 have hlt:=(Array.getElem?_eq_some_iff.1 k2).1
 obtain⟨f1,f2⟩:=h.frame r hlt k3
 refine⟨k1,f1.trans k2,f2,fun j hj=> ?_⟩
 rcases h.imnew r j hj with q|q|q
 ·exact k4 j q
 ·omega
 ·exact q k3
section
variable {P : Program} {gl : Globs}
def yfh (P:Program) (gl:Globs) (F:Oracle):Prop:=
 ∀cx live keep body e m x e' m',F (.loop cx live keep body e m)=some (.st x e' m')->∀(rd:Option Nat) (nt:Nat) (code:Code),okC P gl nt rd.isSome body code=true->
  ∃k,∀(N:Nat) (s:S) (A:Act),Sim (z2o P gl) gl s->s.m=m->zfb s e A.tmps->nt<=A.tmps.size->N<=s.w.heap.size->znq N s A.defers->∀(Q:Exit->Act->World->Prop),
   (∀s' A',Sim (z2o P gl) gl s'->Ext (fun i=>i∈keep) s s'->s'.m=m'->zfb s' e' A'.tmps->A'.tmps.size=A.tmps.size->znq N s' A'.defers->Q x.exit' A' s'.w)->
   Code.roundsIn (fen rd) 0 P code Q k A s.w
structure yug (P:Program) (gl:Globs) (F:Oracle):Prop where
 good:Good P (z2o P gl) gl F
 loop:yfh P gl F
theorem zud:∀(m:Mem) (i:Id) (o:Ob),look m i=some o->i∈keys m
 | [],i,o,h=>by simp [look] at h
 | (j,y)::r,i,o,h=>by
  simp only [look] at h
  split at h
  ·rename_i e;subst e;simp [keys]
  ·have:=zud r i o h
   simp only [keys,List.map_cons,List.mem_cons]
   exact .inr this
theorem z7s (e:Env) (m:Mem):gc1 (keys m) e m=m:=by
 unfold gc1
 refine List.filter_eq_self.2 fun p hp=> ?_
 have:p.1∈keys m:=List.mem_map_of_mem hp
 simp [this]
theorem yrs (e:Env) (m:Mem):gc (keys m) e m=m:=by
 unfold gc
 rw [z7s,z7s,z7s]
def yk2 (P:Program) (gl:Globs) (F:Oracle):Prop:=
 ∀cx slot f ps a b e m x e' m',evC F cx (.rangeFn slot f ps a b) e m=some (x,e',m')->∀(nt:Nat) (code:Code),okC P gl nt false (.rangeFn slot f ps a b) code=true->
  ∀(N:Nat) (s:S) (A:Act),Sim (z2o P gl) gl s->s.m=m->zfb s e A.tmps->nt<=A.tmps.size->N<=s.w.heap.size->znq N s A.defers->∀(Q:Exit->Act->World->Prop),
   (∀s' A',Sim (z2o P gl) gl s'->Ext (fun _=>True) s s'->s'.m=m'->zfb s' e' A'.tmps->A'.tmps.size=A.tmps.size->znq N s' A'.defers->Q x.exit' A' s'.w)->
   code.wpIn (fen none) 0 P Q A s.w
theorem z6s {F:Oracle} (hF:yug P gl F) (hR:yk2 P gl F) (hmx:P.follows .mixedOrders=true) (rd:Option Nat) (nt:Nat) (cx:Cx) (N:Nat):
  ∀(c:C) (code:Code) (e:Env) (m:Mem) (x:Ex) (e':Env) (m':Mem),okC P gl nt rd.isSome c code=true->evC F cx c e m=some (x,e',m')->
  ∀(s:S) (A:Act),Sim (z2o P gl) gl s->s.m=m->zfb s e A.tmps->nt<=A.tmps.size->N<=s.w.heap.size->znq N s A.defers->∀(Q:Exit->Act->World->Prop),
   (∀s' A',Sim (z2o P gl) gl s'->Ext (fun _=>True) s s'->s'.m=m'->zfb s' e' A'.tmps->A'.tmps.size=A.tmps.size->znq N s' A'.defers->Q x.exit' A' s'.w)->
   code.wpIn (fen rd) 0 P Q A s.w:=by
 intro c
 induction c with
 | skip=>
  intro code e m x e' m' ok h s A hs hm he hnt hN hmk Q hQ
  cases code<;>simp only [okC,Bool.false_eq_true] at ok
  simp only [evC,Option.some.injEq,Prod.mk.injEq] at h
  obtain⟨rfl,rfl,rfl⟩:=h
  exact wpIn_skip (hQ s A hs (Ext.refl _ _) hm he rfl hmk)
 | label=>
  intro code e m x e' m' ok h s A hs hm he hnt hN hmk Q hQ
  cases code<;>simp only [okC,Bool.false_eq_true] at ok
  simp only [evC,Option.some.injEq,Prod.mk.injEq] at h
  obtain⟨rfl,rfl,rfl⟩:=h
  exact wpIn_label (hQ s A hs (Ext.refl _ _) hm he rfl hmk)
 | reg d ops kill=>
  intro code e m x e' m' ok h s A hs hm he hnt hN hmk Q hQ
  cases code<;>simp only [okC,Bool.false_eq_true] at ok
  simp only [Bool.and_eq_true,beq_iff_eq] at ok
  obtain⟨⟨rfl,hok⟩,hdr⟩:=ok
  simp only [evC,Option.map_eq_some_iff,Prod.mk.injEq] at h
  obtain⟨⟨e1,m1⟩,h1,rfl,rfl,rfl⟩:=h
  subst hm
  refine yaf hF.good hmx rd cx _ _ hok (chk:=[]) (fun hd=>⟨by simpa [hd] using hdr,rfl⟩) h1 hs he hnt fun s' A' q1 q2 q3 q4 q5 q6=> ?_
  exact hQ s' A' q1 q2 q3 (z2t _ (fun _ _ _=>rfl) q4) q5 (by rw [q6];exact znq.ext q2 hmk)
 | regC ops kill chk=>
  intro code e m x e' m' ok h s A hs hm he hnt hN hmk Q hQ
  cases code<;>simp only [okC,Bool.false_eq_true] at ok
  simp only [Bool.and_eq_true] at ok
  obtain⟨⟨rfl,hok⟩,hdr⟩:=ok
  simp only [evC,Option.bind_eq_some_iff] at h
  obtain⟨⟨e1,m1⟩,h1,h2⟩:=h
  split at h2<;>try cases h2
  rename_i hdj
  subst hm
  refine yaf hF.good hmx rd cx _ _ hok (chk:=chk) (fun _=>⟨hdr,hdj⟩) h1 hs he hnt fun s' A' q1 q2 q3 q4 q5 q6=> ?_
  exact hQ s' A' q1 q2 q3 (z2t _ (fun _ _ _=>rfl) q4) q5 (by rw [q6];exact znq.ext q2 hmk)
 | seq a b iha ihb=>
  intro code e m x e' m' ok h s A hs hm he hnt hN hmk Q hQ
  cases code<;>simp only [okC,Bool.false_eq_true] at ok
  simp only [Bool.and_eq_true] at ok
  simp only [evC] at h
  refine wpIn_seq ?_
  cases ha:evC F cx a e m with
  | none=>rw [ha] at h;simp at h
  | some p=>
   obtain⟨x1,e1,m1⟩:=p
   rw [ha] at h
   refine iha _ e m x1 e1 m1 ok.1 ha s A hs hm he hnt hN hmk _ fun s1 A1 q1 q2 q3 q4 q5 q6=> ?_
   cases x1 with
   | normal=>
    refine ihb _ e1 m1 x e' m' ok.2 h s1 A1 q1 q3 q4 (by rw [q5];exact hnt) (Nat.le_trans hN q2.size) q6 Q fun s2 A2 r1 r2 r3 r4 r5 r6=> ?_
    exact hQ s2 A2 r1 (Ext.trans q2 r2 (fun _ _=>trivial)) r3 r4 (r5.trans q5) r6
   | exit id=>
    simp only [Option.some.injEq,Prod.mk.injEq] at h
    obtain⟨rfl,rfl,rfl⟩:=h
    exact hQ s1 A1 q1 q2 q3 q4 q5 q6
   | ret=>
    simp only [Option.some.injEq,Prod.mk.injEq] at h
    obtain⟨rfl,rfl,rfl⟩:=h
    exact hQ s1 A1 q1 q2 q3 q4 q5 q6
 | cond c a b iha ihb=>
  intro code e m x e' m' ok h s A hs hm he hnt hN hmk Q hQ
  cases code<;>simp only [okC,Bool.false_eq_true] at ok
  simp only [Bool.and_eq_true] at ok
  simp only [evC] at h
  split at h<;>try cases h
  rename_i t hc
  have hv:=zbu hs he ok.1.1
  rw [hc] at hv
  refine wpIn_cond (t:=t) hv ?_
  cases t with
  | true=>
   simp only [if_true] at h ⊢
   exact iha _ e m x e' m' ok.1.2 h s A hs hm he hnt hN hmk Q hQ
  | false=>
   simp only [Bool.false_eq_true,if_false] at h ⊢
   exact ihb _ e m x e' m' ok.2 h s A hs hm he hnt hN hmk Q hQ
 | block id c ih=>
  intro code e m x e' m' ok h s A hs hm he hnt hN hmk Q hQ
  cases code<;>simp only [okC,Bool.false_eq_true] at ok
  simp only [Bool.and_eq_true,beq_iff_eq] at ok
  obtain⟨rfl,ok⟩:=ok
  simp only [evC] at h
  refine wpIn_block ?_
  cases hc:evC F cx c e m with
  | none=>rw [hc] at h;simp at h
  | some p=>
   obtain⟨x1,e1,m1⟩:=p
   rw [hc] at h
   refine ih _ e m x1 e1 m1 ok hc s A hs hm he hnt hN hmk _ fun s1 A1 q1 q2 q3 q4 q5 q6=> ?_
   cases x1 with
   | normal=>
    simp only [Option.some.injEq,Prod.mk.injEq] at h
    obtain⟨rfl,rfl,rfl⟩:=h
    exact hQ s1 A1 q1 q2 q3 q4 q5 q6
   | exit j=>
    simp only at h
    show Exit.inBlock id Q (.exit j) A1 s1.w
    simp only [Exit.inBlock]
    split at h
    ·rename_i hj
     simp only [Option.some.injEq,Prod.mk.injEq] at h
     obtain⟨rfl,rfl,rfl⟩:=h
     simp only [hj,if_true]
     exact hQ s1 A1 q1 q2 q3 q4 q5 q6
    ·rename_i hj
     simp only [Option.some.injEq,Prod.mk.injEq] at h
     obtain⟨rfl,rfl,rfl⟩:=h
     simp only [hj,if_false]
     exact hQ s1 A1 q1 q2 q3 q4 q5 q6
   | ret=>
    simp only [Option.some.injEq,Prod.mk.injEq] at h
    obtain⟨rfl,rfl,rfl⟩:=h
    exact hQ s1 A1 q1 q2 q3 q4 q5 q6
 | loop live c ih=>
  intro code e m x e' m' ok h s A hs hm he hnt hN hmk Q hQ
  cases code<;>simp only [okC,Bool.false_eq_true] at ok
  simp only [evC,yrs] at h
  split at h<;>try cases h
  rename_i hl
  obtain⟨k,hk⟩:=hF.loop _ _ _ _ _ _ _ _ _ hl rd nt _ ok
  refine wpIn_loop_rounds k (hk N s A hs hm (z9q _ he) hnt hN hmk Q fun s' A' q1 q2 q3 q4 q5 q6=> ?_)
  refine hQ s' A' q1 (Ext.of_look (Ext.mono q2 fun i hi=> ?_)) q3 q4 q5 q6
  cases ho:look s.m i with
  | none=>exact absurd ho hi
  | some o=>rw [<-hm];exact zud _ i o ho
 | rangeFn slot f ps a b=>
  intro code e m x e' m' ok h s A hs hm he hnt hN hmk Q hQ
  cases rd with
  | none=>exact hR cx slot f ps a b e m x e' m' h nt code ok N s A hs hm he hnt hN hmk Q hQ
  | some l=>cases code<;>simp [okC] at ok
 | exit id=>
  intro code e m x e' m' ok h s A hs hm he hnt hN hmk Q hQ
  cases code<;>simp only [okC,Bool.false_eq_true] at ok
  simp only [beq_iff_eq] at ok
  subst ok
  simp only [evC,Option.some.injEq,Prod.mk.injEq] at h
  obtain⟨rfl,rfl,rfl⟩:=h
  exact wpIn_exit (hQ s A hs (Ext.refl _ _) hm he rfl hmk)
 | scope c ih=>
  intro code e m x e' m' ok h s A hs hm he hnt hN hmk Q hQ
  cases code<;>simp only [okC,Bool.false_eq_true] at ok
  simp only [evC] at h
  refine ygx (ih _ e m x e' m' ok h s A hs hm he hnt hN hmk _ fun s' A' q1 q2 q3 q4 q5 q6=> ?_)
  have:=hQ s' A' q1 q2 q3 q4 q5 q6
  cases x<;>exact this
 | ret=>
  intro code e m x e' m' ok h s A hs hm he hnt hN hmk Q hQ
  cases code<;>simp only [okC,Bool.false_eq_true] at ok
  simp only [evC,Option.some.injEq,Prod.mk.injEq] at h
  obtain⟨rfl,rfl,rfl⟩:=h
  exact wpIn_ret (hQ s A hs (Ext.refl _ _) hm he rfl hmk)
end
end Go.Evl
namespace Go.Evl
open Go.RowKit
section
variable {P : Program} {gl : Globs}
theorem ymn.fresh {oc:zfd} {s:S} (hs:Sim oc gl s) {b:Nat} (h:s.w.heap.size<=b):ymn s b:=fun i o hi hg hb=>by
 have:=(hs.objs i o hi).blk_lt hg hb
 omega
theorem zy9 {F:Oracle} (hF:yug P gl F):yk2 P gl F:=by
 intro cx slot f ps ca cb e m x e' m' h nt code ok N s A hs hm he hnt hN hmk Q hQ
 cases code<;>simp only [okC,Bool.false_eq_true] at ok
 rename_i g qs cx1 cx2
 simp only [Bool.and_eq_true,Bool.not_false,Bool.true_and,beq_iff_eq,List.all_eq_true,decide_eq_true_eq] at ok
 obtain⟨⟨⟨⟨okg,hqs⟩,hps⟩,oka⟩,okb⟩:=ok
 subst hm
 have hf:=zbu hs he okg
 simp only [evC] at h
 obtain⟨i,hi⟩:∃i,i=zc8 cx slot s.m:=⟨_,rfl⟩
 rw [<-hi] at h
 have hfresh:look s.m i=none:=by rw [hi];exact ze4 _ _ _
 split at h<;>try cases h
 rename_i hlow
 generalize f.ev e=vf at hf h
 split at h<;>try cases h
 rename_i fid first caps
 split at h<;>try cases h
 rename_i v1 m1 hcall
 split at h<;>try cases h
 rename_i e9 ps9 a9 b9 lv9 ov9 j hlk
 split at h<;>try cases h
 rename_i hids
 obtain⟨xs,ys,hg,hx,hy⟩:=hf
 refine wpIn_rangeFunc (F:=fen none) fun fn _=> ?_
 -- the record is laid
 let wA:World:=s.w.alloc (.deferred (some []))
 let L:Loop:={state:= .ready,pending:=none,fn,tmps:=A.tmps,params:=qs,assign:=cx1,body:=cx2,defers:=s.w.heap.size}
 let wB:World:=wA.alloc (.loop L)
 have hszA:wA.heap.size=s.w.heap.size+1:=by simp [wA]
 obtain⟨kA1,kA2⟩:=hs.calm wA s.Im rfl rfl rfl (by simp [wA]) (fun b hb=>heap_alloc_old _ _ _ hb) (fun _ _ h=>h) (fun _ _ h=> .inl h) (fun b j h=>Nat.lt_of_lt_of_le (hs.imlt b j h) (by simp [wA]))
 let sA:S:=⟨s.φ,s.m,wA,s.Im⟩
 obtain⟨kB1,kB2⟩:=z6o (s:=sA) kA1 i hfresh (.loop e ps ca cb cx.lv false false none) (.pointer (some ⟨wA.heap.size,0,none⟩)) (.loop L) rfl
  (fun hE=>⟨wA.heap.size,L,rfl,heap_alloc_new _ _,by simp [L,<-hqs],fun t ht=>Nat.lt_of_lt_of_le (hps t ht) hnt,
   zfb.ext (Ext.trans kA2 hE (fun _ _=>trivial)) (fun _ _ _=>trivial) he,⟨nt,hnt,oka⟩,⟨nt,hnt,okb⟩,rfl,rfl⟩)
 obtain⟨sB,hsB⟩:∃sB:S,sB=⟨fun k=>if i=k then .pointer (some ⟨wA.heap.size,0,none⟩) else sA.φ k,upd sA.m i (.loop e ps ca cb cx.lv false false none),sA.w.alloc (.loop L),sA.Im⟩:=⟨_,rfl⟩
 rw [<-hsB] at kB1 kB2
 have hwB:sB.w=wB:=by rw [hsB]
 have hmB:sB.m=upd s.m i (.loop e ps ca cb cx.lv false false none):=by rw [hsB]
 have hφB:sB.φ i= .pointer (some ⟨wA.heap.size,0,none⟩):=by rw [hsB];simp
 have hsAB:Ext (fun _=>True) s sB:=Ext.trans kA2 kB2 (fun _ _=>trivial)
 obtain⟨hen,hgo⟩:=hF.good.call _ _ _ _ _ _ hcall
 have hyld:VR sB (.yld i) (.func (.yield wA.heap.size) #[] #[]):=by
  refine⟨rfl,?_⟩
  rw [hφB,hmB,zci]
  exact⟨wA.heap.size,rfl,rfl⟩
 have hargs:VRt sB (first ++[.yld i]++caps) (xs.toList++[.func (.yield wA.heap.size) #[] #[]]++ys.toList):=
  VRt.append _ _ _ _ (VRt.append _ _ _ _ (VRt.ext hsAB _ _ (fun _ _=>trivial) hx) ⟨_,[],rfl,hyld,rfl⟩) (VRt.ext hsAB _ _ (fun _ _=>trivial) hy)
 have hgo:=hgo sB kB1 hmB _ hargs
 rw [hwB] at hgo
 have harr:(xs.toList++[Value.func (.yield wA.heap.size) #[] #[]]++ys.toList).toArray=xs++#[Value.func (.yield wA.heap.size) #[] #[]]++ys:=by
  apply Array.ext';simp
 rw [harr] at hgo
 refine⟨wA.heap.size,[zoq s.w.heap.size],wB,{target:= .fn (.func fid) ys,args:=xs++#[Value.func (.yield wA.heap.size) #[] #[]]},wB,fid,xs++#[Value.func (.yield wA.heap.size) #[] #[]]++ys,wB,?_,?_,fun _ _=>trivial,?_,fun hd=>by simp [fen] at hd,?_⟩
 ·simp [Instr.enterLoop,fen,newObj,Sem.run,wB,wA,L,zoq]
 ·have hev:A.eval g= .func (.func fid) xs ys:=hg
  have hc:∀v,A.eval (.const v)=v:=fun _=>rfl
  simp [Go.resolve,Deferred.ofValue,hev,hc]
 ·simp [invoke,zxj hen]
 refine CallsIn.mono (F:=fen none) (n:=0) hgo ?_
 rintro e' w' ⟨s1,x1,rfl,rfl,k1,k2,rfl,k4⟩
 -- back at the statement
 obtain⟨o1,ho1,ht⟩:=k2.objs i _ trivial (by rw [hmB,zci])
 rw [hlk] at ho1
 obtain rfl:=Option.some.inj ho1
 have hp1:s1.φ i= .pointer (some ⟨wA.heap.size,0,none⟩):=by
  have:s1.φ i=sB.φ i:=ht
  rw [this,hφB]
 obtain⟨l1,L1,hpl,hL1,hpar,hpl2,henv1,hoa,hob,hst,hpend⟩:=k1.objs i _ hlk
 have hl1:l1=wA.heap.size:=by
  rw [hp1] at hpl
  simp at hpl
  exact hpl.symm
 subst hl1
 have hB:=z2y k1 k2 (by rw [hmB];exact hlow) hids
 have hkeyi:i.lv<cx.nx:=by
  have h1:i∈keys (upd s.m i (.loop e ps ca cb cx.lv false false none)):=zud _ i _ (zci _ _ _)
  simp only [zmj,List.all_eq_true,decide_eq_true_eq] at hlow
  exact hlow i h1
 obtain⟨hli,hφi⟩:=hB.low i hkeyi
 have hCi:look (zgp cx.nx s1.m) i=some (.loop e9 ps9 a9 b9 lv9 false ov9 j):=hli.trans hlk
 obtain⟨kD1,kD2⟩:=zs9 (s:=⟨s1.φ,zgp cx.nx s1.m,s1.w,s1.Im⟩) hB.sim i _ .gone hCi (by simp) wA.heap.size _ hp1 rfl _ (.loop {L1 with state:= .exhausted}) hL1 rfl rfl trivial (fun _=>trivial)
 have hE:Ext (fun _=>True) s _:=Ext.trans hsAB (Ext.trans hB.ext kD2 (fun _ _=>trivial)) (fun _ _=>trivial)
 have hEA:Ext (fun _=>True) sA _:=Ext.trans kB2 (Ext.trans hB.ext kD2 (fun _ _=>trivial)) (fun _ _=>trivial)
 -- the marks
 have hmkA:znq N sA (zoq s.w.heap.size::A.defers):=by
  obtain⟨rs,q1,q2,q3⟩:=znq.ext kA2 hmk
  refine⟨s.w.heap.size::rs,by simp [q1],?_,fun r hr=> ?_⟩
  ·refine List.nodup_cons.2 ⟨fun hr=> ?_,q2⟩
   obtain⟨rs',p1,_,p3⟩:=hmk
   have:rs'=rs:=by
    have hinj:∀(a b:List Nat),a.map zoq=b.map zoq->a=b:=by
     intro a b hab
     exact(List.map_inj_right (f:=zoq) (fun x y hxy=>by simpa [zoq] using hxy)).1 hab
    exact hinj _ _ (p1.symm.trans q1)
   subst this
   have:=(Array.getElem?_eq_some_iff.1 (p3 _ hr).2.1).1
   omega
  ·rcases List.mem_cons.1 hr with rfl|hr
   ·refine⟨hN,heap_alloc_new _ _,fun k o hk hg' hb=> ?_,fun j' hj=> ?_⟩
    ·have:=(hs.objs k o hk).blk_lt hg' hb
     omega
    ·have:=hs.imlt _ _ hj
     omega
   ·exact q3 r hr
 have hmkD:=znq.ext hEA hmkA
 have henvD:=zfb.ext hE (fun _ _ _=>trivial) he
 have hend:(Instr.endLoop wA.heap.size).run P s1.w= .ok L1.pending {s1.w with heap:=s1.w.heap.setIfInBounds wA.heap.size (.loop {L1 with state:= .exhausted})}:=by
  have hb':L1.state≠LoopState.busy:=by rw [hst];cases ov9<;>simp [ycf]
  simp [Instr.endLoop,Instr.getLoop,getObj,setObj,Sem.run,hL1,hb']
 have hend2:(Instr.endLoop wA.heap.size).run P s1.w= .ok (j.map zqr) {s1.w with heap:=s1.w.heap.setIfInBounds wA.heap.size (.loop {L1 with state:= .exhausted})}:=by
  rw [hend,hpend]
 refine⟨j.map zqr,_,hend2,?_⟩
 cases j with
 | none=>
  simp only [Option.some.injEq,Prod.mk.injEq] at h
  obtain⟨rfl,rfl,rfl⟩:=h
  have hq:=hQ _ {A with defers:=[zoq s.w.heap.size]++A.defers} kD1 hE rfl henvD rfl hmkD
  simpa only [Ex.exit',Option.map_none] using hq
 | some j=>
  simp only [Option.some.injEq,Prod.mk.injEq] at h
  obtain⟨rfl,rfl,rfl⟩:=h
  cases j with
  | exit id=>
   have hq:=hQ _ {A with defers:=[zoq s.w.heap.size]++A.defers} kD1 hE rfl henvD rfl hmkD
   exact wpIn_exit (by simpa only [Ex.exit',ysj.ex] using hq)
  | ret=>
   have hq:=hQ _ {A with defers:=[zoq s.w.heap.size]++A.defers} kD1 hE rfl henvD rfl hmkD
   exact wpIn_ret (by simpa only [Ex.exit',ysj.ex] using hq)
end
end Go.Evl
namespace Go.Evl
open Go.RowKit
section
variable {P : Program} {gl : Globs}
theorem ylb {oc:zfd} {s:S} (hs:Sim oc gl s) {r:Nat} {x obj:Obj} (hx:s.w.heap[r]? =some x) (hf:ymn s r) (hi:∀j,¬s.Im r j):
  Sim oc gl ⟨s.φ,s.m,{s.w with heap:=s.w.heap.setIfInBounds r obj},s.Im⟩/\yir (fun _=>True) s ⟨s.φ,s.m,{s.w with heap:=s.w.heap.setIfInBounds r obj},s.Im⟩/\
  ∀(K:Id->Prop) (s0:S),Ext K s0 s->s0.w.heap.size<=r->Ext K s0 ⟨s.φ,s.m,{s.w with heap:=s.w.heap.setIfInBounds r obj},s.Im⟩:=by
 have hoth:∀c,c≠r->(s.w.heap.setIfInBounds r obj)[c]? =s.w.heap[c]? :=fun c h=>by simp [Ne.symm h]
 have hkeep:∀b j,s.Im b j->World.cell? {s.w with heap:=s.w.heap.setIfInBounds r obj} ⟨b,j,none⟩=s.w.cell? ⟨b,j,none⟩:=fun b j h=>World.cell?_of_block (hoth b fun e=>by subst e;exact hi j h)
 have h0:yir (fun _=>True) s ⟨s.φ,s.m,{s.w with heap:=s.w.heap.setIfInBounds r obj},s.Im⟩:=⟨fun _ _ h=>h,hkeep,fun i o _ ho=>⟨o,ho,zcs.refl _ _⟩⟩
 refine⟨⟨fun i o ho=> ?_,hs.apart,fun b j h=>by simpa using hs.imlt b j h,fun g cs hg=>CR.ext (fun _ _ h=>h) hkeep g 0 cs (hs.glob g cs hg),fun g cs hg=> ?_⟩,h0,fun K s0 hE hr=> ?_⟩
 ·by_cases hg:o= .gone
  ·subst hg;trivial
  exact ObR.ext0 h0 (fun _ _=>trivial) (fun b hb=>⟨hoth b fun e=>by subst e;exact hf i o ho hg hb,fun _ h=>h⟩) (hs.objs i o ho)
 ·obtain⟨h1,h2,arr,t,fz,h3,h4⟩:=hs.tabs g cs hg
  refine⟨h1,h2,arr,t,fz,(hoth g fun e=> ?_).trans h3,h4⟩
  subst e
  cases cs with
  | nil=>exact h2 rfl
  | cons d q=>exact hi 0 (hs.glob _ _ hg).1
 ·refine⟨hE.os,hE.tape,hE.output,by simpa using hE.size,fun b hb hfb=>⟨?_,(hE.frame b hb hfb).2⟩,hE.imnew,hE.im,fun b j h=>(hkeep b j (hE.im b j h)).trans (hE.keep b j h),hE.objs⟩
  have:(s.w.heap.setIfInBounds r obj)[b]? =s.w.heap[b]? :=hoth b (by omega)
  exact this.trans (hE.frame b hb hfb).1
theorem ysg {oc:zfd} {fn:Func} {tmps:Array Value} {R:Ending->World->Prop} {s0:S}:∀(rs:List Nat) (s:S),rs.Nodup->(∀r∈rs,s0.w.heap.size<=r/\s.w.heap[r]? =some (.deferred (some []))/\ymn s r/\∀j,¬s.Im r j)->
  Sim oc gl s->Ext (fun _=>True) s0 s->
  (∀s',Sim oc gl s'->Ext (fun _=>True) s0 s'->yir (fun _=>True) s s'->s'.m=s.m->∃v,(Go.results fn tmps).run P s'.w= .ok v s'.w/\R (.returned v) s'.w)->
  LeavesInM (fen none) 0 P fn tmps R (rs.map zoq) .returning s.w
 | [],s,_,_,hs,hE,h=>h s hs hE ⟨fun _ _ h=>h,fun _ _ _=>rfl,fun i o _ ho=>⟨o,ho,zcs.refl _ _⟩⟩ rfl
 | r::rs,s,hn,hr,hs,hE,h=>by
  obtain⟨h1,h2,h3,h4⟩:=hr r (by simp)
  obtain⟨k1,k2,k3⟩:=ylb (obj:= .deferred none) hs h2 h3 h4
  have hn':=List.nodup_cons.1 hn
  refine⟨by simp,.inl ⟨r,{s.w with heap:=s.w.heap.setIfInBounds r (.deferred none)},rfl,by simp [Instr.takeDeferred,getObj,setObj,Sem.run,h2],?_⟩⟩
  refine ysg rs ⟨s.φ,s.m,{s.w with heap:=s.w.heap.setIfInBounds r (.deferred none)},s.Im⟩ hn'.2 (fun r' hr'=> ?_) k1 (k3 _ s0 hE h1) fun s' q1 q2 q3 q4=> ?_
  ·obtain⟨g1,g2,g3,g4⟩:=hr r' (by simp [hr'])
   have hne:r'≠r:=fun e=>hn'.1 (e▸hr')
   refine⟨g1,?_,g3,g4⟩
   show (s.w.heap.setIfInBounds r (.deferred none))[r']? =_
   simp [Ne.symm hne,g2]
  ·exact h s' q1 q2 ⟨fun b j h=>q3.im b j h,fun b j h=>(q3.keep b j h).trans (k2.keep b j h),fun i o _ ho=>q3.objs i o trivial ho⟩ q4
def yw7 (P:Program):RV->ResultVar->Bool
 | .tmp t,.tmp u=>t==u
 | .cell t n,.cell u ty=>t==u&&zux P ty n
 | _,_=>false
def z30 (P:Program):List RV->List ResultVar->Bool
 | [],[]=>true
 | a::r,b::q=>yw7 P a b&&z30 P r q
 | _,_=>false
def zmo (tmps:Array Value):ResultVar->Sem Value
 | .tmp t=>pure (tmps.getD t undef)
 | .cell a t=>do loadVar t (<-asAddr (tmps.getD a undef))
theorem ymb {oc:zfd} {s:S} (hs:Sim oc gl s) {e:Env} {tmps:Array Value} (he:zfb s e tmps) {a:RV} {b:ResultVar} {v:V} (ok:yw7 P a b=true) (h:yv2 s.m e a=some v):∃y,(zmo tmps b).run P s.w= .ok y s.w/\VR s v y:=by
 cases a with
 | tmp t=>
  cases b<;>simp only [yw7,Bool.false_eq_true] at ok
  simp only [beq_iff_eq] at ok
  subst ok
  simp only [yv2,Option.some.injEq] at h
  subst h
  exact⟨_,rfl,he t⟩
 | cell t n=>
  cases b<;>simp only [yw7,Bool.false_eq_true] at ok
  simp only [Bool.and_eq_true,beq_iff_eq] at ok
  obtain⟨rfl,hc⟩:=ok
  obtain⟨ad,y,hx,hr,hv⟩:=yff hs hc (he t) h
  exact⟨y,by simp [zmo,asAddr,hx,hr],hv⟩
theorem ye5 {oc:zfd} {s:S} (hs:Sim oc gl s) {e:Env} {tmps:Array Value} (he:zfb s e tmps):∀(as:List RV) (bs:List ResultVar) (vs:List V),z30 P as bs=true->z3q s.m e as=some vs->
  ∃ys,(bs.mapM (zmo tmps)).run P s.w= .ok ys s.w/\VRt s vs ys
 | [],[],vs,_,h=>by simp only [z3q,Option.some.injEq] at h;subst h;exact⟨[],rfl,rfl⟩
 | [],_::_,_,ok,_=>by simp [z30] at ok
 | _::_,[],_,ok,_=>by simp [z30] at ok
 | a::as,b::bs,vs,ok,h=>by
  simp only [z30,Bool.and_eq_true] at ok
  simp only [z3q] at h
  split at h<;>try cases h
  rename_i v vs' h1 h2
  obtain⟨y,hy,hv⟩:=ymb hs he ok.1 h1
  obtain⟨ys,hys,hvs⟩:=ye5 hs he as bs vs' ok.2 h2
  exact⟨y::ys,by simp [List.mapM_cons,hy,hys],y,ys,rfl,hv,hvs⟩
theorem ygp {oc:zfd} {s:S} (hs:Sim oc gl s) {e:Env} {fn:Func} {tmps:Array Value} (he:zfb s e tmps) {rs:List RV} {v:V} (ok:z30 P rs fn.results.toList=true) (h:Evl.results s.m e rs=some v):
  ∃y,(Go.results fn tmps).run P s.w= .ok y s.w/\VR s v y:=by
 have hf:Go.results fn tmps=(do
   let vs <-List.toArray<$>fn.results.toList.mapM (zmo tmps)
   pure (if h:vs.size=1 then vs[0] else .tuple vs)):=by
  have hg:∀(g:ResultVar->Sem Value),(∀x,g x=zmo tmps x)->(fn.results.mapM g)=List.toArray<$>fn.results.toList.mapM (zmo tmps):=by
   intro g hg
   rw [Array.mapM_eq_mapM_toList,show g=zmo tmps from funext hg]
  unfold Go.results
  rw [hg _ fun x=>by cases x<;>rfl]
 have fin:∀(vs:List V) (ys:List Value),(fn.results.toList.mapM (zmo tmps)).run P s.w= .ok ys s.w->(Go.results fn tmps).run P s.w= .ok (if h:ys.toArray.size=1 then ys.toArray[0] else .tuple ys.toArray) s.w:=by
  intro vs ys hy
  rw [hf]
  simp [hy]
 unfold Evl.results at h
 split at h
 ·rename_i r
  cases hb:fn.results.toList with
  | nil=>rw [hb] at ok;simp [z30] at ok
  | cons b q=>
   rw [hb] at ok
   simp only [z30,Bool.and_eq_true] at ok
   cases q with
   | cons _ _=>simp [z30] at ok
   | nil=>
    obtain⟨y,hy,hv⟩:=ymb hs he ok.1 h
    refine⟨y,?_,hv⟩
    rw [fin [] [y] (by rw [hb];simp [List.mapM_cons,hy])]
    rfl
 ·rename_i hne
  simp only [Option.map_eq_some_iff] at h
  obtain⟨vs,h1,rfl⟩:=h
  obtain⟨ys,hy,hv⟩:=ye5 hs he _ _ vs ok h1
  refine⟨.tuple ys.toArray,?_,ys.toArray,rfl,hv⟩
  rw [fin [] ys hy]
  have hlen:ys.length≠1:=by
   intro hl
   have h2:=(VRt.length _ _ hv).trans hl
   have h3:∀(rs:List RV) (vs:List V),z3q s.m e rs=some vs->vs.length=rs.length:=by
    intro rs
    induction rs with
    | nil=>intro vs h;simp only [z3q,Option.some.injEq] at h;subst h;rfl
    | cons a r ih=>
     intro vs h
     simp only [z3q] at h
     split at h<;>try cases h
     rename_i h4 h5
     simp [ih _ h5]
   have h4:=h3 _ _ h1
   match rs,hne,h4 with
   | [r],hne,_=>exact hne r rfl
   | [],_,h4=>simp [h2] at h4
   | _::_::_,_,h4=>simp [h2] at h4
  simp [hlen]
end
end Go.Evl
namespace Go.Evl
open Go.RowKit
section
variable {P : Program} {gl : Globs}
theorem yl4 {oc:zfd} {s:S} (hs:Sim oc gl s) (keep:List Id) (e:Env):Sim oc gl ⟨s.φ,gc1 keep e s.m,s.w,s.Im⟩/\Ext (fun i=>i∈keep\/i∈yit e) s ⟨s.φ,gc1 keep e s.m,s.w,s.Im⟩:=by
 obtain⟨k1,k2⟩:=hs.sub (fun i=>keep.elem i||(yit e).elem i||(zhm s.m).elem i) (fun i hi=>by
  have:=zn7 _ _ _ hi
  simp [this])
 exact⟨k1,Ext.mono k2 fun i hi=>by rcases hi with hi|hi<;>simp [hi]⟩
theorem ywa {oc:zfd} {s:S} (hs:Sim oc gl s) (keep:List Id) (e:Env):Sim oc gl ⟨s.φ,gc keep e s.m,s.w,s.Im⟩/\Ext (fun i=>i∈keep\/i∈yit e) s ⟨s.φ,gc keep e s.m,s.w,s.Im⟩:=by
 obtain⟨a1,a2⟩:=yl4 hs keep e
 obtain⟨b1,b2⟩:=yl4 a1 keep e
 obtain⟨c1,c2⟩:=yl4 b1 keep e
 exact⟨c1,Ext.trans a2 (Ext.trans b2 c2 (fun _ h=>h)) (fun _ h=>h)⟩
def okCF (P:Program) (gl:Globs) (f:Nat) (cf:CF):Bool:=
 match P.funcs[f]? with
 | some fn=>
  match fn.body with
  | some code=>fn.name != "runtime.NumGoroutine" &&okC P gl fn.ntmps false cf.body code&&z30 P cf.results fn.results.toList
  | none=>false
 | none=>false
theorem z5r {s:S}:∀(vs:List V) (xs:List Value) (i:Nat),VRt s vs xs->∀t,VR s (get (params i vs) t) (if i<=t then xs.getD (t-i) undef else undef)\/get (params i vs) t= .undef
 | [],_,i,_,t=> .inr rfl
 | v::vs,_,i,⟨x,ys,hx,h1,h2⟩,t=>by
  subst hx
  simp only [params,get]
  by_cases e:i=t
  ·subst e;simpa using Or.inl h1
  ·simp only [e,if_false]
   rcases z5r vs ys (i+1) h2 t with h|h
   ·by_cases hlt:i+1<=t
    ·left
     have h3:t-i=(t-(i+1))+1:=by omega
     simp only [hlt,if_true] at h
     have h4:i<=t:=by omega
     simp only [h4,if_true,h3,List.getD_cons_succ]
     exact h
    ·right
     have:∀(vs:List V) (k:Nat),t<k->get (params k vs) t= .undef:=by
      intro vs
      induction vs with
      | nil=>intro k _;rfl
      | cons v r ih=>
       intro k hk
       simp only [params,get]
       have:k≠t:=by omega
       simp only [this,if_false]
       exact ih (k+1) (by omega)
     exact this vs (i+1) (by omega)
   ·exact .inr h
theorem yky {s:S} {vs:List V} {xs:List Value} (h:VRt s vs xs) (n:Nat):zfb s (params 0 vs) (xs.toArray++Array.replicate (n-xs.toArray.size) undef):=by
 intro t
 rcases z5r vs xs 0 h t with hv|hv
 ·by_cases ht:t<xs.length
  ·simp only [Nat.zero_le,if_true,Nat.sub_zero] at hv
   have:(xs.toArray++Array.replicate (n-xs.toArray.size) undef).getD t undef=xs.getD t undef:=by
    rw [Array.getD_eq_getD_getElem?,Array.getElem?_append_left (by simpa using ht),List.getD_eq_getElem?_getD]
    simp
   rw [this];exact hv
  ·have hl:=VRt.length _ _ h
   have:∀(vs:List V) (k:Nat),k+vs.length<=t->get (params k vs) t= .undef:=by
    intro vs
    induction vs with
    | nil=>intro k _;rfl
    | cons v r ih=>
     intro k hk
     simp only [params,get]
     simp only [List.length_cons] at hk
     have:k≠t:=by omega
     simp only [this,if_false]
     exact ih (k+1) (by omega)
   rw [this vs 0 (by omega)];trivial
 ·rw [hv];trivial
def ExternOk (P:Program) (gl:Globs) (X:Extern):Prop:=
 ∀f x,X f=some x->Enters P f/\∀args m v m',x args m=some (v,m')->∀s,Sim (z2o P gl) gl s->s.m=m->∀xs:List Value,VRt s args xs->CallsIn Fence.wide 0 P f xs.toArray s.w (zvj (z2o P gl) gl s v m')
def CodeOk (P:Program) (gl:Globs) (Γ:Nat->Option CF):Prop:=∀f cf,Γ f=some cf->okCF P gl f cf=true
theorem yjw {Γ:Nat->Option CF} {X:Extern} {F:Oracle} (hF:yug P gl F) (hmx:P.follows .mixedOrders=true):yfh P gl (step Γ X F):=by
 intro cx live keep body e m x e' m' h rd nt code ok
 simp only [step] at h
 cases hb:evC F cx body e m with
 | none=>rw [hb] at h;simp at h
 | some p=>
  obtain⟨x1,e1,m1⟩:=p
  rw [hb] at h
  have walk:=fun N=>z6s hF (zy9 hF) hmx rd nt cx N body code e m x1 e1 m1 ok hb
  cases x1 with
  | normal=>
   obtain⟨k,hk⟩:=hF.loop _ _ _ _ _ _ _ _ _ h rd nt code ok
   refine⟨k+1,fun N s A hs hm he hnt hN hmk Q hQ=> ?_⟩
   rw [roundsIn_succ]
   refine walk N s A hs hm he hnt hN hmk _ fun s1 A1 q1 q2 q3 q4 q5 q6=> ?_
   subst q3
   obtain⟨g1,g2⟩:=ywa q1 keep (only live e1)
   have henv:zfb s1 (only live e1) A1.tmps:=z9q _ q4
   refine hk N ⟨s1.φ,gc keep (only live e1) s1.m,s1.w,s1.Im⟩ A1 g1 rfl (zfb.ext g2 (fun t i hi=> .inr (yb7 _ t i hi)) henv) (by rw [q5];exact hnt) (Nat.le_trans hN q2.size) (znq.ext g2 q6) Q fun s' A' r1 r2 r3 r4 r5 r6=> ?_
   exact hQ s' A' r1 (Ext.trans (Ext.mono q2 (fun _ _=>trivial)) (Ext.trans (Ext.mono g2 fun i hi=> .inl hi) r2 (fun _ h=>h)) (fun _ h=>h)) r3 r4 (r5.trans q5) r6
  | exit id=>
   simp only [Option.some.injEq,Res.st.injEq] at h
   obtain⟨rfl,rfl,rfl⟩:=h
   refine⟨1,fun N s A hs hm he hnt hN hmk Q hQ=> ?_⟩
   rw [roundsIn_succ]
   exact walk N s A hs hm he hnt hN hmk _ fun s1 A1 q1 q2 q3 q4 q5 q6=>hQ s1 A1 q1 (Ext.mono q2 (fun _ _=>trivial)) q3 q4 q5 q6
  | ret=>
   simp only [Option.some.injEq,Res.st.injEq] at h
   obtain⟨rfl,rfl,rfl⟩:=h
   refine⟨1,fun N s A hs hm he hnt hN hmk Q hQ=> ?_⟩
   rw [roundsIn_succ]
   exact walk N s A hs hm he hnt hN hmk _ fun s1 A1 q1 q2 q3 q4 q5 q6=>hQ s1 A1 q1 (Ext.mono q2 (fun _ _=>trivial)) q3 q4 q5 q6
theorem yln {Γ:Nat->Option CF} {X:Extern} {F:Oracle} (hF:yug P gl F) (hmx:P.follows .mixedOrders=true) (hX:ExternOk P gl X) (hΓ:CodeOk P gl Γ):z7w P (z2o P gl) gl (step Γ X F):=by
 intro lv f args m v m' h
 simp only [step] at h
 split at h
 ·rename_i x hx
  simp only [Option.map_eq_some_iff,Res.val.injEq] at h
  obtain⟨⟨v1,m1⟩,h1,rfl,rfl⟩:=h
  obtain⟨k1,k2⟩:=hX f x hx
  exact⟨k1,k2 _ _ _ _ h1⟩
 ·split at h<;>try cases h
  rename_i cf hcf
  have hok:=hΓ f cf hcf
  unfold okCF at hok
  split at hok<;>try cases hok
  rename_i fn hfn
  split at hok<;>try cases hok
  rename_i code hcode
  simp only [Bool.and_eq_true,bne_iff_ne] at hok
  obtain⟨⟨hname,hokc⟩,hres⟩:=hok
  refine⟨⟨fn,hfn,hname,by rw [hcode];simp⟩,fun s hs hm xs hxs=> ?_⟩
  -- what the body comes to
  obtain⟨x,e1,m1,hev,hx,hr⟩:∃x e1 m1,evC F ⟨lv,lv+1⟩ cf.body (params 0 args) m=some (x,e1,m1)/\(x= .normal\/x= .ret)/\Evl.results m1 e1 cf.results=some v/\m'=m1:=by
   split at h<;>try cases h
   ·rename_i e1 m1 hev
    simp only [Option.map_eq_some_iff,Res.val.injEq] at h
    obtain⟨v1,h1,rfl,rfl⟩:=h
    exact⟨_,_,_,hev,.inl rfl,h1,rfl⟩
   ·rename_i e1 m1 hev
    simp only [Option.map_eq_some_iff,Res.val.injEq] at h
    obtain⟨v1,h1,rfl,rfl⟩:=h
    exact⟨_,_,_,hev,.inr rfl,h1,rfl⟩
  obtain⟨hr,rfl⟩:=hr
  have hsz:fn.ntmps<=(xs.toArray++Array.replicate (fn.ntmps-xs.toArray.size) undef).size:=by simp;omega
  refine callsIn_of_wp_marks (F:=Fence.wide) hfn hcode trivial ?_
  refine z6s hF (zy9 hF) hmx none fn.ntmps ⟨lv,lv+1⟩ s.w.heap.size cf.body code (params 0 args) m x e1 m' hokc hev s {tmps:=xs.toArray++Array.replicate (fn.ntmps-xs.toArray.size) undef,defers:=[]} hs hm (yky hxs _) hsz (Nat.le_refl _) (znq.nil _ _) _ fun s1 A1 q1 q2 q3 q4 q5 q6=> ?_
  have done:LeavesInM (fen none) 0 P fn A1.tmps (zvj (z2o P gl) gl s v m') A1.defers .returning s1.w:=by
   obtain⟨rs,r1,r2,r3⟩:=q6
   rw [r1]
   refine ysg rs s1 r2 r3 q1 q2 fun s2 t1 t2 t3 t4=> ?_
   have henv:=zfb.ext0 t3 (fun _ _ _=>trivial) q4
   obtain⟨y,hy,hv⟩:=ygp (fn:=fn) t1 henv hres (by rw [t4,q3];exact hr)
   exact⟨y,hy,s2,y,rfl,rfl,t1,t2,t4.trans q3,hv⟩
  rcases hx with rfl|rfl<;>exact done
end
end Go.Evl
namespace Go.Evl
open Go.RowKit
section
variable {P : Program} {gl : Globs}
theorem ykl {s:S}:∀(ps:List Nat) (args:List V) (xs:List Value) (e:Env) (tmps:Array Value),ps.length=args.length->VRt s args xs->zfb s e tmps->(∀t∈ps,t<tmps.size)->
  zfb s (ytt ps args e) ((ps.toArray.zip xs.toArray).foldl (fun tmps (t,a)=>tmps.setIfInBounds t a) tmps)/\((ps.toArray.zip xs.toArray).foldl (fun tmps (t,a)=>tmps.setIfInBounds t a) tmps).size=tmps.size
 | [],args,xs,e,tmps,_,_,he,_=>by
  have hz:(([]:List Nat).toArray.zip xs.toArray).foldl (fun tmps (t,a)=>tmps.setIfInBounds t a) tmps=tmps:=by
   rw [<-Array.foldl_toList]
   simp
  rw [hz]
  exact⟨by cases args<;>exact he,rfl⟩
 | p::ps,[],xs,e,tmps,h,_,_,_=>by simp at h
 | p::ps,v::args,_,e,tmps,h,⟨x,ys,hx,h1,h2⟩,he,hp=>by
  subst hx
  have hpt:=hp p (by simp)
  have he':zfb s (put e p v) (tmps.setIfInBounds p x):=by
   have:=yew (A:={tmps:=tmps,defers:=[]}) he (some p) (fun t ht=>by obtain rfl:=Option.some.inj ht;exact hpt) h1
   exact this
  obtain⟨k1,k2⟩:=ykl ps args ys (put e p v) (tmps.setIfInBounds p x) (by simpa using h) h2 he' (fun t ht=>by simpa using hp t (by simp [ht]))
  have hz:((p::ps).toArray.zip (x::ys).toArray).foldl (fun tmps (t,a)=>tmps.setIfInBounds t a) tmps=(ps.toArray.zip ys.toArray).foldl (fun tmps (t,a)=>tmps.setIfInBounds t a) (tmps.setIfInBounds p x):=by
   rw [<-Array.foldl_toList,<-Array.foldl_toList]
   simp
  rw [hz]
  exact⟨k1,by rw [k2];simp⟩
theorem ygv {Γ:Nat->Option CF} {X:Extern} {F:Oracle} (hF:yug P gl F) (hmx:P.follows .mixedOrders=true):z1a P (z2o P gl) gl (step Γ X F):=by
 intro nx o args m v m' h
 simp only [step] at h
 split at h<;>try cases h
 rename_i e ps a b lv j0 hlk
 split at h<;>try cases h
 rename_i hpl
 split at h<;>try cases h
 rename_i e1 m1 heva
 split at h<;>try cases h
 rename_i e' ps' a' b' lv' j' hlk1
 split at h<;>try cases h
 rename_i x ex m2 hevb
 split at h<;>try cases h
 rename_i e3 ps3 a3 b3 lv3 j3 hlk2
 refine⟨⟨_,_,_,_,_,_,_,_,hlk⟩,fun s hs hm xs hxs l hl=> ?_⟩
 subst hm
 obtain⟨l0,L,hp0,hL,hpar,hplt,henv,hoa,hob,hst,hpend⟩:=hs.objs o _ hlk
 have hll:l0=l:=by rw [hl] at hp0;simpa using hp0.symm
 subst hll
 have hlen:=VRt.length _ _ hxs
 refine⟨L,hL,by rw [hpar];simpa using hpl.trans hlen,?_⟩
 obtain⟨nta,hnta,hoka⟩:=hoa
 obtain⟨ntb,hntb,hokb⟩:=hob
 obtain⟨z1,z2⟩:=ykl ps args xs e L.tmps hpl hxs henv hplt
 rw [hpar]
 refine roundIn_of_wpIn (F:=Fence.wide) trivial ?_
 -- the left sides
 refine z6s hF (zy9 hF) hmx (some l0) nta ⟨lv,nx⟩ 0 a L.assign _ _ .normal e1 m1 hoka heva s {tmps:=(ps.toArray.zip xs.toArray).foldl (fun tmps (t,a)=>tmps.setIfInBounds t a) L.tmps,defers:=[]} hs rfl z1 (by rw [z2];exact hnta) (Nat.zero_le _) (znq.nil _ _) _ fun s1 A1 q1 q2 q3 q4 q5 q6=> ?_
 subst q3
 obtain⟨o1,ho1,ht1⟩:=q2.objs o _ trivial hlk
 rw [hlk1] at ho1
 obtain rfl:=Option.some.inj ho1
 have hp1:s1.φ o= .pointer (some ⟨l0,0,none⟩):=(show s1.φ o=s.φ o from ht1).trans hl
 obtain⟨l1,L1,hpl1,hL1,hpar1,hplt1,henv1,hoa1,hob1,hst1,hpend1⟩:=q1.objs o _ hlk1
 have hll1:l1=l0:=by rw [hp1] at hpl1;simpa using hpl1.symm
 subst hll1
 have hlt1:l1<s1.w.heap.size:=(Array.getElem?_eq_some_iff.1 hL1).1
 obtain⟨kB1,kB2⟩:=zs9 q1 o _ (.loop e' ps' a' b' lv' true false j') hlk1 (by simp) l1 _ hp1 rfl _ (.loop {L1 with state:= .busy}) hL1 rfl rfl rfl
  (fun hE=>⟨l1,{L1 with state:= .busy},rfl,by simp [hlt1],hpar1,hplt1,zfb.ext hE (fun _ _ _=>trivial) henv1,hoa1,hob1,rfl,hpend1⟩)
 have hready:L1.state= .ready:=hst1
 refine⟨{s1.w with heap:=s1.w.heap.setIfInBounds l1 (.loop {L1 with state:= .busy})},by simp [Instr.beginRound,Instr.getLoop,getObj,setObj,Sem.run,hL1,hready],?_⟩
 -- the body
 refine z6s hF (zy9 hF) hmx (some l1) ntb ⟨lv,nx⟩ 0 b L.body e1 _ x ex m2 hokb hevb _ A1 kB1 rfl (zfb.ext kB2 (fun _ _ _=>trivial) q4) (by rw [q5];show ntb<=Array.size _;rw [z2];exact hntb) (Nat.zero_le _) (znq.ext kB2 q6) _ fun s2 A2 r1 r2 r3 r4 r5 r6=> ?_
 subst r3
 obtain⟨o2,ho2,ht2⟩:=r2.objs o _ trivial (zci _ _ _)
 rw [hlk2] at ho2
 obtain rfl:=Option.some.inj ho2
 have hp2:s2.φ o= .pointer (some ⟨l1,0,none⟩):=by
  have:s2.φ o=_:=ht2
  rw [this];simp
 obtain⟨l2,L2,hpl2,hL2,hpar2,hplt2,henv2,hoa2,hob2,hst2,hpend2⟩:=r1.objs o _ hlk2
 have hll2:l2=l1:=by rw [hp2] at hpl2;simpa using hpl2.symm
 subst hll2
 have hlt2:l2<s2.w.heap.size:=(Array.getElem?_eq_some_iff.1 hL2).1
 have hE2:Ext (fun _=>True) s s2:=Ext.trans q2 (Ext.trans kB2 r2 (fun _ _=>trivial)) (fun _ _=>trivial)
 -- the end of the round
 have fin:∀(ov:Bool) (jj:Option ysj),(if jj.isNone then LoopState.ready else .done)=ycf false ov->
   ∃s3:S,Sim (z2o P gl) gl s3/\Ext (fun _=>True) s s3/\s3.m=upd s2.m o (.loop e3 ps3 a3 b3 lv3 false ov jj)/\(Instr.endRound l2 (jj.map zqr)).run P s2.w= .ok (.bool jj.isNone) s3.w:=by
  intro ov jj hss
  obtain⟨k1,k2⟩:=zs9 r1 o _ (.loop e3 ps3 a3 b3 lv3 false ov jj) hlk2 (by simp) l2 _ hp2 rfl _ (.loop {L2 with state:=(if jj.isNone then LoopState.ready else .done),pending:=jj.map zqr}) hL2 rfl rfl rfl
   (fun hE=>⟨l2,{L2 with state:=(if jj.isNone then LoopState.ready else .done),pending:=jj.map zqr},rfl,by simp [hlt2],hpar2,hplt2,zfb.ext hE (fun _ _ _=>trivial) henv2,hoa2,hob2,hss,rfl⟩)
  refine⟨_,k1,Ext.trans hE2 k2 (fun _ _=>trivial),rfl,?_⟩
  cases jj<;>simp [Instr.endRound,Instr.getLoop,getObj,setObj,Sem.run,hL2]
 cases x with
 | normal=>
  simp only [Option.some.injEq,Res.val.injEq] at h
  obtain⟨rfl,rfl⟩:=h
  obtain⟨s3,k1,k2,k3,k4⟩:=fin false none rfl
  obtain⟨g1,g2⟩:=ywa k1 (keys s.m) []
  refine⟨.bool true,s3.w,k4,⟨s3.φ,gc (keys s.m) [] s3.m,s3.w,s3.Im⟩,.bool true,rfl,rfl,g1,?_,by rw [k3],rfl⟩
  refine Ext.of_look (Ext.trans (Ext.mono k2 (fun _ _=>trivial)) g2 fun i hi=> .inl ?_)
  cases ho:look s.m i with
  | none=>exact absurd ho hi
  | some o=>exact zud _ i o ho
 | exit id=>
  simp only [Option.some.injEq,Res.val.injEq] at h
  obtain⟨rfl,rfl⟩:=h
  obtain⟨s3,k1,k2,k3,k4⟩:=fin true (some (.exit id)) rfl
  exact⟨.bool false,s3.w,k4,s3,.bool false,rfl,rfl,k1,k2,k3,rfl⟩
 | ret=>
  simp only [Option.some.injEq,Res.val.injEq] at h
  obtain⟨rfl,rfl⟩:=h
  obtain⟨s3,k1,k2,k3,k4⟩:=fin true (some .ret) rfl
  exact⟨.bool false,s3.w,k4,s3,.bool false,rfl,rfl,k1,k2,k3,rfl⟩
theorem z94 {Γ:Nat->Option CF} {X:Extern} (hmx:P.follows .mixedOrders=true) (hX:ExternOk P gl X) (hΓ:CodeOk P gl Γ):∀n,yug P gl (iter Γ X n)
 | 0=>⟨⟨fun _ _ _ _ _ _ h=>by simp [iter] at h,fun _ _ _ _ _ _ h=>by simp [iter] at h⟩,fun _ _ _ _ _ _ _ _ _ h=>by simp [iter] at h⟩
 | n+1=>
  have hF:=z94 hmx hX hΓ n
  ⟨⟨yln hF hmx hX hΓ,ygv hF hmx⟩,yjw hF hmx⟩
theorem z7g {Γ:Nat->Option CF} {X:Extern} (hmx:P.follows .mixedOrders=true) (hX:ExternOk P gl X) (hΓ:CodeOk P gl Γ) {n f:Nat} {args:List V} {v:V} {m':Mem} (h:iter Γ X n (.call 0 f args [])=some (.val v m'))
  {s:S} (hs:Sim (z2o P gl) gl s) (hm:s.m=[]) {xs:List Value} (hxs:VRt s args xs):Calls P f xs.toArray s.w (zvj (z2o P gl) gl s v m'):=
 callsIn_wide.1 (((z94 hmx hX hΓ n).good.call _ _ _ _ _ _ h).2 s hs hm xs hxs)
end
end Go.Evl
