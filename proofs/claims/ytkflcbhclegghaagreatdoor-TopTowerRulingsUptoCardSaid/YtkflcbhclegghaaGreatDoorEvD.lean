
/-
 The evaluator is sound, fourth part: code, activations, yo4.
-/
import Derived.Test.YtkflcbhclegghaaGreatDoorEvF
namespace Go.Evl
open Go.RowKit
theorem ymc{F:Fence}{n:Nat}{P:Program}{Q:Exit->Act->World->Prop}{a:Act}{w:World}{c:Code}(h:c.wpIn F n P (Exit.noGoto Q) a w):(Code.scope c).wpIn F n P Q a w:=by
 intro b k cs hro hb hr
 have s0:∀(a:Act)(w:World),Go.step P (lone (b.atR a (.code (.scope c)::k)) cs w)=.next (lone (b.atR a (.code c::.inScope c::k)) cs w):=
  λa w=>step_lone_go (by simp[stepG,stepG.exec,Frame.atR])
 have s1:∀(a:Act)(w:World),Go.step P (lone (b.atR a (.inScope c::k)) cs w)=.next (lone (b.atR a k) cs w):=
  λa w=>step_lone_go (by simp[stepG,stepG.exec,Frame.atR])
 have h0:(lone (b.atR a (.code (.scope c)::k)) cs w).fenced P F:=fenced_calm hb hr rfl;obtain⟨e,a₁,w₁,hq,harr⟩:=h b (.inScope c::k) cs hro hb hr;cases e with
 |normal=>exact⟨.normal,a₁,w₁,hq,.head h0 (s0 a w) (StepsIn.trans harr (.one (fenced_calm hb hr rfl) (s1 a₁ w₁)))⟩
 |exit id=>
  have hx:exitTo id (.inScope c::k)=exitTo id k:=by simp[exitTo]
  exact⟨.exit id,a₁,w₁,hq,λk' hk=>.head h0 (s0 a w) (harr.1 k' (by rw[hx];exact hk)),
   λhr' hk=>let⟨k₁,h1,h2⟩:=harr.2 hr' (by rw[hx];exact hk);⟨k₁,h1,.head h0 (s0 a w) h2⟩⟩
 |goto l=>exact hq.elim
 |ret=>exact⟨_,a₁,w₁,hq,.of_steps (.one h0 (s0 a w)) harr⟩
 |panic ch=>exact⟨_,a₁,w₁,hq,.of_steps (.one h0 (s0 a w)) harr⟩
 |outgrown=>exact⟨_,a₁,w₁,hq,.of_steps (.one h0 (s0 a w)) harr⟩
def mapT(P:Program)(t:TypeId):Bool:=match P.underlying t with|some (.map _ _)=>true|_=>false
def yoe(os2:Array Oper)(c:Operand)(it nt:Nat)(live:List Nat):Bool:=
 match os2.toList with
 |[a,b]=>
  match a.op,a.dst,b.op,b.dst,c with
  |.next (.tmp j) false,some nx,.extract (.tmp nx') 0,some mo,.tmp mo'=>
   j==it&&nx'==nx&&mo'==mo&&a.guard.isNone&&b.guard.isNone&&decide (nx<nt)&&decide (mo<nt)&& !live.elem nx&& !live.elem mo&& !(nx==mo)&& !(nx==it)&& !(mo==it)
  |_,_,_,_,_=>false
 |_=>false
def z2n(P:Program)(gl:Globs)(nt:Nat)(pre:List CO)(it:Nat)(x:Opd)(out nxt pair:Nat)(live:List Nat)(ops:List CO)(os:Array Oper)(out':Nat)(os2:Array Oper)(c:Operand)(out2 nxt':Nat)(os3:Array Oper):Bool:=
 out'==out&&out2==out&&nxt'==nxt&& !(nxt==out)&&live.elem it&&decide (it<nt)&& !(pair==it)&&decide (pair<nt)&&zq0 P gl nt os pre os.toList.dropLast&&
 (match os.toList.getLast? with
  |some o=>(match o.op with|.range t a=>mapT P t&&okX gl a x|_=>false)&&o.dst==some it&&o.guard.isNone
  |none=>false)&&
 yoe os2 c it nt live&&
 (match os3.toList with
  |o::rest=>(match o.op with|.entry (.tmp j)=>j==it|_=>false)&&o.dst==some pair&&o.guard.isNone&&zq0 P gl nt os3 ops rest
  |[]=>false)
def okC(P:Program)(gl:Globs)(nt:Nat)(rnd:Bool):C->Code->Bool
 |.skip,.skip=>true
 |.label,.label _=>true
 |.reg d ops kill,.region _ os dr=>(d==dr&&zq0 P gl nt os ops os.toList&&(!dr||yc3 [] os ops))||(!d&&dr&&yvw P gl nt os ops kill)
 |.regC ops _ chk,.region _ os dr=>dr&&zq0 P gl nt os ops os.toList&&yc3 chk os ops
 |.seq a b,.seq x y=>okC P gl nt rnd a x&&okC P gl nt rnd b y
 |.cond c a b,.cond x p q=>okX gl x c&&okC P gl nt rnd a p&&okC P gl nt rnd b q
 |.block i c,.block j d=>i==j&&okC P gl nt rnd c d
 |.loop _ c,.loop d=>okC P gl nt rnd c d
 |.exit i,.exit j=>i==j
 |.scope c,.scope d=>okC P gl nt rnd c d
 |.fz _ c,d=>okC P gl nt rnd c d
 |.ret,.ret=>true
 |.bad,_=>true
 |.rangeFn _ f ps a b,.rangeFunc g qs x y=>!rnd&&okX gl g f&&qs.toList==ps&&ps.all (λt=>decide (t<nt))&&okC P gl nt true a x&&okC P gl nt true b y
 |.rangeM pre it x out nxt pair live ops _ code,.seq (.region _ os false) (.block out' (.loop (.seq (.region _ os2 false) (.seq (.cond c .skip (.exit out2)) (.block nxt' (.seq (.region _ os3 false) code'))))))=>
  z2n P gl nt pre it x out nxt pair live ops os out' os2 c out2 nxt' os3&&okC P gl nt rnd code code'
 |_,_=>false
def ztl(P:Program)(gl:Globs):zel:=λn c code=>∃nt,nt<=n/\okC P gl nt true c code=true
def Ex.exit':Ex->Exit
 |.normal=>.normal
 |.exit id=>.exit id
 |.ret=>.ret
def zs2(r:Nat):Deferred:={target:=.collected r,args:=#[]}
def zgy(N:Nat)(s:S)(ds:List Deferred):Prop:=
 ∃rs:List Nat,ds=rs.map zs2/\rs.Nodup/\∀r∈rs,N<=r/\s.w.heap[r]?=some (.deferred (some []))/\zxj s r/\∀j,¬s.Im r j
theorem zgy.nil(N:Nat)(s:S):zgy N s []:=⟨[],rfl,List.nodup_nil,λr h=>by simp at h⟩
theorem zgy.ext [Clk]{K:Id->Prop}{N:Nat}{s s':S}{ds:List Deferred}(h:Ext K s s')(hm:zgy N s ds):zgy N s' ds:=by
 obtain⟨rs,h1,h2,h3⟩:=hm;refine⟨rs,h1,h2,λr hr=>?_⟩;obtain⟨k1,k2,k3,k4⟩:=h3 r hr;have hlt:=(Array.getElem?_eq_some_iff.1 k2).1;obtain⟨f1,f2⟩:=h.frame r hlt k3;refine⟨k1,f1.trans k2,f2,λj hj=>?_⟩
 rcases h.imnew r j hj with q|q|q
 ·exact k4 j q
 ·omega
 exact q k3
section
variable{P:Program}{gl:Globs}
def yhm [Clk](P:Program)(gl:Globs)(F:Oracle):Prop:=
 ∀cx live keep body e m x e' m',F (.loop cx live keep body e m)=some (.st x e' m')->∀(rd:Option Nat)(nt:Nat)(code:Code),okC P gl nt rd.isSome body code=true->
  ∃k,∀(N:Nat)(s:S)(A:Act),Sim (ztl P gl) gl s->s.m=m->zc9 s e A.tmps->nt<=A.tmps.size->N<=s.w.heap.size->zgy N s A.defers->∀(Q:Exit->Act->World->Prop),
   (∀s' A',Sim (ztl P gl) gl s'->Ext (λi=>i∈keep) s s'->s'.m=m'->zc9 s' e' A'.tmps->A'.tmps.size=A.tmps.size->zgy N s' A'.defers->Q x.exit' A' s'.w)->
   Code.roundsIn (fen rd) 0 P code Q k A s.w
structure ywv [Clk](P:Program)(gl:Globs)(F:Oracle):Prop where
 good:Good P (ztl P gl) gl F
 loop:yhm P gl F
theorem zri:∀(m:Mem)(i:Id)(o:Ob),look m i=some o->i∈zoi m
 |[],i,o,h=>by simp[look]at h
 |(j,y)::r,i,o,h=>by
  simp only[look]at h
  split at h
  ·rename_i e;subst e;simp[zoi]
  have:=zri r i o h;simp only[zoi,List.map_cons,List.mem_cons];exact .inr this
theorem z9v(e:Env)(m:Mem):gc1 (zoi m) e m=m:=by
 unfold gc1;refine List.filter_eq_self.2 λp hp=>?_
 have:p.1∈zoi m:=List.mem_map_of_mem hp;simp[this]
theorem yva(e:Env)(m:Mem):gc (zoi m) e m=m:=by
 unfold gc;rw[z9v,z9v,z9v]
theorem ydx [Clk]{oc:zel}{s:S}(hs:Sim oc gl s){r:Nat}{x obj:Obj}(hx:s.w.heap[r]?=some x)(hf:zxj s r)(hi:∀j,¬s.Im r j):
  Sim oc gl ⟨s.φ,s.m,{s.w with heap:=s.w.heap.setIfInBounds r obj},s.Im⟩/\yec (λ_=>True) s ⟨s.φ,s.m,{s.w with heap:=s.w.heap.setIfInBounds r obj},s.Im⟩/\
  ∀(K:Id->Prop)(s0:S),Ext K s0 s->s0.w.heap.size<=r->Ext K s0 ⟨s.φ,s.m,{s.w with heap:=s.w.heap.setIfInBounds r obj},s.Im⟩:=by
 have hoth:∀c,c≠r->(s.w.heap.setIfInBounds r obj)[c]?=s.w.heap[c]?:=λc h=>by simp[Ne.symm h]
 have hkeep:∀b j,s.Im b j->World.cell? {s.w with heap:=s.w.heap.setIfInBounds r obj} ⟨b,j,none⟩=s.w.cell? ⟨b,j,none⟩:=λb j h=>World.cell?_of_block (hoth b λe=>by subst e;exact hi j h)
 have h0:yec (λ_=>True) s ⟨s.φ,s.m,{s.w with heap:=s.w.heap.setIfInBounds r obj},s.Im⟩:=⟨λ_ _ h=>h,hkeep,λi o _ ho=>⟨o,ho,zbd.refl _ _⟩⟩
 refine⟨⟨λi o ho=>?_,hs.apart,λb j h=>by simpa using hs.imlt b j h,λg cs hg=>CR.ext (λ_ _ h=>h) hkeep g 0 cs (hs.glob g cs hg),λg cs hg=>?_⟩,h0,λK s0 hE hr=>?_⟩
 ·by_cases hg:o=.gone
  ·subst hg;trivial
  exact ObR.ext0 h0 (λ_ _=>trivial) (λb hb=>⟨hoth b λe=>by subst e;exact hf i o ho hg hb,λ_ h=>h⟩) (hs.objs i o ho)
 ·obtain⟨h1,h2,arr,t,fz,h3,h4⟩:=hs.tabs g cs hg;refine⟨h1,h2,arr,t,fz,(hoth g λe=>?_).trans h3,h4⟩;subst e;cases cs with
  |nil=>exact h2 rfl
  |cons d q=>exact hi 0 (hs.glob _ _ hg).1
 refine⟨hE.os,⟨hE.tape.tape,hE.tape.drawn⟩,hE.output,by simpa using hE.size,λb hb hfb=>⟨?_,(hE.frame b hb hfb).2⟩,hE.imnew,hE.im,λb j h=>(hkeep b j (hE.im b j h)).trans (hE.keep b j h),hE.objs⟩;have:(s.w.heap.setIfInBounds r obj)[b]?=s.w.heap[b]?:=hoth b (by omega);exact this.trans (hE.frame b hb hfb).1
theorem ynp [Clk]{oc:zel}{s:S}(hs:Sim oc gl s)(keep:List Id)(e:Env):Sim oc gl ⟨s.φ,gc1 keep e s.m,s.w,s.Im⟩/\Ext (λi=>i∈keep\/i∈ykz e) s ⟨s.φ,gc1 keep e s.m,s.w,s.Im⟩:=by
 obtain⟨k1,k2⟩:=hs.sub (λi=>keep.elem i||(ykz e).elem i||(idsAll s.m).elem i) (λi hi=>by
  have:=zsl _ _ _ hi
  simp[this])
 exact⟨k1,Ext.mono k2 λi hi=>by rcases hi with hi|hi<;>simp[hi]⟩
theorem yvb [Clk]{oc:zel}{s:S}(hs:Sim oc gl s)(keep:List Id)(e:Env):Sim oc gl ⟨s.φ,gc keep e s.m,s.w,s.Im⟩/\Ext (λi=>i∈keep\/i∈ykz e) s ⟨s.φ,gc keep e s.m,s.w,s.Im⟩:=by
 obtain⟨a1,a2⟩:=ynp hs keep e;obtain⟨b1,b2⟩:=ynp a1 keep e;obtain⟨c1,c2⟩:=ynp b1 keep e;exact⟨c1,Ext.trans a2 (Ext.trans b2 c2 (λ_ h=>h)) (λ_ h=>h)⟩
theorem zq4.perm_split{s:S}:∀(L:List (D×V))(l:List MapEntry),zq4 s L l->∀x∈l,∃L1 k v L2 l1 l2,L=L1++(k,v)::L2/\l=l1++x::l2/\DR s.w s.Im k x.key/\VR s v x.val/\zq4 s (L1++L2) (l1++l2)
 |[],l,h,x,hx=>by
  have h:l=[]:=h;subst h;simp at hx
 |(k,v)::r,l,h,x,hx=>by
  obtain⟨e,q,rfl,h1,h2,h3,h4⟩:=h
  rcases List.mem_cons.1 hx with rfl|hx
  ·exact⟨[],k,v,r,[],q,rfl,rfl,h2,h3,h4⟩
  obtain⟨L1,k',v',L2,l1,l2,rfl,rfl,g1,g2,g3⟩:=zq4.perm_split r q h4 x hx;exact⟨(k,v)::L1,k',v',L2,e::l1,l2,rfl,rfl,g1,g2,⟨e,_,rfl,h1,h2,h3,g3⟩⟩
theorem zut.order{s:S}{L:List (D×V)}{l:List MapEntry}(h:zut s L l):∃q,zq4 s L q/\q.Perm l:=by
 rcases h with h|⟨_,_,q,hp,h⟩
 ·exact⟨l,h,.refl _⟩
 exact⟨q,h,hp⟩
theorem ynz{ces:Array MapEntry}{seen:Array Nat}{x:MapEntry}{l:List MapEntry}(hn:(ces.toList.map (·.born)).Nodup)(h:(x::l).Perm (leftOf ces seen).toList):l.Perm (leftOf ces (seen.push x.born)).toList:=by
 have e1:(leftOf ces (seen.push x.born)).toList=(leftOf ces seen).toList.filter λy=>!(y.born==x.born):=by
  unfold leftOf;rw[Array.toList_filter,Array.toList_filter,List.filter_filter];congr 1
  funext y
  simp only[Array.contains_push];rw[Bool.not_or,Bool.and_comm]
 rw[e1]
 have hb:((x::l).map (·.born)).Nodup:=by
  refine(h.map (·.born)).nodup_iff.2 ?_;unfold leftOf;rw[Array.toList_filter];exact(List.filter_sublist.map _).nodup hn
 have h2:=h.filter λy=>!(y.born==x.born)
 have e2:(x::l).filter (λy=>!(y.born==x.born))=l:=by
  rw[List.filter_cons];simp only[beq_self_eq_true,Bool.not_true,Bool.false_eq_true,if_false];refine List.filter_eq_self.2 λy hy=>?_
  simp only[List.map_cons,List.nodup_cons,List.mem_map,not_exists,not_and]at hb;simpa using hb.1 y hy
 rw[e2]at h2;exact h2
structure yqk [Clk](oc:zel)(gl:Globs)(sP sG s:S)(b r:Nat)(ces:Array MapEntry)(clock:Nat):Prop where
 sim:Sim oc gl s
 ext:Ext (λk=>look sP.m k≠none) sP s
 objs:∀k o,look sG.m k=some o->∃o',look s.m k=some o'/\zbd o o' (sG.φ k) (s.φ k)
 fb:zxj s b
 fr:zxj s r
 ir:∀j,¬s.Im r j
 hb:s.w.heap[b]?=some (.map ces clock)
 lt:sP.w.heap.size<=r
 rlt:r<s.w.heap.size
theorem yqk.step [Clk]{oc:zel}{sP sG s s':S}{b r:Nat}{ces:Array MapEntry}{clock:Nat}(h:yqk oc gl sP sG s b r ces clock)(hE:Ext (λk=>look sG.m k≠none\/look sP.m k≠none) s s')(hs:Sim oc gl s'):
  yqk oc gl sP sG s' b r ces clock/\s'.w.heap[r]?=s.w.heap[r]?:=by
 have hbl:=(Array.getElem?_eq_some_iff.1 h.hb).1;obtain⟨b1,b2⟩:=hE.frame b hbl h.fb;obtain⟨r1,r2⟩:=hE.frame r h.rlt h.fr
 refine⟨⟨hs,Ext.trans h.ext hE (λ_ h=>.inr h),λk o ho=>?_,b2,r2,λj hj=>?_,b1.trans h.hb,h.lt,Nat.lt_of_lt_of_le h.rlt hE.size⟩,r1⟩
 ·obtain⟨o1,h1,t1⟩:=h.objs k o ho;obtain⟨o2,h2,t2⟩:=hE.objs k o1 (.inl (by rw[ho];simp)) h1;exact⟨o2,h2,t1.trans t2⟩
 rcases hE.imnew r j hj with q|q|q
 ·exact h.ir j q
 ·exact absurd h.rlt (by omega)
 exact q h.fr
theorem yqk.aside [Clk]{oc:zel}{sP sG s:S}{b r:Nat}{ces:Array MapEntry}{clock:Nat}(h:yqk oc gl sP sG s b r ces clock)(w1:World)(hw:w1=s.w\/w1=s.w.drew)(obj:Obj)(hbr:b≠r):
  yqk oc gl sP sG ⟨s.φ,s.m,{w1 with heap:=w1.heap.setIfInBounds r obj},s.Im⟩ b r ces clock/\yec (λ_=>True) s ⟨s.φ,s.m,{w1 with heap:=w1.heap.setIfInBounds r obj},s.Im⟩/\
  ({w1 with heap:=w1.heap.setIfInBounds r obj}:World).heap[r]?=some obj/\
  (∀c,c≠r->({w1 with heap:=w1.heap.setIfInBounds r obj}:World).heap[c]?=s.w.heap[c]?):=by
 have hh:w1.heap=s.w.heap:=by rcases hw with rfl|rfl<;>rfl
 obtain⟨k1,k2⟩:=h.sim.calm w1 s.Im (by rcases hw with rfl|rfl<;>rfl) (by rcases hw with rfl|rfl<;>exact Tk.of) (by rcases hw with rfl|rfl<;>rfl) (by rw[hh];exact Nat.le_refl _) (λc _=>by rw[hh]) (λ_ _ h=>h) (λ_ _ h=>.inl h) (λc j hj=>by rw[hh];exact h.sim.imlt c j hj);obtain⟨i1,i2⟩:=h.step (Ext.mono k2 λ_ _=>trivial) k1;have hr:∃x,w1.heap[r]?=some x:=by rw[hh];exact⟨_,Array.getElem?_eq_getElem h.rlt⟩
 obtain⟨x,hr⟩:=hr;obtain⟨a1,a2,a3⟩:=ydx (s:=⟨s.φ,s.m,w1,s.Im⟩) (obj:=obj) i1.sim hr i1.fr i1.ir;have hoth:∀c,c≠r->(w1.heap.setIfInBounds r obj)[c]?=s.w.heap[c]?:=λc hc=>by rw[<-hh];simp[Ne.symm hc]
 refine⟨⟨a1,a3 _ sP i1.ext h.lt,i1.objs,i1.fb,i1.fr,i1.ir,(hoth b hbr).trans h.hb,h.lt,?_⟩,?_,?_,hoth⟩
 ·show r<(w1.heap.setIfInBounds r obj).size;rw[Array.size_setIfInBounds,hh];exact h.rlt
 ·exact⟨λb j h=>a2.im b j (k2.im b j h),λb j h=>(a2.keep b j (k2.im b j h)).trans (k2.keep b j h),λi o _ ho=>⟨o,ho,zbd.refl _ _⟩⟩
 show(w1.heap.setIfInBounds r obj)[r]?=some obj;have:r<w1.heap.size:=by rw[hh];exact h.rlt
 simp[this]
theorem zgy.aside [Clk]{N:Nat}{s s':S}{r:Nat}{ds:List Deferred}(h:zgy N s ds)(hm:s'.m=s.m)(hφ:s'.φ=s.φ)(hI:s'.Im=s.Im){x:Obj}(hx:s.w.heap[r]?=some x)(hx':∀d,x≠.deferred d)(hh:∀c,c≠r->s'.w.heap[c]?=s.w.heap[c]?):zgy N s' ds:=by
 obtain⟨rs,h1,h2,h3⟩:=h;refine⟨rs,h1,h2,λc hc=>?_⟩;obtain⟨k1,k2,k3,k4⟩:=h3 c hc
 refine⟨k1,(hh c λe=>?_).trans k2,?_,by rw[hI];exact k4⟩
 ·subst e;rw[hx]at k2;exact hx' _ (Option.some.inj k2)
 intro i o hi;rw[hm]at hi;rw[hφ];exact k3 i o hi
section
variable{P:Program}
theorem yc6(live:List Nat)(e:Env)(t:Nat)(h:live.elem t=true):get (only live e) t=get e t:=by
 induction live with
 |nil=>simp at h
 |cons u r ih=>
  simp only[only,List.map_cons,get]
  split
  ·rename_i e;subst e;rfl
  rename_i hne;refine ih ?_;rw[List.elem_cons]at h;have:(t==u)=false:=by simpa using λe=>hne e.symm
  rw[this]at h;exact h
theorem yc5(live:List Nat)(e:Env)(t:Nat)(h:live.elem t=false):get (only live e) t=.undef:=by
 have hm:t∉live:=λhm=>by rw[List.elem_eq_true_of_mem hm]at h;cases h
 clear h;induction live with
 |nil=>rfl
 |cons u r ih=>
  simp only[List.mem_cons,not_or]at hm;simp only[only,List.map_cons,get]
  split
  ·rename_i e;exact absurd e.symm hm.1
  exact ih hm.2
theorem z04{body:Env->Mem->Option (Ex×Env×Mem)}{it:Nat}{i:Id}{out nxt pair:Nat}{live:List Nat}{keep:List Id}{k:D}{v:V}{r:List (D×V)}{e:Env}{m:Mem}{p:Ex×Env×Mem}(h:body (put e pair (.tup [.d k,v])) m=some p):
  zg2 body it i out nxt pair live keep ((k,v)::r) e m=zkd it i out nxt live keep (zg2 body it i out nxt pair live keep r) p:=by
 simp only[zg2,h,Option.bind_some]
theorem yu8(i:Id):zsj (.it i) (.it i)=true:=by simp[zsj]
theorem yan [Clk]{F:Oracle}(hF:Good P (ztl P gl) gl F)(rd:Option Nat)(cx:Cx){nt N:Nat}{it out nxt pair:Nat}{i:Id}{live:List Nat}{ops:List CO}{kill:List Nat}{code:C}{code':Code}
  {os2 os3:Array Oper}{id2 id3:Nat}{c:Operand}(hst:yoe os2 c it nt live=true)(hitl:live.elem it=true)(hpi:pair≠it)(hit:it<nt)(hpn:pair<nt)
  {o3:Oper}{rest3:List Oper}(h3:os3.toList=o3::rest3)(ho3:o3.op=.entry (.tmp it))(hd3:o3.dst=some pair)(hg3:o3.guard=none)(ok3:zq0 P gl nt os3 ops rest3=true)
  {T:Nat}(hT:nt<=T)
  (walk:∀(e:Env)(m:Mem)(x:Ex)(e':Env)(m':Mem),evC F cx code e m=some (x,e',m')->
   ∀(s:S)(A:Act),Sim (ztl P gl) gl s->s.m=m->zc9 s e A.tmps->nt<=A.tmps.size->N<=s.w.heap.size->zgy N s A.defers->∀(Q:Exit->Act->World->Prop),
    (∀s' A',Sim (ztl P gl) gl s'->Ext (λ_=>True) s s'->s'.m=m'->zc9 s' e' A'.tmps->A'.tmps.size=A.tmps.size->zgy N s' A'.defers->Q x.exit' A' s'.w)->code'.wpIn (fen rd) 0 P Q A s.w)
  {sP sG:S}{b r:Nat}{ces:Array MapEntry}{clock:Nat}(hbr:b≠r)(hstp:zv7 ces clock)(hi:look sG.m i=some .gone)(hφi:sG.φ i=.pointer (some ⟨r,0,none⟩))(hkeys:∀q o,look sP.m q=some o->q∈zoi sG.m)(hNs:N<=sP.w.heap.size)
  (G:Ex->Env->Mem->Prop)(Q:Exit->Act->World->Prop)
  (hQ:∀x e' m',G x e' m'->∀s' A',yqk (ztl P gl) gl sP sG s' b r ces clock->s'.m=m'->zc9 s' e' A'.tmps->A'.tmps.size=T->zgy N s' A'.defers->Q x.exit' A' s'.w):
  ∀(n:Nat)(L:List (D×V))(s:S)(A:Act)(e:Env)(seen:Array Nat),L.length=n->yqk (ztl P gl) gl sP sG s b r ces clock->s.w.heap[r]?=some (.mapIter (some b) clock seen clock)->
   zc9 s e A.tmps->get e it=.it i->(∀t,live.elem t=false->get e t=.undef)->A.tmps.size=T->zgy N s A.defers->
   (∃l,zq4 sP L l/\l.Perm (leftOf ces seen).toList)->
   (∀p,p.Perm L->∃x e' m',zg2 (λe m=>(zjb F cx ops e m).bind λq=>evC F cx code (zdk kill q.1) q.2) it i out nxt pair live (zoi sG.m) p e s.m=some (x,e',m')/\G x e' m')->
   Code.roundsIn (fen rd) 0 P (.seq (.region id2 os2 false) (.seq (.cond c .skip (.exit out)) (.block nxt (.seq (.region id3 os3 false) code')))) (Exit.inBlock out Q) (n+1) A s.w:=by
 unfold yoe at hst;split at hst<;>try cases hst
 rename_i oa ob hos2;split at hst<;>try cases hst
 rename_i j nx nx' mo mo' hoa hda hob hdb;simp only[Bool.and_eq_true,beq_iff_eq,Option.isNone_iff_eq_none,decide_eq_true_eq,Bool.not_eq_true',beq_eq_false_iff_ne]at hst;obtain⟨⟨⟨⟨⟨⟨⟨⟨⟨⟨⟨hj,rfl⟩,rfl⟩,hga⟩,hgb⟩,hnx⟩,hmo⟩,hlnx⟩,hlmo⟩,hnm⟩,hni⟩,hmi⟩:=hst;subst hj;have hos2s:os2.size=2:=by have:=congrArg List.length hos2;simpa using this
 have ha:os2[0]?=some oa:=by rw[<-Array.getElem?_toList,hos2];rfl
 have hb2:os2[1]?=some ob:=by rw[<-Array.getElem?_toList,hos2];rfl
 have hos3s:os3.size=rest3.length+1:=by have:=congrArg List.length h3;simpa using this
 have h30:os3[0]?=some o3:=by rw[<-Array.getElem?_toList,h3];rfl
 intro n;induction n using Nat.strongRecOn with
 |ind n ih=>
 intro L s A e seen hL hR hr he heit helv hsz hmk hl hall;obtain⟨l,hml,hlp⟩:=hl;rw[roundsIn_succ]
 -- the iterator
 have hitv:A.eval (.tmp j)=.pointer (some ⟨r,0,none⟩):=by
  have h1:=he j;rw[heit]at h1;obtain⟨o',h2,t⟩:=hR.objs i _ hi;have h3:=h1.2;rw[h2]at h3
  have hp:s.φ i=.pointer (some ⟨r,0,none⟩):=by
   cases o'<;>simp only[zbd]at t<;>first|exact t.trans hφi|cases t
  have:A.tmps.getD j undef=s.φ i:=by
   cases o'<;>simp only[zbd]at t<;>first|exact h3|cases t
  show A.tmps.getD j undef=_;rw[this,hp]
 have hput:∀(s:S)(A:Act)(t:Nat)(x:Value),zc9 s e A.tmps->live.elem t=false->zc9 s e (A.put (some t) x).tmps:=by
  intro s A t x he ht u
  by_cases hu:t=u
  ·subst hu;rw[helv t ht];trivial
  by_cases hlt:t<A.tmps.size
  ·rw[znl A t x hlt];simp only[hu,if_false];exact he u
  have:(A.put (some t) x).tmps=A.tmps:=by simp[Act.put,Array.setIfInBounds,hlt]
  rw[this];exact he u
 have hev:∀(A:Act)(t:Nat)(x:Value),t<A.tmps.size->(A.put (some t) x).eval (.tmp t)=x:=by
  intro A t x h;show(A.put (some t) x).tmps.getD t undef=x;rw[znl A t x h];simp
 have hnxA:nx'<A.tmps.size:=by
  rw[hsz];exact Nat.lt_of_lt_of_le hnx hT
 refine wpIn_seq (wpIn_region ?_);rw[hos2s,show List.range 2=[0,1]from rfl,wpOpsIn_cons]
 rcases run_next_at (P:=P) s.w oa.type r b clock clock seen ces clock hr hR.hb hstp.1 (Nat.le_refl _)with⟨h0,hrun⟩|⟨ex,hex,w1,hw1,hrun⟩
 ·--nothing is left
  have hl0:l=[]:=by
   have h1:=hlp.length_eq;have h2:(leftOf ces seen).toList.length=(leftOf ces seen).size:=Array.length_toList;exact List.eq_nil_of_length_eq_zero (by omega)
  subst hl0;have hL0:L=[]:=List.eq_nil_of_length_eq_zero (zq4.len _ _ hml);subst hL0;obtain⟨x,e',m',h1,hG⟩:=hall [] (.refl _);simp only[zg2,Option.some.injEq,Prod.mk.injEq]at h1;obtain⟨rfl,rfl,rfl⟩:=h1
  refine z8b ha hga rd (x:=.tuple #[.bool false]) (w':=s.w) ?_ ?_
  ·simp[execOp,hoa,hitv,hrun,Result.andThen]
  rw[wpOpsIn_cons,hda]
  refine z8b hb2 hgb rd (x:=.bool false) (w':=s.w) ?_ ?_
  ·simp[execOp,hob,hev A nx' _ hnxA,Instr.extract]
  rw[hdb];have hsz2:=(zia A (some nx') (.tuple #[.bool false])).1;refine wpIn_seq (wpIn_cond (t:=false) (hev _ mo' _ (by rw[hsz2,hsz];exact Nat.lt_of_lt_of_le hmo hT)) (wpIn_exit ?_));show Exit.inBlock out Q (.exit out) _ _;simp only[Exit.inBlock,if_true];have hsz3:=zia (A.put (some nx') (.tuple #[.bool false])) (some mo') (.bool false);refine hQ _ _ _ hG s _ hR rfl (hput _ _ _ _ (hput _ _ _ _ he hlnx) hlmo) (by omega) ?_;rw[hsz3.2,(zia A (some nx') _).2];exact hmk
 ·--an entry comes
  obtain⟨L1,k,v,L2,l1,l2,rfl,rfl,hk,hv,hm'⟩:=zq4.perm_split L l hml ex (hlp.symm.subset hex);have hpL:∀p,p.Perm (L1++L2)->((k,v)::p).Perm (L1++(k,v)::L2):=λp hp=>(hp.cons _).trans List.perm_middle.symm
  have hlp2:=ynz hstp.2.1 (List.perm_middle.symm.trans hlp);obtain⟨hexm,_⟩:=mem_left hex
  have hn1:∃n',n=n'+1/\(L1++L2).length=n':=by
   have:(L1++(k,v)::L2).length=n:=hL;simp only[List.length_append,List.length_cons]at this⊢;exact⟨n-1,by omega,by omega⟩
  obtain⟨n',rfl,hL'⟩:=hn1;have hh1:w1.heap=s.w.heap:=by rcases hw1 with rfl|rfl<;>rfl
  have hset:ChangeMaps.setBlock w1 r (.mapIter (some b) clock (seen.push ex.born) clock)=({w1 with heap:=w1.heap.setIfInBounds r (.mapIter (some b) clock (seen.push ex.born) clock)}:World):=rfl;rw[hset]at hrun;obtain⟨hR1,x01,hr1,hoth⟩:=hR.aside w1 hw1 (.mapIter (some b) clock (seen.push ex.born) clock) hbr;have hmk1:=zgy.aside (s':=⟨s.φ,s.m,{w1 with heap:=w1.heap.setIfInBounds r (.mapIter (some b) clock (seen.push ex.born) clock)},s.Im⟩) hmk rfl rfl rfl hr (by simp) hoth;obtain⟨s1,hs1⟩:∃s1:S,s1=⟨s.φ,s.m,{w1 with heap:=w1.heap.setIfInBounds r (.mapIter (some b) clock (seen.push ex.born) clock)},s.Im⟩:=⟨_,rfl⟩
  have hw:({w1 with heap:=w1.heap.setIfInBounds r (.mapIter (some b) clock (seen.push ex.born) clock)}:World)=s1.w:=by rw[hs1]
  have hm1:s1.m=s.m:=by rw[hs1]
  rw[<-hs1]at hR1 x01 hmk1;rw[hw]at hrun hr1;have he1:zc9 s1 e A.tmps:=zc9.ext0 x01 (λ_ _ _=>trivial) he
  refine z8b ha hga rd (x:=.tuple #[.bool true,ex.key,ex.val]) (w':=s1.w) ?_ ?_
  ·simp[execOp,hoa,hitv,hrun,Result.andThen]
  rw[wpOpsIn_cons,hda]
  refine z8b hb2 hgb rd (x:=.bool true) (w':=s1.w) ?_ ?_
  ·simp[execOp,hob,hev A nx' _ hnxA,Instr.extract]
  rw[hdb];have hsz2:=(zia A (some nx') (.tuple #[.bool true,ex.key,ex.val])).1;obtain⟨A2,hA2⟩:∃A2,A2=(A.put (some nx') (.tuple #[.bool true,ex.key,ex.val])).put (some mo') (.bool true):=⟨_,rfl⟩
  have hmoA:mo'<(A.put (some nx') (.tuple #[.bool true,ex.key,ex.val])).tmps.size:=by rw[hsz2,hsz];exact Nat.lt_of_lt_of_le hmo hT
  have hsz3:=zia (A.put (some nx') (.tuple #[.bool true,ex.key,ex.val])) (some mo') (.bool true);have hA2s:A2.tmps.size=T:=by rw[hA2,hsz3.1,hsz2,hsz]
  have hA2d:A2.defers=A.defers:=by rw[hA2,hsz3.2,(zia A (some nx') _).2]
  have he2:zc9 s1 e A2.tmps:=by rw[hA2];exact hput _ _ _ _ (hput _ _ _ _ he1 hlnx) hlmo
  have hit2:A2.eval (.tmp j)=.pointer (some ⟨r,0,none⟩):=by
   rw[<-hitv];show A2.tmps.getD j undef=A.tmps.getD j undef;rw[hA2,znl _ mo' _ hmoA,znl _ nx' _ hnxA];simp[hmi,hni]
  refine wpIn_seq (wpIn_cond (t:=true) (hev _ mo' _ hmoA) (wpIn_skip ?_));refine wpIn_block ?_;rw[<-hA2];refine wpIn_seq (wpIn_region ?_);rw[hos3s,List.range_eq_range',List.range'_succ,wpOpsIn_cons];have hent:=run_entry_at (P:=P) s1.w r b clock seen ces clock ex hr1 hR1.hb hexm hstp.2.1
  refine z8b h30 hg3 rd (x:=.tuple #[ex.key,ex.val]) (w':=s1.w) ?_ ?_
  ·simp[execOp,ho3,hit2,hent,Result.andThen]
  rw[hd3];have hpA:pair<A2.tmps.size:=by rw[hA2s];exact Nat.lt_of_lt_of_le hpn hT
  have hA3:=zia A2 (some pair) (.tuple #[ex.key,ex.val]);obtain⟨_,hk1,hv1⟩:True/\DR s1.w s1.Im k ex.key/\VR s1 v ex.val:=⟨trivial,DR.ext (Ext.of_look hR1.ext).im (Ext.of_look hR1.ext).keep k _ hk,VR.ext (Ext.of_look hR1.ext) v _ (λ_ _=>trivial) hv⟩
  have he3:zc9 s1 (put e pair (.tup [.d k,v])) (A2.put (some pair) (.tuple #[ex.key,ex.val])).tmps:=
   zyn he2 (some pair) (λt ht=>by cases ht;exact hpA) ⟨_,rfl,ex.key,[ex.val],rfl,hk1,ex.val,[],rfl,hv1,rfl⟩
  -- what the evaluator says of this round
  obtain⟨x0,e0',m0',h0,_⟩:=hall _ (hpL _ (.refl _));cases hbody:(zjb F cx ops (put e pair (.tup [.d k,v])) s.m).bind λq=>evC F cx code (zdk kill q.1) q.2 with
  |none=>
   simp only[zg2,hbody,Option.bind_none]at h0;cases h0
  |some res=>
   obtain⟨xb,eb,mb⟩:=res;rw[z04 hbody]at h0;obtain⟨⟨eo,mo⟩,hops,hcode⟩:=Option.bind_eq_some_iff.1 hbody;rw[<-hm1]at hops
   refine yge hF rd cx ops rest3 1 _ eo mo s1 _ (λq hq=>?_) ok3 hops hR1.sim he3 (by rw[hA3.1,hA2s];exact hT) λs2 A4 q1 q2 q3 q4 q5 q6=>?_
   ·rw[<-Array.getElem?_toList,h3,Nat.add_comm];rfl
   obtain⟨hR2,hr2⟩:=hR1.step (Ext.mono q2 λ_ _=>trivial) q1;refine walk _ _ xb eb mb hcode s2 A4 q1 q3 (zw7 _ (λ_ _ _=>rfl) q4) (by rw[q5,hA3.1,hA2s];exact hT) (Nat.le_trans hNs hR2.ext.size) (zgy.ext q2 (by rw[q6,hA3.2,hA2d];exact hmk1)) _ λs3 A5 p1 p2 p3 p4 p5 p6=>?_
   obtain⟨hR3,hr3⟩:=hR2.step (Ext.mono p2 λ_ _=>trivial) p1;have hA5:A5.tmps.size=T:=by rw[p5,q5,hA3.1,hA2s]
   -- on to the next round
   have hgo:xb.on nxt=true->Code.roundsIn (fen rd) 0 P (.seq (.region id2 os2 false) (.seq (.cond (.tmp mo') .skip (.exit out)) (.block nxt (.seq (.region id3 os3 false) code')))) (Exit.inBlock out Q) (n'+1) A5 s3.w:=by
    intro hon;obtain⟨g1,g2⟩:=yvb p1 (zoi sG.m) (only live eb)
    have hR4:yqk (ztl P gl) gl sP sG ⟨s3.φ,gc (zoi sG.m) (only live eb) s3.m,s3.w,s3.Im⟩ b r ces clock:=by
     refine(hR3.step (Ext.mono g2 λq hq=>?_) g1).1
     rcases hq with hq|hq
     ·cases hh:look sG.m q with
      |none=>exact absurd hh hq
      |some o=>exact .inl (zri _ _ _ hh)
     cases hh:look sP.m q with
     |none=>exact absurd hh hq
     |some o=>exact .inl (hkeys q o hh)
    have heb:(if zsj (get eb j) (.it i)=true then zg2 (λe m=>(zjb F cx ops e m).bind λq=>evC F cx code (zdk kill q.1) q.2) j i out nxt pair live (zoi sG.m) (L1++L2) (only live eb) (gc (zoi sG.m) (only live eb) mb)else none)=some (x0,e0',m0'):=by
     unfold zkd at h0;simp only[hon]at h0;exact h0
    split at heb<;>try cases heb
    rename_i hit4;have hit4:=zt8 _ _ hit4;subst p3
    refine ih n' (Nat.lt_succ_self _) (L1++L2) ⟨s3.φ,gc (zoi sG.m) (only live eb) s3.m,s3.w,s3.Im⟩ A5 (only live eb) (seen.push ex.born) hL' hR4 ?_ (zc9.ext g2 (λt i hi=>.inr (z9y _ t i hi)) (zt7 _ p4)) ?_ (λt ht=>yc5 live eb t ht) hA5 (zgy.ext g2 p6) ⟨_,hm',hlp2⟩ λp hp=>?_
    ·exact(hr3.trans (hr2.trans hr1))
    ·rw[yc6 live eb j hitl,hit4]
    obtain⟨x9,e9,m9,h9,hG9⟩:=hall _ (hpL p hp);rw[z04 hbody]at h9;unfold zkd at h9;simp only[hon,hit4,yu8,if_true]at h9;exact⟨x9,e9,m9,h9,hG9⟩
   cases xb with
   |normal=>exact hgo rfl
   |ret=>
    simp only[zkd,yao,Ex.on,Option.some.injEq,Prod.mk.injEq]at h0;obtain⟨rfl,rfl,rfl⟩:=h0;exact hQ _ _ _ ‹_› s3 A5 hR3 p3 p4 hA5 p6
   |exit q=>
    show Exit.inBlock nxt _ (.exit q) A5 s3.w;simp only[Exit.inBlock]
    split
    ·rename_i hq;exact hgo (by simp[Ex.on,hq])
    rename_i hq
    have hoff:Ex.on nxt (.exit q)=false:=by
     show Nat.beq q nxt=false;cases hb:Nat.beq q nxt with
     |true=>exact absurd (Nat.eq_of_beq_eq_true hb) hq
     |false=>rfl
    show Exit.inBlock out Q (.exit q) A5 s3.w;simp only[Exit.inBlock];simp only[zkd,hoff,yao]at h0
    split at h0
    ·rename_i hqo;simp only[Option.some.injEq,Prod.mk.injEq]at h0;obtain⟨rfl,rfl,rfl⟩:=h0;simp only[hqo,if_true];exact hQ _ _ _ ‹_› s3 A5 hR3 p3 (zt7 _ p4) hA5 p6
    rename_i hqo;simp only[Option.some.injEq,Prod.mk.injEq]at h0;obtain⟨rfl,rfl,rfl⟩:=h0;simp only[hqo,if_false];exact hQ _ _ _ ‹_› s3 A5 hR3 p3 p4 hA5 p6
end
theorem Sim.restore{oc:zel}{s:S}(hs:Sim oc gl s){o:Id}{es:List (D×V)}{b:Nat}{ces:Array MapEntry}{clock:Nat}(hg:look s.m o=some .gone)(hp:s.φ o=.map (some b))(hb:s.w.heap[b]?=some (.map ces clock))(hf:zxj s b)
  (hm:zut s es ces.toList)(hst:zv7 ces clock):
  Sim oc gl ⟨s.φ,upd s.m o (.map es),s.w,s.Im⟩/\yec (λ_=>True) s ⟨s.φ,upd s.m o (.map es),s.w,s.Im⟩/\∀c,c≠b->zxj s c->zxj ⟨s.φ,upd s.m o (.map es),s.w,s.Im⟩ c:=by
 have h0:yec (λ_=>True) s ⟨s.φ,upd s.m o (.map es),s.w,s.Im⟩:=by
  refine⟨λ_ _ h=>h,λ_ _ _=>rfl,λk ob _ hk=>?_⟩;show ∃o',look (upd s.m o (.map es)) k=some o'/\_
  rw[zkg]
  split
  ·rename_i e;subst e;rw[hg]at hk;obtain rfl:=Option.some.inj hk;exact⟨_,rfl,rfl⟩
  exact⟨ob,hk,zbd.refl _ _⟩
 have hfr:∀c,c≠b->zxj s c->zxj ⟨s.φ,upd s.m o (.map es),s.w,s.Im⟩ c:=by
  intro c hc hfc k ob hk hgk;replace hk:look (upd s.m o (.map es)) k=some ob:=hk;rw[zkg]at hk
  split at hk
  ·rename_i e;subst e;show blk (s.φ o)≠some c;rw[hp];simp only[blk,ne_eq,Option.some.injEq];exact λe=>hc e.symm
  exact hfc k ob hk hgk
 refine⟨⟨λk ob hk=>?_,λk j ob ob' c hkj hk hj hgk hgj hc=>?_,hs.imlt,hs.glob,λg cs hgl=>?_⟩,h0,hfr⟩
 ·have hk2:look (upd s.m o (.map es)) k=some ob:=hk;rw[zkg]at hk2
  split at hk2
  ·rename_i e;subst e;obtain rfl:=Option.some.inj hk2;exact⟨b,ces,clock,hp,hb,zut.ext0 h0 _ _ (λ_ _=>trivial) hm,hst⟩
  exact ObR.ext0 h0 (λ_ _=>trivial) (λb _=>⟨rfl,λ_ h=>h⟩) (hs.objs k ob hk2)
 ·have hk:look (upd s.m o (.map es)) k=some ob:=hk;replace hj:look (upd s.m o (.map es)) j=some ob':=hj;rw[zkg]at hk hj
  split at hk
  ·rename_i e;subst e
   split at hj
   ·rename_i e;exact absurd e hkj
   have hc:blk (s.φ o)=some c:=hc;rw[hp]at hc;simp only[blk,Option.some.injEq]at hc;subst hc;exact hf j ob' hj hgj
  split at hj
  ·rename_i e;subst e;intro h2;replace h2:blk (s.φ o)=some c:=h2;rw[hp]at h2;simp only[blk,Option.some.injEq]at h2;subst h2;exact hf k ob hk hgk hc
  exact hs.apart k j ob ob' c hkj hk hj hgk hgj hc
 obtain⟨h1,h2,arr,t,fz,h3,h4⟩:=hs.tabs g cs hgl;refine⟨hfr g (λe=>?_) h1,h2,arr,t,fz,h3,h4⟩;subst e;rw[hb]at h3;cases h3
theorem zgy.again [Clk]{N:Nat}{s s':S}{b:Nat}{ds:List Deferred}(h:zgy N s ds)(hw:s'.w=s.w)(hI:s'.Im=s.Im){x:Obj}(hx:s.w.heap[b]?=some x)(hx':∀d,x≠.deferred d)(hf:∀c,c≠b->zxj s c->zxj s' c):zgy N s' ds:=by
 obtain⟨rs,h1,h2,h3⟩:=h;refine⟨rs,h1,h2,λc hc=>?_⟩;obtain⟨k1,k2,k3,k4⟩:=h3 c hc;refine⟨k1,by rw[hw];exact k2,hf c (λe=>?_) k3,by rw[hI];exact k4⟩;subst e;rw[hx]at k2;exact hx' _ (Option.some.inj k2)
theorem z54{run:List (D×V)->Option (Ex×Env×Mem)}{m0:Mem}{es:List (D×V)}{x:Ex}{e:Env}{mm:Mem}(h:ztp run m0 es=some (x,e,mm)):
  (∃m,mm=zmc true m0 m)/\∀p,p.Perm es->∃y e' m',run p=some (y,e',m')/\y=x/\e'=e/\leM m0 m' mm=true:=by
 unfold ztp at h;obtain⟨⟨x1,e1,m1⟩,h1,h⟩:=Option.bind_eq_some_iff.1 h;obtain⟨rs,hrs,h⟩:=Option.bind_eq_some_iff.1 h;unfold zu6 at h;split at h
 case isFalse=>cases h
 rename_i hall;simp only[Option.some.injEq,Prod.mk.injEq]at h;obtain⟨rfl,rfl,rfl⟩:=h;refine⟨⟨m1,rfl⟩,λp hp=>?_⟩;obtain⟨⟨y,e',m'⟩,hin,hr⟩:=z83 hrs _ ((zo8 _ _).2 hp);have this:=List.all_eq_true.1 hall _ hin;simp only[Bool.and_eq_true]at this;refine⟨y,e',m',hr,?_,yfg _ _ this.1.2,this.2⟩;have hx:=this.1.1;cases y<;>cases x1<;>simp[ywf]at hx⊢;exact hx
theorem yox [Clk]{F:Oracle}(hF:Good P (ztl P gl) gl F)(rd:Option Nat)(cx:Cx){nt N:Nat}{pre:List CO}{it:Nat}{x0:Opd}{out nxt pair:Nat}{live:List Nat}{ops:List CO}{kill:List Nat}{code:C}{code':Code}
  {os os2 os3:Array Oper}{id id2 id3 out' out2 nxt':Nat}{c:Operand}(ok:z2n P gl nt pre it x0 out nxt pair live ops os out' os2 c out2 nxt' os3=true)
  (walk:∀(e:Env)(m:Mem)(x:Ex)(e':Env)(m':Mem),evC F cx code e m=some (x,e',m')->
   ∀(s:S)(A:Act),Sim (ztl P gl) gl s->s.m=m->zc9 s e A.tmps->nt<=A.tmps.size->N<=s.w.heap.size->zgy N s A.defers->∀(Q:Exit->Act->World->Prop),
    (∀s' A',Sim (ztl P gl) gl s'->Ext (λ_=>True) s s'->s'.m=m'->zc9 s' e' A'.tmps->A'.tmps.size=A.tmps.size->zgy N s' A'.defers->Q x.exit' A' s'.w)->code'.wpIn (fen rd) 0 P Q A s.w)
  {e e':Env}{m':Mem}{x:Ex}{s:S}{A:Act}(h:evC F cx (.rangeM pre it x0 out nxt pair live ops kill code) e s.m=some (x,e',m'))
  (hs:Sim (ztl P gl) gl s)(he:zc9 s e A.tmps)(hnt:nt<=A.tmps.size)(hN:N<=s.w.heap.size)(hmk:zgy N s A.defers){Q:Exit->Act->World->Prop}
  (hQ:∀s' A',Sim (ztl P gl) gl s'->Ext (λ_=>True) s s'->s'.m=m'->zc9 s' e' A'.tmps->A'.tmps.size=A.tmps.size->zgy N s' A'.defers->Q x.exit' A' s'.w):
  (Code.seq (.region id os false) (.block out' (.loop (.seq (.region id2 os2 false) (.seq (.cond c .skip (.exit out2)) (.block nxt' (.seq (.region id3 os3 false) code'))))))).wpIn (fen rd) 0 P Q A s.w:=by
 unfold z2n at ok;simp only[Bool.and_eq_true,beq_iff_eq,Bool.not_eq_true',beq_eq_false_iff_ne,decide_eq_true_eq]at ok;obtain⟨⟨⟨⟨⟨⟨⟨⟨⟨⟨⟨rfl,rfl⟩,rfl⟩,_⟩,hlit⟩,hitn⟩,hpi⟩,hpn⟩,okp⟩,okr⟩,okst⟩,ok3⟩:=ok;split at okr<;>try cases okr
 rename_i orr hlast;split at ok3<;>try cases ok3
 rename_i o3 rest3 h3;simp only[Bool.and_eq_true,beq_iff_eq,Option.isNone_iff_eq_none]at okr ok3;obtain⟨⟨hrop,hrd⟩,hrg⟩:=okr;obtain⟨⟨⟨h3op,h3d⟩,h3g⟩,ok3⟩:=ok3;split at hrop<;>try cases hrop
 rename_i tt xa hrop';simp only[Bool.and_eq_true]at hrop;obtain⟨hmt,okx⟩:=hrop;split at h3op<;>try cases h3op
 rename_i j3 h3op';simp only[beq_iff_eq]at h3op;rw[h3op]at h3op'
 have hmt2:∃kt et,P.underlying tt=some (.map kt et):=by
  unfold mapT at hmt
  split at hmt
  ·exact⟨_,_,‹_›⟩
  cases hmt
 obtain⟨kt,et,hmt2⟩:=hmt2;simp only[evC]at h;obtain⟨⟨e1,m1⟩,hpre,h⟩:=Option.bind_eq_some_iff.1 h;unfold znm at h;dsimp only at h;split at h<;>try cases h
 rename_i o hxo;split at h<;>try cases h
 rename_i es hlo;obtain⟨⟨x9,e9,mm⟩,hall,h⟩:=Option.bind_eq_some_iff.1 h;unfold zy8 at h;dsimp only at h;split at h
 rotate_left
 ·cases h
 rename_i hgone;simp only[Option.some.injEq,Prod.mk.injEq]at h;obtain⟨rfl,rfl,rfl⟩:=h
 -- the region's operations, the range the last of them
 have hne0:os.toList≠[]:=λe=>by rw[e]at hlast;cases hlast
 have hospl:os.toList=os.toList.dropLast++[orr]:=by
  rw[List.getLast?_eq_some_getLast hne0,Option.some.injEq]at hlast;rw[<-hlast];exact(List.dropLast_concat_getLast hne0).symm
 have hosz:os.size=os.toList.dropLast.length+1:=by
  have:=congrArg List.length hospl;simp only[List.length_append,List.length_cons,List.length_nil]at this;rw[<-this];simp
 refine wpIn_seq (wpIn_region ?_);rw[hosz,List.range_eq_range',<-List.range'_append_1 (s:=0),Nat.zero_add]
 refine yoi hF rd cx _ pre os.toList.dropLast 0 e e1 m1 s A (λk hk=>?_) okp hpre hs he hnt λsP A1 q1 q2 q3 q4 q5 q6=>?_
 ·rw[Nat.zero_add,<-Array.getElem?_toList,hospl,List.dropLast_concat,List.getElem?_append_left hk]
 show wpOpsIn (fen rd) 0 P os _ [os.toList.dropLast.length] A1 sP.w;rw[wpOpsIn_cons]
 have hio:os[os.toList.dropLast.length]?=some orr:=by
  have:os.toList[os.toList.dropLast.length]?=some orr:=by
   conv=>lhs;rw[hospl]
   rw[List.dropLast_concat,List.getElem?_append_right (Nat.le_refl _)];simp
  rw[<-Array.getElem?_toList];exact this
 subst q3
 -- the map
 have hxv:=zbg q1 q4 okx;rw[hxo]at hxv;obtain⟨b,ces,clock,hpo,hbo,hmo,hsto⟩:=q1.objs o _ hlo
 have hxe:A1.eval xa=.map (some b):=by
  have:=hxv.2;rw[hlo]at this;exact this.trans hpo
 have hrunr:=run_range_map (P:=P) sP.w tt kt et b ces clock hmt2 hbo
 refine z8b hio hrg rd (x:=.pointer (some ⟨sP.w.heap.size,0,none⟩)) (w':=sP.w.alloc (.mapIter (some b) clock #[] clock)) ?_ ?_
 ·simp[execOp,hrop',hxe,hrunr,Result.andThen]
 rw[hrd];obtain⟨i,hi⟩:∃i,i=newId cx it sP.m:=⟨_,rfl⟩
 rw[<-hi]at hall;have hfresh:look sP.m i=none:=by rw[hi];exact zed _ _ _
 have hio':i≠o:=λe=>by rw[e,hlo]at hfresh;cases hfresh
 have hbl:=(Array.getElem?_eq_some_iff.1 hbo).1
 obtain⟨a1,a2⟩:=q1.change i .gone (.pointer (some ⟨sP.w.heap.size,0,none⟩)) (sP.w.alloc (.mapIter (some b) clock #[] clock)) sP.Im rfl Tk.of rfl (by simp) (λc hc _=>heap_alloc_old _ _ (h:=hc)) (λ_ _ h=>h)
  (λc j hj=>World.cell?_of_block (heap_alloc_old _ _ (h:=q1.imlt c j hj))) (λ_ _ h=>.inl h) (λc j h=>Nat.lt_of_lt_of_le (q1.imlt c j h) (by simp))
  (λc hc=>by simp only[blk,Option.some.injEq]at hc;exact .inl (Nat.le_of_eq hc)) (λob hob=>by rw[hfresh]at hob;cases hob) (λ_=>trivial)
 obtain⟨sA,hsA⟩:∃sA:S,sA=⟨λk=>if i=k then .pointer (some ⟨sP.w.heap.size,0,none⟩)else sP.φ k,upd sP.m i .gone,sP.w.alloc (.mapIter (some b) clock #[] clock),sP.Im⟩:=⟨_,rfl⟩
 rw[<-hsA]at a1 a2;have hAo:look sA.m o=some (.map es):=by rw[hsA];show look (upd sP.m i .gone) o=_;rw[za9 _ _ _ _ hio',hlo]
 have hAφ:sA.φ o=.map (some b):=by rw[hsA];simp only[hio',if_false];exact hpo
 have hAw:sA.w=sP.w.alloc (.mapIter (some b) clock #[] clock):=by rw[hsA]
 obtain⟨b1,b2⟩:=a1.change o .gone (sA.φ o) sA.w sA.Im rfl Tk.of rfl (Nat.le_refl _) (λ_ _ _=>rfl) (λ_ _ h=>h) (λ_ _ _=>rfl) (λ_ _ h=>.inl h) a1.imlt
  (λc hc=>.inr ⟨⟨_,hAo,by simp⟩,hc⟩) (λob hob=>by rw[hAo]at hob;cases hob;rfl) (λ_=>trivial)
 rw[zsr]at b1 b2;obtain⟨sG,hsG⟩:∃sG:S,sG=⟨sA.φ,upd sA.m o .gone,sA.w,sA.Im⟩:=⟨_,rfl⟩
 rw[<-hsG]at b1 b2;have hGm:sG.m=upd (upd sP.m i .gone) o .gone:=by rw[hsG,hsA]
 have hGw:sG.w=sP.w.alloc (.mapIter (some b) clock #[] clock):=by rw[hsG];exact hAw
 have hGi:look sG.m i=some .gone:=by rw[hGm,za9 _ _ _ _ (Ne.symm hio'),zbh]
 have hGo:look sG.m o=some .gone:=by rw[hGm,zbh]
 have hGφi:sG.φ i=.pointer (some ⟨sP.w.heap.size,0,none⟩):=by rw[hsG,hsA];simp
 have hGφo:sG.φ o=.map (some b):=by rw[hsG];exact hAφ
 have hGI:sG.Im=sP.Im:=by rw[hsG,hsA]
 have hGr:sG.w.heap[sP.w.heap.size]?=some (.mapIter (some b) clock #[] clock):=by rw[hGw];exact heap_alloc_new _ _
 have hPG:Ext (λ_=>True) sP sG:=Ext.trans a2 b2 (λ_ _=>trivial)
 have hGk:∀k ob,look sG.m k=some ob->ob≠.gone->look sP.m k=some ob/\sG.φ k=sP.φ k/\k≠o:=by
  intro k ob hk hg;rw[hGm,zkg]at hk
  split at hk
  ·exact absurd (Option.some.inj hk).symm hg
  rename_i h1;rw[zkg]at hk
  split at hk
  ·exact absurd (Option.some.inj hk).symm hg
  rename_i h2;refine⟨hk,?_,λe=>h1 e.symm⟩;rw[hsG,hsA];simp only[h2,if_false]
 have hfb:zxj sG b:=λk ob hk hg hb=>by
  obtain⟨g1,g2,g3⟩:=hGk k ob hk hg;rw[g2]at hb;exact q1.apart k o ob _ b g3 g1 hlo hg (by simp) hb (by rw[hpo];rfl)
 have hfr:zxj sG sP.w.heap.size:=λk ob hk hg hb=>by
  obtain⟨g1,g2,g3⟩:=hGk k ob hk hg;rw[g2]at hb;exact absurd ((q1.objs k ob g1).blk_lt hg hb) (Nat.lt_irrefl _)
 have hGb:sG.w.heap[b]?=some (.map ces clock):=by rw[hGw,heap_alloc_old _ _ (h:=hbl)];exact hbo
 have hR0:yqk (ztl P gl) gl sP sG sG b sP.w.heap.size ces clock:=
  ⟨b1,Ext.mono hPG (λ_ _=>trivial),λk ob hk=>⟨ob,hk,zbd.refl _ _⟩,hfb,hfr,λj hj=>by rw[hGI]at hj;exact absurd (q1.imlt _ _ hj) (Nat.lt_irrefl _),hGb,Nat.le_refl _,(Array.getElem?_eq_some_iff.1 hGr).1⟩
 have hitA:it<A1.tmps.size:=by rw[q5];exact Nat.lt_of_lt_of_le hitn hnt
 have hA2:=zia A1 (some it) (.pointer (some ⟨sP.w.heap.size,0,none⟩))
 have heG:zc9 sG (put e1 it (.it i)) (A1.put (some it) (.pointer (some ⟨sP.w.heap.size,0,none⟩))).tmps:=by
  refine zyn (zc9.ext hPG (λ_ _ _=>trivial) q4) (some it) (λt ht=>by cases ht;exact hitA) ⟨rfl,?_⟩;rw[hGi,hGφi];rfl
 have heL:=zt7 live heG;rw[<-hGm]at hall;obtain⟨qo,hqo,hqp⟩:=hmo.order;obtain⟨⟨mj,hmj⟩,hall⟩:=z54 hall;have hTs:(A1.put (some it) (.pointer (some ⟨sP.w.heap.size,0,none⟩))).tmps.size=A.tmps.size:=by rw[hA2.1,q5]
 show Code.wpIn (fen rd) 0 P (Code.block _ _) _ _ _;refine wpIn_block (wpIn_loop_rounds (es.length+1) ?_);rw[<-hGw]
 refine yan (P:=P) (N:=N) hF rd cx (kill:=kill) (code:=code) okst hlit hpi hitn hpn h3 h3op' h3d h3g ok3 (T:=A.tmps.size) hnt walk (sP:=sP) (sG:=sG) (b:=b) (r:=sP.w.heap.size) (ces:=ces) (clock:=clock)
  (by omega) hsto hGi hGφi (λq ob hq=>?_) (Nat.le_trans hN q2.size) (λy e m9=>y=x9/\e=e9/\leM sG.m m9 mm=true) Q (λy e m9 hG s' A' hR hm' he' hsz' hmk'=>?_) es.length es sG _ _ #[] rfl hR0 hGr heL ?_ (λt ht=>yc5 live _ t ht) hTs ?_ ⟨_,hqo,?_⟩ (λp hp=>?_)
 ·have:look sG.m q≠none:=by
   rw[hGm,zkg]
   split
   ·simp
   rw[zkg]
   split
   ·simp
   rw[hq];simp
  cases hh:look sG.m q with
  |none=>exact absurd hh this
  |some ob=>exact zri _ _ _ hh
 ·--the end
  obtain⟨rfl,rfl,hle⟩:=hG;subst hm';subst hmj;obtain⟨j1,j2⟩:=yiu (s:=sG) hR.sim hR.objs true hle;obtain⟨oo,hoo,too⟩:=hR.objs o _ hGo
  have hφo:s'.φ o=.map (some b):=by
   cases oo<;>simp only[zbd]at too<;>first|exact too.trans hGφo|cases too
  have hfj:zxj ⟨s'.φ,zmc true sG.m mj,s'.w,s'.Im⟩ b:=(j2.frame b (Array.getElem?_eq_some_iff.1 hR.hb).1 hR.fb).2;have hPs:=Ext.of_look hR.ext;have hPj:Ext (λ_=>True) sP ⟨s'.φ,zmc true sG.m mj,s'.w,s'.Im⟩:=Ext.trans hPs j2 (λ_ _=>trivial);obtain⟨r1,r2,r3⟩:=Sim.restore (s:=⟨s'.φ,zmc true sG.m mj,s'.w,s'.Im⟩) (es:=es) j1 hgone hφo hR.hb hfj (zut.ext0 hPj.to0 _ _ (λ_ _=>trivial) hmo) hsto
  have hPe:Ext (λ_=>True) sP ⟨s'.φ,upd (zmc true sG.m mj) o (.map es),s'.w,s'.Im⟩:=by
   refine⟨hPj.os,hPj.tape,hPj.output,hPj.size,λc hc hf=>?_,hPj.imnew,hPj.im,hPj.keep,λk ob _ hk=>?_⟩
   ·obtain⟨f1,f2⟩:=hPj.frame c hc hf;exact⟨f1,r3 c (λe=>by subst e;exact hf o _ hlo (by simp) (by rw[hpo];rfl)) f2⟩
   by_cases hko:k=o
   ·subst hko;rw[hlo]at hk;obtain rfl:=Option.some.inj hk;refine⟨.map es,zbh _ _ _,?_⟩;show s'.φ k=sP.φ k;rw[hφo,hpo]
   obtain⟨o1,h1,t1⟩:=hPj.objs k ob trivial hk;exact⟨o1,(za9 _ _ _ _ (Ne.symm hko)).trans h1,t1⟩
  refine hQ ⟨s'.φ,upd (zmc true sG.m mj) o (.map es),s'.w,s'.Im⟩ A' r1 (Ext.trans q2 hPe (λ_ _=>trivial)) rfl (zc9.ext0 r2 (λ_ _ _=>trivial) (zc9.ext j2 (λ_ _ _=>trivial) he')) hsz' ?_;exact zgy.again (s:=⟨s'.φ,zmc true sG.m mj,s'.w,s'.Im⟩) (zgy.ext j2 hmk') rfl rfl hR.hb (by simp) r3
 ·rw[yc6 live _ it hlit,zk3]
 ·rw[hA2.2,q6];exact zgy.ext (Ext.trans q2 hPG (λ_ _=>trivial)) hmk
 ·have:(leftOf ces #[]).toList=ces.toList:=by
   unfold leftOf;rw[Array.toList_filter];exact List.filter_eq_self.2 λy _=>by simp
  rw[this];exact hqp
 obtain⟨y,e9,m9,h1,h2,h3,h4⟩:=hall p hp;exact⟨y,e9,m9,h1,h2,h3,h4⟩
def ymp [Clk](P:Program)(gl:Globs)(F:Oracle):Prop:=
 ∀cx slot f ps a b e m x e' m',evC F cx (.rangeFn slot f ps a b) e m=some (x,e',m')->∀(nt:Nat)(code:Code),okC P gl nt false (.rangeFn slot f ps a b) code=true->
  ∀(N:Nat)(s:S)(A:Act),Sim (ztl P gl) gl s->s.m=m->zc9 s e A.tmps->nt<=A.tmps.size->N<=s.w.heap.size->zgy N s A.defers->∀(Q:Exit->Act->World->Prop),
   (∀s' A',Sim (ztl P gl) gl s'->Ext (λ_=>True) s s'->s'.m=m'->zc9 s' e' A'.tmps->A'.tmps.size=A.tmps.size->zgy N s' A'.defers->Q x.exit' A' s'.w)->
   code.wpIn (fen none) 0 P Q A s.w
theorem yle{nt:Nat}{rnd:Bool}{pre:List CO}{it:Nat}{x:Opd}{out nxt pair:Nat}{live:List Nat}{ops:List CO}{kill:List Nat}{code:C}{c0:Code}(h:okC P gl nt rnd (.rangeM pre it x out nxt pair live ops kill code) c0=true):
  ∃id os out' id2 os2 c out2 nxt' id3 os3 code',c0=.seq (.region id os false) (.block out' (.loop (.seq (.region id2 os2 false) (.seq (.cond c .skip (.exit out2)) (.block nxt' (.seq (.region id3 os3 false) code'))))))/\
   (z2n P gl nt pre it x out nxt pair live ops os out' os2 c out2 nxt' os3=true/\okC P gl nt rnd code code'=true):=by
 unfold okC at h;split at h<;>first|contradiction|skip
 rename_i heq;cases heq;rw[Bool.and_eq_true]at h;exact⟨_,_,_,_,_,_,_,_,_,_,_,rfl,h⟩
theorem yaw [Clk]{F:Oracle}(hF:ywv P gl F)(hR:ymp P gl F)(hmx:P.follows .mixedOrders=true)(rd:Option Nat)(nt:Nat)(cx:Cx)(N:Nat):
  ∀(c:C)(code:Code)(e:Env)(m:Mem)(x:Ex)(e':Env)(m':Mem),okC P gl nt rd.isSome c code=true->evC F cx c e m=some (x,e',m')->
  ∀(s:S)(A:Act),Sim (ztl P gl) gl s->s.m=m->zc9 s e A.tmps->nt<=A.tmps.size->N<=s.w.heap.size->zgy N s A.defers->∀(Q:Exit->Act->World->Prop),
   (∀s' A',Sim (ztl P gl) gl s'->Ext (λ_=>True) s s'->s'.m=m'->zc9 s' e' A'.tmps->A'.tmps.size=A.tmps.size->zgy N s' A'.defers->Q x.exit' A' s'.w)->
   code.wpIn (fen rd) 0 P Q A s.w:=by
 intro c;induction c with
 |skip=>
  intro code e m x e' m' ok h s A hs hm he hnt hN hmk Q hQ;cases code<;>simp only[okC,Bool.false_eq_true]at ok;simp only[evC,Option.some.injEq,Prod.mk.injEq]at h;obtain⟨rfl,rfl,rfl⟩:=h;exact wpIn_skip (hQ s A hs (Ext.refl _ _) hm he rfl hmk)
 |label=>
  intro code e m x e' m' ok h s A hs hm he hnt hN hmk Q hQ;cases code<;>simp only[okC,Bool.false_eq_true]at ok;simp only[evC,Option.some.injEq,Prod.mk.injEq]at h;obtain⟨rfl,rfl,rfl⟩:=h;exact wpIn_label (hQ s A hs (Ext.refl _ _) hm he rfl hmk)
 |reg d ops kill=>
  intro code e m x e' m' ok h s A hs hm he hnt hN hmk Q hQ;cases code<;>simp only[okC,Bool.false_eq_true]at ok;simp only[evC,Option.map_eq_some_iff,Prod.mk.injEq]at h;obtain⟨⟨e1,m1⟩,h1,rfl,rfl,rfl⟩:=h;subst hm;rw[Bool.or_eq_true]at ok;rcases ok with ok|ok
  case inr=>
   simp only[Bool.and_eq_true]at ok;obtain⟨⟨_,rfl⟩,hok⟩:=ok;refine yl0 hmx rd cx _ hok h1 hs he hnt λs' A' q1 q2 q3 q4 q5 q6=>?_
   exact hQ s' A' q1 q2 q3 q4 q5 (by rw[q6];exact zgy.ext q2 hmk)
  simp only[Bool.and_eq_true,beq_iff_eq]at ok;obtain⟨⟨rfl,hok⟩,hdr⟩:=ok;refine yd2 hF.good hmx rd cx _ _ hok (chk:=[]) (λhd=>⟨by simpa[hd]using hdr,rfl⟩) h1 hs he hnt λs' A' q1 q2 q3 q4 q5 q6=>?_
  exact hQ s' A' q1 q2 q3 (zw7 _ (λ_ _ _=>rfl) q4) q5 (by rw[q6];exact zgy.ext q2 hmk)
 |regC ops kill chk=>
  intro code e m x e' m' ok h s A hs hm he hnt hN hmk Q hQ;cases code<;>simp only[okC,Bool.false_eq_true]at ok;simp only[Bool.and_eq_true]at ok;obtain⟨⟨rfl,hok⟩,hdr⟩:=ok;simp only[evC,Option.bind_eq_some_iff]at h;obtain⟨⟨e1,m1⟩,h1,h2⟩:=h;split at h2<;>try cases h2
  rename_i hdj;subst hm;refine yd2 hF.good hmx rd cx _ _ hok (chk:=chk) (λ_=>⟨hdr,hdj⟩) h1 hs he hnt λs' A' q1 q2 q3 q4 q5 q6=>?_
  exact hQ s' A' q1 q2 q3 (zw7 _ (λ_ _ _=>rfl) q4) q5 (by rw[q6];exact zgy.ext q2 hmk)
 |seq a b iha ihb=>
  intro code e m x e' m' ok h s A hs hm he hnt hN hmk Q hQ;cases code<;>simp only[okC,Bool.false_eq_true]at ok;simp only[Bool.and_eq_true]at ok;simp only[evC]at h;refine wpIn_seq ?_;cases ha:evC F cx a e m with
  |none=>rw[ha]at h;simp at h
  |some p=>
   obtain⟨x1,e1,m1⟩:=p;rw[ha]at h;refine iha _ e m x1 e1 m1 ok.1 ha s A hs hm he hnt hN hmk _ λs1 A1 q1 q2 q3 q4 q5 q6=>?_
   cases x1 with
   |normal=>
    refine ihb _ e1 m1 x e' m' ok.2 h s1 A1 q1 q3 q4 (by rw[q5];exact hnt) (Nat.le_trans hN q2.size) q6 Q λs2 A2 r1 r2 r3 r4 r5 r6=>?_
    exact hQ s2 A2 r1 (Ext.trans q2 r2 (λ_ _=>trivial)) r3 r4 (r5.trans q5) r6
   |exit id=>
    simp only[Option.some.injEq,Prod.mk.injEq]at h;obtain⟨rfl,rfl,rfl⟩:=h;exact hQ s1 A1 q1 q2 q3 q4 q5 q6
   |ret=>
    simp only[Option.some.injEq,Prod.mk.injEq]at h;obtain⟨rfl,rfl,rfl⟩:=h;exact hQ s1 A1 q1 q2 q3 q4 q5 q6
 |cond c a b iha ihb=>
  intro code e m x e' m' ok h s A hs hm he hnt hN hmk Q hQ;cases code<;>simp only[okC,Bool.false_eq_true]at ok;simp only[Bool.and_eq_true]at ok;simp only[evC]at h;split at h<;>try cases h
  rename_i t hc;have hv:=zbg hs he ok.1.1;rw[hc]at hv;refine wpIn_cond (t:=t) hv ?_;cases t with
  |true=>
   simp only[if_true]at h⊢;exact iha _ e m x e' m' ok.1.2 h s A hs hm he hnt hN hmk Q hQ
  |false=>
   simp only[Bool.false_eq_true,if_false]at h⊢;exact ihb _ e m x e' m' ok.2 h s A hs hm he hnt hN hmk Q hQ
 |block id c ih=>
  intro code e m x e' m' ok h s A hs hm he hnt hN hmk Q hQ;cases code<;>simp only[okC,Bool.false_eq_true]at ok;simp only[Bool.and_eq_true,beq_iff_eq]at ok;obtain⟨rfl,ok⟩:=ok;simp only[evC]at h;refine wpIn_block ?_;cases hc:evC F cx c e m with
  |none=>rw[hc]at h;simp at h
  |some p=>
   obtain⟨x1,e1,m1⟩:=p;rw[hc]at h;refine ih _ e m x1 e1 m1 ok hc s A hs hm he hnt hN hmk _ λs1 A1 q1 q2 q3 q4 q5 q6=>?_
   cases x1 with
   |normal=>
    simp only[Option.some.injEq,Prod.mk.injEq]at h;obtain⟨rfl,rfl,rfl⟩:=h;exact hQ s1 A1 q1 q2 q3 q4 q5 q6
   |exit j=>
    simp only at h;show Exit.inBlock id Q (.exit j) A1 s1.w;simp only[Exit.inBlock]
    split at h
    ·rename_i hj;simp only[Option.some.injEq,Prod.mk.injEq]at h;obtain⟨rfl,rfl,rfl⟩:=h;simp only[hj,if_true];exact hQ s1 A1 q1 q2 q3 q4 q5 q6
    rename_i hj;simp only[Option.some.injEq,Prod.mk.injEq]at h;obtain⟨rfl,rfl,rfl⟩:=h;simp only[hj,if_false];exact hQ s1 A1 q1 q2 q3 q4 q5 q6
   |ret=>
    simp only[Option.some.injEq,Prod.mk.injEq]at h;obtain⟨rfl,rfl,rfl⟩:=h;exact hQ s1 A1 q1 q2 q3 q4 q5 q6
 |loop live c ih=>
  intro code e m x e' m' ok h s A hs hm he hnt hN hmk Q hQ;cases code<;>simp only[okC,Bool.false_eq_true]at ok;simp only[evC,yva]at h;split at h<;>try cases h
  rename_i hl;obtain⟨k,hk⟩:=hF.loop _ _ _ _ _ _ _ _ _ hl rd nt _ ok;refine wpIn_loop_rounds k (hk N s A hs hm (zt7 _ he) hnt hN hmk Q λs' A' q1 q2 q3 q4 q5 q6=>?_);refine hQ s' A' q1 (Ext.of_look (Ext.mono q2 λi hi=>?_)) q3 q4 q5 q6;cases ho:look s.m i with
  |none=>exact absurd ho hi
  |some o=>rw[<-hm];exact zri _ i o ho
 |bad=>
  intro code e m x e' m' ok h s A hs hm he hnt hN hmk Q hQ;simp[evC]at h
 |rangeM pre it x0 out nxt pair live ops kill code ih=>
  intro code0 e m x e' m' ok h s A hs hm he hnt hN hmk Q hQ;obtain⟨id,os,out',id2,os2,c,out2,nxt',id3,os3,code',rfl,ok2⟩:=yle ok;subst hm;exact yox hF.good rd cx ok2.1 (λe m x e' m' h s A hs hm he hnt hN hmk Q hQ=>ih code' e m x e' m' ok2.2 h s A hs hm he hnt hN hmk Q hQ) h hs he hnt hN hmk hQ
 |rangeFn slot f ps a b=>
  intro code e m x e' m' ok h s A hs hm he hnt hN hmk Q hQ;cases rd with
  |none=>exact hR cx slot f ps a b e m x e' m' h nt code ok N s A hs hm he hnt hN hmk Q hQ
  |some l=>cases code<;>simp[okC]at ok
 |exit id=>
  intro code e m x e' m' ok h s A hs hm he hnt hN hmk Q hQ;cases code<;>simp only[okC,Bool.false_eq_true]at ok;simp only[beq_iff_eq]at ok;subst ok;simp only[evC,Option.some.injEq,Prod.mk.injEq]at h;obtain⟨rfl,rfl,rfl⟩:=h;exact wpIn_exit (hQ s A hs (Ext.refl _ _) hm he rfl hmk)
 |fz t c ih=>
  intro code e m x e' m' ok h s A hs hm he hnt hN hmk Q hQ;simp only[okC]at ok;simp only[evC]at h
  split at h
  ·rename_i d hd;subst hm;refine ih code _ s.m x e' m' ok h s A hs rfl (λu=>?_) hnt hN hmk Q hQ
   by_cases hu:t=u
   ·subst hu;rw[zk3];exact zo5 hs _ d _ hd (he t)
   rw[zn7 _ _ _ _ hu];exact he u
  cases h
 |scope c ih=>
  intro code e m x e' m' ok h s A hs hm he hnt hN hmk Q hQ;cases code<;>simp only[okC,Bool.false_eq_true]at ok;simp only[evC]at h;refine ymc (ih _ e m x e' m' ok h s A hs hm he hnt hN hmk _ λs' A' q1 q2 q3 q4 q5 q6=>?_);have:=hQ s' A' q1 q2 q3 q4 q5 q6;cases x<;>exact this
 |ret=>
  intro code e m x e' m' ok h s A hs hm he hnt hN hmk Q hQ;cases code<;>simp only[okC,Bool.false_eq_true]at ok;simp only[evC,Option.some.injEq,Prod.mk.injEq]at h;obtain⟨rfl,rfl,rfl⟩:=h;exact wpIn_ret (hQ s A hs (Ext.refl _ _) hm he rfl hmk)
end
end Go.Evl
namespace Go.Evl
open Go.RowKit
section
variable{P:Program}{gl:Globs}
theorem zxj.fresh{oc:zel}{s:S}(hs:Sim oc gl s){b:Nat}(h:s.w.heap.size<=b):zxj s b:=λi o hi hg hb=>by
 have:=(hs.objs i o hi).blk_lt hg hb;omega
theorem z2p [Clk]{F:Oracle}(hF:ywv P gl F):ymp P gl F:=by
 intro cx slot f ps ca cb e m x e' m' h nt code ok N s A hs hm he hnt hN hmk Q hQ;cases code<;>simp only[okC,Bool.false_eq_true]at ok;rename_i g qs cx1 cx2;simp only[Bool.and_eq_true,Bool.not_false,Bool.true_and,beq_iff_eq,List.all_eq_true,decide_eq_true_eq]at ok;obtain⟨⟨⟨⟨okg,hqs⟩,hps⟩,oka⟩,okb⟩:=ok;subst hm;have hf:=zbg hs he okg;simp only[evC]at h;obtain⟨i,hi⟩:∃i,i=newId cx slot s.m:=⟨_,rfl⟩
 rw[<-hi]at h;have hfresh:look s.m i=none:=by rw[hi];exact zed _ _ _
 split at h<;>try cases h
 rename_i hlow;generalize f.ev e=vf at hf h;split at h<;>try cases h
 rename_i fid first caps
 split at h<;>try cases h
 rename_i v1 m1 hcall;split at h<;>try cases h
 rename_i e9 ps9 a9 b9 lv9 ov9 j hlk;split at h<;>try cases h
 rename_i hids;obtain⟨xs,ys,hg,hx,hy⟩:=hf;refine wpIn_rangeFunc (F:=fen none) λfn _=>?_
 -- the record is laid
 let wA:World:=s.w.alloc (.deferred (some []))
 let L:Loop:={state:=.ready,pending:=none,fn,tmps:=A.tmps,params:=qs,assign:=cx1,body:=cx2,defers:=s.w.heap.size}
 let wB:World:=wA.alloc (.loop L)
 have hszA:wA.heap.size=s.w.heap.size+1:=by simp[wA]
 obtain⟨kA1,kA2⟩:=hs.calm wA s.Im rfl Tk.of rfl (by simp[wA]) (λb hb=>heap_alloc_old _ _ (h:=hb)) (λ_ _ h=>h) (λ_ _ h=>.inl h) (λb j h=>Nat.lt_of_lt_of_le (hs.imlt b j h) (by simp[wA]))
 let sA:S:=⟨s.φ,s.m,wA,s.Im⟩
 obtain⟨kB1,kB2⟩:=z99 (s:=sA) kA1 i hfresh (.loop e ps ca cb cx.lv false false none) (.pointer (some ⟨wA.heap.size,0,none⟩)) (.loop L) rfl
  (λhE=>⟨wA.heap.size,L,rfl,heap_alloc_new _ _,by simp[L,<-hqs],λt ht=>Nat.lt_of_lt_of_le (hps t ht) hnt,
   zc9.ext (Ext.trans kA2 hE (λ_ _=>trivial)) (λ_ _ _=>trivial) he,⟨nt,hnt,oka⟩,⟨nt,hnt,okb⟩,rfl,rfl⟩)
 obtain⟨sB,hsB⟩:∃sB:S,sB=⟨λk=>if i=k then .pointer (some ⟨wA.heap.size,0,none⟩)else sA.φ k,upd sA.m i (.loop e ps ca cb cx.lv false false none),sA.w.alloc (.loop L),sA.Im⟩:=⟨_,rfl⟩
 rw[<-hsB]at kB1 kB2;have hwB:sB.w=wB:=by rw[hsB]
 have hmB:sB.m=upd s.m i (.loop e ps ca cb cx.lv false false none):=by rw[hsB]
 have hφB:sB.φ i=.pointer (some ⟨wA.heap.size,0,none⟩):=by rw[hsB];simp
 have hsAB:Ext (λ_=>True) s sB:=Ext.trans kA2 kB2 (λ_ _=>trivial);obtain⟨hen,hgo⟩:=hF.good.call _ _ _ _ _ _ hcall
 have hyld:VR sB (.yld i) (.func (.yield wA.heap.size) #[] #[]):=by
  refine⟨rfl,?_⟩;rw[hφB,hmB,zbh];exact⟨wA.heap.size,rfl,rfl⟩
 have hargs:VRt sB (first++[.yld i]++caps) (xs.toList++[.func (.yield wA.heap.size) #[] #[]]++ys.toList):=
  VRt.append _ _ _ _ (VRt.append _ _ _ _ (VRt.ext hsAB _ _ (λ_ _=>trivial) hx) ⟨_,[],rfl,hyld,rfl⟩) (VRt.ext hsAB _ _ (λ_ _=>trivial) hy)
 have hgo:=hgo sB kB1 hmB _ hargs;rw[hwB]at hgo
 have harr:(xs.toList++[Value.func (.yield wA.heap.size) #[] #[]]++ys.toList).toArray=xs++#[Value.func (.yield wA.heap.size) #[] #[]]++ys:=by
  apply Array.ext';simp
 rw[harr]at hgo
 refine⟨wA.heap.size,[zs2 s.w.heap.size],wB,{target:=.fn (.func fid) ys,args:=xs++#[Value.func (.yield wA.heap.size) #[] #[]]},wB,fid,xs++#[Value.func (.yield wA.heap.size) #[] #[]]++ys,wB,?_,?_,λ_ _=>trivial,?_,λhd=>by simp[fen]at hd,?_⟩
 ·simp[Instr.enterLoop,fen,newObj,Sem.run,wB,wA,L,zs2]
 ·have hev:A.eval g=.func (.func fid) xs ys:=hg;have hc:∀v,A.eval (.const v)=v:=λ_=>rfl
  simp[Go.resolve,Deferred.ofValue,hev,hc]
 ·simp[invoke,zk4 hen]
 refine CallsIn.mono (F:=fen none) (n:=0) hgo ?_;rintro e' w'⟨s1,x1,rfl,rfl,k1,k2,rfl,k4⟩
 -- back at the statement
 obtain⟨o1,ho1,ht⟩:=k2.objs i _ trivial (by rw[hmB,zbh]);rw[hlk]at ho1;obtain rfl:=Option.some.inj ho1
 have hp1:s1.φ i=.pointer (some ⟨wA.heap.size,0,none⟩):=by
  have:s1.φ i=sB.φ i:=ht.1;rw[this,hφB]
 obtain⟨l1,L1,hpl,hL1,hpar,hpl2,henv1,hoa,hob,hst,hpend⟩:=k1.objs i _ hlk
 have hl1:l1=wA.heap.size:=by
  rw[hp1]at hpl;simp at hpl;exact hpl.symm
 subst hl1;have hB:=zwq k1 k2 (by rw[hmB];exact hlow) hids
 have hkeyi:i.lv<cx.nx:=by
  have h1:i∈zoi (upd s.m i (.loop e ps ca cb cx.lv false false none)):=zri _ i _ (zbh _ _ _);simp only[zk1,List.all_eq_true,decide_eq_true_eq]at hlow;exact hlow i h1
 obtain⟨hli,hφi⟩:=hB.low i hkeyi;have hCi:look (ze1 cx.nx s1.m) i=some (.loop e9 ps9 a9 b9 lv9 false ov9 j):=hli.trans hlk;obtain⟨kD1,kD2⟩:=zu8 (s:=⟨s1.φ,ze1 cx.nx s1.m,s1.w,s1.Im⟩) hB.sim i _ .gone hCi (by simp) wA.heap.size _ hp1 rfl _ (.loop {L1 with state:=.exhausted}) hL1 rfl rfl trivial (λ_=>trivial);have hE:Ext (λ_=>True) s _:=Ext.trans hsAB (Ext.trans hB.ext kD2 (λ_ _=>trivial)) (λ_ _=>trivial);have hEA:Ext (λ_=>True) sA _:=Ext.trans kB2 (Ext.trans hB.ext kD2 (λ_ _=>trivial)) (λ_ _=>trivial)
 -- the marks
 have hmkA:zgy N sA (zs2 s.w.heap.size::A.defers):=by
  obtain⟨rs,q1,q2,q3⟩:=zgy.ext kA2 hmk
  refine⟨s.w.heap.size::rs,by simp[q1],?_,λr hr=>?_⟩
  ·refine List.nodup_cons.2 ⟨λhr=>?_,q2⟩;obtain⟨rs',p1,_,p3⟩:=hmk
   have:rs'=rs:=by
    have hinj:∀(a b:List Nat),a.map zs2=b.map zs2->a=b:=by
     intro a b hab;exact(List.map_inj_right (f:=zs2) (λx y hxy=>by simpa[zs2]using hxy)).1 hab
    exact hinj _ _ (p1.symm.trans q1)
   subst this;have:=(Array.getElem?_eq_some_iff.1 (p3 _ hr).2.1).1;omega
  rcases List.mem_cons.1 hr with rfl|hr
  ·refine⟨hN,heap_alloc_new _ _,λk o hk hg' hb=>?_,λj' hj=>?_⟩
   ·have:=(hs.objs k o hk).blk_lt hg' hb;omega
   have:=hs.imlt _ _ hj;omega
  exact q3 r hr
 have hmkD:=zgy.ext hEA hmkA;have henvD:=zc9.ext hE (λ_ _ _=>trivial) he
 have hend:(Instr.endLoop wA.heap.size).run P s1.w=.ok L1.pending {s1.w with heap:=s1.w.heap.setIfInBounds wA.heap.size (.loop {L1 with state:=.exhausted})}:=by
  have hb':L1.state≠LoopState.busy:=by rw[hst];cases ov9<;>simp[yhc]
  simp[Instr.endLoop,Instr.getLoop,getObj,setObj,Sem.run,hL1,hb']
 have hend2:(Instr.endLoop wA.heap.size).run P s1.w=.ok (j.map zu1) {s1.w with heap:=s1.w.heap.setIfInBounds wA.heap.size (.loop {L1 with state:=.exhausted})}:=by
  rw[hend,hpend]
 refine⟨j.map zu1,_,hend2,?_⟩;cases j with
 |none=>
  simp only[Option.some.injEq,Prod.mk.injEq]at h;obtain⟨rfl,rfl,rfl⟩:=h;have hq:=hQ _ {A with defers:=[zs2 s.w.heap.size]++A.defers} kD1 hE rfl henvD rfl hmkD;simpa only[Ex.exit',Option.map_none]using hq
 |some j=>
  simp only[Option.some.injEq,Prod.mk.injEq]at h;obtain⟨rfl,rfl,rfl⟩:=h;cases j with
  |exit id=>
   have hq:=hQ _ {A with defers:=[zs2 s.w.heap.size]++A.defers} kD1 hE rfl henvD rfl hmkD;exact wpIn_exit (by simpa only[Ex.exit',ymn.ex]using hq)
  |ret=>
   have hq:=hQ _ {A with defers:=[zs2 s.w.heap.size]++A.defers} kD1 hE rfl henvD rfl hmkD;exact wpIn_ret (by simpa only[Ex.exit',ymn.ex]using hq)
end
end Go.Evl
namespace Go.Evl
open Go.RowKit
section
variable{P:Program}{gl:Globs}
theorem yxw [Clk]{oc:zel}{fn:Func}{tmps:Array Value}{R:Ending->World->Prop}{s0:S}:∀(rs:List Nat)(s:S),rs.Nodup->(∀r∈rs,s0.w.heap.size<=r/\s.w.heap[r]?=some (.deferred (some []))/\zxj s r/\∀j,¬s.Im r j)->
  Sim oc gl s->Ext (λ_=>True) s0 s->
  (∀s',Sim oc gl s'->Ext (λ_=>True) s0 s'->yec (λ_=>True) s s'->s'.m=s.m->∃v,(Go.results fn tmps).run P s'.w=.ok v s'.w/\R (.returned v) s'.w)->
  LeavesInM (fen none) 0 P fn tmps R (rs.map zs2) .returning s.w
 |[],s,_,_,hs,hE,h=>h s hs hE ⟨λ_ _ h=>h,λ_ _ _=>rfl,λi o _ ho=>⟨o,ho,zbd.refl _ _⟩⟩ rfl
 |r::rs,s,hn,hr,hs,hE,h=>by
  obtain⟨h1,h2,h3,h4⟩:=hr r (by simp);obtain⟨k1,k2,k3⟩:=ydx (obj:=.deferred none) hs h2 h3 h4;have hn':=List.nodup_cons.1 hn;refine⟨by simp,.inl ⟨r,{s.w with heap:=s.w.heap.setIfInBounds r (.deferred none)},rfl,by simp[Instr.takeDeferred,getObj,setObj,Sem.run,h2],?_⟩⟩
  refine yxw rs ⟨s.φ,s.m,{s.w with heap:=s.w.heap.setIfInBounds r (.deferred none)},s.Im⟩ hn'.2 (λr' hr'=>?_) k1 (k3 _ s0 hE h1) λs' q1 q2 q3 q4=>?_
  ·obtain⟨g1,g2,g3,g4⟩:=hr r' (by simp[hr']);have hne:r'≠r:=λe=>hn'.1 (e▸hr')
   refine⟨g1,?_,g3,g4⟩;show(s.w.heap.setIfInBounds r (.deferred none))[r']?=_;simp[Ne.symm hne,g2]
  exact h s' q1 q2 ⟨λb j h=>q3.im b j h,λb j h=>(q3.keep b j h).trans (k2.keep b j h),λi o _ ho=>q3.objs i o trivial ho⟩ q4
def yze(P:Program):RV->ResultVar->Bool
 |.tmp t,.tmp u=>t==u
 |.cell t n,.cell u ty=>t==u&&zti P ty n
 |_,_=>false
def z6o(P:Program):List RV->List ResultVar->Bool
 |[],[]=>true
 |a::r,b::q=>yze P a b&&z6o P r q
 |_,_=>false
def zp6(tmps:Array Value):ResultVar->Sem Value
 |.tmp t=>pure (tmps.getD t undef)
 |.cell a t=>do loadVar t (<-asAddr (tmps.getD a undef))
theorem yo0 [Clk]{oc:zel}{s:S}(hs:Sim oc gl s){e:Env}{tmps:Array Value}(he:zc9 s e tmps){a:RV}{b:ResultVar}{v:V}(ok:yze P a b=true)(h:yx9 s.m e a=some v):∃y,(zp6 tmps b).run P s.w=.ok y s.w/\VR s v y:=by
 cases a with
 |tmp t=>
  cases b<;>simp only[yze,Bool.false_eq_true]at ok;simp only[beq_iff_eq]at ok;subst ok;simp only[yx9,Option.some.injEq]at h;subst h;exact⟨_,rfl,he t⟩
 |cell t n=>
  cases b<;>simp only[yze,Bool.false_eq_true]at ok;simp only[Bool.and_eq_true,beq_iff_eq]at ok;obtain⟨rfl,hc⟩:=ok;obtain⟨ad,y,hx,hr,hv⟩:=yiy hs hc (he t) h;exact⟨y,by simp[zp6,asAddr,hx,hr],hv⟩
theorem yjn [Clk] {oc:zel} {s:S} (hs:Sim oc gl s) {e:Env} {tmps:Array Value} (he:zc9 s e tmps):∀(as:List RV) (bs:List ResultVar) (vs:List V),z6o P as bs=true->z6t s.m e as=some vs->
  ∃ys,(bs.mapM (zp6 tmps)).run P s.w= .ok ys s.w/\VRt s vs ys
 | [],[],vs,_,h=>by simp only [z6t,Option.some.injEq] at h;subst h;exact⟨[],rfl,rfl⟩
 | [],_::_,_,ok,_=>by simp [z6o] at ok
 | _::_,[],_,ok,_=>by simp [z6o] at ok
 | a::as,b::bs,vs,ok,h=>by
  simp only [z6o,Bool.and_eq_true] at ok;simp only [z6t] at h;split at h<;>try cases h
  rename_i v vs' h1 h2;obtain⟨y,hy,hv⟩:=yo0 hs he ok.1 h1;obtain⟨ys,hys,hvs⟩:=yjn hs he as bs vs' ok.2 h2;exact⟨y::ys,by simp [List.mapM_cons,hy,hys],y,ys,rfl,hv,hvs⟩
theorem yli [Clk]{oc:zel}{s:S}(hs:Sim oc gl s){e:Env}{fn:Func}{tmps:Array Value}(he:zc9 s e tmps){rs:List RV}{v:V}(ok:z6o P rs fn.results.toList=true)(h:Evl.results s.m e rs=some v):
  ∃y,(Go.results fn tmps).run P s.w=.ok y s.w/\VR s v y:=by
 have hf:Go.results fn tmps=(do
   let vs <-List.toArray<$>fn.results.toList.mapM (zp6 tmps)
   pure (if h:vs.size=1 then vs[0]else .tuple vs)):=by
  have hg:∀(g:ResultVar->Sem Value),(∀x,g x=zp6 tmps x)->(fn.results.mapM g)=List.toArray<$>fn.results.toList.mapM (zp6 tmps):=by
   intro g hg;rw[Array.mapM_eq_mapM_toList,show g=zp6 tmps from funext hg]
  unfold Go.results;rw[hg _ λx=>by cases x<;>rfl]
 have fin:∀(vs:List V)(ys:List Value),(fn.results.toList.mapM (zp6 tmps)).run P s.w=.ok ys s.w->(Go.results fn tmps).run P s.w=.ok (if h:ys.toArray.size=1 then ys.toArray[0]else .tuple ys.toArray) s.w:=by
  intro vs ys hy;rw[hf];simp[hy]
 unfold Evl.results at h
 split at h
 ·rename_i r;cases hb:fn.results.toList with
  |nil=>rw[hb]at ok;simp[z6o]at ok
  |cons b q=>
   rw[hb]at ok;simp only[z6o,Bool.and_eq_true]at ok;cases q with
   |cons _ _=>simp[z6o]at ok
   |nil=>
    obtain⟨y,hy,hv⟩:=yo0 hs he ok.1 h;refine⟨y,?_,hv⟩;rw[fin [] [y] (by rw[hb];simp[List.mapM_cons,hy])]
    rfl
 rename_i hne;simp only[Option.map_eq_some_iff]at h;obtain⟨vs,h1,rfl⟩:=h;obtain⟨ys,hy,hv⟩:=yjn hs he _ _ vs ok h1;refine⟨.tuple ys.toArray,?_,ys.toArray,rfl,hv⟩;rw[fin [] ys hy]
 have hlen:ys.length≠1:=by
  intro hl;have h2:=(VRt.length _ _ hv).trans hl
  have h3:∀(rs:List RV)(vs:List V),z6t s.m e rs=some vs->vs.length=rs.length:=by
   intro rs;induction rs with
   |nil=>intro vs h;simp only[z6t,Option.some.injEq]at h;subst h;rfl
   |cons a r ih=>
    intro vs h;simp only[z6t]at h;split at h<;>try cases h
    rename_i h4 h5;simp[ih _ h5]
  have h4:=h3 _ _ h1
  match rs,hne,h4 with
  |[r],hne,_=>exact hne r rfl
  |[],_,h4=>simp[h2]at h4
  |_::_::_,_,h4=>simp[h2]at h4
 simp[hlen]
end
end Go.Evl
namespace Go.Evl
open Go.RowKit
section
variable{P:Program}{gl:Globs}
def okCF(P:Program)(gl:Globs)(f:Nat)(cf:CF):Bool:=
 match P.funcs[f]? with
 |some fn=>
  match fn.body with
  |some code=>fn.name != "runtime.NumGoroutine" &&okC P gl fn.ntmps false cf.body code&&z6o P cf.results fn.results.toList
  |none=>false
 |none=>false
theorem z8c{s:S}:∀(vs:List V)(xs:List Value)(i:Nat),VRt s vs xs->∀t,VR s (get (params i vs) t) (if i<=t then xs.getD (t-i) undef else undef)\/get (params i vs) t=.undef
 |[],_,i,_,t=>.inr rfl
 |v::vs,_,i,⟨x,ys,hx,h1,h2⟩,t=>by
  subst hx;simp only[params,get]
  by_cases e:i=t
  ·subst e;simpa using Or.inl h1
  simp only[e,if_false]
  rcases z8c vs ys (i+1) h2 t with h|h
  ·by_cases hlt:i+1<=t
   ·left;have h3:t-i=(t-(i+1))+1:=by omega
    simp only[hlt,if_true]at h;have h4:i<=t:=by omega
    simp only[h4,if_true,h3,List.getD_cons_succ];exact h
   right
   have:∀(vs:List V)(k:Nat),t<k->get (params k vs) t=.undef:=by
    intro vs;induction vs with
    |nil=>intro k _;rfl
    |cons v r ih=>
     intro k hk;simp only[params,get];have:k≠t:=by omega
     simp only[this,if_false];exact ih (k+1) (by omega)
   exact this vs (i+1) (by omega)
  exact .inr h
theorem ynf{s:S}{vs:List V}{xs:List Value}(h:VRt s vs xs)(n:Nat):zc9 s (params 0 vs) (xs.toArray++Array.replicate (n-xs.toArray.size) undef):=by
 intro t
 rcases z8c vs xs 0 h t with hv|hv
 ·by_cases ht:t<xs.length
  ·simp only[Nat.zero_le,if_true,Nat.sub_zero]at hv
   have:(xs.toArray++Array.replicate (n-xs.toArray.size) undef).getD t undef=xs.getD t undef:=by
    rw[Array.getD_eq_getD_getElem?,Array.getElem?_append_left (by simpa using ht),List.getD_eq_getElem?_getD];simp
   rw[this];exact hv
  have hl:=VRt.length _ _ h
  have:∀(vs:List V)(k:Nat),k+vs.length<=t->get (params k vs) t=.undef:=by
   intro vs;induction vs with
   |nil=>intro k _;rfl
   |cons v r ih=>
    intro k hk;simp only[params,get];simp only[List.length_cons]at hk;have:k≠t:=by omega
    simp only[this,if_false];exact ih (k+1) (by omega)
  rw[this vs 0 (by omega)];trivial
 rw[hv];trivial
def ExternOk [Clk](P:Program)(gl:Globs)(X:Extern):Prop:=
 ∀f x,X f=some x->Enters P f/\∀args m v m',x args m=some (v,m')->∀s,Sim (ztl P gl) gl s->s.m=m->∀xs:List Value,VRt s args xs->CallsIn Fence.wide 0 P f xs.toArray s.w (zxk (ztl P gl) gl s v m')
def CodeOk(P:Program)(gl:Globs)(Γ:Nat->Option CF):Prop:=∀f cf,Γ f=some cf->okCF P gl f cf=true
theorem yp4 [Clk]{Γ:Nat->Option CF}{X:Extern}{F:Oracle}(hF:ywv P gl F)(hmx:P.follows .mixedOrders=true):yhm P gl (step Γ X F):=by
 intro cx live keep body e m x e' m' h rd nt code ok;simp only[step]at h;cases hb:evC F cx body e m with
 |none=>rw[hb]at h;simp at h
 |some p=>
  obtain⟨x1,e1,m1⟩:=p;rw[hb]at h;have walk:=λN=>yaw hF (z2p hF) hmx rd nt cx N body code e m x1 e1 m1 ok hb
  cases x1 with
  |normal=>
   obtain⟨k,hk⟩:=hF.loop _ _ _ _ _ _ _ _ _ h rd nt code ok;refine⟨k+1,λN s A hs hm he hnt hN hmk Q hQ=>?_⟩;rw[roundsIn_succ];refine walk N s A hs hm he hnt hN hmk _ λs1 A1 q1 q2 q3 q4 q5 q6=>?_
   subst q3;obtain⟨g1,g2⟩:=yvb q1 keep (only live e1);have henv:zc9 s1 (only live e1) A1.tmps:=zt7 _ q4;refine hk N ⟨s1.φ,gc keep (only live e1) s1.m,s1.w,s1.Im⟩ A1 g1 rfl (zc9.ext g2 (λt i hi=>.inr (z9y _ t i hi)) henv) (by rw[q5];exact hnt) (Nat.le_trans hN q2.size) (zgy.ext g2 q6) Q λs' A' r1 r2 r3 r4 r5 r6=>?_
   exact hQ s' A' r1 (Ext.trans (Ext.mono q2 (λ_ _=>trivial)) (Ext.trans (Ext.mono g2 λi hi=>.inl hi) r2 (λ_ h=>h)) (λ_ h=>h)) r3 r4 (r5.trans q5) r6
  |exit id=>
   simp only[Option.some.injEq,Res.st.injEq]at h;obtain⟨rfl,rfl,rfl⟩:=h;refine⟨1,λN s A hs hm he hnt hN hmk Q hQ=>?_⟩;rw[roundsIn_succ];exact walk N s A hs hm he hnt hN hmk _ λs1 A1 q1 q2 q3 q4 q5 q6=>hQ s1 A1 q1 (Ext.mono q2 (λ_ _=>trivial)) q3 q4 q5 q6
  |ret=>
   simp only[Option.some.injEq,Res.st.injEq]at h;obtain⟨rfl,rfl,rfl⟩:=h;refine⟨1,λN s A hs hm he hnt hN hmk Q hQ=>?_⟩;rw[roundsIn_succ];exact walk N s A hs hm he hnt hN hmk _ λs1 A1 q1 q2 q3 q4 q5 q6=>hQ s1 A1 q1 (Ext.mono q2 (λ_ _=>trivial)) q3 q4 q5 q6
theorem yp3 [Clk]{Γ:Nat->Option CF}{X:Extern}{F:Oracle}(hF:ywv P gl F)(hmx:P.follows .mixedOrders=true)(hX:ExternOk P gl X)(hΓ:CodeOk P gl Γ):zus P (ztl P gl) gl (step Γ X F):=by
 intro lv f args m v m' h;simp only[step]at h
 split at h
 ·rename_i x hx;simp only[Option.map_eq_some_iff,Res.val.injEq]at h;obtain⟨⟨v1,m1⟩,h1,rfl,rfl⟩:=h;obtain⟨k1,k2⟩:=hX f x hx;exact⟨k1,k2 _ _ _ _ h1⟩
 ·split at h<;>try cases h
  rename_i cf hcf;have hok:=hΓ f cf hcf;unfold okCF at hok;split at hok<;>try cases hok
  rename_i fn hfn;split at hok<;>try cases hok
  rename_i code hcode;simp only[Bool.and_eq_true,bne_iff_ne]at hok;obtain⟨⟨hname,hokc⟩,hres⟩:=hok;refine⟨⟨fn,hfn,hname,by rw[hcode];simp⟩,λs hs hm xs hxs=>?_⟩
  -- what the body comes to
  obtain⟨x,e1,m1,hev,hx,hr⟩:∃x e1 m1,evC F ⟨lv,lv+1⟩ cf.body (params 0 args) m=some (x,e1,m1)/\(x=.normal\/x=.ret)/\Evl.results m1 e1 cf.results=some v/\m'=m1:=by
   split at h<;>try cases h
   ·rename_i e1 m1 hev;simp only[Option.map_eq_some_iff,Res.val.injEq]at h;obtain⟨v1,h1,rfl,rfl⟩:=h;exact⟨_,_,_,hev,.inl rfl,h1,rfl⟩
   rename_i e1 m1 hev;simp only[Option.map_eq_some_iff,Res.val.injEq]at h;obtain⟨v1,h1,rfl,rfl⟩:=h;exact⟨_,_,_,hev,.inr rfl,h1,rfl⟩
  obtain⟨hr,rfl⟩:=hr;have hsz:fn.ntmps<=(xs.toArray++Array.replicate (fn.ntmps-xs.toArray.size) undef).size:=by simp;omega
  refine callsIn_of_wp_marks (F:=Fence.wide) hfn hcode trivial ?_;refine yaw hF (z2p hF) hmx none fn.ntmps ⟨lv,lv+1⟩ s.w.heap.size cf.body code (params 0 args) m x e1 m' hokc hev s {tmps:=xs.toArray++Array.replicate (fn.ntmps-xs.toArray.size) undef,defers:=[]} hs hm (ynf hxs _) hsz (Nat.le_refl _) (zgy.nil _ _) _ λs1 A1 q1 q2 q3 q4 q5 q6=>?_
  have done:LeavesInM (fen none) 0 P fn A1.tmps (zxk (ztl P gl) gl s v m') A1.defers .returning s1.w:=by
   obtain⟨rs,r1,r2,r3⟩:=q6;rw[r1];refine yxw rs s1 r2 r3 q1 q2 λs2 t1 t2 t3 t4=>?_
   have henv:=zc9.ext0 t3 (λ_ _ _=>trivial) q4;obtain⟨y,hy,hv⟩:=yli (fn:=fn) t1 henv hres (by rw[t4,q3];exact hr);exact⟨y,hy,s2,y,rfl,rfl,t1,t2,t4.trans q3,hv⟩
  rcases hx with rfl|rfl<;>exact done
end
end Go.Evl
namespace Go.Evl
open Go.RowKit
section
variable{P:Program}{gl:Globs}
theorem yqi{s:S}:∀(ps:List Nat)(args:List V)(xs:List Value)(e:Env)(tmps:Array Value),ps.length=args.length->VRt s args xs->zc9 s e tmps->(∀t∈ps,t<tmps.size)->
  zc9 s (ywu ps args e) ((ps.toArray.zip xs.toArray).foldl (λtmps(t,a)=>tmps.setIfInBounds t a) tmps)/\((ps.toArray.zip xs.toArray).foldl (λtmps(t,a)=>tmps.setIfInBounds t a) tmps).size=tmps.size
 |[],args,xs,e,tmps,_,_,he,_=>by
  have hz:(([]:List Nat).toArray.zip xs.toArray).foldl (λtmps(t,a)=>tmps.setIfInBounds t a) tmps=tmps:=by
   rw[<-Array.foldl_toList];simp
  rw[hz];exact⟨by cases args<;>exact he,rfl⟩
 |p::ps,[],xs,e,tmps,h,_,_,_=>by simp at h
 |p::ps,v::args,_,e,tmps,h,⟨x,ys,hx,h1,h2⟩,he,hp=>by
  subst hx;have hpt:=hp p (by simp)
  have he':zc9 s (put e p v) (tmps.setIfInBounds p x):=by
   have:=zyn (A:={tmps:=tmps,defers:=[]}) he (some p) (λt ht=>by obtain rfl:=Option.some.inj ht;exact hpt) h1;exact this
  obtain⟨k1,k2⟩:=yqi ps args ys (put e p v) (tmps.setIfInBounds p x) (by simpa using h) h2 he' (λt ht=>by simpa using hp t (by simp[ht]))
  have hz:((p::ps).toArray.zip (x::ys).toArray).foldl (λtmps(t,a)=>tmps.setIfInBounds t a) tmps=(ps.toArray.zip ys.toArray).foldl (λtmps(t,a)=>tmps.setIfInBounds t a) (tmps.setIfInBounds p x):=by
   rw[<-Array.foldl_toList,<-Array.foldl_toList];simp
  rw[hz];exact⟨k1,by rw[k2];simp⟩
theorem yl4 [Clk]{Γ:Nat->Option CF}{X:Extern}{F:Oracle}(hF:ywv P gl F)(hmx:P.follows .mixedOrders=true):z2x P (ztl P gl) gl (step Γ X F):=by
 intro nx o args m v m' h;simp only[step]at h;split at h<;>try cases h
 rename_i e ps a b lv j0 hlk;split at h<;>try cases h
 rename_i hpl;split at h<;>try cases h
 rename_i e1 m1 heva;split at h<;>try cases h
 rename_i e' ps' a' b' lv' j' hlk1;split at h<;>try cases h
 rename_i x ex m2 hevb;split at h<;>try cases h
 rename_i e3 ps3 a3 b3 lv3 j3 hlk2;refine⟨⟨_,_,_,_,_,_,_,_,hlk⟩,λs hs hm xs hxs l hl=>?_⟩;subst hm;obtain⟨l0,L,hp0,hL,hpar,hplt,henv,hoa,hob,hst,hpend⟩:=hs.objs o _ hlk;have hll:l0=l:=by rw[hl]at hp0;simpa using hp0.symm
 subst hll;have hlen:=VRt.length _ _ hxs;refine⟨L,hL,by rw[hpar];simpa using hpl.trans hlen,?_⟩;obtain⟨nta,hnta,hoka⟩:=hoa;obtain⟨ntb,hntb,hokb⟩:=hob;obtain⟨z1,z2⟩:=yqi ps args xs e L.tmps hpl hxs henv hplt;rw[hpar];refine roundIn_of_wpIn (F:=Fence.wide) trivial ?_
 -- the left sides
 refine yaw hF (z2p hF) hmx (some l0) nta ⟨lv,nx⟩ 0 a L.assign _ _ .normal e1 m1 hoka heva s {tmps:=(ps.toArray.zip xs.toArray).foldl (λtmps(t,a)=>tmps.setIfInBounds t a) L.tmps,defers:=[]} hs rfl z1 (by rw[z2];exact hnta) (Nat.zero_le _) (zgy.nil _ _) _ λs1 A1 q1 q2 q3 q4 q5 q6=>?_
 subst q3;obtain⟨o1,ho1,ht1⟩:=q2.objs o _ trivial hlk;rw[hlk1]at ho1;obtain rfl:=Option.some.inj ho1;have hp1:s1.φ o=.pointer (some ⟨l0,0,none⟩):=(show s1.φ o=s.φ o from ht1.1).trans hl;obtain⟨l1,L1,hpl1,hL1,hpar1,hplt1,henv1,hoa1,hob1,hst1,hpend1⟩:=q1.objs o _ hlk1;have hll1:l1=l0:=by rw[hp1]at hpl1;simpa using hpl1.symm
 subst hll1;have hlt1:l1<s1.w.heap.size:=(Array.getElem?_eq_some_iff.1 hL1).1
 obtain⟨kB1,kB2⟩:=zu8 q1 o _ (.loop e' ps' a' b' lv' true false j') hlk1 (by simp) l1 _ hp1 rfl _ (.loop {L1 with state:=.busy}) hL1 rfl rfl ⟨rfl,rfl,rfl,rfl,rfl⟩
  (λhE=>⟨l1,{L1 with state:=.busy},rfl,by simp[hlt1],hpar1,hplt1,zc9.ext hE (λ_ _ _=>trivial) henv1,hoa1,hob1,rfl,hpend1⟩)
 have hready:L1.state=.ready:=hst1;refine⟨{s1.w with heap:=s1.w.heap.setIfInBounds l1 (.loop {L1 with state:=.busy})},by simp[Instr.beginRound,Instr.getLoop,getObj,setObj,Sem.run,hL1,hready],?_⟩
 -- the body
 refine yaw hF (z2p hF) hmx (some l1) ntb ⟨lv,nx⟩ 0 b L.body e1 _ x ex m2 hokb hevb _ A1 kB1 rfl (zc9.ext kB2 (λ_ _ _=>trivial) q4) (by rw[q5];show ntb<=Array.size _;rw[z2];exact hntb) (Nat.zero_le _) (zgy.ext kB2 q6) _ λs2 A2 r1 r2 r3 r4 r5 r6=>?_
 subst r3;obtain⟨o2,ho2,ht2⟩:=r2.objs o _ trivial (zbh _ _ _);rw[hlk2]at ho2;obtain rfl:=Option.some.inj ho2
 have hp2:s2.φ o=.pointer (some ⟨l1,0,none⟩):=by
  have:s2.φ o=_:=ht2.1;rw[this];simp
 obtain⟨l2,L2,hpl2,hL2,hpar2,hplt2,henv2,hoa2,hob2,hst2,hpend2⟩:=r1.objs o _ hlk2;have hll2:l2=l1:=by rw[hp2]at hpl2;simpa using hpl2.symm
 subst hll2;have hlt2:l2<s2.w.heap.size:=(Array.getElem?_eq_some_iff.1 hL2).1;have hE2:Ext (λ_=>True) s s2:=Ext.trans q2 (Ext.trans kB2 r2 (λ_ _=>trivial)) (λ_ _=>trivial)
 -- the end of the round
 have fin:∀(ov:Bool)(jj:Option ymn),(if jj.isNone then LoopState.ready else .done)=yhc false ov->
   ∃s3:S,Sim (ztl P gl) gl s3/\Ext (λ_=>True) s s3/\s3.m=upd s2.m o (.loop e3 ps3 a3 b3 lv3 false ov jj)/\(Instr.endRound l2 (jj.map zu1)).run P s2.w=.ok (.bool jj.isNone) s3.w:=by
  intro ov jj hss
  obtain⟨k1,k2⟩:=zu8 r1 o _ (.loop e3 ps3 a3 b3 lv3 false ov jj) hlk2 (by simp) l2 _ hp2 rfl _ (.loop {L2 with state:=(if jj.isNone then LoopState.ready else .done),pending:=jj.map zu1}) hL2 rfl rfl ⟨rfl,rfl,rfl,rfl,rfl⟩
   (λhE=>⟨l2,{L2 with state:=(if jj.isNone then LoopState.ready else .done),pending:=jj.map zu1},rfl,by simp[hlt2],hpar2,hplt2,zc9.ext hE (λ_ _ _=>trivial) henv2,hoa2,hob2,hss,rfl⟩)
  refine⟨_,k1,Ext.trans hE2 k2 (λ_ _=>trivial),rfl,?_⟩;cases jj<;>simp[Instr.endRound,Instr.getLoop,getObj,setObj,Sem.run,hL2]
 cases x with
 |normal=>
  simp only[Option.some.injEq,Res.val.injEq]at h;obtain⟨rfl,rfl⟩:=h;obtain⟨s3,k1,k2,k3,k4⟩:=fin false none rfl;obtain⟨g1,g2⟩:=yvb k1 (zoi s.m) [];refine⟨.bool true,s3.w,k4,⟨s3.φ,gc (zoi s.m) [] s3.m,s3.w,s3.Im⟩,.bool true,rfl,rfl,g1,?_,by rw[k3],rfl⟩;refine Ext.of_look (Ext.trans (Ext.mono k2 (λ_ _=>trivial)) g2 λi hi=>.inl ?_);cases ho:look s.m i with
  |none=>exact absurd ho hi
  |some o=>exact zri _ i o ho
 |exit id=>
  simp only[Option.some.injEq,Res.val.injEq]at h;obtain⟨rfl,rfl⟩:=h;obtain⟨s3,k1,k2,k3,k4⟩:=fin true (some (.exit id)) rfl;exact⟨.bool false,s3.w,k4,s3,.bool false,rfl,rfl,k1,k2,k3,rfl⟩
 |ret=>
  simp only[Option.some.injEq,Res.val.injEq]at h;obtain⟨rfl,rfl⟩:=h;obtain⟨s3,k1,k2,k3,k4⟩:=fin true (some .ret) rfl;exact⟨.bool false,s3.w,k4,s3,.bool false,rfl,rfl,k1,k2,k3,rfl⟩
theorem ycs [Clk]{Γ:Nat->Option CF}{X:Extern}(hmx:P.follows .mixedOrders=true)(hX:ExternOk P gl X)(hΓ:CodeOk P gl Γ):∀n,ywv P gl (iter Γ X n)
 |0=>⟨⟨λ_ _ _ _ _ _ h=>by simp[iter]at h,λ_ _ _ _ _ _ h=>by simp[iter]at h⟩,λ_ _ _ _ _ _ _ _ _ h=>by simp[iter]at h⟩
 |n+1=>
  have hF:=ycs hmx hX hΓ n
  ⟨⟨yp3 hF hmx hX hΓ,yl4 hF hmx⟩,yp4 hF hmx⟩
theorem zyj [Clk]{Γ:Nat->Option CF}{X:Extern}(hmx:P.follows .mixedOrders=true)(hX:ExternOk P gl X)(hΓ:CodeOk P gl Γ){n f:Nat}{args:List V}{v:V}{m':Mem}(h:iter Γ X n (.call 0 f args [])=some (.val v m'))
  {s:S}(hs:Sim (ztl P gl) gl s)(hm:s.m=[]){xs:List Value}(hxs:VRt s args xs):Calls P f xs.toArray s.w (zxk (ztl P gl) gl s v m'):=
 callsIn_wide.1 (((ycs hmx hX hΓ n).good.call _ _ _ _ _ _ h).2 s hs hm xs hxs)
end
instance clkI:Clk:=⟨False⟩
theorem clkOff:¬ @Clk.on clkI:=λh=>h
end Go.Evl
