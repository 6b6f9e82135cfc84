
/-
 The evaluator is sound, first part: how data, memory and operations of the evaluator stand for the model's.
-/
import Derived.Test.YtkflcbhclegghaaGreatDoorEvX
import Derived.CallsIn
import Derived.Below
import Derived.Laws.AppendOwn
import Derived.Deep.Draws
import Derived.Laws.Tables
import Derived.Laws.MakeOwn
import Derived.Laws.CopyRow
import Derived.Laws.Build
import Derived.Laws.Cells
import Derived.Lib.Strings
namespace Go.Evl
open Go.RowKit
structure S where
 φ:Id->Value
 m:Mem
 w:World
 Im:Nat->Nat->Prop
def one(v:Value):Prop:=v.oneCell'=true
mutual
def DR(w:World)(Im:Nat->Nat->Prop):D->Value->Prop
 |.int k n,v=>v=.int k n
 |.bool b,v=>v=.bool b
 |.str s,v=>v=.string ⟨s.toArray⟩
 |.nil,v=>∃a,v=.slice a 0 0
 |.list n cs,v=>∃a cap,v=.slice a n cap/\n<=cap/\((n=0/\cs=[])\/∃b o,a=some ⟨b,o,none⟩/\CR w Im b o cs)
 |.agg cs,v=>∃xs,v=.agg xs/\DRs w Im cs xs.toList
 |.nilp,v=>v=.pointer none
 |.nilf,v=>v=.nilFunc
 |.nili,v=>v=.nilIface
 |.ifc b,v=>(b=false/\v=.nilIface)\/∃te pe,v=.iface te pe
 |.nilm,v=>v=.map none
 |.fn f,v=>v=.func (.func f) #[] #[]
def CR(w:World)(Im:Nat->Nat->Prop)(b o:Nat):List D->Prop
 |[]=>True
 |d::r=>Im b o/\(∃x,w.cell? ⟨b,o,none⟩=some x/\one x/\DR w Im d x)/\CR w Im b (o+1) r
def DRs(w:World)(Im:Nat->Nat->Prop):List D->List Value->Prop
 |[],xs=>xs=[]
 |d::r,xs=>∃x ys,xs=x::ys/\one x/\DR w Im d x/\DRs w Im r ys
end
def blk:Value->Option Nat
 |.pointer (some a)=>some a.block
 |.slice (some a) _ _=>some a.block
 |.map (some b)=>some b
 |_=>none
def ymq(p:Value)(off len top:Nat)(v:Value)(sz n:Nat):Prop:=
 top<=n/\(n=top->(off=0/\len=n/\v=p)\/
   (¬(off=0/\len=n)/\∃b cap capp,p=.slice (some ⟨b,0,none⟩) n capp/\off+len<=n/\(off<n/\off+cap=capp)/\len<=cap/\v=.slice (some ⟨b,off*sz,none⟩) len cap)\/
   (¬(off=0/\len=n)/\off=n/\len=0/\∃a c,v=.slice a 0 c))
def yme(p:Value)(off len top:Nat)(v:Value):Option Ob->Prop
 |some (.row _ _ sz n _)=>top<=n/\(n=top->(off=0/\len=n/\v=p)\/
   (¬(off=0/\len=n)/\∃b cap capp,p=.slice (some ⟨b,0,none⟩) n capp/\off+len<=n/\(off<n/\off+cap=capp)/\len<=cap/\v=.slice (some ⟨b,off*sz,none⟩) len cap)\/
   (¬(off=0/\len=n)/\off=n/\len=0/\∃a c,v=.slice a 0 c))
 |some (.bag _ sz n _)=>ymq p off len top v sz n
 |some .gone=>True
 |some (.map _)=>True
 |_=>False
def ymd(p:Value)(off top:Nat)(v:Value):Option Ob->Prop
 |some (.cells ..)=>∃b,p=.pointer (some ⟨b,0,none⟩)/\v=.pointer (some ⟨b,off,none⟩)
 |some (.row _ _ _ n _)=>top<=n/\(n=top->∃b cap,p=.slice (some ⟨b,0,none⟩) n cap/\v=.pointer (some ⟨b,off,none⟩))
 |some (.bag _ _ n _)=>top<=n/\(n=top->∃b cap,p=.slice (some ⟨b,0,none⟩) n cap/\v=.pointer (some ⟨b,off,none⟩))
 |some .gone=>True
 |some (.map _)=>True
 |_=>False
def yqy(p:Value)(v:Value):Option Ob->Prop
 |some (.loop ..)=>∃l,p=.pointer (some ⟨l,0,none⟩)/\v=.func (.yield l) #[] #[]
 |some .gone=>True
 |some (.map _)=>True
 |_=>False
def MpR(p:Value)(v:Value):Option Ob->Prop
 |some (.map _)=>v=p
 |some .gone=>v=p
 |_=>False
def ItR(p:Value)(v:Value):Option Ob->Prop
 |some (.iter ..)=>v=p
 |some .gone=>v=p
 |some (.map _)=>v=p
 |_=>False
mutual
def VR(s:S):V->Value->Prop
 |.d x,v=>DR s.w s.Im x v
 |.agg cs,v=>∃xs,v=.agg xs/\VRs s cs xs.toList
 |.tup cs,v=>∃xs,v=.tuple xs/\VRt s cs xs.toList
 |.ref o off len top,v=>one v/\yme (s.φ o) off len top v (look s.m o)
 |.ptr o off top,v=>one v/\ymd (s.φ o) off top v (look s.m o)
 |.lptr cs off,v=>∃b o,v=.pointer (some ⟨b,o+off,none⟩)/\CR s.w s.Im b o cs
 |.cl n cs,v=>∃ad,v=.slice ad n n/\((n=0/\cs=[])\/∃b o,ad=some ⟨b,o,none⟩/\CR s.w s.Im b o cs)
 |.fn f a b,v=>∃xs ys,v=.func (.func f) xs ys/\VRt s a xs.toList/\VRt s b ys.toList
 |.yld o,v=>one v/\yqy (s.φ o) v (look s.m o)
 |.mp o,v=>one v/\MpR (s.φ o) v (look s.m o)
 |.it o,v=>one v/\ItR (s.φ o) v (look s.m o)
 |.skip,v=>v=undef
 |.undef,_=>True
def VRs(s:S):List V->List Value->Prop
 |[],xs=>xs=[]
 |d::r,xs=>∃x ys,xs=x::ys/\one x/\VR s d x/\VRs s r ys
def VRt(s:S):List V->List Value->Prop
 |[],xs=>xs=[]
 |d::r,xs=>∃x ys,xs=x::ys/\VR s d x/\VRt s r ys
end
def zbd:Ob->Ob->Value->Value->Prop
 |.cells t a,.cells u b,p,q=>q=p/\u=t/\b.length=a.length
 |.row wr t sz n _,.row wr' t' sz' n' _,p,q=>(wr'=true->wr=true)/\t'=t/\sz'=sz/\n<=n'/\(n'=n->q=p)
 |.row wr t sz n _,.bag t' sz' n' _,p,q=>wr=true/\t'=t/\sz'=sz/\n<=n'/\(n'=n->q=p)
 |.bag t sz n _,.row _ t' sz' n' _,p,q=>t'=t/\sz'=sz/\n<=n'/\(n'=n->q=p)
 |.bag t sz n _,.bag t' sz' n' _,p,q=>t'=t/\sz'=sz/\n<=n'/\(n'=n->q=p)
 |.map _,.map _,p,q=>q=p
 |.map _,.gone,p,q=>q=p
 |.gone,.map _,p,q=>q=p
 |.gone,.gone,p,q=>q=p
 |.iter ..,.iter ..,p,q=>q=p
 |.loop _ ps a b lv _ _ _,.loop _ ps' a' b' lv' _ _ _,p,q=>q=p/\ps'=ps/\a'=a/\b'=b/\lv'=lv
 |.loop ..,.gone,_,_=>True
 |.loop ..,.map _,_,_=>True
 |.row ..,.gone,_,_=>True
 |.row ..,.map _,_,_=>True
 |.bag ..,.gone,_,_=>True
 |.bag ..,.map _,_,_=>True
 |_,_,_,_=>False
def zxj(s:S)(b:Nat):Prop:=∀i o,look s.m i=some o->o≠.gone->blk (s.φ i)≠some b
class Clk where
 on:Prop
structure Tk [Clk](w w':World):Prop where
 tape:w'.tape=w.tape
 drawn:Clk.on->w.drawn<=w'.drawn
theorem Tk.of [Clk]{w w':World}(h:w'.tape=w.tape:=by rfl)(d:w.drawn<=w'.drawn:=by first|exact Nat.le_refl _|exact Nat.le_add_right _ _|(simp;done)):Tk w w':=⟨h,λ_=>d⟩
theorem Tk.trans [Clk]{a b c:World}(h:Tk b c)(k:Tk a b):Tk a c:=⟨h.tape.trans k.tape,λo=>Nat.le_trans (k.drawn o) (h.drawn o)⟩
structure Ext [Clk](K:Id->Prop)(s s':S):Prop where
 os:s'.w.os=s.w.os
 tape:Tk s.w s'.w
 output:s'.w.output=s.w.output
 size:s.w.heap.size<=s'.w.heap.size
 frame:∀b,b<s.w.heap.size->zxj s b->s'.w.heap[b]?=s.w.heap[b]? /\zxj s' b
 imnew:∀b j,s'.Im b j->s.Im b j\/s.w.heap.size<=b\/¬zxj s b
 im:∀b j,s.Im b j->s'.Im b j
 keep:∀b j,s.Im b j->s'.w.cell? ⟨b,j,none⟩=s.w.cell? ⟨b,j,none⟩
 objs:∀i o,K i->look s.m i=some o->∃o',look s'.m i=some o'/\zbd o o' (s.φ i) (s'.φ i)
structure yec(K:Id->Prop)(s s':S):Prop where
 im:∀b j,s.Im b j->s'.Im b j
 keep:∀b j,s.Im b j->s'.w.cell? ⟨b,j,none⟩=s.w.cell? ⟨b,j,none⟩
 objs:∀i o,K i->look s.m i=some o->∃o',look s'.m i=some o'/\zbd o o' (s.φ i) (s'.φ i)
theorem Ext.to0 [Clk]{K:Id->Prop}{s s':S}(h:Ext K s s'):yec K s s':=⟨h.im,h.keep,h.objs⟩
theorem zbd.refl:∀(o:Ob)(p:Value),zbd o o p p:=by
 intro o p;cases o<;>simp[zbd]
theorem zbd.trans{a b c:Ob}{p q r:Value}(h:zbd a b p q)(k:zbd b c q r):zbd a c p r:=by
 cases a<;>cases b<;>simp[zbd]at h<;>cases c<;>simp[zbd]at k⊢
 all_goals first|(obtain⟨h1,h2,h3⟩:=h;obtain⟨k1,k2,k3⟩:=k;exact⟨k1.trans h1,k2.trans h2,k3.trans h3⟩)|skip
 all_goals first|(exact k.trans h)|skip
 all_goals grind
theorem Ext.refl [Clk](K:Id->Prop)(s:S):Ext K s s:=
 ⟨rfl,Tk.of,rfl,Nat.le_refl _,λ_ _ h=>⟨rfl,h⟩,λ_ _ h=>.inl h,λ_ _ h=>h,λ_ _ _=>rfl,λ_ o _ h=>⟨o,h,zbd.refl _ _⟩⟩
theorem Ext.trans [Clk]{K K':Id->Prop}{a b c:S}(h:Ext K a b)(k:Ext K' b c)(hK:∀i,K i->K' i):Ext K a c:=by
 refine⟨k.os.trans h.os,k.tape.trans h.tape,k.output.trans h.output,Nat.le_trans h.size k.size,λx hx hf=>?_,λx j hi=>?_,
  λx j hi=>k.im _ _ (h.im _ _ hi),λx j hi=>(k.keep _ _ (h.im _ _ hi)).trans (h.keep _ _ hi),λi o hi ho=>?_⟩
 ·obtain⟨h1,h2⟩:=h.frame x hx hf;obtain⟨k1,k2⟩:=k.frame x (Nat.lt_of_lt_of_le hx h.size) h2;exact⟨k1.trans h1,k2⟩
 ·rcases k.imnew x j hi with h1|h1|h1
  ·exact h.imnew x j h1
  ·exact .inr (.inl (Nat.le_trans h.size h1))
  rcases Nat.lt_or_ge x a.w.heap.size with hlt|hge
  ·exact .inr (.inr λhf=>h1 (h.frame x hlt hf).2)
  exact .inr (.inl hge)
 obtain⟨o1,h1,t1⟩:=h.objs i o hi ho;obtain⟨o2,h2,t2⟩:=k.objs i o1 (hK i hi) h1;exact⟨o2,h2,t1.trans t2⟩
theorem Ext.mono [Clk]{K K':Id->Prop}{a b:S}(h:Ext K a b)(hK:∀i,K' i->K i):Ext K' a b:=
 ⟨h.os,h.tape,h.output,h.size,h.frame,h.imnew,h.im,h.keep,λi o hi ho=>h.objs i o (hK i hi) ho⟩
section
variable{w w':World}{Im Im':Nat ->Nat ->Prop}
mutual
theorem DR.ext(hi:∀b j,Im b j->Im' b j)(hk:∀b j,Im b j->w'.cell? ⟨b,j,none⟩=w.cell? ⟨b,j,none⟩):∀(d:D)(v:Value),DR w Im d v->DR w' Im' d v
 |.int ..,_,h=>by simpa only[DR]using h
 |.bool _,_,h=>by simpa only[DR]using h
 |.str _,_,h=>by simpa only[DR]using h
 |.nil,_,h=>by simpa only[DR]using h
 |.nilp,_,h=>by simpa only[DR]using h
 |.nilf,_,h=>by simpa only[DR]using h
 |.nili,_,h=>by simpa only[DR]using h
 |.ifc _,_,h=>by simpa only[DR]using h
 |.nilm,_,h=>by simpa only[DR]using h
 |.fn _,_,h=>by simpa only[DR]using h
 |.list n cs,v,h=>by
  simp only[DR]at h⊢;obtain⟨a,cap,hv,hc,h⟩:=h;refine⟨a,cap,hv,hc,?_⟩
  rcases h with h|⟨b,o,ha,h⟩
  ·exact .inl h
  exact .inr ⟨b,o,ha,CR.ext hi hk b o cs h⟩
 |.agg cs,v,h=>by
  simp only[DR]at h⊢;obtain⟨xs,hv,h⟩:=h;exact⟨xs,hv,DRs.ext hi hk cs _ h⟩
theorem CR.ext(hi:∀b j,Im b j->Im' b j)(hk:∀b j,Im b j->w'.cell? ⟨b,j,none⟩=w.cell? ⟨b,j,none⟩)(b o:Nat):∀(cs:List D),CR w Im b o cs->CR w' Im' b o cs
 |[],_=>by simp only[CR]
 |d::r,h=>by
  simp only[CR]at h⊢;obtain⟨h1,⟨x,h2,h3,h4⟩,h5⟩:=h;exact⟨hi _ _ h1,⟨x,(hk _ _ h1).trans h2,h3,DR.ext hi hk d x h4⟩,CR.ext hi hk b (o+1) r h5⟩
theorem DRs.ext(hi:∀b j,Im b j->Im' b j)(hk:∀b j,Im b j->w'.cell? ⟨b,j,none⟩=w.cell? ⟨b,j,none⟩):∀(cs:List D)(xs:List Value),DRs w Im cs xs->DRs w' Im' cs xs
 |[],_,h=>by simpa only[DRs]using h
 |d::r,xs,h=>by
  simp only[DRs]at h⊢;obtain⟨x,ys,h1,h2,h3,h4⟩:=h;exact⟨x,ys,h1,h2,DR.ext hi hk d x h3,DRs.ext hi hk r ys h4⟩
end
end
theorem yme.turned{o o':Ob}{p p' v:Value}{a b c:Nat}(h:yme p a b c v (some o))(t:zbd o o' p p'):yme p' a b c v (some o'):=by
 have key:∀{sz n n':Nat},ymq p a b c v sz n->n<=n'->(n'=n->p'=p)->ymq p' a b c v sz n':=by
  intro sz n n' h h1 h2;have h0:=h.1;refine⟨by omega,λe=>?_⟩;rw[h2 (by omega)];have hn:=h.2 (by omega);have e2:n=n':=Nat.le_antisymm h1 (by omega);rw[<-e2];exact hn
 cases o<;>simp only[yme]at h<;>cases o'<;>simp only[zbd,yme]at t⊢
 ·obtain⟨_,_,rfl,h1,h2⟩:=t;exact key h h1 h2
 ·obtain⟨_,_,rfl,h1,h2⟩:=t;exact key h h1 h2
 ·obtain⟨_,rfl,h1,h2⟩:=t;exact key h h1 h2
 obtain⟨_,rfl,h1,h2⟩:=t;exact key h h1 h2
theorem ymd.turned{o o':Ob}{p p' v:Value}{a c:Nat}(h:ymd p a c v (some o))(t:zbd o o' p p'):ymd p' a c v (some o'):=by
 have key:∀{n n':Nat},(c<=n/\(n=c->∃b cap,p=.slice (some ⟨b,0,none⟩) n cap/\v=.pointer (some ⟨b,a,none⟩)))->n<=n'->(n'=n->p'=p)->
   (c<=n'/\(n'=c->∃b cap,p'=.slice (some ⟨b,0,none⟩) n' cap/\v=.pointer (some ⟨b,a,none⟩))):=by
  intro n n' h h1 h2;have h0:=h.1;refine⟨by omega,λe=>?_⟩;rw[h2 (by omega)];have hn:=h.2 (by omega);have e2:n=n':=Nat.le_antisymm h1 (by omega);rw[<-e2];exact hn
 cases o<;>simp only[ymd]at h<;>cases o'<;>simp only[zbd,ymd]at t⊢
 ·obtain⟨rfl,_⟩:=t;exact h
 ·obtain⟨_,_,rfl,h1,h2⟩:=t;exact key h h1 h2
 ·obtain⟨_,_,rfl,h1,h2⟩:=t;exact key h h1 h2
 ·obtain⟨_,rfl,h1,h2⟩:=t;exact key h h1 h2
 obtain⟨_,rfl,h1,h2⟩:=t;exact key h h1 h2
theorem yqy.turned{o o':Ob}{p p' v:Value}(h:yqy p v (some o))(t:zbd o o' p p'):yqy p' v (some o'):=by
 cases o<;>simp only[yqy]at h<;>cases o'<;>simp only[zbd,yqy]at t⊢;obtain⟨rfl,_⟩:=t;exact h
theorem MpR.turned{o o':Ob}{p p' v:Value}(h:MpR p v (some o))(t:zbd o o' p p'):MpR p' v (some o'):=by
 cases o<;>simp only[MpR]at h<;>cases o'<;>simp only[zbd,MpR]at t⊢
 all_goals(subst t;exact h)
theorem ItR.turned{o o':Ob}{p p' v:Value}(h:ItR p v (some o))(t:zbd o o' p p'):ItR p' v (some o'):=by
 cases o<;>simp only[ItR]at h<;>cases o'<;>simp only[zbd,ItR]at t⊢
 all_goals(subst t;exact h)
theorem yme.some{p v:Value}{a b c:Nat}{x:Option Ob}(h:yme p a b c v x):∃o,x=some o:=by
 cases x with
 |none=>simp[yme]at h
 |some o=>exact⟨o,rfl⟩
theorem ymd.some{p v:Value}{a c:Nat}{x:Option Ob}(h:ymd p a c v x):∃o,x=some o:=by
 cases x with
 |none=>simp[ymd]at h
 |some o=>exact⟨o,rfl⟩
theorem yqy.some{p v:Value}{x:Option Ob}(h:yqy p v x):∃o,x=some o:=by
 cases x with
 |none=>simp[yqy]at h
 |some o=>exact⟨o,rfl⟩
theorem MpR.some{p v:Value}{x:Option Ob}(h:MpR p v x):∃o,x=some o:=by
 cases x with
 |none=>simp[MpR]at h
 |some o=>exact⟨o,rfl⟩
theorem ItR.some{p v:Value}{x:Option Ob}(h:ItR p v x):∃o,x=some o:=by
 cases x with
 |none=>simp[ItR]at h
 |some o=>exact⟨o,rfl⟩
section
variable{K:Id ->Prop}{s s':S}
mutual
theorem VR.ext0(h:yec K s s'):∀(v:V)(x:Value),(∀i∈ids v,K i)->VR s v x->VR s' v x
 |.d d,x,_,hv=>by simp only[VR]at hv⊢;exact DR.ext h.im h.keep d x hv
 |.agg cs,x,hk,hv=>by
  simp only[VR]at hv⊢;obtain⟨xs,hx,hv⟩:=hv;exact⟨xs,hx,VRs.ext0 h cs _ (by simpa only[ids]using hk) hv⟩
 |.tup cs,x,hk,hv=>by
  simp only[VR]at hv⊢;obtain⟨xs,hx,hv⟩:=hv;exact⟨xs,hx,VRt.ext0 h cs _ (by simpa only[ids]using hk) hv⟩
 |.ref o a b c,x,hk,hv=>by
  simp only[VR]at hv⊢;obtain⟨h1,hv⟩:=hv;obtain⟨ob,ho⟩:=hv.some;obtain⟨ob',ho',t⟩:=h.objs o ob (hk o (by simp[ids])) ho;rw[ho]at hv;rw[ho'];exact⟨h1,hv.turned t⟩
 |.ptr o a b,x,hk,hv=>by
  simp only[VR]at hv⊢;obtain⟨h1,hv⟩:=hv;obtain⟨ob,ho⟩:=hv.some;obtain⟨ob',ho',t⟩:=h.objs o ob (hk o (by simp[ids])) ho;rw[ho]at hv;rw[ho'];exact⟨h1,hv.turned t⟩
 |.lptr cs off,x,_,hv=>by
  simp only[VR]at hv⊢;obtain⟨b,o,hx,hv⟩:=hv;exact⟨b,o,hx,CR.ext h.im h.keep b o cs hv⟩
 |.cl n cs,x,_,hv=>by
  simp only[VR]at hv⊢;obtain⟨ad,hx,hv⟩:=hv;exact⟨ad,hx,hv.imp id λ⟨b,o,h1,h2⟩=>⟨b,o,h1,CR.ext h.im h.keep b o cs h2⟩⟩
 |.fn f a b,x,hk,hv=>by
  simp only[VR]at hv⊢;obtain⟨xs,ys,hx,h1,h2⟩:=hv;exact⟨xs,ys,hx,VRt.ext0 h a _ (λi hi=>hk i (by simp[ids,hi])) h1,VRt.ext0 h b _ (λi hi=>hk i (by simp[ids,hi])) h2⟩
 |.yld o,x,hk,hv=>by
  simp only[VR]at hv⊢;obtain⟨h1,hv⟩:=hv;obtain⟨ob,ho⟩:=hv.some;obtain⟨ob',ho',t⟩:=h.objs o ob (hk o (by simp[ids])) ho;rw[ho]at hv;rw[ho'];exact⟨h1,hv.turned t⟩
 |.mp o,x,hk,hv=>by
  simp only[VR]at hv⊢;obtain⟨h1,hv⟩:=hv;obtain⟨ob,ho⟩:=hv.some;obtain⟨ob',ho',t⟩:=h.objs o ob (hk o (by simp[ids])) ho;rw[ho]at hv;rw[ho'];exact⟨h1,hv.turned t⟩
 |.it o,x,hk,hv=>by
  simp only[VR]at hv⊢;obtain⟨h1,hv⟩:=hv;obtain⟨ob,ho⟩:=hv.some;obtain⟨ob',ho',t⟩:=h.objs o ob (hk o (by simp[ids])) ho;rw[ho]at hv;rw[ho'];exact⟨h1,hv.turned t⟩
 |.skip,x,_,hv=>by simpa only[VR]using hv
 |.undef,x,_,_=>by simp only[VR]
theorem VRs.ext0(h:yec K s s'):∀(cs:List V)(xs:List Value),(∀i∈zev cs,K i)->VRs s cs xs->VRs s' cs xs
 |[],_,_,hv=>by simpa only[VRs]using hv
 |d::r,xs,hk,hv=>by
  simp only[VRs]at hv⊢;obtain⟨x,ys,h1,h2,h3,h4⟩:=hv;exact⟨x,ys,h1,h2,VR.ext0 h d x (λi hi=>hk i (by simp[zev,hi])) h3,VRs.ext0 h r ys (λi hi=>hk i (by simp[zev,hi])) h4⟩
theorem VRt.ext0(h:yec K s s'):∀(cs:List V)(xs:List Value),(∀i∈zev cs,K i)->VRt s cs xs->VRt s' cs xs
 |[],_,_,hv=>by simpa only[VRt]using hv
 |d::r,xs,hk,hv=>by
  simp only[VRt]at hv⊢;obtain⟨x,ys,h1,h3,h4⟩:=hv;exact⟨x,ys,h1,VR.ext0 h d x (λi hi=>hk i (by simp[zev,hi])) h3,VRt.ext0 h r ys (λi hi=>hk i (by simp[zev,hi])) h4⟩
end
theorem VR.ext [Clk](h:Ext K s s')(v:V)(x:Value)(hk:∀i∈ids v,K i)(hv:VR s v x):VR s' v x:=VR.ext0 h.to0 v x hk hv
theorem VRs.ext [Clk](h:Ext K s s')(cs:List V)(xs:List Value)(hk:∀i∈zev cs,K i)(hv:VRs s cs xs):VRs s' cs xs:=VRs.ext0 h.to0 cs xs hk hv
theorem VRt.ext [Clk](h:Ext K s s')(cs:List V)(xs:List Value)(hk:∀i∈zev cs,K i)(hv:VRt s cs xs):VRt s' cs xs:=VRt.ext0 h.to0 cs xs hk hv
end
end Go.Evl
namespace Go.Evl
open Go.RowKit
theorem zbh:∀(m:Mem)(i:Id)(o:Ob),look (upd m i o) i=some o
 |[],i,o=>by simp[upd,look]
 |(j,x)::r,i,o=>by
  simp only[upd]
  split
  ·simp[look]
  rename_i h;simp only[look,h,if_false];exact zbh r i o
theorem za9:∀(m:Mem)(i k:Id)(o:Ob),i≠k->look (upd m i o) k=look m k
 |[],i,k,o,h=>by simp[upd,look,h]
 |(j,x)::r,i,k,o,h=>by
  simp only[upd]
  split
  ·rename_i e;subst e;simp[look,h]
  simp only[look];split
  ·rfl
  exact za9 r i k o h
theorem zkg(m:Mem)(i k:Id)(o:Ob):look (upd m i o) k=if i=k then some o else look m k:=by
 split
 ·rename_i h;subst h;exact zbh m i o
 rename_i h;exact za9 m i k o h
theorem zk3:∀(e:Env)(t:Nat)(v:V),get (put e t v) t=v
 |[],t,v=>by simp[put,get]
 |(u,x)::r,t,v=>by
  simp only[put]
  split
  ·simp[get]
  rename_i h;simp only[get,h,if_false];exact zk3 r t v
theorem zn7:∀(e:Env)(t u:Nat)(v:V),t≠u->get (put e t v) u=get e u
 |[],t,u,v,h=>by simp[put,get,h]
 |(a,x)::r,t,u,v,h=>by
  simp only[put]
  split
  ·rename_i e;subst e;simp[get,h]
  simp only[get];split
  ·rfl
  exact zn7 r t u v h
theorem z0j(p:Nat×V->Bool)(hp:∀t v v',p (t,v)=p (t,v')):∀(e:Env)(t:Nat),get (e.filter p) t=get e t\/get (e.filter p) t=.undef
 |[],t=>.inl rfl
 |(u,x)::r,t=>by
  by_cases hu:u=t
  ·subst hu
   by_cases hx:p (u,x)=true
   ·simp[hx,get]
   refine .inr ?_;rw[List.filter_cons,if_neg hx]
   have:∀(r:Env),get (r.filter p) u=.undef:=by
    intro r;induction r with
    |nil=>rfl
    |cons y r ih=>
     obtain⟨a,b⟩:=y;rw[List.filter_cons]
     split
     ·rename_i hy;simp only[get]
      split
      ·rename_i e;subst e;exact absurd ((hp a b x).symm.trans hy) hx
      exact ih
     exact ih
   exact this r
  have ih:=z0j p hp r t;rw[List.filter_cons]
  split
  ·simp only[get,hu,if_false];exact ih
  simp only[get,hu,if_false];exact ih
theorem z2i(lv slot:Nat):∀(m:Mem)(i:Id)(o:Ob),look m i=some o->i.lv=lv->i.slot=slot->i.k<freeK lv slot m
 |[],i,o,h,_,_=>by simp[look]at h
 |(j,x)::r,i,o,h,h1,h2=>by
  simp only[look]at h
  split at h
  ·rename_i e;subst e;simp only[freeK,h1,h2,and_self,if_true];omega
  have:=z2i lv slot r i o h h1 h2;simp only[freeK];split<;>omega
theorem zed(cx:Cx)(slot:Nat)(m:Mem):look m (newId cx slot m)=none:=by
 cases h:look m (newId cx slot m)with
 |none=>rfl
 |some o=>exact absurd (z2i cx.lv slot m _ o h rfl rfl) (by simp[newId])
theorem zm9(v:Value)(b:Nat)(h:v.ownBlock=some b):blk v=some b:=by
 cases v<;>simp[Value.ownBlock]at h;rename_i a n c;cases a<;>simp at h;subst h;rfl
abbrev zel:=Nat->C->Code->Prop
def zc9(s:S)(e:Env)(tmps:Array Value):Prop:=∀t,VR s (get e t) (tmps.getD t undef)
def y0b:D->Prop
 |.int ..|.bool _|.str _|.agg _=>True
 |_=>False
def zq4(s:S):List (D×V)->List MapEntry->Prop
 |[],es=>es=[]
 |(k,v)::r,es=>∃e q,es=e::q/\y0b k/\DR s.w s.Im k e.key/\VR s v e.val/\zq4 s r q
def yqv(es:List (D×V)):Prop:=es.Pairwise λa b=>eqD a.1 b.1=some false/\eqD b.1 a.1=some false
def zut(s:S)(es:List (D×V))(q:List MapEntry):Prop:=zq4 s es q\/(yqv es/\(q.map (·.key)).Nodup/\∃q',q'.Perm q/\zq4 s es q')
def zu1:ymn->Code
 |.exit id=>.exit id
 |.ret=>.ret
def yhc(busy over:Bool):LoopState:=if busy then .busy else if over then .done else .ready
def zv7(ces:Array MapEntry)(clock:Nat):Prop:=(∀x∈ces.toList,x.born<clock)/\(ces.toList.map (·.born)).Nodup/\(ces.toList.map (·.key)).Nodup
def y0f(sz n:Nat)(ds ds':List D):Prop:=ds.length=n*sz/\ds'.length=n*sz/\(zmz sz n ds).Perm (zmz sz n ds')
def ObR(oc:zel)(s:S)(p:Value):Ob->Prop
 |.cells t cs=>∃b xs,p=.pointer (some ⟨b,0,none⟩)/\s.w.heap[b]?=some (.cells xs t (0,0))/\VRs s cs xs.toList/\∀j,¬s.Im b j
 |.row wr t sz n ds=>0<sz/\∃xs,s.w.ownsRow 0 t sz p n xs/\DRs s.w s.Im ds xs/\∀b,p.ownBlock=some b->∀j,s.Im b j↔(wr=false/\j<n*sz)
 |.map es=>∃b ces clock,p=.map (some b)/\s.w.heap[b]?=some (.map ces clock)/\zut s es ces.toList/\zv7 ces clock
 |.bag t sz n ds=>0<sz/\∃ds' xs,y0f sz n ds ds'/\s.w.ownsRow 0 t sz p n xs/\DRs s.w s.Im ds' xs/\∀b,p.ownBlock=some b->∀j,¬s.Im b j
 |.iter str pos=>∃b,p=.pointer (some ⟨b,0,none⟩)/\s.w.heap[b]?=some (.stringIter ⟨str.toArray⟩ pos)
 |.loop e ps a b _ busy over jump=>∃l L,p=.pointer (some ⟨l,0,none⟩)/\s.w.heap[l]?=some (.loop L)/\L.params=ps.toArray/\(∀t∈ps,t<L.tmps.size)/\zc9 s e L.tmps/\
   oc L.tmps.size a L.assign/\oc L.tmps.size b L.body/\L.state=yhc busy over/\L.pending=jump.map zu1
 |.gone=>True
def yy7(gl:Globs)(s:S):Prop:=∀g cs,(g,cs)∈gl->zxj s g/\cs≠[]/\∃arr t fz,s.w.heap[g]?=some (.cells arr t fz)/\arr.size=cs.length
theorem yy7.ext [Clk]{K:Id->Prop}{gl:Globs}{s s':S}(h:yy7 gl s)(hE:Ext K s s'):yy7 gl s':=λg cs hg=>by
 obtain⟨h1,h2,arr,t,fz,h3,h4⟩:=h g cs hg;obtain⟨k1,k2⟩:=hE.frame g (Array.getElem?_eq_some_iff.1 h3).1 h1;exact⟨k2,h2,arr,t,fz,k1.trans h3,h4⟩
structure Sim(oc:zel)(gl:Globs)(s:S):Prop where
 objs:∀i o,look s.m i=some o->ObR oc s (s.φ i) o
 apart:∀i j o o' b,i≠j->look s.m i=some o->look s.m j=some o'->o≠.gone->o'≠.gone->blk (s.φ i)=some b->blk (s.φ j)≠some b
 imlt:∀b j,s.Im b j->b<s.w.heap.size
 glob:∀g cs,(g,cs)∈gl->CR s.w s.Im g 0 cs
 tabs:yy7 gl s
theorem ObR.blk_lt{oc:zel}{s:S}{p:Value}{o:Ob}(h:ObR oc s p o)(hg:o≠.gone){b:Nat}(hb:blk p=some b):b<s.w.heap.size:=by
 cases o with
 |cells t cs=>
  obtain⟨b',xs,rfl,hh,_⟩:=h;simp[blk]at hb;subst hb;exact(Array.getElem?_eq_some_iff.1 hh).1
 |row wr t sz n ds=>
  obtain⟨_,xs,ho,_⟩:=h
  rcases ho.2 with⟨rfl,_⟩|⟨g,cap,cur,rfl,_,hh,_⟩
  ·simp[blk]at hb
  simp[blk]at hb;subst hb;exact(Array.getElem?_eq_some_iff.1 hh).1
 |map es=>
  obtain⟨b',ces,cl,rfl,hh,_⟩:=h;simp[blk]at hb;subst hb;exact(Array.getElem?_eq_some_iff.1 hh).1
 |bag t sz n ds=>
  obtain⟨_,ds',xs,_,ho,_⟩:=h
  rcases ho.2 with⟨rfl,_⟩|⟨g,cap,cur,rfl,_,hh,_⟩
  ·simp[blk]at hb
  simp[blk]at hb;subst hb;exact(Array.getElem?_eq_some_iff.1 hh).1
 |iter s p=>
  obtain⟨b',rfl,hh⟩:=h;simp[blk]at hb;subst hb;exact(Array.getElem?_eq_some_iff.1 hh).1
 |loop e ps a c lv bu ov j=>
  obtain⟨l,L,rfl,hh,_⟩:=h;simp[blk]at hb;subst hb;exact(Array.getElem?_eq_some_iff.1 hh).1
 |gone=>exact absurd rfl hg
theorem zq4.ext0{K:Id->Prop}{s s':S}(h:yec K s s'):∀(es:List (D×V))(q:List MapEntry),(∀i∈idsM es,K i)->zq4 s es q->zq4 s' es q
 |[],_,_,hm=>hm
 |(k,v)::r,_,hk,hm=>by
  obtain⟨e,q,hq,h1,h2,h3,h4⟩:=hm;exact⟨e,q,hq,h1,DR.ext h.im h.keep k _ h2,VR.ext0 h v _ (λi hi=>hk i (by simp[idsM,hi])) h3,zq4.ext0 h r q (λi hi=>hk i (by simp[idsM,hi])) h4⟩
theorem zut.ext0{K:Id->Prop}{s s':S}(h:yec K s s')(es:List (D×V))(q:List MapEntry)(hk:∀i∈idsM es,K i)(hm:zut s es q):zut s' es q:=by
 rcases hm with hm|⟨hd,hn,q',hp,hm⟩
 ·exact .inl (zq4.ext0 h es q hk hm)
 exact .inr ⟨hd,hn,q',hp,zq4.ext0 h es q' hk hm⟩
theorem zq4.len{s:S}:∀(es:List (D×V))(q:List MapEntry),zq4 s es q->es.length=q.length
 |[],q,h=>by simp only[zq4]at h;subst h;rfl
 |_::r,q,h=>by
  obtain⟨e,q1,rfl,_,_,_,h4⟩:=h;simp[zq4.len r q1 h4]
theorem zut.len{s:S}{es:List (D×V)}{q:List MapEntry}(h:zut s es q):es.length=q.length:=by
 rcases h with h|⟨_,_,q',hp,h⟩
 ·exact zq4.len es q h
 rw[zq4.len es q' h,hp.length_eq]
theorem zut.ext [Clk]{s s':S}(h:Ext (λ_=>True) s s')(es:List (D×V))(q:List MapEntry)(hm:zut s es q):zut s' es q:=zut.ext0 h.to0 es q (λ_ _=>trivial) hm
theorem zc9.ext0{K:Id->Prop}{s s':S}(h:yec K s s'){e:Env}{tmps:Array Value}(hk:∀t,∀i∈ids (get e t),K i)(he:zc9 s e tmps):zc9 s' e tmps:=
 λt=>VR.ext0 h _ _ (hk t) (he t)
theorem zc9.ext [Clk]{K:Id->Prop}{s s':S}(h:Ext K s s'){e:Env}{tmps:Array Value}(hk:∀t,∀i∈ids (get e t),K i)(he:zc9 s e tmps):zc9 s' e tmps:=
 λt=>VR.ext h _ _ (hk t) (he t)
theorem z9y:∀(e:Env)(t:Nat)(i:Id),i∈ids (get e t)->i∈ykz e
 |[],t,i,h=>by simp[get,ids]at h
 |(u,v)::r,t,i,h=>by
  simp only[get]at h
  split at h
  ·simp[ykz,h]
  simp[ykz,z9y r t i h]
theorem ObR.ext0{oc:zel}{K:Id->Prop}{s s':S}(h:yec K s s'){p:Value}{o:Ob}(hk:∀i∈idsO o,K i)(hb:∀b,blk p=some b->s'.w.heap[b]?=s.w.heap[b]? /\∀j,s'.Im b j->s.Im b j)
  (ho:ObR oc s p o):ObR oc s' p o:=by
 cases o with
 |cells t cs=>
  obtain⟨b,xs,rfl,hh,hv,hi⟩:=ho;obtain⟨h1,h2⟩:=hb b rfl;exact⟨b,xs,rfl,h1.trans hh,VRs.ext0 h cs _ hk hv,λj hj=>hi j (h2 j hj)⟩
 |row wr t sz n ds=>
  obtain⟨hz,xs,hown,hd,hi⟩:=ho
  refine⟨hz,xs,?_,DRs.ext h.im h.keep ds xs hd,λb hbb j=>?_⟩
  ·refine⟨hown.1,?_⟩
   rcases hown.2 with hn|⟨g,cap,cur,rfl,h0,hh,rest⟩
   ·exact .inl hn
   exact .inr ⟨g,cap,cur,rfl,h0,(hb g rfl).1.trans hh,rest⟩
  obtain⟨h1,h2⟩:=hb b (zm9 _ _ hbb);exact⟨λhj=>(hi b hbb j).1 (h2 j hj),λhj=>h.im _ _ ((hi b hbb j).2 hj)⟩
 |map es=>
  obtain⟨b,ces,cl,rfl,hh,hm,hst⟩:=ho;exact⟨b,ces,cl,rfl,(hb b rfl).1.trans hh,zut.ext0 h es _ hk hm,hst⟩
 |bag t sz n ds=>
  obtain⟨hz,ds',xs,hp,hown,hd,hi⟩:=ho
  refine⟨hz,ds',xs,hp,?_,DRs.ext h.im h.keep ds' xs hd,λb hbb j hj=>?_⟩
  ·refine⟨hown.1,?_⟩
   rcases hown.2 with hn|⟨g,cap,cur,rfl,h0,hh,rest⟩
   ·exact .inl hn
   exact .inr ⟨g,cap,cur,rfl,h0,(hb g rfl).1.trans hh,rest⟩
  obtain⟨h1,h2⟩:=hb b (zm9 _ _ hbb);exact hi b hbb j (h2 j hj)
 |iter str pos=>
  obtain⟨b,rfl,hh⟩:=ho;exact⟨b,rfl,(hb b rfl).1.trans hh⟩
 |loop e ps a c lv bu ov j=>
  obtain⟨l,L,rfl,hh,h1,h2,h3,h4⟩:=ho;exact⟨l,L,rfl,(hb l rfl).1.trans hh,h1,h2,zc9.ext0 h (λt i hi=>hk i (z9y e t i hi)) h3,h4⟩
 |gone=>trivial
theorem ObR.ext [Clk]{oc:zel}{s s':S}(h:Ext (λ_=>True) s s'){p:Value}{o:Ob}(hb:∀b,blk p=some b->s'.w.heap[b]?=s.w.heap[b]? /\∀j,s'.Im b j->s.Im b j)
  (ho:ObR oc s p o):ObR oc s' p o:=ObR.ext0 h.to0 (λ_ _=>trivial) hb ho
theorem Sim.change [Clk]{oc:zel}{gl:Globs}{s:S}(hs:Sim oc gl s)(i:Id)(o':Ob)(p':Value)(w':World)(Im':Nat->Nat->Prop)
  (hos:w'.os=s.w.os)(htape:Tk s.w w')(hout:w'.output=s.w.output)(hsize:s.w.heap.size<=w'.heap.size)
  (hheap:∀b,b<s.w.heap.size->((∃o,look s.m i=some o/\o≠.gone)->blk (s.φ i)≠some b)->w'.heap[b]?=s.w.heap[b]?)
  (him:∀b j,s.Im b j->Im' b j)(hkeep:∀b j,s.Im b j->w'.cell? ⟨b,j,none⟩=s.w.cell? ⟨b,j,none⟩)
  (hnew:∀b j,Im' b j->s.Im b j\/blk p'=some b)(hlt:∀b j,Im' b j->b<w'.heap.size)
  (hp:∀b,blk p'=some b->s.w.heap.size<=b\/(∃o,look s.m i=some o/\o≠.gone)/\blk (s.φ i)=some b)
  (ht:∀o,look s.m i=some o->zbd o o' (s.φ i) p')
  (ho:Ext (λ_=>True) s ⟨λk=>if i=k then p' else s.φ k,upd s.m i o',w',Im'⟩->ObR oc ⟨λk=>if i=k then p' else s.φ k,upd s.m i o',w',Im'⟩ p' o'):
  Sim oc gl ⟨λk=>if i=k then p' else s.φ k,upd s.m i o',w',Im'⟩/\Ext (λ_=>True) s ⟨λk=>if i=k then p' else s.φ k,upd s.m i o',w',Im'⟩:=by
 have hE:Ext (λ_=>True) s ⟨λk=>if i=k then p' else s.φ k,upd s.m i o',w',Im'⟩:=by
  refine⟨hos,htape,hout,hsize,λb hb hf=>⟨?_,?_⟩,λb j hi=>?_,him,hkeep,λk o _ hk=>?_⟩
  ·exact hheap b hb λ⟨o,h1,h2⟩=>hf i o h1 h2
  ·intro k o hk hg;simp only[zkg]at hk
   split at hk
   ·rename_i e;subst e;simp only[if_true];intro hb'
    rcases hp b hb' with h1|⟨⟨o,h1,h2⟩,h3⟩
    ·omega
    exact hf i o h1 h2 h3
   rename_i e;simp only[e,if_false];exact hf k o hk hg
  ·rcases hnew b j hi with h1|h1
   ·exact .inl h1
   rcases hp b h1 with h2|⟨⟨o,h2,h3⟩,h4⟩
   ·exact .inr (.inl h2)
   exact .inr (.inr λhf=>hf i o h2 h3 h4)
  simp only[zkg]
  by_cases e:i=k
  ·subst e;simp only[if_true];exact⟨o',rfl,ht o hk⟩
  simp only[e,if_false];exact⟨o,hk,zbd.refl _ _⟩
 refine⟨⟨λk o hk=>?_,λa b x y c hab ha hb hx hy hc=>?_,hlt,λg cs hg=>CR.ext him hkeep g 0 cs (hs.glob g cs hg),hs.tabs.ext hE⟩,hE⟩
 ·simp only[zkg]at hk
  by_cases e:i=k
  ·subst e;simp only[if_true]at hk⊢;obtain rfl:=Option.some.inj hk;exact ho hE
  simp only[e,if_false]at hk⊢
  by_cases hg:o=.gone
  ·subst hg;trivial
  refine ObR.ext hE (λb hb=>?_) (hs.objs k o hk);have hbl:=(hs.objs k o hk).blk_lt hg hb;have hne:(∃o,look s.m i=some o/\o≠.gone)->blk (s.φ i)≠some b:=λ⟨x,h1,h2⟩h3=>hs.apart i k x o b e h1 hk h2 hg h3 hb
  refine⟨hheap b hbl hne,λj hj=>?_⟩
  rcases hnew b j hj with h1|h1
  ·exact h1
  rcases hp b h1 with h2|⟨h2,h3⟩
  ·omega
  exact absurd h3 (hne h2)
 simp only[zkg]at ha hb
 by_cases e:i=a
 ·subst e;have e':i≠b:=hab;simp only[e',if_false]at hb;simp only[if_true]at ha hc;simp only[e',if_false];intro h
  rcases hp c hc with h2|⟨⟨o,h2,h3⟩,h4⟩
  ·exact absurd ((hs.objs b y hb).blk_lt hy h) (by omega)
  exact hs.apart i b o y c hab h2 hb h3 hy h4 h
 simp only[e,if_false]at ha hc
 by_cases e':i=b
 ·subst e';simp only[if_true]at hb⊢;intro h
  rcases hp c h with h2|⟨⟨o,h2,h3⟩,h4⟩
  ·exact absurd ((hs.objs a x ha).blk_lt hx hc) (by omega)
  exact hs.apart a i x o c hab ha h2 hx h3 hc h4
 simp only[e',if_false]at hb⊢;exact hs.apart a b x y c hab ha hb hx hy hc
theorem Sim.calm [Clk]{oc:zel}{gl:Globs}{s:S}(hs:Sim oc gl s)(w':World)(Im':Nat->Nat->Prop)
  (hos:w'.os=s.w.os)(htape:Tk s.w w')(hout:w'.output=s.w.output)(hsize:s.w.heap.size<=w'.heap.size)
  (hheap:∀b,b<s.w.heap.size->w'.heap[b]?=s.w.heap[b]?)(him:∀b j,s.Im b j->Im' b j)(hnew:∀b j,Im' b j->s.Im b j\/s.w.heap.size<=b)(hlt:∀b j,Im' b j->b<w'.heap.size):
  Sim oc gl ⟨s.φ,s.m,w',Im'⟩/\Ext (λ_=>True) s ⟨s.φ,s.m,w',Im'⟩:=by
 have hkeep:∀b j,s.Im b j->w'.cell? ⟨b,j,none⟩=s.w.cell? ⟨b,j,none⟩:=λb j hi=>World.cell?_of_block (hheap b (hs.imlt b j hi))
 have hE:Ext (λ_=>True) s ⟨s.φ,s.m,w',Im'⟩:=
  ⟨hos,htape,hout,hsize,λb hb hf=>⟨hheap b hb,hf⟩,λb j hi=>(hnew b j hi).imp id .inl,him,hkeep,λk o _ hk=>⟨o,hk,zbd.refl _ _⟩⟩
 refine⟨⟨λk o hk=>?_,hs.apart,hlt,λg cs hg=>CR.ext him hkeep g 0 cs (hs.glob g cs hg),hs.tabs.ext hE⟩,hE⟩
 by_cases hg:o=.gone
 ·subst hg;trivial
 refine ObR.ext hE (λb hb=>?_) (hs.objs k o hk);have hbl:=(hs.objs k o hk).blk_lt hg hb;refine⟨hheap b hbl,λj hj=>?_⟩
 rcases hnew b j hj with h1|h1
 ·exact h1
 omega
end Go.Evl
namespace Go.Evl
open Go.RowKit
def zrh:Value->Bool
 |.slice none 0 0=>true
 |_=>false
mutual
def zk2:D->Value->Bool
 |.int l b,v=>(match v with|.int k a=>decide (k=l)&&decide (a=b)|_=>false)
 |.bool b,v=>(match v with|.bool a=>a==b|_=>false)
 |.str l,v=>(match v with|.string s=>s.data.toList==l|_=>false)
 |.list m cs,v=>(match v with|.slice a n c=>a.isNone&&n==0&&c==0&&m==0&&cs.isEmpty|_=>false)
 |.nil,v=>(match v with|.slice _ n c=>n==0&&c==0|_=>false)
 |.nilp,v=>(match v with|.pointer a=>a.isNone|_=>false)
 |.nilf,v=>(match v with|.nilFunc=>true|_=>false)
 |.nili,v=>(match v with|.nilIface=>true|_=>false)
 |.ifc _,_=>false
 |.nilm,v=>(match v with|.map a=>a.isNone|_=>false)
 |.fn _,_=>false
 |.agg cs,v=>(match v with|.agg xs=>zs0 cs xs.toList|_=>false)
def zs0:List D->List Value->Bool
 |[],xs=>xs.isEmpty
 |d::q,xs=>(match xs with|x::r=>x.oneCell'&&zk2 d x&&zs0 q r|[]=>false)
end
mutual
theorem zt5(w:World)(Im:Nat->Nat->Prop):∀(d:D)(v:Value),zk2 d v=true->DR w Im d v
 |.int k a,v,h=>by
  cases v<;>simp only[zk2,Bool.false_eq_true]at h;simp at h;obtain⟨rfl,rfl⟩:=h;rfl
 |.bool a,v,h=>by
  cases v<;>simp only[zk2,Bool.false_eq_true]at h;simp at h;subst h;rfl
 |.str l,v,h=>by
  cases v<;>simp only[zk2,Bool.false_eq_true]at h;rename_i b;cases b;simp at h;subst h;simp[DR]
 |.nil,v,h=>by
  cases v<;>simp only[zk2,Bool.false_eq_true]at h;simp at h;obtain⟨rfl,rfl⟩:=h;exact⟨_,rfl⟩
 |.list m cs,v,h=>by
  cases v<;>simp only[zk2,Bool.false_eq_true]at h;simp at h;obtain⟨⟨⟨⟨h1,rfl⟩,rfl⟩,rfl⟩,rfl⟩:=h;exact⟨_,_,rfl,Nat.le_refl _,.inl ⟨rfl,rfl⟩⟩
 |.nilp,v,h=>by
  cases v<;>simp only[zk2,Bool.false_eq_true]at h;simp at h;subst h;rfl
 |.nilf,v,h=>by cases v<;>simp only[zk2,Bool.false_eq_true]at h;rfl
 |.nili,v,h=>by cases v<;>simp only[zk2,Bool.false_eq_true]at h;rfl
 |.ifc _,v,h=>by simp[zk2]at h
 |.fn _,v,h=>by simp[zk2]at h
 |.nilm,v,h=>by
  cases v<;>simp only[zk2,Bool.false_eq_true]at h;simp at h;subst h;rfl
 |.agg cs,v,h=>by
  cases v<;>simp only[zk2,Bool.false_eq_true]at h;exact⟨_,rfl,zym w Im cs _ h⟩
theorem zym(w:World)(Im:Nat->Nat->Prop):∀(cs:List D)(xs:List Value),zs0 cs xs=true->DRs w Im cs xs
 |[],xs,h=>by
  cases xs
  ·rfl
  simp[zs0]at h
 |d::q,xs,h=>by
  cases xs
  ·simp[zs0]at h
  simp only[zs0,Bool.and_eq_true]at h;exact⟨_,_,rfl,h.1.1,zt5 w Im d _ h.1.2,zym w Im q _ h.2⟩
end
def okX(gl:Globs):Operand->Opd->Bool
 |.tmp a,.t b=>a==b
 |.const v,.k (.d d)=>zk2 d v
 |.func f,.k (.fn g a b)=>f==g&&a.isEmpty&&b.isEmpty
 |.global g,.k (.lptr cs off)=>off==0&&gl.any λp=>p.1==g&&zl6 p.2 cs
 |_,_=>false
def yog(gl:Globs):List Operand->List Opd->Bool
 |[],[]=>true
 |a::r,x::q=>okX gl a x&&yog gl r q
 |_,_=>false
def okX?(gl:Globs):Option Operand->Option Opd->Bool
 |none,none=>true
 |some a,some x=>okX gl a x
 |_,_=>false
def yrr(x:Operand):Bool:=
 match x with
 |.const v=>zrh v
 |_=>false
def zwd:List Value->List yen->Bool
 |[],[]=>true
 |v::r,.z d::q=>v.oneCell'&&zk2 d v&&zwd r q
 |v::r,.own s::q=>zrh v&&decide (0<s.sz)&&zwd r q
 |_,_=>false
def zq2(P:Program)(t:TypeId):Option Nat:=(P.info? t).map (·.size)
def z60(P:Program)(t:TypeId):Option (List Value):=((P.info? t).bind (·.zero)).map (·.cells.toList)
def z62(P:Program)(t:TypeId):Option Bool:=(P.underlying t).map λ|.struct _|.array _ _=>true|_=>false
def zti(P:Program)(t:TypeId)(n:Option Nat):Bool:=
 match n with
 |none=>z62 P t==some false
 |some k=>z62 P t==some true&&zq2 P t==some k
def zrm(P:Program)(t:TypeId):Option TypeId:=
 match P.underlying t with
 |some (.slice e)=>some e
 |_=>none
def ytf(P:Program)(e:TypeId)(r:zd6):Bool:=
 r.t==e&&decide (0<r.sz)&&(match P.info? e with
  |some i=>i.size==r.sz&&i.bytes==r.by_&&(match i.zero with|some z=>z.cells.size==r.sz|none=>false)
  |none=>false)
def z0o(gl:Globs)(place:Nat->Option (Nat×Nat)):List (Nat×Operand)->List (Nat×Nat×Opd)->Bool
 |[],[]=>true
 |(i,a)::r,(off,n,x)::q=>(place i==some (off,n))&&okX gl a x&&z0o gl place r q
 |_,_=>false
def yt5(P:Program)(t:TypeId):Option (Nat->Option (Nat×Nat)):=
 match P.underlying t with
 |some (.array _ e)=>(P.info? e).map λi=>λj=>some (j*i.size,i.size)
 |some (.struct fs)=>(fs.toList.mapM λf=>(P.info? f.type).map λi=>(f.offset,i.size)).map λl=>λj=>l.toArray[j]?
 |_=>none
def z0m(gl:Globs)(i:Nat):List (Nat×Operand)->List Opd->Bool
 |[],[]=>true
 |(j,a)::r,x::q=>j==i&&okX gl a x&&z0m gl (i+1) r q
 |_,_=>false
theorem zbg{oc:zel}{gl:Globs}{s:S}(hs:Sim oc gl s){e:Env}{A:Act}(he:zc9 s e A.tmps){a:Operand}{x:Opd}(h:okX gl a x=true):VR s (x.ev e) (A.eval a):=by
 cases a<;>cases x<;>simp[okX]at h
 ·subst h;exact he _
 ·rename_i v y;cases y<;>simp at h;exact zt5 _ _ _ _ h
 ·rename_i g y;cases y<;>simp at h;obtain⟨rfl,g',cs',h1,rfl,h3⟩:=h;obtain rfl:=zgc _ _ h3;exact⟨_,0,rfl,hs.glob _ _ h1⟩
 rename_i f y;cases y<;>simp at h;obtain⟨⟨rfl,rfl⟩,rfl⟩:=h;exact⟨#[],#[],rfl,rfl,rfl⟩
theorem zui{oc:zel}{gl:Globs}{s:S}(hs:Sim oc gl s){e:Env}{A:Act}(he:zc9 s e A.tmps):∀(az:List Operand)(xs:List Opd),yog gl az xs=true->VRt s (evs e xs) (az.map A.eval)
 |[],[],_=>rfl
 |[],_::_,h=>by simp[yog]at h
 |_::_,[],h=>by simp[yog]at h
 |a::r,x::q,h=>by
  simp only[yog,Bool.and_eq_true]at h;exact⟨_,_,rfl,zbg hs he h.1,zui hs he r q h.2⟩
def ze9 [Clk](P:Program)(oc:zel)(gl:Globs)(s:S)(A:Act)(o:Oper)(v:V)(m':Mem):Prop:=
 ∃(s':S)(x:Value),(execOp A.eval o).run P s.w=.ok (.value x) s'.w/\Sim oc gl s'/\Ext (λ_=>True) s s'/\s'.m=m'/\VR s' v x
def ybf [Clk](P:Program)(oc:zel)(gl:Globs)(s:S)(A:Act)(o:Oper)(m':Mem):Prop:=
 ∃s':S,(execOp A.eval o).run P s.w=.ok .skip s'.w/\Sim oc gl s'/\Ext (λ_=>True) s s'/\s'.m=m'
section
variable{P:Program}{oc:zel}{gl:Globs}{s:S}{A:Act}{o:Oper}{e:Env}
theorem zbq [Clk](hs:Sim oc gl s){v:V}{x:Value}(hr:(execOp A.eval o).run P s.w=.ok (.value x) s.w)(hv:VR s v x):ze9 P oc gl s A o v s.m:=
 ⟨s,x,hr,hs,Ext.refl _ _,rfl,hv⟩
def zjl [Clk](P:Program)(s:S)(A:Act)(o:Oper)(v:V):Prop:=∃x:Value,(execOp A.eval o).run P s.w=.ok (.value x) s.w/\VR s v x
theorem zjl.mk [Clk]{v:V}{x:Value}(hr:(execOp A.eval o).run P s.w=.ok (.value x) s.w)(hv:VR s v x):zjl P s A o v:=⟨x,hr,hv⟩
theorem zjl.to [Clk](hs:Sim oc gl s){v:V}(h:zjl P s A o v):ze9 P oc gl s A o v s.m:=by
 obtain⟨x,hr,hv⟩:=h;exact zbq hs hr hv
theorem VR.one{v:V}{x:Value}{cs:List V}(h:VR s v x)(hc:cellsOf v=some cs):VRs s cs x.cells.toList:=by
 have asD:∀(ds:List D)(xs:List Value),DRs s.w s.Im ds xs->VRs s (asV ds) xs:=by
  intro ds;induction ds with
  |nil=>intro xs h;exact h
  |cons d r ih=>
   intro xs h;obtain⟨x,ys,h1,h2,h3,h4⟩:=h;exact⟨x,ys,h1,h2,h3,ih _ h4⟩
 cases v with
 |d d=>
  cases d with
  |agg ds=>
   simp[cellsOf]at hc;subst hc;obtain⟨xs,rfl,h⟩:=h;exact asD _ _ h
  |int k n=>simp[cellsOf]at hc;subst hc;obtain rfl:=h;exact⟨_,_,rfl,rfl,rfl,rfl⟩
  |bool b=>simp[cellsOf]at hc;subst hc;obtain rfl:=h;exact⟨_,_,rfl,rfl,rfl,rfl⟩
  |str b=>simp[cellsOf]at hc;subst hc;obtain rfl:=h;exact⟨_,_,rfl,rfl,rfl,rfl⟩
  |nil=>simp[cellsOf]at hc;subst hc;obtain⟨a,rfl⟩:=h;exact⟨_,_,rfl,rfl,⟨a,rfl⟩,rfl⟩
  |list n l=>simp[cellsOf]at hc;subst hc;obtain⟨a,c,rfl,h⟩:=h;exact⟨_,_,rfl,rfl,⟨a,c,rfl,h⟩,rfl⟩
  |nilp=>simp[cellsOf]at hc;subst hc;obtain rfl:=h;exact⟨_,_,rfl,rfl,rfl,rfl⟩
  |nilf=>simp[cellsOf]at hc;subst hc;obtain rfl:=h;exact⟨_,_,rfl,rfl,rfl,rfl⟩
  |nili=>simp[cellsOf]at hc;subst hc;obtain rfl:=h;exact⟨_,_,rfl,rfl,rfl,rfl⟩
  |ifc b=>simp[cellsOf]at hc;subst hc;rcases h with⟨h0,rfl⟩|⟨te,pe,rfl⟩;exact⟨_,_,rfl,rfl,.inl ⟨h0,rfl⟩,rfl⟩;exact⟨_,_,rfl,rfl,.inr ⟨te,pe,rfl⟩,rfl⟩
  |nilm=>simp[cellsOf]at hc;subst hc;obtain rfl:=h;exact⟨_,_,rfl,rfl,rfl,rfl⟩
  |fn f=>simp[cellsOf]at hc;subst hc;obtain rfl:=h;exact⟨_,_,rfl,rfl,rfl,rfl⟩
 |agg l=>
  simp[cellsOf]at hc;subst hc;obtain⟨xs,rfl,h⟩:=h;exact h
 |tup l=>simp[cellsOf]at hc
 |skip=>simp[cellsOf]at hc
 |undef=>simp[cellsOf]at hc
 |ref o a b c=>
  simp[cellsOf]at hc;subst hc;have h1:=h.1;refine⟨x,[],?_,h1,h,rfl⟩;cases x<;>simp[Evl.one,Value.oneCell']at h1<;>rfl
 |ptr o a b=>
  simp[cellsOf]at hc;subst hc;have h1:=h.1;refine⟨x,[],?_,h1,h,rfl⟩;cases x<;>simp[Evl.one,Value.oneCell']at h1<;>rfl
 |yld o=>
  simp[cellsOf]at hc;subst hc;have h1:=h.1;refine⟨x,[],?_,h1,h,rfl⟩;cases x<;>simp[Evl.one,Value.oneCell']at h1<;>rfl
 |mp o=>
  simp[cellsOf]at hc;subst hc;have h1:=h.1;refine⟨x,[],?_,h1,h,rfl⟩;cases x<;>simp[Evl.one,Value.oneCell']at h1<;>rfl
 |it o=>
  simp[cellsOf]at hc;subst hc;have h1:=h.1;refine⟨x,[],?_,h1,h,rfl⟩;cases x<;>simp[Evl.one,Value.oneCell']at h1<;>rfl
 |lptr l off=>
  simp[cellsOf]at hc;subst hc;obtain⟨b,o,rfl,h⟩:=h;exact⟨_,[],rfl,rfl,⟨b,o,rfl,h⟩,rfl⟩
 |cl n l=>
  simp[cellsOf]at hc;subst hc;obtain⟨ad,rfl,h⟩:=h;exact⟨_,[],rfl,rfl,⟨ad,rfl,h⟩,rfl⟩
 |fn f a b=>
  simp[cellsOf]at hc;subst hc;obtain⟨xs,ys,rfl,h⟩:=h;exact⟨_,[],rfl,rfl,⟨xs,ys,rfl,h⟩,rfl⟩
theorem VRs.asV:∀(ds:List D)(xs:List Value),DRs s.w s.Im ds xs->VRs s (asV ds) xs
 |[],_,h=>h
 |_::r,_,⟨x,ys,h1,h2,h3,h4⟩=>⟨x,ys,h1,h2,h3,VRs.asV r _ h4⟩
theorem VRs.length:∀(cs:List V)(xs:List Value),VRs s cs xs->cs.length=xs.length
 |[],_,h=>by simp only[VRs]at h;subst h;rfl
 |_::r,_,⟨x,ys,h1,_,_,h4⟩=>by subst h1;simp[VRs.length r ys h4]
theorem DRs.length{w:World}{Im:Nat->Nat->Prop}:∀(cs:List D)(xs:List Value),DRs w Im cs xs->cs.length=xs.length
 |[],_,h=>by simp only[DRs]at h;subst h;rfl
 |_::r,_,⟨x,ys,h1,_,_,h4⟩=>by subst h1;simp[DRs.length r ys h4]
theorem VRs.ones:∀(cs:List V)(xs:List Value),VRs s cs xs->∀v∈xs,v.oneCell'=true
 |[],_,h=>by simp only[VRs]at h;subst h;simp
 |_::r,_,⟨x,ys,h1,h2,_,h4⟩=>by
  subst h1;intro v hv
  rcases List.mem_cons.1 hv with rfl|hv
  ·exact h2
  exact VRs.ones r ys h4 v hv
theorem DRs.ones{w:World}{Im:Nat->Nat->Prop}:∀(cs:List D)(xs:List Value),DRs w Im cs xs->∀v∈xs,v.oneCell'=true
 |[],_,h=>by simp only[DRs]at h;subst h;simp
 |_::r,_,⟨x,ys,h1,h2,_,h4⟩=>by
  subst h1;intro v hv
  rcases List.mem_cons.1 hv with rfl|hv
  ·exact h2
  exact DRs.ones r ys h4 v hv
theorem VRs.append:∀(a:List V)(x:List Value)(b:List V)(y:List Value),VRs s a x->VRs s b y->VRs s (a++b) (x++y)
 |[],_,b,y,h,k=>by simp only[VRs]at h;subst h;exact k
 |_::r,_,b,y,⟨x,ys,h1,h2,h3,h4⟩,k=>by subst h1;exact⟨x,ys++y,rfl,h2,h3,VRs.append r ys b y h4 k⟩
theorem DRs.append{w:World}{Im:Nat->Nat->Prop}:∀(a:List D)(x:List Value)(b:List D)(y:List Value),DRs w Im a x->DRs w Im b y->DRs w Im (a++b) (x++y)
 |[],_,b,y,h,k=>by simp only[DRs]at h;subst h;exact k
 |_::r,_,b,y,⟨x,ys,h1,h2,h3,h4⟩,k=>by subst h1;exact⟨x,ys++y,rfl,h2,h3,DRs.append r ys b y h4 k⟩
theorem VRs.drop:∀(n:Nat)(a:List V)(x:List Value),VRs s a x->VRs s (a.drop n) (x.drop n)
 |0,_,_,h=>h
 |n+1,[],_,h=>by simp only[VRs]at h;subst h;rfl
 |n+1,_::r,_,⟨x,ys,h1,_,_,h4⟩=>by subst h1;exact VRs.drop n r ys h4
theorem VRs.take:∀(n:Nat)(a:List V)(x:List Value),VRs s a x->VRs s (a.take n) (x.take n)
 |0,_,_,_=>rfl
 |n+1,[],_,h=>by simp only[VRs]at h;subst h;rfl
 |n+1,_::r,_,⟨x,ys,h1,h2,h3,h4⟩=>by subst h1;exact⟨x,ys.take n,rfl,h2,h3,VRs.take n r ys h4⟩
theorem DRs.drop{w:World}{Im:Nat->Nat->Prop}:∀(n:Nat)(a:List D)(x:List Value),DRs w Im a x->DRs w Im (a.drop n) (x.drop n)
 |0,_,_,h=>h
 |n+1,[],_,h=>by simp only[DRs]at h;subst h;rfl
 |n+1,_::r,_,⟨x,ys,h1,_,_,h4⟩=>by subst h1;exact DRs.drop n r ys h4
theorem DRs.take{w:World}{Im:Nat->Nat->Prop}:∀(n:Nat)(a:List D)(x:List Value),DRs w Im a x->DRs w Im (a.take n) (x.take n)
 |0,_,_,_=>rfl
 |n+1,[],_,h=>by simp only[DRs]at h;subst h;rfl
 |n+1,_::r,_,⟨x,ys,h1,h2,h3,h4⟩=>by subst h1;exact⟨x,ys.take n,rfl,h2,h3,DRs.take n r ys h4⟩
theorem VRs.at:∀(a:List V)(x:List Value)(n:Nat)(v:V),VRs s a x->a[n]?=some v->∃y,x[n]?=some y/\Evl.one y/\VR s v y
 |[],_,_,_,_,h=>by simp at h
 |_::r,_,0,v,⟨x,ys,h1,h2,h3,h4⟩,h=>by
  simp at h;subst h;subst h1;exact⟨x,rfl,h2,h3⟩
 |_::r,_,n+1,v,⟨x,ys,h1,h2,h3,h4⟩,h=>by
  simp at h;subst h1;simpa using VRs.at r ys n v h4 h
theorem VRt.at:∀(a:List V)(x:List Value)(n:Nat)(v:V),VRt s a x->a[n]?=some v->∃y,x[n]?=some y/\VR s v y
 |[],_,_,_,_,h=>by simp at h
 |_::r,_,0,v,⟨x,ys,h1,h3,h4⟩,h=>by
  simp at h;subst h;subst h1;exact⟨x,rfl,h3⟩
 |_::r,_,n+1,v,⟨x,ys,h1,h3,h4⟩,h=>by
  simp at h;subst h1;simpa using VRt.at r ys n v h4 h
theorem CR.at{w:World}{Im:Nat->Nat->Prop}{b:Nat}:∀(cs:List D)(o n:Nat)(d:D),CR w Im b o cs->cs[n]?=some d->Im b (o+n)/\∃x,w.cell? ⟨b,o+n,none⟩=some x/\Evl.one x/\DR w Im d x
 |[],_,_,_,_,h=>by simp at h
 |_::r,o,0,d,⟨h1,h2,h3⟩,h=>by simp at h;subst h;exact⟨h1,h2⟩
 |_::r,o,n+1,d,⟨h1,h2,h3⟩,h=>by
  simp at h;have:=CR.at r (o+1) n d h3 h
  rwa[show o+1+n=o+(n+1)by omega]at this
theorem CR.drop{w:World}{Im:Nat->Nat->Prop}{b:Nat}:∀(n:Nat)(cs:List D)(o:Nat),CR w Im b o cs->CR w Im b (o+n) (cs.drop n)
 |0,_,_,h=>h
 |n+1,[],_,_=>trivial
 |n+1,_::r,o,⟨_,_,h3⟩=>by
  have:=CR.drop n r (o+1) h3
  rwa[show o+1+n=o+(n+1)by omega]at this
theorem CR.take{w:World}{Im:Nat->Nat->Prop}{b:Nat}:∀(n:Nat)(cs:List D)(o:Nat),CR w Im b o cs->CR w Im b o (cs.take n)
 |0,_,_,_=>trivial
 |_+1,[],_,_=>trivial
 |n+1,_::r,o,⟨h1,h2,h3⟩=>⟨h1,h2,CR.take n r (o+1) h3⟩
theorem CR.cells{w:World}{Im:Nat->Nat->Prop}{b:Nat}:∀(cs:List D)(o:Nat),CR w Im b o cs->∃xs,DRs w Im cs xs/\∀j v,xs[j]?=some v->w.cell? ⟨b,o+j,none⟩=some v
 |[],_,_=>⟨[],rfl,by simp⟩
 |d::r,o,⟨_,⟨x,h2,h3,h4⟩,h5⟩=>by
  obtain⟨xs,k1,k2⟩:=CR.cells r (o+1) h5;refine⟨x::xs,⟨x,xs,rfl,h3,h4,k1⟩,λj v hj=>?_⟩;cases j with
  |zero=>simp at hj;subst hj;exact h2
  |succ j=>
   simp at hj;have:=k2 j v hj
   rwa[show o+1+j=o+(j+1)by omega]at this
theorem CR.mk{w:World}{Im:Nat->Nat->Prop}{b:Nat}:∀(cs:List D)(xs:List Value)(o:Nat),DRs w Im cs xs->(∀j v,xs[j]?=some v->w.cell? ⟨b,o+j,none⟩=some v)->(∀j,j<xs.length->Im b (o+j))->CR w Im b o cs
 |[],_,_,_,_,_=>trivial
 |d::r,_,o,⟨x,ys,h1,h2,h3,h4⟩,hc,hi=>by
  subst h1
  refine⟨hi 0 (by simp),⟨x,hc 0 x rfl,h2,h3⟩,CR.mk r ys (o+1) h4 (λj v hj=>?_) (λj hj=>?_)⟩
  ·have:=hc (j+1) v (by simpa using hj)
   rwa[show o+(j+1)=o+1+j by omega]at this
  have:=hi (j+1) (by simpa using hj)
  rwa[show o+(j+1)=o+1+j by omega]at this
theorem ymu:∀(cs:List V)(ds:List D)(xs:List Value),zvj cs=some ds->VRs s cs xs->DRs s.w s.Im ds xs
 |[],ds,xs,h,hv=>by simp[zvj]at h;subst h;exact hv
 |.d x::r,ds,xs,h,hv=>by
  simp only[zvj,Option.map_eq_some_iff]at h;obtain⟨ds',h1,rfl⟩:=h;obtain⟨y,ys,k1,k2,k3,k4⟩:=hv;exact⟨y,ys,k1,k2,k3,ymu r ds' ys h1 k4⟩
 |.agg _::_,_,_,h,_=>by simp[zvj]at h
 |.tup _::_,_,_,h,_=>by simp[zvj]at h
 |.ref ..::_,_,_,h,_=>by simp[zvj]at h
 |.ptr ..::_,_,_,h,_=>by simp[zvj]at h
 |.lptr ..::_,_,_,h,_=>by simp[zvj]at h
 |.cl ..::_,_,_,h,_=>by simp[zvj]at h
 |.fn ..::_,_,_,h,_=>by simp[zvj]at h
 |.yld _::_,_,_,h,_=>by simp[zvj]at h
 |.mp _::_,_,_,h,_=>by simp[zvj]at h
 |.it _::_,_,_,h,_=>by simp[zvj]at h
 |.skip::_,_,_,h,_=>by simp[zvj]at h
 |.undef::_,_,_,h,_=>by simp[zvj]at h
theorem yi3{cs:List V}{xs:Array Value}(h:VRs s cs xs.toList):VR s (yf0 cs) (.agg xs):=by
 unfold yf0;cases hd:zvj cs with
 |none=>exact⟨xs,rfl,h⟩
 |some ds=>exact⟨xs,rfl,ymu cs ds _ hd h⟩
end
end Go.Evl
namespace Go.Evl
open Go.RowKit
section
variable{P:Program}{oc:zel}{gl:Globs}{s:S}{A:Act}{o:Oper}{e:Env}
theorem yir{a:Operand}(h:yrr a=true)(A:Act):A.eval a=.slice none 0 0:=by
 cases a<;>simp[yrr]at h;rename_i v;cases v<;>simp[zrh]at h;rename_i p n c;cases p<;>cases n<;>cases c<;>simp at h
 rfl
theorem z78 [Clk](hs:Sim oc gl s)(i:Id)(hi:look s.m i=none)(r:zd6)(hz:0<r.sz):
  Sim oc gl ⟨λk=>if i=k then .slice none 0 0 else s.φ k,upd s.m i (.row r.wr r.t r.sz 0 []),s.w,s.Im⟩/\
  Ext (λ_=>True) s ⟨λk=>if i=k then .slice none 0 0 else s.φ k,upd s.m i (.row r.wr r.t r.sz 0 []),s.w,s.Im⟩:=
 hs.change i _ _ s.w s.Im rfl Tk.of rfl (Nat.le_refl _) (λ_ _ _=>rfl) (λ_ _ h=>h) (λ_ _ _=>rfl) (λ_ _ h=>.inl h) hs.imlt
  (λb h=>by simp[blk]at h) (λo h=>by rw[hi]at h;cases h)
  (λ_=>⟨hz,[],World.ownsRow_nil _ _ _ _,rfl,λb h=>by simp[Value.ownBlock]at h⟩)
theorem zji(s:S)(i:Id)(p:Value)(hp:one p)(wr:Bool)(t sz n:Nat)(xs:List D)(w:World)(Im:Nat->Nat->Prop)(φ:Id->Value)(hφ:φ i=p):
  VR ⟨φ,upd s.m i (.row wr t sz n xs),w,Im⟩ (.ref i 0 n n) p:=by
 refine⟨hp,?_⟩;show yme (φ i) 0 n n p (look (upd s.m i (.row wr t sz n xs)) i);rw[zbh,hφ];exact⟨Nat.le_refl _,λ_=>.inl ⟨rfl,rfl,rfl⟩⟩
def yw6(gl:Globs)(o:Oper)(x:Opd):Bool:=
 match o.op with
 |.move a=>okX gl a x
 |.assign a=>okX gl a x
 |_=>false
theorem ygv [Clk](hs:Sim oc gl s)(he:zc9 s e A.tmps){x:Opd}(ok:yw6 gl o x=true):zjl P s A o (x.ev e):=by
 unfold yw6 at ok
 split at ok<;>try cases ok
 ·rename_i a ho;exact zjl.mk (x:=A.eval a) (by simp only[execOp,ho];rfl) (zbg hs he ok)
 rename_i a ho;exact zjl.mk (x:=A.eval a) (by simp only[execOp,ho];rfl) (zbg hs he ok)
theorem ytd [Clk](hs:Sim oc gl s)(he:zc9 s e A.tmps){x:Opd}(ok:yw6 gl o x=true):ze9 P oc gl s A o (x.ev e) s.m:=(ygv hs he ok).to hs
def yae(o:Oper)(r:zd6):Bool:=
 (match o.op with
 |.move a=>yrr a
 |.assign a=>yrr a
 |_=>false)&&decide (0<r.sz)
theorem yd1 [Clk](hs:Sim oc gl s)(cx:Cx)(slot:Nat){r:zd6}(ok:yae o r=true):
  ze9 P oc gl s A o (.ref (newId cx slot s.m) 0 0 0) (upd s.m (newId cx slot s.m) (.row r.wr r.t r.sz 0 [])):=by
 simp only[yae,Bool.and_eq_true,decide_eq_true_eq]at ok;obtain⟨ok,hz⟩:=ok;obtain⟨h1,h2⟩:=z78 hs (newId cx slot s.m) (zed _ _ _) r hz
 split at ok<;>try cases ok
 ·rename_i a ho;refine⟨_,.slice none 0 0,by simp only[execOp,ho,yir ok];rfl,h1,h2,rfl,zji s _ (.slice none 0 0) rfl _ _ _ _ _ _ _ _ (by simp)⟩
 rename_i a ho;refine⟨_,.slice none 0 0,by simp only[execOp,ho,yir ok];rfl,h1,h2,rfl,zji s _ (.slice none 0 0) rfl _ _ _ _ _ _ _ _ (by simp)⟩
def yod(gl:Globs)(o:Oper)(c a b:Opd):Bool:=
 match o.op with
 |.pick c' a' b'=>okX gl c' c&&okX gl a' a&&okX gl b' b
 |_=>false
theorem ylz [Clk](hs:Sim oc gl s)(he:zc9 s e A.tmps){c a b:Opd}{t:Bool}(ok:yod gl o c a b=true)(hc:c.ev e=.d (.bool t)):
  ze9 P oc gl s A o (if t then a.ev e else b.ev e) s.m:=by
 unfold yod at ok;split at ok<;>try cases ok
 rename_i c' a' b' ho;simp only[Bool.and_eq_true]at ok;have h1:=zbg hs he ok.1.1;rw[hc]at h1;have h1:A.eval c'=.bool t:=h1;refine zbq hs (x:=if t then A.eval a' else A.eval b') (by simp only[execOp,ho,h1,asBool];cases t<;>rfl) ?_
 cases t
 ·exact zbg hs he ok.2
 exact zbg hs he ok.1.2
def yr7(gl:Globs)(o:Oper)(op:BinOp)(x y:Opd):Bool:=
 match o.op with
 |.binOp op' _ a b _=>(op'==op)&&okX gl a x&&okX gl b y
 |_=>false
theorem yfh [Clk](op:BinOp)(t:TypeId)(x y:Operand)(a b:Value)(w:World)(h:(op≠.eql/\op≠.neq)\/(a≠.nilIface/\∀cs,a≠.agg cs)):(eqGuard op t x y a b).run P w=.ok () w:=by
 have two:(a≠.nilIface/\∀cs,a≠.agg cs)->∀op,(eqGuard op t x y a b).run P w=.ok () w:=by
  intro⟨h1,h2⟩op;cases a with
  |nilIface=>exact absurd rfl h1
  |agg cs=>exact absurd rfl (h2 cs)
  |_=>cases op<;>rfl
 rcases h with h|h
 ·cases op with
  |eql=>exact absurd rfl h.1
  |neq=>exact absurd rfl h.2
  |_=>rfl
 exact two h op
theorem zol(l:List UInt8):(⟨l.toArray⟩:ByteArray).toList=l:=Lib.toList_data _
theorem zrn:∀(a b:List UInt8),Op.bytesLess a b=zal a b
 |[],[]=>rfl
 |_::_,[]=>rfl
 |[],_::_=>rfl
 |x::a,y::b=>by simp only[Op.bytesLess,zal,zrn a b]
def yn8(P:Program)(gl:Globs)(o:Oper)(k:IntKind)(x:Opd):Bool:=
 match o.op with
 |.convert a b y=>okX gl y x&&(match P.underlying a,P.underlying b with|some (.int _),some (.int k')=>decide (k'=k)|_,_=>false)
 |_=>false
theorem ylu [Clk](hs:Sim oc gl s)(he:zc9 s e A.tmps){k l:IntKind}{n:Int}{x:Opd}(ok:yn8 P gl o k x=true)(hx:x.ev e=.d (.int l n)):
  ze9 P oc gl s A o (.d (.int k (k.wrap n))) s.m:=by
 unfold yn8 at ok;split at ok<;>try cases ok
 rename_i a b y ho;simp only[Bool.and_eq_true]at ok;obtain⟨ok,ht⟩:=ok;split at ht<;>try cases ht
 rename_i k1 k2 ha hb;simp only[decide_eq_true_eq]at ht;subst ht;have h1:=zbg hs he ok;rw[hx]at h1;have h1:A.eval y=.int l n:=h1;refine zbq hs (x:=.int k2 (k2.wrap n)) ?_ rfl;simp[execOp,ho,h1,convert,run_underlying ha,run_underlying hb,Conv.intToInt]
def yz0(gl:Globs)(o:Oper)(op:UnOp)(x:Opd):Bool:=
 match o.op with
 |.unOp op' _ y=>(op'==op)&&okX gl y x
 |_=>false
theorem yte [Clk](hs:Sim oc gl s)(he:zc9 s e A.tmps){op:UnOp}{x:Opd}{r:D}(ok:yz0 gl o op x=true)(hx:unD op (x.ev e)=some r):
  ze9 P oc gl s A o (.d r) s.m:=by
 unfold yz0 at ok;split at ok<;>try cases ok
 rename_i op' t y ho;simp only[Bool.and_eq_true,beq_iff_eq]at ok;obtain⟨rfl,ok⟩:=ok;have h1:=zbg hs he ok;generalize x.ev e=v at h1 hx;unfold unD at hx
 split at hx
 ·rename_i b;obtain rfl:=Option.some.inj hx;have h1:A.eval y=.bool b:=h1;exact zbq hs (x:=.bool (!b)) (by simp[execOp,ho,h1,Op.unary]) rfl
 ·rename_i k n;obtain rfl:=Option.some.inj hx;have h1:A.eval y=.int k n:=h1;exact zbq hs (x:=.int k (k.wrap (0-n))) (by simp[execOp,ho,h1,Op.unary,Op.intArith]) rfl
 cases hx
theorem ylk [Clk]{op:BinOp}{k:IntKind}{a b:Int}{r:D}(h:z3c op k a b=some r)(t:TypeId)(w:World):∃x,(binOp op t (.int k a) (.int k b)).run P w=.ok x w/\∀w Im,DR w Im r x:=by
 cases op with
 |add=>obtain rfl:=Option.some.inj h;exact⟨.int k _,by simp[binOp,Op.intArith],λ_ _=>rfl⟩
 |sub=>obtain rfl:=Option.some.inj h;exact⟨.int k _,by simp[binOp,Op.intArith],λ_ _=>rfl⟩
 |mul=>obtain rfl:=Option.some.inj h;exact⟨.int k _,by simp[binOp,Op.intArith],λ_ _=>rfl⟩
 |quo=>
  simp only[z3c]at h
  split at h
  ·cases h
  rename_i hb;obtain rfl:=Option.some.inj h;exact⟨.int k _,by simp[binOp,Op.intDiv,hb],λ_ _=>rfl⟩
 |rem=>
  simp only[z3c]at h
  split at h
  ·cases h
  rename_i hb;obtain rfl:=Option.some.inj h;exact⟨.int k _,by simp[binOp,Op.intDiv,hb],λ_ _=>rfl⟩
 |and=>obtain rfl:=Option.some.inj h;exact⟨.int k _,by simp[binOp,Op.intBits],λ_ _=>rfl⟩
 |or=>obtain rfl:=Option.some.inj h;exact⟨.int k _,by simp[binOp,Op.intBits],λ_ _=>rfl⟩
 |xor=>obtain rfl:=Option.some.inj h;exact⟨.int k _,by simp[binOp,Op.intBits],λ_ _=>rfl⟩
 |andNot=>obtain rfl:=Option.some.inj h;exact⟨.int k _,by simp[binOp,Op.intBits],λ_ _=>rfl⟩
 |eql=>obtain rfl:=Option.some.inj h;exact⟨.bool _,by simp only[binOp,Op.intCmp,if_false,ne_eq,not_true_eq_false];rfl,λ_ _=>rfl⟩
 |neq=>obtain rfl:=Option.some.inj h;exact⟨.bool _,by simp only[binOp,Op.intCmp,if_false,ne_eq,not_true_eq_false];rfl,λ_ _=>rfl⟩
 |lss=>obtain rfl:=Option.some.inj h;exact⟨.bool _,by simp[binOp,Op.intCmp],λ_ _=>rfl⟩
 |leq=>obtain rfl:=Option.some.inj h;exact⟨.bool _,by simp[binOp,Op.intCmp],λ_ _=>rfl⟩
 |gtr=>obtain rfl:=Option.some.inj h;exact⟨.bool _,by simp[binOp,Op.intCmp],λ_ _=>rfl⟩
 |geq=>obtain rfl:=Option.some.inj h;exact⟨.bool _,by simp[binOp,Op.intCmp],λ_ _=>rfl⟩
 |_=>simp[z3c]at h
theorem yll [Clk]{op:BinOp}{a b:List UInt8}{r:D}(h:z7a op a b=some r)(t:TypeId)(w:World):∃x,(binOp op t (.string ⟨a.toArray⟩) (.string ⟨b.toArray⟩)).run P w=.ok x w/\∀w Im,DR w Im r x:=by
 have hx:(⟨a.toArray⟩:ByteArray).size=a.length:=by simp[ByteArray.size]
 have hy:(⟨b.toArray⟩:ByteArray).size=b.length:=by simp[ByteArray.size]
 cases op with
 |add=>
  simp only[z7a]at h
  split at h
  ·rename_i hl;obtain rfl:=Option.some.inj h
   have hle:¬(((a.length+b.length:Nat):Int)>IntKind.i64.max):=by
    have:IntKind.i64.max=9223372036854775807:=by decide
    rw[this];simp only[z4t]at hl;omega
   refine⟨.string (⟨a.toArray⟩++⟨b.toArray⟩),?_,λ_ _=>?_⟩
   ·simp only[binOp,Op.stringOp,hx,hy,hle,if_false];rfl
   simp only[DR];congr 1
  cases h
 |eql=>obtain rfl:=Option.some.inj h;exact⟨.bool (a==b),by simp only[binOp,Op.stringOp,zol];rfl,λ_ _=>rfl⟩
 |neq=>obtain rfl:=Option.some.inj h;exact⟨.bool (!(a==b)),by simp only[binOp,Op.stringOp,zol];rfl,λ_ _=>rfl⟩
 |lss=>obtain rfl:=Option.some.inj h;exact⟨.bool (zal a b),by simp only[binOp,Op.stringOp,zol,zrn];rfl,λ_ _=>rfl⟩
 |leq=>obtain rfl:=Option.some.inj h;exact⟨.bool (zal a b||a==b),by simp only[binOp,Op.stringOp,zol,zrn];rfl,λ_ _=>rfl⟩
 |gtr=>obtain rfl:=Option.some.inj h;exact⟨.bool (!(zal a b||a==b)),by simp only[binOp,Op.stringOp,zol,zrn];rfl,λ_ _=>rfl⟩
 |geq=>obtain rfl:=Option.some.inj h;exact⟨.bool (!zal a b),by simp only[binOp,Op.stringOp,zol,zrn];rfl,λ_ _=>rfl⟩
 |_=>simp[z7a]at h
theorem yjz [Clk](hs:Sim oc gl s)(he:zc9 s e A.tmps){op:BinOp}{x y:Opd}{r:D}(ok:yr7 gl o op x y=true)(h:ywx op (x.ev e) (y.ev e)=some r):
  zjl P s A o (.d r):=by
 unfold yr7 at ok;split at ok<;>try cases ok
 rename_i op' t a b t2 ho;simp only[Bool.and_eq_true,beq_iff_eq]at ok;obtain⟨⟨rfl,okx⟩,oky⟩:=ok;have h1:=zbg hs he okx;have h2:=zbg hs he oky;generalize x.ev e=v at h1 h;generalize y.ev e=u at h2 h
 -- what the operation's run is, once the operands are known
 have fin:∀(va vb xr:Value),A.eval a=va->A.eval b=vb->(va≠.nilIface/\∀cs,va≠.agg cs)->(binOp op' t va vb).run P s.w=.ok xr s.w->(∀w Im,DR w Im r xr)->zjl P s A o (.d r):=by
  intro va vb xr ha hb hva hr hd;refine zjl.mk (x:=xr) ?_ (hd _ _);simp only[execOp,ho,ha,hb,Sem.run_bind,yfh op' t a b va vb s.w (.inr hva),Result.andThen_ok,hr]
  rfl
 unfold ywx at h
 split at h
 ·rename_i k p l q;have h1:A.eval a=.int k p:=h1;have h2:A.eval b=.int l q:=h2
  split at h
  ·split at h
   ·rename_i hq;obtain rfl:=Option.some.inj h;refine fin _ _ (.int k (k.wrap (p*2^(min q.toNat k.bits)))) h1 h2 ⟨by simp,by simp⟩ ?_ (λ_ _=>rfl);have hn:¬q<0:=by omega
    simp[binOp,Op.shift,hn]
   cases h
  ·split at h
   ·rename_i hq;obtain rfl:=Option.some.inj h;refine fin _ _ (.int k (p.fdiv (2^(min q.toNat k.bits)))) h1 h2 ⟨by simp,by simp⟩ ?_ (λ_ _=>rfl);have hn:¬q<0:=by omega
    simp[binOp,Op.shift,hn]
   cases h
  split at h
  ·rename_i hk;subst hk;obtain⟨xr,hr,hd⟩:=ylk (P:=P) h t s.w;exact fin _ _ xr h1 h2 ⟨by simp,by simp⟩ hr hd
  cases h
 ·rename_i p q;have h1:A.eval a=.string ⟨p.toArray⟩:=h1;have h2:A.eval b=.string ⟨q.toArray⟩:=h2;obtain⟨xr,hr,hd⟩:=yll (P:=P) h t s.w;exact fin _ _ xr h1 h2 ⟨by simp,by simp⟩ hr hd
 cases h
theorem ypv [Clk](hs:Sim oc gl s)(he:zc9 s e A.tmps){op:BinOp}{x y:Opd}{r:D}(ok:yr7 gl o op x y=true)(h:ywx op (x.ev e) (y.ev e)=some r):
  ze9 P oc gl s A o (.d r) s.m:=(yjz hs he ok h).to hs
theorem zhe(b o n:Nat):(⟨b,o,none⟩:Addr).add n=⟨b,o+n,none⟩:=by unfold Addr.add;split<;>simp_all
def yn9(gl:Globs)(o:Oper)(f:Nat)(first caps:List Opd):Bool:=
 match o.op with
 |.makeFunc (.func g) a b=>g==f&&yog gl a.toList first &&yog gl b.toList caps
 |_=>false
theorem ylv [Clk](hs:Sim oc gl s)(he:zc9 s e A.tmps){f:Nat}{first caps:List Opd}(ok:yn9 gl o f first caps=true):
  ze9 P oc gl s A o (.fn f (evs e first) (evs e caps)) s.m:=by
 unfold yn9 at ok;split at ok<;>try cases ok
 rename_i g a b ho;simp only[Bool.and_eq_true,beq_iff_eq]at ok;obtain⟨⟨rfl,o1⟩,o2⟩:=ok;refine zbq hs (x:=.func (.func g) (a.map A.eval) (b.map A.eval)) (by simp[execOp,ho,Instr.makeFunc]) ?_;exact⟨_,_,rfl,by simpa using zui hs he _ _ o1,by simpa using zui hs he _ _ o2⟩
def zu4(gl:Globs)(o:Oper)(x:Opd):Bool:=
 match o.op with
 |.nilCheck a=>okX gl a x
 |_=>false
def z05(P:Program)(t:TypeId)(i:Nat):Option (Nat×TypeId):=
 match P.underlying t with
 |some (.struct fs)=>(fs[i]?).map λf=>(f.offset,f.type)
 |_=>none
def zpd(P:Program)(gl:Globs)(o:Oper)(off:Nat)(x:Opd):Bool:=
 match o.op with
 |.fieldAddr t a i=>okX gl a x&&((z05 P t i).map (·.1)==some off)&&((z05 P t i).bind (λf=>zq2 P f.2)).any (λn=>decide (0<n))
 |_=>false
theorem yhg{v:V}{x:Value}(hv:VR s v x)(h:ybb s.m v=true):∃b o,x=.pointer (some ⟨b,o,none⟩):=by
 cases v<;>simp only[ybb,Bool.false_eq_true]at h
 ·have h2:=hv.2
  split at h
  ·rename_i cs hl;rw[hl]at h2;obtain⟨b,_,hq⟩:=h2;exact⟨_,_,hq⟩
  ·rename_i hl;rw[hl]at h2;obtain⟨b,cap,_,hq⟩:=h2.2 (by simpa using h);exact⟨_,_,hq⟩
  cases h
 obtain⟨b,o,hq,_⟩:=hv;exact⟨_,_,hq⟩
theorem z4v{off:Nat}{v r:V}{x:Value}(hv:VR s v x)(h:zhf off s.m v=some r):∃b o,x=.pointer (some ⟨b,o,none⟩)/\VR s r (.pointer (some ⟨b,o+off,none⟩)):=by
 unfold zhf at h
 split at h
 ·rename_i hsure;obtain⟨b,o,rfl⟩:=yhg hv hsure;refine⟨b,o,rfl,?_⟩
  cases v<;>simp only[ybb,Bool.false_eq_true]at hsure<;>simp at h
  ·subst h;refine⟨rfl,?_⟩;have h2:=hv.2
   split at hsure
   ·rename_i cs hl;rw[hl]at h2⊢;obtain⟨b',hp,hq⟩:=h2;injection hq with hq;injection hq with hq;injection hq with hq1 hq2
    subst hq1;subst hq2;exact⟨_,hp,rfl⟩
   ·rename_i hl;rw[hl]at h2⊢;refine⟨h2.1,λht=>?_⟩;obtain⟨b',cap,hp,hq⟩:=h2.2 ht;injection hq with hq;injection hq with hq;injection hq with hq1 hq2
    subst hq1;subst hq2;exact⟨_,cap,hp,rfl⟩
   cases hsure
  subst h;obtain⟨b',o',hq,hc⟩:=hv;injection hq with hq;injection hq with hq;injection hq with hq1 hq2
  subst hq1;subst hq2;exact⟨_,o',by rw[Nat.add_assoc],hc⟩
 cases h
theorem z24{v:V}{x:Value}(h:VR s v x):VR s (zrq v) x:=by
 unfold zrq
 split
 ·obtain rfl:=h;exact⟨#[],#[],rfl,rfl,rfl⟩
 exact h
theorem zzd [Clk](hs:Sim oc gl s)(he:zc9 s e A.tmps){x:Opd}{v:V}{m':Mem}(ok:zu4 gl o x=true)
  (h:(if ybb s.m (x.ev e)then some (x.ev e,s.m)else match zrq (x.ev e)with|.fn f a b=>some (V.fn f a b,s.m)|_=>none)=some (v,m')):m'=s.m/\zjl P s A o v:=by
 unfold zu4 at ok;split at ok<;>try cases ok
 rename_i a ho;have h1:=zbg hs he ok;generalize x.ev e=y at h1 h
 split at h
 ·rename_i hsure;simp only[Option.some.injEq,Prod.mk.injEq]at h;obtain⟨rfl,rfl⟩:=h;obtain⟨b,q,hx⟩:=yhg h1 hsure;exact⟨rfl,zjl.mk (x:=A.eval a) (by simp only[execOp,ho,hx];rfl) h1⟩
 split at h
 ·rename_i f c d hfn;simp only[Option.some.injEq,Prod.mk.injEq]at h;obtain⟨rfl,rfl⟩:=h;have h1:=z24 h1;rw[hfn]at h1;have h1':=h1;obtain⟨xs,ys,hx,_⟩:=h1;exact⟨rfl,zjl.mk (x:=A.eval a) (by simp only[execOp,ho,hx];rfl) h1'⟩
 cases h
theorem z6z [Clk](hs:Sim oc gl s)(he:zc9 s e A.tmps){x:Opd}{v:V}{m':Mem}(ok:zu4 gl o x=true)
  (h:(if ybb s.m (x.ev e)then some (x.ev e,s.m)else match zrq (x.ev e)with|.fn f a b=>some (V.fn f a b,s.m)|_=>none)=some (v,m')):ze9 P oc gl s A o v m':=by
 obtain⟨rfl,h⟩:=zzd hs he ok h;exact h.to hs
theorem ycd{t:TypeId}{i off:Nat}(h:(z05 P t i).map (·.1)=some off):∃fs f,P.underlying t=some (.struct fs)/\fs[i]?=some f/\f.offset=off:=by
 unfold z05 at h
 split at h
 ·rename_i fs hu;cases hf:fs[i]? with
  |none=>rw[hf]at h;cases h
  |some f=>rw[hf]at h;exact⟨fs,f,hu,hf,by simpa using h⟩
 cases h
theorem zwe [Clk](hs:Sim oc gl s)(he:zc9 s e A.tmps){off:Nat}{x:Opd}{v:V}(ok:zpd P gl o off x=true)(h:zhf off s.m (x.ev e)=some v):
  zjl P s A o v:=by
 unfold zpd at ok;split at ok<;>try cases ok
 rename_i t a i ho;simp only[Bool.and_eq_true,beq_iff_eq]at ok;obtain⟨⟨okx,hf⟩,hz⟩:=ok;obtain⟨fs,f,hu,hfi,rfl⟩:=ycd hf
 have hz':∃it,P.info? f.type=some it/\it.size≠0:=by
  simp only[z05,hu,hfi,Option.map_some,Option.bind_some,zq2]at hz;cases hi:P.info? f.type with
  |none=>simp[hi]at hz
  |some it=>refine⟨it,rfl,?_⟩;simp[hi]at hz;omega
 obtain⟨it,hit,hne⟩:=hz';obtain⟨b,q,hx,hv⟩:=z4v (zbg hs he okx) h;refine zjl.mk (x:=.pointer (some ⟨b,q+f.offset,none⟩)) ?_ hv;simp[execOp,ho,Instr.fieldAt,run_underlying hu,hfi,hx,Instr.sureAddr,fieldPlace,sizeOf,typeInfo,hit,hne,zhe]
theorem zuo [Clk](hs:Sim oc gl s)(he:zc9 s e A.tmps){off:Nat}{x:Opd}{v:V}(ok:zpd P gl o off x=true)(h:zhf off s.m (x.ev e)=some v):
  ze9 P oc gl s A o v s.m:=(zwe hs he ok h).to hs
def yf8(P:Program)(gl:Globs)(o:Oper)(off:Nat)(n:Option Nat)(x:Opd):Bool:=
 match o.op with
 |.field t a i=>okX gl a x&&((z05 P t i).map (·.1)==some off)&&(z05 P t i).any (λf=>zti P f.2 n)
 |_=>false
theorem zzb [Clk]{t:TypeId}{b:Bool}(h:z62 P t=some b)(w:World):(isAgg t).run P w=.ok b w:=by
 unfold z62 at h;cases hu:P.underlying t with
 |none=>simp[hu]at h
 |some d=>
  simp[hu]at h;simp[isAgg,run_underlying hu];cases d<;>simp at h<;>subst h<;>rfl
theorem zhz [Clk]{t:TypeId}{n:Nat}(h:zq2 P t=some n)(w:World):(sizeOf t).run P w=.ok n w:=by
 unfold zq2 at h;cases hi:P.info? t with
 |none=>simp[hi]at h
 |some i=>simp[hi]at h;subst h;simp[sizeOf,typeInfo,hi]
def zy9(n:Option Nat)(xs:List Value)(off:Nat):Option Value:=
 match n with
 |none=>xs[off]?
 |some k=>if off+k<=xs.length then some (.agg (win xs off k).toArray)else none
theorem yje{n:Option Nat}{cs:List V}{xs:List Value}{off:Nat}{r:V}(hv:VRs s cs xs)(h:ylf n cs off=some r):∃y,zy9 n xs off=some y/\VR s r y:=by
 cases n with
 |none=>
  obtain⟨y,hy,_,hvy⟩:=VRs.at cs _ off r hv h;exact⟨y,hy,hvy⟩
 |some k=>
  simp only[ylf]at h
  split at h
  ·rename_i hle;obtain rfl:=Option.some.inj h
   refine⟨.agg (win xs off k).toArray,?_,yi3 ?_⟩
   ·simp only[zy9,<-VRs.length _ _ hv,hle,if_true]
   exact VRs.take _ _ _ (VRs.drop _ _ _ hv)
  cases h
theorem DRs.at{w:World}{Im:Nat->Nat->Prop}:∀(a:List D)(x:List Value)(n:Nat)(v:D),DRs w Im a x->a[n]?=some v->∃y,x[n]?=some y/\Evl.one y/\DR w Im v y
 |[],_,_,_,_,h=>by simp at h
 |_::r,_,0,v,⟨x,ys,h1,h2,h3,h4⟩,h=>by
  simp at h;subst h;subst h1;exact⟨x,rfl,h2,h3⟩
 |_::r,_,n+1,v,⟨x,ys,h1,h2,h3,h4⟩,h=>by
  simp at h;subst h1;simpa using DRs.at r ys n v h4 h
theorem yah{n:Option Nat}{cs:List D}{xs:List Value}{off:Nat}{r:V}(hv:DRs s.w s.Im cs xs)(h:z6q n cs off=some r):∃y,zy9 n xs off=some y/\VR s r y:=by
 cases n with
 |none=>
  simp only[z6q,Option.map_eq_some_iff]at h;obtain⟨d,hd,rfl⟩:=h;obtain⟨y,hy,_,hvy⟩:=DRs.at cs _ off d hv hd;exact⟨y,hy,hvy⟩
 |some k=>
  simp only[z6q]at h
  split at h
  ·rename_i hle;obtain rfl:=Option.some.inj h
   refine⟨.agg (win xs off k).toArray,?_,?_⟩
   ·simp only[zy9,<-DRs.length _ _ hv,hle,if_true]
   exact⟨_,rfl,DRs.take _ _ _ (DRs.drop _ _ _ hv)⟩
  cases h
theorem zvc [Clk]{t:TypeId}{n:Option Nat}{off:Nat}{xs:Array Value}{y:Value}(hc:zti P t n=true)(h:zy9 n xs.toList off=some y)(w:World):(part t xs off).run P w=.ok y w:=by
 cases n with
 |none=>
  simp only[zti,beq_iff_eq]at hc;have hy:xs[off]?=some y:=by simpa[zy9]using h
  simp[part,zzb hc,hy]
 |some k=>
  simp only[zti,Bool.and_eq_true,beq_iff_eq]at hc;simp only[zy9]at h
  split at h
  ·obtain rfl:=Option.some.inj h
   have hw:(win xs.toList off k).toArray=xs.extract off (off+k):=by
    apply Array.ext';rw[Array.toList_extract,List.extract_eq_take_drop];simp only[win]
    try(congr 1;omega)
   simp[part,zzb hc.1,zhz hc.2,hw]
  cases h
theorem yja{n:Option Nat}{v:V}{x:Value}{off:Nat}{r:V}(hv:VR s v x)(h:ygh n v off=some r):∃xs y,x=.agg xs/\zy9 n xs.toList off=some y/\VR s r y:=by
 cases v<;>simp only[ygh]at h<;>try cases h
 ·rename_i d;cases d<;>simp only at h<;>try cases h
  rename_i ds;obtain⟨xs,rfl,hd⟩:=hv;obtain⟨y,h1,h2⟩:=yah hd h;exact⟨xs,y,rfl,h1,h2⟩
 rename_i cs;obtain⟨xs,rfl,hd⟩:=hv;obtain⟨y,h1,h2⟩:=yje hd h;exact⟨xs,y,rfl,h1,h2⟩
theorem yg3 [Clk](hs:Sim oc gl s)(he:zc9 s e A.tmps){off:Nat}{n:Option Nat}{x:Opd}{v:V}(ok:yf8 P gl o off n x=true)(h:ygh n (x.ev e) off=some v):
  ze9 P oc gl s A o v s.m:=by
 unfold yf8 at ok;split at ok<;>try cases ok
 rename_i t a i ho;simp only[Bool.and_eq_true,beq_iff_eq]at ok;obtain⟨⟨okx,hf⟩,hz⟩:=ok;obtain⟨fs,f,hu,hfi,rfl⟩:=ycd hf;have hz:zti P f.type n=true:=by simpa[z05,hu,hfi]using hz
 obtain⟨cs,y,hx,hr,hv⟩:=yja (zbg hs he okx) h;have hy:=zvc hz hr s.w;refine zbq hs (x:=y) ?_ hv;simp[execOp,ho,Instr.field,run_underlying hu,hfi,hx,asAgg,hy]
theorem ztq{v:V}{x:Value}{i:Int}(hv:VR s v x)(h:asI v=some i):∃k,x=.int k i:=by
 unfold asI at h
 split at h
 ·obtain rfl:=Option.some.inj h;exact⟨_,hv⟩
 cases h
def yza(P:Program)(t:TypeId):Option (Nat×TypeId):=
 match P.underlying t with
 |some (.array n e)=>some (n,e)
 |_=>none
theorem zi7{t e:TypeId}(h:zrm P t=some e):P.underlying t=some (.slice e):=by
 unfold zrm at h
 split at h
 ·rename_i hu;obtain rfl:=Option.some.inj h;exact hu
 cases h
theorem ymv{t:TypeId}{n:Nat}{e:TypeId}(h:yza P t=some (n,e)):P.underlying t=some (.array n e):=by
 unfold yza at h
 split at h
 ·rename_i hu;simp only[Option.some.injEq,Prod.mk.injEq]at h;obtain⟨rfl,rfl⟩:=h;exact hu
 cases h
def zy4(P:Program)(gl:Globs)(o:Oper)(sz:Nat)(x i:Opd):Bool:=
 match o.op with
 |.indexAddr t a j=>okX gl a x&&okX gl j i&&(zrm P t).any (λe=>zq2 P e==some sz)
 |_=>false
theorem zze [Clk](hs:Sim oc gl s)(he:zc9 s e A.tmps){sz:Nat}{x i:Opd}{v:V}(ok:zy4 P gl o sz x i=true)(h:zn8 sz s.m (x.ev e) (i.ev e)=some v):
  ze9 P oc gl s A o v s.m:=by
 unfold zy4 at ok;split at ok<;>try cases ok
 rename_i t a j ho;simp only[Bool.and_eq_true,Option.any_eq_true,beq_iff_eq]at ok;obtain⟨⟨okx,oki⟩,el,hel,hsz⟩:=ok;have hu:=zi7 hel;have h1:=zbg hs he okx;have h2:=zbg hs he oki;generalize x.ev e=vx at h1 h;unfold zn8 at h;cases hi:asI (i.ev e)with
 |none=>rw[hi]at h;cases h
 |some n=>
  rw[hi]at h;obtain⟨k,hj⟩:=ztq h2 hi;simp only at h
  -- the run, once the slice is known
  have fin:∀(b q len cap:Nat),A.eval a=.slice (some ⟨b,q,none⟩) len cap->0<=n/\n<len->VR s v (.pointer (some ⟨b,q+n.toNat*sz,none⟩))->ze9 P oc gl s A o v s.m:=by
   intro b q len cap ha hr hv;refine zbq hs (x:=.pointer (some ⟨b,q+n.toNat*sz,none⟩)) ?_ hv;simp[execOp,ho,Instr.indexAt,hj,asIntOf,run_underlying hu,ha,hr,zhz hsz,zhe]
  split at h
  ·rename_i len cs
   split at h
   ·rename_i hr;obtain rfl:=Option.some.inj h;obtain⟨ad,cap,ha,_,hc⟩:=h1
    rcases hc with⟨rfl,rfl⟩|⟨b,q,rfl,hc⟩
    ·omega
    exact fin b q len cap ha hr ⟨b,q,rfl,hc⟩
   cases h
  ·rename_i o' off len top;have h1b:=h1.2
   split at h
   ·rename_i wr tt sz' n' xs hl;rw[hl]at h1b
    split at h
    ·rename_i hr;obtain⟨hr0,hr1,rfl,hr2,rfl⟩:=hr;obtain rfl:=Option.some.inj h;have hrow:=(hs.objs o' _ hl);obtain⟨hz,ys,hown,hd,him⟩:=hrow
     rcases h1b.2 rfl with⟨rfl,rfl,hx⟩|⟨hne,b,cap,capp,hp,hle,hle1,hle2,hx⟩|⟨hne,h0,h1',_⟩
     ·rcases hown.2 with⟨hn,hn0⟩|⟨g,cap,cur,hp,_,hh,_⟩
      ·omega
      refine fin g 0 _ cap (hx.trans hp) ⟨hr0,hr1⟩ ⟨rfl,?_⟩;show ymd _ _ _ _ (look s.m o');rw[hl];exact⟨Nat.le_refl _,λ_=>⟨g,cap,hp,by simp⟩⟩
     ·refine fin b _ len cap hx ⟨hr0,hr1⟩ ⟨rfl,?_⟩;show ymd _ _ _ _ (look s.m o');rw[hl];exact⟨Nat.le_refl _,λ_=>⟨b,capp,hp,by rw[Nat.add_mul]⟩⟩
     omega
    cases h
   cases h
  cases h
def z0n(P:Program)(gl:Globs)(o:Oper)(len sz:Nat)(x i:Opd):Bool:=
 match o.op with
 |.indexAddr t a j=>okX gl a x&&okX gl j i&&(yza P t).any (λp=>p.1==len&&zq2 P p.2==some sz)
 |_=>false
theorem z6y [Clk](hs:Sim oc gl s)(he:zc9 s e A.tmps){len sz:Nat}{x i:Opd}{n:Int}{v:V}(ok:z0n P gl o len sz x i=true)(hi:asI (i.ev e)=some n)(hr:0<=n/\n<len)
  (h:zhf (n.toNat*sz) s.m (x.ev e)=some v):ze9 P oc gl s A o v s.m:=by
 unfold z0n at ok;split at ok<;>try cases ok
 rename_i t a j ho;simp only[Bool.and_eq_true,Option.any_eq_true,beq_iff_eq]at ok;obtain⟨⟨okx,oki⟩,⟨l',el⟩,hel,rfl,hsz⟩:=ok;have hu:=ymv hel;obtain⟨k,hj⟩:=ztq (zbg hs he oki) hi;obtain⟨b,q,hx,hv⟩:=z4v (zbg hs he okx) h;refine zbq hs (x:=.pointer (some ⟨b,q+n.toNat*sz,none⟩)) ?_ hv;simp[execOp,ho,Instr.indexAt,hj,asIntOf,run_underlying hu,hx,Instr.sureAddr,hr,zhz hsz,zhe]
def yoa(P:Program)(gl:Globs)(o:Oper)(len sz:Nat)(n:Option Nat)(x i:Opd):Bool:=
 match o.op with
 |.index t a j=>okX gl a x&&okX gl j i&&(yza P t).any (λp=>p.1==len&&zq2 P p.2==some sz&&zti P p.2 n)
 |_=>false
theorem ylw [Clk](hs:Sim oc gl s)(he:zc9 s e A.tmps){len sz:Nat}{k:Option Nat}{x i:Opd}{n:Int}{v:V}(ok:yoa P gl o len sz k x i=true)(hi:asI (i.ev e)=some n)(hr:0<=n/\n<len)
  (h:ygh k (x.ev e) (n.toNat*sz)=some v):ze9 P oc gl s A o v s.m:=by
 unfold yoa at ok;split at ok<;>try cases ok
 rename_i t a j ho;simp only[Bool.and_eq_true,Option.any_eq_true,beq_iff_eq]at ok;obtain⟨⟨okx,oki⟩,⟨l',el⟩,hel,⟨rfl,hsz⟩,hc⟩:=ok;have hu:=ymv hel;obtain⟨k',hj⟩:=ztq (zbg hs he oki) hi;obtain⟨cs,y,hx,hrd,hv⟩:=yja (zbg hs he okx) h;have hy:=zvc hc hrd s.w;refine zbq hs (x:=y) ?_ hv;simp[execOp,ho,Instr.index,hj,asIntOf,run_underlying hu,hx,hr,zhz hsz,hy]
def yrs(P:Program)(t:TypeId):Bool:=match P.underlying t with|some .string=>true|_=>false
theorem yis{t:TypeId}(h:yrs P t=true):P.underlying t=some .string:=by
 unfold yrs at h
 split at h
 ·assumption
 cases h
def yob(P:Program)(gl:Globs)(o:Oper)(x i:Opd):Bool:=
 match o.op with
 |.index t a j=>okX gl a x&&okX gl j i&&yrs P t
 |_=>false
theorem ylx [Clk](hs:Sim oc gl s)(he:zc9 s e A.tmps){x i:Opd}{n:Int}{str:List UInt8}{b:UInt8}(ok:yob P gl o x i=true)(hx:x.ev e=.d (.str str))(hi:asI (i.ev e)=some n)(hr:0<=n)
  (h:str[n.toNat]?=some b):ze9 P oc gl s A o (.d (.int .u8 b.toNat)) s.m:=by
 unfold yob at ok;split at ok<;>try cases ok
 rename_i t a j ho;simp only[Bool.and_eq_true]at ok;obtain⟨⟨okx,oki⟩,ht⟩:=ok;have hu:=yis ht;obtain⟨k',hj⟩:=ztq (zbg hs he oki) hi;have h1:=zbg hs he okx;rw[hx]at h1;have h1:A.eval a=.string ⟨str.toArray⟩:=h1;refine zbq hs (x:=.int .u8 b.toNat) ?_ rfl
 have hb:(⟨str.toArray⟩:ByteArray)[n.toNat]?=some b:=by
  obtain⟨hlt,hval⟩:=List.getElem?_eq_some_iff.1 h;have hlt':n.toNat<(⟨str.toArray⟩:ByteArray).size:=by simpa[ByteArray.size]using hlt
  rw[getElem?_pos (⟨str.toArray⟩:ByteArray) n.toNat hlt'];exact congrArg some hval
 simp[execOp,ho,Instr.index,hj,asIntOf,run_underlying hu,h1,hr,hb]
def z4z(gl:Globs)(o:Oper)(x:Opd)(i:Nat):Bool:=
 match o.op with
 |.extract a j=>okX gl a x&&j==i
 |_=>false
theorem ya0 [Clk](hs:Sim oc gl s)(he:zc9 s e A.tmps){x:Opd}{i:Nat}{vs:List V}{v:V}(ok:z4z gl o x i=true)(hx:x.ev e=.tup vs)(h:vs[i]?=some v):ze9 P oc gl s A o v s.m:=by
 unfold z4z at ok;split at ok<;>try cases ok
 rename_i a j ho;simp only[Bool.and_eq_true,beq_iff_eq]at ok;obtain⟨okx,rfl⟩:=ok;have h1:=zbg hs he okx;rw[hx]at h1;obtain⟨xs,hxs,hv⟩:=h1;obtain⟨y,hy,hvy⟩:=VRt.at vs _ j v hv h;have hy':xs[j]?=some y:=by simpa using hy
 exact zbq hs (x:=y) (by simp[execOp,ho,hxs,Instr.extract,hy']) hvy
def bi(op:Op):Option (Builtin×List Operand×List TypeId):=
 match op with
 |.call c=>(match c.callee with|.builtin b=>some (b,c.args.toList,c.argTypes.toList)|_=>none)
 |_=>none
theorem z01{b:Builtin}{az:List Operand}{ts:List TypeId}(h:bi o.op=some (b,az,ts))(w:World):
  ∃cn,(execOp A.eval o).run P w=(builtin b ts.toArray o.type cn (az.map A.eval).toArray).run P w:=by
 have h':∃c,o.op=.call c/\c.callee=.builtin b/\c.args.toList=az/\c.argTypes.toList=ts:=by
  unfold bi at h
  split at h
  ·rename_i op c ho
   split at h
   ·rename_i b' hc;simp only[Option.some.injEq,Prod.mk.injEq]at h;obtain⟨rfl,rfl,rfl⟩:=h;exact⟨c,ho,hc,rfl,rfl⟩
   cases h
  cases h
 obtain⟨c,ho,hc,rfl,rfl⟩:=h';refine⟨c.args.map λ|.const _=>true|_=>false,?_⟩;simp only[execOp,ho,resolve,hc,Sem.run_bind,Sem.run_pure,Result.andThen_ok,invoke,Array.toArray_toList];congr 2;apply Array.ext';simp
def yvu(P:Program)(gl:Globs)(o:Oper)(k:Kd)(x:Opd):Bool:=
 match bi o.op with
 |some (.len,[a],[t])=>okX gl a x&&(match k with
  |.str=>(match P.underlying t with|some .string=>true|_=>false)
  |.slc=>(zrm P t).isSome
  |.map=>(match P.underlying t with|some (.map ..)=>true|_=>false)
  |.cap=>false)
 |some (.cap,[a],[t])=>okX gl a x&&(zrm P t).isSome&&(match k with
  |.cap=>true
  |_=>false)
 |_=>false
theorem ypy [Clk](hs:Sim oc gl s)(he:zc9 s e A.tmps){k:Kd}{x:Opd}{n:Nat}(ok:yvu P gl o k x=true)(h:ymj s.m k (x.ev e)=some n):ze9 P oc gl s A o (.d (.int .i64 n)) s.m:=by
 unfold yvu at ok;split at ok
 rotate_left
 ·rename_i a t ho;simp only[Bool.and_eq_true]at ok;obtain⟨⟨okx,ht⟩,hk⟩:=ok;have h1:=zbg hs he okx;generalize x.ev e=v at h1 h;obtain⟨cn,hrun⟩:=z01 (P:=P) (A:=A) ho s.w;obtain⟨el,hel⟩:=Option.isSome_iff_exists.1 ht;have hu:=zi7 hel;cases k<;>simp only[Bool.false_eq_true]at hk;unfold ymj at h;simp only at h
  split at h
  ·obtain rfl:=Option.some.inj h;obtain⟨ad,ha⟩:=h1;refine zbq hs (x:=.int .i64 0) ?_ rfl;rw[hrun];simp[builtin,Builtin.cap_,run_underlying hu,ha,goInt]
  cases h
 ·cases ok
 rename_i a t ho;simp only[Bool.and_eq_true]at ok;obtain⟨okx,ht⟩:=ok;have h1:=zbg hs he okx;generalize x.ev e=v at h1 h;obtain⟨cn,hrun⟩:=z01 (P:=P) (A:=A) ho s.w
 have fin:(Builtin.len_ #[t] o.type #[A.eval a]).run P s.w=.ok (.int .i64 n) s.w->ze9 P oc gl s A o (.d (.int .i64 n)) s.m:=by
  intro hr;refine zbq hs (x:=.int .i64 n) ?_ rfl;rw[hrun];simp[builtin,hr]
 apply fin;cases k with
 |str=>
  simp only at ht
  split at ht
  ·rename_i hu;unfold ymj at h;simp only at h
   split at h
   ·rename_i str;obtain rfl:=Option.some.inj h;have h1:A.eval a=.string ⟨str.toArray⟩:=h1;have hsz:(⟨str.toArray⟩:ByteArray).size=str.length:=by simp[ByteArray.size]
    simp[Builtin.len_,run_underlying hu,h1,goInt,hsz]
   cases h
  cases ht
 |slc=>
  simp only at ht;obtain⟨el,hel⟩:=Option.isSome_iff_exists.1 ht;have hu:=zi7 hel
  have fin2:∀ad c,A.eval a=.slice ad n c->(Builtin.len_ #[t] o.type #[A.eval a]).run P s.w=.ok (.int .i64 n) s.w:=by
   intro ad c ha;simp[Builtin.len_,run_underlying hu,ha,goInt]
  unfold ymj at h;simp only at h
  split at h
  ·obtain rfl:=Option.some.inj h;obtain⟨ad,c,ha,_⟩:=h1;exact fin2 ad c ha
  ·obtain rfl:=Option.some.inj h;obtain⟨ad,ha⟩:=h1;exact fin2 ad 0 ha
  ·obtain rfl:=Option.some.inj h;obtain⟨ad,ha,_⟩:=h1;exact fin2 ad _ ha
  ·rename_i o' off len top;have h1b:=h1.2
   split at h
   ·rename_i wr tt sz n' xs hl;rw[hl]at h1b
    split at h
    ·rename_i hn;subst hn;obtain rfl:=Option.some.inj h;obtain⟨hz,ys,hown,hd,him⟩:=hs.objs o' _ hl
     rcases h1b.2 rfl with⟨rfl,rfl,hx⟩|⟨hne,b,cap,capp,hp,hle,_,_,hx⟩|⟨hne,_,rfl,ad,c,hx⟩
     ·rcases hown.2 with⟨hp,rfl⟩|⟨g,cap,cur,hp,_⟩
      ·exact fin2 none 0 (hx.trans hp)
      exact fin2 _ _ (hx.trans hp)
     ·exact fin2 _ _ hx
     exact fin2 _ _ hx
    cases h
   cases h
  cases h
 |map=>
  simp only at ht
  split at ht
  ·rename_i hu;unfold ymj at h;simp only at h
   split at h
   ·rename_i o';have h1b:=h1.2
    split at h
    ·rename_i es hl;rw[hl]at h1b;obtain rfl:=Option.some.inj h;obtain⟨b,ces,cl,hp,hh,hm,_⟩:=hs.objs o' _ hl;have hx:A.eval a=.map (some b):=Eq.trans h1b hp;have:=hm.len;simp at this;simp[Builtin.len_,run_underlying hu,hx,goInt,getObj,Sem.run,hh,this]
    cases h
   cases h
  cases ht
 |cap=>simp at ht
def yad(gl:Globs)(o:Oper)(mx:Bool)(args:List Opd):Bool:=
 match bi o.op with
 |some (.max,az,_)=>mx&&yog gl az args
 |some (.min,az,_)=>!mx&&yog gl az args
 |_=>false
theorem yc0 [Clk](f:Value->Value->Sem Value)(mx:Bool)(hf:∀k a l b,f (.int k a) (.int l b)=pure (.int k (if mx then(if b>a then b else a)else(if b<a then b else a)))):
  ∀(vs:List V)(xs:List Value)(k:IntKind)(a:Int)(r:D),VRt s vs xs->zsn.go mx k a vs=some r->∃y,(xs.foldlM f (.int k a)).run P s.w=.ok y s.w/\VR s (.d r) y
 |[],xs,k,a,r,hv,h=>by
  simp only[VRt]at hv;subst hv;simp only[zsn.go,Option.some.injEq]at h;subst h;exact⟨_,rfl,rfl⟩
 |v::vs,xs,k,a,r,hv,h=>by
  obtain⟨x,ys,rfl,h1,h2⟩:=hv;unfold zsn.go at h
  split at h
  ·cases ‹_=[]›
  ·rename_i l b r' heq;injection heq with e1 e2
   subst e1;subst e2;have h1:x=.int l b:=h1;subst h1;obtain⟨y,hy,hvy⟩:=yc0 f mx hf _ ys k _ r h2 h;refine⟨y,?_,hvy⟩;simp only[List.foldlM_cons,hf,pure_bind];exact hy
  cases h
theorem yd0 [Clk](hs:Sim oc gl s)(he:zc9 s e A.tmps){mx:Bool}{args:List Opd}{r:D}(ok:yad gl o mx args=true)(h:zsn mx (evs e args)=some r):ze9 P oc gl s A o (.d r) s.m:=by
 have key:∀(az:List Operand)(f:Value->Value->Sem Value)(b:Builtin)(ts:List TypeId),bi o.op=some (b,az,ts)->yog gl az args=true->
   (∀k a l b,f (.int k a) (.int l b)=pure (.int k (if mx then(if b>a then b else a)else(if b<a then b else a))))->
   (∀ts ty cn x rest y w,(rest.foldlM f x).run P w=.ok y w->(builtin b ts ty cn (x::rest).toArray).run P w=.ok (.value y) w)->ze9 P oc gl s A o (.d r) s.m:=by
  intro az f b ts hb hok hf hbi;have hv:=zui hs he az args hok;obtain⟨cn,hrun⟩:=z01 (P:=P) (A:=A) hb s.w;generalize evs e args=vs at hv h;unfold zsn at h
  split at h
  ·cases h
  ·rename_i k a r';obtain⟨x,ys,hxs,h1,h2⟩:=hv;have h1:x=.int k a:=h1;subst h1;obtain⟨y,hy,hvy⟩:=yc0 (P:=P) f mx hf _ ys k a r h2 h;refine zbq hs (x:=y) ?_ hvy;rw[hrun,hxs];exact hbi _ _ _ _ _ _ _ hy
  cases h
 unfold yad at ok
 split at ok
 ·rename_i az ts ho;simp only[Bool.and_eq_true]at ok;obtain⟨rfl,ok⟩:=ok;refine key az Builtin.max2 .max ts ho ok (λk a l b=>by simp[Builtin.max2]) (λts ty cn x rest y w hy=>?_);simp[builtin,Builtin.max_,hy]
 ·rename_i az ts ho;simp only[Bool.and_eq_true,Bool.not_eq_true']at ok;obtain⟨rfl,ok⟩:=ok;refine key az Builtin.min2 .min ts ho ok (λk a l b=>by simp[Builtin.min2]) (λts ty cn x rest y w hy=>?_);simp[builtin,Builtin.min_,hy]
 cases ok
theorem zeh [Clk]{x:Value}{i:Int}{y:Nat}{k:IntKind}(hx:x=.int k i)(h0:0<=i)(h1:i<=y)(code:BoundsCode)(w:World):(Instr.sliceBound x y code).run P w=.ok i.toNat w:=by
 subst hx;simp[Instr.sliceBound,asIntOf,h0,h1]
theorem zx0 [Clk]{lo hi:Option Operand}{lo' hi':Option Opd}{n l h:Nat}(hs:Sim oc gl s)(he:zc9 s e A.tmps)(ol:okX? gl lo lo'=true)(oh:okX? gl hi hi'=true)
  (hb:zdd n (lo'.map (·.ev e)) (hi'.map (·.ev e))=some (l,h))(isS:Bool)(cap:Nat)(hcap:n<=cap)(w:World):
  (Instr.sliceBounds isS n cap (lo.map A.eval) (hi.map A.eval) none).run P w=.ok (l,h,cap) w/\l<=h/\h<=n:=by
 unfold zdd at hb
 have hi1:∀(hv:Int),(match hi'.map (·.ev e)with|none=>some (n:Int)|some v=>asI v)=some hv->
   (hi=none/\hv=n)\/∃a k,hi=some a/\A.eval a=.int k hv:=by
  intro hv hh;cases hi with
  |none=>cases hi'<;>simp[okX?]at oh;simp at hh;exact .inl ⟨rfl,hh.symm⟩
  |some a=>
   cases hi' with
   |none=>simp[okX?]at oh
   |some x=>
    simp only[okX?]at oh;obtain⟨k,hk⟩:=ztq (zbg hs he oh) hh;exact .inr ⟨a,k,rfl,hk⟩
 have lo1:∀(lv:Int),(match lo'.map (·.ev e)with|none=>some (0:Int)|some v=>asI v)=some lv->
   (lo=none/\lv=0)\/∃a k,lo=some a/\A.eval a=.int k lv:=by
  intro lv hh;cases lo with
  |none=>cases lo'<;>simp[okX?]at ol;simp at hh;exact .inl ⟨rfl,hh.symm⟩
  |some a=>
   cases lo' with
   |none=>simp[okX?]at ol
   |some x=>
    simp only[okX?]at ol;obtain⟨k,hk⟩:=ztq (zbg hs he ol) hh;exact .inr ⟨a,k,rfl,hk⟩
 simp only at hb
 split at hb
 ·rename_i hv lv e1 e2
  split at hb
  ·rename_i hr;obtain⟨r1,r2,r3,r4⟩:=hr;simp only[Option.some.injEq,Prod.mk.injEq]at hb;obtain⟨rfl,rfl⟩:=hb;have hH:=hi1 hv e1;have hL:=lo1 lv e2;refine⟨?_,by omega,by omega⟩
   rcases hH with⟨rfl,rfl⟩|⟨a,k,rfl,ha⟩<;>rcases hL with⟨rfl,rfl⟩|⟨b,q,rfl,hbv⟩
   ·simp[Instr.sliceBounds]
   ·simp[Instr.sliceBounds,zeh hbv r3 r4]
   ·simp[Instr.sliceBounds,zeh ha r1 (y:=cap) (by omega)]
   have:(Instr.sliceBound (A.eval b) hv.toNat .sliceB).run P w=.ok lv.toNat w:=zeh hbv r3 (by omega) _ _;simp[Instr.sliceBounds,zeh ha r1 (y:=cap) (by omega),this]
  cases hb
 cases hb
def yaf(P:Program)(gl:Globs)(o:Oper)(x:Opd)(lo hi:Option Opd):Bool:=
 match o.op with
 |.slice t a l h mx=>okX gl a x&&okX? gl l lo&&okX? gl h hi&&mx.isNone&&yrs P t
 |_=>false
theorem yfk(str:List UInt8)(l h:Nat):(⟨str.toArray⟩:ByteArray).extract l h=⟨(win str l (h-l)).toArray⟩:=by
 apply ByteArray.ext;simp[ByteArray.data_extract,win,List.extract_eq_take_drop]
theorem yd4 [Clk](hs:Sim oc gl s)(he:zc9 s e A.tmps){x:Opd}{lo hi:Option Opd}{str:List UInt8}{l h:Nat}(ok:yaf P gl o x lo hi=true)(hx:x.ev e=.d (.str str))
  (hb:zdd str.length (lo.map (·.ev e)) (hi.map (·.ev e))=some (l,h)):ze9 P oc gl s A o (.d (.str (win str l (h-l)))) s.m:=by
 unfold yaf at ok;split at ok<;>try cases ok
 rename_i t a l' h' mx ho;simp only[Bool.and_eq_true,Option.isNone_iff_eq_none]at ok;obtain⟨⟨⟨⟨okx,ol⟩,oh⟩,rfl⟩,ht⟩:=ok;have hu:=yis ht;have h1:=zbg hs he okx;rw[hx]at h1;have h1:A.eval a=.string ⟨str.toArray⟩:=h1;have hsz:(⟨str.toArray⟩:ByteArray).size=str.length:=by simp[ByteArray.size]
 obtain⟨hr,_,_⟩:=zx0 (P:=P) hs he ol oh hb false str.length (Nat.le_refl _) s.w
 refine zbq hs (x:=.string ((⟨str.toArray⟩:ByteArray).extract l h)) ?_ ?_
 ·simp[execOp,ho,Instr.sliceAt,Instr.slice,run_underlying hu,h1,hsz,hr]
 simp[VR,DR,yfk]
end
end Go.Evl
namespace Go.Evl
open Go.RowKit
section
variable{P:Program}{oc:zel}{gl:Globs}{s:S}{A:Act}{o:Oper}{e:Env}
theorem zxf [Clk]{t:TypeId}{n:Option Nat}{b q off:Nat}{xs:List Value}{y:Value}(hc:zti P t n=true)(w:World)(hcell:∀j v,xs[j]?=some v->w.cell? ⟨b,q+j,none⟩=some v)
  (h:zy9 n xs off=some y):(loadVar t ⟨b,q+off,none⟩).run P w=.ok y w:=by
 cases n with
 |none=>
  simp only[zti,beq_iff_eq]at hc;have hy:w.cell? ⟨b,q+off,none⟩=some y:=hcell off y h;simp[loadVar,zzb hc,run_load,hy]
 |some k=>
  simp only[zti,Bool.and_eq_true,beq_iff_eq]at hc;simp only[zy9]at h
  split at h
  ·rename_i hle;obtain rfl:=Option.some.inj h;have hl:(win xs off k).length=k:=by simp[win];omega
   have hr:=run_loadCells_list (P:=P) w ⟨b,q+off,none⟩ (win xs off k) (λj v hj=>by
    have hj':xs[off+j]?=some v:=by
     simp only[win,List.getElem?_take,List.getElem?_drop]at hj
     split at hj
     ·exact hj
     cases hj
    rw[zhe,Nat.add_assoc]
    exact hcell (off+j) v hj')
   rw[hl]at hr;simp[loadVar,zzb hc.1,zhz hc.2,hr]
  cases h
theorem zlt{w:World}{t sz n:Nat}{p:Value}{xs:List Value}{b c:Nat}(h:w.ownsRow 0 t sz p n xs)(hp:p=.slice (some ⟨b,0,none⟩) n c):∀j v,xs[j]?=some v->w.cell? ⟨b,j,none⟩=some v:=by
 intro j v hj;have:=h.cells (g:=b) (by rw[hp];rfl) j v hj
 rwa[zhe,Nat.zero_add]at this
def yc4(P:Program)(gl:Globs)(o:Oper)(n:Option Nat)(a:Opd):Bool:=
 match o.op with
 |.load t x=>okX gl x a&&zti P t n
 |_=>false
theorem yiy [Clk](hs:Sim oc gl s){t:TypeId}{n:Option Nat}{v r:V}{x:Value}(hc:zti P t n=true)(hv:VR s v x)(h:z4r n s.m v=some r):
  ∃a y,x=.pointer (some a)/\(loadVar t a).run P s.w=.ok y s.w/\VR s r y:=by
 unfold z4r at h
 split at h
 ·rename_i cs off;obtain⟨b,q,rfl,hcr⟩:=hv;obtain⟨xs,hd,hcell⟩:=CR.cells cs q hcr;obtain⟨y,hy,hvy⟩:=yah (s:=s) hd h;exact⟨_,y,rfl,zxf hc s.w hcell hy,hvy⟩
 ·rename_i i off top;have h2:=hv.2
  split at h
  ·rename_i cs hl;rw[hl]at h2;obtain⟨b,hp,rfl⟩:=h2;obtain⟨b',xs,hp',hh,hvs,_⟩:=hs.objs i _ hl;have hbb:b'=b:=by rw[hp]at hp';injection hp' with e1;injection e1 with e1;injection e1 with e1 _;exact e1.symm
   subst hbb;obtain⟨y,hy,hvy⟩:=yje hvs h;refine⟨_,y,rfl,?_,hvy⟩
   have:=zxf (q:=0) hc s.w (λj v hj=>by
    rw[Nat.zero_add,cell_of_row s.w b' j xs _ (0,0) hh]
    simpa using hj) hy
   simpa using this
  ·rename_i wr tt sz l ds hl;rw[hl]at h2
   split at h
   ·rename_i hlt;subst hlt;obtain⟨b,cap,hp,rfl⟩:=h2.2 rfl;obtain⟨hz,xs,hown,hd,_⟩:=hs.objs i _ hl;obtain⟨y,hy,hvy⟩:=yah (s:=s) hd h;refine⟨_,y,rfl,?_,hvy⟩;have hcl:=zlt hown hp;have:=zxf (q:=0) hc s.w (λj v hj=>by rw[Nat.zero_add];exact hcl j v hj) hy;simpa using this
   cases h
  cases h
 cases h
theorem ydq [Clk](hs:Sim oc gl s)(he:zc9 s e A.tmps){n:Option Nat}{a:Opd}{v:V}(ok:yc4 P gl o n a=true)(h:z4r n s.m (a.ev e)=some v):zjl P s A o v:=by
 unfold yc4 at ok;split at ok<;>try cases ok
 rename_i t x ho;simp only[Bool.and_eq_true]at ok;obtain⟨ad,y,hx,hr,hv⟩:=yiy hs ok.2 (zbg hs he ok.1) h;exact zjl.mk (x:=y) (by simp[execOp,ho,Instr.loadAt,Instr.sureAddr,hx,hr]) hv
theorem z8s [Clk](hs:Sim oc gl s)(he:zc9 s e A.tmps){n:Option Nat}{a:Opd}{v:V}(ok:yc4 P gl o n a=true)(h:z4r n s.m (a.ev e)=some v):ze9 P oc gl s A o v s.m:=(ydq hs he ok h).to hs
def ygd(P:Program)(gl:Globs)(o:Oper)(n:Nat)(a x:Opd):Bool:=
 match o.op with
 |.store t b y=>okX gl b a&&okX gl y x&&zq2 P t==some n
 |_=>false
theorem zi6{α:Type}(cs:List α)(off:Nat)(xs:List α)(h:off+xs.length<=cs.length):(patch cs off xs).length=cs.length:=by
 simp[patch];omega
theorem getElem?_patch{α:Type}(cs:List α)(off:Nat)(xs:List α)(h:off<=cs.length)(j:Nat):
  (patch cs off xs)[j]?=if j<off then cs[j]? else if j<off+xs.length then xs[j-off]? else cs[j]?:=by
 unfold patch;rw[List.append_assoc,List.getElem?_append,List.length_take,Nat.min_eq_left h]
 split
 ·rename_i hj;rw[List.getElem?_take,if_pos hj]
 rename_i hj;rw[List.getElem?_append]
 split
 ·rename_i hj2;rw[if_pos (by omega)]
 rename_i hj2;rw[if_neg (by omega),List.getElem?_drop];congr 1;omega
theorem z8e{α:Type}(cs:List α)(off:Nat)(xs:List α)(k:Nat)(h:off+xs.length<=k)(hk:k<=cs.length):(patch cs off xs).take k=patch (cs.take k) off xs:=by
 apply List.ext_getElem?;intro j;rw[List.getElem?_take,getElem?_patch _ _ _ (by omega),getElem?_patch _ _ _ (by simp;omega)];simp only[List.getElem?_take]
 by_cases hj:j<k
 ·simp only[hj,if_true]
 rw[if_neg hj,if_neg (by omega),if_neg (by omega),if_neg hj]
theorem ydv(w:World)(g:Nat)(cs:Array Value)(a:Addr)(h:a.block≠g):(w.setRow g cs).cell? a=w.cell? a:=
 World.cell?_of_block (setRow_other w g a.block cs h)
theorem z1a [Clk]{t:TypeId}{n b off:Nat}{v:Value}{cur:Array Value}{ty:TypeId}(hsz:zq2 P t=some n)(w:World)(hg:w.heap[b]?=some (.cells cur ty (0,0)))(hn:v.cells.toList.length=n)
  (hle:off+n<=cur.size)(h1:∀x∈v.cells.toList,x.oneCell'=true):
  (storeVar t ⟨b,off,none⟩ v).run P w=.ok () (w.setRow b (patch cur.toList off v.cells.toList).toArray):=by
 have hr:=run_storeCells_at P b off ty v.cells.toList 0 cur w hg (by rw[hn];omega) h1;simp only[Nat.add_zero]at hr;have hn':v.cells.size=n:=by simpa using hn
 simp[storeVar,zhz hsz,hn',hr,patch]
theorem VRs.patch{cs:List V}{xs:List Value}{off:Nat}{ds:List V}{ys:List Value}(h:VRs s cs xs)(k:VRs s ds ys):VRs s (patch cs off ds) (patch xs off ys):=by
 unfold Evl.patch;rw[VRs.length _ _ k];exact VRs.append _ _ _ _ (VRs.append _ _ _ _ (VRs.take _ _ _ h) k) (VRs.drop _ _ _ h)
theorem DRs.patch{w:World}{Im:Nat->Nat->Prop}{cs:List D}{xs:List Value}{off:Nat}{ds:List D}{ys:List Value}(h:DRs w Im cs xs)(k:DRs w Im ds ys):DRs w Im (Evl.patch cs off ds) (Evl.patch xs off ys):=by
 unfold Evl.patch;rw[DRs.length _ _ k];exact DRs.append _ _ _ _ (DRs.append _ _ _ _ (DRs.take _ _ _ h) k) (DRs.drop _ _ _ h)
theorem zve [Clk](hs:Sim oc gl s){i:Id}{b:Nat}{ob o':Ob}{cur:Array Value}{ty:TypeId}(cs:Array Value)(hl:look s.m i=some ob)(hng:ob≠.gone)(hb:blk (s.φ i)=some b)
  (hg:s.w.heap[b]?=some (.cells cur ty (0,0)))(him:∀j,s.Im b j->cs[j]?=cur[j]?)(ht:zbd ob o' (s.φ i) (s.φ i))
  (ho:Ext (λ_=>True) s ⟨λk=>if i=k then s.φ i else s.φ k,upd s.m i o',s.w.setRow b cs,s.Im⟩->ObR oc ⟨λk=>if i=k then s.φ i else s.φ k,upd s.m i o',s.w.setRow b cs,s.Im⟩ (s.φ i) o'):
  Sim oc gl ⟨λk=>if i=k then s.φ i else s.φ k,upd s.m i o',s.w.setRow b cs,s.Im⟩/\Ext (λ_=>True) s ⟨λk=>if i=k then s.φ i else s.φ k,upd s.m i o',s.w.setRow b cs,s.Im⟩:=by
 refine hs.change i o' (s.φ i) (s.w.setRow b cs) s.Im rfl Tk.of rfl (by simp) (λc hc hne=>?_) (λ_ _ h=>h) (λc j hj=>?_) (λ_ _ h=>.inl h) (λc j h=>by simpa using hs.imlt c j h)
  (λc hc=>.inr ⟨⟨ob,hl,hng⟩,hc⟩) (λx hx=>by rw[hl]at hx;cases hx;exact ht) ho
 ·exact setRow_other _ _ _ _ (λe=>hne ⟨ob,hl,hng⟩ (by rw[e];exact hb))
 by_cases hcb:c=b
 ·subst hcb;rw[cell_of_row _ c j cs ty (0,0) (setRow_heap _ c cur cs ty (0,0) hg),cell_of_row _ c j cur ty (0,0) hg];exact him j hj
 exact ydv _ _ _ _ hcb
theorem zsr(φ:Id->Value)(i:Id):(λk=>if i=k then φ i else φ k)=φ:=by
 funext k;split
 ·rename_i h;rw[h]
 rfl
theorem z0h(hs:Sim oc gl s){i:Id}{off len top:Nat}{wr:Bool}{t sz n:Nat}{xs:List D}{x:Value}(hl:look s.m i=some (.row wr t sz n xs))(hw:wr=false)(hn:n=top)(hle:off+len<=n)
  (hv:VR s (.ref i off len top) x):DR s.w s.Im (.list len (if off=0/\len=n then xs else win xs (off*sz) (len*sz))) x:=by
 have h2:=hv.2;rw[hl]at h2;subst hn;subst hw;obtain⟨hz,ys,hown,hd,him⟩:=hs.objs i _ hl;have hlen:xs.length=n*sz:=(DRs.length _ _ hd).trans hown.1
 -- the cells of the row, sealed
 have row:∀b cap,s.φ i=.slice (some ⟨b,0,none⟩) n cap->CR s.w s.Im b 0 xs:=by
  intro b cap hp;have hcl:=zlt hown hp;refine CR.mk xs ys 0 hd (λj v hj=>by rw[Nat.zero_add];exact hcl j v hj) (λj hj=>?_);rw[Nat.zero_add];refine(him b (by rw[hp];rfl) j).2 ⟨rfl,?_⟩;have:=hown.1;omega
 have part:∀b cap,s.φ i=.slice (some ⟨b,0,none⟩) n cap->CR s.w s.Im b (off*sz) (win xs (off*sz) (len*sz)):=by
  intro b cap hp;have:=CR.drop (off*sz) xs 0 (row b cap hp);rw[Nat.zero_add]at this;exact CR.take _ _ _ this
 have hzero:len=0->(if off=0/\len=n then xs else win xs (off*sz) (len*sz))=[]:=by
  intro h0;subst h0
  split
  ·rename_i h;have:n=0:=h.2.symm;subst this;exact List.eq_nil_of_length_eq_zero (by simpa using hlen)
  simp[win]
 rcases h2.2 rfl with⟨rfl,rfl,hx⟩|⟨hne,b,cap,capp,hp,_,_,hlc,hx⟩|⟨hne,_,rfl,a,c,hx⟩
 ·rcases hown.2 with⟨hp,h0⟩|⟨g,cap,cur,hp,_,_,hnc,_⟩
  ·rw[hzero h0,h0];exact⟨none,0,hx.trans hp,Nat.le_refl _,.inl ⟨rfl,rfl⟩⟩
  simp only[and_self,if_true];exact⟨_,_,hx.trans hp,hnc,.inr ⟨g,0,rfl,row g cap hp⟩⟩
 ·refine⟨_,_,hx,hlc,.inr ⟨b,off*sz,rfl,?_⟩⟩
  split
  ·rename_i h;obtain⟨rfl,rfl⟩:=h;rw[Nat.zero_mul];exact row b capp hp
  exact part b capp hp
 rw[hzero rfl];exact⟨_,_,hx,Nat.zero_le _,.inl ⟨rfl,rfl⟩⟩
theorem ytq{f:Nat}{x:Value}(h:VR s (.fn f [] []) x):x=.func (.func f) #[] #[]:=by
 obtain⟨xs,ys,rfl,h1,h2⟩:=h;have e1:xs=#[]:=Array.toList_eq_nil_iff.1 h1;have e2:ys=#[]:=Array.toList_eq_nil_iff.1 h2;rw[e1,e2]
mutual
theorem zo5(hs:Sim oc gl s):∀(v:V)(d:D)(x:Value),freeze false s.m v=some d->VR s v x->DR s.w s.Im d x
 |.d y,d,x,h,hv=>by simp only[freeze,Option.some.injEq]at h;subst h;exact hv
 |.agg cs,d,x,h,hv=>by
  simp only[freeze,Option.map_eq_some_iff]at h;obtain⟨ds,h1,rfl⟩:=h;obtain⟨xs,rfl,hv⟩:=hv;exact⟨xs,rfl,z7m hs cs ds _ h1 hv⟩
 |.ref i off len top,d,x,h,hv=>by
  simp only[freeze]at h
  split at h
  ·rename_i wr t sz n xs hl
   split at h
   ·rename_i hc;obtain⟨h1,h2,h3⟩:=hc;obtain rfl:=Option.some.inj h;exact z0h hs hl (by simpa using h1) h2 h3 hv
   cases h
  cases h
 |.tup _,_,_,h,_=>by simp[freeze]at h
 |.ptr ..,_,_,h,_=>by simp[freeze]at h
 |.lptr ..,_,_,h,_=>by simp[freeze]at h
 |.cl n cs,d,x,h,hv=>by
  simp only[freeze,Option.some.injEq]at h;subst h;obtain⟨ad,rfl,hv⟩:=hv;exact⟨ad,n,rfl,Nat.le_refl _,hv⟩
 |.fn f [] [],d,x,h,hv=>by
  simp only[freeze,Option.some.injEq]at h;subst h;exact ytq hv
 |.fn _ (_::_) _,_,_,h,_=>by simp[freeze]at h
 |.fn _ [] (_::_),_,_,h,_=>by simp[freeze]at h
 |.yld _,_,_,h,_=>by simp[freeze]at h
 |.mp _,_,_,h,_=>by simp[freeze]at h
 |.it _,_,_,h,_=>by simp[freeze]at h
 |.skip,_,_,h,_=>by simp[freeze]at h
 |.undef,_,_,h,_=>by simp[freeze]at h
theorem z7m(hs:Sim oc gl s):∀(cs:List V)(ds:List D)(xs:List Value),freezeL false s.m cs=some ds->VRs s cs xs->DRs s.w s.Im ds xs
 |[],ds,xs,h,hv=>by simp only[freezeL,Option.some.injEq]at h;subst h;exact hv
 |v::r,ds,xs,h,hv=>by
  obtain⟨x,ys,rfl,h1,h2,h3⟩:=hv;simp only[freezeL]at h
  split at h
  ·rename_i d ds' e1 e2;obtain rfl:=Option.some.inj h;exact⟨x,ys,rfl,h1,zo5 hs v d x e1 h2,z7m hs r ds' ys e2 h3⟩
  cases h
end
theorem ybu(hs:Sim oc gl s){v:V}{ds:List D}{x:Value}(h:zsz s.m v=some ds)(hv:VR s v x):DRs s.w s.Im ds x.cells.toList:=by
 unfold zsz at h
 split at h
 ·rename_i cs hf;obtain rfl:=Option.some.inj h;obtain⟨xs,rfl,hd⟩:=zo5 hs v _ x hf hv;exact hd
 ·rename_i d hna hf;obtain rfl:=Option.some.inj h;have hd:=zo5 hs v _ x hf hv;cases d with
  |agg cs=>exact absurd rfl (hna cs)
  |int k n=>obtain rfl:=hd;exact⟨_,_,rfl,rfl,rfl,rfl⟩
  |bool b=>obtain rfl:=hd;exact⟨_,_,rfl,rfl,rfl,rfl⟩
  |str b=>obtain rfl:=hd;exact⟨_,_,rfl,rfl,rfl,rfl⟩
  |nil=>obtain⟨a,rfl⟩:=hd;exact⟨_,_,rfl,rfl,⟨a,rfl⟩,rfl⟩
  |list n l=>obtain⟨a,c,rfl,h⟩:=hd;exact⟨_,_,rfl,rfl,⟨a,c,rfl,h⟩,rfl⟩
  |nilp=>obtain rfl:=hd;exact⟨_,_,rfl,rfl,rfl,rfl⟩
  |nilf=>obtain rfl:=hd;exact⟨_,_,rfl,rfl,rfl,rfl⟩
  |nili=>obtain rfl:=hd;exact⟨_,_,rfl,rfl,rfl,rfl⟩
  |ifc b=>rcases hd with⟨h0,rfl⟩|⟨te,pe,rfl⟩;exact⟨_,_,rfl,rfl,.inl ⟨h0,rfl⟩,rfl⟩;exact⟨_,_,rfl,rfl,.inr ⟨te,pe,rfl⟩,rfl⟩
  |nilm=>obtain rfl:=hd;exact⟨_,_,rfl,rfl,rfl,rfl⟩
  |fn f=>obtain rfl:=hd;exact⟨_,_,rfl,rfl,rfl,rfl⟩
 cases h
theorem yha [Clk](hs:Sim oc gl s)(he:zc9 s e A.tmps){n:Nat}{a x:Opd}{m':Mem}(ok:ygd P gl o n a x=true)(h:zzg n s.m (a.ev e) (x.ev e)=some m'):ybf P oc gl s A o m':=by
 unfold ygd at ok;split at ok<;>try cases ok
 rename_i t b y ho;simp only[Bool.and_eq_true,beq_iff_eq]at ok;obtain⟨⟨okb,oky⟩,hsz⟩:=ok;have hb:=zbg hs he okb;have hy:=zbg hs he oky;generalize a.ev e=va at hb h;generalize x.ev e=vx at hy h;unfold zzg at h
 split at h
 ·rename_i i off top;have hb2:=hb.2
  split at h
  ·rename_i ty cs hl
   split at h
   ·rename_i xs hcx
    split at h
    ·rename_i hc;obtain⟨hc1,hc2⟩:=hc;obtain rfl:=Option.some.inj h;rw[hl]at hb2;obtain⟨bk,hp,hx⟩:=hb2;obtain⟨bk',cur,hp',hh,hvs,him⟩:=hs.objs i _ hl;have hbb:bk'=bk:=by rw[hp]at hp';injection hp' with e1;injection e1 with e1;injection e1 with e1 _;exact e1.symm
     subst hbb;have hvx:=VR.one hy hcx;have hlen:=VRs.length _ _ hvs;have hn:(A.eval y).cells.toList.length=n:=by rw[<-VRs.length _ _ hvx];exact hc1
     have hrun:=z1a (off:=off) hsz s.w hh hn (by simp at hlen;omega) (VRs.ones _ _ hvx);have hpl:(patch cs off xs).length=cs.length:=zi6 _ _ _ (by omega)
     obtain⟨h1,h2⟩:=zve hs (i:=i) (o':=.cells ty (patch cs off xs)) (patch cur.toList off (A.eval y).cells.toList).toArray hl (by simp) (by rw[hp];rfl) hh (λj hj=>absurd hj (him j)) ⟨rfl,rfl,hpl⟩
      (λhE=>⟨bk',_,hp,by simpa using setRow_heap s.w bk' cur _ ty (0,0) hh,by
       have:=VRs.patch (off:=off) (VRs.ext hE cs _ (λ_ _=>trivial) hvs) (VRs.ext hE xs _ (λ_ _=>trivial) hvx)
       simpa using this,him⟩)
     exact⟨_,by simp[execOp,ho,Instr.storeAt,Instr.sureAddr,hx,hrun],h1,h2,rfl⟩
    cases h
   cases h
  ·rename_i ty sz l xs hl
   split at h
   ·rename_i ds hcd
    split at h
    ·rename_i hc;obtain⟨hc1,hc2,rfl⟩:=hc;obtain rfl:=Option.some.inj h;rw[hl]at hb2;obtain⟨bk,cap,hp,hx⟩:=hb2.2 rfl;obtain⟨hz,ys,hown,hd,him⟩:=hs.objs i _ hl;have hvx:=ybu hs hcd hy
     rcases hown.2 with⟨hp',h0⟩|⟨g,cap',cur,hp',hg0,hh,hnc,hcm,hcs,htake⟩
     ·rw[hp]at hp';injection hp' with e1;cases e1
     have hbb:bk=g:=by rw[hp]at hp';injection hp' with e1;injection e1 with e1;injection e1 with e1 _
     subst hbb;have hlen:=(DRs.length _ _ hd).trans hown.1;have hn:(A.eval y).cells.toList.length=n:=by rw[<-DRs.length _ _ hvx];exact hc1
     have hcap:l*sz<=cap'*sz:=Nat.mul_le_mul_right _ hnc;have hfit:off+n<=l*sz:=by rw[<-hlen];exact hc2
     have hrun:=z1a (off:=off) hsz s.w hh hn (by omega) (DRs.ones _ _ hvx);have hpl:(patch xs off ds).length=xs.length:=zi6 _ _ _ (by omega)
     obtain⟨h1,h2⟩:=zve hs (i:=i) (o':=.row true ty sz l (patch xs off ds)) (patch cur.toList off (A.eval y).cells.toList).toArray hl (by simp) (by rw[hp];rfl) hh
      (λj hj=>absurd ((him bk (by rw[hp];rfl) j).1 hj).1 (by simp)) ⟨λh=>h,rfl,rfl,Nat.le_refl _,λ_=>rfl⟩
      (λhE=>⟨hz,patch ys off (A.eval y).cells.toList,⟨by rw[zi6 _ _ _ (by rw[hn,hown.1];exact hfit)];exact hown.1,.inr ⟨bk,cap',_,hp',hg0,by simpa using setRow_heap s.w bk cur _ ty (0,0) hh,hnc,hcm,by
        have:=zi6 cur.toList off (A.eval y).cells.toList (by rw[hn];simp;omega);simp[this,hcs],by
        simp only[];rw[<-htake]
        exact z8e _ _ _ _ (by rw[hn];exact hfit) (by simp;omega)⟩⟩,DRs.patch (DRs.ext hE.im hE.keep xs _ hd) (DRs.ext hE.im hE.keep ds _ hvx),him⟩)
     exact⟨_,by simp[execOp,ho,Instr.storeAt,Instr.sureAddr,hx,hrun],h1,h2,rfl⟩
    cases h
   cases h
  cases h
 cases h
theorem yi8 [Clk](hs:Sim oc gl s)(i:Id)(hi:look s.m i=none)(cs:List V)(xs:Array Value)(t:TypeId)(hv:VRs s cs xs.toList):
  Sim oc gl ⟨λk=>if i=k then .pointer (some ⟨s.w.heap.size,0,none⟩)else s.φ k,upd s.m i (.cells t cs),s.w.alloc (.cells xs t),s.Im⟩/\
  Ext (λ_=>True) s ⟨λk=>if i=k then .pointer (some ⟨s.w.heap.size,0,none⟩)else s.φ k,upd s.m i (.cells t cs),s.w.alloc (.cells xs t),s.Im⟩:=
 hs.change i _ _ _ s.Im rfl Tk.of rfl (by simp) (λb hb _=>heap_alloc_old _ _ _ hb) (λ_ _ h=>h)
  (λb j hj=>World.cell?_of_block (heap_alloc_old _ _ _ (hs.imlt b j hj))) (λ_ _ h=>.inl h) (λb j h=>Nat.lt_of_lt_of_le (hs.imlt b j h) (by simp))
  (λb h=>by simp[blk]at h;subst h;exact .inl (Nat.le_refl _)) (λo h=>by rw[hi]at h;cases h)
  (λhE=>⟨s.w.heap.size,xs,rfl,heap_alloc_new _ _,VRs.ext hE cs _ (λ_ _=>trivial) hv,λj hj=>absurd (hs.imlt _ j hj) (Nat.lt_irrefl _)⟩)
theorem z08(s:S)(i:Id)(b t:Nat)(cs:List V)(w:World)(Im:Nat->Nat->Prop)(φ:Id->Value)(hφ:φ i=.pointer (some ⟨b,0,none⟩)):
  VR ⟨φ,upd s.m i (.cells t cs),w,Im⟩ (.ptr i 0 0) (.pointer (some ⟨b,0,none⟩)):=by
 refine⟨rfl,?_⟩;show ymd (φ i) 0 0 _ (look (upd s.m i (.cells t cs)) i);rw[zbh,hφ];exact⟨b,rfl,rfl⟩
theorem z93{v:Value}(h:zrh v=true):v=.slice none 0 0:=by
 unfold zrh at h
 split at h
 ·rfl
 cases h
theorem zpz [Clk](cx:Cx)(slot:Nat):∀(is:List yen)(vals:List Value)(s:S),Sim oc gl s->zwd vals is=true->
  ∃φ',Sim oc gl ⟨φ',(zbs cx slot is s.m).2,s.w,s.Im⟩/\Ext (λ_=>True) s ⟨φ',(zbs cx slot is s.m).2,s.w,s.Im⟩/\VRs ⟨φ',(zbs cx slot is s.m).2,s.w,s.Im⟩ (zbs cx slot is s.m).1 vals
 |[],vals,s,hs,ok=>by
  cases vals<;>simp[zwd]at ok;exact⟨s.φ,hs,Ext.refl _ _,rfl⟩
 |.z d::r,vals,s,hs,ok=>by
  cases vals with
  |nil=>simp[zwd]at ok
  |cons v vals=>
   simp only[zwd,Bool.and_eq_true]at ok;obtain⟨φ',h1,h2,h3⟩:=zpz cx slot r vals s hs ok.2;exact⟨φ',h1,h2,⟨v,vals,rfl,ok.1.1,zt5 _ _ _ _ ok.1.2,h3⟩⟩
 |.own sp::r,vals,s,hs,ok=>by
  cases vals with
  |nil=>simp[zwd]at ok
  |cons v vals=>
   simp only[zwd,Bool.and_eq_true,decide_eq_true_eq]at ok;obtain⟨⟨hn,hz⟩,ok⟩:=ok;obtain rfl:=z93 hn;obtain⟨k1,k2⟩:=z78 hs (newId cx slot s.m) (zed _ _ _) sp hz;obtain⟨φ',h1,h2,h3⟩:=zpz cx slot r vals _ k1 ok;refine⟨φ',h1,k2.trans h2 (λ_ h=>h),⟨_,vals,rfl,rfl,?_,h3⟩⟩;exact VR.ext h2 (.ref (newId cx slot s.m) 0 0 0) _ (λ_ _=>trivial) (zji s _ (.slice none 0 0) rfl _ _ _ _ _ _ _ _ (by simp))
def yf4(P:Program)(o:Oper)(ty:Nat)(cs:List yen):Bool:=
 match o.op with
 |.alloc t=>t==ty&&(match z60 P t with|some vals=>zwd vals cs|none=>false)
 |_=>false
theorem ya8 [Clk]{t:TypeId}{vals:List Value}(h:z60 P t=some vals):∃z,(∀w,(zeroValue t).run P w=.ok z w)/\z.cells.toList=vals:=by
 unfold z60 at h;cases hi:P.info? t with
 |none=>simp[hi]at h
 |some i=>
  cases hz:i.zero with
  |none=>simp[hi,hz]at h
  |some z=>
   simp[hi,hz]at h;exact⟨z,λw=>by simp[zeroValue,typeInfo,hi,hz],by simpa using h⟩
theorem ygz [Clk](hs:Sim oc gl s)(cx:Cx)(slot:Nat){ty:Nat}{cs:List yen}(ok:yf4 P o ty cs=true):
  ze9 P oc gl s A o (.ptr (newId cx slot (zbs cx slot cs s.m).2) 0 0) (upd (zbs cx slot cs s.m).2 (newId cx slot (zbs cx slot cs s.m).2) (.cells ty (zbs cx slot cs s.m).1)):=by
 unfold yf4 at ok;split at ok<;>try cases ok
 rename_i t ho;simp only[Bool.and_eq_true,beq_iff_eq]at ok;obtain⟨rfl,ok⟩:=ok;split at ok<;>try cases ok
 rename_i vals hz;obtain⟨z,hzr,hzc⟩:=ya8 hz;obtain⟨φ',h1,h2,h3⟩:=zpz cx slot cs vals s hs ok;obtain⟨k1,k2⟩:=yi8 h1 (newId cx slot (zbs cx slot cs s.m).2) (zed _ _ _) _ z.cells t (by rw[hzc];exact h3);refine⟨_,.pointer (some ⟨s.w.heap.size,0,none⟩),?_,k1,h2.trans k2 (λ_ h=>h),rfl,z08 ⟨φ',(zbs cx slot cs s.m).2,s.w,s.Im⟩ _ _ _ _ _ _ _ (by simp)⟩;simp[execOp,ho,Instr.alloc,hzr,newVar,newRow,run_newObj]
def yvs(gl:Globs)(o:Oper)(ty:Nat)(x:Opd):Bool:=
 match o.op with
 |.box t y=>t==ty&&okX gl y x
 |_=>false
theorem ypw [Clk](hs:Sim oc gl s)(he:zc9 s e A.tmps)(cx:Cx)(slot:Nat){ty:Nat}{x:Opd}{cs:List V}(ok:yvs gl o ty x=true)(h:cellsOf (x.ev e)=some cs):
  ze9 P oc gl s A o (.ptr (newId cx slot s.m) 0 0) (upd s.m (newId cx slot s.m) (.cells ty cs)):=by
 unfold yvs at ok;split at ok<;>try cases ok
 rename_i t y ho;simp only[Bool.and_eq_true,beq_iff_eq]at ok;obtain⟨rfl,ok⟩:=ok;have hv:=VR.one (zbg hs he ok) h;obtain⟨k1,k2⟩:=yi8 hs (newId cx slot s.m) (zed _ _ _) cs (A.eval y).cells t hv;refine⟨_,.pointer (some ⟨s.w.heap.size,0,none⟩),?_,k1,k2,rfl,z08 s _ _ _ _ _ _ _ (by simp)⟩;simp[execOp,ho,Instr.box,newVar,newRow,run_newObj]
theorem ycu(off:Nat):∀(vs:List Value)(k:Nat)(cells:Array Value),off+k+vs.length<=cells.size->
  ((vs.zipIdx k).foldl (λcs p=>cs.setIfInBounds (off+p.2) p.1) cells).toList=patch cells.toList (off+k) vs
 |[],k,cells,_=>by simp[patch]
 |v::r,k,cells,h=>by
  simp only[List.zipIdx_cons,List.foldl_cons];rw[ycu off r (k+1) _ (by simp at h⊢;omega)];apply List.ext_getElem?;intro j;simp only[List.length_cons]at h;rw[getElem?_patch _ _ _ (by simp;omega),getElem?_patch _ _ _ (by simp;omega)];simp only[Array.toList_setIfInBounds,List.getElem?_set,List.length_cons,Array.length_toList]
  by_cases h1:j<off+k
  ·have:¬(off+k=j):=by omega
   simp[h1,this,show j<off+(k+1)by omega]
  by_cases h2:j=off+k
  ·subst h2;simp[show off+k<off+(k+1)by omega,show off+k<cells.size by omega]
  have h3:¬(off+k=j):=by omega
  by_cases h4:j<off+k+(r.length+1)
  ·have e1:j-(off+k)=(j-(off+(k+1)))+1:=by omega
   simp[h1,show ¬j<off+(k+1)by omega,h4,show j<off+(k+1)+r.length by omega,e1]
  simp[h1,h3,show ¬j<off+(k+1)by omega,h4,show ¬j<off+(k+1)+r.length by omega]
theorem z7x(off:Nat)(v:Value)(cells:Array Value)(h:off+v.cells.size<=cells.size):
  (v.cells.zipIdx.foldl (λcs p=>cs.setIfInBounds (off+p.2) p.1) cells).toList=patch cells.toList off v.cells.toList:=by
 have:=ycu off v.cells.toList 0 cells (by simpa using h);rw[<-Array.foldl_toList,Array.toList_zipIdx];simpa using this
def yhn(s:S)(place:Nat->Option (Nat×Nat)):List (Nat×Nat×V)->List (Nat×Value)->Prop
 |[],xs=>xs=[]
 |(off,n,v)::r,xs=>∃i x q,xs=(i,x)::q/\place i=some (off,n)/\VR s v x/\yhn s place r q
theorem yni(place:Nat->Option (Nat×Nat)):∀(parts:List (Nat×Nat×V))(q:List (Nat×Value))(cs out:List V)(cells:Array Value),yhn s place parts q->VRs s cs cells.toList->
  yce cs parts=some out->∃r,Instr.fill place cells q=some r/\VRs s out r.toList
 |[],q,cs,out,cells,hp,hv,h=>by
  simp only[yhn]at hp;subst hp;simp only[yce,Option.some.injEq]at h;subst h;exact⟨cells,rfl,hv⟩
 |(off,n,v)::r,q,cs,out,cells,hp,hv,h=>by
  obtain⟨i,x,q',rfl,hpl,hvx,hp⟩:=hp;simp only[yce]at h
  split at h
  ·rename_i xs hc
   split at h
   ·rename_i hn;obtain⟨hn1,hn2⟩:=hn;have hvs:=VR.one hvx hc;have hl1:=VRs.length _ _ hvs;have hl2:=VRs.length _ _ hv;simp only[Array.length_toList]at hl1 hl2;have hle:off+x.cells.size<=cells.size:=by omega
    have hlaid:=z7x off x cells hle;obtain⟨res,k1,k2⟩:=yni place r q' (patch cs off xs) out (x.cells.zipIdx.foldl (λcs p=>cs.setIfInBounds (off+p.2) p.1) cells) hp (by rw[hlaid];exact VRs.patch hv hvs) h;refine⟨res,?_,k2⟩;have hsz:¬(x.cells.size≠n\/off+x.cells.size>cells.size):=by omega
    simp only[Instr.fill,hpl];rw[if_neg (by simpa using hsz)];exact k1
   cases h
  cases h
def yf5(P:Program)(gl:Globs)(o:Oper)(zero:List yen)(parts:List (Nat×Nat×Opd)):Bool:=
 match o.op with
 |.build t ps=>(match z60 P t,yt5 P t with|some vals,some place=>zwd vals zero&&z0o gl place ps.toList parts|_,_=>false)
 |_=>false
theorem z8a{place:Nat->Option (Nat×Nat)}(hs:Sim oc gl s)(he:zc9 s e A.tmps):∀(ps:List (Nat×Operand))(parts:List (Nat×Nat×Opd)),z0o gl place ps parts=true->
  yhn s place (zy5 e parts) (ps.map λp=>(p.1,A.eval p.2))
 |[],[],_=>rfl
 |[],_::_,h=>by simp[z0o]at h
 |(i,a)::r,[],h=>by simp[z0o]at h
 |(i,a)::r,(off,n,x)::q,h=>by
  simp only[z0o,Bool.and_eq_true,beq_iff_eq]at h;exact⟨i,A.eval a,_,rfl,h.1.1,zbg hs he h.1.2,z8a hs he r q h.2⟩
theorem yg0 [Clk](hs:Sim oc gl s)(he:zc9 s e A.tmps)(cx:Cx)(slot:Nat){zero:List yen}{parts:List (Nat×Nat×Opd)}{cs:List V}(ok:yf5 P gl o zero parts=true)
  (h:yce (zbs cx slot zero s.m).1 (zy5 e parts)=some cs):ze9 P oc gl s A o (yf0 cs) (zbs cx slot zero s.m).2:=by
 unfold yf5 at ok;split at ok<;>try cases ok
 rename_i t ps ho;split at ok<;>try cases ok
 rename_i vals place hz hpl;simp only[Bool.and_eq_true]at ok;obtain⟨φ',h1,h2,h3⟩:=zpz cx slot zero vals s hs ok.1;have he':zc9 ⟨φ',(zbs cx slot zero s.m).2,s.w,s.Im⟩ e A.tmps:=zc9.ext h2 (λ_ _ _=>trivial) he;have hparts:=z8a (A:=A) h1 he' ps.toList parts ok.2
 -- the type's zero and places
 unfold z60 at hz;cases hi:P.info? t with
 |none=>simp[hi]at hz
 |some it=>
  cases hzz:it.zero with
  |none=>simp[hi,hzz]at hz
  |some z=>
   simp[hi,hzz]at hz;obtain⟨r,hr,hvr⟩:=yni place _ _ _ cs z.cells hparts (by rw[hz];exact h3) h
   have hb:P.built t (ps.map λ(i,x)=>(i,A.eval x)).toList=some r:=by
    unfold Program.built;unfold yt5 at hpl;simp only[hi];cases hu:P.underlying t with
    |none=>simp[hu]at hpl
    |some d=>
     cases d<;>simp only[hu]at hpl<;>try cases hpl
     ·rename_i n el;cases hie:P.info? el with
      |none=>simp[hie]at hpl
      |some ie=>
       simp[hie]at hpl;simp only[hzz,hie];rw[<-hr];subst hpl;simp
     rename_i fs;simp only[Option.map_eq_some_iff]at hpl;obtain⟨l,hl,rfl⟩:=hpl;simp only[hzz,hl];rw[<-hr];simp
   refine⟨⟨φ',(zbs cx slot zero s.m).2,s.w,s.Im⟩,.agg r,?_,h1,h2,rfl,yi3 hvr⟩;have:=run_build s.w t (ps.map λ(i,x)=>(i,A.eval x)) r hb;simp only[execOp,ho,Sem.run_bind,this,Result.andThen_ok]
   rfl
end
end Go.Evl
