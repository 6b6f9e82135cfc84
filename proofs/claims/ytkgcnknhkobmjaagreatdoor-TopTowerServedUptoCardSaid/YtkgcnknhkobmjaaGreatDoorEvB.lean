
/-
 The evaluator is sound, first part: how data, memory and operations of the evaluator stand for the model's.
-/
import Derived.Test.YtkgcnknhkobmjaaGreatDoorEvX
import Derived.CallsIn
import Derived.Below
import Derived.Laws.AppendOwn
import Derived.Deep.Draws
import Derived.Laws.Tables
import Derived.Laws.MakeOwn
import Derived.Laws.CopyRow
import Derived.Laws.Build
import Derived.Laws.Cells
import Derived.Lib.Strings
namespace Go.Evl
open Go.RowKit
structure S where
 φ:Id->Value
 m:Mem
 w:World
 Im:Nat->Nat->Prop
def one (v:Value):Prop:=v.oneCell'=true
mutual
def DR (w:World) (Im:Nat->Nat->Prop):D->Value->Prop
 | .int k n,v=>v= .int k n
 | .bool b,v=>v= .bool b
 | .str s,v=>v= .string ⟨s.toArray⟩
 | .nil,v=>∃a,v= .slice a 0 0
 | .list n cs,v=>∃a cap,v= .slice a n cap/\n<=cap/\((n=0/\cs=[])\/∃b o,a=some ⟨b,o,none⟩/\CR w Im b o cs)
 | .agg cs,v=>∃xs,v= .agg xs/\DRs w Im cs xs.toList
 | .nilp,v=>v= .pointer none
 | .nilf,v=>v= .nilFunc
 | .nili,v=>v= .nilIface
 | .ifc b,v=>(b=false/\v= .nilIface)\/∃te pe,v= .iface te pe
 | .nilm,v=>v= .map none
 | .fn f,v=>v= .func (.func f) #[] #[]
def CR (w:World) (Im:Nat->Nat->Prop) (b o:Nat):List D->Prop
 | []=>True
 | d::r=>Im b o/\(∃x,w.cell? ⟨b,o,none⟩=some x/\one x/\DR w Im d x)/\CR w Im b (o+1) r
def DRs (w:World) (Im:Nat->Nat->Prop):List D->List Value->Prop
 | [],xs=>xs=[]
 | d::r,xs=>∃x ys,xs=x::ys/\one x/\DR w Im d x/\DRs w Im r ys
end
def blk:Value->Option Nat
 | .pointer (some a)=>some a.block
 | .slice (some a) _ _=>some a.block
 | .map (some b)=>some b
 | _=>none
def yi9 (p:Value) (off len top:Nat) (v:Value) (sz n:Nat):Prop:=
 top<=n/\(n=top->(off=0/\len=n/\v=p)\/
   (¬(off=0/\len=n)/\∃b cap capp,p= .slice (some ⟨b,0,none⟩) n capp/\off+len<=n/\(off<n/\off+cap=capp)/\len<=cap/\v= .slice (some ⟨b,off*sz,none⟩) len cap)\/
   (¬(off=0/\len=n)/\off=n/\len=0/\∃a c,v= .slice a 0 c))
def yi0 (p:Value) (off len top:Nat) (v:Value):Option Ob->Prop
 | some (.row _ _ sz n _)=>top<=n/\(n=top->(off=0/\len=n/\v=p)\/
   (¬(off=0/\len=n)/\∃b cap capp,p= .slice (some ⟨b,0,none⟩) n capp/\off+len<=n/\(off<n/\off+cap=capp)/\len<=cap/\v= .slice (some ⟨b,off*sz,none⟩) len cap)\/
   (¬(off=0/\len=n)/\off=n/\len=0/\∃a c,v= .slice a 0 c))
 | some (.bag _ sz n _)=>yi9 p off len top v sz n
 | some .gone=>True
 | some (.map _)=>True
 | _=>False
def yiz (p:Value) (off top:Nat) (v:Value):Option Ob->Prop
 | some (.cells ..)=>∃b,p= .pointer (some ⟨b,0,none⟩)/\v= .pointer (some ⟨b,off,none⟩)
 | some (.row _ _ _ n _)=>top<=n/\(n=top->∃b cap,p= .slice (some ⟨b,0,none⟩) n cap/\v= .pointer (some ⟨b,off,none⟩))
 | some (.bag _ _ n _)=>top<=n/\(n=top->∃b cap,p= .slice (some ⟨b,0,none⟩) n cap/\v= .pointer (some ⟨b,off,none⟩))
 | some .gone=>True
 | some (.map _)=>True
 | _=>False
def ynb (p:Value) (v:Value):Option Ob->Prop
 | some (.loop ..)=>∃l,p= .pointer (some ⟨l,0,none⟩)/\v= .func (.yield l) #[] #[]
 | some .gone=>True
 | some (.map _)=>True
 | _=>False
def MpR (p:Value) (v:Value):Option Ob->Prop
 | some (.map _)=>v=p
 | some .gone=>v=p
 | _=>False
def ItR (p:Value) (v:Value):Option Ob->Prop
 | some (.iter ..)=>v=p
 | some .gone=>v=p
 | some (.map _)=>v=p
 | _=>False
mutual
def VR (s:S):V->Value->Prop
 | .d x,v=>DR s.w s.Im x v
 | .agg cs,v=>∃xs,v= .agg xs/\VRs s cs xs.toList
 | .tup cs,v=>∃xs,v= .tuple xs/\VRt s cs xs.toList
 | .ref o off len top,v=>one v/\yi0 (s.φ o) off len top v (look s.m o)
 | .ptr o off top,v=>one v/\yiz (s.φ o) off top v (look s.m o)
 | .lptr cs off,v=>∃b o,v= .pointer (some ⟨b,o+off,none⟩)/\CR s.w s.Im b o cs
 | .cl n cs,v=>∃ad,v= .slice ad n n/\((n=0/\cs=[])\/∃b o,ad=some ⟨b,o,none⟩/\CR s.w s.Im b o cs)
 | .fn f a b,v=>∃xs ys,v= .func (.func f) xs ys/\VRt s a xs.toList/\VRt s b ys.toList
 | .yld o,v=>one v/\ynb (s.φ o) v (look s.m o)
 | .mp o,v=>one v/\MpR (s.φ o) v (look s.m o)
 | .it o,v=>one v/\ItR (s.φ o) v (look s.m o)
 | .skip,v=>v=undef
 | .undef,_=>True
def VRs (s:S):List V->List Value->Prop
 | [],xs=>xs=[]
 | d::r,xs=>∃x ys,xs=x::ys/\one x/\VR s d x/\VRs s r ys
def VRt (s:S):List V->List Value->Prop
 | [],xs=>xs=[]
 | d::r,xs=>∃x ys,xs=x::ys/\VR s d x/\VRt s r ys
end
def za4:Ob->Ob->Value->Value->Prop
 | .cells t a,.cells u b,p,q=>q=p/\u=t/\b.length=a.length
 | .row wr t sz n _,.row wr' t' sz' n' _,p,q=>(wr'=true->wr=true)/\t'=t/\sz'=sz/\n<=n'/\(n'=n->q=p)
 | .row wr t sz n _,.bag t' sz' n' _,p,q=>wr=true/\t'=t/\sz'=sz/\n<=n'/\(n'=n->q=p)
 | .bag t sz n _,.row _ t' sz' n' _,p,q=>t'=t/\sz'=sz/\n<=n'/\(n'=n->q=p)
 | .bag t sz n _,.bag t' sz' n' _,p,q=>t'=t/\sz'=sz/\n<=n'/\(n'=n->q=p)
 | .map _,.map _,p,q=>q=p
 | .map _,.gone,p,q=>q=p
 | .gone,.map _,p,q=>q=p
 | .gone,.gone,p,q=>q=p
 | .iter ..,.iter ..,p,q=>q=p
 | .loop _ ps a b lv _ _ _,.loop _ ps' a' b' lv' _ _ _,p,q=>q=p/\ps'=ps/\a'=a/\b'=b/\lv'=lv
 | .loop ..,.gone,_,_=>True
 | .loop ..,.map _,_,_=>True
 | .row ..,.gone,_,_=>True
 | .row ..,.map _,_,_=>True
 | .bag ..,.gone,_,_=>True
 | .bag ..,.map _,_,_=>True
 | _,_,_,_=>False
def zuz (s:S) (b:Nat):Prop:=∀i o,look s.m i=some o->o≠ .gone->blk (s.φ i)≠some b
class Clk where
 on:Prop
structure Tk [Clk] (w w':World):Prop where
 tape:w'.tape=w.tape
 drawn:Clk.on->w.drawn<=w'.drawn
theorem Tk.of [Clk] {w w':World} (h:w'.tape=w.tape:=by rfl) (d:w.drawn<=w'.drawn:=by first |exact Nat.le_refl _|exact Nat.le_add_right _ _|(simp;done)):Tk w w':=⟨h,fun _=>d⟩
theorem Tk.trans [Clk] {a b c:World} (h:Tk b c) (k:Tk a b):Tk a c:=⟨h.tape.trans k.tape,fun o=>Nat.le_trans (k.drawn o) (h.drawn o)⟩
structure Ext [Clk] (K:Id->Prop) (s s':S):Prop where
 os:s'.w.os=s.w.os
 tape:Tk s.w s'.w
 output:s'.w.output=s.w.output
 size:s.w.heap.size<=s'.w.heap.size
 frame:∀b,b<s.w.heap.size->zuz s b->s'.w.heap[b]? =s.w.heap[b]? /\zuz s' b
 imnew:∀b j,s'.Im b j->s.Im b j\/s.w.heap.size<=b\/¬zuz s b
 im:∀b j,s.Im b j->s'.Im b j
 keep:∀b j,s.Im b j->s'.w.cell? ⟨b,j,none⟩=s.w.cell? ⟨b,j,none⟩
 objs:∀i o,K i->look s.m i=some o->∃o',look s'.m i=some o'/\za4 o o' (s.φ i) (s'.φ i)
structure ybf (K:Id->Prop) (s s':S):Prop where
 im:∀b j,s.Im b j->s'.Im b j
 keep:∀b j,s.Im b j->s'.w.cell? ⟨b,j,none⟩=s.w.cell? ⟨b,j,none⟩
 objs:∀i o,K i->look s.m i=some o->∃o',look s'.m i=some o'/\za4 o o' (s.φ i) (s'.φ i)
theorem Ext.to0 [Clk] {K:Id->Prop} {s s':S} (h:Ext K s s'):ybf K s s':=⟨h.im,h.keep,h.objs⟩
theorem za4.refl:∀(o:Ob) (p:Value),za4 o o p p:=by
 intro o p;cases o<;>simp [za4]
theorem za4.trans {a b c:Ob} {p q r:Value} (h:za4 a b p q) (k:za4 b c q r):za4 a c p r:=by
 cases a<;>cases b<;>simp [za4] at h<;>cases c<;>simp [za4] at k ⊢
 all_goals first |(obtain⟨h1,h2,h3⟩:=h;obtain⟨k1,k2,k3⟩:=k;exact⟨k1.trans h1,k2.trans h2,k3.trans h3⟩)|skip
 all_goals first |(exact k.trans h)|skip
 all_goals grind
theorem Ext.refl [Clk] (K:Id->Prop) (s:S):Ext K s s:=
 ⟨rfl,Tk.of,rfl,Nat.le_refl _,fun _ _ h=>⟨rfl,h⟩,fun _ _ h=> .inl h,fun _ _ h=>h,fun _ _ _=>rfl,fun _ o _ h=>⟨o,h,za4.refl _ _⟩⟩
theorem Ext.trans [Clk] {K K':Id->Prop} {a b c:S} (h:Ext K a b) (k:Ext K' b c) (hK:∀i,K i->K' i):Ext K a c:=by
 refine⟨k.os.trans h.os,k.tape.trans h.tape,k.output.trans h.output,Nat.le_trans h.size k.size,fun x hx hf=> ?_,fun x j hi=> ?_,
  fun x j hi=>k.im _ _ (h.im _ _ hi),fun x j hi=>(k.keep _ _ (h.im _ _ hi)).trans (h.keep _ _ hi),fun i o hi ho=> ?_⟩
 ·obtain⟨h1,h2⟩:=h.frame x hx hf
  obtain⟨k1,k2⟩:=k.frame x (Nat.lt_of_lt_of_le hx h.size) h2
  exact⟨k1.trans h1,k2⟩
 ·rcases k.imnew x j hi with h1|h1|h1
  ·exact h.imnew x j h1
  ·exact .inr (.inl (Nat.le_trans h.size h1))
  ·rcases Nat.lt_or_ge x a.w.heap.size with hlt|hge
   ·exact .inr (.inr fun hf=>h1 (h.frame x hlt hf).2)
   ·exact .inr (.inl hge)
 ·obtain⟨o1,h1,t1⟩:=h.objs i o hi ho
  obtain⟨o2,h2,t2⟩:=k.objs i o1 (hK i hi) h1
  exact⟨o2,h2,t1.trans t2⟩
theorem Ext.mono [Clk] {K K':Id->Prop} {a b:S} (h:Ext K a b) (hK:∀i,K' i->K i):Ext K' a b:=
 ⟨h.os,h.tape,h.output,h.size,h.frame,h.imnew,h.im,h.keep,fun i o hi ho=>h.objs i o (hK i hi) ho⟩
section
variable {w w' : World} {Im Im' : Nat -> Nat -> Prop}
mutual
theorem DR.ext (hi:∀b j,Im b j->Im' b j) (hk:∀b j,Im b j->w'.cell? ⟨b,j,none⟩=w.cell? ⟨b,j,none⟩):∀(d:D) (v:Value),DR w Im d v->DR w' Im' d v
 | .int ..,_,h=>by simpa only [DR] using h
 | .bool _,_,h=>by simpa only [DR] using h
 | .str _,_,h=>by simpa only [DR] using h
 | .nil,_,h=>by simpa only [DR] using h
 | .nilp,_,h=>by simpa only [DR] using h
 | .nilf,_,h=>by simpa only [DR] using h
 | .nili,_,h=>by simpa only [DR] using h
 | .ifc _,_,h=>by simpa only [DR] using h
 | .nilm,_,h=>by simpa only [DR] using h
 | .fn _,_,h=>by simpa only [DR] using h
 | .list n cs,v,h=>by
  simp only [DR] at h ⊢
  obtain⟨a,cap,hv,hc,h⟩:=h
  refine⟨a,cap,hv,hc,?_⟩
  rcases h with h|⟨b,o,ha,h⟩
  ·exact .inl h
  ·exact .inr ⟨b,o,ha,CR.ext hi hk b o cs h⟩
 | .agg cs,v,h=>by
  simp only [DR] at h ⊢
  obtain⟨xs,hv,h⟩:=h
  exact⟨xs,hv,DRs.ext hi hk cs _ h⟩
theorem CR.ext (hi:∀b j,Im b j->Im' b j) (hk:∀b j,Im b j->w'.cell? ⟨b,j,none⟩=w.cell? ⟨b,j,none⟩) (b o:Nat):∀(cs:List D),CR w Im b o cs->CR w' Im' b o cs
 | [],_=>by simp only [CR]
 | d::r,h=>by
  simp only [CR] at h ⊢
  obtain⟨h1,⟨x,h2,h3,h4⟩,h5⟩:=h
  exact⟨hi _ _ h1,⟨x,(hk _ _ h1).trans h2,h3,DR.ext hi hk d x h4⟩,CR.ext hi hk b (o+1) r h5⟩
theorem DRs.ext (hi:∀b j,Im b j->Im' b j) (hk:∀b j,Im b j->w'.cell? ⟨b,j,none⟩=w.cell? ⟨b,j,none⟩):∀(cs:List D) (xs:List Value),DRs w Im cs xs->DRs w' Im' cs xs
 | [],_,h=>by simpa only [DRs] using h
 | d::r,xs,h=>by
  simp only [DRs] at h ⊢
  obtain⟨x,ys,h1,h2,h3,h4⟩:=h
  exact⟨x,ys,h1,h2,DR.ext hi hk d x h3,DRs.ext hi hk r ys h4⟩
end
end
theorem yi0.turned {o o':Ob} {p p' v:Value} {a b c:Nat} (h:yi0 p a b c v (some o)) (t:za4 o o' p p'):yi0 p' a b c v (some o'):=by
 have key:∀ {sz n n':Nat},yi9 p a b c v sz n->n<=n'->(n'=n->p'=p)->yi9 p' a b c v sz n':=by
  intro sz n n' h h1 h2
  have h0:=h.1
  refine⟨by omega,fun e=> ?_⟩
  rw [h2 (by omega)]
  have hn:=h.2 (by omega)
  have e2:n=n':=Nat.le_antisymm h1 (by omega)
  rw [<-e2]
  exact hn
 cases o<;>simp only [yi0] at h<;>cases o'<;>simp only [za4,yi0] at t ⊢
 ·obtain⟨_,_,rfl,h1,h2⟩:=t;exact key h h1 h2
 ·obtain⟨_,_,rfl,h1,h2⟩:=t;exact key h h1 h2
 ·obtain⟨_,rfl,h1,h2⟩:=t;exact key h h1 h2
 ·obtain⟨_,rfl,h1,h2⟩:=t;exact key h h1 h2
theorem yiz.turned {o o':Ob} {p p' v:Value} {a c:Nat} (h:yiz p a c v (some o)) (t:za4 o o' p p'):yiz p' a c v (some o'):=by
 have key:∀ {n n':Nat},(c<=n/\(n=c->∃b cap,p= .slice (some ⟨b,0,none⟩) n cap/\v= .pointer (some ⟨b,a,none⟩)))->n<=n'->(n'=n->p'=p)->
   (c<=n'/\(n'=c->∃b cap,p'= .slice (some ⟨b,0,none⟩) n' cap/\v= .pointer (some ⟨b,a,none⟩))):=by
  intro n n' h h1 h2
  have h0:=h.1
  refine⟨by omega,fun e=> ?_⟩
  rw [h2 (by omega)]
  have hn:=h.2 (by omega)
  have e2:n=n':=Nat.le_antisymm h1 (by omega)
  rw [<-e2]
  exact hn
 cases o<;>simp only [yiz] at h<;>cases o'<;>simp only [za4,yiz] at t ⊢
 ·obtain⟨rfl,_⟩:=t;exact h
 ·obtain⟨_,_,rfl,h1,h2⟩:=t;exact key h h1 h2
 ·obtain⟨_,_,rfl,h1,h2⟩:=t;exact key h h1 h2
 ·obtain⟨_,rfl,h1,h2⟩:=t;exact key h h1 h2
 ·obtain⟨_,rfl,h1,h2⟩:=t;exact key h h1 h2
theorem ynb.turned {o o':Ob} {p p' v:Value} (h:ynb p v (some o)) (t:za4 o o' p p'):ynb p' v (some o'):=by
 cases o<;>simp only [ynb] at h<;>cases o'<;>simp only [za4,ynb] at t ⊢
 obtain⟨rfl,_⟩:=t;exact h
theorem MpR.turned {o o':Ob} {p p' v:Value} (h:MpR p v (some o)) (t:za4 o o' p p'):MpR p' v (some o'):=by
 cases o<;>simp only [MpR] at h<;>cases o'<;>simp only [za4,MpR] at t ⊢
 all_goals (subst t;exact h)
theorem ItR.turned {o o':Ob} {p p' v:Value} (h:ItR p v (some o)) (t:za4 o o' p p'):ItR p' v (some o'):=by
 cases o<;>simp only [ItR] at h<;>cases o'<;>simp only [za4,ItR] at t ⊢
 all_goals (subst t;exact h)
theorem yi0.some {p v:Value} {a b c:Nat} {x:Option Ob} (h:yi0 p a b c v x):∃o,x=some o:=by
 cases x with
 | none=>simp [yi0] at h
 | some o=>exact⟨o,rfl⟩
theorem yiz.some {p v:Value} {a c:Nat} {x:Option Ob} (h:yiz p a c v x):∃o,x=some o:=by
 cases x with
 | none=>simp [yiz] at h
 | some o=>exact⟨o,rfl⟩
theorem ynb.some {p v:Value} {x:Option Ob} (h:ynb p v x):∃o,x=some o:=by
 cases x with
 | none=>simp [ynb] at h
 | some o=>exact⟨o,rfl⟩
theorem MpR.some {p v:Value} {x:Option Ob} (h:MpR p v x):∃o,x=some o:=by
 cases x with
 | none=>simp [MpR] at h
 | some o=>exact⟨o,rfl⟩
theorem ItR.some {p v:Value} {x:Option Ob} (h:ItR p v x):∃o,x=some o:=by
 cases x with
 | none=>simp [ItR] at h
 | some o=>exact⟨o,rfl⟩
section
variable {K : Id -> Prop} {s s' : S}
mutual
theorem VR.ext0 (h:ybf K s s'):∀(v:V) (x:Value),(∀i∈ids v,K i)->VR s v x->VR s' v x
 | .d d,x,_,hv=>by simp only [VR] at hv ⊢;exact DR.ext h.im h.keep d x hv
 | .agg cs,x,hk,hv=>by
  simp only [VR] at hv ⊢
  obtain⟨xs,hx,hv⟩:=hv
  exact⟨xs,hx,VRs.ext0 h cs _ (by simpa only [ids] using hk) hv⟩
 | .tup cs,x,hk,hv=>by
  simp only [VR] at hv ⊢
  obtain⟨xs,hx,hv⟩:=hv
  exact⟨xs,hx,VRt.ext0 h cs _ (by simpa only [ids] using hk) hv⟩
 | .ref o a b c,x,hk,hv=>by
  simp only [VR] at hv ⊢
  obtain⟨h1,hv⟩:=hv
  obtain⟨ob,ho⟩:=hv.some
  obtain⟨ob',ho',t⟩:=h.objs o ob (hk o (by simp [ids])) ho
  rw [ho] at hv;rw [ho'];exact⟨h1,hv.turned t⟩
 | .ptr o a b,x,hk,hv=>by
  simp only [VR] at hv ⊢
  obtain⟨h1,hv⟩:=hv
  obtain⟨ob,ho⟩:=hv.some
  obtain⟨ob',ho',t⟩:=h.objs o ob (hk o (by simp [ids])) ho
  rw [ho] at hv;rw [ho'];exact⟨h1,hv.turned t⟩
 | .lptr cs off,x,_,hv=>by
  simp only [VR] at hv ⊢
  obtain⟨b,o,hx,hv⟩:=hv
  exact⟨b,o,hx,CR.ext h.im h.keep b o cs hv⟩
 | .cl n cs,x,_,hv=>by
  simp only [VR] at hv ⊢
  obtain⟨ad,hx,hv⟩:=hv
  exact⟨ad,hx,hv.imp id fun⟨b,o,h1,h2⟩=>⟨b,o,h1,CR.ext h.im h.keep b o cs h2⟩⟩
 | .fn f a b,x,hk,hv=>by
  simp only [VR] at hv ⊢
  obtain⟨xs,ys,hx,h1,h2⟩:=hv
  exact⟨xs,ys,hx,VRt.ext0 h a _ (fun i hi=>hk i (by simp [ids,hi])) h1,VRt.ext0 h b _ (fun i hi=>hk i (by simp [ids,hi])) h2⟩
 | .yld o,x,hk,hv=>by
  simp only [VR] at hv ⊢
  obtain⟨h1,hv⟩:=hv
  obtain⟨ob,ho⟩:=hv.some
  obtain⟨ob',ho',t⟩:=h.objs o ob (hk o (by simp [ids])) ho
  rw [ho] at hv;rw [ho'];exact⟨h1,hv.turned t⟩
 | .mp o,x,hk,hv=>by
  simp only [VR] at hv ⊢
  obtain⟨h1,hv⟩:=hv
  obtain⟨ob,ho⟩:=hv.some
  obtain⟨ob',ho',t⟩:=h.objs o ob (hk o (by simp [ids])) ho
  rw [ho] at hv;rw [ho'];exact⟨h1,hv.turned t⟩
 | .it o,x,hk,hv=>by
  simp only [VR] at hv ⊢
  obtain⟨h1,hv⟩:=hv
  obtain⟨ob,ho⟩:=hv.some
  obtain⟨ob',ho',t⟩:=h.objs o ob (hk o (by simp [ids])) ho
  rw [ho] at hv;rw [ho'];exact⟨h1,hv.turned t⟩
 | .skip,x,_,hv=>by simpa only [VR] using hv
 | .undef,x,_,_=>by simp only [VR]
theorem VRs.ext0 (h:ybf K s s'):∀(cs:List V) (xs:List Value),(∀i∈idsL cs,K i)->VRs s cs xs->VRs s' cs xs
 | [],_,_,hv=>by simpa only [VRs] using hv
 | d::r,xs,hk,hv=>by
  simp only [VRs] at hv ⊢
  obtain⟨x,ys,h1,h2,h3,h4⟩:=hv
  exact⟨x,ys,h1,h2,VR.ext0 h d x (fun i hi=>hk i (by simp [idsL,hi])) h3,VRs.ext0 h r ys (fun i hi=>hk i (by simp [idsL,hi])) h4⟩
theorem VRt.ext0 (h:ybf K s s'):∀(cs:List V) (xs:List Value),(∀i∈idsL cs,K i)->VRt s cs xs->VRt s' cs xs
 | [],_,_,hv=>by simpa only [VRt] using hv
 | d::r,xs,hk,hv=>by
  simp only [VRt] at hv ⊢
  obtain⟨x,ys,h1,h3,h4⟩:=hv
  exact⟨x,ys,h1,VR.ext0 h d x (fun i hi=>hk i (by simp [idsL,hi])) h3,VRt.ext0 h r ys (fun i hi=>hk i (by simp [idsL,hi])) h4⟩
end
theorem VR.ext [Clk] (h:Ext K s s') (v:V) (x:Value) (hk:∀i∈ids v,K i) (hv:VR s v x):VR s' v x:=VR.ext0 h.to0 v x hk hv
theorem VRs.ext [Clk] (h:Ext K s s') (cs:List V) (xs:List Value) (hk:∀i∈idsL cs,K i) (hv:VRs s cs xs):VRs s' cs xs:=VRs.ext0 h.to0 cs xs hk hv
theorem VRt.ext [Clk] (h:Ext K s s') (cs:List V) (xs:List Value) (hk:∀i∈idsL cs,K i) (hv:VRt s cs xs):VRt s' cs xs:=VRt.ext0 h.to0 cs xs hk hv
end
end Go.Evl
namespace Go.Evl
open Go.RowKit
theorem za6:∀(m:Mem) (i:Id) (o:Ob),look (upd m i o) i=some o
 | [],i,o=>by simp [upd,look]
 | (j,x)::r,i,o=>by
  simp only [upd]
  split
  ·simp [look]
  ·rename_i h;simp only [look,h,if_false];exact za6 r i o
theorem zay:∀(m:Mem) (i k:Id) (o:Ob),i≠k->look (upd m i o) k=look m k
 | [],i,k,o,h=>by simp [upd,look,h]
 | (j,x)::r,i,k,o,h=>by
  simp only [upd]
  split
  ·rename_i e;subst e;simp [look,h]
  ·simp only [look];split
   ·rfl
   ·exact zay r i k o h
theorem zie (m:Mem) (i k:Id) (o:Ob):look (upd m i o) k=if i=k then some o else look m k:=by
 split
 ·rename_i h;subst h;exact za6 m i o
 ·rename_i h;exact zay m i k o h
theorem zi0:∀(e:Env) (t:Nat) (v:V),get (put e t v) t=v
 | [],t,v=>by simp [put,get]
 | (u,x)::r,t,v=>by
  simp only [put]
  split
  ·simp [get]
  ·rename_i h;simp only [get,h,if_false];exact zi0 r t v
theorem zlw:∀(e:Env) (t u:Nat) (v:V),t≠u->get (put e t v) u=get e u
 | [],t,u,v,h=>by simp [put,get,h]
 | (a,x)::r,t,u,v,h=>by
  simp only [put]
  split
  ·rename_i e;subst e;simp [get,h]
  ·simp only [get];split
   ·rfl
   ·exact zlw r t u v h
theorem zyg (p:Nat×V->Bool) (hp:∀t v v',p (t,v)=p (t,v')):∀(e:Env) (t:Nat),get (e.filter p) t=get e t\/get (e.filter p) t= .undef
 | [],t=> .inl rfl
 | (u,x)::r,t=>by
  by_cases hu:u=t
  ·subst hu
   by_cases hx:p (u,x)=true
   ·simp [hx,get]
   ·refine .inr ?_
    rw [List.filter_cons,if_neg hx]
    have:∀(r:Env),get (r.filter p) u= .undef:=by
     intro r
     induction r with
     | nil=>rfl
     | cons y r ih=>
      obtain⟨a,b⟩:=y
      rw [List.filter_cons]
      split
      ·rename_i hy
       simp only [get]
       split
       ·rename_i e;subst e;exact absurd ((hp a b x).symm.trans hy) hx
       ·exact ih
      ·exact ih
    exact this r
  ·have ih:=zyg p hp r t
   rw [List.filter_cons]
   split
   ·simp only [get,hu,if_false];exact ih
   ·simp only [get,hu,if_false];exact ih
theorem z0e (lv slot:Nat):∀(m:Mem) (i:Id) (o:Ob),look m i=some o->i.lv=lv->i.slot=slot->i.k<freeK lv slot m
 | [],i,o,h,_,_=>by simp [look] at h
 | (j,x)::r,i,o,h,h1,h2=>by
  simp only [look] at h
  split at h
  ·rename_i e;subst e
   simp only [freeK,h1,h2,and_self,if_true]
   omega
  ·have:=z0e lv slot r i o h h1 h2
   simp only [freeK]
   split<;>omega
theorem zc3 (cx:Cx) (slot:Nat) (m:Mem):look m (zcn cx slot m)=none:=by
 cases h:look m (zcn cx slot m) with
 | none=>rfl
 | some o=>exact absurd (z0e cx.lv slot m _ o h rfl rfl) (by simp [zcn])
theorem zk7 (v:Value) (b:Nat) (h:v.ownBlock=some b):blk v=some b:=by
 cases v<;>simp [Value.ownBlock] at h
 rename_i a n c
 cases a<;>simp at h
 subst h;rfl
abbrev zdj:=Nat->C->Code->Prop
def zcc (s:S) (e:Env) (tmps:Array Value):Prop:=∀t,VR s (get e t) (tmps.getD t undef)
def yvp:D->Prop
 | .int .. | .bool _| .str _| .agg _=>True
 | _=>False
def zoy (s:S):List (D×V)->List MapEntry->Prop
 | [],es=>es=[]
 | (k,v)::r,es=>∃e q,es=e::q/\yvp k/\DR s.w s.Im k e.key/\VR s v e.val/\zoy s r q
def ym9 (es:List (D×V)):Prop:=es.Pairwise fun a b=>eqD a.1 b.1=some false/\eqD b.1 a.1=some false
def zsi (s:S) (es:List (D×V)) (q:List MapEntry):Prop:=zoy s es q\/(ym9 es/\(q.map (·.key)).Nodup/\∃q',q'.Perm q/\zoy s es q')
def zsq:ymy->Code
 | .exit id=> .exit id
 | .ret=> .ret
def yec (busy over:Bool):LoopState:=if busy then .busy else if over then .done else .ready
def ztm (ces:Array MapEntry) (clock:Nat):Prop:=(∀x∈ces.toList,x.born<clock)/\(ces.toList.map (·.born)).Nodup/\(ces.toList.map (·.key)).Nodup
def yvs (sz n:Nat) (ds ds':List D):Prop:=ds.length=n*sz/\ds'.length=n*sz/\(zto sz n ds).Perm (zto sz n ds')
def ObR (oc:zdj) (s:S) (p:Value):Ob->Prop
 | .cells t cs=>∃b xs,p= .pointer (some ⟨b,0,none⟩)/\s.w.heap[b]? =some (.cells xs t (0,0))/\VRs s cs xs.toList/\∀j,¬s.Im b j
 | .row wr t sz n ds=>0<sz/\∃xs,s.w.ownsRow 0 t sz p n xs/\DRs s.w s.Im ds xs/\∀b,p.ownBlock=some b->∀j,s.Im b j↔(wr=false/\j<n*sz)
 | .map es=>∃b ces clock,p= .map (some b)/\s.w.heap[b]? =some (.map ces clock)/\zsi s es ces.toList/\ztm ces clock
 | .bag t sz n ds=>0<sz/\∃ds' xs,yvs sz n ds ds'/\s.w.ownsRow 0 t sz p n xs/\DRs s.w s.Im ds' xs/\∀b,p.ownBlock=some b->∀j,¬s.Im b j
 | .iter str pos=>∃b,p= .pointer (some ⟨b,0,none⟩)/\s.w.heap[b]? =some (.stringIter ⟨str.toArray⟩ pos)
 | .loop e ps a b _ busy over jump=>∃l L,p= .pointer (some ⟨l,0,none⟩)/\s.w.heap[l]? =some (.loop L)/\L.params=ps.toArray/\(∀t∈ps,t<L.tmps.size)/\zcc s e L.tmps/\
   oc L.tmps.size a L.assign/\oc L.tmps.size b L.body/\L.state=yec busy over/\L.pending=jump.map zsq
 | .gone=>True
def yuo (gl:Globs) (s:S):Prop:=∀g cs,(g,cs)∈gl->zuz s g/\cs≠[]/\∃arr t fz,s.w.heap[g]? =some (.cells arr t fz)/\arr.size=cs.length
theorem yuo.ext [Clk] {K:Id->Prop} {gl:Globs} {s s':S} (h:yuo gl s) (hE:Ext K s s'):yuo gl s':=fun g cs hg=>by
 obtain⟨h1,h2,arr,t,fz,h3,h4⟩:=h g cs hg
 obtain⟨k1,k2⟩:=hE.frame g (Array.getElem?_eq_some_iff.1 h3).1 h1
 exact⟨k2,h2,arr,t,fz,k1.trans h3,h4⟩
structure Sim (oc:zdj) (gl:Globs) (s:S):Prop where
 objs:∀i o,look s.m i=some o->ObR oc s (s.φ i) o
 apart:∀i j o o' b,i≠j->look s.m i=some o->look s.m j=some o'->o≠ .gone->o'≠ .gone->blk (s.φ i)=some b->blk (s.φ j)≠some b
 imlt:∀b j,s.Im b j->b<s.w.heap.size
 glob:∀g cs,(g,cs)∈gl->CR s.w s.Im g 0 cs
 tabs:yuo gl s
theorem ObR.blk_lt {oc:zdj} {s:S} {p:Value} {o:Ob} (h:ObR oc s p o) (hg:o≠ .gone) {b:Nat} (hb:blk p=some b):b<s.w.heap.size:=by
 cases o with
 | cells t cs=>
  obtain⟨b',xs,rfl,hh,_⟩:=h
  simp [blk] at hb;subst hb
  exact(Array.getElem?_eq_some_iff.1 hh).1
 | row wr t sz n ds=>
  obtain⟨_,xs,ho,_⟩:=h
  rcases ho.2 with⟨rfl,_⟩|⟨g,cap,cur,rfl,_,hh,_⟩
  ·simp [blk] at hb
  ·simp [blk] at hb;subst hb
   exact(Array.getElem?_eq_some_iff.1 hh).1
 | map es=>
  obtain⟨b',ces,cl,rfl,hh,_⟩:=h
  simp [blk] at hb;subst hb
  exact(Array.getElem?_eq_some_iff.1 hh).1
 | bag t sz n ds=>
  obtain⟨_,ds',xs,_,ho,_⟩:=h
  rcases ho.2 with⟨rfl,_⟩|⟨g,cap,cur,rfl,_,hh,_⟩
  ·simp [blk] at hb
  ·simp [blk] at hb;subst hb
   exact(Array.getElem?_eq_some_iff.1 hh).1
 | iter s p=>
  obtain⟨b',rfl,hh⟩:=h
  simp [blk] at hb;subst hb
  exact(Array.getElem?_eq_some_iff.1 hh).1
 | loop e ps a c lv bu ov j=>
  obtain⟨l,L,rfl,hh,_⟩:=h
  simp [blk] at hb;subst hb
  exact(Array.getElem?_eq_some_iff.1 hh).1
 | gone=>exact absurd rfl hg
theorem zoy.ext0 {K:Id->Prop} {s s':S} (h:ybf K s s'):∀(es:List (D×V)) (q:List MapEntry),(∀i∈idsM es,K i)->zoy s es q->zoy s' es q
 | [],_,_,hm=>hm
 | (k,v)::r,_,hk,hm=>by
  obtain⟨e,q,hq,h1,h2,h3,h4⟩:=hm
  exact⟨e,q,hq,h1,DR.ext h.im h.keep k _ h2,VR.ext0 h v _ (fun i hi=>hk i (by simp [idsM,hi])) h3,zoy.ext0 h r q (fun i hi=>hk i (by simp [idsM,hi])) h4⟩
theorem zsi.ext0 {K:Id->Prop} {s s':S} (h:ybf K s s') (es:List (D×V)) (q:List MapEntry) (hk:∀i∈idsM es,K i) (hm:zsi s es q):zsi s' es q:=by
 rcases hm with hm|⟨hd,hn,q',hp,hm⟩
 ·exact .inl (zoy.ext0 h es q hk hm)
 ·exact .inr ⟨hd,hn,q',hp,zoy.ext0 h es q' hk hm⟩
theorem zoy.len {s:S}:∀(es:List (D×V)) (q:List MapEntry),zoy s es q->es.length=q.length
 | [],q,h=>by simp only [zoy] at h;subst h;rfl
 | _::r,q,h=>by
  obtain⟨e,q1,rfl,_,_,_,h4⟩:=h
  simp [zoy.len r q1 h4]
theorem zsi.len {s:S} {es:List (D×V)} {q:List MapEntry} (h:zsi s es q):es.length=q.length:=by
 rcases h with h|⟨_,_,q',hp,h⟩
 ·exact zoy.len es q h
 ·rw [zoy.len es q' h,hp.length_eq]
theorem zsi.ext [Clk] {s s':S} (h:Ext (fun _=>True) s s') (es:List (D×V)) (q:List MapEntry) (hm:zsi s es q):zsi s' es q:=zsi.ext0 h.to0 es q (fun _ _=>trivial) hm
theorem zcc.ext0 {K:Id->Prop} {s s':S} (h:ybf K s s') {e:Env} {tmps:Array Value} (hk:∀t,∀i∈ids (get e t),K i) (he:zcc s e tmps):zcc s' e tmps:=
 fun t=>VR.ext0 h _ _ (hk t) (he t)
theorem zcc.ext [Clk] {K:Id->Prop} {s s':S} (h:Ext K s s') {e:Env} {tmps:Array Value} (hk:∀t,∀i∈ids (get e t),K i) (he:zcc s e tmps):zcc s' e tmps:=
 fun t=>VR.ext h _ _ (hk t) (he t)
theorem z7b:∀(e:Env) (t:Nat) (i:Id),i∈ids (get e t)->i∈yi3 e
 | [],t,i,h=>by simp [get,ids] at h
 | (u,v)::r,t,i,h=>by
  simp only [get] at h
  split at h
  ·simp [yi3,h]
  ·simp [yi3,z7b r t i h]
theorem ObR.ext0 {oc:zdj} {K:Id->Prop} {s s':S} (h:ybf K s s') {p:Value} {o:Ob} (hk:∀i∈idsO o,K i) (hb:∀b,blk p=some b->s'.w.heap[b]? =s.w.heap[b]? /\∀j,s'.Im b j->s.Im b j)
  (ho:ObR oc s p o):ObR oc s' p o:=by
 cases o with
 | cells t cs=>
  obtain⟨b,xs,rfl,hh,hv,hi⟩:=ho
  obtain⟨h1,h2⟩:=hb b rfl
  exact⟨b,xs,rfl,h1.trans hh,VRs.ext0 h cs _ hk hv,fun j hj=>hi j (h2 j hj)⟩
 | row wr t sz n ds=>
  obtain⟨hz,xs,hown,hd,hi⟩:=ho
  refine⟨hz,xs,?_,DRs.ext h.im h.keep ds xs hd,fun b hbb j=> ?_⟩
  ·refine⟨hown.1,?_⟩
   rcases hown.2 with hn|⟨g,cap,cur,rfl,h0,hh,rest⟩
   ·exact .inl hn
   ·exact .inr ⟨g,cap,cur,rfl,h0,(hb g rfl).1.trans hh,rest⟩
  ·obtain⟨h1,h2⟩:=hb b (zk7 _ _ hbb)
   exact⟨fun hj=>(hi b hbb j).1 (h2 j hj),fun hj=>h.im _ _ ((hi b hbb j).2 hj)⟩
 | map es=>
  obtain⟨b,ces,cl,rfl,hh,hm,hst⟩:=ho
  exact⟨b,ces,cl,rfl,(hb b rfl).1.trans hh,zsi.ext0 h es _ hk hm,hst⟩
 | bag t sz n ds=>
  obtain⟨hz,ds',xs,hp,hown,hd,hi⟩:=ho
  refine⟨hz,ds',xs,hp,?_,DRs.ext h.im h.keep ds' xs hd,fun b hbb j hj=> ?_⟩
  ·refine⟨hown.1,?_⟩
   rcases hown.2 with hn|⟨g,cap,cur,rfl,h0,hh,rest⟩
   ·exact .inl hn
   ·exact .inr ⟨g,cap,cur,rfl,h0,(hb g rfl).1.trans hh,rest⟩
  ·obtain⟨h1,h2⟩:=hb b (zk7 _ _ hbb)
   exact hi b hbb j (h2 j hj)
 | iter str pos=>
  obtain⟨b,rfl,hh⟩:=ho
  exact⟨b,rfl,(hb b rfl).1.trans hh⟩
 | loop e ps a c lv bu ov j=>
  obtain⟨l,L,rfl,hh,h1,h2,h3,h4⟩:=ho
  exact⟨l,L,rfl,(hb l rfl).1.trans hh,h1,h2,zcc.ext0 h (fun t i hi=>hk i (z7b e t i hi)) h3,h4⟩
 | gone=>trivial
theorem ObR.ext [Clk] {oc:zdj} {s s':S} (h:Ext (fun _=>True) s s') {p:Value} {o:Ob} (hb:∀b,blk p=some b->s'.w.heap[b]? =s.w.heap[b]? /\∀j,s'.Im b j->s.Im b j)
  (ho:ObR oc s p o):ObR oc s' p o:=ObR.ext0 h.to0 (fun _ _=>trivial) hb ho
theorem Sim.change [Clk] {oc:zdj} {gl:Globs} {s:S} (hs:Sim oc gl s) (i:Id) (o':Ob) (p':Value) (w':World) (Im':Nat->Nat->Prop)
  (hos:w'.os=s.w.os) (htape:Tk s.w w') (hout:w'.output=s.w.output) (hsize:s.w.heap.size<=w'.heap.size)
  (hheap:∀b,b<s.w.heap.size->((∃o,look s.m i=some o/\o≠ .gone)->blk (s.φ i)≠some b)->w'.heap[b]? =s.w.heap[b]?)
  (him:∀b j,s.Im b j->Im' b j) (hkeep:∀b j,s.Im b j->w'.cell? ⟨b,j,none⟩=s.w.cell? ⟨b,j,none⟩)
  (hnew:∀b j,Im' b j->s.Im b j\/blk p'=some b) (hlt:∀b j,Im' b j->b<w'.heap.size)
  (hp:∀b,blk p'=some b->s.w.heap.size<=b\/(∃o,look s.m i=some o/\o≠ .gone)/\blk (s.φ i)=some b)
  (ht:∀o,look s.m i=some o->za4 o o' (s.φ i) p')
  (ho:Ext (fun _=>True) s ⟨fun k=>if i=k then p' else s.φ k,upd s.m i o',w',Im'⟩->ObR oc ⟨fun k=>if i=k then p' else s.φ k,upd s.m i o',w',Im'⟩ p' o'):
  Sim oc gl ⟨fun k=>if i=k then p' else s.φ k,upd s.m i o',w',Im'⟩/\Ext (fun _=>True) s ⟨fun k=>if i=k then p' else s.φ k,upd s.m i o',w',Im'⟩:=by
 have hE:Ext (fun _=>True) s ⟨fun k=>if i=k then p' else s.φ k,upd s.m i o',w',Im'⟩:=by
  refine⟨hos,htape,hout,hsize,fun b hb hf=>⟨?_,?_⟩,fun b j hi=> ?_,him,hkeep,fun k o _ hk=> ?_⟩
  ·exact hheap b hb fun⟨o,h1,h2⟩=>hf i o h1 h2
  ·intro k o hk hg
   simp only [zie] at hk
   split at hk
   ·rename_i e;subst e
    simp only [if_true]
    intro hb'
    rcases hp b hb' with h1|⟨⟨o,h1,h2⟩,h3⟩
    ·omega
    ·exact hf i o h1 h2 h3
   ·rename_i e
    simp only [e,if_false]
    exact hf k o hk hg
  ·rcases hnew b j hi with h1|h1
   ·exact .inl h1
   ·rcases hp b h1 with h2|⟨⟨o,h2,h3⟩,h4⟩
    ·exact .inr (.inl h2)
    ·exact .inr (.inr fun hf=>hf i o h2 h3 h4)
  ·simp only [zie]
   by_cases e:i=k
   ·subst e
    simp only [if_true]
    exact⟨o',rfl,ht o hk⟩
   ·simp only [e,if_false]
    exact⟨o,hk,za4.refl _ _⟩
 refine⟨⟨fun k o hk=> ?_,fun a b x y c hab ha hb hx hy hc=> ?_,hlt,fun g cs hg=>CR.ext him hkeep g 0 cs (hs.glob g cs hg),hs.tabs.ext hE⟩,hE⟩
 ·simp only [zie] at hk
  by_cases e:i=k
  ·subst e
   simp only [if_true] at hk ⊢
   obtain rfl:=Option.some.inj hk
   exact ho hE
  ·simp only [e,if_false] at hk ⊢
   by_cases hg:o= .gone
   ·subst hg;trivial
   refine ObR.ext hE (fun b hb=> ?_) (hs.objs k o hk)
   have hbl:=(hs.objs k o hk).blk_lt hg hb
   have hne:(∃o,look s.m i=some o/\o≠ .gone)->blk (s.φ i)≠some b:=fun⟨x,h1,h2⟩ h3=>hs.apart i k x o b e h1 hk h2 hg h3 hb
   refine⟨hheap b hbl hne,fun j hj=> ?_⟩
   rcases hnew b j hj with h1|h1
   ·exact h1
   ·rcases hp b h1 with h2|⟨h2,h3⟩
    ·omega
    ·exact absurd h3 (hne h2)
 ·simp only [zie] at ha hb
  by_cases e:i=a
  ·subst e
   have e':i≠b:=hab
   simp only [e',if_false] at hb
   simp only [if_true] at ha hc
   simp only [e',if_false]
   intro h
   rcases hp c hc with h2|⟨⟨o,h2,h3⟩,h4⟩
   ·exact absurd ((hs.objs b y hb).blk_lt hy h) (by omega)
   ·exact hs.apart i b o y c hab h2 hb h3 hy h4 h
  ·simp only [e,if_false] at ha hc
   by_cases e':i=b
   ·subst e'
    simp only [if_true] at hb ⊢
    intro h
    rcases hp c h with h2|⟨⟨o,h2,h3⟩,h4⟩
    ·exact absurd ((hs.objs a x ha).blk_lt hx hc) (by omega)
    ·exact hs.apart a i x o c hab ha h2 hx h3 hc h4
   ·simp only [e',if_false] at hb ⊢
    exact hs.apart a b x y c hab ha hb hx hy hc
theorem Sim.calm [Clk] {oc:zdj} {gl:Globs} {s:S} (hs:Sim oc gl s) (w':World) (Im':Nat->Nat->Prop)
  (hos:w'.os=s.w.os) (htape:Tk s.w w') (hout:w'.output=s.w.output) (hsize:s.w.heap.size<=w'.heap.size)
  (hheap:∀b,b<s.w.heap.size->w'.heap[b]? =s.w.heap[b]?) (him:∀b j,s.Im b j->Im' b j) (hnew:∀b j,Im' b j->s.Im b j\/s.w.heap.size<=b) (hlt:∀b j,Im' b j->b<w'.heap.size):
  Sim oc gl ⟨s.φ,s.m,w',Im'⟩/\Ext (fun _=>True) s ⟨s.φ,s.m,w',Im'⟩:=by
 have hkeep:∀b j,s.Im b j->w'.cell? ⟨b,j,none⟩=s.w.cell? ⟨b,j,none⟩:=fun b j hi=>World.cell?_of_block (hheap b (hs.imlt b j hi))
 have hE:Ext (fun _=>True) s ⟨s.φ,s.m,w',Im'⟩:=
  ⟨hos,htape,hout,hsize,fun b hb hf=>⟨hheap b hb,hf⟩,fun b j hi=>(hnew b j hi).imp id .inl,him,hkeep,fun k o _ hk=>⟨o,hk,za4.refl _ _⟩⟩
 refine⟨⟨fun k o hk=> ?_,hs.apart,hlt,fun g cs hg=>CR.ext him hkeep g 0 cs (hs.glob g cs hg),hs.tabs.ext hE⟩,hE⟩
 by_cases hg:o= .gone
 ·subst hg;trivial
 refine ObR.ext hE (fun b hb=> ?_) (hs.objs k o hk)
 have hbl:=(hs.objs k o hk).blk_lt hg hb
 refine⟨hheap b hbl,fun j hj=> ?_⟩
 rcases hnew b j hj with h1|h1
 ·exact h1
 ·omega
end Go.Evl
namespace Go.Evl
open Go.RowKit
def zph:Value->Bool
 | .slice none 0 0=>true
 | _=>false
mutual
def ziz:D->Value->Bool
 | .int l b,v=>(match v with| .int k a=>decide (k=l)&&decide (a=b)|_=>false)
 | .bool b,v=>(match v with| .bool a=>a==b|_=>false)
 | .str l,v=>(match v with| .string s=>s.data.toList==l|_=>false)
 | .list m cs,v=>(match v with| .slice a n c=>a.isNone&&n==0&&c==0&&m==0&&cs.isEmpty|_=>false)
 | .nil,v=>(match v with| .slice _ n c=>n==0&&c==0|_=>false)
 | .nilp,v=>(match v with| .pointer a=>a.isNone|_=>false)
 | .nilf,v=>(match v with| .nilFunc=>true|_=>false)
 | .nili,v=>(match v with| .nilIface=>true|_=>false)
 | .ifc _,_=>false
 | .nilm,v=>(match v with| .map a=>a.isNone|_=>false)
 | .fn _,_=>false
 | .agg cs,v=>(match v with| .agg xs=>zpb cs xs.toList|_=>false)
def zpb:List D->List Value->Bool
 | [],xs=>xs.isEmpty
 | d::q,xs=>(match xs with|x::r=>x.oneCell'&&ziz d x&&zpb q r|[]=>false)
end
mutual
theorem zrw (w:World) (Im:Nat->Nat->Prop):∀(d:D) (v:Value),ziz d v=true->DR w Im d v
 | .int k a,v,h=>by
  cases v<;>simp only [ziz,Bool.false_eq_true] at h
  simp at h;obtain⟨rfl,rfl⟩:=h;rfl
 | .bool a,v,h=>by
  cases v<;>simp only [ziz,Bool.false_eq_true] at h
  simp at h;subst h;rfl
 | .str l,v,h=>by
  cases v<;>simp only [ziz,Bool.false_eq_true] at h
  rename_i b;cases b;simp at h;subst h;simp [DR]
 | .nil,v,h=>by
  cases v<;>simp only [ziz,Bool.false_eq_true] at h
  simp at h;obtain⟨rfl,rfl⟩:=h;exact⟨_,rfl⟩
 | .list m cs,v,h=>by
  cases v<;>simp only [ziz,Bool.false_eq_true] at h
  simp at h
  obtain⟨⟨⟨⟨h1,rfl⟩,rfl⟩,rfl⟩,rfl⟩:=h
  exact⟨_,_,rfl,Nat.le_refl _,.inl ⟨rfl,rfl⟩⟩
 | .nilp,v,h=>by
  cases v<;>simp only [ziz,Bool.false_eq_true] at h
  simp at h;subst h;rfl
 | .nilf,v,h=>by cases v<;>simp only [ziz,Bool.false_eq_true] at h;rfl
 | .nili,v,h=>by cases v<;>simp only [ziz,Bool.false_eq_true] at h;rfl
 | .ifc _,v,h=>by simp [ziz] at h
 | .fn _,v,h=>by simp [ziz] at h
 | .nilm,v,h=>by
  cases v<;>simp only [ziz,Bool.false_eq_true] at h
  simp at h;subst h;rfl
 | .agg cs,v,h=>by
  cases v<;>simp only [ziz,Bool.false_eq_true] at h
  exact⟨_,rfl,zrx w Im cs _ h⟩
theorem zrx (w:World) (Im:Nat->Nat->Prop):∀(cs:List D) (xs:List Value),zpb cs xs=true->DRs w Im cs xs
 | [],xs,h=>by
  cases xs
  ·rfl
  ·simp [zpb] at h
 | d::q,xs,h=>by
  cases xs
  ·simp [zpb] at h
  ·simp only [zpb,Bool.and_eq_true] at h
   exact⟨_,_,rfl,h.1.1,zrw w Im d _ h.1.2,zrx w Im q _ h.2⟩
end
def okX (gl:Globs):Operand->Opd->Bool
 | .tmp a,.t b=>a==b
 | .const v,.k (.d d)=>ziz d v
 | .func f,.k (.fn g a b)=>f==g&&a.isEmpty&&b.isEmpty
 | .global g,.k (.lptr cs off)=>off==0&&gl.any fun p=>p.1==g&&zln p.2 cs
 | _,_=>false
def yk5 (gl:Globs):List Operand->List Opd->Bool
 | [],[]=>true
 | a::r,x::q=>okX gl a x&&yk5 gl r q
 | _,_=>false
def okX? (gl:Globs):Option Operand->Option Opd->Bool
 | none,none=>true
 | some a,some x=>okX gl a x
 | _,_=>false
def yod (x:Operand):Bool:=
 match x with
 | .const v=>zph v
 | _=>false
def ztq:List Value->List ybl->Bool
 | [],[]=>true
 | v::r,.z d::q=>v.oneCell'&&ziz d v&&ztq r q
 | v::r,.own s::q=>zph v&&decide (0<s.sz)&&ztq r q
 | _,_=>false
def zm4 (P:Program) (t:TypeId):Option Nat:=(P.info? t).map (·.size)
def zys (P:Program) (t:TypeId):Option (List Value):=((P.info? t).bind (·.zero)).map (·.cells.toList)
def z4x (P:Program) (t:TypeId):Option Bool:=(P.underlying t).map fun| .struct _| .array _ _=>true|_=>false
def zrb (P:Program) (t:TypeId) (n:Option Nat):Bool:=
 match n with
 | none=>z4x P t==some false
 | some k=>z4x P t==some true&&zm4 P t==some k
def zm5 (P:Program) (t:TypeId):Option TypeId:=
 match P.underlying t with
 | some (.slice e)=>some e
 | _=>none
def ymi (P:Program) (e:TypeId) (r:zcp):Bool:=
 r.t==e&&decide (0<r.sz)&&(match P.info? e with
  | some i=>i.size==r.sz&&i.bytes==r.by_&&(match i.zero with|some z=>z.cells.size==r.sz|none=>false)
  | none=>false)
def zyk (gl:Globs) (place:Nat->Option (Nat×Nat)):List (Nat×Operand)->List (Nat×Nat×Opd)->Bool
 | [],[]=>true
 | (i,a)::r,(off,n,x)::q=>(place i==some (off,n))&&okX gl a x&&zyk gl place r q
 | _,_=>false
def yqe (P:Program) (t:TypeId):Option (Nat->Option (Nat×Nat)):=
 match P.underlying t with
 | some (.array _ e)=>(P.info? e).map fun i=>fun j=>some (j*i.size,i.size)
 | some (.struct fs)=>(fs.toList.mapM fun f=>(P.info? f.type).map fun i=>(f.offset,i.size)).map fun l=>fun j=>l.toArray[j]?
 | _=>none
def zyi (gl:Globs) (i:Nat):List (Nat×Operand)->List Opd->Bool
 | [],[]=>true
 | (j,a)::r,x::q=>j==i&&okX gl a x&&zyi gl (i+1) r q
 | _,_=>false
theorem za1 {oc:zdj} {gl:Globs} {s:S} (hs:Sim oc gl s) {e:Env} {A:Act} (he:zcc s e A.tmps) {a:Operand} {x:Opd} (h:okX gl a x=true):VR s (x.ev e) (A.eval a):=by
 cases a<;>cases x<;>simp [okX] at h
 ·subst h;exact he _
 ·rename_i v y;cases y<;>simp at h
  exact zrw _ _ _ _ h
 ·rename_i g y
  cases y<;>simp at h
  obtain⟨rfl,g',cs',h1,rfl,h3⟩:=h
  obtain rfl:=zfq _ _ h3
  exact⟨_,0,rfl,hs.glob _ _ h1⟩
 ·rename_i f y
  cases y<;>simp at h
  obtain⟨⟨rfl,rfl⟩,rfl⟩:=h
  exact⟨#[],#[],rfl,rfl,rfl⟩
theorem zr9 {oc:zdj} {gl:Globs} {s:S} (hs:Sim oc gl s) {e:Env} {A:Act} (he:zcc s e A.tmps):∀(as:List Operand) (xs:List Opd),yk5 gl as xs=true->VRt s (evs e xs) (as.map A.eval)
 | [],[],_=>rfl
 | [],_::_,h=>by simp [yk5] at h
 | _::_,[],h=>by simp [yk5] at h
 | a::r,x::q,h=>by
  simp only [yk5,Bool.and_eq_true] at h
  exact⟨_,_,rfl,za1 hs he h.1,zr9 hs he r q h.2⟩
def zdk [Clk] (P:Program) (oc:zdj) (gl:Globs) (s:S) (A:Act) (o:Oper) (v:V) (m':Mem):Prop:=
 ∃(s':S) (x:Value),(execOp A.eval o).run P s.w= .ok (.value x) s'.w/\Sim oc gl s'/\Ext (fun _=>True) s s'/\s'.m=m'/\VR s' v x
def z8x [Clk] (P:Program) (oc:zdj) (gl:Globs) (s:S) (A:Act) (o:Oper) (m':Mem):Prop:=
 ∃s':S,(execOp A.eval o).run P s.w= .ok .skip s'.w/\Sim oc gl s'/\Ext (fun _=>True) s s'/\s'.m=m'
section
variable {P : Program} {oc : zdj} {gl : Globs} {s : S} {A : Act} {o : Oper} {e : Env}
theorem za8 [Clk] (hs:Sim oc gl s) {v:V} {x:Value} (hr:(execOp A.eval o).run P s.w= .ok (.value x) s.w) (hv:VR s v x):zdk P oc gl s A o v s.m:=
 ⟨s,x,hr,hs,Ext.refl _ _,rfl,hv⟩
def zhs [Clk] (P:Program) (s:S) (A:Act) (o:Oper) (v:V):Prop:=∃x:Value,(execOp A.eval o).run P s.w= .ok (.value x) s.w/\VR s v x
theorem zhs.mk [Clk] {v:V} {x:Value} (hr:(execOp A.eval o).run P s.w= .ok (.value x) s.w) (hv:VR s v x):zhs P s A o v:=⟨x,hr,hv⟩
theorem zhs.to [Clk] (hs:Sim oc gl s) {v:V} (h:zhs P s A o v):zdk P oc gl s A o v s.m:=by
 obtain⟨x,hr,hv⟩:=h
 exact za8 hs hr hv
theorem VR.one {v:V} {x:Value} {cs:List V} (h:VR s v x) (hc:cellsOf v=some cs):VRs s cs x.cells.toList:=by
 have asD:∀(ds:List D) (xs:List Value),DRs s.w s.Im ds xs->VRs s (asV ds) xs:=by
  intro ds
  induction ds with
  | nil=>intro xs h;exact h
  | cons d r ih=>
   intro xs h
   obtain⟨x,ys,h1,h2,h3,h4⟩:=h
   exact⟨x,ys,h1,h2,h3,ih _ h4⟩
 cases v with
 | d d=>
  cases d with
  | agg ds=>
   simp [cellsOf] at hc;subst hc
   obtain⟨xs,rfl,h⟩:=h
   exact asD _ _ h
  | int k n=>simp [cellsOf] at hc;subst hc;obtain rfl:=h;exact⟨_,_,rfl,rfl,rfl,rfl⟩
  | bool b=>simp [cellsOf] at hc;subst hc;obtain rfl:=h;exact⟨_,_,rfl,rfl,rfl,rfl⟩
  | str b=>simp [cellsOf] at hc;subst hc;obtain rfl:=h;exact⟨_,_,rfl,rfl,rfl,rfl⟩
  | nil=>simp [cellsOf] at hc;subst hc;obtain⟨a,rfl⟩:=h;exact⟨_,_,rfl,rfl,⟨a,rfl⟩,rfl⟩
  | list n l=>simp [cellsOf] at hc;subst hc;obtain⟨a,c,rfl,h⟩:=h;exact⟨_,_,rfl,rfl,⟨a,c,rfl,h⟩,rfl⟩
  | nilp=>simp [cellsOf] at hc;subst hc;obtain rfl:=h;exact⟨_,_,rfl,rfl,rfl,rfl⟩
  | nilf=>simp [cellsOf] at hc;subst hc;obtain rfl:=h;exact⟨_,_,rfl,rfl,rfl,rfl⟩
  | nili=>simp [cellsOf] at hc;subst hc;obtain rfl:=h;exact⟨_,_,rfl,rfl,rfl,rfl⟩
  | ifc b=>simp [cellsOf] at hc;subst hc;rcases h with⟨h0,rfl⟩|⟨te,pe,rfl⟩;exact⟨_,_,rfl,rfl,.inl ⟨h0,rfl⟩,rfl⟩;exact⟨_,_,rfl,rfl,.inr ⟨te,pe,rfl⟩,rfl⟩
  | nilm=>simp [cellsOf] at hc;subst hc;obtain rfl:=h;exact⟨_,_,rfl,rfl,rfl,rfl⟩
  | fn f=>simp [cellsOf] at hc;subst hc;obtain rfl:=h;exact⟨_,_,rfl,rfl,rfl,rfl⟩
 | agg l=>
  simp [cellsOf] at hc;subst hc
  obtain⟨xs,rfl,h⟩:=h
  exact h
 | tup l=>simp [cellsOf] at hc
 | skip=>simp [cellsOf] at hc
 | undef=>simp [cellsOf] at hc
 | ref o a b c=>
  simp [cellsOf] at hc;subst hc
  have h1:=h.1
  refine⟨x,[],?_,h1,h,rfl⟩
  cases x<;>simp [Evl.one,Value.oneCell'] at h1<;>rfl
 | ptr o a b=>
  simp [cellsOf] at hc;subst hc
  have h1:=h.1
  refine⟨x,[],?_,h1,h,rfl⟩
  cases x<;>simp [Evl.one,Value.oneCell'] at h1<;>rfl
 | yld o=>
  simp [cellsOf] at hc;subst hc
  have h1:=h.1
  refine⟨x,[],?_,h1,h,rfl⟩
  cases x<;>simp [Evl.one,Value.oneCell'] at h1<;>rfl
 | mp o=>
  simp [cellsOf] at hc;subst hc
  have h1:=h.1
  refine⟨x,[],?_,h1,h,rfl⟩
  cases x<;>simp [Evl.one,Value.oneCell'] at h1<;>rfl
 | it o=>
  simp [cellsOf] at hc;subst hc
  have h1:=h.1
  refine⟨x,[],?_,h1,h,rfl⟩
  cases x<;>simp [Evl.one,Value.oneCell'] at h1<;>rfl
 | lptr l off=>
  simp [cellsOf] at hc;subst hc
  obtain⟨b,o,rfl,h⟩:=h
  exact⟨_,[],rfl,rfl,⟨b,o,rfl,h⟩,rfl⟩
 | cl n l=>
  simp [cellsOf] at hc;subst hc
  obtain⟨ad,rfl,h⟩:=h
  exact⟨_,[],rfl,rfl,⟨ad,rfl,h⟩,rfl⟩
 | fn f a b=>
  simp [cellsOf] at hc;subst hc
  obtain⟨xs,ys,rfl,h⟩:=h
  exact⟨_,[],rfl,rfl,⟨xs,ys,rfl,h⟩,rfl⟩
theorem VRs.asV:∀(ds:List D) (xs:List Value),DRs s.w s.Im ds xs->VRs s (asV ds) xs
 | [],_,h=>h
 | _::r,_,⟨x,ys,h1,h2,h3,h4⟩=>⟨x,ys,h1,h2,h3,VRs.asV r _ h4⟩
theorem VRs.length:∀(cs:List V) (xs:List Value),VRs s cs xs->cs.length=xs.length
 | [],_,h=>by simp only [VRs] at h;subst h;rfl
 | _::r,_,⟨x,ys,h1,_,_,h4⟩=>by subst h1;simp [VRs.length r ys h4]
theorem DRs.length {w:World} {Im:Nat->Nat->Prop}:∀(cs:List D) (xs:List Value),DRs w Im cs xs->cs.length=xs.length
 | [],_,h=>by simp only [DRs] at h;subst h;rfl
 | _::r,_,⟨x,ys,h1,_,_,h4⟩=>by subst h1;simp [DRs.length r ys h4]
theorem VRs.ones:∀(cs:List V) (xs:List Value),VRs s cs xs->∀v∈xs,v.oneCell'=true
 | [],_,h=>by simp only [VRs] at h;subst h;simp
 | _::r,_,⟨x,ys,h1,h2,_,h4⟩=>by
  subst h1
  intro v hv
  rcases List.mem_cons.1 hv with rfl|hv
  ·exact h2
  ·exact VRs.ones r ys h4 v hv
theorem DRs.ones {w:World} {Im:Nat->Nat->Prop}:∀(cs:List D) (xs:List Value),DRs w Im cs xs->∀v∈xs,v.oneCell'=true
 | [],_,h=>by simp only [DRs] at h;subst h;simp
 | _::r,_,⟨x,ys,h1,h2,_,h4⟩=>by
  subst h1
  intro v hv
  rcases List.mem_cons.1 hv with rfl|hv
  ·exact h2
  ·exact DRs.ones r ys h4 v hv
theorem VRs.append:∀(a:List V) (x:List Value) (b:List V) (y:List Value),VRs s a x->VRs s b y->VRs s (a++b) (x++y)
 | [],_,b,y,h,k=>by simp only [VRs] at h;subst h;exact k
 | _::r,_,b,y,⟨x,ys,h1,h2,h3,h4⟩,k=>by subst h1;exact⟨x,ys++y,rfl,h2,h3,VRs.append r ys b y h4 k⟩
theorem DRs.append {w:World} {Im:Nat->Nat->Prop}:∀(a:List D) (x:List Value) (b:List D) (y:List Value),DRs w Im a x->DRs w Im b y->DRs w Im (a++b) (x++y)
 | [],_,b,y,h,k=>by simp only [DRs] at h;subst h;exact k
 | _::r,_,b,y,⟨x,ys,h1,h2,h3,h4⟩,k=>by subst h1;exact⟨x,ys++y,rfl,h2,h3,DRs.append r ys b y h4 k⟩
theorem VRs.drop:∀(n:Nat) (a:List V) (x:List Value),VRs s a x->VRs s (a.drop n) (x.drop n)
 | 0,_,_,h=>h
 | n+1,[],_,h=>by simp only [VRs] at h;subst h;rfl
 | n+1,_::r,_,⟨x,ys,h1,_,_,h4⟩=>by subst h1;exact VRs.drop n r ys h4
theorem VRs.take:∀(n:Nat) (a:List V) (x:List Value),VRs s a x->VRs s (a.take n) (x.take n)
 | 0,_,_,_=>rfl
 | n+1,[],_,h=>by simp only [VRs] at h;subst h;rfl
 | n+1,_::r,_,⟨x,ys,h1,h2,h3,h4⟩=>by subst h1;exact⟨x,ys.take n,rfl,h2,h3,VRs.take n r ys h4⟩
theorem DRs.drop {w:World} {Im:Nat->Nat->Prop}:∀(n:Nat) (a:List D) (x:List Value),DRs w Im a x->DRs w Im (a.drop n) (x.drop n)
 | 0,_,_,h=>h
 | n+1,[],_,h=>by simp only [DRs] at h;subst h;rfl
 | n+1,_::r,_,⟨x,ys,h1,_,_,h4⟩=>by subst h1;exact DRs.drop n r ys h4
theorem DRs.take {w:World} {Im:Nat->Nat->Prop}:∀(n:Nat) (a:List D) (x:List Value),DRs w Im a x->DRs w Im (a.take n) (x.take n)
 | 0,_,_,_=>rfl
 | n+1,[],_,h=>by simp only [DRs] at h;subst h;rfl
 | n+1,_::r,_,⟨x,ys,h1,h2,h3,h4⟩=>by subst h1;exact⟨x,ys.take n,rfl,h2,h3,DRs.take n r ys h4⟩
theorem VRs.at:∀(a:List V) (x:List Value) (n:Nat) (v:V),VRs s a x->a[n]? =some v->∃y,x[n]? =some y/\Evl.one y/\VR s v y
 | [],_,_,_,_,h=>by simp at h
 | _::r,_,0,v,⟨x,ys,h1,h2,h3,h4⟩,h=>by
  simp at h;subst h;subst h1;exact⟨x,rfl,h2,h3⟩
 | _::r,_,n+1,v,⟨x,ys,h1,h2,h3,h4⟩,h=>by
  simp at h;subst h1;simpa using VRs.at r ys n v h4 h
theorem VRt.at:∀(a:List V) (x:List Value) (n:Nat) (v:V),VRt s a x->a[n]? =some v->∃y,x[n]? =some y/\VR s v y
 | [],_,_,_,_,h=>by simp at h
 | _::r,_,0,v,⟨x,ys,h1,h3,h4⟩,h=>by
  simp at h;subst h;subst h1;exact⟨x,rfl,h3⟩
 | _::r,_,n+1,v,⟨x,ys,h1,h3,h4⟩,h=>by
  simp at h;subst h1;simpa using VRt.at r ys n v h4 h
theorem CR.at {w:World} {Im:Nat->Nat->Prop} {b:Nat}:∀(cs:List D) (o n:Nat) (d:D),CR w Im b o cs->cs[n]? =some d->Im b (o+n)/\∃x,w.cell? ⟨b,o+n,none⟩=some x/\Evl.one x/\DR w Im d x
 | [],_,_,_,_,h=>by simp at h
 | _::r,o,0,d,⟨h1,h2,h3⟩,h=>by simp at h;subst h;exact⟨h1,h2⟩
 | _::r,o,n+1,d,⟨h1,h2,h3⟩,h=>by
  simp at h
  have:=CR.at r (o+1) n d h3 h
  rwa [show o+1+n=o+(n+1) by omega] at this
theorem CR.drop {w:World} {Im:Nat->Nat->Prop} {b:Nat}:∀(n:Nat) (cs:List D) (o:Nat),CR w Im b o cs->CR w Im b (o+n) (cs.drop n)
 | 0,_,_,h=>h
 | n+1,[],_,_=>trivial
 | n+1,_::r,o,⟨_,_,h3⟩=>by
  have:=CR.drop n r (o+1) h3
  rwa [show o+1+n=o+(n+1) by omega] at this
theorem CR.take {w:World} {Im:Nat->Nat->Prop} {b:Nat}:∀(n:Nat) (cs:List D) (o:Nat),CR w Im b o cs->CR w Im b o (cs.take n)
 | 0,_,_,_=>trivial
 | _+1,[],_,_=>trivial
 | n+1,_::r,o,⟨h1,h2,h3⟩=>⟨h1,h2,CR.take n r (o+1) h3⟩
theorem CR.cells {w:World} {Im:Nat->Nat->Prop} {b:Nat}:∀(cs:List D) (o:Nat),CR w Im b o cs->∃xs,DRs w Im cs xs/\∀j v,xs[j]? =some v->w.cell? ⟨b,o+j,none⟩=some v
 | [],_,_=>⟨[],rfl,by simp⟩
 | d::r,o,⟨_,⟨x,h2,h3,h4⟩,h5⟩=>by
  obtain⟨xs,k1,k2⟩:=CR.cells r (o+1) h5
  refine⟨x::xs,⟨x,xs,rfl,h3,h4,k1⟩,fun j v hj=> ?_⟩
  cases j with
  | zero=>simp at hj;subst hj;exact h2
  | succ j=>
   simp at hj
   have:=k2 j v hj
   rwa [show o+1+j=o+(j+1) by omega] at this
theorem CR.mk {w:World} {Im:Nat->Nat->Prop} {b:Nat}:∀(cs:List D) (xs:List Value) (o:Nat),DRs w Im cs xs->(∀j v,xs[j]? =some v->w.cell? ⟨b,o+j,none⟩=some v)->(∀j,j<xs.length->Im b (o+j))->CR w Im b o cs
 | [],_,_,_,_,_=>trivial
 | d::r,_,o,⟨x,ys,h1,h2,h3,h4⟩,hc,hi=>by
  subst h1
  refine⟨hi 0 (by simp),⟨x,hc 0 x rfl,h2,h3⟩,CR.mk r ys (o+1) h4 (fun j v hj=> ?_) (fun j hj=> ?_)⟩
  ·have:=hc (j+1) v (by simpa using hj)
   rwa [show o+(j+1)=o+1+j by omega] at this
  ·have:=hi (j+1) (by simpa using hj)
   rwa [show o+(j+1)=o+1+j by omega] at this
theorem yjd:∀(cs:List V) (ds:List D) (xs:List Value),zs4 cs=some ds->VRs s cs xs->DRs s.w s.Im ds xs
 | [],ds,xs,h,hv=>by simp [zs4] at h;subst h;exact hv
 | .d x::r,ds,xs,h,hv=>by
  simp only [zs4,Option.map_eq_some_iff] at h
  obtain⟨ds',h1,rfl⟩:=h
  obtain⟨y,ys,k1,k2,k3,k4⟩:=hv
  exact⟨y,ys,k1,k2,k3,yjd r ds' ys h1 k4⟩
 | .agg _::_,_,_,h,_=>by simp [zs4] at h
 | .tup _::_,_,_,h,_=>by simp [zs4] at h
 | .ref .. ::_,_,_,h,_=>by simp [zs4] at h
 | .ptr .. ::_,_,_,h,_=>by simp [zs4] at h
 | .lptr .. ::_,_,_,h,_=>by simp [zs4] at h
 | .cl .. ::_,_,_,h,_=>by simp [zs4] at h
 | .fn .. ::_,_,_,h,_=>by simp [zs4] at h
 | .yld _::_,_,_,h,_=>by simp [zs4] at h
 | .mp _::_,_,_,h,_=>by simp [zs4] at h
 | .it _::_,_,_,h,_=>by simp [zs4] at h
 | .skip::_,_,_,h,_=>by simp [zs4] at h
 | .undef::_,_,_,h,_=>by simp [zs4] at h
theorem yft {cs:List V} {xs:Array Value} (h:VRs s cs xs.toList):VR s (ycu cs) (.agg xs):=by
 unfold ycu
 cases hd:zs4 cs with
 | none=>exact⟨xs,rfl,h⟩
 | some ds=>exact⟨xs,rfl,yjd cs ds _ hd h⟩
end
end Go.Evl
namespace Go.Evl
open Go.RowKit
section
variable {P : Program} {oc : zdj} {gl : Globs} {s : S} {A : Act} {o : Oper} {e : Env}
theorem yfi {a:Operand} (h:yod a=true) (A:Act):A.eval a= .slice none 0 0:=by
 cases a<;>simp [yod] at h
 rename_i v
 cases v<;>simp [zph] at h
 rename_i p n c
 cases p<;>cases n<;>cases c<;>simp at h
 rfl
theorem z5t [Clk] (hs:Sim oc gl s) (i:Id) (hi:look s.m i=none) (r:zcp) (hz:0<r.sz):
  Sim oc gl ⟨fun k=>if i=k then .slice none 0 0 else s.φ k,upd s.m i (.row r.wr r.t r.sz 0 []),s.w,s.Im⟩/\
  Ext (fun _=>True) s ⟨fun k=>if i=k then .slice none 0 0 else s.φ k,upd s.m i (.row r.wr r.t r.sz 0 []),s.w,s.Im⟩:=
 hs.change i _ _ s.w s.Im rfl Tk.of rfl (Nat.le_refl _) (fun _ _ _=>rfl) (fun _ _ h=>h) (fun _ _ _=>rfl) (fun _ _ h=> .inl h) hs.imlt
  (fun b h=>by simp [blk] at h) (fun o h=>by rw [hi] at h;cases h)
  (fun _=>⟨hz,[],World.ownsRow_nil _ _ _ _,rfl,fun b h=>by simp [Value.ownBlock] at h⟩)
theorem zgp (s:S) (i:Id) (p:Value) (hp:one p) (wr:Bool) (t sz n:Nat) (xs:List D) (w:World) (Im:Nat->Nat->Prop) (φ:Id->Value) (hφ:φ i=p):
  VR ⟨φ,upd s.m i (.row wr t sz n xs),w,Im⟩ (.ref i 0 n n) p:=by
 refine⟨hp,?_⟩
 show yi0 (φ i) 0 n n p (look (upd s.m i (.row wr t sz n xs)) i)
 rw [za6,hφ]
 exact⟨Nat.le_refl _,fun _=> .inl ⟨rfl,rfl,rfl⟩⟩
def ysz (gl:Globs) (o:Oper) (x:Opd):Bool:=
 match o.op with
 | .move a=>okX gl a x
 | .assign a=>okX gl a x
 | _=>false
theorem ydu [Clk] (hs:Sim oc gl s) (he:zcc s e A.tmps) {x:Opd} (ok:ysz gl o x=true):zhs P s A o (x.ev e):=by
 unfold ysz at ok
 split at ok<;>try cases ok
 ·rename_i a ho
  exact zhs.mk (x:=A.eval a) (by simp only [execOp,ho];rfl) (za1 hs he ok)
 ·rename_i a ho
  exact zhs.mk (x:=A.eval a) (by simp only [execOp,ho];rfl) (za1 hs he ok)
theorem yps [Clk] (hs:Sim oc gl s) (he:zcc s e A.tmps) {x:Opd} (ok:ysz gl o x=true):zdk P oc gl s A o (x.ev e) s.m:=(ydu hs he ok).to hs
def z7t (o:Oper) (r:zcp):Bool:=
 (match o.op with
 | .move a=>yod a
 | .assign a=>yod a
 | _=>false)&&decide (0<r.sz)
theorem ya4 [Clk] (hs:Sim oc gl s) (cx:Cx) (slot:Nat) {r:zcp} (ok:z7t o r=true):
  zdk P oc gl s A o (.ref (zcn cx slot s.m) 0 0 0) (upd s.m (zcn cx slot s.m) (.row r.wr r.t r.sz 0 [])):=by
 simp only [z7t,Bool.and_eq_true,decide_eq_true_eq] at ok
 obtain⟨ok,hz⟩:=ok
 obtain⟨h1,h2⟩:=z5t hs (zcn cx slot s.m) (zc3 _ _ _) r hz
 split at ok<;>try cases ok
 ·rename_i a ho
  refine⟨_,.slice none 0 0,by simp only [execOp,ho,yfi ok];rfl,h1,h2,rfl,zgp s _ (.slice none 0 0) rfl _ _ _ _ _ _ _ _ (by simp)⟩
 ·rename_i a ho
  refine⟨_,.slice none 0 0,by simp only [execOp,ho,yfi ok];rfl,h1,h2,rfl,zgp s _ (.slice none 0 0) rfl _ _ _ _ _ _ _ _ (by simp)⟩
def yk2 (gl:Globs) (o:Oper) (c a b:Opd):Bool:=
 match o.op with
 | .pick c' a' b'=>okX gl c' c&&okX gl a' a&&okX gl b' b
 | _=>false
theorem yim [Clk] (hs:Sim oc gl s) (he:zcc s e A.tmps) {c a b:Opd} {t:Bool} (ok:yk2 gl o c a b=true) (hc:c.ev e= .d (.bool t)):
  zdk P oc gl s A o (if t then a.ev e else b.ev e) s.m:=by
 unfold yk2 at ok
 split at ok<;>try cases ok
 rename_i c' a' b' ho
 simp only [Bool.and_eq_true] at ok
 have h1:=za1 hs he ok.1.1
 rw [hc] at h1
 have h1:A.eval c'= .bool t:=h1
 refine za8 hs (x:=if t then A.eval a' else A.eval b') (by simp only [execOp,ho,h1,asBool];cases t<;>rfl) ?_
 cases t
 ·exact za1 hs he ok.2
 ·exact za1 hs he ok.1.2
def yot (gl:Globs) (o:Oper) (op:BinOp) (x y:Opd):Bool:=
 match o.op with
 | .binOp op' _ a b _=>(op'==op)&&okX gl a x&&okX gl b y
 | _=>false
theorem ycf [Clk] (op:BinOp) (t:TypeId) (x y:Operand) (a b:Value) (w:World) (h:(op≠ .eql/\op≠ .neq)\/(a≠ .nilIface/\∀cs,a≠ .agg cs)):(eqGuard op t x y a b).run P w= .ok () w:=by
 have two:(a≠ .nilIface/\∀cs,a≠ .agg cs)->∀op,(eqGuard op t x y a b).run P w= .ok () w:=by
  intro ⟨h1,h2⟩ op
  cases a with
  | nilIface=>exact absurd rfl h1
  | agg cs=>exact absurd rfl (h2 cs)
  | _=>cases op<;>rfl
 rcases h with h|h
 ·cases op with
  | eql=>exact absurd rfl h.1
  | neq=>exact absurd rfl h.2
  | _=>rfl
 ·exact two h op
theorem zl6 (l:List UInt8):(⟨l.toArray⟩:ByteArray).toList=l:=Lib.toList_data _
theorem zpo:∀(a b:List UInt8),Op.bytesLess a b=ziw a b
 | [],[]=>rfl
 | _::_,[]=>rfl
 | [],_::_=>rfl
 | x::a,y::b=>by simp only [Op.bytesLess,ziw,zpo a b]
def ykv (P:Program) (gl:Globs) (o:Oper) (k:IntKind) (x:Opd):Bool:=
 match o.op with
 | .convert a b y=>okX gl y x&&(match P.underlying a,P.underlying b with|some (.int _),some (.int k')=>decide (k'=k)|_,_=>false)
 | _=>false
theorem yif [Clk] (hs:Sim oc gl s) (he:zcc s e A.tmps) {k l:IntKind} {n:Int} {x:Opd} (ok:ykv P gl o k x=true) (hx:x.ev e= .d (.int l n)):
  zdk P oc gl s A o (.d (.int k (k.wrap n))) s.m:=by
 unfold ykv at ok
 split at ok<;>try cases ok
 rename_i a b y ho
 simp only [Bool.and_eq_true] at ok
 obtain⟨ok,ht⟩:=ok
 split at ht<;>try cases ht
 rename_i k1 k2 ha hb
 simp only [decide_eq_true_eq] at ht
 subst ht
 have h1:=za1 hs he ok
 rw [hx] at h1
 have h1:A.eval y= .int l n:=h1
 refine za8 hs (x:= .int k2 (k2.wrap n)) ?_ rfl
 simp [execOp,ho,h1,convert,run_underlying ha,run_underlying hb,Conv.intToInt]
def yvd (gl:Globs) (o:Oper) (op:UnOp) (x:Opd):Bool:=
 match o.op with
 | .unOp op' _ y=>(op'==op)&&okX gl y x
 | _=>false
theorem ypt [Clk] (hs:Sim oc gl s) (he:zcc s e A.tmps) {op:UnOp} {x:Opd} {r:D} (ok:yvd gl o op x=true) (hx:unD op (x.ev e)=some r):
  zdk P oc gl s A o (.d r) s.m:=by
 unfold yvd at ok
 split at ok<;>try cases ok
 rename_i op' t y ho
 simp only [Bool.and_eq_true,beq_iff_eq] at ok
 obtain⟨rfl,ok⟩:=ok
 have h1:=za1 hs he ok
 generalize x.ev e=v at h1 hx
 unfold unD at hx
 split at hx
 ·rename_i b
  obtain rfl:=Option.some.inj hx
  have h1:A.eval y= .bool b:=h1
  exact za8 hs (x:= .bool (!b)) (by simp [execOp,ho,h1,Op.unary]) rfl
 ·rename_i k n
  obtain rfl:=Option.some.inj hx
  have h1:A.eval y= .int k n:=h1
  exact za8 hs (x:= .int k (k.wrap (0-n))) (by simp [execOp,ho,h1,Op.unary,Op.intArith]) rfl
 ·cases hx
theorem yh4 [Clk] {op:BinOp} {k:IntKind} {a b:Int} {r:D} (h:z07 op k a b=some r) (t:TypeId) (w:World):∃x,(binOp op t (.int k a) (.int k b)).run P w= .ok x w/\∀w Im,DR w Im r x:=by
 cases op with
 | add=>obtain rfl:=Option.some.inj h;exact⟨.int k _,by simp [binOp,Op.intArith],fun _ _=>rfl⟩
 | sub=>obtain rfl:=Option.some.inj h;exact⟨.int k _,by simp [binOp,Op.intArith],fun _ _=>rfl⟩
 | mul=>obtain rfl:=Option.some.inj h;exact⟨.int k _,by simp [binOp,Op.intArith],fun _ _=>rfl⟩
 | quo=>
  simp only [z07] at h
  split at h
  ·cases h
  ·rename_i hb
   obtain rfl:=Option.some.inj h;exact⟨.int k _,by simp [binOp,Op.intDiv,hb],fun _ _=>rfl⟩
 | rem=>
  simp only [z07] at h
  split at h
  ·cases h
  ·rename_i hb
   obtain rfl:=Option.some.inj h;exact⟨.int k _,by simp [binOp,Op.intDiv,hb],fun _ _=>rfl⟩
 | and=>obtain rfl:=Option.some.inj h;exact⟨.int k _,by simp [binOp,Op.intBits],fun _ _=>rfl⟩
 | or=>obtain rfl:=Option.some.inj h;exact⟨.int k _,by simp [binOp,Op.intBits],fun _ _=>rfl⟩
 | xor=>obtain rfl:=Option.some.inj h;exact⟨.int k _,by simp [binOp,Op.intBits],fun _ _=>rfl⟩
 | andNot=>obtain rfl:=Option.some.inj h;exact⟨.int k _,by simp [binOp,Op.intBits],fun _ _=>rfl⟩
 | eql=>obtain rfl:=Option.some.inj h;exact⟨.bool _,by simp only [binOp,Op.intCmp,if_false,ne_eq,not_true_eq_false];rfl,fun _ _=>rfl⟩
 | neq=>obtain rfl:=Option.some.inj h;exact⟨.bool _,by simp only [binOp,Op.intCmp,if_false,ne_eq,not_true_eq_false];rfl,fun _ _=>rfl⟩
 | lss=>obtain rfl:=Option.some.inj h;exact⟨.bool _,by simp [binOp,Op.intCmp],fun _ _=>rfl⟩
 | leq=>obtain rfl:=Option.some.inj h;exact⟨.bool _,by simp [binOp,Op.intCmp],fun _ _=>rfl⟩
 | gtr=>obtain rfl:=Option.some.inj h;exact⟨.bool _,by simp [binOp,Op.intCmp],fun _ _=>rfl⟩
 | geq=>obtain rfl:=Option.some.inj h;exact⟨.bool _,by simp [binOp,Op.intCmp],fun _ _=>rfl⟩
 | _=>simp [z07] at h
theorem yh5 [Clk] {op:BinOp} {a b:List UInt8} {r:D} (h:z43 op a b=some r) (t:TypeId) (w:World):∃x,(binOp op t (.string ⟨a.toArray⟩) (.string ⟨b.toArray⟩)).run P w= .ok x w/\∀w Im,DR w Im r x:=by
 have hx:(⟨a.toArray⟩:ByteArray).size=a.length:=by simp [ByteArray.size]
 have hy:(⟨b.toArray⟩:ByteArray).size=b.length:=by simp [ByteArray.size]
 cases op with
 | add=>
  simp only [z43] at h
  split at h
  ·rename_i hl
   obtain rfl:=Option.some.inj h
   have hle:¬(((a.length+b.length:Nat):Int)>IntKind.i64.max):=by
    have:IntKind.i64.max=9223372036854775807:=by decide
    rw [this];simp only [ykn] at hl;omega
   refine⟨.string (⟨a.toArray⟩++⟨b.toArray⟩),?_,fun _ _=> ?_⟩
   ·simp only [binOp,Op.stringOp,hx,hy,hle,if_false];rfl
   ·simp only [DR]
    congr 1
  ·cases h
 | eql=>obtain rfl:=Option.some.inj h;exact⟨.bool (a==b),by simp only [binOp,Op.stringOp,zl6];rfl,fun _ _=>rfl⟩
 | neq=>obtain rfl:=Option.some.inj h;exact⟨.bool (!(a==b)),by simp only [binOp,Op.stringOp,zl6];rfl,fun _ _=>rfl⟩
 | lss=>obtain rfl:=Option.some.inj h;exact⟨.bool (ziw a b),by simp only [binOp,Op.stringOp,zl6,zpo];rfl,fun _ _=>rfl⟩
 | leq=>obtain rfl:=Option.some.inj h;exact⟨.bool (ziw a b||a==b),by simp only [binOp,Op.stringOp,zl6,zpo];rfl,fun _ _=>rfl⟩
 | gtr=>obtain rfl:=Option.some.inj h;exact⟨.bool (!(ziw a b||a==b)),by simp only [binOp,Op.stringOp,zl6,zpo];rfl,fun _ _=>rfl⟩
 | geq=>obtain rfl:=Option.some.inj h;exact⟨.bool (!ziw a b),by simp only [binOp,Op.stringOp,zl6,zpo];rfl,fun _ _=>rfl⟩
 | _=>simp [z43] at h
theorem ygm [Clk] (hs:Sim oc gl s) (he:zcc s e A.tmps) {op:BinOp} {x y:Opd} {r:D} (ok:yot gl o op x y=true) (h:ysu op (x.ev e) (y.ev e)=some r):
  zhs P s A o (.d r):=by
 unfold yot at ok
 split at ok<;>try cases ok
 rename_i op' t a b t2 ho
 simp only [Bool.and_eq_true,beq_iff_eq] at ok
 obtain⟨⟨rfl,okx⟩,oky⟩:=ok
 have h1:=za1 hs he okx
 have h2:=za1 hs he oky
 generalize x.ev e=v at h1 h
 generalize y.ev e=u at h2 h
 -- what the operation's run is, once the operands are known
 have fin:∀(va vb xr:Value),A.eval a=va->A.eval b=vb->(va≠ .nilIface/\∀cs,va≠ .agg cs)->(binOp op' t va vb).run P s.w= .ok xr s.w->(∀w Im,DR w Im r xr)->zhs P s A o (.d r):=by
  intro va vb xr ha hb hva hr hd
  refine zhs.mk (x:=xr) ?_ (hd _ _)
  simp only [execOp,ho,ha,hb,Sem.run_bind,ycf op' t a b va vb s.w (.inr hva),Result.andThen_ok,hr]
  rfl
 unfold ysu at h
 split at h
 ·rename_i k p l q
  have h1:A.eval a= .int k p:=h1
  have h2:A.eval b= .int l q:=h2
  split at h
  ·split at h
   ·rename_i hq
    obtain rfl:=Option.some.inj h
    refine fin _ _ (.int k (k.wrap (p*2^(min q.toNat k.bits)))) h1 h2 ⟨by simp,by simp⟩ ?_ (fun _ _=>rfl)
    have hn:¬q<0:=by omega
    simp [binOp,Op.shift,hn]
   ·cases h
  ·split at h
   ·rename_i hq
    obtain rfl:=Option.some.inj h
    refine fin _ _ (.int k (p.fdiv (2^(min q.toNat k.bits)))) h1 h2 ⟨by simp,by simp⟩ ?_ (fun _ _=>rfl)
    have hn:¬q<0:=by omega
    simp [binOp,Op.shift,hn]
   ·cases h
  ·split at h
   ·rename_i hk
    subst hk
    obtain⟨xr,hr,hd⟩:=yh4 (P:=P) h t s.w
    exact fin _ _ xr h1 h2 ⟨by simp,by simp⟩ hr hd
   ·cases h
 ·rename_i p q
  have h1:A.eval a= .string ⟨p.toArray⟩:=h1
  have h2:A.eval b= .string ⟨q.toArray⟩:=h2
  obtain⟨xr,hr,hd⟩:=yh5 (P:=P) h t s.w
  exact fin _ _ xr h1 h2 ⟨by simp,by simp⟩ hr hd
 ·cases h
theorem yme [Clk] (hs:Sim oc gl s) (he:zcc s e A.tmps) {op:BinOp} {x y:Opd} {r:D} (ok:yot gl o op x y=true) (h:ysu op (x.ev e) (y.ev e)=some r):
  zdk P oc gl s A o (.d r) s.m:=(ygm hs he ok h).to hs
theorem ze9 (b o n:Nat):(⟨b,o,none⟩:Addr).add n=⟨b,o+n,none⟩:=by unfold Addr.add;split<;>simp_all
def ykx (gl:Globs) (o:Oper) (f:Nat) (first caps:List Opd):Bool:=
 match o.op with
 | .makeFunc (.func g) a b=>g==f&&yk5 gl a.toList first &&yk5 gl b.toList caps
 | _=>false
theorem yih [Clk] (hs:Sim oc gl s) (he:zcc s e A.tmps) {f:Nat} {first caps:List Opd} (ok:ykx gl o f first caps=true):
  zdk P oc gl s A o (.fn f (evs e first) (evs e caps)) s.m:=by
 unfold ykx at ok
 split at ok<;>try cases ok
 rename_i g a b ho
 simp only [Bool.and_eq_true,beq_iff_eq] at ok
 obtain⟨⟨rfl,o1⟩,o2⟩:=ok
 refine za8 hs (x:= .func (.func g) (a.map A.eval) (b.map A.eval)) (by simp [execOp,ho,Instr.makeFunc]) ?_
 exact⟨_,_,rfl,by simpa using zr9 hs he _ _ o1,by simpa using zr9 hs he _ _ o2⟩
def zst (gl:Globs) (o:Oper) (x:Opd):Bool:=
 match o.op with
 | .nilCheck a=>okX gl a x
 | _=>false
def zyx (P:Program) (t:TypeId) (i:Nat):Option (Nat×TypeId):=
 match P.underlying t with
 | some (.struct fs)=>(fs[i]?).map fun f=>(f.offset,f.type)
 | _=>none
def zm0 (P:Program) (gl:Globs) (o:Oper) (off:Nat) (x:Opd):Bool:=
 match o.op with
 | .fieldAddr t a i=>okX gl a x&&((zyx P t i).map (·.1)==some off)&&((zyx P t i).bind (fun f=>zm4 P f.2)).any (fun n=>decide (0<n))
 | _=>false
theorem yef {v:V} {x:Value} (hv:VR s v x) (h:z8v s.m v=true):∃b o,x= .pointer (some ⟨b,o,none⟩):=by
 cases v<;>simp only [z8v,Bool.false_eq_true] at h
 ·have h2:=hv.2
  split at h
  ·rename_i cs hl
   rw [hl] at h2
   obtain⟨b,_,hq⟩:=h2
   exact⟨_,_,hq⟩
  ·rename_i hl
   rw [hl] at h2
   obtain⟨b,cap,_,hq⟩:=h2.2 (by simpa using h)
   exact⟨_,_,hq⟩
  ·cases h
 ·obtain⟨b,o,hq,_⟩:=hv
  exact⟨_,_,hq⟩
theorem z2m {off:Nat} {v r:V} {x:Value} (hv:VR s v x) (h:zf2 off s.m v=some r):∃b o,x= .pointer (some ⟨b,o,none⟩)/\VR s r (.pointer (some ⟨b,o+off,none⟩)):=by
 unfold zf2 at h
 split at h
 ·rename_i hsure
  obtain⟨b,o,rfl⟩:=yef hv hsure
  refine⟨b,o,rfl,?_⟩
  cases v<;>simp only [z8v,Bool.false_eq_true] at hsure<;>simp at h
  ·subst h
   refine⟨rfl,?_⟩
   have h2:=hv.2
   split at hsure
   ·rename_i cs hl
    rw [hl] at h2 ⊢
    obtain⟨b',hp,hq⟩:=h2
    injection hq with hq;injection hq with hq;injection hq with hq1 hq2
    subst hq1;subst hq2
    exact⟨_,hp,rfl⟩
   ·rename_i hl
    rw [hl] at h2 ⊢
    refine⟨h2.1,fun ht=> ?_⟩
    obtain⟨b',cap,hp,hq⟩:=h2.2 ht
    injection hq with hq;injection hq with hq;injection hq with hq1 hq2
    subst hq1;subst hq2
    exact⟨_,cap,hp,rfl⟩
   ·cases hsure
  ·subst h
   obtain⟨b',o',hq,hc⟩:=hv
   injection hq with hq;injection hq with hq;injection hq with hq1 hq2
   subst hq1;subst hq2
   exact⟨_,o',by rw [Nat.add_assoc],hc⟩
 ·cases h
theorem z00 {v:V} {x:Value} (h:VR s v x):VR s (zpp v) x:=by
 unfold zpp
 split
 ·obtain rfl:=h
  exact⟨#[],#[],rfl,rfl,rfl⟩
 ·exact h
theorem zxb [Clk] (hs:Sim oc gl s) (he:zcc s e A.tmps) {x:Opd} {v:V} {m':Mem} (ok:zst gl o x=true)
  (h:(if z8v s.m (x.ev e) then some (x.ev e,s.m) else match zpp (x.ev e) with| .fn f a b=>some (V.fn f a b,s.m)|_=>none)=some (v,m')):m'=s.m/\zhs P s A o v:=by
 unfold zst at ok
 split at ok<;>try cases ok
 rename_i a ho
 have h1:=za1 hs he ok
 generalize x.ev e=y at h1 h
 split at h
 ·rename_i hsure
  simp only [Option.some.injEq,Prod.mk.injEq] at h
  obtain⟨rfl,rfl⟩:=h
  obtain⟨b,q,hx⟩:=yef h1 hsure
  exact⟨rfl,zhs.mk (x:=A.eval a) (by simp only [execOp,ho,hx];rfl) h1⟩
 ·split at h
  ·rename_i f c d hfn
   simp only [Option.some.injEq,Prod.mk.injEq] at h
   obtain⟨rfl,rfl⟩:=h
   have h1:=z00 h1
   rw [hfn] at h1
   have h1':=h1
   obtain⟨xs,ys,hx,_⟩:=h1
   exact⟨rfl,zhs.mk (x:=A.eval a) (by simp only [execOp,ho,hx];rfl) h1'⟩
  ·cases h
theorem z4v [Clk] (hs:Sim oc gl s) (he:zcc s e A.tmps) {x:Opd} {v:V} {m':Mem} (ok:zst gl o x=true)
  (h:(if z8v s.m (x.ev e) then some (x.ev e,s.m) else match zpp (x.ev e) with| .fn f a b=>some (V.fn f a b,s.m)|_=>none)=some (v,m')):zdk P oc gl s A o v m':=by
 obtain⟨rfl,h⟩:=zxb hs he ok h
 exact h.to hs
theorem z9o {t:TypeId} {i off:Nat} (h:(zyx P t i).map (·.1)=some off):∃fs f,P.underlying t=some (.struct fs)/\fs[i]? =some f/\f.offset=off:=by
 unfold zyx at h
 split at h
 ·rename_i fs hu
  cases hf:fs[i]? with
  | none=>rw [hf] at h;cases h
  | some f=>rw [hf] at h;exact⟨fs,f,hu,hf,by simpa using h⟩
 ·cases h
theorem ztt [Clk] (hs:Sim oc gl s) (he:zcc s e A.tmps) {off:Nat} {x:Opd} {v:V} (ok:zm0 P gl o off x=true) (h:zf2 off s.m (x.ev e)=some v):
  zhs P s A o v:=by
 unfold zm0 at ok
 split at ok<;>try cases ok
 rename_i t a i ho
 simp only [Bool.and_eq_true,beq_iff_eq] at ok
 obtain⟨⟨okx,hf⟩,hz⟩:=ok
 obtain⟨fs,f,hu,hfi,rfl⟩:=z9o hf
 have hz':∃it,P.info? f.type=some it/\it.size≠0:=by
  simp only [zyx,hu,hfi,Option.map_some,Option.bind_some,zm4] at hz
  cases hi:P.info? f.type with
  | none=>simp [hi] at hz
  | some it=>refine⟨it,rfl,?_⟩;simp [hi] at hz;omega
 obtain⟨it,hit,hne⟩:=hz'
 obtain⟨b,q,hx,hv⟩:=z2m (za1 hs he okx) h
 refine zhs.mk (x:= .pointer (some ⟨b,q+f.offset,none⟩)) ?_ hv
 simp [execOp,ho,Instr.fieldAt,run_underlying hu,hfi,hx,Instr.sureAddr,fieldPlace,sizeOf,typeInfo,hit,hne,ze9]
theorem zsd [Clk] (hs:Sim oc gl s) (he:zcc s e A.tmps) {off:Nat} {x:Opd} {v:V} (ok:zm0 P gl o off x=true) (h:zf2 off s.m (x.ev e)=some v):
  zdk P oc gl s A o v s.m:=(ztt hs he ok h).to hs
def yc4 (P:Program) (gl:Globs) (o:Oper) (off:Nat) (n:Option Nat) (x:Opd):Bool:=
 match o.op with
 | .field t a i=>okX gl a x&&((zyx P t i).map (·.1)==some off)&&(zyx P t i).any (fun f=>zrb P f.2 n)
 | _=>false
theorem zxa [Clk] {t:TypeId} {b:Bool} (h:z4x P t=some b) (w:World):(isAgg t).run P w= .ok b w:=by
 unfold z4x at h
 cases hu:P.underlying t with
 | none=>simp [hu] at h
 | some d=>
  simp [hu] at h
  simp [isAgg,run_underlying hu]
  cases d<;>simp at h<;>subst h<;>rfl
theorem zes [Clk] {t:TypeId} {n:Nat} (h:zm4 P t=some n) (w:World):(sizeOf t).run P w= .ok n w:=by
 unfold zm4 at h
 cases hi:P.info? t with
 | none=>simp [hi] at h
 | some i=>simp [hi] at h;subst h;simp [sizeOf,typeInfo,hi]
def zw6 (n:Option Nat) (xs:List Value) (off:Nat):Option Value:=
 match n with
 | none=>xs[off]?
 | some k=>if off+k<=xs.length then some (.agg (win xs off k).toArray) else none
theorem yf4 {n:Option Nat} {cs:List V} {xs:List Value} {off:Nat} {r:V} (hv:VRs s cs xs) (h:yhx n cs off=some r):∃y,zw6 n xs off=some y/\VR s r y:=by
 cases n with
 | none=>
  obtain⟨y,hy,_,hvy⟩:=VRs.at cs _ off r hv h
  exact⟨y,hy,hvy⟩
 | some k=>
  simp only [yhx] at h
  split at h
  ·rename_i hle
   obtain rfl:=Option.some.inj h
   refine⟨.agg (win xs off k).toArray,?_,yft ?_⟩
   ·simp only [zw6,<-VRs.length _ _ hv,hle,if_true]
   ·exact VRs.take _ _ _ (VRs.drop _ _ _ hv)
  ·cases h
theorem DRs.at {w:World} {Im:Nat->Nat->Prop}:∀(a:List D) (x:List Value) (n:Nat) (v:D),DRs w Im a x->a[n]? =some v->∃y,x[n]? =some y/\Evl.one y/\DR w Im v y
 | [],_,_,_,_,h=>by simp at h
 | _::r,_,0,v,⟨x,ys,h1,h2,h3,h4⟩,h=>by
  simp at h;subst h;subst h1;exact⟨x,rfl,h2,h3⟩
 | _::r,_,n+1,v,⟨x,ys,h1,h2,h3,h4⟩,h=>by
  simp at h;subst h1;simpa using DRs.at r ys n v h4 h
theorem z7w {n:Option Nat} {cs:List D} {xs:List Value} {off:Nat} {r:V} (hv:DRs s.w s.Im cs xs) (h:z4l n cs off=some r):∃y,zw6 n xs off=some y/\VR s r y:=by
 cases n with
 | none=>
  simp only [z4l,Option.map_eq_some_iff] at h
  obtain⟨d,hd,rfl⟩:=h
  obtain⟨y,hy,_,hvy⟩:=DRs.at cs _ off d hv hd
  exact⟨y,hy,hvy⟩
 | some k=>
  simp only [z4l] at h
  split at h
  ·rename_i hle
   obtain rfl:=Option.some.inj h
   refine⟨.agg (win xs off k).toArray,?_,?_⟩
   ·simp only [zw6,<-DRs.length _ _ hv,hle,if_true]
   ·exact⟨_,rfl,DRs.take _ _ _ (DRs.drop _ _ _ hv)⟩
  ·cases h
theorem zs1 [Clk] {t:TypeId} {n:Option Nat} {off:Nat} {xs:Array Value} {y:Value} (hc:zrb P t n=true) (h:zw6 n xs.toList off=some y) (w:World):(part t xs off).run P w= .ok y w:=by
 cases n with
 | none=>
  simp only [zrb,beq_iff_eq] at hc
  have hy:xs[off]? =some y:=by simpa [zw6] using h
  simp [part,zxa hc,hy]
 | some k=>
  simp only [zrb,Bool.and_eq_true,beq_iff_eq] at hc
  simp only [zw6] at h
  split at h
  ·obtain rfl:=Option.some.inj h
   have hw:(win xs.toList off k).toArray=xs.extract off (off+k):=by
    apply Array.ext'
    rw [Array.toList_extract,List.extract_eq_take_drop]
    simp only [win]
    try (congr 1;omega)
   simp [part,zxa hc.1,zes hc.2,hw]
  ·cases h
theorem yf1 {n:Option Nat} {v:V} {x:Value} {off:Nat} {r:V} (hv:VR s v x) (h:ydd n v off=some r):∃xs y,x= .agg xs/\zw6 n xs.toList off=some y/\VR s r y:=by
 cases v<;>simp only [ydd] at h<;>try cases h
 ·rename_i d
  cases d<;>simp only at h<;>try cases h
  rename_i ds
  obtain⟨xs,rfl,hd⟩:=hv
  obtain⟨y,h1,h2⟩:=z7w hd h
  exact⟨xs,y,rfl,h1,h2⟩
 ·rename_i cs
  obtain⟨xs,rfl,hd⟩:=hv
  obtain⟨y,h1,h2⟩:=yf4 hd h
  exact⟨xs,y,rfl,h1,h2⟩
theorem yd3 [Clk] (hs:Sim oc gl s) (he:zcc s e A.tmps) {off:Nat} {n:Option Nat} {x:Opd} {v:V} (ok:yc4 P gl o off n x=true) (h:ydd n (x.ev e) off=some v):
  zdk P oc gl s A o v s.m:=by
 unfold yc4 at ok
 split at ok<;>try cases ok
 rename_i t a i ho
 simp only [Bool.and_eq_true,beq_iff_eq] at ok
 obtain⟨⟨okx,hf⟩,hz⟩:=ok
 obtain⟨fs,f,hu,hfi,rfl⟩:=z9o hf
 have hz:zrb P f.type n=true:=by simpa [zyx,hu,hfi] using hz
 obtain⟨cs,y,hx,hr,hv⟩:=yf1 (za1 hs he okx) h
 have hy:=zs1 hz hr s.w
 refine za8 hs (x:=y) ?_ hv
 simp [execOp,ho,Instr.field,run_underlying hu,hfi,hx,asAgg,hy]
theorem zri {v:V} {x:Value} {i:Int} (hv:VR s v x) (h:asI v=some i):∃k,x= .int k i:=by
 unfold asI at h
 split at h
 ·obtain rfl:=Option.some.inj h
  exact⟨_,hv⟩
 ·cases h
def yuq (P:Program) (t:TypeId):Option (Nat×TypeId):=
 match P.underlying t with
 | some (.array n e)=>some (n,e)
 | _=>none
theorem zfr {t e:TypeId} (h:zm5 P t=some e):P.underlying t=some (.slice e):=by
 unfold zm5 at h
 split at h
 ·rename_i hu;obtain rfl:=Option.some.inj h;exact hu
 ·cases h
theorem yjg {t:TypeId} {n:Nat} {e:TypeId} (h:yuq P t=some (n,e)):P.underlying t=some (.array n e):=by
 unfold yuq at h
 split at h
 ·rename_i hu;simp only [Option.some.injEq,Prod.mk.injEq] at h;obtain⟨rfl,rfl⟩:=h;exact hu
 ·cases h
def zw2 (P:Program) (gl:Globs) (o:Oper) (sz:Nat) (x i:Opd):Bool:=
 match o.op with
 | .indexAddr t a j=>okX gl a x&&okX gl j i&&(zm5 P t).any (fun e=>zm4 P e==some sz)
 | _=>false
theorem zxc [Clk] (hs:Sim oc gl s) (he:zcc s e A.tmps) {sz:Nat} {x i:Opd} {v:V} (ok:zw2 P gl o sz x i=true) (h:zlx sz s.m (x.ev e) (i.ev e)=some v):
  zdk P oc gl s A o v s.m:=by
 unfold zw2 at ok
 split at ok<;>try cases ok
 rename_i t a j ho
 simp only [Bool.and_eq_true,Option.any_eq_true,beq_iff_eq] at ok
 obtain⟨⟨okx,oki⟩,el,hel,hsz⟩:=ok
 have hu:=zfr hel
 have h1:=za1 hs he okx
 have h2:=za1 hs he oki
 generalize x.ev e=vx at h1 h
 unfold zlx at h
 cases hi:asI (i.ev e) with
 | none=>rw [hi] at h;cases h
 | some n=>
  rw [hi] at h
  obtain⟨k,hj⟩:=zri h2 hi
  simp only at h
  -- the run, once the slice is known
  have fin:∀(b q len cap:Nat),A.eval a= .slice (some ⟨b,q,none⟩) len cap->0<=n/\n<len->VR s v (.pointer (some ⟨b,q+n.toNat*sz,none⟩))->zdk P oc gl s A o v s.m:=by
   intro b q len cap ha hr hv
   refine za8 hs (x:= .pointer (some ⟨b,q+n.toNat*sz,none⟩)) ?_ hv
   simp [execOp,ho,Instr.indexAt,hj,asIntOf,run_underlying hu,ha,hr,zes hsz,ze9]
  split at h
  ·rename_i len cs
   split at h
   ·rename_i hr
    obtain rfl:=Option.some.inj h
    obtain⟨ad,cap,ha,_,hc⟩:=h1
    rcases hc with⟨rfl,rfl⟩|⟨b,q,rfl,hc⟩
    ·omega
    ·exact fin b q len cap ha hr ⟨b,q,rfl,hc⟩
   ·cases h
  ·rename_i o' off len top
   have h1b:=h1.2
   split at h
   ·rename_i wr tt sz' n' xs hl
    rw [hl] at h1b
    split at h
    ·rename_i hr
     obtain⟨hr0,hr1,rfl,hr2,rfl⟩:=hr
     obtain rfl:=Option.some.inj h
     have hrow:=(hs.objs o' _ hl)
     obtain⟨hz,ys,hown,hd,him⟩:=hrow
     rcases h1b.2 rfl with⟨rfl,rfl,hx⟩|⟨hne,b,cap,capp,hp,hle,hle1,hle2,hx⟩|⟨hne,h0,h1',_⟩
     ·rcases hown.2 with⟨hn,hn0⟩|⟨g,cap,cur,hp,_,hh,_⟩
      ·omega
      ·refine fin g 0 _ cap (hx.trans hp) ⟨hr0,hr1⟩ ⟨rfl,?_⟩
       show yiz _ _ _ _ (look s.m o')
       rw [hl]
       exact⟨Nat.le_refl _,fun _=>⟨g,cap,hp,by simp⟩⟩
     ·refine fin b _ len cap hx ⟨hr0,hr1⟩ ⟨rfl,?_⟩
      show yiz _ _ _ _ (look s.m o')
      rw [hl]
      exact⟨Nat.le_refl _,fun _=>⟨b,capp,hp,by rw [Nat.add_mul]⟩⟩
     ·omega
    ·cases h
   ·cases h
  ·cases h
def zyj (P:Program) (gl:Globs) (o:Oper) (len sz:Nat) (x i:Opd):Bool:=
 match o.op with
 | .indexAddr t a j=>okX gl a x&&okX gl j i&&(yuq P t).any (fun p=>p.1==len&&zm4 P p.2==some sz)
 | _=>false
theorem z4u [Clk] (hs:Sim oc gl s) (he:zcc s e A.tmps) {len sz:Nat} {x i:Opd} {n:Int} {v:V} (ok:zyj P gl o len sz x i=true) (hi:asI (i.ev e)=some n) (hr:0<=n/\n<len)
  (h:zf2 (n.toNat*sz) s.m (x.ev e)=some v):zdk P oc gl s A o v s.m:=by
 unfold zyj at ok
 split at ok<;>try cases ok
 rename_i t a j ho
 simp only [Bool.and_eq_true,Option.any_eq_true,beq_iff_eq] at ok
 obtain⟨⟨okx,oki⟩,⟨l',el⟩,hel,rfl,hsz⟩:=ok
 have hu:=yjg hel
 obtain⟨k,hj⟩:=zri (za1 hs he oki) hi
 obtain⟨b,q,hx,hv⟩:=z2m (za1 hs he okx) h
 refine za8 hs (x:= .pointer (some ⟨b,q+n.toNat*sz,none⟩)) ?_ hv
 simp [execOp,ho,Instr.indexAt,hj,asIntOf,run_underlying hu,hx,Instr.sureAddr,hr,zes hsz,ze9]
def yky (P:Program) (gl:Globs) (o:Oper) (len sz:Nat) (n:Option Nat) (x i:Opd):Bool:=
 match o.op with
 | .index t a j=>okX gl a x&&okX gl j i&&(yuq P t).any (fun p=>p.1==len&&zm4 P p.2==some sz&&zrb P p.2 n)
 | _=>false
theorem yii [Clk] (hs:Sim oc gl s) (he:zcc s e A.tmps) {len sz:Nat} {k:Option Nat} {x i:Opd} {n:Int} {v:V} (ok:yky P gl o len sz k x i=true) (hi:asI (i.ev e)=some n) (hr:0<=n/\n<len)
  (h:ydd k (x.ev e) (n.toNat*sz)=some v):zdk P oc gl s A o v s.m:=by
 unfold yky at ok
 split at ok<;>try cases ok
 rename_i t a j ho
 simp only [Bool.and_eq_true,Option.any_eq_true,beq_iff_eq] at ok
 obtain⟨⟨okx,oki⟩,⟨l',el⟩,hel,⟨rfl,hsz⟩,hc⟩:=ok
 have hu:=yjg hel
 obtain⟨k',hj⟩:=zri (za1 hs he oki) hi
 obtain⟨cs,y,hx,hrd,hv⟩:=yf1 (za1 hs he okx) h
 have hy:=zs1 hc hrd s.w
 refine za8 hs (x:=y) ?_ hv
 simp [execOp,ho,Instr.index,hj,asIntOf,run_underlying hu,hx,hr,zes hsz,hy]
def yoe (P:Program) (t:TypeId):Bool:=match P.underlying t with|some .string=>true|_=>false
theorem yfj {t:TypeId} (h:yoe P t=true):P.underlying t=some .string:=by
 unfold yoe at h
 split at h
 ·assumption
 ·cases h
def ykz (P:Program) (gl:Globs) (o:Oper) (x i:Opd):Bool:=
 match o.op with
 | .index t a j=>okX gl a x&&okX gl j i&&yoe P t
 | _=>false
theorem yij [Clk] (hs:Sim oc gl s) (he:zcc s e A.tmps) {x i:Opd} {n:Int} {str:List UInt8} {b:UInt8} (ok:ykz P gl o x i=true) (hx:x.ev e= .d (.str str)) (hi:asI (i.ev e)=some n) (hr:0<=n)
  (h:str[n.toNat]? =some b):zdk P oc gl s A o (.d (.int .u8 b.toNat)) s.m:=by
 unfold ykz at ok
 split at ok<;>try cases ok
 rename_i t a j ho
 simp only [Bool.and_eq_true] at ok
 obtain⟨⟨okx,oki⟩,ht⟩:=ok
 have hu:=yfj ht
 obtain⟨k',hj⟩:=zri (za1 hs he oki) hi
 have h1:=za1 hs he okx
 rw [hx] at h1
 have h1:A.eval a= .string ⟨str.toArray⟩:=h1
 refine za8 hs (x:= .int .u8 b.toNat) ?_ rfl
 have hb:(⟨str.toArray⟩:ByteArray)[n.toNat]? =some b:=by
  obtain⟨hlt,hval⟩:=List.getElem?_eq_some_iff.1 h
  have hlt':n.toNat<(⟨str.toArray⟩:ByteArray).size:=by simpa [ByteArray.size] using hlt
  rw [getElem?_pos (⟨str.toArray⟩:ByteArray) n.toNat hlt']
  exact congrArg some hval
 simp [execOp,ho,Instr.index,hj,asIntOf,run_underlying hu,h1,hr,hb]
def z2r (gl:Globs) (o:Oper) (x:Opd) (i:Nat):Bool:=
 match o.op with
 | .extract a j=>okX gl a x&&j==i
 | _=>false
theorem z8k [Clk] (hs:Sim oc gl s) (he:zcc s e A.tmps) {x:Opd} {i:Nat} {vs:List V} {v:V} (ok:z2r gl o x i=true) (hx:x.ev e= .tup vs) (h:vs[i]? =some v):zdk P oc gl s A o v s.m:=by
 unfold z2r at ok
 split at ok<;>try cases ok
 rename_i a j ho
 simp only [Bool.and_eq_true,beq_iff_eq] at ok
 obtain⟨okx,rfl⟩:=ok
 have h1:=za1 hs he okx
 rw [hx] at h1
 obtain⟨xs,hxs,hv⟩:=h1
 obtain⟨y,hy,hvy⟩:=VRt.at vs _ j v hv h
 have hy':xs[j]? =some y:=by simpa using hy
 exact za8 hs (x:=y) (by simp [execOp,ho,hxs,Instr.extract,hy']) hvy
def bi (op:Op):Option (Builtin×List Operand×List TypeId):=
 match op with
 | .call c=>(match c.callee with| .builtin b=>some (b,c.args.toList,c.argTypes.toList)|_=>none)
 | _=>none
theorem zvj {b:Builtin} {as:List Operand} {ts:List TypeId} (h:bi o.op=some (b,as,ts)) (w:World):
  ∃cn,(execOp A.eval o).run P w=(builtin b ts.toArray o.type cn (as.map A.eval).toArray).run P w:=by
 have h':∃c,o.op= .call c/\c.callee= .builtin b/\c.args.toList=as/\c.argTypes.toList=ts:=by
  unfold bi at h
  split at h
  ·rename_i op c ho
   split at h
   ·rename_i b' hc
    simp only [Option.some.injEq,Prod.mk.injEq] at h
    obtain⟨rfl,rfl,rfl⟩:=h
    exact⟨c,ho,hc,rfl,rfl⟩
   ·cases h
  ·cases h
 obtain⟨c,ho,hc,rfl,rfl⟩:=h'
 refine⟨c.args.map fun| .const _=>true|_=>false,?_⟩
 simp only [execOp,ho,resolve,hc,Sem.run_bind,Sem.run_pure,Result.andThen_ok,invoke,Array.toArray_toList]
 congr 2
 apply Array.ext'
 simp
def yrz (P:Program) (gl:Globs) (o:Oper) (k:Kd) (x:Opd):Bool:=
 match bi o.op with
 | some (.len,[a],[t])=>okX gl a x&&(match k with
  | .str=>(match P.underlying t with|some .string=>true|_=>false)
  | .slc=>(zm5 P t).isSome
  | .map=>(match P.underlying t with|some (.map ..)=>true|_=>false)
  | .cap=>false)
 | some (.cap,[a],[t])=>okX gl a x&&(zm5 P t).isSome&&(match k with
  | .cap=>true
  | _=>false)
 | _=>false
theorem ymh [Clk] (hs:Sim oc gl s) (he:zcc s e A.tmps) {k:Kd} {x:Opd} {n:Nat} (ok:yrz P gl o k x=true) (h:yi4 s.m k (x.ev e)=some n):zdk P oc gl s A o (.d (.int .i64 n)) s.m:=by
 unfold yrz at ok
 split at ok
 rotate_left
 ·rename_i a t ho
  simp only [Bool.and_eq_true] at ok
  obtain⟨⟨okx,ht⟩,hk⟩:=ok
  have h1:=za1 hs he okx
  generalize x.ev e=v at h1 h
  obtain⟨cn,hrun⟩:=zvj (P:=P) (A:=A) ho s.w
  obtain⟨el,hel⟩:=Option.isSome_iff_exists.1 ht
  have hu:=zfr hel
  cases k<;>simp only [Bool.false_eq_true] at hk
  unfold yi4 at h
  simp only at h
  split at h
  ·obtain rfl:=Option.some.inj h
   obtain⟨ad,ha⟩:=h1
   refine za8 hs (x:= .int .i64 0) ?_ rfl
   rw [hrun]
   simp [builtin,Builtin.cap_,run_underlying hu,ha,goInt]
  ·cases h
 ·cases ok
 rename_i a t ho
 simp only [Bool.and_eq_true] at ok
 obtain⟨okx,ht⟩:=ok
 have h1:=za1 hs he okx
 generalize x.ev e=v at h1 h
 obtain⟨cn,hrun⟩:=zvj (P:=P) (A:=A) ho s.w
 have fin:(Builtin.len_ #[t] o.type #[A.eval a]).run P s.w= .ok (.int .i64 n) s.w->zdk P oc gl s A o (.d (.int .i64 n)) s.m:=by
  intro hr
  refine za8 hs (x:= .int .i64 n) ?_ rfl
  rw [hrun]
  simp [builtin,hr]
 apply fin
 cases k with
 | str=>
  simp only at ht
  split at ht
  ·rename_i hu
   unfold yi4 at h
   simp only at h
   split at h
   ·rename_i str
    obtain rfl:=Option.some.inj h
    have h1:A.eval a= .string ⟨str.toArray⟩:=h1
    have hsz:(⟨str.toArray⟩:ByteArray).size=str.length:=by simp [ByteArray.size]
    simp [Builtin.len_,run_underlying hu,h1,goInt,hsz]
   ·cases h
  ·cases ht
 | slc=>
  simp only at ht
  obtain⟨el,hel⟩:=Option.isSome_iff_exists.1 ht
  have hu:=zfr hel
  have fin2:∀ad c,A.eval a= .slice ad n c->(Builtin.len_ #[t] o.type #[A.eval a]).run P s.w= .ok (.int .i64 n) s.w:=by
   intro ad c ha
   simp [Builtin.len_,run_underlying hu,ha,goInt]
  unfold yi4 at h
  simp only at h
  split at h
  ·obtain rfl:=Option.some.inj h
   obtain⟨ad,c,ha,_⟩:=h1
   exact fin2 ad c ha
  ·obtain rfl:=Option.some.inj h
   obtain⟨ad,ha⟩:=h1
   exact fin2 ad 0 ha
  ·obtain rfl:=Option.some.inj h
   obtain⟨ad,ha,_⟩:=h1
   exact fin2 ad _ ha
  ·rename_i o' off len top
   have h1b:=h1.2
   split at h
   ·rename_i wr tt sz n' xs hl
    rw [hl] at h1b
    split at h
    ·rename_i hn
     subst hn
     obtain rfl:=Option.some.inj h
     obtain⟨hz,ys,hown,hd,him⟩:=hs.objs o' _ hl
     rcases h1b.2 rfl with⟨rfl,rfl,hx⟩|⟨hne,b,cap,capp,hp,hle,_,_,hx⟩|⟨hne,_,rfl,ad,c,hx⟩
     ·rcases hown.2 with⟨hp,rfl⟩|⟨g,cap,cur,hp,_⟩
      ·exact fin2 none 0 (hx.trans hp)
      ·exact fin2 _ _ (hx.trans hp)
     ·exact fin2 _ _ hx
     ·exact fin2 _ _ hx
    ·cases h
   ·cases h
  ·cases h
 | map=>
  simp only at ht
  split at ht
  ·rename_i hu
   unfold yi4 at h
   simp only at h
   split at h
   ·rename_i o'
    have h1b:=h1.2
    split at h
    ·rename_i es hl
     rw [hl] at h1b
     obtain rfl:=Option.some.inj h
     obtain⟨b,ces,cl,hp,hh,hm,_⟩:=hs.objs o' _ hl
     have hx:A.eval a= .map (some b):=Eq.trans h1b hp
     have:=hm.len
     simp at this
     simp [Builtin.len_,run_underlying hu,hx,goInt,getObj,Sem.run,hh,this]
    ·cases h
   ·cases h
  ·cases ht
 | cap=>simp at ht
def z7s (gl:Globs) (o:Oper) (mx:Bool) (args:List Opd):Bool:=
 match bi o.op with
 | some (.max,as,_)=>mx&&yk5 gl as args
 | some (.min,as,_)=> !mx&&yk5 gl as args
 | _=>false
theorem z96 [Clk] (f:Value->Value->Sem Value) (mx:Bool) (hf:∀k a l b,f (.int k a) (.int l b)=pure (.int k (if mx then(if b>a then b else a) else(if b<a then b else a)))):
  ∀(vs:List V) (xs:List Value) (k:IntKind) (a:Int) (r:D),VRt s vs xs->zqa.go mx k a vs=some r->∃y,(xs.foldlM f (.int k a)).run P s.w= .ok y s.w/\VR s (.d r) y
 | [],xs,k,a,r,hv,h=>by
  simp only [VRt] at hv
  subst hv
  simp only [zqa.go,Option.some.injEq] at h
  subst h
  exact⟨_,rfl,rfl⟩
 | v::vs,xs,k,a,r,hv,h=>by
  obtain⟨x,ys,rfl,h1,h2⟩:=hv
  unfold zqa.go at h
  split at h
  ·cases ‹_=[]›
  ·rename_i l b r' heq
   injection heq with e1 e2
   subst e1;subst e2
   have h1:x= .int l b:=h1
   subst h1
   obtain⟨y,hy,hvy⟩:=z96 f mx hf _ ys k _ r h2 h
   refine⟨y,?_,hvy⟩
   simp only [List.foldlM_cons,hf,pure_bind]
   exact hy
  ·cases h
theorem ya3 [Clk] (hs:Sim oc gl s) (he:zcc s e A.tmps) {mx:Bool} {args:List Opd} {r:D} (ok:z7s gl o mx args=true) (h:zqa mx (evs e args)=some r):zdk P oc gl s A o (.d r) s.m:=by
 have key:∀(as:List Operand) (f:Value->Value->Sem Value) (b:Builtin) (ts:List TypeId),bi o.op=some (b,as,ts)->yk5 gl as args=true->
   (∀k a l b,f (.int k a) (.int l b)=pure (.int k (if mx then(if b>a then b else a) else(if b<a then b else a))))->
   (∀ts ty cn x rest y w,(rest.foldlM f x).run P w= .ok y w->(builtin b ts ty cn (x::rest).toArray).run P w= .ok (.value y) w)->zdk P oc gl s A o (.d r) s.m:=by
  intro as f b ts hb hok hf hbi
  have hv:=zr9 hs he as args hok
  obtain⟨cn,hrun⟩:=zvj (P:=P) (A:=A) hb s.w
  generalize evs e args=vs at hv h
  unfold zqa at h
  split at h
  ·cases h
  ·rename_i k a r'
   obtain⟨x,ys,hxs,h1,h2⟩:=hv
   have h1:x= .int k a:=h1
   subst h1
   obtain⟨y,hy,hvy⟩:=z96 (P:=P) f mx hf _ ys k a r h2 h
   refine za8 hs (x:=y) ?_ hvy
   rw [hrun,hxs]
   exact hbi _ _ _ _ _ _ _ hy
  ·cases h
 unfold z7s at ok
 split at ok
 ·rename_i as ts ho
  simp only [Bool.and_eq_true] at ok
  obtain⟨rfl,ok⟩:=ok
  refine key as Builtin.max2 .max ts ho ok (fun k a l b=>by simp [Builtin.max2]) (fun ts ty cn x rest y w hy=> ?_)
  simp [builtin,Builtin.max_,hy]
 ·rename_i as ts ho
  simp only [Bool.and_eq_true,Bool.not_eq_true'] at ok
  obtain⟨rfl,ok⟩:=ok
  refine key as Builtin.min2 .min ts ho ok (fun k a l b=>by simp [Builtin.min2]) (fun ts ty cn x rest y w hy=> ?_)
  simp [builtin,Builtin.min_,hy]
 ·cases ok
theorem zdd [Clk] {x:Value} {i:Int} {y:Nat} {k:IntKind} (hx:x= .int k i) (h0:0<=i) (h1:i<=y) (code:BoundsCode) (w:World):(Instr.sliceBound x y code).run P w= .ok i.toNat w:=by
 subst hx
 simp [Instr.sliceBound,asIntOf,h0,h1]
theorem zvk [Clk] {lo hi:Option Operand} {lo' hi':Option Opd} {n l h:Nat} (hs:Sim oc gl s) (he:zcc s e A.tmps) (ol:okX? gl lo lo'=true) (oh:okX? gl hi hi'=true)
  (hb:zcl n (lo'.map (·.ev e)) (hi'.map (·.ev e))=some (l,h)) (isS:Bool) (cap:Nat) (hcap:n<=cap) (w:World):
  (Instr.sliceBounds isS n cap (lo.map A.eval) (hi.map A.eval) none).run P w= .ok (l,h,cap) w/\l<=h/\h<=n:=by
 unfold zcl at hb
 have hi1:∀(hv:Int),(match hi'.map (·.ev e) with|none=>some (n:Int)|some v=>asI v)=some hv->
   (hi=none/\hv=n)\/∃a k,hi=some a/\A.eval a= .int k hv:=by
  intro hv hh
  cases hi with
  | none=>cases hi'<;>simp [okX?] at oh;simp at hh;exact .inl ⟨rfl,hh.symm⟩
  | some a=>
   cases hi' with
   | none=>simp [okX?] at oh
   | some x=>
    simp only [okX?] at oh
    obtain⟨k,hk⟩:=zri (za1 hs he oh) hh
    exact .inr ⟨a,k,rfl,hk⟩
 have lo1:∀(lv:Int),(match lo'.map (·.ev e) with|none=>some (0:Int)|some v=>asI v)=some lv->
   (lo=none/\lv=0)\/∃a k,lo=some a/\A.eval a= .int k lv:=by
  intro lv hh
  cases lo with
  | none=>cases lo'<;>simp [okX?] at ol;simp at hh;exact .inl ⟨rfl,hh.symm⟩
  | some a=>
   cases lo' with
   | none=>simp [okX?] at ol
   | some x=>
    simp only [okX?] at ol
    obtain⟨k,hk⟩:=zri (za1 hs he ol) hh
    exact .inr ⟨a,k,rfl,hk⟩
 simp only at hb
 split at hb
 ·rename_i hv lv e1 e2
  split at hb
  ·rename_i hr
   obtain⟨r1,r2,r3,r4⟩:=hr
   simp only [Option.some.injEq,Prod.mk.injEq] at hb
   obtain⟨rfl,rfl⟩:=hb
   have hH:=hi1 hv e1
   have hL:=lo1 lv e2
   refine⟨?_,by omega,by omega⟩
   rcases hH with⟨rfl,rfl⟩|⟨a,k,rfl,ha⟩<;>rcases hL with⟨rfl,rfl⟩|⟨b,q,rfl,hbv⟩
   ·simp [Instr.sliceBounds]
   ·simp [Instr.sliceBounds,zdd hbv r3 r4]
   ·simp [Instr.sliceBounds,zdd ha r1 (y:=cap) (by omega)]
   ·have:(Instr.sliceBound (A.eval b) hv.toNat .sliceB).run P w= .ok lv.toNat w:=zdd hbv r3 (by omega) _ _
    simp [Instr.sliceBounds,zdd ha r1 (y:=cap) (by omega),this]
  ·cases hb
 ·cases hb
def z7u (P:Program) (gl:Globs) (o:Oper) (x:Opd) (lo hi:Option Opd):Bool:=
 match o.op with
 | .slice t a l h mx=>okX gl a x&&okX? gl l lo&&okX? gl h hi&&mx.isNone&&yoe P t
 | _=>false
theorem yci (str:List UInt8) (l h:Nat):(⟨str.toArray⟩:ByteArray).extract l h=⟨(win str l (h-l)).toArray⟩:=by
 apply ByteArray.ext
 simp [ByteArray.data_extract,win,List.extract_eq_take_drop]
theorem ya7 [Clk] (hs:Sim oc gl s) (he:zcc s e A.tmps) {x:Opd} {lo hi:Option Opd} {str:List UInt8} {l h:Nat} (ok:z7u P gl o x lo hi=true) (hx:x.ev e= .d (.str str))
  (hb:zcl str.length (lo.map (·.ev e)) (hi.map (·.ev e))=some (l,h)):zdk P oc gl s A o (.d (.str (win str l (h-l)))) s.m:=by
 unfold z7u at ok
 split at ok<;>try cases ok
 rename_i t a l' h' mx ho
 simp only [Bool.and_eq_true,Option.isNone_iff_eq_none] at ok
 obtain⟨⟨⟨⟨okx,ol⟩,oh⟩,rfl⟩,ht⟩:=ok
 have hu:=yfj ht
 have h1:=za1 hs he okx
 rw [hx] at h1
 have h1:A.eval a= .string ⟨str.toArray⟩:=h1
 have hsz:(⟨str.toArray⟩:ByteArray).size=str.length:=by simp [ByteArray.size]
 obtain⟨hr,_,_⟩:=zvk (P:=P) hs he ol oh hb false str.length (Nat.le_refl _) s.w
 refine za8 hs (x:= .string ((⟨str.toArray⟩:ByteArray).extract l h)) ?_ ?_
 ·simp [execOp,ho,Instr.sliceAt,Instr.slice,run_underlying hu,h1,hsz,hr]
 ·simp [VR,DR,yci]
end
end Go.Evl
namespace Go.Evl
open Go.RowKit
section
variable {P : Program} {oc : zdj} {gl : Globs} {s : S} {A : Act} {o : Oper} {e : Env}
theorem zux [Clk] {t:TypeId} {n:Option Nat} {b q off:Nat} {xs:List Value} {y:Value} (hc:zrb P t n=true) (w:World) (hcell:∀j v,xs[j]? =some v->w.cell? ⟨b,q+j,none⟩=some v)
  (h:zw6 n xs off=some y):(loadVar t ⟨b,q+off,none⟩).run P w= .ok y w:=by
 cases n with
 | none=>
  simp only [zrb,beq_iff_eq] at hc
  have hy:w.cell? ⟨b,q+off,none⟩=some y:=hcell off y h
  simp [loadVar,zxa hc,run_load,hy]
 | some k=>
  simp only [zrb,Bool.and_eq_true,beq_iff_eq] at hc
  simp only [zw6] at h
  split at h
  ·rename_i hle
   obtain rfl:=Option.some.inj h
   have hl:(win xs off k).length=k:=by simp [win];omega
   have hr:=run_loadCells_list (P:=P) w ⟨b,q+off,none⟩ (win xs off k) (fun j v hj=>by
    have hj':xs[off+j]? =some v:=by
     simp only [win,List.getElem?_take,List.getElem?_drop] at hj
     split at hj
     ·exact hj
     ·cases hj
    rw [ze9,Nat.add_assoc]
    exact hcell (off+j) v hj')
   rw [hl] at hr
   simp [loadVar,zxa hc.1,zes hc.2,hr]
  ·cases h
theorem zjz {w:World} {t sz n:Nat} {p:Value} {xs:List Value} {b c:Nat} (h:w.ownsRow 0 t sz p n xs) (hp:p= .slice (some ⟨b,0,none⟩) n c):∀j v,xs[j]? =some v->w.cell? ⟨b,j,none⟩=some v:=by
 intro j v hj
 have:=h.cells (g:=b) (by rw [hp];rfl) j v hj
 rwa [ze9,Nat.zero_add] at this
def yac (P:Program) (gl:Globs) (o:Oper) (n:Option Nat) (a:Opd):Bool:=
 match o.op with
 | .load t x=>okX gl x a&&zrb P t n
 | _=>false
theorem yfp [Clk] (hs:Sim oc gl s) {t:TypeId} {n:Option Nat} {v r:V} {x:Value} (hc:zrb P t n=true) (hv:VR s v x) (h:z2i n s.m v=some r):
  ∃a y,x= .pointer (some a)/\(loadVar t a).run P s.w= .ok y s.w/\VR s r y:=by
 unfold z2i at h
 split at h
 ·rename_i cs off
  obtain⟨b,q,rfl,hcr⟩:=hv
  obtain⟨xs,hd,hcell⟩:=CR.cells cs q hcr
  obtain⟨y,hy,hvy⟩:=z7w (s:=s) hd h
  exact⟨_,y,rfl,zux hc s.w hcell hy,hvy⟩
 ·rename_i i off top
  have h2:=hv.2
  split at h
  ·rename_i cs hl
   rw [hl] at h2
   obtain⟨b,hp,rfl⟩:=h2
   obtain⟨b',xs,hp',hh,hvs,_⟩:=hs.objs i _ hl
   have hbb:b'=b:=by rw [hp] at hp';injection hp' with e1;injection e1 with e1;injection e1 with e1 _;exact e1.symm
   subst hbb
   obtain⟨y,hy,hvy⟩:=yf4 hvs h
   refine⟨_,y,rfl,?_,hvy⟩
   have:=zux (q:=0) hc s.w (fun j v hj=>by
    rw [Nat.zero_add,cell_of_row s.w b' j xs _ (0,0) hh]
    simpa using hj) hy
   simpa using this
  ·rename_i wr tt sz l ds hl
   rw [hl] at h2
   split at h
   ·rename_i hlt
    subst hlt
    obtain⟨b,cap,hp,rfl⟩:=h2.2 rfl
    obtain⟨hz,xs,hown,hd,_⟩:=hs.objs i _ hl
    obtain⟨y,hy,hvy⟩:=z7w (s:=s) hd h
    refine⟨_,y,rfl,?_,hvy⟩
    have hcl:=zjz hown hp
    have:=zux (q:=0) hc s.w (fun j v hj=>by rw [Nat.zero_add];exact hcl j v hj) hy
    simpa using this
   ·cases h
  ·cases h
 ·cases h
theorem yau [Clk] (hs:Sim oc gl s) (he:zcc s e A.tmps) {n:Option Nat} {a:Opd} {v:V} (ok:yac P gl o n a=true) (h:z2i n s.m (a.ev e)=some v):zhs P s A o v:=by
 unfold yac at ok
 split at ok<;>try cases ok
 rename_i t x ho
 simp only [Bool.and_eq_true] at ok
 obtain⟨ad,y,hx,hr,hv⟩:=yfp hs ok.2 (za1 hs he ok.1) h
 exact zhs.mk (x:=y) (by simp [execOp,ho,Instr.loadAt,Instr.sureAddr,hx,hr]) hv
theorem z6h [Clk] (hs:Sim oc gl s) (he:zcc s e A.tmps) {n:Option Nat} {a:Opd} {v:V} (ok:yac P gl o n a=true) (h:z2i n s.m (a.ev e)=some v):zdk P oc gl s A o v s.m:=(yau hs he ok h).to hs
def yc9 (P:Program) (gl:Globs) (o:Oper) (n:Nat) (a x:Opd):Bool:=
 match o.op with
 | .store t b y=>okX gl b a&&okX gl y x&&zm4 P t==some n
 | _=>false
theorem zhj {α:Type} (cs:List α) (off:Nat) (xs:List α) (h:off+xs.length<=cs.length):(patch cs off xs).length=cs.length:=by
 simp [patch];omega
theorem getElem?_patch {α:Type} (cs:List α) (off:Nat) (xs:List α) (h:off<=cs.length) (j:Nat):
  (patch cs off xs)[j]? =if j<off then cs[j]? else if j<off+xs.length then xs[j-off]? else cs[j]? :=by
 unfold patch
 rw [List.append_assoc,List.getElem?_append,List.length_take,Nat.min_eq_left h]
 split
 ·rename_i hj;rw [List.getElem?_take,if_pos hj]
 ·rename_i hj
  rw [List.getElem?_append]
  split
  ·rename_i hj2;rw [if_pos (by omega)]
  ·rename_i hj2
   rw [if_neg (by omega),List.getElem?_drop]
   congr 1;omega
theorem z54 {α:Type} (cs:List α) (off:Nat) (xs:List α) (k:Nat) (h:off+xs.length<=k) (hk:k<=cs.length):(patch cs off xs).take k=patch (cs.take k) off xs:=by
 apply List.ext_getElem?
 intro j
 rw [List.getElem?_take,getElem?_patch _ _ _ (by omega),getElem?_patch _ _ _ (by simp;omega)]
 simp only [List.getElem?_take]
 by_cases hj:j<k
 ·simp only [hj,if_true]
 ·rw [if_neg hj,if_neg (by omega),if_neg (by omega),if_neg hj]
theorem yay (w:World) (g:Nat) (cs:Array Value) (a:Addr) (h:a.block≠g):(w.setRow g cs).cell? a=w.cell? a:=
 World.cell?_of_block (setRow_other w g a.block cs h)
theorem zy2 [Clk] {t:TypeId} {n b off:Nat} {v:Value} {cur:Array Value} {ty:TypeId} (hsz:zm4 P t=some n) (w:World) (hg:w.heap[b]? =some (.cells cur ty (0,0))) (hn:v.cells.toList.length=n)
  (hle:off+n<=cur.size) (h1:∀x∈v.cells.toList,x.oneCell'=true):
  (storeVar t ⟨b,off,none⟩ v).run P w= .ok () (w.setRow b (patch cur.toList off v.cells.toList).toArray):=by
 have hr:=run_storeCells_at P b off ty v.cells.toList 0 cur w hg (by rw [hn];omega) h1
 simp only [Nat.add_zero] at hr
 have hn':v.cells.size=n:=by simpa using hn
 simp [storeVar,zes hsz,hn',hr,patch]
theorem VRs.patch {cs:List V} {xs:List Value} {off:Nat} {ds:List V} {ys:List Value} (h:VRs s cs xs) (k:VRs s ds ys):VRs s (patch cs off ds) (patch xs off ys):=by
 unfold Evl.patch
 rw [VRs.length _ _ k]
 exact VRs.append _ _ _ _ (VRs.append _ _ _ _ (VRs.take _ _ _ h) k) (VRs.drop _ _ _ h)
theorem DRs.patch {w:World} {Im:Nat->Nat->Prop} {cs:List D} {xs:List Value} {off:Nat} {ds:List D} {ys:List Value} (h:DRs w Im cs xs) (k:DRs w Im ds ys):DRs w Im (Evl.patch cs off ds) (Evl.patch xs off ys):=by
 unfold Evl.patch
 rw [DRs.length _ _ k]
 exact DRs.append _ _ _ _ (DRs.append _ _ _ _ (DRs.take _ _ _ h) k) (DRs.drop _ _ _ h)
theorem zs2 [Clk] (hs:Sim oc gl s) {i:Id} {b:Nat} {ob o':Ob} {cur:Array Value} {ty:TypeId} (cs:Array Value) (hl:look s.m i=some ob) (hng:ob≠ .gone) (hb:blk (s.φ i)=some b)
  (hg:s.w.heap[b]? =some (.cells cur ty (0,0))) (him:∀j,s.Im b j->cs[j]? =cur[j]?) (ht:za4 ob o' (s.φ i) (s.φ i))
  (ho:Ext (fun _=>True) s ⟨fun k=>if i=k then s.φ i else s.φ k,upd s.m i o',s.w.setRow b cs,s.Im⟩->ObR oc ⟨fun k=>if i=k then s.φ i else s.φ k,upd s.m i o',s.w.setRow b cs,s.Im⟩ (s.φ i) o'):
  Sim oc gl ⟨fun k=>if i=k then s.φ i else s.φ k,upd s.m i o',s.w.setRow b cs,s.Im⟩/\Ext (fun _=>True) s ⟨fun k=>if i=k then s.φ i else s.φ k,upd s.m i o',s.w.setRow b cs,s.Im⟩:=by
 refine hs.change i o' (s.φ i) (s.w.setRow b cs) s.Im rfl Tk.of rfl (by simp) (fun c hc hne=> ?_) (fun _ _ h=>h) (fun c j hj=> ?_) (fun _ _ h=> .inl h) (fun c j h=>by simpa using hs.imlt c j h)
  (fun c hc=> .inr ⟨⟨ob,hl,hng⟩,hc⟩) (fun x hx=>by rw [hl] at hx;cases hx;exact ht) ho
 ·exact setRow_other _ _ _ _ (fun e=>hne ⟨ob,hl,hng⟩ (by rw [e];exact hb))
 ·by_cases hcb:c=b
  ·subst hcb
   rw [cell_of_row _ c j cs ty (0,0) (setRow_heap _ c cur cs ty (0,0) hg),cell_of_row _ c j cur ty (0,0) hg]
   exact him j hj
  ·exact yay _ _ _ _ hcb
theorem zsv (φ:Id->Value) (i:Id):(fun k=>if i=k then φ i else φ k)=φ:=by
 funext k;split
 ·rename_i h;rw [h]
 ·rfl
theorem zyf (hs:Sim oc gl s) {i:Id} {off len top:Nat} {wr:Bool} {t sz n:Nat} {xs:List D} {x:Value} (hl:look s.m i=some (.row wr t sz n xs)) (hw:wr=false) (hn:n=top) (hle:off+len<=n)
  (hv:VR s (.ref i off len top) x):DR s.w s.Im (.list len (if off=0/\len=n then xs else win xs (off*sz) (len*sz))) x:=by
 have h2:=hv.2
 rw [hl] at h2
 subst hn;subst hw
 obtain⟨hz,ys,hown,hd,him⟩:=hs.objs i _ hl
 have hlen:xs.length=n*sz:=(DRs.length _ _ hd).trans hown.1
 -- the cells of the row, sealed
 have row:∀b cap,s.φ i= .slice (some ⟨b,0,none⟩) n cap->CR s.w s.Im b 0 xs:=by
  intro b cap hp
  have hcl:=zjz hown hp
  refine CR.mk xs ys 0 hd (fun j v hj=>by rw [Nat.zero_add];exact hcl j v hj) (fun j hj=> ?_)
  rw [Nat.zero_add]
  refine(him b (by rw [hp];rfl) j).2 ⟨rfl,?_⟩
  have:=hown.1;omega
 have part:∀b cap,s.φ i= .slice (some ⟨b,0,none⟩) n cap->CR s.w s.Im b (off*sz) (win xs (off*sz) (len*sz)):=by
  intro b cap hp
  have:=CR.drop (off*sz) xs 0 (row b cap hp)
  rw [Nat.zero_add] at this
  exact CR.take _ _ _ this
 have hzero:len=0->(if off=0/\len=n then xs else win xs (off*sz) (len*sz))=[]:=by
  intro h0
  subst h0
  split
  ·rename_i h;have:n=0:=h.2.symm;subst this;exact List.eq_nil_of_length_eq_zero (by simpa using hlen)
  ·simp [win]
 rcases h2.2 rfl with⟨rfl,rfl,hx⟩|⟨hne,b,cap,capp,hp,_,_,hlc,hx⟩|⟨hne,_,rfl,a,c,hx⟩
 ·rcases hown.2 with⟨hp,h0⟩|⟨g,cap,cur,hp,_,_,hnc,_⟩
  ·rw [hzero h0,h0]
   exact⟨none,0,hx.trans hp,Nat.le_refl _,.inl ⟨rfl,rfl⟩⟩
  ·simp only [and_self,if_true]
   exact⟨_,_,hx.trans hp,hnc,.inr ⟨g,0,rfl,row g cap hp⟩⟩
 ·refine⟨_,_,hx,hlc,.inr ⟨b,off*sz,rfl,?_⟩⟩
  split
  ·rename_i h;obtain⟨rfl,rfl⟩:=h;rw [Nat.zero_mul];exact row b capp hp
  ·exact part b capp hp
 ·rw [hzero rfl]
  exact⟨_,_,hx,Nat.zero_le _,.inl ⟨rfl,rfl⟩⟩
theorem yp1 {f:Nat} {x:Value} (h:VR s (.fn f [] []) x):x= .func (.func f) #[] #[]:=by
 obtain⟨xs,ys,rfl,h1,h2⟩:=h
 have e1:xs=#[]:=Array.toList_eq_nil_iff.1 h1
 have e2:ys=#[]:=Array.toList_eq_nil_iff.1 h2
 rw [e1,e2]
mutual
theorem zmo (hs:Sim oc gl s):∀(v:V) (d:D) (x:Value),freeze false s.m v=some d->VR s v x->DR s.w s.Im d x
 | .d y,d,x,h,hv=>by simp only [freeze,Option.some.injEq] at h;subst h;exact hv
 | .agg cs,d,x,h,hv=>by
  simp only [freeze,Option.map_eq_some_iff] at h
  obtain⟨ds,h1,rfl⟩:=h
  obtain⟨xs,rfl,hv⟩:=hv
  exact⟨xs,rfl,z5h hs cs ds _ h1 hv⟩
 | .ref i off len top,d,x,h,hv=>by
  simp only [freeze] at h
  split at h
  ·rename_i wr t sz n xs hl
   split at h
   ·rename_i hc
    obtain⟨h1,h2,h3⟩:=hc
    obtain rfl:=Option.some.inj h
    exact zyf hs hl (by simpa using h1) h2 h3 hv
   ·cases h
  ·cases h
 | .tup _,_,_,h,_=>by simp [freeze] at h
 | .ptr ..,_,_,h,_=>by simp [freeze] at h
 | .lptr ..,_,_,h,_=>by simp [freeze] at h
 | .cl n cs,d,x,h,hv=>by
  simp only [freeze,Option.some.injEq] at h;subst h
  obtain⟨ad,rfl,hv⟩:=hv
  exact⟨ad,n,rfl,Nat.le_refl _,hv⟩
 | .fn f [] [],d,x,h,hv=>by
  simp only [freeze,Option.some.injEq] at h;subst h
  exact yp1 hv
 | .fn _ (_::_) _,_,_,h,_=>by simp [freeze] at h
 | .fn _ [] (_::_),_,_,h,_=>by simp [freeze] at h
 | .yld _,_,_,h,_=>by simp [freeze] at h
 | .mp _,_,_,h,_=>by simp [freeze] at h
 | .it _,_,_,h,_=>by simp [freeze] at h
 | .skip,_,_,h,_=>by simp [freeze] at h
 | .undef,_,_,h,_=>by simp [freeze] at h
theorem z5h (hs:Sim oc gl s):∀(cs:List V) (ds:List D) (xs:List Value),freezeL false s.m cs=some ds->VRs s cs xs->DRs s.w s.Im ds xs
 | [],ds,xs,h,hv=>by simp only [freezeL,Option.some.injEq] at h;subst h;exact hv
 | v::r,ds,xs,h,hv=>by
  obtain⟨x,ys,rfl,h1,h2,h3⟩:=hv
  simp only [freezeL] at h
  split at h
  ·rename_i d ds' e1 e2
   obtain rfl:=Option.some.inj h
   exact⟨x,ys,rfl,h1,zmo hs v d x e1 h2,z5h hs r ds' ys e2 h3⟩
  ·cases h
end
theorem z86 (hs:Sim oc gl s) {v:V} {ds:List D} {x:Value} (h:zql s.m v=some ds) (hv:VR s v x):DRs s.w s.Im ds x.cells.toList:=by
 unfold zql at h
 split at h
 ·rename_i cs hf
  obtain rfl:=Option.some.inj h
  obtain⟨xs,rfl,hd⟩:=zmo hs v _ x hf hv
  exact hd
 ·rename_i d hna hf
  obtain rfl:=Option.some.inj h
  have hd:=zmo hs v _ x hf hv
  cases d with
  | agg cs=>exact absurd rfl (hna cs)
  | int k n=>obtain rfl:=hd;exact⟨_,_,rfl,rfl,rfl,rfl⟩
  | bool b=>obtain rfl:=hd;exact⟨_,_,rfl,rfl,rfl,rfl⟩
  | str b=>obtain rfl:=hd;exact⟨_,_,rfl,rfl,rfl,rfl⟩
  | nil=>obtain⟨a,rfl⟩:=hd;exact⟨_,_,rfl,rfl,⟨a,rfl⟩,rfl⟩
  | list n l=>obtain⟨a,c,rfl,h⟩:=hd;exact⟨_,_,rfl,rfl,⟨a,c,rfl,h⟩,rfl⟩
  | nilp=>obtain rfl:=hd;exact⟨_,_,rfl,rfl,rfl,rfl⟩
  | nilf=>obtain rfl:=hd;exact⟨_,_,rfl,rfl,rfl,rfl⟩
  | nili=>obtain rfl:=hd;exact⟨_,_,rfl,rfl,rfl,rfl⟩
  | ifc b=>rcases hd with⟨h0,rfl⟩|⟨te,pe,rfl⟩;exact⟨_,_,rfl,rfl,.inl ⟨h0,rfl⟩,rfl⟩;exact⟨_,_,rfl,rfl,.inr ⟨te,pe,rfl⟩,rfl⟩
  | nilm=>obtain rfl:=hd;exact⟨_,_,rfl,rfl,rfl,rfl⟩
  | fn f=>obtain rfl:=hd;exact⟨_,_,rfl,rfl,rfl,rfl⟩
 ·cases h
theorem yea [Clk] (hs:Sim oc gl s) (he:zcc s e A.tmps) {n:Nat} {a x:Opd} {m':Mem} (ok:yc9 P gl o n a x=true) (h:zxd n s.m (a.ev e) (x.ev e)=some m'):z8x P oc gl s A o m':=by
 unfold yc9 at ok
 split at ok<;>try cases ok
 rename_i t b y ho
 simp only [Bool.and_eq_true,beq_iff_eq] at ok
 obtain⟨⟨okb,oky⟩,hsz⟩:=ok
 have hb:=za1 hs he okb
 have hy:=za1 hs he oky
 generalize a.ev e=va at hb h
 generalize x.ev e=vx at hy h
 unfold zxd at h
 split at h
 ·rename_i i off top
  have hb2:=hb.2
  split at h
  ·rename_i ty cs hl
   split at h
   ·rename_i xs hcx
    split at h
    ·rename_i hc
     obtain⟨hc1,hc2⟩:=hc
     obtain rfl:=Option.some.inj h
     rw [hl] at hb2
     obtain⟨bk,hp,hx⟩:=hb2
     obtain⟨bk',cur,hp',hh,hvs,him⟩:=hs.objs i _ hl
     have hbb:bk'=bk:=by rw [hp] at hp';injection hp' with e1;injection e1 with e1;injection e1 with e1 _;exact e1.symm
     subst hbb
     have hvx:=VR.one hy hcx
     have hlen:=VRs.length _ _ hvs
     have hn:(A.eval y).cells.toList.length=n:=by rw [<-VRs.length _ _ hvx];exact hc1
     have hrun:=zy2 (off:=off) hsz s.w hh hn (by simp at hlen;omega) (VRs.ones _ _ hvx)
     have hpl:(patch cs off xs).length=cs.length:=zhj _ _ _ (by omega)
     obtain⟨h1,h2⟩:=zs2 hs (i:=i) (o':= .cells ty (patch cs off xs)) (patch cur.toList off (A.eval y).cells.toList).toArray hl (by simp) (by rw [hp];rfl) hh (fun j hj=>absurd hj (him j)) ⟨rfl,rfl,hpl⟩
      (fun hE=>⟨bk',_,hp,by simpa using setRow_heap s.w bk' cur _ ty (0,0) hh,by
       have:=VRs.patch (off:=off) (VRs.ext hE cs _ (fun _ _=>trivial) hvs) (VRs.ext hE xs _ (fun _ _=>trivial) hvx)
       simpa using this,him⟩)
     exact⟨_,by simp [execOp,ho,Instr.storeAt,Instr.sureAddr,hx,hrun],h1,h2,rfl⟩
    ·cases h
   ·cases h
  ·rename_i ty sz l xs hl
   split at h
   ·rename_i ds hcd
    split at h
    ·rename_i hc
     obtain⟨hc1,hc2,rfl⟩:=hc
     obtain rfl:=Option.some.inj h
     rw [hl] at hb2
     obtain⟨bk,cap,hp,hx⟩:=hb2.2 rfl
     obtain⟨hz,ys,hown,hd,him⟩:=hs.objs i _ hl
     have hvx:=z86 hs hcd hy
     rcases hown.2 with⟨hp',h0⟩|⟨g,cap',cur,hp',hg0,hh,hnc,hcm,hcs,htake⟩
     ·rw [hp] at hp';injection hp' with e1;cases e1
     have hbb:bk=g:=by rw [hp] at hp';injection hp' with e1;injection e1 with e1;injection e1 with e1 _
     subst hbb
     have hlen:=(DRs.length _ _ hd).trans hown.1
     have hn:(A.eval y).cells.toList.length=n:=by rw [<-DRs.length _ _ hvx];exact hc1
     have hcap:l*sz<=cap'*sz:=Nat.mul_le_mul_right _ hnc
     have hfit:off+n<=l*sz:=by rw [<-hlen];exact hc2
     have hrun:=zy2 (off:=off) hsz s.w hh hn (by omega) (DRs.ones _ _ hvx)
     have hpl:(patch xs off ds).length=xs.length:=zhj _ _ _ (by omega)
     obtain⟨h1,h2⟩:=zs2 hs (i:=i) (o':= .row true ty sz l (patch xs off ds)) (patch cur.toList off (A.eval y).cells.toList).toArray hl (by simp) (by rw [hp];rfl) hh
      (fun j hj=>absurd ((him bk (by rw [hp];rfl) j).1 hj).1 (by simp)) ⟨fun h=>h,rfl,rfl,Nat.le_refl _,fun _=>rfl⟩
      (fun hE=>⟨hz,patch ys off (A.eval y).cells.toList,⟨by rw [zhj _ _ _ (by rw [hn,hown.1];exact hfit)];exact hown.1,.inr ⟨bk,cap',_,hp',hg0,by simpa using setRow_heap s.w bk cur _ ty (0,0) hh,hnc,hcm,by
        have:=zhj cur.toList off (A.eval y).cells.toList (by rw [hn];simp;omega)
        simp [this,hcs],by
        simp only []
        rw [<-htake]
        exact z54 _ _ _ _ (by rw [hn];exact hfit) (by simp;omega)⟩⟩,DRs.patch (DRs.ext hE.im hE.keep xs _ hd) (DRs.ext hE.im hE.keep ds _ hvx),him⟩)
     exact⟨_,by simp [execOp,ho,Instr.storeAt,Instr.sureAddr,hx,hrun],h1,h2,rfl⟩
    ·cases h
   ·cases h
  ·cases h
 ·cases h
theorem yfx [Clk] (hs:Sim oc gl s) (i:Id) (hi:look s.m i=none) (cs:List V) (xs:Array Value) (t:TypeId) (hv:VRs s cs xs.toList):
  Sim oc gl ⟨fun k=>if i=k then .pointer (some ⟨s.w.heap.size,0,none⟩) else s.φ k,upd s.m i (.cells t cs),s.w.alloc (.cells xs t),s.Im⟩/\
  Ext (fun _=>True) s ⟨fun k=>if i=k then .pointer (some ⟨s.w.heap.size,0,none⟩) else s.φ k,upd s.m i (.cells t cs),s.w.alloc (.cells xs t),s.Im⟩:=
 hs.change i _ _ _ s.Im rfl Tk.of rfl (by simp) (fun b hb _=>heap_alloc_old _ _ _ hb) (fun _ _ h=>h)
  (fun b j hj=>World.cell?_of_block (heap_alloc_old _ _ _ (hs.imlt b j hj))) (fun _ _ h=> .inl h) (fun b j h=>Nat.lt_of_lt_of_le (hs.imlt b j h) (by simp))
  (fun b h=>by simp [blk] at h;subst h;exact .inl (Nat.le_refl _)) (fun o h=>by rw [hi] at h;cases h)
  (fun hE=>⟨s.w.heap.size,xs,rfl,heap_alloc_new _ _,VRs.ext hE cs _ (fun _ _=>trivial) hv,fun j hj=>absurd (hs.imlt _ j hj) (Nat.lt_irrefl _)⟩)
theorem zy1 (s:S) (i:Id) (b t:Nat) (cs:List V) (w:World) (Im:Nat->Nat->Prop) (φ:Id->Value) (hφ:φ i= .pointer (some ⟨b,0,none⟩)):
  VR ⟨φ,upd s.m i (.cells t cs),w,Im⟩ (.ptr i 0 0) (.pointer (some ⟨b,0,none⟩)):=by
 refine⟨rfl,?_⟩
 show yiz (φ i) 0 0 _ (look (upd s.m i (.cells t cs)) i)
 rw [za6,hφ]
 exact⟨b,rfl,rfl⟩
theorem z7h {v:Value} (h:zph v=true):v= .slice none 0 0:=by
 unfold zph at h
 split at h
 ·rfl
 ·cases h
theorem znv [Clk] (cx:Cx) (slot:Nat):∀(is:List ybl) (vals:List Value) (s:S),Sim oc gl s->ztq vals is=true->
  ∃φ',Sim oc gl ⟨φ',(zbc cx slot is s.m).2,s.w,s.Im⟩/\Ext (fun _=>True) s ⟨φ',(zbc cx slot is s.m).2,s.w,s.Im⟩/\VRs ⟨φ',(zbc cx slot is s.m).2,s.w,s.Im⟩ (zbc cx slot is s.m).1 vals
 | [],vals,s,hs,ok=>by
  cases vals<;>simp [ztq] at ok
  exact⟨s.φ,hs,Ext.refl _ _,rfl⟩
 | .z d::r,vals,s,hs,ok=>by
  cases vals with
  | nil=>simp [ztq] at ok
  | cons v vals=>
   simp only [ztq,Bool.and_eq_true] at ok
   obtain⟨φ',h1,h2,h3⟩:=znv cx slot r vals s hs ok.2
   exact⟨φ',h1,h2,⟨v,vals,rfl,ok.1.1,zrw _ _ _ _ ok.1.2,h3⟩⟩
 | .own sp::r,vals,s,hs,ok=>by
  cases vals with
  | nil=>simp [ztq] at ok
  | cons v vals=>
   simp only [ztq,Bool.and_eq_true,decide_eq_true_eq] at ok
   obtain⟨⟨hn,hz⟩,ok⟩:=ok
   obtain rfl:=z7h hn
   obtain⟨k1,k2⟩:=z5t hs (zcn cx slot s.m) (zc3 _ _ _) sp hz
   obtain⟨φ',h1,h2,h3⟩:=znv cx slot r vals _ k1 ok
   refine⟨φ',h1,k2.trans h2 (fun _ h=>h),⟨_,vals,rfl,rfl,?_,h3⟩⟩
   exact VR.ext h2 (.ref (zcn cx slot s.m) 0 0 0) _ (fun _ _=>trivial) (zgp s _ (.slice none 0 0) rfl _ _ _ _ _ _ _ _ (by simp))
def yc0 (P:Program) (o:Oper) (ty:Nat) (cs:List ybl):Bool:=
 match o.op with
 | .alloc t=>t==ty&&(match zys P t with|some vals=>ztq vals cs|none=>false)
 | _=>false
theorem z8t [Clk] {t:TypeId} {vals:List Value} (h:zys P t=some vals):∃z,(∀w,(zeroValue t).run P w= .ok z w)/\z.cells.toList=vals:=by
 unfold zys at h
 cases hi:P.info? t with
 | none=>simp [hi] at h
 | some i=>
  cases hz:i.zero with
  | none=>simp [hi,hz] at h
  | some z=>
   simp [hi,hz] at h
   exact⟨z,fun w=>by simp [zeroValue,typeInfo,hi,hz],by simpa using h⟩
theorem ydz [Clk] (hs:Sim oc gl s) (cx:Cx) (slot:Nat) {ty:Nat} {cs:List ybl} (ok:yc0 P o ty cs=true):
  zdk P oc gl s A o (.ptr (zcn cx slot (zbc cx slot cs s.m).2) 0 0) (upd (zbc cx slot cs s.m).2 (zcn cx slot (zbc cx slot cs s.m).2) (.cells ty (zbc cx slot cs s.m).1)):=by
 unfold yc0 at ok
 split at ok<;>try cases ok
 rename_i t ho
 simp only [Bool.and_eq_true,beq_iff_eq] at ok
 obtain⟨rfl,ok⟩:=ok
 split at ok<;>try cases ok
 rename_i vals hz
 obtain⟨z,hzr,hzc⟩:=z8t hz
 obtain⟨φ',h1,h2,h3⟩:=znv cx slot cs vals s hs ok
 obtain⟨k1,k2⟩:=yfx h1 (zcn cx slot (zbc cx slot cs s.m).2) (zc3 _ _ _) _ z.cells t (by rw [hzc];exact h3)
 refine⟨_,.pointer (some ⟨s.w.heap.size,0,none⟩),?_,k1,h2.trans k2 (fun _ h=>h),rfl,zy1 ⟨φ',(zbc cx slot cs s.m).2,s.w,s.Im⟩ _ _ _ _ _ _ _ (by simp)⟩
 simp [execOp,ho,Instr.alloc,hzr,newVar,newRow,run_newObj]
def yrx (gl:Globs) (o:Oper) (ty:Nat) (x:Opd):Bool:=
 match o.op with
 | .box t y=>t==ty&&okX gl y x
 | _=>false
theorem ymf [Clk] (hs:Sim oc gl s) (he:zcc s e A.tmps) (cx:Cx) (slot:Nat) {ty:Nat} {x:Opd} {cs:List V} (ok:yrx gl o ty x=true) (h:cellsOf (x.ev e)=some cs):
  zdk P oc gl s A o (.ptr (zcn cx slot s.m) 0 0) (upd s.m (zcn cx slot s.m) (.cells ty cs)):=by
 unfold yrx at ok
 split at ok<;>try cases ok
 rename_i t y ho
 simp only [Bool.and_eq_true,beq_iff_eq] at ok
 obtain⟨rfl,ok⟩:=ok
 have hv:=VR.one (za1 hs he ok) h
 obtain⟨k1,k2⟩:=yfx hs (zcn cx slot s.m) (zc3 _ _ _) cs (A.eval y).cells t hv
 refine⟨_,.pointer (some ⟨s.w.heap.size,0,none⟩),?_,k1,k2,rfl,zy1 s _ _ _ _ _ _ _ (by simp)⟩
 simp [execOp,ho,Instr.box,newVar,newRow,run_newObj]
theorem z91 (off:Nat):∀(vs:List Value) (k:Nat) (cells:Array Value),off+k+vs.length<=cells.size->
  ((vs.zipIdx k).foldl (fun cs p=>cs.setIfInBounds (off+p.2) p.1) cells).toList=patch cells.toList (off+k) vs
 | [],k,cells,_=>by simp [patch]
 | v::r,k,cells,h=>by
  simp only [List.zipIdx_cons,List.foldl_cons]
  rw [z91 off r (k+1) _ (by simp at h ⊢;omega)]
  apply List.ext_getElem?
  intro j
  simp only [List.length_cons] at h
  rw [getElem?_patch _ _ _ (by simp;omega),getElem?_patch _ _ _ (by simp;omega)]
  simp only [Array.toList_setIfInBounds,List.getElem?_set,List.length_cons,Array.length_toList]
  by_cases h1:j<off+k
  ·have:¬(off+k=j):=by omega
   simp [h1,this,show j<off+(k+1) by omega]
  ·by_cases h2:j=off+k
   ·subst h2
    simp [show off+k<off+(k+1) by omega,show off+k<cells.size by omega]
   ·have h3:¬(off+k=j):=by omega
    by_cases h4:j<off+k+(r.length+1)
    ·have e1:j-(off+k)=(j-(off+(k+1)))+1:=by omega
     simp [h1,show ¬j<off+(k+1) by omega,h4,show j<off+(k+1)+r.length by omega,e1]
    ·simp [h1,h3,show ¬j<off+(k+1) by omega,h4,show ¬j<off+(k+1)+r.length by omega]
theorem z5n (off:Nat) (v:Value) (cells:Array Value) (h:off+v.cells.size<=cells.size):
  (v.cells.zipIdx.foldl (fun cs p=>cs.setIfInBounds (off+p.2) p.1) cells).toList=patch cells.toList off v.cells.toList:=by
 have:=z91 off v.cells.toList 0 cells (by simpa using h)
 rw [<-Array.foldl_toList,Array.toList_zipIdx]
 simpa using this
def yek (s:S) (place:Nat->Option (Nat×Nat)):List (Nat×Nat×V)->List (Nat×Value)->Prop
 | [],xs=>xs=[]
 | (off,n,v)::r,xs=>∃i x q,xs=(i,x)::q/\place i=some (off,n)/\VR s v x/\yek s place r q
theorem yj3 (place:Nat->Option (Nat×Nat)):∀(parts:List (Nat×Nat×V)) (q:List (Nat×Value)) (cs out:List V) (cells:Array Value),yek s place parts q->VRs s cs cells.toList->
  z9p cs parts=some out->∃r,Instr.fill place cells q=some r/\VRs s out r.toList
 | [],q,cs,out,cells,hp,hv,h=>by
  simp only [yek] at hp;subst hp
  simp only [z9p,Option.some.injEq] at h;subst h
  exact⟨cells,rfl,hv⟩
 | (off,n,v)::r,q,cs,out,cells,hp,hv,h=>by
  obtain⟨i,x,q',rfl,hpl,hvx,hp⟩:=hp
  simp only [z9p] at h
  split at h
  ·rename_i xs hc
   split at h
   ·rename_i hn
    obtain⟨hn1,hn2⟩:=hn
    have hvs:=VR.one hvx hc
    have hl1:=VRs.length _ _ hvs
    have hl2:=VRs.length _ _ hv
    simp only [Array.length_toList] at hl1 hl2
    have hle:off+x.cells.size<=cells.size:=by omega
    have hlaid:=z5n off x cells hle
    obtain⟨res,k1,k2⟩:=yj3 place r q' (patch cs off xs) out (x.cells.zipIdx.foldl (fun cs p=>cs.setIfInBounds (off+p.2) p.1) cells) hp (by rw [hlaid];exact VRs.patch hv hvs) h
    refine⟨res,?_,k2⟩
    have hsz:¬(x.cells.size≠n\/off+x.cells.size>cells.size):=by omega
    simp only [Instr.fill,hpl]
    rw [if_neg (by simpa using hsz)]
    exact k1
   ·cases h
  ·cases h
def yc1 (P:Program) (gl:Globs) (o:Oper) (zero:List ybl) (parts:List (Nat×Nat×Opd)):Bool:=
 match o.op with
 | .build t ps=>(match zys P t,yqe P t with|some vals,some place=>ztq vals zero&&zyk gl place ps.toList parts|_,_=>false)
 | _=>false
theorem z5w {place:Nat->Option (Nat×Nat)} (hs:Sim oc gl s) (he:zcc s e A.tmps):∀(ps:List (Nat×Operand)) (parts:List (Nat×Nat×Opd)),zyk gl place ps parts=true->
  yek s place (zw3 e parts) (ps.map fun p=>(p.1,A.eval p.2))
 | [],[],_=>rfl
 | [],_::_,h=>by simp [zyk] at h
 | (i,a)::r,[],h=>by simp [zyk] at h
 | (i,a)::r,(off,n,x)::q,h=>by
  simp only [zyk,Bool.and_eq_true,beq_iff_eq] at h
  exact⟨i,A.eval a,_,rfl,h.1.1,za1 hs he h.1.2,z5w hs he r q h.2⟩
theorem yd0 [Clk] (hs:Sim oc gl s) (he:zcc s e A.tmps) (cx:Cx) (slot:Nat) {zero:List ybl} {parts:List (Nat×Nat×Opd)} {cs:List V} (ok:yc1 P gl o zero parts=true)
  (h:z9p (zbc cx slot zero s.m).1 (zw3 e parts)=some cs):zdk P oc gl s A o (ycu cs) (zbc cx slot zero s.m).2:=by
 unfold yc1 at ok
 split at ok<;>try cases ok
 rename_i t ps ho
 split at ok<;>try cases ok
 rename_i vals place hz hpl
 simp only [Bool.and_eq_true] at ok
 obtain⟨φ',h1,h2,h3⟩:=znv cx slot zero vals s hs ok.1
 have he':zcc ⟨φ',(zbc cx slot zero s.m).2,s.w,s.Im⟩ e A.tmps:=zcc.ext h2 (fun _ _ _=>trivial) he
 have hparts:=z5w (A:=A) h1 he' ps.toList parts ok.2
 -- the type's zero and places
 unfold zys at hz
 cases hi:P.info? t with
 | none=>simp [hi] at hz
 | some it=>
  cases hzz:it.zero with
  | none=>simp [hi,hzz] at hz
  | some z=>
   simp [hi,hzz] at hz
   obtain⟨r,hr,hvr⟩:=yj3 place _ _ _ cs z.cells hparts (by rw [hz];exact h3) h
   have hb:P.built t (ps.map fun(i,x)=>(i,A.eval x)).toList=some r:=by
    unfold Program.built
    unfold yqe at hpl
    simp only [hi]
    cases hu:P.underlying t with
    | none=>simp [hu] at hpl
    | some d=>
     cases d<;>simp only [hu] at hpl<;>try cases hpl
     ·rename_i n el
      cases hie:P.info? el with
      | none=>simp [hie] at hpl
      | some ie=>
       simp [hie] at hpl
       simp only [hzz,hie]
       rw [<-hr]
       subst hpl
       simp
     ·rename_i fs
      simp only [Option.map_eq_some_iff] at hpl
      obtain⟨l,hl,rfl⟩:=hpl
      simp only [hzz,hl]
      rw [<-hr]
      simp
   refine⟨⟨φ',(zbc cx slot zero s.m).2,s.w,s.Im⟩,.agg r,?_,h1,h2,rfl,yft hvr⟩
   have:=run_build s.w t (ps.map fun(i,x)=>(i,A.eval x)) r hb
   simp only [execOp,ho,Sem.run_bind,this,Result.andThen_ok]
   rfl
end
end Go.Evl
