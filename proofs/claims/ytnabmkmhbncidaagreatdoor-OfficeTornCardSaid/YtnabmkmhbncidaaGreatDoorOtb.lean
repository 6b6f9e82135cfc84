/-
  OfficeTorn: what its law leans on, part 2.
-/
import Derived.Laws.RangeAny
import Derived.Lib.SplitLaws
import Derived.Test.YtnabmkmhbncidaaGreatDoorAwR
import Derived.Test.YtnabmkmhbncidaaGreatDoorEvX
import Derived.Test.YtnabmkmhbncidaaGreatDoorEvY
import Derived.Test.YtnabmkmhbncidaaGreatDoorRead
import Derived.Test.YtnabmkmhbncidaaGreatDoorSpBase
import Derived.Test.YtnabmkmhbncidaaGreatDoorOta
namespace Go.Proofs.YtnabmkmhbncidaaGreatDoor.Co
open Go Go.Evl
set_option maxHeartbeats 32000000
set_option maxRecDepth 100000
structure Us (E:Oracle) (f:Nat) (as0:List V) (m0:Mem) (r:V) (m2:Mem):Prop where
 got:In E 1 f as0 m0 fun v m1=>v=r/\z3d m1 m2
theorem z2c (m1:Mem):∀(m:Mem) (i:Evl.Id) (o:Ob),z3d m1 m->Evl.look m i=some o->Evl.look m1 i=some o
 | [],_,_,_,h=>by simp [Evl.look] at h
 | (j,x)::r,i,o,⟨h1,h2⟩,h=>by
  simp only [Evl.look] at h
  split at h
  ·rename_i e
   subst e
   obtain rfl:=Option.some.inj h
   exact h1
  ·exact z2c m1 r i o h2 h
theorem zu2 {σ:List (Evl.Id×Evl.Id)} {m1 m2:Mem} (hk:z3d m1 m2):∀(l:List (Evl.Id×Evl.Id)) (m m':Mem),zr5 σ m2 l m=some m'->zr5 σ m1 l m=some m'
 | [],_,_,h=>h
 | (a,b)::r,m,m',h=>by
  simp only [zr5] at h ⊢
  cases hl:Evl.look m2 b with
  | none=>rw [hl] at h;cases h
  | some o=>
   rw [hl] at h
   rw [z2c m1 m2 b o hk hl]
   dsimp only at h ⊢
   split at h
   ·rename_i hc
    rw [if_pos hc]
    exact zu2 hk r _ m' h
   ·cases h
theorem zog.of {E:Oracle} {f:Nat} {first caps args as0:List V} {m m0 m2 m':Mem} {r r':V} {K:V->Mem->Prop} (is:List Evl.Id) (his:reach 0 m 64 (zep ((first ++args++caps).map (zuu m))) []=is)
  (hc:(within is 0 (zep ((first ++args++caps).map (zuu m)))&&movable is 0 m)=true) (has:zsy (number ⟨0,0⟩ 0 0 is) ((first ++args++caps).map (zuu m))=as0) (hm:moved (number ⟨0,0⟩ 0 0 is) m (number ⟨0,0⟩ 0 0 is)=m0)
  (hq:Us E f as0 m0 r m2) (hb:zr5 (number ⟨0,0⟩ 0 0 is) m2 (number ⟨0,0⟩ 0 0 is) m=some m') (hid:(ids r).all (fun i=>((number ⟨0,0⟩ 0 0 is).map (·.2)).elem i)=true) (hr:ren (zml (number ⟨0,0⟩ 0 0 is)) r=r') (hk:K r' m'):zog E false (.fn f first caps) args m K:=by
 obtain⟨v,m1,h1,rfl,h3⟩:=hq.got
 refine⟨r',m',?_,hk⟩
 simp only [zrq,his,hc,if_true,has,hm,h1]
 rw [if_neg (by decide),hid,zu2 h3 _ _ _ hb,<-hr]
 rfl
structure Ui (E:Oracle) (f:Nat) (as0:List V) (m0:Mem) (r:V) (m2:Mem):Prop where
 got:In E 1 f as0 m0 fun v m1=>zu3 ⟨0,1⟩ 0 true v m1 fun v' m'=>v'=r/\z3d m' m2
theorem zog.ofI {E:Oracle} {f:Nat} {first caps args as0:List V} {m m0 m2 m':Mem} {r r':V} {K:V->Mem->Prop} (is:List Evl.Id) (his:reach 0 m 64 (zep ((first ++args++caps).map (zuu m))) []=is)
  (hc:(within is 0 (zep ((first ++args++caps).map (zuu m)))&&movable is 0 m)=true) (has:zsy (number ⟨0,0⟩ 0 0 is) ((first ++args++caps).map (zuu m))=as0) (hm:moved (number ⟨0,0⟩ 0 0 is) m (number ⟨0,0⟩ 0 0 is)=m0)
  (hq:Ui E f as0 m0 r m2) (hlow:zh2 1 (zm2 m0)=true) (hb:zr5 (number ⟨0,0⟩ 0 0 is) m2 (number ⟨0,0⟩ 0 0 is) m=some m') (hid:(ids r).all (fun i=>((number ⟨0,0⟩ 0 0 is).map (·.2)).elem i)=true) (hr:ren (zml (number ⟨0,0⟩ 0 0 is)) r=r') (hk:K r' m'):zog E true (.fn f first caps) args m K:=by
 obtain⟨v,m1,h1,h2⟩:=hq.got
 obtain⟨⟨v',mm⟩,h5,h6,h3⟩:=z3n h2
 dsimp only at h5 h6 h3
 split at h5
 case isFalse=>cases h5
 rename_i h4
 subst h6
 refine⟨r',m',?_,hk⟩
 simp only [zrq,his,hc,if_true,has,hm,h1]
 rw [hlow,show zh2 1 (idsAll (zeg 1 m1))=true from h4]
 simp only [Bool.and_self,if_true]
 rw [show zmu ⟨0,1⟩ 0 1 true (zeg 1 m1) m1 v=some (v',mm) from h5]
 dsimp only
 rw [hid,zu2 h3 _ _ _ hb,<-hr]
 rfl
section
variable {E : Oracle} (g : Good E)
include g
theorem ymw (t:Nat) (ev:List Evt) (r:Rgs) (ho:OkR r) (hrs:r.rs.length<1000) (e:Evt) (hs:zh8 r ev.length e=0) (hev:ev.length<=1000) {K:V->Mem->Prop} (hK:∀m1,z3d m1 (mR t (ev++[e]) (zpf r e))->K (.tup []) m1):
  In E 1 zah [.ptr ⟨0,0,0⟩ 0 0,Evv e] (mR t ev r) K:=by
 obtain⟨hc,ha⟩:=zv6 hs
 obtain⟨_,_,_,hask⟩:=z1k ha
 have hes:=ho.es
 have hcs:=ho.cs
 have hme:(ev.flatMap Evt.cells).length=ev.length*5:=zag Evt.cells 5 evw ev
 rcases znz hc with⟨nu,ki,a,s,more,kn,f,u,m,rfl,hent,hfol,hki⟩|⟨nu,a,kn,rfl⟩|⟨nu,a,en,kn,rfl⟩|⟨nu,a,kn,v,rfl⟩
 ·have hc1:=znd g (a::s::more) (by simp) (by
   have h:=(zo8 hc).2.1
   dsimp only at h
   rw [h]
   rcases hki with rfl|rfl|rfl
   ·decide
   ·decide
   ·decide)
  have hc2:=znc g [kn,f,u,m] (by simp) (by simp)
  rw [z0j,if_pos hent] at hask
  obtain⟨_,hl,_⟩:=zxz hask
  have hml:(r.es.flatMap Ent.cells).length=r.es.length*8:=zag Ent.cells 8 zmi r.es
  clear hs hc ha hask
  by_cases hf:ki=zb0
  ·obtain⟨b,rfl⟩:=hfol hf
   subst hf
   have haft:zpf r ⟨nu,zb0,[a,s,b],[kn,f,u,m],[]⟩=⟨kn,r.es++[⟨a,zb0,s,b,kn,f,u,m⟩],r.rs,r.cs⟩:=rfl
   rw [haft] at hK
   simp only [List.length_append,List.length_cons,List.length_nil,List.flatMap_append,List.flatMap_cons,List.flatMap_nil,mR] at hK
   change Fc E _ [.d (.list 3 [.str a,.str s,.str b])] (.d (.list 3 [.str a,.str s,.str b])) at hc1
   change Fc E _ [.d (.list 4 [DI kn,DI f,DI u,DI m])] (.d (.list 4 [DI kn,DI f,DI u,DI m])) at hc2
   change In E 1 zah [.ptr ⟨0,0,0⟩ 0 0,.d (.agg [DI nu,.str zb0,.list 3 [.str a,.str s,.str b],.list 4 [DI kn,DI f,DI u,DI m],.str []])] _ _
   refine In.enter (f:=zah) g.lim rfl rfl ?_
   repeat' ((conv=>whnf);first
   | refine Yz ?_
    | (apply zak.of;assumption)
    | (refine zcp.mk ⟨rfl,rfl,rfl,rfl,rfl,rfl,by dsimp only;omega,by dsimp only;omega⟩ ?_)
    | (refine zcg.kinds g rfl ?_)
    | (refine zof.mk ⟨_,rfl,?_⟩)
    | (refine In.enter (f:=zap) g.lim rfl rfl ?_)
    | (exact hK _ ⟨rfl,rfl,rfl,rfl,rfl,trivial⟩))
  ·have haft:zpf r ⟨nu,ki,a::s::more,[kn,f,u,m],[]⟩=⟨kn,r.es++[⟨a,ki,s,[],kn,f,u,m⟩],r.rs,r.cs⟩:=by
    rw [zpf,if_pos hent,z6k,if_neg hf]
    rfl
   rw [haft] at hK
   simp only [List.length_append,List.length_cons,List.length_nil,List.flatMap_append,List.flatMap_cons,List.flatMap_nil,mR] at hK
   change Fc E _ [.d (.list (more.length+1+1) (.str a:: .str s::more.map D.str))] (.d (.list (more.length+1+1) (.str a:: .str s::more.map D.str))) at hc1
   change Fc E _ [.d (.list 4 [DI kn,DI f,DI u,DI m])] (.d (.list 4 [DI kn,DI f,DI u,DI m])) at hc2
   change In E 1 zah [.ptr ⟨0,0,0⟩ 0 0,.d (.agg [DI nu,.str ki,.list (more.length+1+1) (.str a:: .str s::more.map D.str),.list 4 [DI kn,DI f,DI u,DI m],.str []])] _ _
   rcases hki with rfl|rfl|rfl
   ·refine In.enter (f:=zah) g.lim rfl rfl ?_
    repeat' ((conv=>whnf);first
    | refine Yz ?_
     | (apply zak.of;assumption)
     | (refine zcp.mk ⟨rfl,rfl,rfl,rfl,rfl,rfl,by dsimp only;omega,by dsimp only;omega⟩ ?_)
     | (refine zcg.kinds g rfl ?_)
     | (refine zof.mk ⟨_,rfl,?_⟩)
     | (refine In.enter (f:=zap) g.lim rfl rfl ?_)
     | (exact hK _ ⟨rfl,rfl,rfl,rfl,rfl,trivial⟩))
   ·refine In.enter (f:=zah) g.lim rfl rfl ?_
    repeat' ((conv=>whnf);first
    | refine Yz ?_
     | (apply zak.of;assumption)
     | (refine zcp.mk ⟨rfl,rfl,rfl,rfl,rfl,rfl,by dsimp only;omega,by dsimp only;omega⟩ ?_)
     | (refine zcg.kinds g rfl ?_)
     | (refine zof.mk ⟨_,rfl,?_⟩)
     | (refine In.enter (f:=zap) g.lim rfl rfl ?_)
     | (exact hK _ ⟨rfl,rfl,rfl,rfl,rfl,trivial⟩))
   ·exact absurd rfl hf
 ·have hc1:=znd g [a] (by simp) (by simp)
  have hc2:=znc g [kn] (by simp) (by simp)
  have hml:(r.rs.flatMap Rmv.cells).length=r.rs.length*2:=zag Rmv.cells 2 yhm r.rs
  clear hs hc ha hask
  have haft:zpf r ⟨nu,zdf,[a],[kn],[]⟩=⟨kn,r.es,r.rs++[⟨a,kn⟩],r.cs⟩:=rfl
  rw [haft] at hK
  simp only [List.length_append,List.length_cons,List.length_nil,List.flatMap_append,List.flatMap_cons,List.flatMap_nil,mR] at hK
  change Fc E _ [.d (.list 1 [.str a])] (.d (.list 1 [.str a])) at hc1
  change Fc E _ [.d (.list 1 [DI kn])] (.d (.list 1 [DI kn])) at hc2
  change In E 1 zah [.ptr ⟨0,0,0⟩ 0 0,.d (.agg [DI nu,.str zdf,.list 1 [.str a],.list 1 [DI kn],.str []])] _ _
  refine In.enter (f:=zah) g.lim rfl rfl ?_
  repeat' ((conv=>whnf);first
  | refine Yz ?_
   | (apply zak.of;assumption)
   | (refine zcp.mk ⟨rfl,rfl,rfl,rfl,rfl,rfl,by dsimp only;omega,by dsimp only;omega⟩ ?_)
   | (refine zcg.kinds g rfl ?_)
   | (refine zof.mk ⟨_,rfl,?_⟩)
   | (refine In.enter (f:=zgo) g.lim rfl rfl ?_)
   | (refine In.enter (f:=zbb) g.lim rfl rfl ?_)
   | (exact hK _ ⟨rfl,rfl,rfl,rfl,rfl,trivial⟩))
 ·have hc1:=znd g [a,en] (by simp) (by simp)
  have hc2:=znc g [kn] (by simp) (by simp)
  have hml:(r.cs.flatMap Cpl.cells).length=r.cs.length*5:=zag Cpl.cells 5 zo9 r.cs
  clear hs hc ha hask
  have haft:zpf r ⟨nu,zcm,[a,en],[kn],[]⟩=⟨kn,r.es,r.rs,r.cs++[⟨a,en,kn,false,false⟩]⟩:=rfl
  rw [haft] at hK
  simp only [List.length_append,List.length_cons,List.length_nil,List.flatMap_append,List.flatMap_cons,List.flatMap_nil,mR] at hK
  change Fc E _ [.d (.list 2 [.str a,.str en])] (.d (.list 2 [.str a,.str en])) at hc1
  change Fc E _ [.d (.list 1 [DI kn])] (.d (.list 1 [DI kn])) at hc2
  change In E 1 zah [.ptr ⟨0,0,0⟩ 0 0,.d (.agg [DI nu,.str zcm,.list 2 [.str a,.str en],.list 1 [DI kn],.str []])] _ _
  refine In.enter (f:=zah) g.lim rfl rfl ?_
  repeat' ((conv=>whnf);first
  | refine Yz ?_
   | (apply zak.of;assumption)
   | (refine zcp.mk ⟨rfl,rfl,rfl,rfl,rfl,rfl,by dsimp only;omega,by dsimp only;omega⟩ ?_)
   | (refine zcg.kinds g rfl ?_)
   | (refine zof.mk ⟨_,rfl,?_⟩)
   | (refine In.enter (f:=zb3) g.lim rfl rfl ?_)
   | (exact hK _ ⟨rfl,rfl,rfl,rfl,rfl,trivial⟩))
 ·have hc1:=znd g [a] (by simp) (by simp)
  have hc2:=znc g [kn,v] (by simp) (by simp)
  have hml:(r.rs.flatMap Rmv.cells).length=r.rs.length*2:=zag Rmv.cells 2 yhm r.rs
  have hmc:(r.cs.flatMap Cpl.cells).length=r.cs.length*5:=zag Cpl.cells 5 zo9 r.cs
  change zo6 r a v=0 at hask
  rcases zlu r.cs a with h|⟨k,hk,h,hnm⟩
  ·rw [zo6,h,if_pos (by decide)] at hask
   omega
  have hgd:r.cs.getD k ybh=r.cs[k]:=by simp [List.getD,hk]
  have haft:zpf r ⟨nu,zej,[a],[kn,v],[]⟩=⟨kn,r.es,if v=1 then r.rs++[⟨r.cs[k].en,kn⟩] else r.rs,r.cs.set k {r.cs[k] with cl:=true,up:=decide (v=1)}⟩:=by
   change (Rgs.mk kn r.es (if v=1 then r.rs++[⟨(r.cs.getD (zsk r.cs a).toNat ybh).en,kn⟩] else r.rs) (r.cs.set (zsk r.cs a).toNat {r.cs.getD (zsk r.cs a).toNat ybh with cl:=true,up:=decide (v=1)}))=_
   rw [h,Int.toNat_natCast,hgd]
  rw [haft] at hK
  have hq:=zoz g t (ev++[⟨nu,zej,[a],[kn,v],[]⟩]) ⟨kn,r.es,r.rs,r.cs⟩ a (by dsimp only;omega)
  rw [show zsk (Rgs.mk kn r.es r.rs r.cs).cs a=k from h,yjb,if_pos (by omega)] at hq
  simp only [List.length_append,List.length_cons,List.length_nil,List.flatMap_append,List.flatMap_cons,List.flatMap_nil,mR] at hq
  clear hs hc ha hask haft
  have hp1:patch (r.cs.flatMap Cpl.cells) ((0+((k:Nat):Int).toNat)*5+3) [.bool true]=(r.cs.set k {r.cs[k] with cl:=true}).flatMap Cpl.cells:=by
   rw [Nat.zero_add,Int.toNat_natCast]
   exact zqp Cpl.cells 5 zo9 r.cs k 3 hk (by decide) _ _ rfl
  have hm1:((r.cs.set k {r.cs[k] with cl:=true}).flatMap Cpl.cells).length=r.cs.length*5:=by rw [zag Cpl.cells 5 zo9,List.length_set]
  have hk1:k<(r.cs.set k {r.cs[k] with cl:=true}).length:=by rw [List.length_set];exact hk
  have hp2:∀b,patch ((r.cs.set k {r.cs[k] with cl:=true}).flatMap Cpl.cells) ((0+((k:Nat):Int).toNat)*5+4) [.bool b]=(r.cs.set k {r.cs[k] with cl:=true,up:=b}).flatMap Cpl.cells:=by
   intro b
   rw [Nat.zero_add,Int.toNat_natCast]
   have:=zqp Cpl.cells 5 zo9 (r.cs.set k {r.cs[k] with cl:=true}) k 4 hk1 (by decide) (.bool b) {r.cs[k] with cl:=true,up:=b} (by rw [List.getElem_set_self];rfl)
   rw [this,List.set_set]
  have hp3:∀b,k<(r.cs.set k {r.cs[k] with cl:=true,up:=b}).length:=fun b=>by rw [List.length_set];exact hk
  have hp4:∀b,(r.cs.set k {r.cs[k] with cl:=true,up:=b})[k]'(hp3 b)={r.cs[k] with cl:=true,up:=b}:=fun b=>List.getElem_set_self _
  change Fc E _ [.d (.list 1 [.str a])] (.d (.list 1 [.str a])) at hc1
  change Fc E _ [.d (.list 2 [DI kn,DI v])] (.d (.list 2 [DI kn,DI v])) at hc2
  change In E 1 zah [.ptr ⟨0,0,0⟩ 0 0,.d (.agg [DI nu,.str zej,.list 1 [.str a],.list 2 [DI kn,DI v],.str []])] _ _
  by_cases hv:v=1
  ·rw [if_pos hv,decide_eq_true hv] at hK
   simp only [List.length_append,List.length_cons,List.length_nil,List.flatMap_append,List.flatMap_cons,List.flatMap_nil,List.length_set,mR] at hK
   refine In.enter (f:=zah) g.lim rfl rfl ?_
   repeat' ((conv=>whnf);first
   | refine Yz ?_
    | (apply zak.of;assumption)
    | (refine zcp.mk ⟨rfl,rfl,rfl,rfl,rfl,rfl,by dsimp only;omega,by dsimp only;omega⟩ ?_)
    | (refine zcg.kinds g rfl ?_)
    | (refine zof.mk ⟨_,rfl,?_⟩)
    | (refine Cmp.tt hv ?_)
    | (refine In.enter (f:=za8) g.lim rfl rfl ?_)
    | (refine zjh.of (r':= .ptr ⟨0,0,4⟩ ((0+((k:Nat):Int).toNat)*5) r.cs.length) isR rfl rfl rfl rfl hq rfl rfl rfl ?_)
    | (refine zcp.mk ⟨rfl,by omega,rfl⟩ ?_;first |rw [hp1]|rw [hp2])
    | (refine zfp.rec0 zo9 k rfl (hp3 true) (by rw [hp4];rfl) ?_)
    | (refine In.enter (f:=zbb) g.lim rfl rfl ?_)
    | (exact hK _ ⟨rfl,rfl,rfl,rfl,rfl,trivial⟩))
  ·rw [if_neg hv,decide_eq_false hv] at hK
   simp only [List.length_append,List.length_cons,List.length_nil,List.flatMap_append,List.flatMap_cons,List.flatMap_nil,List.length_set,mR] at hK
   refine In.enter (f:=zah) g.lim rfl rfl ?_
   repeat' ((conv=>whnf);first
   | refine Yz ?_
    | (apply zak.of;assumption)
    | (refine zcp.mk ⟨rfl,rfl,rfl,rfl,rfl,rfl,by dsimp only;omega,by dsimp only;omega⟩ ?_)
    | (refine zcg.kinds g rfl ?_)
    | (refine zof.mk ⟨_,rfl,?_⟩)
    | (refine Cmp.ff hv ?_)
    | (refine In.enter (f:=za8) g.lim rfl rfl ?_)
    | (refine zjh.of (r':= .ptr ⟨0,0,4⟩ ((0+((k:Nat):Int).toNat)*5) r.cs.length) isR rfl rfl rfl rfl hq rfl rfl rfl ?_)
    | (refine zcp.mk ⟨rfl,by omega,rfl⟩ ?_;first |rw [hp1]|rw [hp2])
    | (refine zfp.rec0 zo9 k rfl (hp3 false) (by rw [hp4];rfl) ?_)
    | (refine In.enter (f:=zbb) g.lim rfl rfl ?_)
    | (exact hK _ ⟨rfl,rfl,rfl,rfl,rfl,trivial⟩))
theorem yq4 (t:Nat) (ev:List Evt) (r:Rgs) (ho:OkR r) (hrs:r.rs.length<1000) (e:Evt) (hs:zh8 r ev.length e=0) (hev:ev.length<=1000):Us E zah [.ptr ⟨0,0,0⟩ 0 0,Evv e] (mR t ev r) (.tup []) (mR t (ev++[e]) (zpf r e)):=
 ⟨ymw g t ev r ho hrs e hs hev fun _ h=>⟨rfl,h⟩⟩
end
section
variable {E : Oracle} (g : Good E)
include g
theorem z6r (ev:List Evt) (r:Rgs) (ho:OkR r) (kn:Int) {slot:Nat} {K:V->Mem->Prop} (hK:K (Ws (ylf r kn)) (mR zaa ev r)):
  In E 1 zb5 [.ptr ⟨0,0,0⟩ 1 0,I kn] (mR zaa ev r) fun v m'=>zu3 ⟨0,1⟩ slot true v m' K:=by
 have hes:=ho.es
 have hml:(r.es.flatMap Ent.cells).length=r.es.length*8:=zag Ent.cells 8 zmi r.es
 refine In.enter (f:=zb5) g.lim rfl rfl ?_
 repeat' ((conv=>whnf);first
 | refine Yz ?_
  | (refine In.enter (f:=zcx) g.lim rfl rfl ?_))
 refine zam.to (zam.by (σ:=Nat×List Ent) g (fun u=>u.1<=r.es.length/\u.2=(r.es.take u.1).filter fun x=>z0y r x kn)
  (fun u=>[(1,.fn zci [] [.ptr ⟨1,2,0⟩ 0 0,.ptr ⟨1,3,0⟩ 0 0]),(5,.ref ⟨2,5,0⟩ 0 u.2.length u.2.length),(8,.ref ⟨0,0,2⟩ 0 r.es.length r.es.length),(9,I r.es.length),(10,I u.1)])
  (fun u=>mR zaa ev r++[(⟨1,2,0⟩,.cells za3 [.ptr ⟨0,0,0⟩ 1 0]),(⟨1,3,0⟩,.cells zbu [I kn]),(⟨2,4,0⟩,.row false zac 8 0 []),(⟨2,5,0⟩,.row false zac 8 u.2.length (u.2.flatMap Ent.cells))])
  (fun u=>r.es.length-u.1) ?_ (0,[]) ⟨Nat.zero_le _,rfl⟩) rfl rfl
 rintro⟨k,out⟩ ⟨h1,h2⟩ ih
 dsimp only at h1 h2 ih ⊢
 have hmo:(out.flatMap Ent.cells).length=out.length*8:=zag Ent.cells 8 zmi out
 have hol:out.length<=256:=by
  rw [h2]
  refine Nat.le_trans (List.length_filter_le _ _) ?_
  rw [List.length_take];omega
 by_cases hlt:k<r.es.length
 ·have hwin:win (r.es.flatMap Ent.cells) ((0+((k:Nat):Int).toNat)*8) 8=r.es[k].cells:=by
   rw [Nat.zero_add,Int.toNat_natCast]
   exact zb9 Ent.cells 8 zmi r.es k hlt
  have hq:=ynl g zaa ev r ho kn k hlt
  cases hc:z0y r r.es[k] kn with
  | true=>
   rw [hc] at hq
   have ih:=ih (k+1,out++[r.es[k]]) ⟨by dsimp only;omega,by dsimp only;rw [zih _ _ _ hlt,<-h2,hc];rfl⟩ (by dsimp only;omega)
   simp only [List.length_append,List.length_cons,List.length_nil,List.flatMap_append,List.flatMap_cons,List.flatMap_nil] at ih
   repeat' ((conv=>whnf);first
   | refine Yz ?_
    | (rw [hwin])
    | (refine In.enter (f:=zci) g.lim rfl rfl ?_)
    | (refine zjh.of (r':=B true) [⟨0,0,0⟩,⟨0,0,1⟩,⟨0,0,2⟩,⟨0,0,3⟩,⟨0,0,4⟩] rfl rfl rfl rfl hq rfl rfl rfl ?_)
    | (refine zcp.mk ⟨rfl,rfl,rfl,rfl,rfl,rfl,by dsimp only;omega,by dsimp only;omega⟩ ?_)
    | (refine zam.to ih rfl rfl))
  | false=>
   rw [hc] at hq
   have ih:=ih (k+1,out) ⟨by dsimp only;omega,by dsimp only;rw [zih _ _ _ hlt,<-h2,hc];simp⟩ (by dsimp only;omega)
   repeat' ((conv=>whnf);first
   | refine Yz ?_
    | (rw [hwin])
    | (refine In.enter (f:=zci) g.lim rfl rfl ?_)
    | (refine zjh.of (r':=B false) [⟨0,0,0⟩,⟨0,0,1⟩,⟨0,0,2⟩,⟨0,0,3⟩,⟨0,0,4⟩] rfl rfl rfl rfl hq rfl rfl rfl ?_)
    | (refine zam.to ih rfl rfl))
 ·rw [List.take_of_length_le (by omega)] at h2
  have hcl:ylf r kn=out.map Ent.nm:=by rw [ylf,<-h2]
  rw [hcl] at hK
  clear hcl h2 ih
  repeat' ((conv=>whnf);first
  | refine Yz ?_
   | (refine zcp.mk ⟨rfl,by omega⟩ ?_)
   | (rw [if_pos ⟨rfl,rfl⟩];refine In.enter (f:=zax) g.lim rfl rfl ?_)
   | (refine In.enter (f:=zax) g.lim rfl rfl ?_))
  refine zam.to (zam.by (σ:=List (List UInt8)) g (fun u=>u.length<=out.length/\u=(out.take u.length).map Ent.nm)
   (fun u=>[(1,.fn zgh [] []),(5,.ref ⟨2,5,0⟩ 0 u.length u.length),(8,.d (.list out.length (out.flatMap Ent.cells))),(9,I out.length),(10,I u.length)])
   (fun u=>mR zaa ev r++[(⟨1,2,0⟩,.cells za3 [.ptr ⟨0,0,0⟩ 1 0]),(⟨1,3,0⟩,.cells zbu [I kn]),(⟨2,4,0⟩,.row false zad 1 0 []),(⟨2,5,0⟩,.row false zad 1 u.length (u.map D.str))])
   (fun u=>out.length-u.length) ?_ [] ⟨Nat.zero_le _,rfl⟩) rfl rfl
  rintro u ⟨h3,h4⟩ ih
  dsimp only at h3 h4 ih ⊢
  by_cases hlt2:u.length<out.length
  ·have hwin:win (out.flatMap Ent.cells) (((u.length:Nat):Int).toNat*8) 8=out[u.length].cells:=by
    rw [Int.toNat_natCast]
    exact zb9 Ent.cells 8 zmi out u.length hlt2
   have ih:=ih (u++[out[u.length].nm]) ⟨by rw [List.length_append,List.length_singleton];omega,by
    rw [List.length_append,List.length_singleton,List.take_succ_eq_append_getElem hlt2,List.map_append,<-h4];rfl⟩ (by rw [List.length_append,List.length_singleton];omega)
   simp only [List.length_append,List.length_cons,List.length_nil,List.map_append,List.map_cons,List.map_nil] at ih
   repeat' ((conv=>whnf);first
   | refine Yz ?_
    | (rw [hwin])
    | (refine In.enter (f:=zgh) g.lim rfl rfl ?_)
    | (refine zcp.mk ⟨rfl,rfl,rfl,rfl,rfl,rfl,by dsimp only;omega,by dsimp only;omega⟩ ?_)
    | (refine zam.to ih rfl rfl))
  ·rw [List.take_of_length_le (by omega)] at h4
   rw [<-h4] at hK
   repeat' ((conv=>whnf);first
   | refine Yz ?_
    | (refine zcp.mk ⟨rfl,by omega⟩ ?_)
    | (rw [if_pos ⟨rfl,rfl⟩];exact hK)
    | (exact hK))
theorem yeo (ev:List Evt) (r:Rgs) (ho:OkR r) (kn:Int):Ui E zb5 [.ptr ⟨0,0,0⟩ 1 0,I kn] (mR zaa ev r) (Ws (ylf r kn)) (mR zaa ev r):=
 ⟨z6r g ev r ho kn ⟨rfl,⟨rfl,rfl,rfl,rfl,rfl,trivial⟩⟩⟩
end
def ypq (r:Rgs) (x:Ent) (on:List UInt8):Bool:=(chF r.es.length r.es x).tail.any fun y=>decide (y.nm=on)
def yoi (r:Rgs) (on:List UInt8):List (List UInt8):=(r.es.filter fun x=>ypq r x on).map Ent.nm
theorem yin (x:Ent) (tl:List Ent):win ((x::tl).flatMap Ent.cells) (1*8) ((tl.length+1-1)*8)=tl.flatMap Ent.cells:=by
 unfold win
 rw [List.flatMap_cons]
 rw [Nat.add_sub_cancel,List.drop_append_of_le_length (by rw [zmi];decide),List.drop_of_length_le (by rw [zmi];decide),List.nil_append,<-zag Ent.cells 8 zmi tl,List.take_length]
abbrev mKZ (ev:List Evt) (r:Rgs) (on:List UInt8) (out:List Ent):Mem:=mR zaa ev r++[(⟨1,2,0⟩,.cells za3 [.ptr ⟨0,0,0⟩ 1 0]),(⟨1,3,0⟩,.cells zad [S on]),(⟨2,4,0⟩,.row false zac 8 0 []),(⟨2,5,0⟩,.row false zac 8 out.length (out.flatMap Ent.cells))]
section
variable {E : Oracle} (g : Good E)
include g
theorem z6t (ev:List Evt) (r:Rgs) (ho:OkR r) (on:List UInt8) (out0:List Ent) (k:Nat) (hk:k<r.es.length) (bx:Evl.Id×Ob) (hbx:bx=(⟨2,7,0⟩,.cells zac [S r.es[k].nm,S r.es[k].kd,S r.es[k].sr,S r.es[k].bs,I r.es[k].kn,I r.es[k].fr,I r.es[k].to,I r.es[k].mi])) {slot:Nat} {K:V->Mem->Prop} (hK:K (B (ypq r r.es[k] on)) (mKZ ev r on out0++[bx])):
  In E 3 zco [yp5 r.es[k],.ptr ⟨1,2,0⟩ 0 0,.ptr ⟨1,3,0⟩ 0 0] (mKZ ev r on out0++[bx]) fun v m'=>zu3 ⟨2,3⟩ slot true v m' K:=by
 have hes:=ho.es
 have hc:=z1w ho.bases r.es.length k (by omega) hk
 have hcl:=z89 r.es r.es.length r.es[k]
 unfold ypq at hK
 generalize chF r.es.length r.es r.es[k]=c at *
 have hml:(r.es.flatMap Ent.cells).length=r.es.length*8:=zag Ent.cells 8 zmi r.es
 generalize hx:r.es[k]=x at *
 subst hbx
 refine In.enter (f:=zco) g.lim rfl rfl ?_
 repeat' ((conv=>whnf);first
 | refine Yz ?_
  | (refine In.enter (f:=zdi) g.lim rfl rfl ?_))
 refine zam.to (zam.by (σ:=List Ent×Ent×Nat×List Ent) g (fun u=>(∃hk:u.2.2.1<r.es.length,r.es[u.2.2.1]=u.2.1)/\Ch r.es u.2.2.1 u.2.2.2/\∃pre,u.1=pre++[u.2.1]/\pre++u.2.2.2=c)
  (fun u=>[(0,.ptr ⟨0,0,0⟩ 1 0),(5,.ref ⟨4,8,0⟩ 0 u.1.length u.1.length)])
  (fun u=>mKZ ev r on out0++[(⟨2,7,0⟩,.cells zac [S x.nm,S x.kd,S x.sr,S x.bs,I x.kn,I x.fr,I x.to,I x.mi]),(⟨3,3,0⟩,.cells zac [S x.nm,S x.kd,S x.sr,S x.bs,I x.kn,I x.fr,I x.to,I x.mi]),(⟨4,3,0⟩,.cells zac [S x.nm,S x.kd,S x.sr,S x.bs,I x.kn,I x.fr,I x.to,I x.mi]),(⟨4,4,0⟩,.row false zac 8 0 []),(⟨4,8,0⟩,.row false zac 8 u.1.length (u.1.flatMap Ent.cells))])
  (fun u=>u.2.2.2.length) ?_ ([x],x,k,c) ⟨⟨hk,hx⟩,hc,[],rfl,rfl⟩) rfl rfl
 have hc0:=hc
 clear hc hx
 rintro⟨out,y,k2,tl⟩ ⟨⟨hk2,hy⟩,hc,pre,h1,h2⟩ ih
 dsimp only at hk2 hy hc h1 h2 ih ⊢
 have hol:out.length=pre.length+1:=by rw [h1];simp
 have hlast:out[pre.length]'(by omega)=y:=by simp [h1]
 have hq:=zv3 g zaa ev r y.bs (by omega)
 have hcl2:pre.length+tl.length<=257:=by rw [<-List.length_append,h2];omega
 have hmo:(out.flatMap Ent.cells).length=out.length*8:=zag Ent.cells 8 zmi out
 cases hc with
 | stop k2 hk' h=>
  rw [hy] at h h2
  rw [h,z9c,if_neg (by decide)] at hq
  obtain rfl:out=c:=h1.trans h2
  obtain⟨z,rest,rfl⟩:∃z rest,out=z::rest:=List.exists_cons_of_ne_nil (by intro e;rw [e] at hol;simp at hol)
  have hll:(z::rest).length=rest.length+1:=rfl
  have hw8:=yin z rest
  have hmr:(rest.flatMap Ent.cells).length=rest.length*8:=zag Ent.cells 8 zmi rest
  rw [List.tail_cons] at hK
  clear ih
  repeat' ((conv=>whnf);first
  | refine Yz ?_
   | (refine zfp.rec0 zmi pre.length (by omega) (by omega) rfl ?_;rw [hlast])
   | (refine zjh.of (r':= .d .nilp) isR rfl rfl rfl rfl hq rfl rfl rfl ?_)
   | (rw [if_pos ⟨rfl,rfl⟩])
   | (refine zcp.mk ⟨rfl,by omega⟩ ?_)
   | (refine zce.at 1 (rest.length+1) rfl (by omega) (by omega) ?_;rw [hw8])
   | (refine In.enter (f:=zau) g.lim rfl rfl ?_)
   | (refine In.enter (f:=zat) g.lim rfl rfl ?_))
  refine zam.to (zam.upP g (fun k=>[(0,.d (.list rest.length (rest.flatMap Ent.cells))),(1,.fn zcb [] [.ptr ⟨1,3,0⟩ 0 0]),(7,I rest.length),(8,I k)]) (fun _=>mKZ ev r on out0++[(⟨2,7,0⟩,.cells zac [S x.nm,S x.kd,S x.sr,S x.bs,I x.kn,I x.fr,I x.to,I x.mi]),(⟨3,3,0⟩,.cells zac [S x.nm,S x.kd,S x.sr,S x.bs,I x.kn,I x.fr,I x.to,I x.mi])])
   (fun k=>∀j,(hj:j<rest.length)->j<k->rest[j].nm≠on) rest.length (fun m hm hp ihm=> ?_) 0 (Nat.zero_le _) (fun j _ h=>absurd h (Nat.not_lt_zero _))) rfl rfl
  by_cases hlt:m<rest.length
  ·have hwin:win (rest.flatMap Ent.cells) (((m:Nat):Int).toNat*8) 8=rest[m].cells:=by
    rw [Int.toNat_natCast]
    exact zb9 Ent.cells 8 zmi rest m hlt
   by_cases hb:rest[m].nm=on
   ·have ha:(rest.any fun y=>decide (y.nm=on))=true:=List.any_eq_true.2 ⟨_,List.getElem_mem hlt,decide_eq_true hb⟩
    rw [ha] at hK
    repeat' ((conv=>whnf);first
    | refine Yz ?_
     | (rw [hwin];refine In.enter (f:=zcb) g.lim rfl rfl ?_)
     | (refine Cmp.tt hb ?_)
     | (exact hK))
   ·have ihm:=ihm hlt fun j hj hjm=>by
     by_cases e:j=m
     ·subst e;exact hb
     ·exact hp j hj (by omega)
    repeat' ((conv=>whnf);first
    | refine Yz ?_
     | (rw [hwin];refine In.enter (f:=zcb) g.lim rfl rfl ?_)
     | (refine Cmp.ff hb ?_)
     | (refine zam.to ihm rfl rfl))
  ·obtain rfl:m=rest.length:=by omega
   have ha:(rest.any fun y=>decide (y.nm=on))=false:=by
    rw [List.any_eq_false]
    intro z hz
    obtain⟨j,hj,rfl⟩:=List.mem_iff_getElem.1 hz
    simpa using hp j hj hj
   rw [ha] at hK
   repeat' ((conv=>whnf);first
   | refine Yz ?_
    | (exact hK))
 | step k2 j tl hk' h ht=>
  rw [hy] at h h2
  rw [h,z9c,if_pos (by omega)] at hq
  obtain⟨hj,hj'⟩:∃hj:j<r.es.length,True:=by
   cases ht with
   | stop _ hj _=>exact⟨hj,trivial⟩
   | step _ _ _ hj _ _=>exact⟨hj,trivial⟩
  have hwin:win (r.es.flatMap Ent.cells) ((0+((j:Nat):Int).toNat)*8) 8=r.es[j].cells:=by
   rw [Nat.zero_add,Int.toNat_natCast]
   exact zb9 Ent.cells 8 zmi r.es j hj
  simp only [List.length_cons] at hcl2
  have ih:=ih (out++[r.es[j]],r.es[j],j,tl) ⟨⟨hj,rfl⟩,ht,out,rfl,by rw [h1,List.append_assoc];exact h2⟩ (by simp)
  simp only [List.length_append,List.length_cons,List.length_nil,List.flatMap_append,List.flatMap_cons,List.flatMap_nil] at ih
  repeat' ((conv=>whnf);first
  | refine Yz ?_
   | (refine zfp.rec0 zmi pre.length (by omega) (by omega) rfl ?_;rw [hlast])
   | (refine zjh.of (r':= .ptr ⟨0,0,2⟩ ((0+((j:Nat):Int).toNat)*8) r.es.length) isR rfl rfl rfl rfl hq rfl rfl rfl ?_)
   | (rw [hwin])
   | (refine zcp.mk ⟨rfl,rfl,rfl,rfl,rfl,rfl,by dsimp only;omega,by omega⟩ ?_)
   | (refine zam.to ih rfl rfl))
theorem z9n (ev:List Evt) (r:Rgs) (ho:OkR r) (on:List UInt8) {slot:Nat} {K:V->Mem->Prop} (hK:K (.tup [if zny r.es on<0 then Ws [] else Ws (yoi r on),I (if zny r.es on<0 then 10 else 0)]) (mR zaa ev r)):
  In E 1 zcd [.ptr ⟨0,0,0⟩ 1 0,S on] (mR zaa ev r) fun v m'=>zu3 ⟨0,1⟩ slot true v m' K:=by
 have hes:=ho.es
 have hml:(r.es.flatMap Ent.cells).length=r.es.length*8:=zag Ent.cells 8 zmi r.es
 have hq0:=zv3 g zaa ev r on (by omega)
 refine In.enter (f:=zcd) g.lim rfl rfl ?_
 by_cases hi:zny r.es on<0
 ·rw [if_pos hi,if_pos hi] at hK
  rw [z9c,if_neg (by omega)] at hq0
  repeat' ((conv=>whnf);first
  | refine Yz ?_
   | (refine zjh.of (r':= .d .nilp) isR rfl rfl rfl rfl hq0 rfl rfl rfl ?_)
   | (exact hK))
 rw [if_neg hi,if_neg hi] at hK
 rw [z9c,if_pos (by omega)] at hq0
 generalize zny r.es on=i0 at *
 repeat' ((conv=>whnf);first
 | refine Yz ?_
  | (refine zjh.of (r':= .ptr ⟨0,0,2⟩ ((0+i0.toNat)*8) r.es.length) isR rfl rfl rfl rfl hq0 rfl rfl rfl ?_)
  | (refine In.enter (f:=zcx) g.lim rfl rfl ?_))
 refine zam.to (zam.by (σ:=Nat×List Ent) g (fun u=>u.1<=r.es.length/\u.2=(r.es.take u.1).filter fun x=>ypq r x on)
  (fun u=>[(1,.fn zco [] [.ptr ⟨1,2,0⟩ 0 0,.ptr ⟨1,3,0⟩ 0 0]),(5,.ref ⟨2,5,0⟩ 0 u.2.length u.2.length),(8,.ref ⟨0,0,2⟩ 0 r.es.length r.es.length),(9,I r.es.length),(10,I u.1)])
  (fun u=>mKZ ev r on u.2)
  (fun u=>r.es.length-u.1) ?_ (0,[]) ⟨Nat.zero_le _,rfl⟩) rfl rfl
 rintro⟨k,out⟩ ⟨h1,h2⟩ ih
 dsimp only at h1 h2 ih ⊢
 have hmo:(out.flatMap Ent.cells).length=out.length*8:=zag Ent.cells 8 zmi out
 have hol:out.length<=256:=by
  rw [h2]
  refine Nat.le_trans (List.length_filter_le _ _) ?_
  rw [List.length_take];omega
 by_cases hlt:k<r.es.length
 ·have hwin:win (r.es.flatMap Ent.cells) ((0+((k:Nat):Int).toNat)*8) 8=r.es[k].cells:=by
   rw [Nat.zero_add,Int.toNat_natCast]
   exact zb9 Ent.cells 8 zmi r.es k hlt
  cases hc:ypq r r.es[k] on with
  | true=>
   have ih:=ih (k+1,out++[r.es[k]]) ⟨by dsimp only;omega,by dsimp only;rw [zih _ _ _ hlt,<-h2,hc];rfl⟩ (by dsimp only;omega)
   simp only [List.length_append,List.length_cons,List.length_nil,List.flatMap_append,List.flatMap_cons,List.flatMap_nil,mKZ] at ih
   repeat' ((conv=>whnf);first
   | refine Yz ?_
    | (rw [hwin])
    | (refine z6t g ev r ho on out k hlt _ rfl (slot:=16) ?_;rw [hc])
    | (refine zcp.mk ⟨rfl,rfl,rfl,rfl,rfl,rfl,by dsimp only;omega,by dsimp only;omega⟩ ?_)
    | (refine zam.to ih rfl rfl))
  | false=>
   have ih:=ih (k+1,out) ⟨by dsimp only;omega,by dsimp only;rw [zih _ _ _ hlt,<-h2,hc];simp⟩ (by dsimp only;omega)
   repeat' ((conv=>whnf);first
   | refine Yz ?_
    | (rw [hwin])
    | (refine z6t g ev r ho on out k hlt _ rfl (slot:=16) ?_;rw [hc])
    | (refine zam.to ih rfl rfl))
 ·rw [List.take_of_length_le (by omega)] at h2
  have hcl:yoi r on=out.map Ent.nm:=by rw [yoi,<-h2]
  rw [hcl] at hK
  clear hcl h2 ih
  repeat' ((conv=>whnf);first
  | refine Yz ?_
   | (refine zcp.mk ⟨rfl,by omega⟩ ?_)
   | (rw [if_pos ⟨rfl,rfl⟩];refine In.enter (f:=zax) g.lim rfl rfl ?_)
   | (refine In.enter (f:=zax) g.lim rfl rfl ?_))
  refine zam.to (zam.by (σ:=List (List UInt8)) g (fun u=>u.length<=out.length/\u=(out.take u.length).map Ent.nm)
   (fun u=>[(1,.fn zgh [] []),(5,.ref ⟨2,5,0⟩ 0 u.length u.length),(8,.d (.list out.length (out.flatMap Ent.cells))),(9,I out.length),(10,I u.length)])
   (fun u=>mR zaa ev r++[(⟨1,2,0⟩,.cells za3 [.ptr ⟨0,0,0⟩ 1 0]),(⟨1,3,0⟩,.cells zad [S on]),(⟨2,4,0⟩,.row false zad 1 0 []),(⟨2,5,0⟩,.row false zad 1 u.length (u.map D.str))])
   (fun u=>out.length-u.length) ?_ [] ⟨Nat.zero_le _,rfl⟩) rfl rfl
  rintro u ⟨h3,h4⟩ ih
  dsimp only at h3 h4 ih ⊢
  by_cases hlt2:u.length<out.length
  ·have hwin:win (out.flatMap Ent.cells) (((u.length:Nat):Int).toNat*8) 8=out[u.length].cells:=by
    rw [Int.toNat_natCast]
    exact zb9 Ent.cells 8 zmi out u.length hlt2
   have ih:=ih (u++[out[u.length].nm]) ⟨by rw [List.length_append,List.length_singleton];omega,by
    rw [List.length_append,List.length_singleton,List.take_succ_eq_append_getElem hlt2,List.map_append,<-h4];rfl⟩ (by rw [List.length_append,List.length_singleton];omega)
   simp only [List.length_append,List.length_cons,List.length_nil,List.map_append,List.map_cons,List.map_nil] at ih
   repeat' ((conv=>whnf);first
   | refine Yz ?_
    | (rw [hwin])
    | (refine In.enter (f:=zgh) g.lim rfl rfl ?_)
    | (refine zcp.mk ⟨rfl,rfl,rfl,rfl,rfl,rfl,by dsimp only;omega,by dsimp only;omega⟩ ?_)
    | (refine zam.to ih rfl rfl))
  ·rw [List.take_of_length_le (by omega)] at h4
   rw [<-h4] at hK
   repeat' ((conv=>whnf);first
   | refine Yz ?_
    | (refine zcp.mk ⟨rfl,by omega⟩ ?_)
    | (rw [if_pos ⟨rfl,rfl⟩];exact hK)
    | (exact hK))
theorem yij (ev:List Evt) (r:Rgs) (ho:OkR r) (on:List UInt8):Ui E zcd [.ptr ⟨0,0,0⟩ 1 0,S on] (mR zaa ev r) (.tup [if zny r.es on<0 then Ws [] else Ws (yoi r on),I (if zny r.es on<0 then 10 else 0)]) (mR zaa ev r):=
 ⟨z9n g ev r ho on ⟨rfl,⟨rfl,rfl,rfl,rfl,rfl,trivial⟩⟩⟩
end
theorem z1l {α β:Type} {f:α->Option β} {p:β}:∀ {l:List α},(∀a∈l,f a=some p)->yeu f l=some (l.map fun _=>p)
 | [],_=>rfl
 | a::l,h=>by
  unfold yeu
  rw [h a (by simp),Option.bind_some,z1l fun b hb=>h b (by simp [hb])]
  rfl
theorem yba {α β:Type} {f:α->Option β} {p:α->β}:∀ {l:List α},(∀a∈l,f a=some (p a))->yeu f l=some (l.map p)
 | [],_=>rfl
 | a::l,h=>by
  unfold yeu
  rw [h a (by simp),Option.bind_some,yba fun b hb=>h b (by simp [hb])]
  rfl
theorem zrr (sz:Nat):∀(n:Nat) (ds:List D),ds.length=n*sz->(zkh sz n ds).flatten=ds
 | 0,ds,h=>by
  have:ds=[]:=List.length_eq_zero_iff.1 (by omega)
  subst this
  rfl
 | n+1,ds,h=>by
  rw [Nat.succ_mul] at h
  rw [zkh,List.flatten_cons,zrr sz n (ds.drop sz) (by rw [List.length_drop];omega),List.take_append_drop]
theorem zvp {run:Mem->Option (V×Mem)} {m:Mem} {o:Evl.Id} {a b c t n:Nat} {xs:List D} (hl:Evl.look m o=some (.bag t 1 n xs)) (hx:xs.length=n) (p:V×Mem)
  (hr:∀l:List D,l.Perm xs->run (upd m o (.row true t 1 n l))=some p) (hle:leM m p.2 (zk3 false m p.2)=true):znl run m (.ref o a b c)=some (p.1,zk3 false m p.2):=by
 have hx1:xs.length=n*1:=by omega
 unfold znl
 simp only [hl]
 rw [if_pos hx1,hr xs (List.Perm.refl _),Option.bind_some]
 have hall:yeu (fun l=>run (upd m o (.row true t 1 n l.flatten))) (zzu (zkh 1 n xs))=some ((zzu (zkh 1 n xs)).map fun _=>p):=by
  refine z1l fun l hl'=>hr _ ?_
  have h1:=(zn3 _ _).1 hl'
  have h2:=h1.flatten
  rwa [zrr 1 n xs hx1] at h2
 rw [hall,Option.bind_some]
 unfold z3o
 rw [if_pos]
 rw [List.all_eq_true]
 intro q hq
 obtain⟨_,_,rfl⟩:=List.mem_map.1 hq
 rw [zxe,hle]
 rfl
theorem z35:∀e:Env,ylj e e=true
 | []=>rfl
 | (t,v)::r=>by simp [ylj,zxe,z35 r]
theorem z2v {body:Env->Mem->Option (Ex×Env×Mem)} {cx:Cx} {it:Nat} {x:Opd} {out nxt pair:Nat} {live:List Nat} {e1:Env} {m1:Mem} {o:Evl.Id} {es:List (D×V)} (hx:x.ev e1= .mp o) (hl:Evl.look m1 o=some (.map es))
  {i:Evl.Id} {m2:Mem} {e2 e3:Env} (hi:Evl.newId cx it m1=i) (hm:upd (upd m1 i .gone) o .gone=m2) (he:only live (put e1 it (.it i))=e2) (R:List (D×V)->Mem)
  (hr:∀p,p.Perm es->zh0 body it i out nxt pair live (zm2 m2) p e2 m2=some (.normal,e3,R p)) {mj:Mem} (hj:zk3 true m2 (R es)=mj) (hle:∀p,p.Perm es->leM m2 (R p) mj=true) (hg:Evl.look mj o=some .gone):
  zo1 body cx it x out nxt pair live e1 m1=some (.normal,e3,upd mj o (.map es)):=by
 subst hj
 unfold zo1
 simp only [hx,hl,hi,hm,he]
 unfold zs7
 simp only [hr es (List.Perm.refl _),Option.bind_some]
 have hall:yeu (fun p=>zh0 body it i out nxt pair live (zm2 m2) p e2 m2) (zzu es)=some ((zzu es).map fun p=>(.normal,e3,R p)):=yba fun p hp=>hr p ((zn3 _ _).1 hp)
 rw [hall,Option.bind_some]
 unfold zv1
 rw [if_pos]
 ·simp only [Option.bind_some,zzw,hg]
 ·rw [List.all_eq_true]
  intro q hq
  obtain⟨p,hp,rfl⟩:=List.mem_map.1 hq
  dsimp only
  rw [z35,hle p ((zn3 _ _).1 hp)]
  rfl
theorem ybn:∀es:List (D×V),yjg es es=true
 | []=>rfl
 | (k,v)::r=>by simp [yjg,zz7,zxe,ybn r]
inductive LeJ (m0:Mem):Mem->Mem->Prop
 | nil:LeJ m0 [] []
 | cells {i:Evl.Id} {t:Nat} {cs:List V} {r r':Mem} (h:LeJ m0 r r'):LeJ m0 ((i,.cells t cs)::r) ((i,.cells t cs)::r')
 | row {i:Evl.Id} {w:Bool} {t sz n:Nat} {xs:List D} {r r':Mem} (h:LeJ m0 r r'):LeJ m0 ((i,.row w t sz n xs)::r) ((i,.row w t sz n xs)::r')
 | gone {i:Evl.Id} {r r':Mem} (h:LeJ m0 r r'):LeJ m0 ((i,.gone)::r) ((i,.gone)::r')
 | map {i:Evl.Id} {es:List (D×V)} {r r':Mem} (he:yjg es es=true) (h:LeJ m0 r r'):LeJ m0 ((i,.map es)::r) ((i,.map es)::r')
 | loop {i:Evl.Id} {e e0:Env} {ps ps0:List Nat} {a b a0 b0:C} {lv lv0:Nat} {bu bu0 ov ov0:Bool} {j j0:Option yey} {r r':Mem} (hl:Evl.look m0 i=some (.loop e0 ps0 a0 b0 lv0 bu0 ov0 j0)) (hj:yd8 j j=true) (h:LeJ m0 r r'):LeJ m0 ((i,.loop e ps a b lv bu ov j)::r) ((i,.loop e ps a b lv bu ov j)::r')
 | bag {i:Evl.Id} {t sz n:Nat} {xs ys:List D} {r r':Mem} (hb:yiv sz n ys xs=true) (h:LeJ m0 r r'):LeJ m0 ((i,.row true t sz n xs)::r) ((i,.bag t sz n ys)::r')
theorem LeJ.ok {m0 a b:Mem} (h:LeJ m0 a b):leM m0 a b=true:=by
 induction h with
 | nil=>rfl
 | cells h ih=>simp [leM,leO,zl5,ih]
 | row h ih=>simp [leM,leO,zj7,ih]
 | gone h ih=>simp [leM,leO,ih]
 | map he h ih=>simp [leM,leO,he,ih]
 | loop hl hj h ih=>simp [leM,leO,hl,hj,z35,ih]
 | bag hb h ih=>simp [leM,leO,hb,ih]
theorem z0c {x:List D}:∀ {l:List (List D)},x∈l->∃r,zs0 x l=some r
 | y::r,h=>by
  unfold zs0
  by_cases e:zku x y=true
  ·exact⟨r,if_pos e⟩
  ·rw [if_neg e]
   rcases List.mem_cons.1 h with rfl|h
   ·exact absurd (zj7 x) e
   ·obtain⟨q,hq⟩:=z0c h
    exact⟨y::q,by rw [hq];rfl⟩
theorem ycp:∀ {a b:List (List D)},a.Perm b->yaa a b=true
 | [],b,h=>by
  have:=List.Perm.nil_eq h
  subst this
  rfl
 | x::r,b,h=>by
  have hx:x∈b:=h.subset (by simp)
  obtain⟨q,hq⟩:=z0c hx
  have h1:=zql x b q hq
  unfold yaa
  rw [hq]
  exact ycp ((List.perm_cons x).1 (h.trans h1))
theorem zvq:∀(l:List D),zkh 1 l.length l=l.map fun x=>[x]
 | []=>rfl
 | x::r=>by
  rw [List.length_cons,zkh,List.map_cons]
  have:=zvq r
  simp only [List.take_succ_cons,List.take_zero,List.drop_succ_cons,List.drop_zero]
  rw [this]
theorem ymd {xs ys:List D} {n:Nat} (h:xs.Perm ys) (hn:ys.length=n):yiv 1 n xs ys=true:=by
 have hx:xs.length=n:=h.length_eq.trans hn
 unfold yiv
 subst hn
 rw [decide_eq_true (by omega),decide_eq_true (by omega),Bool.true_and,Bool.true_and]
 have e1:zkh 1 ys.length xs=xs.map fun x=>[x]:=by rw [<-hx];exact zvq xs
 rw [e1,zvq]
 exact ycp (h.map _)
abbrev zkj (ks:List (List UInt8)):List (D×V):=ks.map fun k=>(D.str k,B true)
theorem zos:∀ks:List (List UInt8),Evl.idsM (zkj ks)=[]
 | []=>rfl
 | k::ks=>by
  unfold zkj
  rw [List.map_cons,Evl.idsM]
  exact(List.nil_append _).trans (zos ks)
abbrev lpK:Ob:= .loop [(2,.ptr ⟨4,2,0⟩ 0 0),(4,.ref ⟨4,4,0⟩ 0 0 0),(6,.fn zao [] [.ptr ⟨1,29,0⟩ 0 0])] [7] zes zet 4 false false none
abbrev ylv (us:List (List UInt8)):Ob:= .row true zad 1 us.length (us.map D.str)
abbrev eK:Env:=[(0,.yld ⟨4,14,0⟩),(5,.it ⟨5,5,0⟩)]
section
variable {E : Oracle} (g : Good E)
include g
omit g in
theorem z6l {ks:List (List UInt8)} {p:List (D×V)} (h:p.Perm (zkj ks)):∃us:List (List UInt8),p=zkj us/\us.Perm ks:=by
 refine⟨p.map fun e=>match e.1 with
  | .str s=>s
  | _=>[],?_,?_⟩
 ·unfold zkj
  rw [List.map_map]
  symm
  have:∀x∈p,((fun k=>(D.str k,B true))∘fun e:D×V=>match e.1 with
   | .str s=>s
   | _=>[]) x=x:=fun x hx=>by
   have:=h.subset hx
   obtain⟨k,_,rfl⟩:=List.mem_map.1 this
   rfl
  calc List.map _ p=List.map id p:=List.map_congr_left this
   _=p:=List.map_id p
 ·have h1:=h.map fun e:D×V=>match e.1 with
   | .str s=>s
   | _=>[]
  refine h1.trans ?_
  unfold zkj
  rw [List.map_map]
  have:List.map ((fun e:D×V=>match e.1 with
   | .str s=>s
   | _=>[])∘fun k=>(D.str k,B true)) ks=ks:=by
   calc _=List.map id ks:=List.map_congr_left fun _ _=>rfl
    _=ks:=List.map_id ks
  rw [this]
abbrev e1K:Env:=[(0,.yld ⟨4,14,0⟩),(1,.ptr ⟨1,29,0⟩ 0 0),(4,.mp ⟨1,14,0⟩)]
omit g in
theorem yib {ks:List (List UInt8)} {p:List D} (h:p.Perm (ks.map D.str)):∃us:List (List UInt8),p=us.map D.str/\us.Perm ks:=by
 refine⟨p.map fun e=>match e with
  | .str s=>s
  | _=>[],?_,?_⟩
 ·rw [List.map_map]
  symm
  have:∀x∈p,(D.str∘fun e:D=>match e with
   | .str s=>s
   | _=>[]) x=x:=fun x hx=>by
   have:=h.subset hx
   obtain⟨k,_,rfl⟩:=List.mem_map.1 this
   rfl
  calc List.map _ p=List.map id p:=List.map_congr_left this
   _=p:=List.map_id p
 ·have h1:=h.map fun e:D=>match e with
   | .str s=>s
   | _=>[]
  refine h1.trans ?_
  rw [List.map_map]
  have:List.map ((fun e:D=>match e with
   | .str s=>s
   | _=>[])∘D.str) ks=ks:=by
   calc _=List.map id ks:=List.map_congr_left fun _ _=>rfl
    _=ks:=List.map_id ks
  rw [this]
omit g in
theorem yed {a b:List (List UInt8)} (h:a.Perm b):zmt a=zmt b:=by
 have hanti:∀x y:List UInt8,zbv y x=false->zbv x y=false->x=y:=by
  intro x
  induction x with
  | nil=>intro y _ h2;cases y with
   | nil=>rfl
   | cons=>simp [zbv] at h2
  | cons c x ih=>intro y h1 h2;cases y with
   | nil=>simp [zbv] at h1
   | cons d y=>
    simp only [zbv,Bool.or_eq_false_iff,decide_eq_false_iff_not,Bool.and_eq_false_iff,beq_eq_false_iff_ne,ne_eq,UInt8.not_lt] at h1 h2
    have e:c=d:=UInt8.le_antisymm h1.1 h2.1
    subst e
    rw [ih y (h1.2.resolve_left (fun h=>h rfl)) (h2.2.resolve_left (fun h=>h rfl))]
 exact List.Perm.eq_of_pairwise (le:=fun x y=>zbv y x=false) (fun x y _ _ h1 h2=>hanti x y h1 h2) (zne a) (zne b) ((zhs a).trans (h.trans (zhs b).symm))
end
structure Slt where
 sr:List UInt8
 mi:Int
def Slt.cells (t:Slt):List D:=[.str t.sr,DI t.mi]
theorem yq1 (t:Slt):t.cells.length=2:=rfl
abbrev LS2 (l:List Slt):V:= .d (.list l.length (l.flatMap Slt.cells))
def yet (ks:List (List UInt8)) (s:List UInt8):List (List UInt8):=if s∈ks then ks else ks++[s]
def srK (es:List Ent):List (List UInt8):=es.foldl (fun ks x=>yet ks x.sr) []
theorem yky (es:List Ent) (k:Nat) (h:k<es.length):srK (es.take (k+1))=yet (srK (es.take k)) es[k].sr:=by
 unfold srK
 rw [List.take_succ_eq_append_getElem h,List.foldl_append]
 rfl
theorem yi0 (ks:List (List UInt8)) (s:List UInt8):(yet ks s).length<=ks.length+1:=by
 unfold yet
 split
 ·omega
 ·simp
theorem yh8 (es:List Ent):(srK es).length<=es.length:=by
 have key:∀(es:List Ent) (ks:List (List UInt8)),(es.foldl (fun ks x=>yet ks x.sr) ks).length<=ks.length+es.length:=by
  intro es
  induction es with
  | nil=>intro ks;simp
  | cons x es ih=>
   intro ks
   rw [List.foldl_cons]
   have:=ih (yet ks x.sr)
   have:=yi0 ks x.sr
   simp only [List.length_cons];omega
 have:=key es []
 simpa [srK] using this
theorem z71 (s:List UInt8):∀ks:List (List UInt8),Evl.setE (.str s) (B true) (zkj ks)=some (zkj (yet ks s))
 | []=>rfl
 | q::ks=>by
  unfold zkj
  rw [List.map_cons,Evl.setE]
  have he:Evl.eqD (.str s) (.str q)=some (s==q):=rfl
  simp only [he]
  by_cases e:s=q
  ·subst e
   simp [yet]
  ·have:(s==q)=false:=beq_eq_false_iff_ne.2 e
   rw [this]
   dsimp only
   have ih:=z71 s ks
   unfold zkj at ih
   rw [ih]
   by_cases hm:s∈ks
   ·simp [yet,hm]
   ·have:¬s∈q::ks:=by simp [e,hm]
    simp [yet,hm,this]
def yl1 (r:Rgs) (kn d:Int) (ks:List (List UInt8)):List Slt:=(ks.filter fun s=>decide (z67 r s kn d≠1440)).map fun s=>⟨s,z67 r s kn d⟩
theorem z6p (p:List UInt8->Bool) (l:List (List UInt8)) (k:Nat) (h:k<l.length):(l.take (k+1)).filter p=(l.take k).filter p++if p l[k] then [l[k]] else []:=zih p l k h
def yeb (r:Rgs) (kn d:Int):List Slt:=yl1 r kn d (zmt (srK r.es))
abbrev mTZ (l:List Evt) (r:Rgs):Mem:=mR zaa l r++[(⟨1,6,0⟩,.row false zb4 2 0 [])]
abbrev mZZ (l:List Evt) (r:Rgs) (ks:List (List UInt8)):Mem:=mTZ l r++[(⟨1,14,0⟩,.map (zkj ks)),(⟨1,10,0⟩,.row false zb4 2 0 []),(⟨1,29,0⟩,.cells zdl [.mp ⟨1,14,0⟩])]
abbrev ycd (l:List Evt) (r:Rgs):Mem:=mTZ l r++[(⟨1,14,0⟩,.gone),(⟨1,10,0⟩,.row false zb4 2 0 []),(⟨1,29,0⟩,.cells zdl [.mp ⟨1,14,0⟩]),(⟨2,2,0⟩,.row true zad 1 0 []),(⟨3,2,0⟩,.row true zad 1 0 []),(⟨4,2,0⟩,.cells zoe [.d .nil]),(⟨4,4,0⟩,.row true zad 1 0 []),(⟨4,14,0⟩,lpK),(⟨5,5,0⟩,.gone)]
abbrev ylm (l:List Evt) (r:Rgs) (us:List (List UInt8)) (last:Ob):Mem:=mTZ l r++[(⟨1,14,0⟩,.gone),(⟨1,10,0⟩,.row false zb4 2 0 []),(⟨1,29,0⟩,.cells zdl [.mp ⟨1,14,0⟩]),(⟨2,2,0⟩,.row true zad 1 0 []),(⟨3,2,0⟩,.row true zad 1 0 []),(⟨4,2,0⟩,.cells zoe [.ref ⟨4,11,0⟩ 0 us.length us.length]),(⟨4,4,0⟩,.row true zad 1 0 []),(⟨4,14,0⟩,lpK),(⟨5,5,0⟩,.gone),(⟨4,11,0⟩,last)]
section
variable {E : Oracle} (g : Good E)
include g
abbrev ylc (E:Oracle):Env->Mem->Option (Ex×Env×Mem):=fun e m=>(zkk E ⟨5,6⟩ [xq 9 8 0,mq 3 9] e m).bind fun q=>evC E ⟨5,6⟩ zb6 (ziq [8,9] q.1) q.2
omit g in
theorem yfa {e:Env} {m:Mem} {K:Ex->Env->Mem->Prop} (h:Evl.wpOps E ⟨5,6⟩ [xq 9 8 0,mq 3 9] e m fun e' m'=>wpC E ⟨5,6⟩ zb6 (ziq [8,9] e') m' K):∃x e' m',ylc E e m=some (x,e',m')/\K x e' m':=by
 obtain⟨p,h1,h2⟩:=Evl.wpOps_ok _ _ _ _ h
 obtain⟨x,e',m',h3,h4⟩:=Evl.wpC_ok _ _ _ _ h2
 exact⟨x,e',m',by unfold ylc;rw [h1,Option.bind_some];exact h3,h4⟩
theorem ynt (l:List Evt) (r:Rgs) (k:List UInt8):∃x e' m',ylc E (put eK 8 (.tup [S k,B true])) (ycd l r)=some (x,e',m')/\(x= .normal/\zp4 (get e' 5) (.it ⟨5,5,0⟩)=true/\only [0,5] e'=eK/\gc (zm2 (ycd l r)) eK m'=ylm l r [k] (ylv [k])):=by
 refine yfa ?_
 repeat' ((conv=>whnf);first
 | refine Yz ?_
  | (refine Rnd.enter g.lim ?_)
  | (refine zcp.mk ⟨by decide,rfl,by decide,by decide⟩ ?_)
  | (exact⟨rfl,rfl,rfl,rfl⟩))
theorem ynu (l:List Evt) (r:Rgs) (us:List (List UInt8)) (hu:us.length<=1000000) (k:List UInt8):∃x e' m',ylc E (put eK 8 (.tup [S k,B true])) (ylm l r us (ylv us))=some (x,e',m')/\(x= .normal/\zp4 (get e' 5) (.it ⟨5,5,0⟩)=true/\only [0,5] e'=eK/\gc (zm2 (ycd l r)) eK m'=ylm l r (us++[k]) (ylv (us++[k]))):=by
 refine yfa ?_
 repeat' ((conv=>whnf);first
 | refine Yz ?_
  | (refine Rnd.enter g.lim ?_)
  | (refine zcp.mk ⟨rfl,rfl,rfl,rfl,rfl,rfl,by dsimp only;omega,by first |omega|(dsimp only;omega)⟩ ?_)
  | (refine⟨rfl,rfl,rfl,?_⟩))
 simp only [ylm,ylv,List.length_append,List.length_cons,List.length_nil,List.map_append,List.map_cons,List.map_nil]
 rfl
theorem yhn (l:List Evt) (r:Rgs):∀(ps us:List (List UInt8)),us.length+ps.length<=1000000->zh0 (ylc E) 5 ⟨5,5,0⟩ 0 1 8 [0,5] (zm2 (ycd l r)) (zkj ps) eK (ylm l r us (ylv us))=some (.normal,eK,ylm l r (us++ps) (ylv (us++ps)))
 | [],us,_=>by
  rw [List.append_nil]
  rfl
 | p::ps,us,h=>by
  rw [List.length_cons] at h
  obtain⟨x,e',m',h1,rfl,h2,h3,h4⟩:=ynu g l r us (by omega) p
  unfold zkj
  rw [List.map_cons,zh0,h1,Option.bind_some]
  unfold zjd
  dsimp only [Ex.on]
  rw [if_pos h2,h3,h4]
  have:=yhn l r ps (us++[p]) (by rw [List.length_append,List.length_singleton];omega)
  rw [List.append_assoc] at this
  exact this
theorem yke (l:List Evt) (r:Rgs) (p:List UInt8) (ps:List (List UInt8)) (hl:ps.length<=100000):zh0 (ylc E) 5 ⟨5,5,0⟩ 0 1 8 [0,5] (zm2 (ycd l r)) (zkj (p::ps)) eK (ycd l r)=some (.normal,eK,ylm l r (p::ps) (ylv (p::ps))):=by
 obtain⟨x,e',m',h1,rfl,h2,h3,h4⟩:=ynt g l r p
 unfold zkj
 rw [List.map_cons,zh0,h1,Option.bind_some]
 unfold zjd
 dsimp only [Ex.on]
 rw [if_pos h2,h3,h4]
 exact yhn g l r ps [p] (by simp;omega)
abbrev yqu (l:List Evt) (r:Rgs) (ks:List (List UInt8)):Mem:=mTZ l r++[(⟨1,14,0⟩,.map (zkj ks)),(⟨1,10,0⟩,.row false zb4 2 0 []),(⟨1,29,0⟩,.cells zdl [.mp ⟨1,14,0⟩]),(⟨2,2,0⟩,.row true zad 1 0 []),(⟨3,2,0⟩,.row true zad 1 0 []),(⟨4,2,0⟩,.cells zoe [.d .nil]),(⟨4,4,0⟩,.row true zad 1 0 []),(⟨4,14,0⟩,lpK)]
abbrev yo8 (l:List Evt) (r:Rgs) (mp:Ob) (n:Nat) (last:Ob):Mem:=mTZ l r++[(⟨1,14,0⟩,mp),(⟨1,10,0⟩,.row false zb4 2 0 []),(⟨1,29,0⟩,.cells zdl [.mp ⟨1,14,0⟩]),(⟨2,2,0⟩,.row true zad 1 0 []),(⟨3,2,0⟩,.row true zad 1 0 []),(⟨4,2,0⟩,.cells zoe [.ref ⟨4,11,0⟩ 0 n n]),(⟨4,4,0⟩,.row true zad 1 0 []),(⟨4,14,0⟩,lpK),(⟨5,5,0⟩,.gone),(⟨4,11,0⟩,last)]
theorem yo3 (l:List Evt) (r:Rgs) (k:List UInt8) (kr:List (List UInt8)) (hl:kr.length<=100000):
  zo1 (ylc E) ⟨5,6⟩ 5 (.t 4) 0 1 8 [0,5] e1K (yqu l r (k::kr))=some (.normal,eK,yo8 l r (.map (zkj (k::kr))) (kr.length+1) (.bag zad 1 (kr.length+1) ((k::kr).map D.str))):=by
 have hj:zk3 true (ycd l r) (yo8 l r .gone (kr.length+1) (.row true zad 1 (kr.length+1) ((k::kr).map D.str)))=yo8 l r .gone (kr.length+1) (.bag zad 1 (kr.length+1) ((k::kr).map D.str)):=by
  simp [zk3,yiw,z8u,Evl.look]
 refine(z2v (o:=⟨1,14,0⟩) (es:=zkj (k::kr)) rfl rfl (i:=⟨5,5,0⟩) (m2:=ycd l r) (e2:=eK) (e3:=eK) rfl rfl rfl
  (fun p=>yo8 l r .gone (kr.length+1) (.row true zad 1 (kr.length+1) (p.map fun e=>e.1))) (fun p hp=> ?_) (mj:=yo8 l r .gone (kr.length+1) (.bag zad 1 (kr.length+1) ((k::kr).map D.str))) ?_ (fun p hp=> ?_) rfl).trans rfl
 ·obtain⟨us,rfl,hu⟩:=z6l hp
  have hul:us.length=kr.length+1:=hu.length_eq
  obtain⟨a,b,rfl⟩:∃a b,us=a::b:=List.exists_cons_of_ne_nil (by rintro rfl;simp at hul)
  rw [yke g l r a b (by simp at hul;omega)]
  dsimp only [ylm,ylv]
  rw [hul]
  have:(zkj (a::b)).map (fun e=>e.1)=(a::b).map D.str:=by
   unfold zkj
   rw [List.map_map]
   rfl
  rw [this]
 ·have:(zkj (k::kr)).map (fun e=>e.1)=(k::kr).map D.str:=by
   unfold zkj
   rw [List.map_map]
   rfl
  rw [this]
  exact hj
 ·obtain⟨us,rfl,hu⟩:=z6l hp
  have:(zkj us).map (fun e=>e.1)=us.map D.str:=by
   unfold zkj
   rw [List.map_map]
   rfl
  rw [this]
  have hb:yiv 1 (kr.length+1) ((k::kr).map D.str) (us.map D.str)=true:=ymd (hu.symm.map _) (by rw [List.length_map];exact hu.length_eq)
  exact LeJ.ok (.cells<| .row<| .row<| .row<| .row<| .row<| .gone<| .row<| .cells<| .row<| .row<| .cells<| .row<| .loop rfl rfl<| .gone<| .bag hb .nil)
omit g in
theorem ym0 (l:List Evt) (r:Rgs):zo1 (ylc E) ⟨5,6⟩ 5 (.t 4) 0 1 8 [0,5] e1K (yqu l r [])=some (.normal,eK,yqu l r []++[(⟨5,5,0⟩,.gone)]):=by
 have hj:zk3 true (ycd l r) (ycd l r)=ycd l r:=by
  simp [zk3,yiw,z8u,Evl.look]
 refine(z2v (o:=⟨1,14,0⟩) (es:=[]) rfl rfl (i:=⟨5,5,0⟩) (m2:=ycd l r) (e2:=eK) (e3:=eK) rfl rfl rfl (fun _=>ycd l r) (fun p hp=> ?_) (mj:=ycd l r) hj (fun p hp=> ?_) rfl).trans rfl
 ·have:=hp.symm.nil_eq
  subst this
  rfl
 ·exact LeJ.ok (.cells<| .row<| .row<| .row<| .row<| .row<| .gone<| .row<| .cells<| .row<| .row<| .cells<| .row<| .loop rfl rfl<| .gone .nil)
abbrev ydy (l:List Evt) (r:Rgs) (ks:List (List UInt8)) (last:Ob):Mem:=mZZ l r ks++[(⟨2,2,0⟩,.row true zad 1 0 []),(⟨2,5,0⟩,last)]
theorem ykt (hx:ext n_slices_Sort_Lstring_string=some sortXS) (l:List Evt) (r:Rgs) (ks:List (List UInt8)) (n slot:Nat) (hn:ks.length=n) (h0:n≠0) (hb:n<=100000):
  znl (fun m=>zjo E ⟨2,3⟩ slot true true (.fn n_slices_Sort_Lstring_string [] []) [.ref ⟨2,5,0⟩ 0 n n] m) (ydy l r ks (.bag zad 1 n (ks.map D.str))) (.ref ⟨2,5,0⟩ 0 n n)=some (.tup [],ydy l r ks (.row true zad 1 n ((zmt ks).map D.str))):=by
 have hj:zk3 false (ydy l r ks (.bag zad 1 n (ks.map D.str))) (ydy l r ks (.row true zad 1 n ((zmt ks).map D.str)))=ydy l r ks (.row true zad 1 n ((zmt ks).map D.str)):=by
  simp [zk3,z8u]
 refine(zvp (n:=n) (xs:=ks.map D.str) rfl (by rw [List.length_map];exact hn) (.tup [],ydy l r ks (.row true zad 1 n ((zmt ks).map D.str))) (fun p hp=> ?_) ?_).trans (by rw [hj])
 ·obtain⟨us,rfl,hu⟩:=yib hp
  have hul:us.length=n:=hu.length_eq.trans hn
  have key:Evl.callW E ⟨2,3⟩ slot true true (.fn n_slices_Sort_Lstring_string [] []) [.ref ⟨2,5,0⟩ 0 n n] (ydy l r ks (.row true zad 1 n (us.map D.str))) fun v m=>v= .tup []/\m=ydy l r ks (.row true zad 1 n ((zmt ks).map D.str)):=by
   repeat' ((conv=>whnf);first
   | refine Yz ?_
    | (simp only [Evl.idsAll,Evl.idsO,zos,List.nil_append])
    | (refine In.extern (v:= .tup []) (m':=ydy l r ks (.row true zad 1 n ((zmt ks).map D.str))) g.lim hx ?_ ?_)
    | (exact⟨rfl,rfl⟩)
    | (exact⟨trivial,rfl⟩))
   rw [<-yed hu]
   show (if n=0/\n=0/\n=0 then some (V.tup [],ydy l r ks (.row true zad 1 n (us.map D.str))) else if n=n/\n=n/\n≠0/\n<4611686018427387904 then(match Evl.strsOf (us.map D.str) with
    | some zs=>some (V.tup [],upd (ydy l r ks (.row true zad 1 n (us.map D.str))) ⟨2,5,0⟩ (.row true zad 1 n ((zmt zs).map D.str)))
    | none=>none) else none)=_
   rw [if_neg (fun h=>h0 h.1),if_pos ⟨rfl,rfl,h0,by omega⟩,zqz]
   rfl
  obtain⟨q,h1,h2,h3⟩:=Evl.callW_ok key
  have:(q:V×Mem)=(.tup [],ydy l r ks (.row true zad 1 n ((zmt ks).map D.str))):=Prod.ext h2 h3
  rw [<-this]
  exact h1
 ·rw [hj]
  exact LeJ.ok (.cells<| .row<| .row<| .row<| .row<| .row<| .map (ybn _)<| .row<| .cells<| .row<| .row .nil)
theorem yh2 (hx:ext n_slices_Sort_Lstring_string=some sortXS) (l:List Evt) (r:Rgs) (slot:Nat):
  znl (fun m=>zjo E ⟨2,3⟩ slot true true (.fn n_slices_Sort_Lstring_string [] []) [.d .nil] m) (mZZ l r []++[(⟨2,2,0⟩,.row true zad 1 0 [])]) (.d .nil)=some (.tup [],mZZ l r []++[(⟨2,2,0⟩,.row true zad 1 0 [])]):=by
 have key:Evl.callW E ⟨2,3⟩ slot true true (.fn n_slices_Sort_Lstring_string [] []) [.d .nil] (mZZ l r []++[(⟨2,2,0⟩,.row true zad 1 0 [])]) fun v m=>v= .tup []/\m=mZZ l r []++[(⟨2,2,0⟩,.row true zad 1 0 [])]:=by
  repeat' ((conv=>whnf);first
  | refine Yz ?_
   | (refine In.extern (v:= .tup []) (m':=mZZ l r []++[(⟨2,2,0⟩,.row true zad 1 0 [])]) g.lim hx rfl ?_)
   | (exact⟨rfl,rfl⟩)
   | (exact⟨trivial,rfl⟩))
 obtain⟨q,h1,h2,h3⟩:=Evl.callW_ok key
 have:(q:V×Mem)=(.tup [],mZZ l r []++[(⟨2,2,0⟩,.row true zad 1 0 [])]):=Prod.ext h2 h3
 rw [<-this]
 exact h1
theorem z19 (hx:ext n_slices_Sort_Lstring_string=some sortXS) (l:List Evt) (r:Rgs) (ks:List (List UInt8)) (hl:ks.length<=1000) {slot:Nat} {K:V->Mem->Prop} (hK0:ks=[]->K (.d .nil) (mZZ l r ks)) (hK:ks≠[]->K (Ws (zmt ks)) (mZZ l r ks)):
  In E 2 zdw [.fn zao [] [.ptr ⟨1,29,0⟩ 0 0]] (mZZ l r ks) fun v m'=>zu3 ⟨1,2⟩ slot true v m' K:=by
 refine In.enter (f:=zdw) g.lim rfl rfl ?_
 have hs:=(zhs ks).length_eq
 cases ks with
 | nil=>
  have h0:=ym0 (E:=E) l r
  have hK:=hK0 rfl
  repeat' ((conv=>whnf);first
  | refine Yz ?_
   | (refine In.enter (f:=zel) g.lim rfl rfl ?_)
   | (refine In.enter (f:=zcj) g.lim rfl rfl ?_)
   | (refine In.enter (f:=zao) g.lim rfl rfl ?_)
   | (refine⟨_,_,_,h0,?_⟩)
   | (refine zuw.mk ⟨(.d .nil,mZZ l r []++[(⟨2,2,0⟩,.row true zad 1 0 []),(⟨3,2,0⟩,.row true zad 1 0 [])]),rfl,?_⟩)
   | (refine zuw.mk ⟨(.d .nil,mZZ l r []++[(⟨2,2,0⟩,.row true zad 1 0 [])]),rfl,?_⟩)
   | (refine⟨_,yh2 g hx l r 7,?_⟩)
   | (exact hK))
 | cons k kr=>
  have h1:=yo3 g l r k kr (by simp at hl;omega)
  have hK:=hK (by simp)
  rw [Ws,hs,List.length_cons] at hK
  repeat' ((conv=>whnf);first
  | refine Yz ?_
   | (simp only [Evl.idsAll,Evl.idsO,zos,List.nil_append])
   | (refine In.enter (f:=zel) g.lim rfl rfl ?_)
   | (refine In.enter (f:=zcj) g.lim rfl rfl ?_)
   | (refine In.enter (f:=zao) g.lim rfl rfl ?_)
   | (refine⟨_,_,_,h1,?_⟩)
   | (refine zuw.mk ⟨(.ref ⟨3,4,0⟩ 0 (kr.length+1) (kr.length+1),mZZ l r (k::kr)++[(⟨2,2,0⟩,.row true zad 1 0 []),(⟨3,2,0⟩,.row true zad 1 0 []),(⟨3,4,0⟩,.bag zad 1 (kr.length+1) ((k::kr).map D.str))]),rfl,?_⟩)
   | (refine zuw.mk ⟨(.ref ⟨2,5,0⟩ 0 (kr.length+1) (kr.length+1),ydy l r (k::kr) (.bag zad 1 (kr.length+1) ((k::kr).map D.str))),rfl,?_⟩)
   | (refine⟨_,ykt g hx l r (k::kr) (kr.length+1) 7 rfl (by omega) (by simp at hl;omega),?_⟩)
   | (refine zcp.mk ⟨rfl,by omega⟩ ?_)
   | (exact hK)
   | (simp only [and_self,if_true];exact hK))
end
section
variable {E : Oracle} (g : Good E)
include g
theorem yf0 (hx:ext n_slices_Sort_Lstring_string=some sortXS) (l:List Evt) (r:Rgs) (ho:OkR r) (kn d:Int) {slot:Nat} {K:V->Mem->Prop} (hK:K (LS2 (yeb r kn d)) (mR zaa l r)):
  In E 1 zcu [.ptr ⟨0,0,0⟩ 1 0,I kn,I d] (mR zaa l r) fun v m'=>zu3 ⟨0,1⟩ slot true v m' K:=by
 have hes:=ho.es
 have hml:(r.es.flatMap Ent.cells).length=r.es.length*8:=zag Ent.cells 8 zmi r.es
 refine In.enter (f:=zcu) g.lim rfl rfl ?_
 repeat' ((conv=>whnf);first
 | refine Yz ?_)
 refine zam.to (zam.up g (fun k=>[(0,.ptr ⟨0,0,0⟩ 1 0),(1,I kn),(2,I d),(7,.mp ⟨1,14,0⟩),(18,.ref ⟨0,0,2⟩ 0 r.es.length r.es.length),(19,I r.es.length),(20,I k)])
  (fun k=>mTZ l r++[(⟨1,14,0⟩,.map (zkj (srK (r.es.take k))))]) r.es.length (fun k hk ih=> ?_) 0 (Nat.zero_le _)) rfl rfl
 by_cases hlt:k<r.es.length
 ·have ih:=ih hlt
  rw [yky r.es k hlt] at ih
  have hwin:win (r.es.flatMap Ent.cells) ((0+((k:Nat):Int).toNat)*8) 8=r.es[k].cells:=by
   rw [Nat.zero_add,Int.toNat_natCast]
   exact zb9 Ent.cells 8 zmi r.es k hlt
  have hse:=z71 r.es[k].sr (srK (r.es.take k))
  repeat' ((conv=>whnf);first
  | refine Yz ?_
   | (rw [hwin])
   | (refine yrd.mk ⟨_,hse,?_⟩)
   | (simp only [Evl.idsAll,Evl.idsO,zos,List.nil_append])
   | (refine zam.to ih rfl rfl))
 clear ih
 rw [List.take_of_length_le (by omega)]
 have hkl:(srK r.es).length<=256:=Nat.le_trans (yh8 r.es) hes
 unfold yeb at hK
 generalize srK r.es=ks at *
 have hsl:=(zhs ks).length_eq
 by_cases hks:ks=[]
 ·subst hks
  repeat' ((conv=>whnf);first
  | refine Yz ?_
   | (refine In.enter (f:=zbp) g.lim rfl rfl ?_)
   | (refine zuw.mk ⟨(.fn zao [] [.ptr ⟨1,29,0⟩ 0 0],mZZ l r []),rfl,?_⟩)
   | (refine z19 g hx l r [] (by simp) (slot:=30) (fun _=> ?_) (fun h=>absurd rfl h))
   | (refine zam.step g.lim ?_)
   | (refine zcp.mk ⟨rfl,by omega⟩ ?_)
   | (exact hK))
 ·repeat' ((conv=>whnf);first
 | refine Yz ?_
   | (simp only [Evl.idsAll,Evl.idsO,zos,List.nil_append])
   | (refine In.enter (f:=zbp) g.lim rfl rfl ?_)
   | (refine zuw.mk ⟨(.fn zao [] [.ptr ⟨1,29,0⟩ 0 0],mZZ l r ks),rfl,?_⟩)
   | (refine z19 g hx l r ks (by omega) (slot:=30) (fun h=>absurd h hks) (fun _=> ?_)))
  generalize zmt ks=ss at *
  refine zam.to (zam.by (σ:=Nat×List Slt) g (fun u=>u.1<=ss.length/\u.2=yl1 r kn d (ss.take u.1))
   (fun u=>[(0,.ptr ⟨0,0,0⟩ 1 0),(1,I kn),(2,I d),(10,.ref ⟨1,10,0⟩ 0 u.2.length u.2.length),(30,Ws ss),(31,I ss.length),(32,I u.1)])
   (fun u=>mTZ l r++[(⟨1,14,0⟩,.map (zkj ks)),(⟨1,10,0⟩,.row false zb4 2 u.2.length (u.2.flatMap Slt.cells)),(⟨1,29,0⟩,.cells zdl [.mp ⟨1,14,0⟩])])
   (fun u=>ss.length-u.1) ?_ (0,[]) ⟨Nat.zero_le _,rfl⟩) rfl rfl
  rintro⟨k,out⟩ ⟨i1,i2⟩ ih
  dsimp only at i1 i2 ih ⊢
  have hmo:(out.flatMap Slt.cells).length=out.length*2:=zag Slt.cells 2 yq1 out
  have hol:out.length<=256:=by
   rw [i2,yl1,List.length_map]
   refine Nat.le_trans (List.length_filter_le _ _) ?_
   rw [List.length_take];omega
  by_cases hlt:k<ss.length
  ·have hq:=yct g zaa l r ho ss[k] kn d
   have ht:yl1 r kn d (ss.take (k+1))=out++(if decide (z67 r ss[k] kn d≠1440) then [ss[k]] else []).map fun s=>(⟨s,z67 r s kn d⟩:Slt):=by
    rw [i2,yl1,z6p _ _ _ hlt,List.map_append]
    rfl
   have hpk:∀ {K:D->Prop},K (.str ss[k])->zfp (ss.map D.str) (((k:Nat):Int).toNat*1) K:=fun h=>zfp.ws k rfl hlt h
   by_cases hy:z67 r ss[k] kn d=1440
   ·have ih:=ih (k+1,out) ⟨by dsimp only;omega,by dsimp only;rw [ht,if_neg (by simp [hy])];simp⟩ (by dsimp only;omega)
    rw [hy] at hq
    generalize ss[k]=s at *
    repeat' ((conv=>whnf);first
    | refine Yz ?_
     | (simp only [Evl.idsAll,Evl.idsO,zos,List.nil_append])
     | (refine hpk ?_)
     | (refine zjh.of (r':=I 1440) [⟨0,0,0⟩,⟨0,0,1⟩,⟨0,0,2⟩,⟨0,0,3⟩,⟨0,0,4⟩] rfl rfl rfl rfl hq rfl rfl rfl ?_)
     | (refine Cmp.tt rfl ?_)
     | (refine zam.to ih rfl rfl))
   ·have ih:=ih (k+1,out++[⟨ss[k],z67 r ss[k] kn d⟩]) ⟨by dsimp only;omega,by dsimp only;rw [ht,if_pos (decide_eq_true hy)];rfl⟩ (by dsimp only;omega)
    simp only [List.length_append,List.length_cons,List.length_nil,List.flatMap_append,List.flatMap_cons,List.flatMap_nil] at ih
    generalize ss[k]=s at *
    generalize z67 r s kn d=y at *
    repeat' ((conv=>whnf);first
    | refine Yz ?_
     | (simp only [Evl.idsAll,Evl.idsO,zos,List.nil_append])
     | (refine hpk ?_)
     | (refine zjh.of (r':=I y) [⟨0,0,0⟩,⟨0,0,1⟩,⟨0,0,2⟩,⟨0,0,3⟩,⟨0,0,4⟩] rfl rfl rfl rfl hq rfl rfl rfl ?_)
     | (refine Cmp.tt rfl ?_)
     | (refine Cmp.ff hy ?_)
     | (refine Cmp.ff (fun h=>hy h.2) ?_)
     | (refine Cmp.ff (fun h=>hy h.2.1) ?_)
     | (refine zcp.mk ⟨rfl,rfl,rfl,rfl,rfl,rfl,by dsimp only;omega,by first |omega|(dsimp only;omega)⟩ ?_)
     | (refine zam.to ih rfl rfl))
  ·rw [List.take_of_length_le (by omega)] at i2
   rw [<-i2] at hK
   repeat' ((conv=>whnf);first
   | refine Yz ?_
    | (refine zcp.mk ⟨rfl,by omega⟩ ?_)
    | (refine zcp.mk ⟨trivial,trivial⟩ ?_)
    | (simp only [and_self,if_true];exact hK))
theorem yn7 (ev:List Evt) (r:Rgs) (ho:OkR r) (kn d:Int):Ui E zcu [.ptr ⟨0,0,0⟩ 1 0,I kn,I d] (mR zaa ev r) (LS2 (yeb r kn d)) (mR zaa ev r):=
 ⟨yf0 g rfl ev r ho kn d ⟨rfl,⟨rfl,rfl,rfl,rfl,rfl,trivial⟩⟩⟩
end
theorem Ch.head {es:List Ent} {k:Nat} {c:List Ent} (h:Ch es k c):∃hk:k<es.length,c=es[k]::c.tail:=by
 cases h with
 | stop _ hk _=>exact⟨hk,rfl⟩
 | step _ _ _ hk _ _=>exact⟨hk,rfl⟩
section
variable {E : Oracle} (g : Good E)
include g
theorem zqi (r:Rgs) (nm:List UInt8) (hl:r.es.length<=1000000):Fc E zey [Rgv r,S nm] (I (zny r.es nm)):=by
 refine g.fn rfl rfl ?_
 have hml:(r.es.flatMap Ent.cells).length=r.es.length*8:=zag Ent.cells 8 zmi r.es
 repeat' ((conv=>whnf);first
 | refine Yz ?_)
 refine zam.to (zam.upP g (fun k=>[(1,S nm),(2,.ptr ⟨0,2,0⟩ 0 0),(5,I k)]) (fun _=>[(⟨0,2,0⟩,.cells zaj [I r.kn,.d (.list r.es.length (r.es.flatMap Ent.cells)),.d (.list r.rs.length (r.rs.flatMap Rmv.cells)),.d (.list r.cs.length (r.cs.flatMap Cpl.cells))])]) (fun k=>∀j,(hj:j<k)->(hj':j<r.es.length)->decide (r.es[j].nm=nm)=false) r.es.length (fun k hk hp ih=> ?_) 0 (Nat.zero_le _) (fun j h _=>absurd h (Nat.not_lt_zero _))) rfl rfl
 by_cases hlt:k<r.es.length
 ·by_cases he:r.es[k].nm=nm
  ·have hi:zny r.es nm=k:=znm (p:=fun x:Ent=>decide (x.nm=nm)) hlt (decide_eq_true he) fun j hj=>hp j hj (by omega)
   rw [hi]
   repeat' ((conv=>whnf);first
   | refine Yz ?_
    | (refine zfp.rec zmi k rfl hlt rfl ?_)
    | (refine Cmp.tt he ?_)
    | (refine Ret.mk rfl))
  ·have ih:=ih hlt fun j hj hj'=>by
    by_cases e:j=k
    ·subst e;exact decide_eq_false he
    ·exact hp j (by omega) hj'
   repeat' ((conv=>whnf);first
   | refine Yz ?_
    | (refine zfp.rec zmi k rfl hlt rfl ?_)
    | (refine Cmp.ff he ?_)
    | (refine zam.to ih rfl rfl))
 ·obtain rfl:k=r.es.length:=by omega
  have hi:zny r.es nm= -1:=zkm (p:=fun x:Ent=>decide (x.nm=nm)) fun j hj=>hp j hj hj
  rw [hi]
  repeat' ((conv=>whnf);first
  | refine Yz ?_
   | (refine Ret.mk rfl))
theorem zo0 (r:Rgs) (nm:List UInt8) (hl:r.cs.length<=1000000):Fc E zc6 [Rgv r,S nm] (I (zsk r.cs nm)):=by
 refine g.fn rfl rfl ?_
 have hml:(r.cs.flatMap Cpl.cells).length=r.cs.length*5:=zag Cpl.cells 5 zo9 r.cs
 repeat' ((conv=>whnf);first
 | refine Yz ?_)
 refine zam.to (zam.upP g (fun k=>[(1,S nm),(2,.ptr ⟨0,2,0⟩ 0 0),(5,I k)]) (fun _=>[(⟨0,2,0⟩,.cells zaj [I r.kn,.d (.list r.es.length (r.es.flatMap Ent.cells)),.d (.list r.rs.length (r.rs.flatMap Rmv.cells)),.d (.list r.cs.length (r.cs.flatMap Cpl.cells))])]) (fun k=>∀j,(hj:j<k)->(hj':j<r.cs.length)->decide (r.cs[j].nm=nm)=false) r.cs.length (fun k hk hp ih=> ?_) 0 (Nat.zero_le _) (fun j h _=>absurd h (Nat.not_lt_zero _))) rfl rfl
 by_cases hlt:k<r.cs.length
 ·by_cases he:r.cs[k].nm=nm
  ·have hi:zsk r.cs nm=k:=znm (p:=fun x:Cpl=>decide (x.nm=nm)) hlt (decide_eq_true he) fun j hj=>hp j hj (by omega)
   rw [hi]
   repeat' ((conv=>whnf);first
   | refine Yz ?_
    | (refine zfp.rec zo9 k rfl hlt rfl ?_)
    | (refine Cmp.tt he ?_)
    | (refine Ret.mk rfl))
  ·have ih:=ih hlt fun j hj hj'=>by
    by_cases e:j=k
    ·subst e;exact decide_eq_false he
    ·exact hp j (by omega) hj'
   repeat' ((conv=>whnf);first
   | refine Yz ?_
    | (refine zfp.rec zo9 k rfl hlt rfl ?_)
    | (refine Cmp.ff he ?_)
    | (refine zam.to ih rfl rfl))
 ·obtain rfl:k=r.cs.length:=by omega
  have hi:zsk r.cs nm= -1:=zkm (p:=fun x:Cpl=>decide (x.nm=nm)) fun j hj=>hp j hj hj
  rw [hi]
  repeat' ((conv=>whnf);first
  | refine Yz ?_
   | (refine Ret.mk rfl))
theorem yhd (r:Rgs) (nm:List UInt8) (kn:Int) (hl:r.rs.length<=1000000):Fc E zme [Rgv r,S nm,I kn] (B (z22 r.rs nm kn)):=by
 refine g.fn rfl rfl ?_
 have hml:(r.rs.flatMap Rmv.cells).length=r.rs.length*2:=zag Rmv.cells 2 yhm r.rs
 repeat' ((conv=>whnf);first
 | refine Yz ?_)
 refine zam.to (zam.upP g (fun k=>[(1,S nm),(2,I kn),(3,.ptr ⟨0,3,0⟩ 0 0),(7,I k)]) (fun _=>[(⟨0,3,0⟩,.cells zaj [I r.kn,.d (.list r.es.length (r.es.flatMap Ent.cells)),.d (.list r.rs.length (r.rs.flatMap Rmv.cells)),.d (.list r.cs.length (r.cs.flatMap Cpl.cells))])])
  (fun k=>∀j,(hj:j<r.rs.length)->j<k->¬(r.rs[j].en=nm/\r.rs[j].kn<=kn)) r.rs.length (fun k hk hp ih=> ?_) 0 (Nat.zero_le _) (fun j _ h=>absurd h (Nat.not_lt_zero _))) rfl rfl
 by_cases hlt:k<r.rs.length
 ·by_cases he:r.rs[k].en=nm
  ·by_cases hn:r.rs[k].kn<=kn
   ·have hb:z22 r.rs nm kn=true:=List.any_eq_true.2 ⟨_,List.getElem_mem hlt,decide_eq_true ⟨he,hn⟩⟩
    rw [hb]
    repeat' ((conv=>whnf);first
    | refine Yz ?_
     | (refine zfp.rec yhm k rfl hlt rfl ?_)
     | (refine Cmp.tt he ?_)
     | (refine Ret.mk rfl))
   ·have ih:=ih hlt fun j hj hjk=>by
     by_cases e:j=k
     ·subst e;exact fun h=>hn h.2
     ·exact hp j hj (by omega)
    repeat' ((conv=>whnf);first
    | refine Yz ?_
     | (refine zfp.rec yhm k rfl hlt rfl ?_)
     | (refine Cmp.tt he ?_)
     | (refine zam.to ih rfl rfl))
  ·have ih:=ih hlt fun j hj hjk=>by
    by_cases e:j=k
    ·subst e;exact fun h=>he h.1
    ·exact hp j hj (by omega)
   repeat' ((conv=>whnf);first
   | refine Yz ?_
    | (refine zfp.rec yhm k rfl hlt rfl ?_)
    | (refine Cmp.ff he ?_)
    | (refine zam.to ih rfl rfl))
 ·obtain rfl:k=r.rs.length:=by omega
  have hb:z22 r.rs nm kn=false:=by
   unfold z22
   rw [List.any_eq_false]
   intro z hz
   obtain⟨j,hj,rfl⟩:=List.mem_iff_getElem.1 hz
   simpa using hp j hj hj
  rw [hb]
  repeat' ((conv=>whnf);first
  | refine Yz ?_
   | (refine Ret.mk rfl))
theorem z44 (r:Rgs) (ho:OkR r) (kn:Int):∀(k:Nat) (hk:k<r.es.length),Fc E zgp [Rgv r,I k,I kn] (B (z0y r r.es[k] kn)):=by
 intro k
 induction k using Nat.strongRecOn with
 | _ k ihk=>
  intro hk
  have hes:=ho.es
  have hrm:=yhd g r r.es[k].nm kn (by have:=ho.rs;omega)
  have hml:(r.es.flatMap Ent.cells).length=r.es.length*8:=zag Ent.cells 8 zmi r.es
  have hwin:win (r.es.flatMap Ent.cells) (((k:Nat):Int).toNat*8) 8=r.es[k].cells:=by
   rw [Int.toNat_natCast]
   exact zb9 Ent.cells 8 zmi r.es k hk
  refine g.fn rfl rfl ?_
  rcases ho.bs k hk with hb|⟨j,hj,hb⟩
  ·rw [yja ho hk hb]
   by_cases h1:r.es[k].kn<=kn
   ·rw [decide_eq_true h1]
    cases hr:z22 r.rs r.es[k].nm kn
    all_goals
     rw [hr] at hrm
     repeat' ((conv=>whnf);first
     | refine Yz ?_
      | (rw [hwin])
      | (apply zak.of;assumption)
      | (refine Cmp.tt hb ?_)
      | (refine Ret.mk rfl))
   ·rw [decide_eq_false h1]
    repeat' ((conv=>whnf);first
    | refine Yz ?_
     | (rw [hwin])
     | (refine Ret.mk rfl))
  ·rw [yi9 ho hk hj hb]
   have hb0:r.es[k].bs≠[]:=fun e=>by rw [e,z9d ho.nm] at hb;omega
   have hrec:=ihk j hj (by omega)
   have hea:=zqi g r r.es[k].bs (by omega)
   rw [hb] at hea
   by_cases h1:r.es[k].kn<=kn
   ·rw [decide_eq_true h1]
    cases hr:z22 r.rs r.es[k].nm kn
    all_goals
     rw [hr] at hrm
     repeat' ((conv=>whnf);first
     | refine Yz ?_
      | (rw [hwin])
      | (apply zak.of;assumption)
      | (refine Cmp.ff hb0 ?_)
      | (refine Ret.mk rfl))
   ·rw [decide_eq_false h1]
    repeat' ((conv=>whnf);first
    | refine Yz ?_
     | (rw [hwin])
     | (refine Ret.mk rfl))
end
abbrev bxR (sl:Nat) (r:Rgs):Evl.Id×Ob:=(⟨0,sl,0⟩,.cells zaj [I r.kn,.d (.list r.es.length (r.es.flatMap Ent.cells)),.d (.list r.rs.length (r.rs.flatMap Rmv.cells)),.d (.list r.cs.length (r.cs.flatMap Cpl.cells))])
def yoh (r:Rgs) (e:Evt):Int:=if vlN e 0<r.kn then 19 else if 99999<vlN e 0 then 3 else z0j r e
theorem ya7 (r:Rgs) (n:Nat) (e:Evt):z5q r n e=if e.nu=n+1 then yoh r e else 11:=by
 unfold z5q ylb yoh
 by_cases h1:e.nu=n+1
 ·rw [if_pos h1,if_pos h1]
  by_cases h2:vlN e 0<r.kn
  ·rw [if_pos h2,if_pos h2,show ∀z,za1 [0,19,z]=19 from fun _=>rfl,if_pos (by decide)]
  ·rw [if_neg h2,if_neg h2]
   by_cases h3:99999<vlN e 0
   ·rw [if_pos h3,if_pos h3];rfl
   ·rw [if_neg h3,if_neg h3];rfl
 ·rw [if_neg h1,if_neg h1,show ∀y z,za1 [11,y,z]=11 from fun _ _=>rfl,if_pos (by decide)]
section
variable {E : Oracle} (g : Good E)
include g
theorem z07 (r:Rgs) (ho:OkR r) (nu:Int) (ki:List UInt8) (a s:List UInt8) (more:List (List UInt8)) (b:List UInt8) (kn f u m:Int) (tx:List UInt8) (hb:ki=zb0->more=[b]):
  Fc E zfr [Rgv r,Evv ⟨nu,ki,a::s::more,[kn,f,u,m],tx⟩] (I (zpt r (decide (ki=zb0)) a b kn f u m)):=by
 have hes:=ho.es
 have hq:=zqi g r a (by omega)
 have hqb:=zqi g r b (by omega)
 have hcn:=z44 g r ho kn
 change Fc E zfr [Rgv r,.d (.agg [DI nu,.str ki,.list (more.length+1+1) (.str a:: .str s::more.map D.str),.list 4 [DI kn,DI f,DI u,DI m],.str tx])] _
 refine g.fn rfl rfl ?_
 unfold zpt yo9
 generalize zny r.es a=i at *
 by_cases hi:0<=i
 ·rw [if_pos hi,show ∀z,za1 [9,z]=9 from fun _=>rfl,if_pos (by decide)]
  repeat' ((conv=>whnf);first
  | refine Yz ?_
   | (apply zak.of;assumption)
   | (refine Ret.mk rfl))
 ·rw [if_neg hi]
  by_cases h256:256<=r.es.length
  ·rw [if_pos h256,show za1 [0,5]=5 from rfl,if_pos (by decide)]
   repeat' ((conv=>whnf);first
   | refine Yz ?_
    | (apply zak.of;assumption)
    | (refine Ret.mk rfl))
  ·rw [if_neg h256,show za1 [0,0]=0 from rfl,if_neg (by decide)]
   by_cases hf:ki=zb0
   ·obtain rfl:=hb hf
    rw [decide_eq_true hf]
    rcases zfw r.es b with⟨h,_⟩|⟨k,hk,h,_⟩
    ·rw [zub h,if_pos ⟨rfl,by decide⟩]
     rw [h] at hqb
     repeat' ((conv=>whnf);first
     | refine Yz ?_
      | (apply zak.of;assumption)
      | (refine Cmp.tt hf ?_)
      | (refine Ret.mk rfl))
    ·have hcn:=hcn k hk
     rw [zqg hk h]
     rw [h] at hqb
     cases hc:z0y r r.es[k] kn with
     | false=>
      rw [hc] at hcn
      rw [show (if(false=true) then(0:Int) else 20)=20 from rfl,if_pos ⟨rfl,by decide⟩]
      repeat' ((conv=>whnf);first
      | refine Yz ?_
       | (apply zak.of;assumption)
       | (refine Cmp.tt hf ?_)
       | (refine Ret.mk rfl))
     | true=>
      rw [hc] at hcn
      rw [show (if(true=true) then(0:Int) else 20)=0 from rfl,if_neg (fun h=>h.2 rfl)]
      by_cases c1:99999<f
      all_goals by_cases c2:99999<u
      all_goals by_cases c3:1440<m
      all_goals by_cases c4:u<f
      all_goals
       repeat' ((conv=>whnf);first
       | refine Yz ?_
        | (apply zak.of;assumption)
        | (refine Cmp.tt hf ?_)
        | (exfalso;omega)
        | (refine Ret.mk ?_))
      all_goals simp [c1,c2,c3,c4,za1]
   ·rw [decide_eq_false hf,if_neg (fun h=>by cases h.1)]
    by_cases c1:99999<f
    all_goals by_cases c2:99999<u
    all_goals by_cases c3:1440<m
    all_goals by_cases c4:u<f
    all_goals
     repeat' ((conv=>whnf);first
     | refine Yz ?_
      | (apply zak.of;assumption)
      | (refine Cmp.ff hf ?_)
      | (exfalso;omega)
      | (refine Ret.mk ?_))
    all_goals simp [c1,c2,c3,c4,za1]
theorem yhc (r:Rgs) (ho:OkR r) (e:Evt) (hc:zhz e=0):Fc E zez [Rgv r,Evv e] (I (yoh r e)):=by
 have hes:=ho.es
 have hml:(r.es.flatMap Ent.cells).length=r.es.length*8:=zag Ent.cells 8 zmi r.es
 have hmc:(r.cs.flatMap Cpl.cells).length=r.cs.length*5:=zag Cpl.cells 5 zo9 r.cs
 have hcs:=ho.cs
 unfold yoh
 rcases znz hc with⟨nu,ki,a,s,more,kn,f,u,m,rfl,hent,hfol,hki⟩|⟨nu,a,kn,rfl⟩|⟨nu,a,en,kn,rfl⟩|⟨nu,a,kn,v,rfl⟩
 ·obtain⟨b,hb⟩:∃b,ki=zb0->more=[b]:=by
   by_cases h:ki=zb0
   ·obtain⟨b,hb⟩:=hfol h
    exact⟨b,fun _=>hb⟩
   ·exact⟨[],fun h'=>absurd h' h⟩
  have hask:z0j r ⟨nu,ki,a::s::more,[kn,f,u,m],[]⟩=zpt r (decide (ki=zb0)) a b kn f u m:=by
   rw [z0j,if_pos hent]
   by_cases h:ki=zb0
   ·rw [hb h];rfl
   ·unfold zpt
    rw [decide_eq_false h]
    simp only [Bool.false_eq_true,false_and,if_false]
    rfl
  have hq:=z07 g r ho nu ki a s more b kn f u m [] hb
  rw [<-hask] at hq
  change Fc E zez _ (I (if kn<r.kn then 19 else if 99999<kn then 3 else z0j r ⟨nu,ki,a::s::more,[kn,f,u,m],[]⟩))
  generalize z0j r ⟨nu,ki,a::s::more,[kn,f,u,m],[]⟩=o at *
  have e1:Evv ⟨nu,ki,a::s::more,[kn,f,u,m],[]⟩= .d (.agg [DI nu,.str ki,.list (more.length+1+1) (.str a:: .str s::more.map D.str),.list 4 [DI kn,DI f,DI u,DI m],.str []]):=rfl
  rw [e1] at hq ⊢
  clear hfol hask hent hb
  refine g.fn rfl rfl ?_
  by_cases c1:kn<r.kn
  ·rw [if_pos c1]
   repeat' ((conv=>whnf);first
   | refine Yz ?_
    | (refine Ret.mk rfl))
  by_cases c2:99999<kn
  ·rw [if_neg c1,if_pos c2]
   repeat' ((conv=>whnf);first
   | refine Yz ?_
    | (refine Ret.mk rfl))
  rw [if_neg c1,if_neg c2]
  rcases hki with rfl|rfl|rfl
  all_goals
   repeat' ((conv=>whnf);first
   | refine Yz ?_
    | (apply zak.of;assumption)
    | (refine Ret.mk rfl))
 ·change Fc E zez [Rgv r,.d (.agg [DI nu,.str zdf,.list 1 [.str a],.list 1 [DI kn],.str []])] (I (if kn<r.kn then 19 else if 99999<kn then 3 else z5t r a kn))
  refine g.fn rfl rfl ?_
  by_cases c1:kn<r.kn
  ·rw [if_pos c1]
   repeat' ((conv=>whnf);first
   | refine Yz ?_
    | (refine Ret.mk rfl))
  by_cases c2:99999<kn
  ·rw [if_neg c1,if_pos c2]
   repeat' ((conv=>whnf);first
   | refine Yz ?_
    | (refine Ret.mk rfl))
  rw [if_neg c1,if_neg c2]
  unfold z5t
  have hq:=zqi g r a (by omega)
  rcases zfw r.es a with⟨h,_⟩|⟨k,hk,h,hnm,_⟩
  ·rw [h] at hq
   rw [h,if_pos (by decide)]
   repeat' ((conv=>whnf);first
   | refine Yz ?_
    | (apply zak.of;assumption)
    | (refine Ret.mk rfl))
  ·have hgd:r.es.getD k yov=r.es[k]:=by simp [List.getD,hk]
   rw [h] at hq
   rw [zqg hk h,h,if_neg (by omega),Int.toNat_natCast,hgd]
   have hcn:=z44 g r ho kn k hk
   by_cases hkd:r.es[k].kd=zvu
   ·rw [if_pos hkd]
    cases hc':z0y r r.es[k] kn
    all_goals
     rw [hc'] at hcn
     repeat' ((conv=>whnf);first
     | refine Yz ?_
      | (apply zak.of;assumption)
      | (refine zfp.rec zmi k rfl hk rfl ?_)
      | (refine Cmp.ff (fun h=>h hkd) ?_)
      | (refine Ret.mk rfl))
   ·rw [if_neg hkd]
    repeat' ((conv=>whnf);first
    | refine Yz ?_
     | (apply zak.of;assumption)
     | (refine zfp.rec zmi k rfl hk rfl ?_)
     | (refine Cmp.tt hkd ?_)
     | (refine Ret.mk rfl))
 ·change Fc E zez [Rgv r,.d (.agg [DI nu,.str zcm,.list 2 [.str a,.str en],.list 1 [DI kn],.str []])] (I (if kn<r.kn then 19 else if 99999<kn then 3 else z1o r a en kn))
  refine g.fn rfl rfl ?_
  by_cases c1:kn<r.kn
  ·rw [if_pos c1]
   repeat' ((conv=>whnf);first
   | refine Yz ?_
    | (refine Ret.mk rfl))
  by_cases c2:99999<kn
  ·rw [if_neg c1,if_pos c2]
   repeat' ((conv=>whnf);first
   | refine Yz ?_
    | (refine Ret.mk rfl))
  rw [if_neg c1,if_neg c2]
  unfold z1o
  have hq:=zo0 g r a (by omega)
  have hq2:=zqi g r en (by omega)
  generalize zsk r.cs a=i at *
  by_cases hi:0<=i
  ·rw [if_pos hi]
   repeat' ((conv=>whnf);first
   | refine Yz ?_
    | (apply zak.of;assumption)
    | (refine Ret.mk rfl))
  rw [if_neg hi]
  by_cases h64:64<=r.cs.length
  ·rw [if_pos h64]
   repeat' ((conv=>whnf);first
   | refine Yz ?_
    | (apply zak.of;assumption)
    | (refine Ret.mk rfl))
  rw [if_neg h64]
  rcases zfw r.es en with⟨h,_⟩|⟨k,hk,h,_⟩
  ·rw [h] at hq2
   rw [zub h]
   repeat' ((conv=>whnf);first
   | refine Yz ?_
    | (apply zak.of;assumption)
    | (refine Ret.mk rfl))
  ·rw [h] at hq2
   rw [zqg hk h]
   have hcn:=z44 g r ho kn k hk
   cases hc':z0y r r.es[k] kn
   all_goals
    rw [hc'] at hcn
    repeat' ((conv=>whnf);first
    | refine Yz ?_
     | (apply zak.of;assumption)
     | (refine Ret.mk rfl))
 ·change Fc E zez [Rgv r,.d (.agg [DI nu,.str zej,.list 1 [.str a],.list 2 [DI kn,DI v],.str []])] (I (if kn<r.kn then 19 else if 99999<kn then 3 else zo6 r a v))
  refine g.fn rfl rfl ?_
  by_cases c1:kn<r.kn
  ·rw [if_pos c1]
   repeat' ((conv=>whnf);first
   | refine Yz ?_
    | (refine Ret.mk rfl))
  by_cases c2:99999<kn
  ·rw [if_neg c1,if_pos c2]
   repeat' ((conv=>whnf);first
   | refine Yz ?_
    | (refine Ret.mk rfl))
  rw [if_neg c1,if_neg c2]
  unfold zo6
  have hq:=zo0 g r a (by omega)
  rcases zlu r.cs a with h|⟨k,hk,h,hnm⟩
  ·rw [h] at hq
   rw [h,if_pos (by decide)]
   repeat' ((conv=>whnf);first
   | refine Yz ?_
    | (apply zak.of;assumption)
    | (refine Ret.mk rfl))
  ·have hgd:r.cs.getD k ybh=r.cs[k]:=by simp [List.getD,hk]
   rw [h] at hq
   rw [h,if_neg (by omega),Int.toNat_natCast,hgd]
   cases hcl:r.cs[k].cl
   ·by_cases hv:1<v
    ·rw [if_pos hv]
     repeat' ((conv=>whnf);first
     | refine Yz ?_
      | (apply zak.of;assumption)
      | (refine zfp.rec zo9 k rfl hk rfl ?_;rw [hcl])
      | (refine Ret.mk rfl))
    ·rw [if_neg hv]
     repeat' ((conv=>whnf);first
     | refine Yz ?_
      | (apply zak.of;assumption)
      | (refine zfp.rec zo9 k rfl hk rfl ?_;rw [hcl])
      | (refine Ret.mk rfl))
   ·repeat' ((conv=>whnf);first
   | refine Yz ?_
     | (apply zak.of;assumption)
     | (refine zfp.rec zo9 k rfl hk rfl ?_;rw [hcl])
     | (refine Ret.mk rfl))
end
theorem z00 (r:Rgs) (k:Nat) (hk:k<r.cs.length) (x:Cpl):patch (r.cs.flatMap Cpl.cells) (((k:Nat):Int).toNat*5) x.cells=(r.cs.set k x).flatMap Cpl.cells:=by
 rw [Int.toNat_natCast]
 have h2:r.cs.set k x=r.cs.take k++x::r.cs.drop (k+1):=by rw [List.set_eq_take_append_cons_drop,if_pos hk]
 rw [h2,List.flatMap_append,List.flatMap_cons]
 have h4:((r.cs.take k).flatMap Cpl.cells).length=k*5:=by
  rw [zag Cpl.cells 5 zo9,List.length_take,Nat.min_eq_left (by omega)]
 have h1:r.cs.flatMap Cpl.cells=(r.cs.take k).flatMap Cpl.cells++(r.cs[k].cells++(r.cs.drop (k+1)).flatMap Cpl.cells):=by
  rw [<-List.flatMap_cons,<-List.flatMap_append,<-List.drop_eq_getElem_cons hk,List.take_append_drop]
 have h5:=zo9 r.cs[k]
 have h6:=zo9 x
 unfold patch
 rw [h1]
 generalize (r.cs.take k).flatMap Cpl.cells=A at *
 generalize (r.cs.drop (k+1)).flatMap Cpl.cells=C at *
 generalize r.cs[k].cells=B at *
 rw [<-h4,List.take_left,List.drop_append,List.drop_of_length_le (by omega),h6,Nat.add_sub_cancel_left,List.nil_append,List.drop_append_of_le_length (by omega),List.drop_of_length_le (by omega),List.nil_append,List.append_assoc]
section
variable {E : Oracle} (g : Good E)
include g
abbrev mA (r:Rgs) (nu:Int) (a:List UInt8) (kn v:Int):Mem:=[bxR 2 r,(⟨0,3,0⟩,.cells zae [I nu,S zej,.d (.list 1 [.str a]),.d (.list 2 [DI kn,DI v]),S []]),(⟨0,4,0⟩,.row false zb8 8 0 []),(⟨0,4,1⟩,.row false zbf 2 0 []),(⟨0,4,2⟩,.row true za9 5 0 []),
 (⟨0,4,3⟩,.cells zaj [I 0,.ref ⟨0,4,0⟩ 0 0 0,.ref ⟨0,4,1⟩ 0 0 0,.ref ⟨0,4,2⟩ 0 0 0])]
theorem z0z (r:Rgs) (nu:Int) (a:List UInt8) (kn v:Int) (hl:r.cs.length<=1000000) {slot:Nat} {K:V->Mem->Prop} (hK:K (I (zsk r.cs a)) (mA r nu a kn v)):
  In E 1 zc6 [Rgv r,S a] (mA r nu a kn v) fun x m'=>zu3 ⟨0,1⟩ slot true x m' K:=by
 refine In.enter (f:=zc6) g.lim rfl rfl ?_
 have hml:(r.cs.flatMap Cpl.cells).length=r.cs.length*5:=zag Cpl.cells 5 zo9 r.cs
 repeat' ((conv=>whnf);first
 | refine Yz ?_)
 refine zam.to (zam.upP g (fun k=>[(1,S a),(2,.ptr ⟨1,2,0⟩ 0 0),(5,I k)]) (fun _=>mA r nu a kn v++[(⟨1,2,0⟩,.cells zaj [I r.kn,.d (.list r.es.length (r.es.flatMap Ent.cells)),.d (.list r.rs.length (r.rs.flatMap Rmv.cells)),.d (.list r.cs.length (r.cs.flatMap Cpl.cells))])]) (fun k=>∀j,(hj:j<k)->(hj':j<r.cs.length)->decide (r.cs[j].nm=a)=false) r.cs.length (fun k hk hp ih=> ?_) 0 (Nat.zero_le _) (fun j h _=>absurd h (Nat.not_lt_zero _))) rfl rfl
 by_cases hlt:k<r.cs.length
 ·by_cases he:r.cs[k].nm=a
  ·have hi:zsk r.cs a=k:=znm (p:=fun x:Cpl=>decide (x.nm=a)) hlt (decide_eq_true he) fun j hj=>hp j hj (by omega)
   rw [hi] at hK
   repeat' ((conv=>whnf);first
   | refine Yz ?_
    | (refine zfp.rec zo9 k rfl hlt rfl ?_)
    | (refine Cmp.tt he ?_)
    | (exact hK))
  ·have ih:=ih hlt fun j hj hj'=>by
    by_cases e:j=k
    ·subst e;exact decide_eq_false he
    ·exact hp j (by omega) hj'
   repeat' ((conv=>whnf);first
   | refine Yz ?_
    | (refine zfp.rec zo9 k rfl hlt rfl ?_)
    | (refine Cmp.ff he ?_)
    | (refine zam.to ih rfl rfl))
 ·obtain rfl:k=r.cs.length:=by omega
  have hi:zsk r.cs a= -1:=zkm (p:=fun x:Cpl=>decide (x.nm=a)) fun j hj=>hp j hj hj
  rw [hi] at hK
  repeat' ((conv=>whnf);first
  | refine Yz ?_
   | (exact hK))
theorem ynp (r:Rgs) (ho:OkR r) (e:Evt) (hc:zhz e=0) (hask:z0j r e=0) (hrs:r.rs.length<1000):Fc E zfj [Rgv r,Evv e] (Rgv (zpf r e)):=by
 have hes:=ho.es
 have hcs:=ho.cs
 have hml:(r.es.flatMap Ent.cells).length=r.es.length*8:=zag Ent.cells 8 zmi r.es
 have hmr:(r.rs.flatMap Rmv.cells).length=r.rs.length*2:=zag Rmv.cells 2 yhm r.rs
 have hmc:(r.cs.flatMap Cpl.cells).length=r.cs.length*5:=zag Cpl.cells 5 zo9 r.cs
 rcases znz hc with⟨nu,ki,a,s,more,kn,f,u,m,rfl,hent,hfol,hki⟩|⟨nu,a,kn,rfl⟩|⟨nu,a,en,kn,rfl⟩|⟨nu,a,kn,v,rfl⟩
 ·clear hask hc
  by_cases hf:ki=zb0
  ·obtain⟨b,rfl⟩:=hfol hf
   subst hf
   have haft:zpf r ⟨nu,zb0,[a,s,b],[kn,f,u,m],[]⟩=⟨kn,r.es++[⟨a,zb0,s,b,kn,f,u,m⟩],r.rs,r.cs⟩:=rfl
   rw [haft]
   change Fc E zfj [Rgv r,.d (.agg [DI nu,.str zb0,.list 3 [.str a,.str s,.str b],.list 4 [DI kn,DI f,DI u,DI m],.str []])] _
   refine g.fn rfl rfl ?_
   repeat' ((conv=>whnf);first
   | refine Yz ?_
    | (refine zcp.mk ⟨rfl,rfl,rfl,rfl,rfl,hml,by dsimp only;omega,by first |omega|(dsimp only;omega)⟩ ?_)
    | (refine zcp.mk ⟨rfl,rfl,rfl,rfl,rfl,rfl,by dsimp only;omega,by first |omega|(dsimp only;omega)⟩ ?_)
    | (refine zcp.mk ⟨rfl,by omega⟩ ?_)
    | (refine zcp.mk ⟨rfl,by decide⟩ ?_)
    | (refine Ret.mk ?_))
   all_goals simp [Ent.cells]
  ·have haft:zpf r ⟨nu,ki,a::s::more,[kn,f,u,m],[]⟩=⟨kn,r.es++[⟨a,ki,s,[],kn,f,u,m⟩],r.rs,r.cs⟩:=by
    rw [zpf,if_pos hent,z6k,if_neg hf]
    rfl
   rw [haft]
   change Fc E zfj [Rgv r,.d (.agg [DI nu,.str ki,.list (more.length+1+1) (.str a:: .str s::more.map D.str),.list 4 [DI kn,DI f,DI u,DI m],.str []])] _
   refine g.fn rfl rfl ?_
   rcases hki with rfl|rfl|rfl
   ·repeat' ((conv=>whnf);first
   | refine Yz ?_
     | (refine zcp.mk ⟨rfl,rfl,rfl,rfl,rfl,hml,by dsimp only;omega,by first |omega|(dsimp only;omega)⟩ ?_)
     | (refine zcp.mk ⟨rfl,rfl,rfl,rfl,rfl,rfl,by dsimp only;omega,by first |omega|(dsimp only;omega)⟩ ?_)
     | (refine zcp.mk ⟨rfl,by omega⟩ ?_)
     | (refine zcp.mk ⟨rfl,by decide⟩ ?_)
     | (refine Ret.mk ?_))
    all_goals simp [Ent.cells]
   ·repeat' ((conv=>whnf);first
   | refine Yz ?_
     | (refine zcp.mk ⟨rfl,rfl,rfl,rfl,rfl,hml,by dsimp only;omega,by first |omega|(dsimp only;omega)⟩ ?_)
     | (refine zcp.mk ⟨rfl,rfl,rfl,rfl,rfl,rfl,by dsimp only;omega,by first |omega|(dsimp only;omega)⟩ ?_)
     | (refine zcp.mk ⟨rfl,by omega⟩ ?_)
     | (refine zcp.mk ⟨rfl,by decide⟩ ?_)
     | (refine Ret.mk ?_))
    all_goals simp [Ent.cells]
   ·exact absurd rfl hf
 ·have haft:zpf r ⟨nu,zdf,[a],[kn],[]⟩=⟨kn,r.es,r.rs++[⟨a,kn⟩],r.cs⟩:=rfl
  rw [haft]
  change Fc E zfj [Rgv r,.d (.agg [DI nu,.str zdf,.list 1 [.str a],.list 1 [DI kn],.str []])] _
  refine g.fn rfl rfl ?_
  repeat' ((conv=>whnf);first
  | refine Yz ?_
   | (refine zcp.mk ⟨rfl,rfl,rfl,rfl,rfl,hmr,by dsimp only;omega,by first |omega|(dsimp only;omega)⟩ ?_)
   | (refine zcp.mk ⟨rfl,rfl,rfl,rfl,rfl,rfl,by dsimp only;omega,by first |omega|(dsimp only;omega)⟩ ?_)
   | (refine zcp.mk ⟨rfl,by omega⟩ ?_)
   | (refine zcp.mk ⟨rfl,by decide⟩ ?_)
   | (refine Ret.mk ?_))
  all_goals simp [Rmv.cells]
 ·have haft:zpf r ⟨nu,zcm,[a,en],[kn],[]⟩=⟨kn,r.es,r.rs,r.cs++[⟨a,en,kn,false,false⟩]⟩:=rfl
  rw [haft]
  change Fc E zfj [Rgv r,.d (.agg [DI nu,.str zcm,.list 2 [.str a,.str en],.list 1 [DI kn],.str []])] _
  refine g.fn rfl rfl ?_
  repeat' ((conv=>whnf);first
  | refine Yz ?_
   | (refine zcp.mk ⟨rfl,rfl,rfl,rfl,rfl,hmc,by dsimp only;omega,by first |omega|(dsimp only;omega)⟩ ?_)
   | (refine zcp.mk ⟨rfl,rfl,rfl,rfl,rfl,rfl,by dsimp only;omega,by first |omega|(dsimp only;omega)⟩ ?_)
   | (refine zcp.mk ⟨rfl,by omega⟩ ?_)
   | (refine zcp.mk ⟨rfl,by decide⟩ ?_)
   | (refine Ret.mk ?_))
  all_goals simp [Cpl.cells]
 ·change zo6 r a v=0 at hask
  rcases zlu r.cs a with h|⟨k,hk,h,hnm⟩
  ·rw [zo6,h,if_pos (by decide)] at hask
   omega
  have hq:=zo0 g r a (by omega)
  rw [h] at hq
  have hgd:r.cs.getD k ybh=r.cs[k]:=by simp [List.getD,hk]
  have haft:zpf r ⟨nu,zej,[a],[kn,v],[]⟩=⟨kn,r.es,if v=1 then r.rs++[⟨r.cs[k].en,kn⟩] else r.rs,r.cs.set k {r.cs[k] with cl:=true,up:=decide (v=1)}⟩:=by
   change (Rgs.mk kn r.es (if v=1 then r.rs++[⟨(r.cs.getD (zsk r.cs a).toNat ybh).en,kn⟩] else r.rs) (r.cs.set (zsk r.cs a).toNat {r.cs.getD (zsk r.cs a).toNat ybh with cl:=true,up:=decide (v=1)}))=_
   rw [h,Int.toNat_natCast,hgd]
  rw [haft]
  change Fc E zfj [Rgv r,.d (.agg [DI nu,.str zej,.list 1 [.str a],.list 2 [DI kn,DI v],.str []])] _
  have hcl:∀x:Cpl,patch ([]++r.cs.flatMap Cpl.cells) ((0+((k:Nat):Int).toNat)*5) x.cells=(r.cs.set k x).flatMap Cpl.cells:=fun x=>by
   rw [Nat.zero_add,List.nil_append];exact z00 r k hk x
  have hl5:∀x:Cpl,(r.cs.set k x).length=r.cs.length:=fun x=>List.length_set
  have hin:=@z0z E g ⟨kn,r.es,r.rs,r.cs⟩ nu a kn v (by dsimp only;omega) 109
  rw [show zsk (Rgs.mk kn r.es r.rs r.cs).cs a=k from h] at hin
  dsimp only [mA,bxR] at hin
  have hwin:win (r.cs.flatMap Cpl.cells) (((k:Nat):Int).toNat*5) 5=r.cs[k].cells:=by
   rw [Int.toNat_natCast]
   exact zb9 Cpl.cells 5 zo9 r.cs k hk
  generalize hx:r.cs[k]=x at *
  by_cases hv:v=1
  ·rw [if_pos hv,decide_eq_true hv]
   have hcx:=hcl {x with cl:=true,up:=true}
   refine g.fn rfl rfl ?_
   repeat' ((conv=>whnf);first
   | refine Yz ?_
    | (refine hin ?_)
    | (rw [hwin])
    | (refine zcp.mk ⟨rfl,rfl,rfl,rfl,rfl,hmc,by dsimp only;omega,by first |omega|(dsimp only;omega)⟩ ?_)
    | (refine zcp.mk ⟨rfl,rfl,rfl,rfl,rfl,hmr,by dsimp only;omega,by first |omega|(dsimp only;omega)⟩ ?_)
    | (refine zcp.mk ⟨rfl,rfl,rfl,rfl,rfl,rfl,by dsimp only;omega,by first |omega|(dsimp only;omega)⟩ ?_)
    | (refine zcp.mk ⟨rfl,by omega⟩ ?_)
    | (refine zcp.mk ⟨rfl,by decide⟩ ?_)
    | (refine zcp.mk ⟨rfl,by rw [List.nil_append];omega,rfl⟩ ?_)
    | (refine Cmp.tt hv ?_)
    | (refine Ret.mk ?_))
   change patch _ _ [D.str x.nm,D.str x.en,DI x.kn,D.bool true,D.bool true]=_ at hcx
   rw [if_pos ⟨rfl,rfl⟩,if_pos ⟨rfl,rfl⟩,hcx]
   simp [Rmv.cells]
  ·rw [if_neg hv,decide_eq_false hv]
   have hcx:=hcl {x with cl:=true,up:=false}
   refine g.fn rfl rfl ?_
   repeat' ((conv=>whnf);first
   | refine Yz ?_
    | (refine hin ?_)
    | (rw [hwin])
    | (refine zcp.mk ⟨rfl,rfl,rfl,rfl,rfl,hmc,by dsimp only;omega,by first |omega|(dsimp only;omega)⟩ ?_)
    | (refine zcp.mk ⟨rfl,by omega⟩ ?_)
    | (refine zcp.mk ⟨rfl,by decide⟩ ?_)
    | (refine zcp.mk ⟨rfl,by rw [List.nil_append];omega,rfl⟩ ?_)
    | (refine Cmp.ff hv ?_)
    | (refine Ret.mk ?_))
   change patch _ _ [D.str x.nm,D.str x.en,DI x.kn,D.bool true,D.bool false]=_ at hcx
   rw [if_pos ⟨rfl,rfl⟩,hcx]
   simp
theorem yj9 (l:List Evt) (hl:l.length<=1000) (hb:∀e∈l,e.ns.length<=1000000/\e.vs.length<=1000000):
  Fc E zj8 [LE l] (.tup [Rgv (rgL l),I (zfd rg0 0 l).2.1,I (erL l)]):=by
 refine g.fn rfl rfl ?_
 have hml:(l.flatMap Evt.cells).length=l.length*5:=zag Evt.cells 5 evw l
 unfold rgL erL
 generalize hR:zfd rg0 0 l=R
 repeat' ((conv=>whnf);first
 | refine Yz ?_)
 refine zam.to (zam.by (σ:=Nat×Rgs) g (fun u=>u.1<=l.length/\OkR u.2/\u.2.rs.length<=u.1/\zfd u.2 u.1 (l.drop u.1)=R)
  (fun u=>[(0,LE l),(2,.ptr ⟨0,2,0⟩ 0 0),(5,.ptr ⟨0,5,0⟩ 0 0),(6,I u.1)]) (fun u=>[(⟨0,2,0⟩,.cells zaj [I 0,.d (.list 0 []),.d (.list 0 []),.d (.list 0 [])]),bxR 5 u.2]) (fun u=>l.length-u.1) ?_ (0,rg0) ⟨Nat.zero_le _,ygz,Nat.le_refl _,hR⟩) rfl rfl
 clear hR
 rintro⟨k,r⟩ ⟨h2,ho,h3,hR⟩ ih
 dsimp only at h2 ho h3 hR ih ⊢
 by_cases hlt:k<l.length
 ·rw [ycz hlt] at hR
  have hwin:win (l.flatMap Evt.cells) (((k:Nat):Int).toNat*5) 5=l[k].cells:=by
   rw [Int.toNat_natCast]
   exact zb9 Evt.cells 5 evw l k hlt
  obtain⟨hb1,hb2⟩:=hb _ (List.getElem_mem hlt)
  have ih:=fun hz:zh8 r k l[k]=0=>ih (k+1,zpf r l[k]) ⟨by dsimp only;omega,ygy ho hz (by omega),by
   have:=ya8 r l[k]
   dsimp only
   omega,by
   rw [if_neg (fun h=>h hz)] at hR
   exact hR⟩ (by dsimp only;omega)
  have hnu:zfp (l.flatMap Evt.cells) (((k:Nat):Int).toNat*5+0)=fun K=>zfp (l.flatMap Evt.cells) (((k:Nat):Int).toNat*5+0) K:=rfl
  have hpk:∀ {K:D->Prop},K (DI l[k].nu)->zfp (l.flatMap Evt.cells) (((k:Nat):Int).toNat*5+0) K:=fun h=>zfp.rec evw k rfl hlt rfl h
  clear hnu
  generalize l[k]=e at *
  have hce:=z7l g e hb1 hb2
  have haft:=ynp g r ho e
  by_cases hc:zhz e=0
  ·rw [hc] at hce
   have hrf:=yhc g r ho e hc
   have hst:zh8 r k e=z5q r k e:=by rw [zh8,if_neg (fun h=>h hc)]
   rw [ya7] at hst
   by_cases hn:e.nu=k+1
   ·rw [if_pos hn] at hst
    by_cases ha:yoh r e=0
    ·rw [ha] at hrf hst
     have haft:=haft hc (z1k (n:=k) (by rw [ya7,if_pos hn];exact ha)).2.2.2 (by omega)
     have ih:=ih hst
     dsimp only [bxR] at ih
     repeat' ((conv=>whnf);first
     | refine Yz ?_
      | (rw [hwin])
      | (apply zak.of;assumption)
      | (refine hpk ?_)
      | (refine Cmp.ff (fun h=>h hn) ?_)
      | (refine zam.to ih rfl rfl))
    ·rw [hst,if_pos ha] at hR
     generalize yoh r e=x at *
     subst hR
     repeat' ((conv=>whnf);first
     | refine Yz ?_
      | (rw [hwin])
      | (apply zak.of;assumption)
      | (refine hpk ?_)
      | (refine Cmp.ff (fun h=>h hn) ?_)
      | (refine Cmp.ff ha ?_)
      | (refine Cmp.tt ha ?_)
      | (refine Ret.mk rfl))
   ·rw [if_neg hn] at hst
    rw [hst,if_pos (by decide)] at hR
    subst hR
    repeat' ((conv=>whnf);first
    | refine Yz ?_
     | (rw [hwin])
     | (apply zak.of;assumption)
     | (refine hpk ?_)
     | (refine Cmp.tt hn ?_)
     | (refine Ret.mk rfl))
  ·have hst:zh8 r k e=zhz e:=by rw [zh8,if_pos hc]
   rw [hst,if_pos hc] at hR
   generalize zhz e=x at *
   subst hR
   repeat' ((conv=>whnf);first
   | refine Yz ?_
    | (rw [hwin])
    | (apply zak.of;assumption)
    | (refine Cmp.ff hc ?_)
    | (refine Ret.mk rfl))
 ·rw [List.drop_of_length_le (by omega)] at hR
  subst hR
  repeat' ((conv=>whnf);first
  | refine Yz ?_
   | (refine Ret.mk rfl))
end
theorem ygh {r:Rgs} (ho:OkR r) (s:List UInt8) (kn d:Int):0<=z67 r s kn d/\z67 r s kn d<=1440:=by
 unfold z67
 have key:∀(l:List Ent) (a:Int),(∀x∈l,0<=x.mi/\x.mi<=1440)->0<=a/\a<=1440->0<=l.foldl (fun o x=>if yjm r s kn d x then x.mi else o) a/\l.foldl (fun o x=>if yjm r s kn d x then x.mi else o) a<=1440:=by
  intro l
  induction l with
  | nil=>intro a _ h;exact h
  | cons x l ih=>
   intro a h1 h2
   rw [List.foldl_cons]
   refine ih _ (fun y hy=>h1 y (by simp [hy])) ?_
   split
   ·exact h1 x (by simp)
   ·exact h2
 exact key r.es 1440 ho.mi ⟨by decide,by decide⟩
def yf5:List UInt8:=[115,108,111,116]
def z8v:List UInt8:=[100,97,121]
def zgv:List UInt8:=[99,111,117,110,116,115]
def z6y:List UInt8:=[114,101,115,116,115]
def zze:List UInt8:=[111,112,101,110]
def z3j (r:Rgs) (s:List UInt8) (k d:Int):List (List UInt8)×Int:=
 if za1 [if !zck s then 8 else 0,rng k 0 99999,rng d 0 99999]≠0 then([],za1 [if !zck s then 8 else 0,rng k 0 99999,rng d 0 99999])
 else if z67 r s k d≠1440 then([zaw 20 (z67 r s k d).toNat],0) else([],0)
def z1m (r:Rgs) (k:Int):List (List UInt8)×Int:=if rng k 0 99999≠0 then([],rng k 0 99999) else(ylf r k,0)
def ybb (r:Rgs) (s:List UInt8):List (List UInt8)×Int:=
 if(if !zck s then(8:Int) else 0)≠0 then([],if !zck s then 8 else 0) else if zny r.es s<0 then([],10) else(yoi r s,0)
abbrev yoa (a:List (List UInt8)×Int):V:= .tup [Ws a.1,I a.2]
section
variable {E : Oracle} (g : Good E)
include g
theorem ysb (ev:List Evt) (r:Rgs) (ho:OkR r) (a s b c:List UInt8) (k d:Int):Ui E zbw [.ptr ⟨0,0,0⟩ 1 0,Ws [a,s,b,c],LI [k,d]] (mR zaa ev r) (yoa (z3j r s k d)) (mR zaa ev r):=by
 refine⟨?_⟩
 have h1:=z5a g s
 have h2:=z7x g k
 have h3:=z7x g d
 have h4:=zj9 g (if !zck s then 8 else 0) (rng k 0 99999) (rng d 0 99999)
 have hq:=yct g zaa ev r ho s k d
 have hm:=ygh ho s k d
 unfold z3j
 generalize (if !zck s then(8:Int) else 0)=x at *
 generalize rng k 0 99999=y at *
 generalize rng d 0 99999=z at *
 generalize za1 [x,y,z]=e at *
 generalize z67 r s k d=mi at *
 have hi:=z23 g mi (by omega)
 change In E 1 zbw [.ptr ⟨0,0,0⟩ 1 0,.d (.list 4 [.str a,.str s,.str b,.str c]),.d (.list 2 [DI k,DI d])] _ _
 refine In.enter (f:=zbw) g.lim rfl rfl ?_
 by_cases he:e=0
 ·subst he
  by_cases h0:mi=1440
  ·subst h0
   repeat' ((conv=>whnf);first
   | refine Yz ?_
    | (apply zak.of;assumption)
    | (refine zjh.of (r':=I 1440) isR rfl rfl rfl rfl hq rfl rfl rfl ?_)
    | (refine Cmp.ff (fun h=>h rfl) ?_)
    | (exact⟨rfl,rfl,rfl,rfl,rfl,rfl,trivial⟩))
  ·rw [if_neg (fun h=>h rfl),if_pos h0]
   repeat' ((conv=>whnf);first
   | refine Yz ?_
    | (apply zak.of;assumption)
    | (refine zjh.of (r':=I mi) isR rfl rfl rfl rfl hq rfl rfl rfl ?_)
    | (refine Cmp.tt h0 ?_)
    | (refine Cmp.ff (fun h=>h rfl) ?_)
    | (exact⟨rfl,rfl,rfl,rfl,rfl,rfl,trivial⟩))
 ·rw [if_pos he]
  repeat' ((conv=>whnf);first
  | refine Yz ?_
   | (apply zak.of;assumption)
   | (refine Cmp.tt he ?_)
   | (exact⟨rfl,rfl,rfl,rfl,rfl,rfl,trivial⟩))
theorem ysd (ev:List Evt) (r:Rgs) (ho:OkR r) (w:List (List UInt8)) (k:Int):Ui E zby [.ptr ⟨0,0,0⟩ 1 0,Ws w,LI [k]] (mR zaa ev r) (yoa (z1m r k)) (mR zaa ev r):=by
 refine⟨?_⟩
 have h2:=z7x g k
 have hu:=yeo g ev r ho k
 unfold z1m
 generalize rng k 0 99999=y at *
 change In E 1 zby [.ptr ⟨0,0,0⟩ 1 0,Ws w,.d (.list 1 [DI k])] _ _
 refine In.enter (f:=zby) g.lim rfl rfl ?_
 by_cases he:y=0
 ·subst he
  repeat' ((conv=>whnf);first
  | refine Yz ?_
   | (apply zak.of;assumption)
   | (refine zog.ofI (r':=Ws (ylf r k)) isR rfl rfl rfl rfl hu rfl rfl rfl rfl ?_)
   | (refine Cmp.ff (fun h=>h rfl) ?_)
   | (exact⟨rfl,rfl,rfl,rfl,rfl,rfl,trivial⟩))
 ·rw [if_pos he]
  repeat' ((conv=>whnf);first
  | refine Yz ?_
   | (apply zak.of;assumption)
   | (refine Cmp.tt he ?_)
   | (exact⟨rfl,rfl,rfl,rfl,rfl,rfl,trivial⟩))
theorem yse (ev:List Evt) (r:Rgs) (ho:OkR r) (a s:List UInt8):Ui E zbz [.ptr ⟨0,0,0⟩ 1 0,Ws [a,s],LI []] (mR zaa ev r) (yoa (ybb r s)) (mR zaa ev r):=by
 refine⟨?_⟩
 have h1:=z5a g s
 have hu:=yij g ev r ho s
 unfold ybb
 generalize (if !zck s then(8:Int) else 0)=y at *
 change In E 1 zbz [.ptr ⟨0,0,0⟩ 1 0,.d (.list 2 [.str a,.str s]),LI []] _ _
 refine In.enter (f:=zbz) g.lim rfl rfl ?_
 by_cases he:y=0
 ·subst he
  rw [if_neg (fun h=>h rfl)]
  by_cases hi:zny r.es s<0
  ·rw [if_pos hi,if_pos hi] at hu
   rw [if_pos hi]
   repeat' ((conv=>whnf);first
   | refine Yz ?_
    | (apply zak.of;assumption)
    | (refine zog.ofI (r':= .tup [Ws [],I 10]) isR rfl rfl rfl rfl hu rfl rfl rfl rfl ?_)
    | (refine Cmp.ff (fun h=>h rfl) ?_)
    | (exact⟨rfl,rfl,rfl,rfl,rfl,rfl,trivial⟩))
  ·rw [if_neg hi,if_neg hi] at hu
   rw [if_neg hi]
   repeat' ((conv=>whnf);first
   | refine Yz ?_
    | (apply zak.of;assumption)
    | (refine zog.ofI (r':= .tup [Ws (yoi r s),I 0]) isR rfl rfl rfl rfl hu rfl rfl rfl rfl ?_)
    | (refine Cmp.ff (fun h=>h rfl) ?_)
    | (exact⟨rfl,rfl,rfl,rfl,rfl,rfl,trivial⟩))
 ·rw [if_pos he]
  repeat' ((conv=>whnf);first
  | refine Yz ?_
   | (apply zak.of;assumption)
   | (refine Cmp.tt he ?_)
   | (exact⟨rfl,rfl,rfl,rfl,rfl,rfl,trivial⟩))
end
section
variable {E : Oracle} (g : Good E)
include g
theorem yno (l:List (List UInt8)) (hl:l.length<=1000000):Fc E zcv [Ws l,Ws l] (B true):=by
 refine g.fn rfl rfl ?_
 repeat' ((conv=>whnf);first
 | refine Yz ?_)
 refine zam.to (zam.up g (fun k=>[(0,Ws l),(1,Ws l),(5,I k)]) (fun _=>[]) l.length (fun k hk ih=> ?_) 0 (Nat.zero_le _)) rfl rfl
 by_cases hlt:k<l.length
 ·have ih:=ih hlt
  repeat' ((conv=>whnf);first
  | refine Yz ?_
   | (refine zfp.ws k rfl hlt ?_)
   | (refine Cmp.tt rfl ?_)
   | (refine zam.to ih rfl rfl))
 ·repeat' ((conv=>whnf);first
 | refine Yz ?_
   | (refine Ret.mk rfl))
theorem ynn (l:List Int) (hl:l.length<=1000000):Fc E zd9 [LI l,LI l] (B true):=by
 refine g.fn rfl rfl ?_
 repeat' ((conv=>whnf);first
 | refine Yz ?_)
 refine zam.to (zam.up g (fun k=>[(0,LI l),(1,LI l),(5,I k)]) (fun _=>[]) l.length (fun k hk ih=> ?_) 0 (Nat.zero_le _)) rfl rfl
 by_cases hlt:k<l.length
 ·have ih:=ih hlt
  repeat' ((conv=>whnf);first
  | refine Yz ?_
   | (refine zfp.iw k rfl hlt ?_)
   | (refine zam.to ih rfl rfl))
 ·repeat' ((conv=>whnf);first
 | refine Yz ?_
   | (refine Ret.mk rfl))
theorem ynm (l:List Evt) (hl:l.length<=1000000) (h:∀e∈l,e.ns.length<=1000000/\e.vs.length<=1000000):Fc E zg2 [LE l,LE l] (B true):=by
 refine g.fn rfl rfl ?_
 repeat' ((conv=>whnf);first
 | refine Yz ?_)
 refine zam.to (zam.up g (fun k=>[(0,LE l),(1,LE l),(5,I k)]) (fun _=>[]) l.length (fun k hk ih=> ?_) 0 (Nat.zero_le _)) rfl rfl
 by_cases hlt:k<l.length
 ·have ih:=ih hlt
  obtain⟨b1,b2⟩:=h _ (List.getElem_mem hlt)
  have hw:=yno g l[k].ns b1
  have hi:=ynn g l[k].vs b2
  repeat' ((conv=>whnf);first
  | refine Yz ?_
   | (refine zfp.rec evw k rfl hlt rfl ?_)
   | (refine Cmp.tt rfl ?_)
   | (apply zak.of;assumption)
   | (refine zam.to ih rfl rfl))
 ·repeat' ((conv=>whnf);first
 | refine Yz ?_
   | (refine Ret.mk rfl))
end
def i64 (n:Int):Prop:= -9223372036854775808<=n/\n<=9223372036854775807
theorem yp1 {n:Int} (h:(Lit.int .i64 n).wf=true):i64 n:=by
 simp only [Lit.wf,Bool.and_eq_true,decide_eq_true_eq] at h
 exact h
section
variable {P : Program} {n : Nat} {t : Nat} {ds : List D} {x : D}
theorem yjj {k:IntKind} (ht:P.underlying t=some (.int k)) (h:fit P (n+1) t ds):∃i,ds=[.int k i]/\(Lit.int k i).wf=true:=by
 simp only [fit,ht] at h;exact h
theorem ymt (ht:P.underlying t=some .string) (h:fit P (n+1) t ds):∃s,ds=[.str s]/\s.length<=maxLen:=by
 simp only [fit,ht] at h;exact h
theorem yms {e:Nat} (ht:P.underlying t=some (.slice e)) (h:fit P (n+1) t ds):∃m cs,ds=[.list m cs]/\m<=maxLen/\zlb (fit P n) (List.replicate m e) cs:=by
 simp only [fit,ht] at h;exact h
theorem yox {fs:Array Field} (ht:P.underlying t=some (.struct fs)) (h:fit P (n+1) t ds):zlb (fit P n) (fs.toList.map (·.type)) ds:=by
 simp only [fit,ht] at h;exact h
theorem yow {m e:Nat} (ht:P.underlying t=some (.array m e)) (h:fit P (n+1) t ds):zlb (fit P n) (List.replicate m e) ds:=by
 simp only [fit,ht] at h;exact h
theorem yqj {e:Nat} (ht:P.underlying t=some (.slice e)) (h:zp7 P t x):∃m cs,x= .list m cs/\m<=maxLen/\zlb (fit P 7) (List.replicate m e) cs:=by
 simp only [zp7,ht] at h
 obtain⟨m,cs,e,h1,h2⟩:=yms (n:=7) ht h
 exact⟨m,cs,by simpa using e,h1,h2⟩
theorem yop {m e:Nat} (ht:P.underlying t=some (.array m e)) (h:zp7 P t x):∃ds,x= .agg ds/\zlb (fit P 7) (List.replicate m e) ds:=by
 simp only [zp7,ht] at h
 obtain⟨ds,rfl,h⟩:=h
 exact⟨ds,rfl,yow ht h⟩
end
theorem yfq {k:Nat} {ds:List D} (h:fit Tryz.prog (k+1) 3 ds):∃n,ds=[DI n]/\i64 n:=by
 obtain⟨n,rfl,hw⟩:=yjj Tryz.underlying3 h
 exact⟨n,rfl,yp1 hw⟩
theorem ybr {k:Nat}:∀(m:Nat) {ds:List D},zlb (fit Tryz.prog (k+1)) (List.replicate m 3) ds->∃l:List Int,ds=l.map DI/\l.length=m/\∀n∈l,i64 n
 | 0,ds,h=>⟨[],h,rfl,by simp⟩
 | m+1,ds,h=>by
  obtain⟨a,b,rfl,h1,h2⟩:=h
  obtain⟨n,rfl,hn⟩:=yfq h1
  obtain⟨l,rfl,h3,h4⟩:=ybr m h2
  exact⟨n::l,rfl,by simp [h3],by simpa using ⟨hn,h4⟩⟩
theorem yqk {P:Program} {t u:Nat} {xs:List D} (h:z4b P [t,u] xs):∃x y,xs=[x,y]/\zp7 P t x/\zp7 P u y:=by
 obtain⟨x,_,rfl,h1,y,_,rfl,h2,rfl⟩:=h
 exact⟨x,y,rfl,h1,h2⟩
structure yol (e:Evt):Prop where
 ns:e.ns.length<=9223372036854775807
 vs:e.vs.length<=9223372036854775807
 nu:i64 e.nu
 ki:e.ki.length<=9223372036854775807
 tx:e.tx.length<=9223372036854775807
 na:∀x∈e.ns,x.length<=9223372036854775807
theorem ybs {k:Nat}:∀(m:Nat) {ds:List D},zlb (fit Tryz.prog (k+1)) (List.replicate m 9) ds->∃l:List (List UInt8),ds=l.map D.str/\l.length=m/\∀x∈l,x.length<=9223372036854775807
 | 0,ds,h=>⟨[],h,rfl,fun _ h=>by cases h⟩
 | m+1,ds,h=>by
  obtain⟨a,b,rfl,h1,h2⟩:=h
  obtain⟨s,rfl,hs⟩:=ymt Tryz.underlying9 h1
  obtain⟨l,rfl,h3,h4⟩:=ybs m h2
  refine⟨s::l,rfl,by simp [h3],fun x hx=> ?_⟩
  rcases List.mem_cons.1 hx with rfl|hx
  ·exact Nat.le_trans hs (by decide)
  ·exact h4 x hx
theorem z4c {k:Nat} {ds:List D} (h:zlb (fit Tryz.prog (k+2)) [3,9,22,50,9] ds):∃e:Evt,ds=e.cells/\yol e:=by
 obtain⟨_,_,rfl,h1,_,_,rfl,h2,_,_,rfl,h3,_,_,rfl,h4,_,_,rfl,h5,rfl⟩:=h
 obtain⟨n,rfl,hn⟩:=yfq h1
 obtain⟨s1,rfl,a1⟩:=ymt Tryz.underlying9 h2
 obtain⟨m,cs,rfl,a2,h6⟩:=yms Tryz.underlying22 h3
 obtain⟨q,es,rfl,a3,h7⟩:=yms Tryz.underlying50 h4
 obtain⟨s2,rfl,a4⟩:=ymt Tryz.underlying9 h5
 obtain⟨l,rfl,rfl,b1⟩:=ybs m h6
 obtain⟨v,rfl,rfl,b2⟩:=ybr q h7
 exact⟨⟨n,s1,l,v,s2⟩,rfl,Nat.le_trans a2 (by decide),Nat.le_trans a3 (by decide),hn,Nat.le_trans a1 (by decide),Nat.le_trans a4 (by decide),b1⟩
theorem yfp {k:Nat} {ds:List D} (h:fit Tryz.prog (k+3) 52 ds):∃e:Evt,ds=e.cells/\yol e:=z4c (yox Tryz.underlying52 h)
theorem z12 {k:Nat}:∀(m:Nat) {ds:List D},zlb (fit Tryz.prog (k+3)) (List.replicate m 52) ds->∃l:List Evt,ds=l.flatMap Evt.cells/\l.length=m/\∀e∈l,yol e
 | 0,ds,h=>⟨[],h,rfl,fun _ h=>by cases h⟩
 | m+1,ds,h=>by
  obtain⟨a,b,rfl,h1,h2⟩:=h
  obtain⟨x,rfl,b1⟩:=yfp h1
  obtain⟨l,rfl,h3,b2⟩:=z12 m h2
  refine⟨x::l,rfl,by simp [h3],fun e he=> ?_⟩
  rcases List.mem_cons.1 he with rfl|he
  ·exact b1
  ·exact b2 e he
theorem ydn {x:D} (h:zp7 Tryz.prog 24 x):∃l:List Evt,x= .list l.length (l.flatMap Evt.cells)/\l.length<=9223372036854775807/\∀e∈l,yol e:=by
 obtain⟨m,cs,rfl,a,h'⟩:=yqj Tryz.underlying24 h
 obtain⟨l,rfl,rfl,b⟩:=z12 m h'
 exact⟨l,rfl,Nat.le_trans a (by decide),b⟩
theorem ykp {l:List Evt} {n:Int} (h:(decide ((l.length:Int)<=n)&&l.all zpc)=true):(l.length:Int)<=n/\∀e∈l,e.ns.length<=6/\e.vs.length<=8:=by
 rw [Bool.and_eq_true,decide_eq_true_eq,List.all_eq_true] at h
 refine⟨h.1,fun e he=> ?_⟩
 have:=h.2 e he
 simp only [zpc,Bool.and_eq_true,decide_eq_true_eq] at this
 exact⟨this.1.1.1.2,this.1.1.2⟩
theorem yc9 {r:Rgs} (ho:OkR r) (kn d:Int):(yeb r kn d).length<=256:=by
 unfold yeb yl1
 rw [List.length_map]
 refine Nat.le_trans (List.length_filter_le _ _) ?_
 rw [(zhs _).length_eq]
 exact Nat.le_trans (yh8 r.es) ho.es
def okT:yp7->List yp7->Prop
 | _,[]=>True
 | b,t::ts=>b.kn<t.kn/\t.kn<=99999/\t.mi≠b.mi/\okT t ts
structure Lat (r r':Rgs) (F:Int):Prop where
 es:∃more,r'.es=r.es++more/\∀x∈more,F<x.kn
 rm:∀nm,z22 r'.rs nm F=z22 r.rs nm F
theorem Lat.refl (r:Rgs) (F:Int):Lat r r F:=⟨⟨[],by simp,by simp⟩,fun _=>rfl⟩
theorem Lat.trans {a b c:Rgs} {F:Int} (h:Lat a b F) (k:Lat b c F):Lat a c F:=by
 obtain⟨⟨m1,e1,h1⟩,r1⟩:=h
 obtain⟨⟨m2,e2,h2⟩,r2⟩:=k
 refine⟨⟨m1++m2,by rw [e2,e1,List.append_assoc],fun x hx=> ?_⟩,fun nm=>(r2 nm).trans (r1 nm)⟩
 rcases List.mem_append.1 hx with hx|hx
 ·exact h1 x hx
 ·exact h2 x hx
theorem yec {r:Rgs} (ho:OkR r) (kn d:Int):∀t∈yeb r kn d,0<=t.mi/\t.mi<1440:=by
 intro t ht
 unfold yeb yl1 at ht
 obtain⟨s,hs,rfl⟩:=List.mem_map.1 ht
 have h1:=of_decide_eq_true (List.mem_filter.1 hs).2
 have:=ygh ho s kn d
 dsimp only
 omega
def yaj (t:Slt):List UInt8:=t.sr++[32]++zaw 20 t.mi.toNat
def z1n (r:Rgs) (k d:Int):List (List UInt8)×Int:=
 if za1 [rng k 0 99999,rng d 0 99999]≠0 then([],za1 [rng k 0 99999,rng d 0 99999]) else((yeb r k d).map yaj,0)
def yqb (r:Rgs):List Cpl:=r.cs.filter fun c=> !c.cl
def z5s (r:Rgs):List (List UInt8)×Int:=((yqb r).map Cpl.nm,0)
theorem yda:∀(es:List Ent) (ks:List (List UInt8)) (s:List UInt8),s∈es.foldl (fun ks x=>yet ks x.sr) ks->s∈ks\/∃x∈es,x.sr=s
 | [],_,_,h=> .inl h
 | y::es,ks,s,h=>by
  rw [List.foldl_cons] at h
  rcases yda es _ s h with h|⟨x,hx,e⟩
  ·unfold yet at h
   split at h
   ·exact .inl h
   ·rcases List.mem_append.1 h with h|h
    ·exact .inl h
    ·rw [List.mem_singleton] at h
     exact .inr ⟨y,by simp,h.symm⟩
  ·exact .inr ⟨x,by simp [hx],e⟩
def SrR (r:Rgs):Prop:=∀x∈r.es,zck x.sr=true
theorem yh1 {r:Rgs} (h:SrR r) (k d:Int):∀t∈yeb r k d,t.sr.length<=24:=by
 intro t ht
 unfold yeb yl1 at ht
 obtain⟨s,hs,rfl⟩:=List.mem_map.1 ht
 have h1:=(zhs _).mem_iff.1 (List.mem_filter.1 hs).1
 rcases yda r.es [] s h1 with h2|⟨x,hx,rfl⟩
 ·cases h2
 ·exact(of_decide_eq_true (h x hx)).2.1
theorem zm0:∀(f u:Nat),(zaw f u).length<=f
 | 0,_=>Nat.le_refl _
 | f+1,u=>by
  unfold zaw
  split
  ·simp
  ·have:=zm0 f (u/10)
   rw [List.length_append,List.length_singleton];omega
section
variable {E : Oracle} (g : Good E)
include g
theorem ysc (ev:List Evt) (r:Rgs) (ho:OkR r) (hsr:SrR r) (w:List (List UInt8)) (k d:Int):Ui E zbx [.ptr ⟨0,0,0⟩ 1 0,Ws w,LI [k,d]] (mR zaa ev r) (yoa (z1n r k d)) (mR zaa ev r):=by
 refine⟨?_⟩
 have h2:=z7x g k
 have h3:=z7x g d
 have h4:=zd7 g (rng k 0 99999) (rng d 0 99999)
 have hu:=yn7 g ev r ho k d
 have hsl:=yc9 ho k d
 have hran:=yec ho k d
 have hsrl:=yh1 hsr k d
 unfold z1n
 generalize rng k 0 99999=y at *
 generalize rng d 0 99999=z at *
 generalize za1 [y,z]=e at *
 generalize yeb r k d=sl at *
 have hms:(sl.flatMap Slt.cells).length=sl.length*2:=zag Slt.cells 2 yq1 sl
 change In E 1 zbx [.ptr ⟨0,0,0⟩ 1 0,Ws w,.d (.list 2 [DI k,DI d])] _ _
 refine In.enter (f:=zbx) g.lim rfl rfl ?_
 by_cases he:e=0
 ·subst he
  rw [if_neg (fun h=>h rfl)]
  repeat' ((conv=>whnf);first
  | refine Yz ?_
   | (apply zak.of;assumption)
   | (refine zog.ofI (r':=LS2 sl) isR rfl rfl rfl rfl hu rfl rfl rfl rfl ?_)
   | (refine Cmp.ff (fun h=>h rfl) ?_)
   | (refine In.enter (f:=zc9) g.lim rfl rfl ?_))
  refine zam.to (zam.by (σ:=List (List UInt8)) g (fun u=>u.length<=sl.length/\u=(sl.take u.length).map yaj)
   (fun u=>[(1,.fn ze2 [] []),(5,.ref ⟨2,5,0⟩ 0 u.length u.length),(8,LS2 sl),(9,I sl.length),(10,I u.length)])
   (fun u=>mR zaa ev r++[(⟨2,4,0⟩,.row false zad 1 0 []),(⟨2,5,0⟩,.row false zad 1 u.length (u.map D.str))])
   (fun u=>sl.length-u.length) ?_ [] ⟨Nat.zero_le _,rfl⟩) rfl rfl
  rintro u ⟨h5,h6⟩ ih
  dsimp only at h5 h6 ih ⊢
  by_cases hlt:u.length<sl.length
  ·have hwin:win (sl.flatMap Slt.cells) (((u.length:Nat):Int).toNat*2) 2=sl[u.length].cells:=by
    rw [Int.toNat_natCast]
    exact zb9 Slt.cells 2 yq1 sl u.length hlt
   change win _ _ _=[D.str sl[u.length].sr,DI sl[u.length].mi] at hwin
   have hi:=z23 g sl[u.length].mi (by have:=hran _ (List.getElem_mem hlt);omega)
   have ih:=ih (u++[yaj sl[u.length]]) ⟨by rw [List.length_append,List.length_singleton];omega,by
    rw [List.length_append,List.length_singleton,List.take_succ_eq_append_getElem hlt,List.map_append,<-h6];rfl⟩ (by rw [List.length_append,List.length_singleton];omega)
   simp only [List.length_append,List.length_cons,List.length_nil,List.map_append,List.map_cons,List.map_nil] at ih
   have hT:yaj sl[u.length]=sl[u.length].sr++[32]++zaw 20 sl[u.length].mi.toNat:=rfl
   rw [hT] at ih
   have hs1:=hsrl _ (List.getElem_mem hlt)
   have hs2:=zm0 20 sl[u.length].mi.toNat
   have hmx:zlc=9223372036854775807:=rfl
   clear hran hsrl
   generalize sl[u.length]=t at *
   repeat' ((conv=>whnf);first
   | refine Yz ?_
    | (rw [hwin])
    | (apply zak.of;assumption)
    | (refine In.enter (f:=ze2) g.lim rfl rfl ?_)
    | (refine zcp.mk (by rw [hmx];simp only [List.length_append,List.length_cons,List.length_nil];omega) ?_)
    | (refine zcp.mk ⟨rfl,rfl,rfl,rfl,rfl,rfl,by dsimp only;omega,by dsimp only;omega⟩ ?_)
    | (refine zam.to ih rfl rfl))
  ·rw [List.take_of_length_le (by omega)] at h6
   rw [<-h6]
   repeat' ((conv=>whnf);first
   | refine Yz ?_
    | (refine zcp.mk ⟨rfl,by omega⟩ ?_)
    | (refine zcp.mk ⟨by simp,rfl,by omega⟩ ?_)
    | (exact⟨by rw [if_pos ⟨rfl,rfl⟩],rfl,rfl,rfl,rfl,rfl,trivial⟩)
    | (exact⟨rfl,rfl,rfl,rfl,rfl,rfl,trivial⟩))
 ·rw [if_pos he]
  repeat' ((conv=>whnf);first
  | refine Yz ?_
   | (apply zak.of;assumption)
   | (refine Cmp.tt he ?_)
   | (exact⟨rfl,rfl,rfl,rfl,rfl,rfl,trivial⟩))
theorem ysf (ev:List Evt) (r:Rgs) (ho:OkR r) (w:List (List UInt8)) (n:List Int):Ui E zcf [.ptr ⟨0,0,0⟩ 1 0,Ws w,LI n] (mR zaa ev r) (yoa (z5s r)) (mR zaa ev r):=by
 refine⟨?_⟩
 have hcs:=ho.cs
 have hml:(r.cs.flatMap Cpl.cells).length=r.cs.length*5:=zag Cpl.cells 5 zo9 r.cs
 refine In.enter (f:=zcf) g.lim rfl rfl ?_
 repeat' ((conv=>whnf);first
 | refine Yz ?_
  | (refine In.enter (f:=zd2) g.lim rfl rfl ?_))
 refine zam.to (zam.by (σ:=Nat×List Cpl) g (fun u=>u.1<=r.cs.length/\u.2=(r.cs.take u.1).filter fun c=> !c.cl)
  (fun u=>[(1,.fn zdv [] []),(5,.ref ⟨2,5,0⟩ 0 u.2.length u.2.length),(8,.ref ⟨0,0,4⟩ 0 r.cs.length r.cs.length),(9,I r.cs.length),(10,I u.1)])
  (fun u=>mR zaa ev r++[(⟨2,4,0⟩,.row false zaf 5 0 []),(⟨2,5,0⟩,.row false zaf 5 u.2.length (u.2.flatMap Cpl.cells))])
  (fun u=>r.cs.length-u.1) ?_ (0,[]) ⟨Nat.zero_le _,rfl⟩) rfl rfl
 rintro⟨k,out⟩ ⟨h1,h2⟩ ih
 dsimp only at h1 h2 ih ⊢
 have hmo:(out.flatMap Cpl.cells).length=out.length*5:=zag Cpl.cells 5 zo9 out
 have hol:out.length<=64:=by
  rw [h2]
  refine Nat.le_trans (List.length_filter_le _ _) ?_
  rw [List.length_take];omega
 by_cases hlt:k<r.cs.length
 ·have hwin:win (r.cs.flatMap Cpl.cells) ((0+((k:Nat):Int).toNat)*5) 5=r.cs[k].cells:=by
   rw [Nat.zero_add,Int.toNat_natCast]
   exact zb9 Cpl.cells 5 zo9 r.cs k hlt
  change win _ _ _=[D.str r.cs[k].nm,D.str r.cs[k].en,DI r.cs[k].kn,D.bool r.cs[k].cl,D.bool r.cs[k].up] at hwin
  cases hc:r.cs[k].cl with
  | false=>
   have ih:=ih (k+1,out++[r.cs[k]]) ⟨by dsimp only;omega,by dsimp only;rw [zih _ _ _ hlt,<-h2,hc];rfl⟩ (by dsimp only;omega)
   simp only [List.length_append,List.length_cons,List.length_nil,List.flatMap_append,List.flatMap_cons,List.flatMap_nil] at ih
   have hcc:r.cs[k].cells=[D.str r.cs[k].nm,D.str r.cs[k].en,DI r.cs[k].kn,D.bool false,D.bool r.cs[k].up]:=by rw [<-hc];rfl
   rw [hcc] at ih
   rw [hc] at hwin
   repeat' ((conv=>whnf);first
   | refine Yz ?_
    | (rw [hwin])
    | (refine In.enter (f:=zdv) g.lim rfl rfl ?_)
    | (refine zcp.mk ⟨rfl,rfl,rfl,rfl,rfl,rfl,by dsimp only;omega,by dsimp only;omega⟩ ?_)
    | (refine zam.to ih rfl rfl))
  | true=>
   have ih:=ih (k+1,out) ⟨by dsimp only;omega,by dsimp only;rw [zih _ _ _ hlt,<-h2,hc];simp⟩ (by dsimp only;omega)
   rw [hc] at hwin
   repeat' ((conv=>whnf);first
   | refine Yz ?_
    | (rw [hwin])
    | (refine In.enter (f:=zdv) g.lim rfl rfl ?_)
    | (refine zam.to ih rfl rfl))
 ·rw [List.take_of_length_le (by omega)] at h2
  have hcl:z5s r=(out.map Cpl.nm,0):=by rw [z5s,yqb,<-h2]
  rw [hcl]
  clear hcl h2 ih
  repeat' ((conv=>whnf);first
  | refine Yz ?_
   | (refine zcp.mk ⟨rfl,by omega⟩ ?_)
   | (rw [if_pos ⟨rfl,rfl⟩];refine In.enter (f:=zbs) g.lim rfl rfl ?_)
   | (refine In.enter (f:=zbs) g.lim rfl rfl ?_))
  refine zam.to (zam.by (σ:=List (List UInt8)) g (fun u=>u.length<=out.length/\u=(out.take u.length).map Cpl.nm)
   (fun u=>[(1,.fn ze3 [] []),(5,.ref ⟨2,5,0⟩ 0 u.length u.length),(8,.d (.list out.length (out.flatMap Cpl.cells))),(9,I out.length),(10,I u.length)])
   (fun u=>mR zaa ev r++[(⟨2,4,0⟩,.row false zad 1 0 []),(⟨2,5,0⟩,.row false zad 1 u.length (u.map D.str))])
   (fun u=>out.length-u.length) ?_ [] ⟨Nat.zero_le _,rfl⟩) rfl rfl
  rintro u ⟨h3,h4⟩ ih
  dsimp only at h3 h4 ih ⊢
  by_cases hlt2:u.length<out.length
  ·have hwin:win (out.flatMap Cpl.cells) (((u.length:Nat):Int).toNat*5) 5=out[u.length].cells:=by
    rw [Int.toNat_natCast]
    exact zb9 Cpl.cells 5 zo9 out u.length hlt2
   have ih:=ih (u++[out[u.length].nm]) ⟨by rw [List.length_append,List.length_singleton];omega,by
    rw [List.length_append,List.length_singleton,List.take_succ_eq_append_getElem hlt2,List.map_append,<-h4];rfl⟩ (by rw [List.length_append,List.length_singleton];omega)
   simp only [List.length_append,List.length_cons,List.length_nil,List.map_append,List.map_cons,List.map_nil] at ih
   repeat' ((conv=>whnf);first
   | refine Yz ?_
    | (rw [hwin])
    | (refine In.enter (f:=ze3) g.lim rfl rfl ?_)
    | (refine zcp.mk ⟨rfl,rfl,rfl,rfl,rfl,rfl,by dsimp only;omega,by dsimp only;omega⟩ ?_)
    | (refine zam.to ih rfl rfl))
  ·rw [List.take_of_length_le (by omega)] at h4
   rw [<-h4]
   repeat' ((conv=>whnf);first
   | refine Yz ?_
    | (refine zcp.mk ⟨rfl,by omega⟩ ?_)
    | (refine zcp.mk ⟨by simp,rfl,by omega⟩ ?_)
    | (exact⟨by rw [if_pos ⟨rfl,rfl⟩],rfl,rfl,rfl,rfl,rfl,trivial⟩)
    | (exact⟨rfl,rfl,rfl,rfl,rfl,rfl,trivial⟩))
end
theorem zog.ofJ {E:Oracle} {f:Nat} {first caps args as0 as1:List V} {m m0 m2 m':Mem} {r r':V} {K:V->Mem->Prop} (is:List Evl.Id) (h0:(first ++args++caps).map (zuu m)=as1) (his:reach 0 m 64 (zep as1) []=is)
  (hc:(within is 0 (zep as1)&&movable is 0 m)=true) (has:zsy (number ⟨0,0⟩ 0 0 is) as1=as0) (hm:moved (number ⟨0,0⟩ 0 0 is) m (number ⟨0,0⟩ 0 0 is)=m0)
  (hq:Ui E f as0 m0 r m2) (hlow:zh2 1 (zm2 m0)=true) (hb:zr5 (number ⟨0,0⟩ 0 0 is) m2 (number ⟨0,0⟩ 0 0 is) m=some m') (hid:(ids r).all (fun i=>((number ⟨0,0⟩ 0 0 is).map (·.2)).elem i)=true) (hr:ren (zml (number ⟨0,0⟩ 0 0 is)) r=r') (hk:K r' m'):zog E true (.fn f first caps) args m K:=by
 subst h0
 exact zog.ofI is his hc has hm hq hlow hb hid hr hk
theorem z9k {m:Mem} {o:Evl.Id} {n:Nat} {t sz:Nat} {xs:List D} (h:Evl.look m o=some (.row false t sz n xs)):zuu m (.ref o 0 n n)= .d (.list n xs):=by
 have h1:Evl.freeze false m (.ref o 0 n n)=some (.list n xs):=by
  have h2:Evl.freeze false m (.ref o 0 n n)=match Evl.look m o with|some (.row wr _ sz n' xs)=>if(wr=false\/false=true)/\n'=n/\0+n<=n' then some (.list n (if 0=0/\n=n' then xs else win xs (0*sz) (n*sz))) else none|_=>none:=rfl
  rw [h2,h]
  dsimp only
  rw [if_pos ⟨.inl rfl,rfl,by omega⟩,if_pos ⟨rfl,rfl⟩]
 simp only [zuu,h1]
def zwj (l:List (List UInt8)):Bool:=l.all fun w=>(z6h w).2
def zmr (l:List (List UInt8)):List Int:=l.map fun w=>(z6h w).1
def yl6 (a:List (List UInt8)×Int):List UInt8×Int:=if a.2≠0 then([],a.2) else if a.1=[] then([110,111,110,101],0) else(zfx 32 a.1,0)
def z8s (W I:Nat) (A:List (List UInt8)->List Int->List (List UInt8)×Int) (text:List UInt8):List UInt8×Int:=
 if(parts 32 text).length≠W\/[]∈parts 32 text then([],25)
 else if zwj ((parts 32 text).drop (W-I))=false then([],25)
 else yl6 (A (parts 32 text) (zmr ((parts 32 text).drop (W-I))))
theorem yk3 (l:List (List UInt8)) (a:Nat):win (l.map D.str) (a*1) ((l.length-a)*1)=(l.drop a).map D.str:=by
 unfold win
 rw [Nat.mul_one,Nat.mul_one,List.map_drop,List.take_of_length_le (by rw [List.length_drop,List.length_map];exact Nat.le_refl _)]
theorem z6w (b:UInt8) (n:Nat):∀l:List (List UInt8),(∀w∈l,w.length<=n)->(zfx b l).length<=l.length*(n+1)
 | [],_=>by simp [zfx]
 | [x],h=>by
  have:=h x (by simp)
  simp only [zfx,List.length_cons,List.length_nil]
  omega
 | x::y::r,h=>by
  have h1:=h x (by simp)
  have h2:=z6w b n (y::r) fun w hw=>h w (List.mem_cons_of_mem _ hw)
  rw [List.length_cons,Nat.succ_mul]
  simp only [zfx,List.length_append,List.length_cons] at h2 ⊢
  omega
section
variable {E : Oracle} (g : Good E)
include g
theorem yih (ev:List Evt) (r:Rgs) (W Iq:Nat) (hI:Iq<=W) (hW:W<=10) (f:Nat) (A:List (List UInt8)->List Int->List (List UInt8)×Int) (text:List UInt8) (ht:text.length<=100000)
  (hq:∀w n,w.length=W->n.length=Iq->Ui E f [.ptr ⟨0,0,0⟩ 1 0,Ws w,LI n] (mR zaa ev r) (yoa (A w n)) (mR zaa ev r))
  (hA:∀w n,(A w n).1.length<=1000/\∀x∈(A w n).1,x.length<=100):
  Ui E zbj [.ptr ⟨0,0,0⟩ 0 0,.agg [I W,I Iq,.fn f [] []],S text] (mR zaa ev r) (.tup [S (z8s W Iq A text).1,I (z8s W Iq A text).2]) (mR zaa ev r):=by
 refine⟨?_⟩
 have hsp:=yhs g text (by omega)
 have hln:=zzr 32 text
 have hpl:∀w∈parts 32 text,w.length<=1000000:=fun w hw=>by
  have:=z41 32 text w hw
  omega
 have hct:=zz5 g (parts 32 text) [] (by omega)
 unfold z8s
 generalize parts 32 text=w at *
 refine In.enter (f:=zbj) g.lim rfl rfl ?_
 by_cases h1:w.length=W
 ·by_cases h2:[]∈w
  ·rw [decide_eq_true h2] at hct
   rw [if_pos (.inr h2)]
   subst h1
   repeat' ((conv=>whnf);first
   | refine Yz ?_
    | (apply zak.of;assumption)
    | (exact⟨rfl,rfl,rfl,rfl,rfl,rfl,trivial⟩))
  ·rw [decide_eq_false h2] at hct
   rw [if_neg (fun h=>h.elim (fun h=>h h1) h2)]
   subst h1
   have hxl:(w.drop (w.length-Iq)).length=w.length-(w.length-Iq):=List.length_drop
   have hxw:∀x∈w.drop (w.length-Iq),x.length<=1000000:=fun x hx=>hpl x (List.mem_of_mem_drop hx)
   have hwd:=yk3 w (w.length-Iq)
   generalize hxs:w.drop (w.length-Iq)=xs at *
   repeat' ((conv=>whnf);first
   | refine Yz ?_
    | (apply zak.of;assumption)
    | (refine zce.at (w.length-Iq) w.length (by omega) (by omega) (by omega) ?_;rw [hwd]))
   rw [<-hxl]
   refine zam.to (zam.upP g (fun k=>[(0,.ptr ⟨0,0,0⟩ 0 0),(4,.ptr ⟨1,4,0⟩ 0 0),(8,LS w),(9,.ref ⟨1,9,0⟩ 0 k k),(33,LS xs),(34,I xs.length),(35,I k)])
    (fun k=>mR zaa ev r++[(⟨1,4,0⟩,.cells zjg [I w.length,I Iq,.fn f [] []]),(⟨1,9,0⟩,.row false zbu 1 k ((zmr (xs.take k)).map DI))])
    (fun k=>zwj (xs.take k)=true) xs.length (fun k hk hp ih=> ?_) 0 (Nat.zero_le _) rfl) rfl rfl
   by_cases hlt:k<xs.length
   ·have hd:=zuk g xs[k] (hxw _ (List.getElem_mem hlt))
    have hpx:∀ {K:D->Prop},K (.str xs[k])->zfp (xs.map D.str) (((k:Nat):Int).toNat*1) K:=fun h=>zfp.ws k rfl hlt h
    have hmi:((zmr (xs.take k)).map DI).length=k*1:=by rw [List.length_map,zmr,List.length_map,List.length_take];omega
    cases hc:(z6h xs[k]).2 with
    | false=>
     have hno:zwj xs=false:=by
      unfold zwj
      rw [List.all_eq_false]
      exact⟨_,List.getElem_mem hlt,by rw [hc];decide⟩
     rw [hno,if_pos rfl]
     rw [hc] at hd
     clear ih
     repeat' ((conv=>whnf);first
     | refine Yz ?_
      | (refine hpx ?_)
      | (apply zak.of;assumption)
      | (exact⟨rfl,rfl,rfl,rfl,rfl,rfl,trivial⟩))
    | true=>
     rw [hc] at hd
     have e1:zwj (xs.take (k+1))=true:=by
      unfold zwj at hp ⊢
      rw [List.take_succ_eq_append_getElem hlt,List.all_append,hp,List.all_cons,hc]
      rfl
     have e2:(zmr (xs.take (k+1))).map DI=(zmr (xs.take k)).map DI++[DI (z6h xs[k]).1]:=by
      unfold zmr
      rw [List.take_succ_eq_append_getElem hlt,List.map_append,List.map_append]
      rfl
     have ih:=ih hlt e1
     rw [e2] at ih
     repeat' ((conv=>whnf);first
     | refine Yz ?_
      | (refine hpx ?_)
      | (apply zak.of;assumption)
      | (refine zcp.mk ⟨rfl,rfl,rfl,rfl,rfl,rfl,by dsimp only;omega,by dsimp only;omega⟩ ?_)
      | (refine zam.to ih rfl rfl))
   ·obtain rfl:k=xs.length:=by omega
    clear ih
    rw [List.take_length] at hp ⊢
    rw [hp,if_neg (by decide)]
    have hil:(zmr xs).length=xs.length:=by rw [zmr,List.length_map]
    have hu:=hq w (zmr xs) rfl (by rw [hil,hxl];omega)
    obtain⟨ha1,ha2⟩:=hA w (zmr xs)
    generalize A w (zmr xs)=a at *
    obtain⟨al,ae⟩:=a
    dsimp only at ha1 ha2
    have hus:LI (zmr xs)= .d (.list xs.length ((zmr xs).map DI)):=by rw [<-hil]
    rw [hus] at hu
    have hfz:=fun m (h:Evl.look m ⟨1,9,0⟩=some (.row false zbu 1 xs.length ((zmr xs).map DI)))=>z9k h
    by_cases hae:ae=0
    ·subst hae
     by_cases hal:al=[]
     ·subst hal
      repeat' ((conv=>whnf);first
      | refine Yz ?_
       | (apply zak.of;assumption)
       | (refine zog.ofJ (as1:=[.ptr ⟨0,0,0⟩ 1 0,LS w,.d (.list xs.length ((zmr xs).map DI))]) (r':= .tup [Ws [],I 0]) isR (by rw [List.nil_append,List.append_nil,List.map_cons,List.map_cons,List.map_cons,List.map_nil,hfz _ rfl];rfl) rfl rfl rfl rfl hu rfl rfl rfl rfl ?_)
       | (refine Cmp.ff (fun h=>h rfl) ?_)
       | (exact⟨rfl,rfl,rfl,rfl,rfl,rfl,trivial⟩))
     ·obtain⟨a0,ar,rfl⟩:=List.exists_cons_of_ne_nil hal
      have hjl:=z6w 32 100 (a0::ar) ha2
      have hj:=ylx g (a0::ar) hal (by omega) (by have:=Nat.mul_le_mul_right (100+1) ha1;omega)
      have hat:yl6 (a0::ar,0)=(zfx 32 (a0::ar),0):=by
       unfold yl6
       rw [if_neg (fun h=>h rfl),if_neg (fun h=>by cases h)]
      rw [hat]
      dsimp only
      have hkl:(a0::ar).length=ar.length+1:=rfl
      repeat' ((conv=>whnf);first
      | refine Yz ?_
       | (apply zak.of;assumption)
       | (refine zog.ofJ (as1:=[.ptr ⟨0,0,0⟩ 1 0,LS w,.d (.list xs.length ((zmr xs).map DI))]) (r':= .tup [Ws (a0::ar),I 0]) isR (by rw [List.nil_append,List.append_nil,List.map_cons,List.map_cons,List.map_cons,List.map_nil,hfz _ rfl];rfl) rfl rfl rfl rfl hu rfl rfl rfl rfl ?_)
       | (refine Cmp.ff (by omega) ?_)
       | (refine Cmp.ff (fun h=>h rfl) ?_)
       | (exact⟨rfl,rfl,rfl,rfl,rfl,rfl,trivial⟩))
    ·have hat:yl6 (al,ae)=([],ae):=by
      unfold yl6
      rw [if_pos hae]
     rw [hat]
     dsimp only
     repeat' ((conv=>whnf);first
     | refine Yz ?_
      | (apply zak.of;assumption)
      | (refine zog.ofJ (as1:=[.ptr ⟨0,0,0⟩ 1 0,LS w,.d (.list xs.length ((zmr xs).map DI))]) (r':= .tup [Ws al,I ae]) isR (by rw [List.nil_append,List.append_nil,List.map_cons,List.map_cons,List.map_cons,List.map_nil,hfz _ rfl];rfl) rfl rfl rfl rfl hu rfl rfl rfl rfl ?_)
      | (refine Cmp.tt hae ?_)
      | (exact⟨rfl,rfl,rfl,rfl,rfl,rfl,trivial⟩))
 ·rw [if_pos (.inl h1)]
  repeat' ((conv=>whnf);first
  | refine Yz ?_
   | (apply zak.of;assumption)
   | (refine Cmp.tt (by omega) ?_)
   | (exact⟨rfl,rfl,rfl,rfl,rfl,rfl,trivial⟩))
end
structure NmR (r:Rgs):Prop where
 nm:∀x∈r.es,zck x.nm=true
 sr:∀x∈r.es,zck x.sr=true
 cs:∀c∈r.cs,zck c.nm=true
theorem z4p {s:List UInt8} (h:zck s=true):s.length<=24:=(of_decide_eq_true h).2.1
theorem yom {r:Rgs} (h:NmR r) {n:Nat} {e:Evt} (hs:zh8 r n e=0):NmR (zpf r e):=by
 obtain⟨h1,h2⟩:=zv6 hs
 obtain⟨_,_,_,h3⟩:=z1k h2
 obtain⟨a1,a2,a3,a4,_⟩:=zo8 h1
 unfold z0j at h3
 unfold zpf
 split at h3
 ·rename_i hk
  rw [if_pos hk]
  obtain⟨_,f2,_⟩:=z2a hk
  have hn:∀x∈r.es++[z6k e],zck x.nm=true:=fun x hx=>by
   rcases List.mem_append.1 hx with hx|hx
   ·exact h.nm x hx
   ·rw [List.mem_singleton] at hx;subst hx
    exact ycm a4 (i:=0) (by omega)
  have hs':∀x∈r.es++[z6k e],zck x.sr=true:=fun x hx=>by
   rcases List.mem_append.1 hx with hx|hx
   ·exact h.sr x hx
   ·rw [List.mem_singleton] at hx;subst hx
    exact ycm a4 (i:=1) (by omega)
  exact⟨hn,hs',h.cs⟩
 rename_i hk
 rw [if_neg hk]
 split at h3
 ·rename_i hk2
  rw [if_pos hk2]
  exact⟨h.nm,h.sr,h.cs⟩
 rename_i hk2
 rw [if_neg hk2]
 split at h3
 ·rename_i hk3
  rw [if_pos hk3]
  refine⟨h.nm,h.sr,fun c hc=> ?_⟩
  rcases List.mem_append.1 hc with hc|hc
  ·exact h.cs c hc
  ·rw [List.mem_singleton] at hc;subst hc
   exact ycm a4 (i:=0) (by rw [a2,hk3];decide)
 rename_i hk3
 rw [if_neg hk3]
 refine⟨h.nm,h.sr,fun c hc=> ?_⟩
 rcases List.mem_or_eq_of_mem_set hc with hc|hc
 ·exact h.cs c hc
 ·subst hc
  dsimp only
  have hge:0<=zsk r.cs (nmN e 0):=by
   unfold zo6 at h3
   split at h3
   ·exact absurd h3 (by decide)
   ·omega
  rcases zlu r.cs (nmN e 0) with e1|⟨k,hk,e1,_⟩
  ·omega
  ·rw [e1,Int.toNat_natCast]
   have:r.cs.getD k ybh=r.cs[k]:=by simp [List.getD,hk]
   rw [this]
   exact h.cs _ (List.getElem_mem hk)
theorem yc0:∀(l:List Evt) (r:Rgs) (n:Nat),NmR r->(zfd r n l).2.2=0->NmR (zfd r n l).1
 | [],_,_,h,_=>h
 | e::l,r,n,h,hz=>by
  rw [zhr] at hz ⊢
  by_cases hs:zh8 r n e≠0
  ·rw [if_pos hs] at hz;exact absurd hz hs
  ·rw [if_neg hs] at hz ⊢
   exact yc0 l _ _ (yom h (Decidable.byContradiction hs)) hz
theorem ypa:NmR rg0:=⟨by simp [rg0],by simp [rg0],by simp [rg0]⟩
abbrev A1 (r:Rgs) (w:List (List UInt8)) (n:List Int):=z3j r (w.getD 1 []) (n.getD 0 0) (n.getD 1 0)
abbrev A2 (r:Rgs) (_:List (List UInt8)) (n:List Int):=z1n r (n.getD 0 0) (n.getD 1 0)
abbrev A3 (r:Rgs) (_:List (List UInt8)) (n:List Int):=z1m r (n.getD 0 0)
abbrev A4 (r:Rgs) (w:List (List UInt8)) (_:List Int):=ybb r (w.getD 1 [])
abbrev A5 (r:Rgs) (_:List (List UInt8)) (_:List Int):=z5s r
theorem yqe (r:Rgs) (w:List (List UInt8)) (n:List Int):(A1 r w n).1.length<=1000/\∀x∈(A1 r w n).1,x.length<=100:=by
 unfold A1 z3j
 generalize (if !zck (w.getD 1 []) then(8:Int) else 0)=y
 split
 ·simp
 ·split
  ·refine⟨by simp,fun x hx=> ?_⟩
   rw [List.mem_singleton] at hx;subst hx
   have:=zm0 20 (z67 r (w.getD 1 []) (n.getD 0 0) (n.getD 1 0)).toNat
   omega
  ·simp
theorem yqf {r:Rgs} (ho:OkR r) (h:NmR r) (w:List (List UInt8)) (n:List Int):(A2 r w n).1.length<=1000/\∀x∈(A2 r w n).1,x.length<=100:=by
 unfold A2 z1n
 split
 ·simp
 ·refine⟨by have:=yc9 ho (n.getD 0 0) (n.getD 1 0);dsimp only;rw [List.length_map];omega,fun x hx=> ?_⟩
  obtain⟨t,ht,rfl⟩:=List.mem_map.1 hx
  have h1:=yh1 h.sr _ _ t ht
  have h2:=zm0 20 t.mi.toNat
  unfold yaj
  simp only [List.length_append,List.length_cons,List.length_nil]
  omega
theorem ycj {r:Rgs} (ho:OkR r) (h:NmR r) (p:Ent->Bool):((r.es.filter p).map Ent.nm).length<=1000/\∀x∈(r.es.filter p).map Ent.nm,x.length<=100:=by
 have hes:=ho.es
 refine⟨by rw [List.length_map];exact Nat.le_trans (List.length_filter_le _ _) (by omega),fun x hx=> ?_⟩
 obtain⟨y,hy,rfl⟩:=List.mem_map.1 hx
 have:=z4p (h.nm y (List.mem_filter.1 hy).1)
 omega
theorem yqg {r:Rgs} (ho:OkR r) (h:NmR r) (w:List (List UInt8)) (n:List Int):(A3 r w n).1.length<=1000/\∀x∈(A3 r w n).1,x.length<=100:=by
 unfold A3 z1m
 split
 ·simp
 ·exact ycj ho h _
theorem yqh {r:Rgs} (ho:OkR r) (h:NmR r) (w:List (List UInt8)) (n:List Int):(A4 r w n).1.length<=1000/\∀x∈(A4 r w n).1,x.length<=100:=by
 unfold A4 ybb
 generalize (if !zck (w.getD 1 []) then(8:Int) else 0)=y
 split
 ·simp
 ·split
  ·simp
  ·exact ycj ho h _
theorem yqi {r:Rgs} (ho:OkR r) (h:NmR r) (w:List (List UInt8)) (n:List Int):(A5 r w n).1.length<=1000/\∀x∈(A5 r w n).1,x.length<=100:=by
 have hcs:=ho.cs
 unfold A5 z5s yqb
 dsimp only
 refine⟨by rw [List.length_map];exact Nat.le_trans (List.length_filter_le _ _) (by omega),fun x hx=> ?_⟩
 obtain⟨y,hy,rfl⟩:=List.mem_map.1 hx
 have:=z4p (h.cs y (List.mem_filter.1 hy).1)
 omega
def hdW (s:List UInt8):List UInt8:=(parts 32 s).headD []
section
variable {E : Oracle} (g : Good E)
include g
theorem yhr (s:List UInt8) (hs:s.length<=1000000):∃q b,Fc E zhq [S s,S [32]] (.tup [S (hdW s),S q,B b]):=by
 by_cases h:(32:UInt8)∈s
 ·obtain⟨a,q,rfl,ha⟩:=List.eq_append_cons_of_mem h
  refine⟨q,true,?_⟩
  unfold hdW
  rw [zgb 32 q a ha]
  exact yc7 g a q ha hs
 ·refine⟨[],false,?_⟩
  unfold hdW
  rw [zlx 32 s h]
  exact z7s g s h
abbrev qsM:List (D×V):=[(.str yf5,.agg [I 4,I 2,.fn zbw [] []]),(.str z8v,.agg [I 3,I 2,.fn zbx [] []]),(.str zgv,.agg [I 2,I 1,.fn zby [] []]),(.str z6y,.agg [I 2,I 0,.fn zbz [] []]),(.str zze,.agg [I 1,I 0,.fn zcf [] []])]
omit g in
theorem yha {k:List UInt8} (h:k≠yf5/\k≠z8v/\k≠zgv/\k≠z6y/\k≠zze):zp6 (.str k) qsM=some none:=by
 have e:∀t,k≠t->(k==t)=false:=fun t h=>beq_eq_false_iff_ne.2 h
 obtain⟨h1,h2,h3,h4,h5⟩:=h
 simp only [zp6,eqD,e _ h1,e _ h2,e _ h3,e _ h4,e _ h5]
theorem zcg.questions {cx:Cx} {slot:Nat} {m:Mem} {K:V->Mem->Prop} (hf:Go.Evl.freeK cx.lv slot m=0) (k:K (.mp ⟨cx.lv,slot,0⟩) (m++[(⟨cx.lv,slot,0⟩,.map qsM)])):zcg E zja [] cx slot m K:=by
 refine⟨.mp ⟨0,1,0⟩,[(⟨0,1,0⟩,.map qsM)],(.mp ⟨cx.lv,slot,0⟩,m++[(⟨cx.lv,slot,0⟩,.map qsM)]),g.lim.of_iter 1000 _ _ (by kernel_rfl),?_,k⟩
 unfold Evl.settle
 rw [hf]
 rfl
abbrev Aqv (a:List UInt8×Int):V:= .tup [S a.1,I a.2]
theorem ypv (ev:List Evt) (r:Rgs) (ho:OkR r) (text:List UInt8) (ht:text.length<=100000):Ui E zbj [.ptr ⟨0,0,0⟩ 0 0,.agg [I 4,I 2,.fn zbw [] []],S text] (mR zaa ev r) (Aqv (z8s 4 2 (A1 r) text)) (mR zaa ev r):=by
 refine yih g ev r 4 2 (by decide) (by decide) zbw (A1 r) text ht (fun w n hw hn=> ?_) (yqe r)
 match w,n,hw,hn with
 | [a,s,b,c],[k,d],_,_=>exact ysb g ev r ho a s b c k d
theorem ypw (ev:List Evt) (r:Rgs) (ho:OkR r) (h:NmR r) (text:List UInt8) (ht:text.length<=100000):Ui E zbj [.ptr ⟨0,0,0⟩ 0 0,.agg [I 3,I 2,.fn zbx [] []],S text] (mR zaa ev r) (Aqv (z8s 3 2 (A2 r) text)) (mR zaa ev r):=by
 refine yih g ev r 3 2 (by decide) (by decide) zbx (A2 r) text ht (fun w n hw hn=> ?_) (yqf ho h)
 match n,hn with
 | [k,d],_=>exact ysc g ev r ho h.sr w k d
theorem ypx (ev:List Evt) (r:Rgs) (ho:OkR r) (h:NmR r) (text:List UInt8) (ht:text.length<=100000):Ui E zbj [.ptr ⟨0,0,0⟩ 0 0,.agg [I 2,I 1,.fn zby [] []],S text] (mR zaa ev r) (Aqv (z8s 2 1 (A3 r) text)) (mR zaa ev r):=by
 refine yih g ev r 2 1 (by decide) (by decide) zby (A3 r) text ht (fun w n hw hn=> ?_) (yqg ho h)
 match n,hn with
 | [k],_=>exact ysd g ev r ho w k
theorem ypy (ev:List Evt) (r:Rgs) (ho:OkR r) (h:NmR r) (text:List UInt8) (ht:text.length<=100000):Ui E zbj [.ptr ⟨0,0,0⟩ 0 0,.agg [I 2,I 0,.fn zbz [] []],S text] (mR zaa ev r) (Aqv (z8s 2 0 (A4 r) text)) (mR zaa ev r):=by
 refine yih g ev r 2 0 (by decide) (by decide) zbz (A4 r) text ht (fun w n hw hn=> ?_) (yqh ho h)
 match w,n,hw,hn with
 | [a,s],[],_,_=>exact yse g ev r ho a s
theorem ypz (ev:List Evt) (r:Rgs) (ho:OkR r) (h:NmR r) (text:List UInt8) (ht:text.length<=100000):Ui E zbj [.ptr ⟨0,0,0⟩ 0 0,.agg [I 1,I 0,.fn zcf [] []],S text] (mR zaa ev r) (Aqv (z8s 1 0 (A5 r) text)) (mR zaa ev r):=by
 refine yih g ev r 1 0 (by decide) (by decide) zcf (A5 r) text ht (fun w n hw hn=> ?_) (yqi ho h)
 exact ysf g ev r ho w n
end
def yp3 (l:List (List UInt8)):List UInt8:=if l=[] then [110,111,110,101] else zfx 32 l
theorem z8z (l:List (List UInt8)):yl6 (l,0)=(yp3 l,0):=by
 unfold yl6 yp3
 rw [if_neg (fun h=>h rfl)]
 by_cases h:l=[]
 ·rw [if_pos h,if_pos h]
 ·rw [if_neg h,if_neg h]
def yma (r:Rgs) (t:List UInt8):List UInt8×Int:=
 if hdW t=yf5 then z8s 4 2 (A1 r) t
 else if hdW t=z8v then z8s 3 2 (A2 r) t
 else if hdW t=zgv then z8s 2 1 (A3 r) t
 else if hdW t=z6y then z8s 2 0 (A4 r) t
 else if hdW t=zze then z8s 1 0 (A5 r) t
 else([],13)
theorem yqs {b c:List UInt8} (hb:zl6 b=true) (hc:zl6 c=true):zmr [b,c]=[zs2 b,zs2 c]:=by
 simp [zmr,(zkn b).2 hb,(zkn c).2 hc]
theorem yqr {b:List UInt8} (hb:zl6 b=true):zmr [b]=[zs2 b]:=by
 simp [zmr,(zkn b).2 hb]
theorem yf2 {b:List UInt8} (h:zl6 b=true):b≠[]:=by
 rintro rfl
 exact absurd h (by decide)
section
variable {E : Oracle} (g : Good E)
include g
theorem yii (ev:List Evt) (r:Rgs) (text:List UInt8) (hl:text.length<=4096) (hne:text≠[]) (nm:List UInt8) (hnm:hdW text=nm) (W Iq:Int) (f:Nat) (a:List UInt8×Int)
  (hf:zp6 (.str nm) qsM=some (some (.agg [I W,I Iq,.fn f [] []])))
  (hu:Ui E zbj [.ptr ⟨0,0,0⟩ 0 0,.agg [I W,I Iq,.fn f [] []],S text] (mR zaa ev r) (Aqv a) (mR zaa ev r)):
  Ui E zai [.ptr ⟨0,0,0⟩ 0 0,S text] (mR zaa ev r) (Aqv a) (mR zaa ev r):=by
 refine⟨?_⟩
 obtain⟨q,b,hcut⟩:=yhr g text (by omega)
 rw [hnm] at hcut
 obtain⟨a1,a2⟩:=a
 have hpos:0<text.length:=List.length_pos_iff.2 hne
 refine In.enter (f:=zai) g.lim rfl rfl ?_
 repeat' ((conv=>whnf);first
 | refine Yz ?_
  | (apply zak.of;assumption)
  | (refine zak.of (zf1 g _ _) ?_)
  | (refine zak.of (zd7 g _ _) ?_)
  | (refine zcg.questions g rfl ?_)
  | (refine Cmp.ff hne ?_)
  | (refine zof.mk ⟨_,hf,?_⟩)
  | (refine zog.ofI (r':=Aqv (a1,a2)) isR rfl rfl rfl rfl hu rfl rfl rfl rfl ?_)
  | (exact⟨rfl,rfl,rfl,rfl,rfl,rfl,trivial⟩))
end
def zxa (p:Evt) (n:Nat):Evt:=⟨(n:Int)+1,p.ki,p.ns,p.vs,p.tx⟩
def yev (r:Rgs) (n:Nat) (o:Option Evt):Int:=
 if za1 [if !o.isSome then 25 else 0,if 1000<=n then 5 else 0]≠0 then za1 [if !o.isSome then 25 else 0,if 1000<=n then 5 else 0]
 else if zhz (zxa (o.getD noE) n)≠0 then zhz (zxa (o.getD noE) n) else z5q r n (zxa (o.getD noE) n)
def yfg (n:Nat):List UInt8:=[100,111,110,101,32]++zaw 20 (n+1)
section
variable {E : Oracle} (g : Good E)
include g
theorem yq7 (ev:List Evt) (r:Rgs):Ui E zai [.ptr ⟨0,0,0⟩ 0 0,S []] (mR zaa ev r) (Aqv ([],25)) (mR zaa ev r):=by
 refine⟨?_⟩
 refine In.enter (f:=zai) g.lim rfl rfl ?_
 repeat' ((conv=>whnf);first
 | refine Yz ?_
  | (apply zak.of;assumption)
  | (refine zak.of (zf1 g _ _) ?_)
  | (refine zak.of (zd7 g _ _) ?_)
  | (exact⟨rfl,rfl,rfl,rfl,rfl,rfl,trivial⟩))
theorem yq6 (ev:List Evt) (r:Rgs) (text:List UInt8) (hl:text.length<=4096) (hne:text≠[]) (hq:zp6 (.str (hdW text)) qsM=some none) (hk:zew (hdW text)=false):Ui E zai [.ptr ⟨0,0,0⟩ 0 0,S text] (mR zaa ev r) (Aqv ([],13)) (mR zaa ev r):=by
 refine⟨?_⟩
 obtain⟨q,b,hcut⟩:=yhr g text (by omega)
 have hfk:=yo2 hk
 generalize hdW text=nm at *
 have hpos:0<text.length:=List.length_pos_iff.2 hne
 refine In.enter (f:=zai) g.lim rfl rfl ?_
 repeat' ((conv=>whnf);first
 | refine Yz ?_
  | (apply zak.of;assumption)
  | (refine zak.of (zf1 g _ _) ?_)
  | (refine zak.of (zd7 g _ _) ?_)
  | (refine zcg.questions g rfl ?_)
  | (refine zcg.kinds g rfl ?_)
  | (refine Cmp.ff hne ?_)
  | (refine zof.mk ⟨_,hq,?_⟩)
  | (refine zof.mk ⟨_,hfk,?_⟩)
  | (exact⟨rfl,rfl,rfl,rfl,rfl,rfl,trivial⟩))
theorem yq5 (ev:List Evt) (r:Rgs) (ho:OkR r) (hrs:r.rs.length<1000) (hev:ev.length<=1000) (text:List UInt8) (hl:text.length<=4096) (hne:text≠[]) (hq:zp6 (.str (hdW text)) qsM=some none) (hk:zew (hdW text)=true)
  (hb:((zqx text).getD noE).ns.length<=1000000/\((zqx text).getD noE).vs.length<=1000000):
  Ui E zai [.ptr ⟨0,0,0⟩ 0 0,S text] (mR zaa ev r) (if yev r ev.length (zqx text)=0 then Aqv (yfg ev.length,0) else Aqv ([],yev r ev.length (zqx text)))
   (if yev r ev.length (zqx text)=0 then mR zaa (ev++[zxa ((zqx text).getD noE) ev.length]) (zpf r (zxa ((zqx text).getD noE) ev.length)) else mR zaa ev r):=by
 refine⟨?_⟩
 obtain⟨q,b,hcut⟩:=yhr g text (by omega)
 obtain⟨fa,fb,hfk⟩:=yf7 hk
 have hps:=yaf g text (by omega)
 change Fc E zfn [S text] (.tup [Evv ((zqx text).getD noE),B (zqx text).isSome]) at hps
 generalize hdW text=nm at *
 have hpos:0<text.length:=List.length_pos_iff.2 hne
 generalize zqx text=o at *
 cases o with
 | none=>
  have hbd:yev r ev.length none=25:=rfl
  rw [hbd,if_neg (show ¬(25:Int)=0 by decide),if_neg (show ¬(25:Int)=0 by decide)]
  change Fc E zfn [S text] (.tup [.d (.agg [DI 0,.str [],.list 0 [],.list 0 [],.str []]),B false]) at hps
  by_cases hfull:1000<=ev.length
  ·refine In.enter (f:=zai) g.lim rfl rfl ?_
   repeat' ((conv=>whnf);first
   | refine Yz ?_
    | (apply zak.of;assumption)
    | (refine zak.of (zf1 g _ _) ?_)
    | (refine zak.of (zd7 g _ _) ?_)
    | (refine zcg.questions g rfl ?_)
    | (refine zcg.kinds g rfl ?_)
    | (refine Cmp.ff hne ?_)
    | (refine zof.mk ⟨_,hq,?_⟩)
    | (refine zof.mk ⟨_,hfk,?_⟩)
    | (exact⟨rfl,rfl,rfl,rfl,rfl,rfl,trivial⟩))
  ·refine In.enter (f:=zai) g.lim rfl rfl ?_
   repeat' ((conv=>whnf);first
   | refine Yz ?_
    | (apply zak.of;assumption)
    | (refine zak.of (zf1 g _ _) ?_)
    | (refine zak.of (zd7 g _ _) ?_)
    | (refine zcg.questions g rfl ?_)
    | (refine zcg.kinds g rfl ?_)
    | (refine Cmp.ff hne ?_)
    | (refine zof.mk ⟨_,hq,?_⟩)
    | (refine zof.mk ⟨_,hfk,?_⟩)
    | (exact⟨rfl,rfl,rfl,rfl,rfl,rfl,trivial⟩))
 | some p=>
 change p.ns.length<=1000000/\p.vs.length<=1000000 at hb
 have hce:=znb g (zxa p ev.length) hb.1 hb.2
 have hqa:=fun hc=>z7k g zaa ev r ho (zxa p ev.length) hc (by omega)
 have hua:=fun hs=>yq4 g zaa ev r ho hrs (zxa p ev.length) hs hev
 have hit:=z23 g ((ev.length:Int)+1) (by omega)
 have hdl:=zm0 20 ((ev.length:Int)+1).toNat
 have hmx:zlc=9223372036854775807:=rfl
 have hst:zhz (zxa p ev.length)=0->zh8 r ev.length (zxa p ev.length)=z5q r ev.length (zxa p ev.length):=fun h=>by rw [zh8,if_neg (fun hn=>hn h)]
 have hbe:yev r ev.length (some p)=if za1 [0,if 1000<=ev.length then 5 else 0]≠0 then za1 [0,if 1000<=ev.length then 5 else 0] else if zhz (zxa p ev.length)≠0 then zhz (zxa p ev.length) else z5q r ev.length (zxa p ev.length):=rfl
 have hgd:(some p).getD noE=p:=rfl
 rw [hgd]
 have hdt:Aqv (yfg ev.length,0)= .tup [S ([100,111,110,101,32]++zaw 20 ((ev.length:Int)+1).toNat),I 0]:=rfl
 rw [hdt]
 generalize hbb:yev r ev.length (some p)=bb at *
 obtain⟨nu,ki,ns,vs,tx⟩:=p
 change Fc E zfn [S text] (.tup [.d (.agg [DI nu,.str ki,.list ns.length (ns.map D.str),.list vs.length (vs.map DI),.str tx]),B true]) at hps
 change Fc E zcn [.d (.agg [DI ((ev.length:Int)+1),.str ki,.list ns.length (ns.map D.str),.list vs.length (vs.map DI),.str tx])] _ at hce
 change ∀hc,Qs E zar [.ptr ⟨0,0,0⟩ 0 0,.d (.agg [DI ((ev.length:Int)+1),.str ki,.list ns.length (ns.map D.str),.list vs.length (vs.map DI),.str tx])] _ _ at hqa
 change ∀hs,Us E zah [.ptr ⟨0,0,0⟩ 0 0,.d (.agg [DI ((ev.length:Int)+1),.str ki,.list ns.length (ns.map D.str),.list vs.length (vs.map DI),.str tx])] _ _ _ at hua
 by_cases hfull:1000<=ev.length
 ·have hbd:bb=5:=by rw [hbe,if_pos hfull];rfl
  clear hbe hbb
  subst hbd
  rw [if_neg (show ¬(5:Int)=0 by decide),if_neg (show ¬(5:Int)=0 by decide)]
  refine In.enter (f:=zai) g.lim rfl rfl ?_
  repeat' ((conv=>whnf);first
  | refine Yz ?_
   | (apply zak.of;assumption)
   | (refine zak.of (zf1 g _ _) ?_)
   | (refine zak.of (zd7 g _ _) ?_)
   | (refine zcg.questions g rfl ?_)
   | (refine zcg.kinds g rfl ?_)
   | (refine Cmp.ff hne ?_)
   | (refine zof.mk ⟨_,hq,?_⟩)
   | (refine zof.mk ⟨_,hfk,?_⟩)
   | (exact⟨rfl,rfl,rfl,rfl,rfl,rfl,trivial⟩))
 rw [if_neg hfull,if_neg (show ¬za1 [0,0]≠0 by decide)] at hbe
 generalize zxa ⟨nu,ki,ns,vs,tx⟩ ev.length=e' at *
 by_cases hc:zhz e'=0
 ·rw [hc,if_neg (fun h=>h rfl)] at hbe
  rw [hc] at hce
  have hqa:=hqa hc
  rw [<-hbe] at hqa
  have hst:=hst hc
  clear hbb
  by_cases ha:bb=0
  ·rw [if_pos ha,if_pos ha]
   have hua:=hua (hst.trans (hbe.symm.trans ha))
   rw [ha] at hqa
   refine In.enter (f:=zai) g.lim rfl rfl ?_
   repeat' ((conv=>whnf);first
   | refine Yz ?_
    | (apply zak.of;assumption)
    | (refine zak.of (zf1 g _ _) ?_)
    | (refine zak.of (zd7 g _ _) ?_)
    | (refine zcg.questions g rfl ?_)
    | (refine zcg.kinds g rfl ?_)
    | (refine Cmp.ff hne ?_)
    | (refine zof.mk ⟨_,hq,?_⟩)
    | (refine zof.mk ⟨_,hfk,?_⟩)
    | (refine zjh.of (r':=I 0) isR rfl rfl rfl rfl hqa rfl rfl rfl ?_)
    | (refine zcp.mk (by rw [hmx];simp only [List.length_cons,List.length_nil];omega) ?_)
    | (refine zog.of (r':= .tup []) isR rfl rfl rfl rfl hua rfl rfl rfl ?_)
    | (refine Cmp.ff (fun h=>h rfl) ?_)
    | (exact⟨rfl,rfl,rfl,rfl,rfl,rfl,trivial⟩))
  ·rw [if_neg ha,if_neg ha]
   refine In.enter (f:=zai) g.lim rfl rfl ?_
   repeat' ((conv=>whnf);first
   | refine Yz ?_
    | (apply zak.of;assumption)
    | (refine zak.of (zf1 g _ _) ?_)
    | (refine zak.of (zd7 g _ _) ?_)
    | (refine zcg.questions g rfl ?_)
    | (refine zcg.kinds g rfl ?_)
    | (refine Cmp.ff hne ?_)
    | (refine zof.mk ⟨_,hq,?_⟩)
    | (refine zof.mk ⟨_,hfk,?_⟩)
    | (refine zjh.of (r':=I bb) isR rfl rfl rfl rfl hqa rfl rfl rfl ?_)
    | (refine Cmp.tt ha ?_)
    | (exact⟨rfl,rfl,rfl,rfl,rfl,rfl,trivial⟩))
 ·rw [if_pos hc] at hbe
  rw [<-hbe] at hce hc
  clear hbb
  rw [if_neg hc,if_neg hc]
  refine In.enter (f:=zai) g.lim rfl rfl ?_
  repeat' ((conv=>whnf);first
  | refine Yz ?_
   | (apply zak.of;assumption)
   | (refine zak.of (zf1 g _ _) ?_)
   | (refine zak.of (zd7 g _ _) ?_)
   | (refine zcg.questions g rfl ?_)
   | (refine zcg.kinds g rfl ?_)
   | (refine Cmp.ff hne ?_)
   | (refine zof.mk ⟨_,hq,?_⟩)
   | (refine zof.mk ⟨_,hfk,?_⟩)
   | (refine Cmp.tt hc ?_)
   | (refine Cmp.ff hc ?_)
   | (exact⟨rfl,rfl,rfl,rfl,rfl,rfl,trivial⟩))
end
def yff (l:List Evt) (t:List UInt8):(List UInt8×Int)×List Evt:=
 if t=[] then(([],25),l)
 else if zew (hdW t)=false then(yma (rgL l) t,l)
 else if yev (rgL l) l.length (zqx t)=0 then((yfg l.length,0),l++[zxa ((zqx t).getD noE) l.length])
 else(([],yev (rgL l) l.length (zqx t)),l)
theorem ye8 (r:Rgs) (n:Nat):yev r n none=25:=rfl
theorem z5u {r:Rgs} {n:Nat} (hn:n<1000) (p:Evt):yev r n (some p)=if zhz (zxa p n)≠0 then zhz (zxa p n) else z5q r n (zxa p n):=by
 unfold yev
 rw [if_neg (show ¬ 1000<=n by omega)]
 rfl
theorem yni {t:List UInt8}:((zqx t).getD noE).ns.length<=3/\((zqx t).getD noE).vs.length<=4:=by
 cases h:zqx t with
 | none=>exact⟨by decide,by decide⟩
 | some p=>
  unfold zqx at h
  split at h
  ·cases h
  ·rename_i k r hp
   split at h
   ·obtain rfl:=Option.some.inj h
    rename_i hok
    have ⟨g1,g2⟩:=zsp k
    unfold z5n at hok
    simp only [Bool.and_eq_true,decide_eq_true_eq] at hok
    have:=hok.1.1.2
    unfold evW
    simp only [Option.getD_some,List.length_take,List.length_map,List.length_drop]
    omega
   ·cases h
section
variable {E : Oracle} (g : Good E)
include g
theorem z0f (l:List Evt) (hl:l.length<999) (hz:erL l=0) (hnm:NmR (rgL l)) (hrs:(rgL l).rs.length<1000) (text:List UInt8) (ht:text.length<=4096):
  Ui E zai [.ptr ⟨0,0,0⟩ 0 0,S text] (mR zaa l (rgL l)) (Aqv (yff l text).1) (mR zaa (yff l text).2 (rgL (yff l text).2)):=by
 have ho:=ypp (by omega) hz
 unfold yff
 by_cases hne:text=[]
 ·subst hne
  rw [if_pos rfl]
  exact yq7 g l (rgL l)
 rw [if_neg hne]
 cases hk:zew (hdW text) with
 | false=>
  rw [if_pos rfl]
  show Ui E _ _ _ (Aqv (yma (rgL l) text)) _
  unfold yma
  by_cases h1:hdW text=yf5
  ·rw [if_pos h1]
   exact yii g l (rgL l) text ht hne yf5 h1 4 2 zbw _ rfl (ypv g l (rgL l) ho text (by omega))
  rw [if_neg h1]
  by_cases h2:hdW text=z8v
  ·rw [if_pos h2]
   exact yii g l (rgL l) text ht hne z8v h2 3 2 zbx _ rfl (ypw g l (rgL l) ho hnm text (by omega))
  rw [if_neg h2]
  by_cases h3:hdW text=zgv
  ·rw [if_pos h3]
   exact yii g l (rgL l) text ht hne zgv h3 2 1 zby _ rfl (ypx g l (rgL l) ho hnm text (by omega))
  rw [if_neg h3]
  by_cases h4:hdW text=z6y
  ·rw [if_pos h4]
   exact yii g l (rgL l) text ht hne z6y h4 2 0 zbz _ rfl (ypy g l (rgL l) ho hnm text (by omega))
  rw [if_neg h4]
  by_cases h5:hdW text=zze
  ·rw [if_pos h5]
   exact yii g l (rgL l) text ht hne zze h5 1 0 zcf _ rfl (ypz g l (rgL l) ho hnm text (by omega))
  rw [if_neg h5]
  exact yq6 g l (rgL l) text ht hne (yha ⟨h1,h2,h3,h4,h5⟩) hk
 | true=>
  rw [if_neg (by decide)]
  have hq:zp6 (.str (hdW text)) qsM=some none:=by
   refine yha ⟨?_,?_,?_,?_,?_⟩<;>intro h<;>rw [h] at hk<;>exact absurd hk (by decide)
  obtain⟨b1,b2⟩:=yni (t:=text)
  have h:=yq5 g l (rgL l) ho hrs (by omega) text ht hne hq hk ⟨Nat.le_trans b1 (by decide),Nat.le_trans b2 (by decide)⟩
  by_cases hb0:yev (rgL l) l.length (zqx text)=0
  ·rw [if_pos hb0,if_pos hb0] at h
   rw [if_pos hb0]
   have hr:rgL (l++[zxa ((zqx text).getD noE) l.length])=zpf (rgL l) (zxa ((zqx text).getD noE) l.length):=by
    cases hpe:zqx text with
    | none=>rw [hpe,ye8] at hb0;exact absurd hb0 (by decide)
    | some p=>
     rw [hpe,z5u (by omega)] at hb0
     have hst:zh8 (rgL l) l.length (zxa p l.length)=0:=hb0
     unfold rgL
     rw [zui,if_neg (show ¬(zfd rg0 0 l).2.2≠0 from fun h=>h hz),Nat.zero_add]
     show (zfd (rgL l) l.length [zxa p l.length]).1=_
     rw [zhr,if_neg (fun h=>h hst)]
     rfl
   rw [hr]
   exact h
  ·rw [if_neg hb0,if_neg hb0] at h
   rw [if_neg hb0]
   exact h
end
def z2z (l:List Evt) (at0:Nat):List (List UInt8)->List Evt×Nat×Int
 | []=>(l,at0,0)
 | p::r=>if zkw p=false then(l,at0,28) else if z08 (z9b p) l.length≠0 then(l,at0,z08 (z9b p) l.length) else z2z (l++[(zuv (z9b p)).1]) (at0+p.length) r
def zv5 (s:List UInt8):List Evt×Nat×Int:=if 1000000<s.length then([],0,26) else z2z [] 0 (pcs s)
abbrev RcV (o:List Evt×Nat×Int):V:= .tup [LE o.1,I (o.2.1:Nat),I o.2.2]
theorem zz0 {l:List Evt} {i:Nat} {s:List UInt8} (h:s≠[]) (hn:(10:UInt8)∉s):z2z l i (pcs s)=(l,i,28):=by
 have hw:zkw s=false:=decide_eq_false fun e=>by
  obtain⟨t,e⟩:=List.getLast?_eq_some_iff.1 e
  exact hn (by rw [e];simp)
 rw [z99 s h hn,z2z,if_pos hw]
theorem zmf {l:List Evt} {i:Nat} {a r:List UInt8} (hn:(10:UInt8)∉a):z2z l i (pcs (a++10::r))=if z08 a l.length≠0 then(l,i,z08 a l.length) else z2z (l++[(zuv a).1]) (i+(a.length+1)) (pcs r):=by
 rw [yg6 a r hn,z2z,(zxw _).1,(zxw _).2,if_neg (by decide)]
 simp
theorem ynr {s:List UInt8} {b:Int} (h:z08 s b=0):(zuv s).2=0/\(zuv s).1.nu=b+1:=by
 unfold z08 at h
 split at h
 ·rename_i h1;exact absurd h h1
 ·rename_i h1
  split at h
  ·cases h
  ·rename_i h2
   exact⟨Classical.not_not.1 h1,Classical.not_not.1 h2⟩
theorem yfs {k:List UInt8} (h:zew k=true):1<=zc8 k/\1<=zjx k:=by
 rcases zir k with rfl|rfl|rfl|rfl|rfl|rfl|⟨h1,h2,h3,h4,h5,h6⟩
 all_goals (try (exact⟨by decide,by decide⟩))
 exfalso
 unfold zew at h
 simp only [Bool.or_eq_true,decide_eq_true_eq] at h
 rcases h with((((h|h)|h)|h)|h)|h
 ·exact h1 h
 ·exact h2 h
 ·exact h3 h
 ·exact h4 h
 ·exact h5 h
 ·exact h6 h
theorem ybi {s:List UInt8} (h:zl6 s=true):ze9 (zs2 s)=s:=by
 unfold zl6 at h
 unfold zs2
 cases hn:z9x s with
 | none=>rw [hn] at h;cases h
 | some n=>exact z69 hn
theorem ygw {k:List UInt8} {r:List (List UInt8)} (h:z5n k r=true):zew k=true/\r.length=zc8 k+zjx k/\∀x∈r.drop (zc8 k),zl6 x=true:=by
 unfold z5n at h
 simp only [Bool.and_eq_true,decide_eq_true_eq] at h
 exact⟨h.1.1.1,h.1.1.2,List.all_eq_true.1 h.2⟩
theorem yg2 {s:List UInt8} {e:Evt} (h:zqx s=some e):zi0 e=s:=by
 unfold zqx at h
 split at h
 ·cases h
 ·rename_i k r hp
  split at h
  ·rename_i hok
   obtain rfl:=Option.some.inj h
   obtain⟨_,_,h3⟩:=ygw hok
   unfold zi0 evW
   have e1:((r.drop (zc8 k)).map zs2).map ze9=r.drop (zc8 k):=by
    rw [List.map_map]
    conv=>rhs;rw [<-List.map_id (r.drop (zc8 k))]
    exact List.map_congr_left fun x hx=>ybi (h3 x hx)
   show zfx 32 (k::r.take (zc8 k)++((r.drop (zc8 k)).map zs2).map ze9)=s
   rw [e1,List.cons_append,List.take_append_drop,<-hp]
   exact zwk 32 s
  ·cases h
theorem yg3 {s:List UInt8} {e:Evt} (h:zqx s=some e):(1<=e.ns.length/\e.ns.length<=3)/\(1<=e.vs.length/\e.vs.length<=4)/\∀x∈e.vs,0<=x/\x<=999999999:=by
 unfold zqx at h
 split at h
 ·cases h
 ·rename_i k r hp
  split at h
  ·rename_i hok
   obtain rfl:=Option.some.inj h
   obtain⟨h1,h2,h3⟩:=ygw hok
   have ⟨f1,f2⟩:=yfs h1
   have ⟨g1,g2⟩:=zsp k
   unfold evW
   dsimp only
   rw [List.length_take,List.length_map,List.length_drop]
   refine⟨by omega,by omega,fun x hx=> ?_⟩
   obtain⟨y,_,rfl⟩:=List.mem_map.1 hx
   exact yf1 y
  ·cases h
theorem yem {t:List UInt8} {e:Evt} (h:z1f t=some e):znf e=t/\zhz e=0/\(t.length<=1000000->PrE e):=by
 rcases z3a t with⟨_,_,ht⟩|⟨n,r,_,hth,_,ht⟩
 ·rw [ht] at h;cases h
 ·rw [ht] at h
  split at h
  ·rename_i hi
   split at h
   ·rename_i e' hp
    split at h
    ·rename_i hc
     obtain rfl:=Option.some.inj h
     have hb:=yg2 hp
     obtain⟨p1,p2,p3⟩:=yg3 hp
     have ht':znf {e' with nu:=zs2 n}=t:=by
      unfold znf
      show ze9 (zs2 n)++32::zi0 e'=t
      rw [hb,ybi hi,hth]
     exact⟨ht',hc,fun hl=>⟨yf1 n,⟨p1.1,by show e'.ns.length<=1000;omega⟩,⟨p2.1,by show e'.vs.length<=1000;omega⟩,p3,by rw [ht'];exact hl⟩⟩
    ·cases h
   ·cases h
  ·cases h
theorem yhg {s:List UInt8} (h:(zuv s).2=0):zcs (zuv s).1=s/\zhz (zuv s).1=0/\(s.length<=1000000->PrE (zuv s).1):=by
 by_cases h8:s.length<8
 ·rw [z2y h8] at h;cases h
 ·obtain⟨t,x,c,rfl,h7⟩:=ylg (Nat.le_of_not_lt h8)
  have hE:=zo2 (t:=t) (x:=x) h7
  split at hE
  ·rw [hE] at h;cases h
  ·rename_i hx
   split at hE
   ·rw [hE] at h;cases h
   ·rename_i hc
    rw [hE] at h ⊢
    cases ht:z1f t with
    | none=>rw [ht] at h;cases h
    | some e=>
     obtain⟨b1,b2,b3⟩:=yem ht
     have hx':x=35:=Classical.byContradiction fun e=>hx (.inl e)
     have hc':c=z8j t:=Classical.not_not.1 hc
     refine⟨?_,b2,fun hl=>b3 ?_⟩
     ·show zcs e=_
      unfold zcs
      rw [b1,hx',hc']
     ·rw [List.length_append] at hl;omega
theorem zxj (a b:List Evt):zbn (a++b)=zbn a++zbn b:=List.flatMap_append ..
theorem z4m (e:Evt):zbn [e]=zcs e++[10]:=by unfold zbn;simp
theorem zzz:∀(n:Nat) (s:List UInt8),s.length<=n->n<=1000000->∀(l0:List Evt) (i:Nat) (l:List Evt) (j:Nat) (x:Int),z2z l0 i (pcs s)=(l,j,x)->(∀e∈l0,PrE e/\zhz e=0)->
  (∀e∈l,PrE e/\zhz e=0)/\l0.length<=l.length/\l.length<=l0.length+s.length/\(x=0->zbn l=zbn l0++s)
 | 0,s,hs,_,l0,i,l,j,x,h,h0=>by
  obtain rfl:=List.length_eq_zero_iff.1 (Nat.le_zero.1 hs)
  rw [zzt,z2z] at h
  obtain⟨rfl,_,rfl⟩:l0=l/\i=j/\(0:Int)=x:=by simpa using h
  exact⟨h0,Nat.le_refl _,by simp,fun _=>by simp⟩
 | n+1,s,hs,hn,l0,i,l,j,x,h,h0=>by
  by_cases he:s=[]
  ·exact zzz 0 s (by rw [he];simp) (by omega) l0 i l j x h h0
  ·rcases z7h s he with⟨hnl,hp⟩|⟨a,r,hnl,rfl,hp⟩
   ·rw [zz0 he hnl] at h
    obtain⟨rfl,_,rfl⟩:l0=l/\i=j/\(28:Int)=x:=by simpa using h
    exact⟨h0,Nat.le_refl _,by omega,fun h=>by cases h⟩
   ·have hlen:(a++10::r).length=a.length+(r.length+1):=by simp
    rw [zmf hnl] at h
    split at h
    ·rename_i hz
     obtain⟨rfl,_,rfl⟩:l0=l/\i=j/\z08 a l0.length=x:=by simpa using h
     exact⟨h0,Nat.le_refl _,by omega,fun h=>absurd h hz⟩
    ·rename_i hz
     obtain⟨z1,z2⟩:=ynr (Classical.not_not.1 hz)
     obtain⟨b1,b2,b3⟩:=yhg z1
     have ih:=zzz n r (by omega) (by omega) _ _ _ _ _ h (fun e hm=>by
      rcases List.mem_append.1 hm with hm|hm
      ·exact h0 e hm
      ·rw [List.mem_singleton] at hm
       subst hm
       exact⟨b3 (by omega),b2⟩)
     rw [List.length_append,List.length_singleton] at ih
     obtain⟨i1,i2,i3,i4⟩:=ih
     refine⟨i1,by omega,by omega,fun hx=> ?_⟩
     rw [i4 hx,zxj,z4m,b1]
     simp
theorem yhh {s:List UInt8} (hs:s.length<=1000000):(∀e∈(zv5 s).1,PrE e/\zhz e=0)/\(zv5 s).1.length<=s.length/\((zv5 s).2.2=0->zbn (zv5 s).1=s):=by
 unfold zv5
 rw [if_neg (by omega)]
 obtain⟨h1,_,h3,h4⟩:=zzz s.length s (Nat.le_refl _) hs [] 0 _ _ _ rfl (fun e h=>absurd h List.not_mem_nil)
 exact⟨h1,by simpa using h3,fun h=>by simpa [zbn] using h4 h⟩
theorem z0b {l:List (List UInt8)} {m:Nat} (h:∀x∈l,x.length<=m):(zmh l).length<=l.length*(m+1):=by
 induction l with
 | nil=>simp [zmh]
 | cons x r ih=>
  have:=h x (by simp)
  have ih:=ih fun y hy=>h y (by simp [hy])
  unfold zmh at ih ⊢
  rw [List.flatMap_cons,List.length_append,List.length_cons,List.length_cons,Nat.succ_mul]
  omega
structure ye1 (e:Evt):Prop where
 ki:e.ki.length<=60
 ns:e.ns.length<=6
 vs:e.vs.length<=8
 na:∀x∈e.ns,x.length<=60
theorem ymi {e:Evt} (h:zhz e=0):(1<=e.nu/\e.nu<=1000)/\zew e.ki=true/\e.ns.length=zc8 e.ki/\e.vs.length=zjx e.ki/\far e.vs=false:=by
 unfold zhz at h
 rw [zgg] at h
 have h1:=h (rng e.nu 1 1000) (by simp)
 have h2:=h (if !zew e.ki then 13 else 0) (by simp)
 have h3:=h (if e.ns.length≠zc8 e.ki\/e.vs.length≠zjx e.ki then 2 else 0) (by simp)
 have h5:=h (if far e.vs then 3 else 0) (by simp)
 refine⟨?_,?_,?_,?_,?_⟩
 ·unfold rng at h1
  split at h1
  ·cases h1
  ·omega
 ·cases hk:zew e.ki with
  | true=>rfl
  | false=>rw [hk] at h2;cases h2
 ·split at h3
  ·cases h3
  ·omega
 ·split at h3
  ·cases h3
  ·omega
 ·cases hk:far e.vs with
  | false=>rfl
  | true=>rw [hk] at h5;cases h5
theorem yc8 {e:Evt} (hs:ye1 e) (h:zhz e=0):PrE e/\(znf e).length<=1000:=by
 obtain⟨h1,h2,h3,h4,h5⟩:=ymi h
 have ⟨f1,f2⟩:=yfs h2
 obtain⟨s1,s2,s3,s4⟩:=hs
 have hva:∀x∈e.vs,0<=x/\x<=999999999:=fun x hx=>by
  unfold far at h5
  rw [List.any_eq_false] at h5
  have:=h5 x hx
  unfold yji at this
  simp only [decide_eq_true_eq] at this
  omega
 have hln:(znf e).length<=1000:=by
  rw [ydi]
  have t1:=z0b s4
  have t2:(zmh (e.vs.map ze9)).length<=e.vs.length*21:=by
   have:=z0b (l:=e.vs.map ze9) (m:=20) fun x hx=>by
    obtain⟨y,_,rfl⟩:=List.mem_map.1 hx
    exact ybj y
   rwa [List.length_map] at this
  have t3:=ybj e.nu
  have t4:e.ns.length*(60+1)<=6*61:=Nat.mul_le_mul_right _ s2
  have t5:e.vs.length*21<=8*21:=Nat.mul_le_mul_right _ s3
  simp only [List.length_append,List.length_cons,List.length_nil]
  omega
 exact⟨⟨by omega,by omega,by omega,hva,by omega⟩,hln⟩
theorem yc2:∀(l:List Evt) (r:Rgs) (n:Nat),(zfd r n l).1.rs.length<=r.rs.length+l.length
 | [],r,n=>Nat.le_refl _
 | e::l,r,n=>by
  rw [zhr]
  split
  ·simp [rg0]
  ·have h1:=yc2 l (zpf r e) (n+1)
   have h2:=ya8 r e
   rw [List.length_cons]
   omega
theorem ylt (l:List Evt):(rgL l).rs.length<=l.length:=by
 have:=yc2 l rg0 0
 have e:(rgL l)=(zfd rg0 0 l).1:=rfl
 rw [e]
 simpa [rg0] using this
theorem yb4 {k:List UInt8} (h:zew k=true):k.length<=60:=by
 rcases zir k with rfl|rfl|rfl|rfl|rfl|rfl|⟨h1,h2,h3,h4,h5,h6⟩
 all_goals (try (exact(by decide)))
 exfalso
 unfold zew at h
 simp only [Bool.or_eq_true,decide_eq_true_eq] at h
 rcases h with((((h|h)|h)|h)|h)|h
 ·exact h1 h
 ·exact h2 h
 ·exact h3 h
 ·exact h4 h
 ·exact h5 h
 ·exact h6 h
theorem ybf {e:Evt} (h:zhz e=0):PrE e/\(znf e).length<=1000:=by
 obtain⟨a1,a2,a3,a4,_⟩:=zo8 h
 have ⟨f1,f2⟩:=zsp e.ki
 exact yc8 ⟨yb4 a1,by omega,by omega,fun x hx=>Nat.le_trans (z4p (a4 x hx)) (by decide)⟩ h
theorem zjv {l:List Evt} (hz:erL l=0):∀e∈l,zhz e=0:=z7r l rg0 0 hz
theorem ylk {l:List Evt} (hz:erL l=0):∀e∈l,PrE e:=fun e he=>(ybf (zjv hz e he)).1
theorem z6m {l:List Evt} (hz:erL l=0):NmR (rgL l):=yc0 l rg0 0 ypa hz
theorem yfm {l:List Evt} (hz:erL l=0):∀e∈l,e.ns.length<=1000000/\e.vs.length<=1000000:=fun e he=>by
 obtain⟨_,a2,a3,_⟩:=zo8 (zjv hz e he)
 have ⟨f1,f2⟩:=zsp e.ki
 omega
theorem z9s:∀(l:List Evt),(∀e∈l,(znf e).length<=1000)->(zbn l).length<=l.length*1009
 | [],_=>by simp [zbn]
 | e::r,h=>by
  have ih:=z9s r fun x hx=>h x (List.mem_cons_of_mem _ hx)
  have h1:=h e (by simp)
  have e1:zbn (e::r)=(zcs e++[10])++zbn r:=rfl
  rw [e1,List.length_append,List.length_append,yb8,List.length_singleton,List.length_cons,Nat.succ_mul]
  omega
theorem zy2 {l:List Evt} (hl:l.length<=900) (hz:erL l=0):(zbn l).length<=1000000:=by
 have:=z9s l fun e he=>(ybf (zjv hz e he)).2
 omega
theorem z4s {n:Nat} (h:n<=9):48<=(UInt8.ofNat (48+n)).toNat/\(UInt8.ofNat (48+n)).toNat<=57:=by
 have:(UInt8.ofNat (48+n)).toNat=48+n:=by
  rw [UInt8.toNat_ofNat']
  omega
 omega
theorem z1x:∀(f u:Nat),∀b∈zaw f u,48<=b.toNat/\b.toNat<=57
 | 0,_,b,h=>by cases h
 | f+1,u,b,h=>by
  unfold zaw at h
  split at h
  ·rw [List.mem_singleton] at h
   subst h
   exact z4s (by omega)
  ·rcases List.mem_append.1 h with h|h
   ·exact z1x f _ b h
   ·rw [List.mem_singleton] at h
    subst h
    exact z4s (by omega)
theorem z5j:∀(k:Nat) (n:Int),∀b∈zs1 k n,48<=b.toNat/\b.toNat<=57
 | 0,_,b,h=>by cases h
 | k+1,n,b,h=>by
  unfold zs1 at h
  rcases List.mem_append.1 h with h|h
  ·exact z5j k _ b h
  ·rw [List.mem_singleton] at h
   subst h
   exact z4s (by omega)
theorem zvw {b:UInt8} (hb:b.toNat<48) (n:Int):b∉ze9 n:=fun h=>by
 have:=z1x 20 n.toNat b h
 omega
theorem yj3 {b:UInt8} (hb:b.toNat<48) {s:List UInt8} (h:zck s=true):b∉s:=fun hm=>by
 obtain⟨_,_,h3⟩:=of_decide_eq_true h
 obtain⟨i,hi,e⟩:=List.mem_iff_getElem.1 hm
 have:=h3 i hi
 have e2:s.getD i 0=b:=by simp [List.getD,hi,e]
 rw [e2] at this
 unfold z8w at this
 omega
theorem yj2 {b:UInt8} (hb:b.toNat<48) {k:List UInt8} (h:zew k=true):b∉k:=by
 have key:∀k':List UInt8,(k'.all fun c=>decide (48<=c.toNat))=true->b∉k':=fun k' hk hm=>by
  have:=List.all_eq_true.1 hk b hm
  simp only [decide_eq_true_eq] at this
  omega
 rcases zir k with rfl|rfl|rfl|rfl|rfl|rfl|⟨h1,h2,h3,h4,h5,h6⟩
 all_goals (try (exact key _ (by decide)))
 exfalso
 unfold zew at h
 simp only [Bool.or_eq_true,decide_eq_true_eq] at h
 rcases h with((((h|h)|h)|h)|h)|h
 ·exact h1 h
 ·exact h2 h
 ·exact h3 h
 ·exact h4 h
 ·exact h5 h
 ·exact h6 h
theorem z7a {b:UInt8} (hb:b.toNat<48) {e:Evt} (h:zhz e=0):∀w∈e.ki::(e.ns++e.vs.map ze9),b∉w:=fun w hw=>by
 obtain⟨a1,_,_,a4,_⟩:=zo8 h
 rcases List.mem_cons.1 hw with rfl|hw
 ·exact yj2 hb a1
 ·rcases List.mem_append.1 hw with hw|hw
  ·exact yj3 hb (a4 w hw)
  ·obtain⟨n,_,rfl⟩:=List.mem_map.1 hw
   exact zvw hb n
theorem z2m {b c:UInt8} (hbc:b≠c):∀l:List (List UInt8),(∀w∈l,b∉w)->b∉zfx c l
 | [],_=>List.not_mem_nil
 | [x],h=>h x (by simp)
 | x::y::r,h=>by
  have ih:=z2m hbc (y::r) fun w hw=>h w (List.mem_cons_of_mem _ hw)
  simp only [zfx,List.mem_append,List.mem_cons,not_or]
  exact⟨h x (by simp),hbc,ih⟩
theorem zlv {n:Int} (h:0<=n/\n<=999999999):zl6 (ze9 n)=true/\zs2 (ze9 n)=n:=by
 have:=zzk h
 obtain⟨h1,h2⟩:=ymy this
 exact⟨h1,by rw [h2];omega⟩
theorem zv2 {e:Evt} (h:zhz e=0):parts 32 (zi0 e)=e.ki::(e.ns++e.vs.map ze9):=
 zwn 32 _ (by simp) (z7a (by decide) h)
theorem z7f {e:Evt} (h:zhz e=0):zqx (zi0 e)=some {e with nu:=0}:=by
 obtain⟨a1,a2,a3,a4,a5,a6,_⟩:=zo8 h
 unfold zqx
 rw [zv2 h]
 have hok:z5n e.ki (e.ns++e.vs.map ze9)=true:=by
  unfold z5n
  rw [a1,decide_eq_true (by rw [List.length_append,List.length_map];omega),<-a2,List.drop_left' rfl]
  have e1:¬ []∈e.ns++e.vs.map ze9:=fun hm=>by
   rcases List.mem_append.1 hm with hm|hm
   ·exact ygj (a4 _ hm) rfl
   ·obtain⟨n,hn,e⟩:=List.mem_map.1 hm
    exact absurd e (zqo 19 n.toNat)
  have e2:(e.vs.map ze9).all zl6=true:=by
   rw [List.all_eq_true]
   intro x hx
   obtain⟨n,hn,rfl⟩:=List.mem_map.1 hx
   exact(zlv (a5 n hn)).1
  rw [decide_eq_false e1,e2]
  rfl
 dsimp only
 rw [if_pos hok]
 unfold evW
 rw [<-a2,List.take_left' rfl,List.drop_left' rfl,List.map_map]
 have e3:e.vs.map (zs2∘ze9)=e.vs:=by
  conv=>rhs;rw [<-List.map_id e.vs]
  exact List.map_congr_left fun n hn=>(zlv (a5 n hn)).2
 rw [e3]
 obtain⟨nu,ki,ns,vs,tx⟩:=e
 dsimp only at a6
 subst a6
 rfl
theorem yif {e:Evt} (h:zhz e=0):z1f (znf e)=some e:=by
 obtain⟨_,_,_,_,_,_,a7,a8⟩:=zo8 h
 have hd:=zlv (n:=e.nu) (by omega)
 unfold z1f znf
 rw [zgb 32 (zi0 e) (ze9 e.nu) (zvw (by decide) _),zv2 h]
 dsimp only
 rw [if_pos hd.1,show ze9 e.nu++32::zi0 e=(ze9 e.nu++[32])++zi0 e by simp,List.drop_left' (by simp),z7f h,hd.2]
 dsimp only
 rw [if_pos h]
theorem z8l (s:List UInt8):zwp (z8j s)=true:=by
 unfold zwp
 rw [zq0,Bool.and_eq_true]
 refine⟨rfl,?_⟩
 rw [List.all_eq_true]
 intro b hb
 exact decide_eq_true (z5j 7 _ b hb)
theorem zuh {e:Evt} (h:zhz e=0):zuv (zcs e)=(e,0):=by
 unfold zcs
 rw [zo2 (zq0 _),if_neg (by rw [z8l];simp),if_neg (fun h=>h rfl),yif h]
 rfl
theorem zst {e:Evt} (h:zhz e=0):(10:UInt8)∉zcs e:=by
 unfold zcs znf zi0
 simp only [List.mem_append,List.mem_cons,not_or]
 refine⟨⟨zvw (by decide) _,by decide,z2m (by decide) _ (z7a (by decide) h)⟩,by decide,fun hm=> ?_⟩
 have:=z5j 7 _ _ hm
 exact absurd this.1 (by decide)
def yis:Nat->List Evt->Prop
 | _,[]=>True
 | n,e::r=>e.nu=n+1/\yis (n+1) r
theorem z7n {e:Evt} (h:zhz e=0) (b:Int):z08 (zcs e) b=if e.nu≠b+1 then 11 else 0:=by
 unfold z08
 rw [zuh h,if_neg (fun h=>h rfl)]
theorem zzy {e:Evt} (h:zhz e=0) {b:Int} (hn:e.nu=b+1):z08 (zcs e) b=0:=by
 rw [z7n h,if_neg (fun h=>h hn)]
theorem zko (e:Evt) (r:List Evt):zbn (e::r)=(zcs e++[10])++zbn r:=rfl
theorem z7o:∀(l l0:List Evt) (i:Nat) (s:List UInt8),(∀e∈l,zhz e=0)->yis l0.length l->z2z l0 i (pcs (zbn l++s))=z2z (l0++l) (i+(zbn l).length) (pcs s)
 | [],l0,i,s,_,_=>by simp [zbn]
 | e::r,l0,i,s,h,hn=>by
  have hc:=h e (by simp)
  have e1:zbn (e::r)++s=zcs e++10::(zbn r++s):=by rw [zko];simp
  rw [e1,zmf (zst hc),if_neg (fun h=>h (zzy hc hn.1)),zuh hc]
  rw [z7o r (l0++[e]) _ s (fun x hx=>h x (List.mem_cons_of_mem _ hx)) (by rw [List.length_append];exact hn.2)]
  have e2:i+((zcs e).length+1)+(zbn r).length=i+(zbn (e::r)).length:=by
   rw [zko]
   simp only [List.length_append,List.length_cons,List.length_nil]
   omega
  rw [e2]
  simp
theorem zm8:∀(l:List Evt) (r:Rgs) (n:Nat),(zfd r n l).2.2=0->yis n l
 | [],_,_,_=>trivial
 | e::l,r,n,h=>by
  rw [zhr] at h
  split at h
  ·rename_i h1;exact absurd h h1
  ·rename_i h1
   obtain⟨_,h2⟩:=zv6 (Classical.not_not.1 h1)
   exact⟨(z1k h2).1,zm8 l _ _ h⟩
theorem yj1:∀(l:List Evt) (n:Nat),yis n l->∀k,(hk:k<l.length)->l[k].nu=n+k+1
 | [],_,_,_,hk=>absurd hk (Nat.not_lt_zero _)
 | e::r,n,h,0,_=>by
  have:=h.1
  simpa using this
 | e::r,n,h,k+1,hk=>by
  have:=yj1 r (n+1) h.2 k (by simpa using hk)
  simp only [List.getElem_cons_succ]
  omega
theorem ygn:∀(l:List Evt) (n k:Nat),yis n l->yis n (l.take k)
 | [],_,_,_=>by simp [yis]
 | _::_,_,0,_=>trivial
 | e::r,n,k+1,h=>⟨h.1,ygn r (n+1) k h.2⟩
theorem z7p {l:List Evt} (hc:∀e∈l,zhz e=0) (hn:yis 0 l) (s:List UInt8) (hl:(zbn l++s).length<=1000000):zv5 (zbn l++s)=z2z l (zbn l).length (pcs s):=by
 unfold zv5
 rw [if_neg (by omega),z7o l [] 0 s hc hn]
 simp
theorem ycx {l:List Evt} (hl:l.length<=900) (hz:erL l=0):zv5 (zbn l)=(l,(zbn l).length,0):=by
 have:=z7p (zjv hz) (zm8 l rg0 0 hz) [] (by have:=zy2 hl hz;simpa using this)
 rw [List.append_nil,zzt,z2z] at this
 exact this
theorem ztu {l:List Evt} (hz:erL l=0) (k:Nat):erL (l.take k)=0:=by
 have h:=zui (l.take k) rg0 0 (l.drop k)
 rw [List.take_append_drop] at h
 unfold erL at hz ⊢
 by_cases h0:(zfd rg0 0 (l.take k)).2.2=0
 ·exact h0
 ·rw [if_pos h0] at h
  rw [h] at hz
  exact absurd hz h0
theorem yjh {l:List Evt} (hz:erL l=0) {k:Nat} (hk:k<l.length):zh8 (rgL (l.take k)) k l[k]=0:=by
 have h:=ztu hz (k+1)
 rw [List.take_succ_eq_append_getElem hk] at h
 have h0:(zfd rg0 0 (l.take k)).2.2=0:=ztu hz k
 unfold erL at h
 rw [zui,if_neg (fun hn=>hn h0),Nat.zero_add,List.length_take,Nat.min_eq_left (by omega),zhr] at h
 by_cases hs:zh8 (rgL (l.take k)) k l[k]=0
 ·exact hs
 ·have hs':zh8 (zfd rg0 0 (l.take k)).1 k l[k]≠0:=hs
  rw [if_pos hs'] at h
  exact absurd h hs
theorem yjd {l:List Evt} (hl:l.length<=900) (hz:erL l=0) {k:Nat} (hk:k<l.length):yff (l.take k) (zi0 l[k])=((yfg k,0),l.take (k+1)):=by
 have hc:=zjv hz _ (List.getElem_mem hk)
 have hs:=yjh hz hk
 have hn:=yj1 l 0 (zm8 l rg0 0 hz) k hk
 have hlk:(l.take k).length=k:=by rw [List.length_take];omega
 have hp:=zv2 hc
 have hh:hdW (zi0 l[k])=l[k].ki:=by unfold hdW;rw [hp];rfl
 have hki:=(zo8 hc).1
 have hne:zi0 l[k]≠[]:=fun e=>by
  rw [e] at hh
  have:hdW []=[]:=rfl
  rw [this] at hh
  rw [<-hh] at hki
  exact absurd hki (by decide)
 have hev:zxa ({l[k] with nu:=0}:Evt) k=l[k]:=by
  have e1:((k:Nat):Int)+1=l[k].nu:=by omega
  unfold zxa
  dsimp only
  rw [e1]
 unfold yff
 rw [if_neg hne,hh,hki,if_neg (by decide),hlk,z7f hc,z5u (by omega),hev,Option.getD_some,hev]
 have h0:(if zhz l[k]≠0 then zhz l[k] else z5q (rgL (l.take k)) k l[k])=0:=hs
 rw [h0,if_pos rfl,List.take_succ_eq_append_getElem hk]
def whE:List Evt->Nat->Nat
 | [],_=>0
 | e::r,c=>if(zcs e).length+1<=c then whE r (c-((zcs e).length+1))+1 else 0
theorem yl2:∀(l:List Evt) (c:Nat),whE l c<=l.length
 | [],_=>Nat.le_refl _
 | e::r,c=>by
  unfold whE
  split
  ·have:=yl2 r (c-((zcs e).length+1))
   rw [List.length_cons];omega
  ·exact Nat.zero_le _
theorem yil:∀(l:List Evt) (c k:Nat),k<l.length->((zbn (l.take (k+1))).length<=c↔k<whE l c)
 | [],_,_,h=>absurd h (Nat.not_lt_zero _)
 | e::r,c,0,_=>by
  have e1:zbn ((e::r).take 1)=zcs e++[10]:=by
   rw [List.take_succ_cons,List.take_zero,z4m]
  rw [e1]
  unfold whE
  simp only [List.length_append,List.length_cons,List.length_nil]
  split<;>omega
 | e::r,c,k+1,h=>by
  have ih:=yil r (c-((zcs e).length+1)) k (by simpa using h)
  rw [List.take_succ_cons,zko]
  unfold whE
  simp only [List.length_append,List.length_cons,List.length_nil]
  split
  ·constructor
   ·intro h1
    have:=ih.1 (by omega)
    omega
   ·intro h1
    have:=ih.2 (by omega)
    omega
  ·omega
theorem ycv:∀(l l0:List Evt) (i c:Nat),(∀e∈l,zhz e=0)->yis l0.length l->∃j x,z2z l0 i (pcs ((zbn l).take c))=(l0++l.take (whE l c),j,x)/\(x=0\/x=28)
 | [],l0,i,c,_,_=>⟨i,0,by simp [zbn,zzt,z2z],.inl rfl⟩
 | e::r,l0,i,c,h,hn=>by
  have hc:=h e (by simp)
  unfold whE
  by_cases hle:(zcs e).length+1<=c
  ·rw [if_pos hle]
   have e1:(zbn (e::r)).take c=zcs e++10::(zbn r).take (c-((zcs e).length+1)):=by
    rw [zko,List.take_append,List.take_of_length_le (by simp;omega)]
    simp
   rw [e1,zmf (zst hc),if_neg (fun h=>h (zzy hc hn.1)),zuh hc]
   obtain⟨j,x,h1,h2⟩:=ycv r (l0++[e]) (i+((zcs e).length+1)) (c-((zcs e).length+1)) (fun x hx=>h x (List.mem_cons_of_mem _ hx)) (by rw [List.length_append];exact hn.2)
   refine⟨j,x,?_,h2⟩
   rw [h1,List.take_succ_cons]
   simp
  ·rw [if_neg hle]
   have e1:(zbn (e::r)).take c=(zcs e).take c:=by
    rw [zko,List.append_assoc,List.take_append_of_le_length (by omega)]
   rw [e1]
   have hno:(10:UInt8)∉(zcs e).take c:=fun hm=>zst hc (List.mem_of_mem_take hm)
   by_cases h0:(zcs e).take c=[]
   ·rw [h0,zzt,z2z]
    exact⟨i,0,by simp,.inl rfl⟩
   ·rw [zz0 h0 hno]
    exact⟨i,28,by simp,.inr rfl⟩
theorem ykc {l:List Evt} (hl:l.length<=900) (hz:erL l=0) (c:Nat):∃j x,zv5 ((zbn l).take c)=(l.take (whE l c),j,x)/\(x=0\/x=28):=by
 obtain⟨j,x,h1,h2⟩:=ycv l [] 0 c (zjv hz) (zm8 l rg0 0 hz)
 refine⟨j,x,?_,h2⟩
 unfold zv5
 have:=zy2 hl hz
 rw [if_neg (by rw [List.length_take];omega),h1,List.nil_append]
theorem yhi {l:List Evt} (hl:l.length<=900) (hz:erL l=0) {r:Nat} (hr:r+1<l.length):(zv5 (zbn (l.take r)++zbn (l.drop (r+1)))).2.2=11:=by
 have hlog:=zy2 hl hz
 have hcut:zbn l=zbn (l.take r)++(zbn [l[r]]++zbn (l.drop (r+1))):=by
  rw [<-zxj,<-zxj]
  congr 1
  rw [List.singleton_append,<-List.drop_eq_getElem_cons (by omega),List.take_append_drop]
 have hle:(zbn (l.take r)++zbn (l.drop (r+1))).length<=1000000:=by
  rw [hcut] at hlog
  simp only [List.length_append] at hlog ⊢
  omega
 have hlt:r+1<l.length:=hr
 have hc:=zjv hz _ (List.getElem_mem hlt)
 have hn:=yj1 l 0 (zm8 l rg0 0 hz) (r+1) hlt
 rw [z7p (fun e he=>zjv hz e (List.mem_of_mem_take he)) (ygn l 0 r (zm8 l rg0 0 hz)) _ hle]
 rw [List.drop_eq_getElem_cons hlt,zko]
 have e1:(zcs l[r+1]++[10])++zbn (l.drop (r+1+1))=zcs l[r+1]++10::zbn (l.drop (r+1+1)):=by simp
 rw [e1,zmf (zst hc),z7n hc]
 have hlr:(l.take r).length=r:=by rw [List.length_take];omega
 rw [hlr,if_pos (show l[r+1].nu≠(r:Int)+1 by omega),if_pos (by decide)]
theorem ydd:∀(s:List UInt8) (x y:Int),0<=x/\x<9999943->0<=y/\y<9999943->yid x s=yid y s->x=y
 | [],_,_,_,_,h=>h
 | b::r,x,y,hx,hy,h=>by
  have h1:=ydd r ((281*x+b.toNat)%9999943) ((281*y+b.toNat)%9999943) (by omega) (by omega) h
  have h2:(281*(x-y))%9999943=0:=by omega
  omega
theorem z8p:∀(k:Nat) (a b:Int),0<=a/\a<10^k->0<=b/\b<10^k->zs1 k a=zs1 k b->a=b
 | 0,a,b,ha,hb,_=>by simp at ha hb;omega
 | k+1,a,b,ha,hb,h=>by
  unfold zs1 at h
  obtain⟨h1,h2⟩:=List.append_inj' h rfl
  have hp:(10:Int)^(k+1)=10^k*10:=Int.pow_succ ..
  rw [hp] at ha hb
  have h3:=z8p k (a/10) (b/10) (by omega) (by omega) h1
  have h4:dig (a%10)=dig (b%10):=by simpa using h2
  have h5:∀n:Int,0<=n/\n<10->(dig n).toNat=48+n.toNat:=fun n hn=>by
   unfold dig
   rw [UInt8.toNat_ofNat']
   omega
  have h6:=congrArg UInt8.toNat h4
  rw [h5 _ (by omega),h5 _ (by omega)] at h6
  omega
theorem ykz {s t:List UInt8} (h:z8j s=z8j t):z1e s=z1e t:=by
 have a:=z8k s
 have b:=z8k t
 have h7:(10:Int)^7=10000000:=by decide
 exact z8p 7 _ _ (by omega) (by omega) h
theorem yn3 (a:List UInt8) (b c:UInt8) (r:List UInt8) (h:b≠c):z8j (a++b::r)≠z8j (a++c::r):=fun e=>by
 have h1:=ykz e
 unfold z1e at h1
 rw [z5h,z5h] at h1
 have h0:=z8k a
 unfold z1e at h0
 have h2:=ydd r ((281*yid 1 a+b.toNat)%9999943) ((281*yid 1 a+c.toNat)%9999943) (by omega) (by omega) h1
 have hb:=zq1 b
 have hc:=zq1 c
 have:b.toNat=c.toNat:=by omega
 exact h (UInt8.toNat_inj.1 this)
theorem yjw {e:Evt} {a r:List UInt8} {b c:UInt8} (h:zcs e=a++b::r) (hbc:c≠b):(zuv (a++c::r)).2≠0:=by
 unfold zcs at h
 have hs:=zq0 (znf e)
 rcases List.append_eq_append_iff.1 h with⟨u,h1,h2⟩|⟨bs,h1,h2⟩
 ·cases u with
  | nil=>
   rw [List.nil_append] at h2
   obtain⟨h3,h4⟩:=List.cons.inj h2
   rw [List.append_nil] at h1
   subst h1 h4
   rw [zo2 hs,if_pos (.inl fun e=>hbc (e.trans h3))]
   decide
  | cons y u'=>
   rw [List.cons_append] at h2
   obtain⟨h3,h4⟩:=List.cons.inj h2
   subst h3 h1
   have hl:(u'++c::r).length=7:=by
    rw [h4] at hs
    simpa using hs
   have e1:(znf e++35::u')++c::r=znf e++35::(u'++c::r):=by simp
   rw [e1,zo2 hl]
   split
   ·decide
   ·rw [if_pos]
    ·decide
    ·intro e2
     rw [h4] at e2
     have:=(List.cons.inj (List.append_cancel_left e2)).1
     exact hbc this
 ·cases bs with
  | nil=>
   rw [List.nil_append] at h2
   obtain⟨h3,h4⟩:=List.cons.inj h2
   rw [List.append_nil] at h1
   subst h4
   rw [<-h1,zo2 hs,if_pos (.inl fun e=>hbc (e.trans h3.symm))]
   decide
  | cons y bs'=>
   rw [List.cons_append] at h2
   obtain⟨h3,h4⟩:=List.cons.inj h2
   subst h3 h4
   have e1:a++c::(bs'++35::z8j (znf e))=(a++c::bs')++35::z8j (znf e):=by simp
   rw [e1,zo2 hs,if_neg (by rw [z8l];simp),if_pos]
   ·decide
   ·rw [h1]
    exact yn3 a b c bs' (fun e=>hbc e.symm)
theorem ynq {s:List UInt8} (h:(zuv s).2≠0) (b:Int):z08 s b≠0:=by
 unfold z08
 rw [if_pos h]
 exact h
theorem ycw:∀(l l0:List Evt) (i k:Nat) (c:UInt8),(∀e∈l,zhz e=0)->yis l0.length l->(hk:k<(zbn l).length)->(zbn l)[k]≠10->c≠(zbn l)[k]->c≠10->
  ∃l' j x,z2z l0 i (pcs ((zbn l).take k++c::(zbn l).drop (k+1)))=(l',j,x)/\x≠0/\j<i+(zbn l).length
 | [],_,_,_,_,_,_,hk,_,_,_=>absurd hk (Nat.not_lt_zero _)
 | e::r,l0,i,k,c,h,hn,hk,h10,hc,hc10=>by
  have hce:=h e (by simp)
  have hL:zbn (e::r)=zcs e++10::zbn r:=by rw [zko];simp
  have hlen:(zbn (e::r)).length=(zcs e).length+((zbn r).length+1):=by rw [hL,List.length_append,List.length_cons]
  rcases Nat.lt_trichotomy k (zcs e).length with hlt|heq|hgt
  ·have hb:(zbn (e::r))[k]=(zcs e)[k]:=by simp only [hL];rw [List.getElem_append_left hlt]
   have e1:(zbn (e::r)).take k++c::(zbn (e::r)).drop (k+1)=((zcs e).take k++c::(zcs e).drop (k+1))++10::zbn r:=by
    rw [hL,List.take_append_of_le_length (by omega),List.drop_append_of_le_length (by omega)]
    simp
   have hli:zcs e=(zcs e).take k++(zcs e)[k]::(zcs e).drop (k+1):=by
    rw [<-List.drop_eq_getElem_cons hlt,List.take_append_drop]
   have hno:(10:UInt8)∉(zcs e).take k++c::(zcs e).drop (k+1):=fun hm=>by
    rcases List.mem_append.1 hm with hm|hm
    ·exact zst hce (List.mem_of_mem_take hm)
    ·rcases List.mem_cons.1 hm with hm|hm
     ·exact hc10 hm.symm
     ·exact zst hce (List.mem_of_mem_drop hm)
   have hre:=ynq (yjw hli (by rw [<-hb];exact hc)) l0.length
   rw [e1,zmf hno,if_pos hre]
   exact⟨_,_,_,rfl,hre,by omega⟩
  ·exfalso
   apply h10
   have:(zcs e++10::zbn r)[(zcs e).length]'(by rw [List.length_append,List.length_cons];omega)=10:=by simp
   subst heq
   simp only [hL]
   exact this
  ·obtain⟨k',rfl⟩:∃k',k=(zcs e).length+1+k':=⟨k-((zcs e).length+1),by omega⟩
   have hk':k'<(zbn r).length:=by omega
   have hL2:zbn (e::r)=(zcs e++[10])++zbn r:=zko e r
   have hl1:(zcs e++[10]).length=(zcs e).length+1:=by simp
   have hb:(zbn (e::r))[(zcs e).length+1+k']=(zbn r)[k']:=by
    simp only [hL2]
    rw [List.getElem_append_right (by omega)]
    simp only [hl1]
    congr 1
    omega
   have e1:(zbn (e::r)).take ((zcs e).length+1+k')++c::(zbn (e::r)).drop ((zcs e).length+1+k'+1)=zcs e++10::((zbn r).take k'++c::(zbn r).drop (k'+1)):=by
    rw [hL2,<-hl1,List.take_length_add_append,Nat.add_assoc,List.drop_length_add_append]
    simp
   obtain⟨l',j,x,h1,h2,h3⟩:=ycw r (l0++[e]) (i+((zcs e).length+1)) k' c (fun x hx=>h x (List.mem_cons_of_mem _ hx)) (by rw [List.length_append];exact hn.2) hk' (by rw [<-hb];exact h10) (by rw [<-hb];exact hc) hc10
   refine⟨l',j,x,?_,h2,by omega⟩
   rw [e1,zmf (zst hce),if_neg (fun h=>h (zzy hce hn.1)),zuh hce,h1]
theorem ykd {l:List Evt} (hl:l.length<=900) (hz:erL l=0) {k:Nat} {c:UInt8} (hk:k<(zbn l).length) (h10:(zbn l)[k]≠10) (hc:c≠(zbn l)[k]) (hc10:c≠10):
  (zv5 ((zbn l).take k++c::(zbn l).drop (k+1))).2.2≠0/\(zv5 ((zbn l).take k++c::(zbn l).drop (k+1))).2.1<(zbn l).length:=by
 obtain⟨l',j,x,h1,h2,h3⟩:=ycw l [] 0 k c (zjv hz) (zm8 l rg0 0 hz) hk h10 hc hc10
 have hlog:=zy2 hl hz
 unfold zv5
 rw [if_neg (by rw [List.length_append,List.length_cons,List.length_take,List.length_drop];omega),h1]
 exact⟨h2,by dsimp only;omega⟩
section
variable {E : Oracle} (g : Good E)
include g
theorem ynw (s:List UInt8):In E 0 zhi [S s] [] fun v m'=>v= .fn zdz [] [.ptr ⟨0,1,0⟩ 0 0]/\m'=[(⟨0,1,0⟩,.cells zad [S s])]:=by
 refine In.enter (f:=zhi) g.lim rfl rfl ?_
 repeat' ((conv=>whnf);first
 | refine Yz ?_
  | (exact⟨rfl,rfl⟩))
theorem zcg.lines {s:List UInt8} {cx:Cx} {slot:Nat} {m:Mem} {K:V->Mem->Prop} (hf:Go.Evl.freeK cx.lv slot m=0) (h:K (.fn zdz [] [.ptr ⟨cx.lv,slot,0⟩ 0 0]) (m++[(⟨cx.lv,slot,0⟩,.cells zad [S s])])):zcg E zhi [S s] cx slot m K:=by
 obtain⟨v,m',h1,rfl,rfl⟩:=(ynw g s).got
 refine⟨_,_,(.fn zdz [] [.ptr ⟨cx.lv,slot,0⟩ 0 0],m++[(⟨cx.lv,slot,0⟩,.cells zad [S s])]),h1,?_,h⟩
 unfold Go.Evl.settle
 rw [hf]
 rfl
theorem zqk (s0:List UInt8):Fc E zbc [S s0] (RcV (zv5 s0)):=by
 refine g.fn rfl rfl ?_
 unfold zv5
 by_cases hl0:1000000<s0.length
 ·rw [if_pos hl0]
  repeat' ((conv=>whnf);first
  | refine Yz ?_
   | (refine Ret.mk rfl))
 rw [if_neg hl0]
 repeat' ((conv=>whnf);first
 | refine Yz ?_
  | (refine zcg.lines g rfl ?_)
  | (refine In.enter (f:=zdz) g.lim rfl rfl ?_))
 refine zam.to (zam.by (σ:=List Evt×Nat×List UInt8) g (fun x=>x.1.length<=x.2.1/\x.2.1+x.2.2.length<=s0.length/\z2z x.1 x.2.1 (pcs x.2.2)=z2z [] 0 (pcs s0))
  (fun _=>[(0,.yld ⟨0,50,0⟩),(1,.ptr ⟨0,16,0⟩ 0 0)])
  (fun x=>[(⟨0,2,0⟩,.row false zae 5 0 []),(⟨0,2,1⟩,.cells zlr [.ref ⟨0,2,0⟩ 0 0 0]),(⟨0,3,0⟩,.cells zbu [I 0]),(⟨0,4,0⟩,.cells zws [I 0]),(⟨0,5,0⟩,.row false zae 5 x.1.length (x.1.flatMap Evt.cells)),(⟨0,5,1⟩,.cells zlr [.ref ⟨0,5,0⟩ 0 x.1.length x.1.length]),(⟨0,6,0⟩,.cells zbu [I x.2.1]),(⟨0,16,0⟩,.cells zad [S x.2.2]),
   (⟨0,50,0⟩,.loop [(2,.ptr ⟨0,2,1⟩ 0 0),(3,.ptr ⟨0,3,0⟩ 0 0),(4,.ptr ⟨0,4,0⟩ 0 0),(14,B false),(5,.ptr ⟨0,5,1⟩ 0 0),(6,.ptr ⟨0,6,0⟩ 0 0),(16,.fn zdz [] [.ptr ⟨0,16,0⟩ 0 0])] [17] zmy zmz 0 false false none)])
  (fun x=>x.2.2.length) ?_ ([],0,s0) ⟨Nat.le_refl _,by simp,rfl⟩) rfl rfl
 rintro⟨l,i,s⟩ ⟨h1,h2,h3⟩ ih
 simp only at h1 h2 h3 ih
 dsimp only
 have hml:(l.flatMap Evt.cells).length=l.length*5:=zag Evt.cells 5 evw l
 by_cases hs:s=[]
 ·subst hs
  rw [zzt,z2z] at h3
  rw [<-h3]
  repeat' ((conv=>whnf);first
  | refine Yz ?_
   | (refine zcp.mk ⟨rfl,by decide⟩ ?_)
   | (refine Ret.mk ?_))
  rw [if_pos ⟨rfl,rfl⟩]
 ·rcases z7h s hs with⟨hn,hp⟩|⟨a,r,hn,rfl,hp⟩
  ·have hw:zkw s=false:=decide_eq_false fun e=>by
    obtain⟨t,e⟩:=List.getLast?_eq_some_iff.1 e
    exact hn (by rw [e];simp)
   have he:z9b s=s:=by unfold z9b;rw [hw];rfl
   rw [zz0 hs hn] at h3
   rw [<-h3]
   have hx:=z7w g s
   rw [zwi s hn] at hx
   have hcut:=yhq g s (by omega)
   rw [hw,he] at hcut
   have hpos:s.length≠0:=fun e=>hs (List.length_eq_zero_iff.1 e)
   repeat' ((conv=>whnf);first
   | refine Yz ?_
    | (refine Rnd.enter g.lim ?_)
    | (refine zce.at 0 (a.length+1) (by omega) (by omega) (by omega) ?_<;>(try dsimp only)<;>(rw [z5k]))
    | (refine zce.at (a.length+1) (a++10::r).length (by omega) (by omega) (by omega) ?_<;>(try dsimp only)<;>(rw [z5l]))
    | (refine zce.at 0 s.length (by omega) (by omega) (by omega) ?_<;>(try dsimp only)<;>(rw [ya0]))
    | (apply zak.of;assumption)
    | (refine zcp.mk ⟨rfl,by decide⟩ ?_)
    | (refine Ret.mk ?_))
   rw [if_pos ⟨rfl,rfl⟩]
  ·have hlen:(a++10::r).length=a.length+(r.length+1):=by simp
   have hlen1:(a++[10]).length=a.length+1:=by simp
   have hx:=z7w g (a++10::r)
   rw [zwh a r hn] at hx
   have hcut:=yhq g (a++[10]) (by simp;omega)
   rw [(zxw _).1,(zxw _).2] at hcut
   rw [zmf hn] at h3
   have hre:=yd7 g a (by omega) l.length (by omega)
   by_cases hz:z08 a l.length=0
   ·rw [if_neg (fun h=>h hz)] at h3
    rw [hz] at hre
    have ih:=ih (l++[(zuv a).1],i+(a.length+1),r) ⟨by simp only [List.length_append,List.length_cons,List.length_nil];omega,by dsimp only;omega,h3⟩ (by dsimp only;omega)
    simp only [List.length_append,List.length_cons,List.length_nil,List.flatMap_append,List.flatMap_cons,List.flatMap_nil] at ih
    have hie:((i+(a.length+1):Nat):Int)=(i:Int)+((a++[10]).length:Int):=by omega
    rw [hie] at ih
    generalize (zuv a).1=e at *
    obtain⟨nu,ki,ns,vs,tx⟩:=e
    simp only [Evt.cells] at ih
    repeat' ((conv=>whnf);first
    | refine Yz ?_
     | (refine Rnd.enter g.lim ?_)
     | (refine zce.at 0 (a.length+1) (by omega) (by omega) (by omega) ?_<;>(try dsimp only)<;>(rw [z5k]))
     | (refine zce.at (a.length+1) (a++10::r).length (by omega) (by omega) (by omega) ?_<;>(try dsimp only)<;>(rw [z5l]))
     | (refine zce.at 0 s.length (by omega) (by omega) (by omega) ?_<;>(try dsimp only)<;>(rw [ya0]))
     | (apply zak.of;assumption)
     | (refine zcp.mk (by simp only [List.length_cons,List.length_nil];omega) ?_)
     | (refine zcp.mk ⟨rfl,by decide⟩ ?_)
     | (refine zam.to ih rfl rfl))
   ·rw [if_pos hz] at h3
    rw [<-h3]
    generalize (zuv a).1=e at *
    obtain⟨nu,ki,ns,vs,tx⟩:=e
    generalize z08 a l.length=x at *
    repeat' ((conv=>whnf);first
    | refine Yz ?_
     | (refine Rnd.enter g.lim ?_)
     | (refine zce.at 0 (a.length+1) (by omega) (by omega) (by omega) ?_<;>(try dsimp only)<;>(rw [z5k]))
     | (refine zce.at (a.length+1) (a++10::r).length (by omega) (by omega) (by omega) ?_<;>(try dsimp only)<;>(rw [z5l]))
     | (refine zce.at 0 s.length (by omega) (by omega) (by omega) ?_<;>(try dsimp only)<;>(rw [ya0]))
     | (apply zak.of;assumption)
     | (refine Cmp.ff hz ?_)
     | (refine zcp.mk ⟨rfl,by decide⟩ ?_)
     | (refine Ret.mk ?_))
    rw [if_pos ⟨rfl,rfl⟩]
end
def yon (s:List UInt8) (e:Evt):List UInt8×Int:=
 if za1 [(zv5 s).2.2,zhz e,if e.nu=(zv5 s).1.length+1 then 0 else 11]=0 then(s++(zcs e++[10]),0)
 else([],za1 [(zv5 s).2.2,zhz e,if e.nu=(zv5 s).1.length+1 then 0 else 11])
section
variable {E : Oracle} (g : Good E)
include g
theorem ykf (s:List UInt8) (e:Evt) (hs:s.length<=990000) (he:ye1 e):Fc E zhg [S s,Evv e] (.tup [S (yon s e).1,I (yon s e).2]):=by
 have hr:=zqk g s
 have ⟨_,hll,_⟩:=yhh (s:=s) (by omega)
 have hce:=znb g e (by have:=he.ns;omega) (by have:=he.vs;omega)
 have hlast:∀a b c:Int,Fc E zay [.d (.list 3 [DI a,DI b,DI c])] (I (za1 [a,b,c])):=fun a b c=>zul g [a,b,c] (by simp)
 have hw1:Fc E zal [B true,I 11] (I 11):=znr g true 11
 have hw0:Fc E zal [B false,I 11] (I 0):=znr g false 11
 have hsp:za1 [(zv5 s).2.2,zhz e,if e.nu=(zv5 s).1.length+1 then 0 else 11]=0->Fc E zd3 [Evv e] (S (zcs e++[10]))/\(zcs e).length<=2000:=fun h=>by
  rw [zgg] at h
  obtain⟨h1,h2⟩:=yc8 he (h (zhz e) (by simp))
  exact⟨yki g e h1,by rw [yb8];omega⟩
 unfold yon
 generalize hR:zv5 s=R at *
 obtain⟨l,i,x⟩:=R
 dsimp only at hll hsp ⊢
 change Fc E zbc [S s] (.tup [LE l,I (i:Nat),I x]) at hr
 generalize zhz e=y at *
 generalize zcs e=le at *
 obtain⟨nu,ki,ns,vs,tx⟩:=e
 dsimp only at hsp ⊢
 change Fc E zhg [S s,.d (.agg [DI nu,.str ki,.list ns.length (ns.map D.str),.list vs.length (vs.map DI),.str tx])] _
 have hlen:(s++(le++[10])).length=s.length+(le.length+1):=by simp
 refine g.fn rfl rfl ?_
 by_cases hnu:nu=l.length+1
 ·rw [if_pos hnu] at hsp ⊢
  have hf:=hlast x y 0
  generalize za1 [x,y,0]=z at *
  by_cases hz:z=0
  ·rw [if_pos hz]
   obtain⟨h1,h2⟩:=hsp hz
   repeat' ((conv=>whnf);first
   | refine Yz ?_
    | (apply zak.of;assumption)
    | (refine Cmp.tt hz ?_)
    | (refine Cmp.ff (fun h=>h hnu) ?_)
    | (refine Cmp.tt hnu ?_)
    | (refine zcp.mk (by simp only [zlc,List.length_append,List.length_cons,List.length_nil];omega) ?_)
    | (refine Ret.mk rfl))
  ·rw [if_neg hz]
   repeat' ((conv=>whnf);first
   | refine Yz ?_
    | (apply zak.of;assumption)
    | (refine Cmp.ff hz ?_)
    | (refine Ret.mk rfl))
 ·rw [if_neg hnu] at hsp ⊢
  have hf:=hlast x y 11
  generalize za1 [x,y,11]=z at *
  by_cases hz:z=0
  ·rw [if_pos hz]
   obtain⟨h1,h2⟩:=hsp hz
   repeat' ((conv=>whnf);first
   | refine Yz ?_
    | (apply zak.of;assumption)
    | (refine Cmp.tt hz ?_)
    | (refine zcp.mk (by simp only [zlc,List.length_append,List.length_cons,List.length_nil];omega) ?_)
    | (refine Ret.mk rfl))
  ·rw [if_neg hz]
   repeat' ((conv=>whnf);first
   | refine Yz ?_
    | (apply zak.of;assumption)
    | (refine Cmp.ff hz ?_)
    | (refine Ret.mk rfl))
end
theorem yea {e:Evt} (h:zhz e=0):ye1 e:=by
 obtain⟨a1,a2,a3,a4,_⟩:=zo8 h
 have ⟨f1,f2⟩:=zsp e.ki
 exact⟨yb4 a1,by omega,by omega,fun x hx=>Nat.le_trans (z4p (a4 x hx)) (by decide)⟩
theorem yl7 {l:List Evt} (hl:l.length<=900) (hz:erL l=0) {k:Nat} (hk:k<l.length):yon (zbn (l.take k)) l[k]=(zbn (l.take (k+1)),0):=by
 have hc:=zjv hz _ (List.getElem_mem hk)
 have hn:=yj1 l 0 (zm8 l rg0 0 hz) k hk
 have hr:=ycx (l:=l.take k) (by rw [List.length_take];omega) (ztu hz k)
 have hlk:(l.take k).length=k:=by rw [List.length_take];omega
 unfold yon
 rw [hr,hc,hlk,if_pos (show l[k].nu=(k:Int)+1 by omega),z63 hk]
 exact if_pos rfl
def ylh (l:List Evt) (n:Nat):List Int:=(List.range n).map fun j=>((zbn (l.take (j+1))).length:Int)
theorem yje (l:List Evt) (n:Nat):((ylh l n).map DI).length=n*1:=by simp [ylh]
theorem yfj (l:List Evt) (n:Nat):(ylh l (n+1)).map DI=(ylh l n).map DI++[DI ((zbn (l.take (n+1))).length:Int)]:=by
 unfold ylh
 rw [List.range_succ,List.map_append,List.map_append]
 rfl
theorem zfp.end {l:List Evt} {n:Nat} {i:Int} {K:D->Prop} (k:Nat) (hi:i=k) (h:k<n) (hk:K (DI ((zbn (l.take (k+1))).length:Int))):zfp ((ylh l n).map DI) ((0+i.toNat)*1) K:=by
 subst hi
 refine⟨⟨_,?_,hk⟩⟩
 simp [ylh,h]
theorem ygc (l:List Evt) (k:Nat):(zbn (l.take k)).length<=(zbn l).length:=ym3 l k
theorem zvv (l:List Evt) (k:Nat):zbn l=zbn (l.take k)++zbn (l.drop k):=by rw [<-zxj,List.take_append_drop]
theorem ya1 {s:List UInt8} (c:Nat):win s 0 (c-0)=s.take c:=by
 unfold win
 rw [List.drop_zero,Nat.sub_zero]
theorem yio {s:List UInt8} (c:Nat):win s c (s.length-c)=s.drop c:=by
 unfold win
 exact List.take_of_length_le (by rw [List.length_drop];exact Nat.le_refl _)
theorem yk4 (l:List Evt) (k:Nat) (h:k<=l.length):win (l.flatMap Evt.cells) (0*5) ((k-0)*5)=(l.take k).flatMap Evt.cells:=by
 have hl:(l.flatMap Evt.cells).length=l.length*5:=zag Evt.cells 5 evw l
 have ht:((l.take k).flatMap Evt.cells).length=k*5:=by rw [zag Evt.cells 5 evw,List.length_take,Nat.min_eq_left h]
 have e:l.flatMap Evt.cells=(l.take k).flatMap Evt.cells++(l.drop k).flatMap Evt.cells:=by rw [<-List.flatMap_append,List.take_append_drop]
 unfold win
 rw [Nat.zero_mul,List.drop_zero,Nat.sub_zero,e,List.take_left' ht]
theorem yk5 (l:List Evt) (k:Nat) (h:k<=l.length):win (l.flatMap Evt.cells) (k*5) ((l.length-k)*5)=(l.drop k).flatMap Evt.cells:=by
 have ht:((l.take k).flatMap Evt.cells).length=k*5:=by rw [zag Evt.cells 5 evw,List.length_take,Nat.min_eq_left h]
 have hd:((l.drop k).flatMap Evt.cells).length=(l.length-k)*5:=by rw [zag Evt.cells 5 evw,List.length_drop]
 have e:l.flatMap Evt.cells=(l.take k).flatMap Evt.cells++(l.drop k).flatMap Evt.cells:=by rw [<-List.flatMap_append,List.take_append_drop]
 unfold win
 rw [e,List.drop_left' ht]
 exact List.take_of_length_le (by omega)
theorem zyx {l:List Evt} {t:List UInt8} (hne:t≠[]) (hk:zew (hdW t)=false):yff l t=(yma (rgL l) t,l):=by
 unfold yff
 rw [if_neg hne,hk,if_pos rfl]
theorem yi2 (l:List Evt):∃tx,yff l zze=((tx,0),l):=by
 refine⟨yp3 ((yqb (rgL l)).map Cpl.nm),?_⟩
 rw [zyx (by decide) (by decide)]
 have hp:parts 32 zze=[zze]:=by decide
 have hh:hdW zze=zze:=by unfold hdW;rw [hp];rfl
 unfold yma
 rw [hh,if_neg (by decide),if_neg (by decide),if_neg (by decide),if_neg (by decide),if_pos rfl]
 unfold z8s
 rw [hp,if_neg (by decide),if_neg (by decide)]
 exact congrArg (·,l) (z8z _)
theorem z1p (l:List Evt) {m:Int} (hm:0<=m/\m<=99999):∃tx,yff l (zgv++32::ze9 m)=((tx,0),l):=by
 refine⟨yp3 (ylf (rgL l) m),?_⟩
 have hp:parts 32 (zgv++32::ze9 m)=[zgv,ze9 m]:=by
  rw [zgb 32 _ zgv (by decide),zlx 32 _ (zvw (by decide) m)]
 have hh:hdW (zgv++32::ze9 m)=zgv:=by unfold hdW;rw [hp];rfl
 rw [zyx (by simp) (by rw [hh];decide)]
 obtain⟨i1,i2⟩:=zlv (n:=m) (by omega)
 unfold yma
 rw [hh,if_neg (by decide),if_neg (by decide),if_pos rfl]
 unfold z8s
 have e1:[zgv,ze9 m].drop (2-1)=[ze9 m]:=rfl
 rw [hp,e1,yqr i1,i2,if_neg,if_neg]
 ·have e2:A3 (rgL l) [zgv,ze9 m] [m]=(ylf (rgL l) m,0):=by
   show z1m (rgL l) m=_
   unfold z1m
   have:rng m 0 99999=0:=by unfold rng;rw [if_neg (by omega)]
   rw [this]
   rfl
  rw [e2,z8z]
 ·simp [zwj,(zkn (ze9 m)).1,i1]
 ·intro h
  rcases h with h|h
  ·exact h rfl
  ·simp only [List.mem_cons,List.not_mem_nil,or_false] at h
   rcases h with h|h
   ·exact absurd h (by decide)
   ·exact yf2 i1 h.symm
theorem ymb (l:List Evt) {k m:Int} (hk:0<=k/\k<=99999) (hm:0<=m/\m<=99999):∃tx,yff l (z8v++32::(ze9 k++32::ze9 m))=((tx,0),l):=by
 refine⟨yp3 ((yeb (rgL l) k m).map yaj),?_⟩
 have hp:parts 32 (z8v++32::(ze9 k++32::ze9 m))=[z8v,ze9 k,ze9 m]:=by
  rw [zgb 32 _ z8v (by decide),zgb 32 _ (ze9 k) (zvw (by decide) k),zlx 32 _ (zvw (by decide) m)]
 have hh:hdW (z8v++32::(ze9 k++32::ze9 m))=z8v:=by unfold hdW;rw [hp];rfl
 rw [zyx (by simp) (by rw [hh];decide)]
 obtain⟨i1,i2⟩:=zlv (n:=m) (by omega)
 obtain⟨j1,j2⟩:=zlv (n:=k) (by omega)
 unfold yma
 rw [hh,if_neg (by decide),if_pos rfl]
 unfold z8s
 have e1:[z8v,ze9 k,ze9 m].drop (3-2)=[ze9 k,ze9 m]:=rfl
 rw [hp,e1,yqs j1 i1,i2,j2,if_neg,if_neg]
 ·have e2:A2 (rgL l) [z8v,ze9 k,ze9 m] [k,m]=((yeb (rgL l) k m).map yaj,0):=by
   show z1n (rgL l) k m=_
   unfold z1n
   have h1:rng k 0 99999=0:=by unfold rng;rw [if_neg (by omega)]
   have h2:rng m 0 99999=0:=by unfold rng;rw [if_neg (by omega)]
   rw [h1,h2]
   rfl
  rw [e2,z8z]
 ·simp [zwj,(zkn (ze9 m)).1,(zkn (ze9 k)).1,i1,j1]
 ·intro h
  rcases h with h|h
  ·exact h rfl
  ·simp only [List.mem_cons,List.not_mem_nil,or_false] at h
   rcases h with h|h|h
   ·exact absurd h (by decide)
   ·exact yf2 j1 h.symm
   ·exact yf2 i1 h.symm
theorem yp2 {x:Int} (h:0<=x/\x<=65535):IntKind.u16.wrap x=x:=by
 have hb:IntKind.u16.wrap x=x%65536:=by simp [IntKind.wrap,IntKind.signed,IntKind.bits]
 rw [hb]
 omega
theorem yq9 {x:Int} (h:0<=x/\x<=255):IntKind.u8.wrap x=x:=by
 have hb:IntKind.u8.wrap x=x%256:=by simp [IntKind.wrap,IntKind.signed,IntKind.bits]
 rw [hb]
 omega
theorem Wr.k16 {x:Int} {K:Int->Prop} (h:0<=x/\x<=65535) (k:K x):Wr .u16 x K:=⟨by rw [yp2 h];exact k⟩
theorem Wr.k8 {x:Int} {K:Int->Prop} (h:0<=x/\x<=255) (k:K x):Wr .u8 x K:=⟨by rw [yq9 h];exact k⟩
theorem yim (e:Evt):win (znf e) ((ze9 e.nu).length+1) ((znf e).length-((ze9 e.nu).length+1))=zi0 e:=by
 have h:znf e=(ze9 e.nu++[32])++zi0 e:=by simp [znf]
 unfold win
 rw [h,List.drop_left' (by simp),List.take_of_length_le (by simp;omega)]
section
variable {E : Oracle} (g : Good E)
include g
theorem ypj (e:Evt) (h:PrE e):Fc E zkt [Evv e] (S (zi0 e)):=by
 have hb:=yph g e h
 have ht:=zug g e.nu h.nu
 have hw:=yim e
 have hl:=zur e
 have hd:=zm0 20 e.nu.toNat
 have hd2:(ze9 e.nu).length<=20:=hd
 generalize zi0 e=bo at *
 generalize znf e=tx at *
 obtain⟨nu,ki,ns,vs,tx'⟩:=e
 dsimp only at *
 change Fc E zkr [.d (.agg [DI nu,.str ki,.list ns.length (ns.map D.str),.list vs.length (vs.map DI),.str tx'])] _ at hb
 change Fc E zkt [.d (.agg [DI nu,.str ki,.list ns.length (ns.map D.str),.list vs.length (vs.map DI),.str tx'])] _
 refine g.fn rfl rfl ?_
 repeat' ((conv=>whnf);first
 | refine Yz ?_
  | (apply zak.of;assumption)
  | (refine zce.at ((ze9 nu).length+1) tx.length (by omega) (by omega) (by omega) ?_;dsimp only;rw [hw])
  | (refine Ret.mk rfl))
end
theorem z6x:∀l:List (List UInt8),Lib.join l []=l.flatten
 | []=>rfl
 | [x]=>by simp [Lib.join,List.intercalate]
 | x::y::r=>by
  have ih:=z6x (y::r)
  simp only [Lib.join,List.intercalate] at ih
  simp [Lib.join,List.intercalate,ih]
def ykb (e:Evt):List UInt8:=zcs e++[10]
section
variable {E : Oracle} (g : Good E)
include g
theorem ynv (l:List (List UInt8)) (hl:l.length<=1000000) (hj:l.flatten.length<=1000000):Fc E n_strings_Join [.d (.list l.length (l.map D.str)),S []] (S l.flatten):=by
 refine Fc.extern g.lim (x:=joinX) rfl (v:=S l.flatten) (m':=[]) ?_ rfl
 simp only [joinX,zqz,z6x]
 rw [if_pos ⟨trivial,hj,hl⟩]
theorem yq8 (ev:List Evt) (r:Rgs) (hev:ev.length<=1000) (hp:∀e∈ev,PrE e) (hln:(zbn ev).length<=1000000):Ui E zdm [.ptr ⟨0,0,0⟩ 0 0] (mR zaa ev r) (S (zbn ev)) (mR zaa ev r):=by
 refine⟨?_⟩
 have hlf:(ev.map ykb).flatten=zbn ev:=(List.flatMap_def ..).symm
 have hj:=ynv g (ev.map ykb) (by rw [List.length_map];omega) (by rw [hlf];exact hln)
 rw [hlf,List.length_map] at hj
 have hme:(ev.flatMap Evt.cells).length=ev.length*5:=zag Evt.cells 5 evw ev
 refine In.enter (f:=zdm) g.lim rfl rfl ?_
 repeat' ((conv=>whnf);first
 | refine Yz ?_
  | (refine In.enter (f:=zdt) g.lim rfl rfl ?_))
 refine zam.to (zam.up g (fun k=>[(1,.fn zd3 [] []),(5,.ref ⟨2,5,0⟩ 0 k k),(8,.ref ⟨0,0,1⟩ 0 ev.length ev.length),(9,I ev.length),(10,I k)])
  (fun k=>mR zaa ev r++[(⟨2,4,0⟩,.row false zad 1 0 []),(⟨2,5,0⟩,.row false zad 1 k (((ev.take k).map ykb).map D.str))]) ev.length (fun k hk ih=> ?_) 0 (Nat.zero_le _)) rfl rfl
 by_cases hlt:k<ev.length
 ·have hwin:win (ev.flatMap Evt.cells) ((0+((k:Nat):Int).toNat)*5) 5=ev[k].cells:=by
   rw [Nat.zero_add,Int.toNat_natCast]
   exact zb9 Evt.cells 5 evw ev k hlt
  have ih:=ih hlt
  have hpe:=hp _ (List.getElem_mem hlt)
  have e0:((ev.take (k+1)).map ykb).map D.str=((ev.take k).map ykb).map D.str++[.str (ykb ev[k])]:=by
   rw [List.take_succ_eq_append_getElem hlt,List.map_append,List.map_append]
   rfl
  rw [e0] at ih
  have hmo:(((ev.take k).map ykb).map D.str).length=k*1:=by rw [List.length_map,List.length_map,List.length_take];omega
  have hbo:=ylz g ev[k] hpe
  have hb:=zur ev[k]
  have hd:=ynb g ev[k].nu hpe.nu
  have hle:=hpe.ln
  have hsm:=ynz g (znf ev[k]) hpe.ln
  have e1:(ze9 ev[k].nu++[32])++zi0 ev[k]=znf ev[k]:=by simp [znf]
  have e2:ykb ev[k]=((znf ev[k]++[35])++z8j (znf ev[k]))++[10]:=by simp [ykb,zcs]
  have hs:=zq0 (znf ev[k])
  rw [e2] at ih
  generalize ht:znf ev[k]=t at *
  generalize zi0 ev[k]=b at *
  generalize ev[k]=e at *
  obtain⟨nu,ki,ns,vs,tx⟩:=e
  dsimp only at e1 hd hb
  change Fc E zi9 [.d (.agg [DI nu,.str ki,.list ns.length (ns.map D.str),.list vs.length (vs.map DI),.str tx])] _ at hbo
  clear e0 e2
  repeat' ((conv=>whnf);first
  | refine Yz ?_
   | (rw [hwin])
   | (apply zak.of;assumption)
   | (refine In.enter (f:=zd3) g.lim rfl rfl ?_)
   | (refine zcp.mk (by simp only [zlc,List.length_append,List.length_cons,List.length_nil];omega) ?_;try rw [e1])
   | (refine zcp.mk ⟨rfl,rfl,rfl,rfl,rfl,rfl,by dsimp only;omega,by dsimp only;omega⟩ ?_)
   | (refine zam.to ih rfl rfl))
 ·obtain rfl:k=ev.length:=by omega
  clear ih
  rw [List.take_length]
  repeat' ((conv=>whnf);first
  | refine Yz ?_
   | (refine zcp.mk ⟨rfl,by omega⟩ ?_)
   | (apply zak.of;assumption)
   | (rw [if_pos ⟨rfl,rfl⟩])
   | (exact⟨rfl,rfl,rfl,rfl,rfl,rfl,trivial⟩))
end
abbrev mSs (lv sl:Nat) (ev:List Evt) (r:Rgs):Mem:=[(⟨lv,sl,0⟩,.cells zaa [.ref ⟨lv,sl,1⟩ 0 ev.length ev.length,I r.kn,.ref ⟨lv,sl,2⟩ 0 r.es.length r.es.length,.ref ⟨lv,sl,3⟩ 0 r.rs.length r.rs.length,.ref ⟨lv,sl,4⟩ 0 r.cs.length r.cs.length]),
 (⟨lv,sl,1⟩,.row false zae 5 ev.length (ev.flatMap Evt.cells)),(⟨lv,sl,2⟩,.row false zac 8 r.es.length (r.es.flatMap Ent.cells)),(⟨lv,sl,3⟩,.row false zan 2 r.rs.length (r.rs.flatMap Rmv.cells)),(⟨lv,sl,4⟩,.row true zaf 5 r.cs.length (r.cs.flatMap Cpl.cells))]
section
variable {E : Oracle} (g : Good E)
include g
theorem zcg.open {s:List UInt8} {l:List Evt} {i e:Int} (hr:Fc E zbc [S s] (.tup [LE l,I i,I e])) (he:e=0\/e=28) (hl:l.length<=1000) (hb:∀e∈l,e.ns.length<=1000000/\e.vs.length<=1000000) (hz:erL l=0) {cx:Cx} {slot:Nat} {m:Mem} {K:V->Mem->Prop} (hf:Go.Evl.freeK cx.lv slot m=0)
  (k:K (.tup [.ptr ⟨cx.lv,slot,0⟩ 0 0,I 0]) (m++mSs cx.lv slot l (rgL l))):zcg E zho [S s] cx slot m K:=by
 have h:In E 0 zho [S s] [] fun v m'=>v= .tup [.ptr ⟨0,35,0⟩ 0 0,I 0]/\m'=mS 0 24 l (rgL l)++[(⟨0,35,0⟩,.cells zaa [.ref ⟨0,24,1⟩ 0 l.length l.length,I (rgL l).kn,.ref ⟨0,24,2⟩ 0 (rgL l).es.length (rgL l).es.length,.ref ⟨0,24,3⟩ 0 (rgL l).rs.length (rgL l).rs.length,.ref ⟨0,24,4⟩ 0 (rgL l).cs.length (rgL l).cs.length])]:=by
  have hp:=@zcg.replay E g l hl hb
  refine In.enter (f:=zho) g.lim rfl rfl ?_
  rcases he with rfl|rfl
  all_goals repeat' ((conv=>whnf);first
  | refine Yz ?_
   | (apply zak.of;assumption)
   | (refine hp rfl hz ?_)
   | (refine Cmp.ff (fun h=>h rfl) ?_)
   | (exact⟨rfl,rfl⟩))
 obtain⟨v,m',h1,rfl,rfl⟩:=h.got
 refine⟨_,_,(_,m++mSs cx.lv slot l (rgL l)),h1,?_,k⟩
 unfold Evl.settle
 rw [hf]
 rfl
end
section
variable {E : Oracle} (g : Good E)
include g
theorem ynx:Fc E zi8 [] (B true):=by
 refine g.fn rfl rfl ?_
 repeat' ((conv=>whnf);first
 | refine Yz ?_
  | (apply zak.of;first |exact ao1 g|exact ao2 g|exact ao3 g|exact ao4 g|exact ao5 g|exact ao6 g|exact ao7 g|exact ao8 g|exact ao9 g|exact yrn g|exact yro g|exact yrp g|exact yrq g|exact yrr g|exact yrs g|exact yrt g|exact yru g|exact yrv g|exact yrw g|exact yrx g|exact yry g|exact yrz g|exact yr0 g|exact yr1 g|exact yr2 g|exact yr3 g|exact yr4 g)
  | (refine is0 g ?_)
  | (first |refine is1 g ?_|refine is2 g ?_|refine is3 g ?_|refine is4 g ?_|refine is5 g ?_|refine is6 g ?_|refine is7 g ?_|refine is8 g ?_|refine is9 g ?_|refine yr5 g ?_|refine yr6 g ?_)
  | (refine zcp.mk (by simp only [zlc,List.length_cons,List.length_nil];omega) ?_)
  | (refine zam.step g.lim ?_)
  | (exact Ret.mk rfl))
end
end Go.Proofs.YtnabmkmhbncidaaGreatDoor.Co
