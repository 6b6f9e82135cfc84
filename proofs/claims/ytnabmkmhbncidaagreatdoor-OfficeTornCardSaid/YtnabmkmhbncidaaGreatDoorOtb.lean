/-
  OfficeTorn: what its law leans on, part 2.
-/
import Derived.Laws.RangeAny
import Derived.Lib.SplitLaws
import Derived.Test.YtnabmkmhbncidaaGreatDoorAwR
import Derived.Test.YtnabmkmhbncidaaGreatDoorEvX
import Derived.Test.YtnabmkmhbncidaaGreatDoorEvY
import Derived.Test.YtnabmkmhbncidaaGreatDoorRead
import Derived.Test.YtnabmkmhbncidaaGreatDoorSpBase
import Derived.Test.YtnabmkmhbncidaaGreatDoorOta
namespace Go.Proofs.YtnabmkmhbncidaaGreatDoor.Co
open Go Go.Evl
set_option maxHeartbeats 32000000
set_option maxRecDepth 100000
structure Us (E:Oracle) (f:Nat) (as0:List V) (m0:Mem) (r:V) (m2:Mem):Prop where
 got:In E 1 f as0 m0 fun v m1=>v=r/\z3f m1 m2
theorem z2e (m1:Mem):∀(m:Mem) (i:Evl.Id) (o:Ob),z3f m1 m->Evl.look m i=some o->Evl.look m1 i=some o
 | [],_,_,_,h=>by simp [Evl.look] at h
 | (j,x)::r,i,o,⟨h1,h2⟩,h=>by
  simp only [Evl.look] at h
  split at h
  ·rename_i e
   subst e
   obtain rfl:=Option.some.inj h
   exact h1
  ·exact z2e m1 r i o h2 h
theorem zu3 {σ:List (Evl.Id×Evl.Id)} {m1 m2:Mem} (hk:z3f m1 m2):∀(l:List (Evl.Id×Evl.Id)) (m m':Mem),zr7 σ m2 l m=some m'->zr7 σ m1 l m=some m'
 | [],_,_,h=>h
 | (a,b)::r,m,m',h=>by
  simp only [zr7] at h ⊢
  cases hl:Evl.look m2 b with
  | none=>rw [hl] at h;cases h
  | some o=>
   rw [hl] at h
   rw [z2e m1 m2 b o hk hl]
   dsimp only at h ⊢
   split at h
   ·rename_i hc
    rw [if_pos hc]
    exact zu3 hk r _ m' h
   ·cases h
theorem zog.of {E:Oracle} {f:Nat} {first caps args as0:List V} {m m0 m2 m':Mem} {r r':V} {K:V->Mem->Prop} (is:List Evl.Id) (his:reach 0 m 64 (zeo ((first ++args++caps).map (zuv m))) []=is)
  (hc:(within is 0 (zeo ((first ++args++caps).map (zuv m)))&&movable is 0 m)=true) (has:zsz (number ⟨0,0⟩ 0 0 is) ((first ++args++caps).map (zuv m))=as0) (hm:moved (number ⟨0,0⟩ 0 0 is) m (number ⟨0,0⟩ 0 0 is)=m0)
  (hq:Us E f as0 m0 r m2) (hb:zr7 (number ⟨0,0⟩ 0 0 is) m2 (number ⟨0,0⟩ 0 0 is) m=some m') (hid:(ids r).all (fun i=>((number ⟨0,0⟩ 0 0 is).map (·.2)).elem i)=true) (hr:ren (zml (number ⟨0,0⟩ 0 0 is)) r=r') (hk:K r' m'):zog E false (.fn f first caps) args m K:=by
 obtain⟨v,m1,h1,rfl,h3⟩:=hq.got
 refine⟨r',m',?_,hk⟩
 simp only [zrs,his,hc,if_true,has,hm,h1]
 rw [if_neg (by decide),hid,zu3 h3 _ _ _ hb,<-hr]
 rfl
structure Ui (E:Oracle) (f:Nat) (as0:List V) (m0:Mem) (r:V) (m2:Mem):Prop where
 got:In E 1 f as0 m0 fun v m1=>zu4 ⟨0,1⟩ 0 true v m1 fun v' m'=>v'=r/\z3f m' m2
theorem zog.ofI {E:Oracle} {f:Nat} {first caps args as0:List V} {m m0 m2 m':Mem} {r r':V} {K:V->Mem->Prop} (is:List Evl.Id) (his:reach 0 m 64 (zeo ((first ++args++caps).map (zuv m))) []=is)
  (hc:(within is 0 (zeo ((first ++args++caps).map (zuv m)))&&movable is 0 m)=true) (has:zsz (number ⟨0,0⟩ 0 0 is) ((first ++args++caps).map (zuv m))=as0) (hm:moved (number ⟨0,0⟩ 0 0 is) m (number ⟨0,0⟩ 0 0 is)=m0)
  (hq:Ui E f as0 m0 r m2) (hlow:zh2 1 (zm2 m0)=true) (hb:zr7 (number ⟨0,0⟩ 0 0 is) m2 (number ⟨0,0⟩ 0 0 is) m=some m') (hid:(ids r).all (fun i=>((number ⟨0,0⟩ 0 0 is).map (·.2)).elem i)=true) (hr:ren (zml (number ⟨0,0⟩ 0 0 is)) r=r') (hk:K r' m'):zog E true (.fn f first caps) args m K:=by
 obtain⟨v,m1,h1,h2⟩:=hq.got
 obtain⟨⟨v',mm⟩,h5,h6,h3⟩:=z3p h2
 dsimp only at h5 h6 h3
 split at h5
 case isFalse=>cases h5
 rename_i h4
 subst h6
 refine⟨r',m',?_,hk⟩
 simp only [zrs,his,hc,if_true,has,hm,h1]
 rw [hlow,show zh2 1 (idsAll (zef 1 m1))=true from h4]
 simp only [Bool.and_self,if_true]
 rw [show zmu ⟨0,1⟩ 0 1 true (zef 1 m1) m1 v=some (v',mm) from h5]
 dsimp only
 rw [hid,zu3 h3 _ _ _ hb,<-hr]
 rfl
section
variable {E : Oracle} (g : Good E)
include g
theorem ym2 (t:Nat) (ev:List Evt) (r:Rgs) (ho:OkR r) (hrs:r.rs.length<1000) (e:Evt) (hs:zh8 r ev.length e=0) (hev:ev.length<=1000) {K:V->Mem->Prop} (hK:∀m1,z3f m1 (mR t (ev++[e]) (zph r e))->K (.tup []) m1):
  In E 1 zah [.ptr ⟨0,0,0⟩ 0 0,Evv e] (mR t ev r) K:=by
 obtain⟨hc,ha⟩:=zv6 hs
 obtain⟨_,_,_,hask⟩:=z1m ha
 have hes:=ho.es
 have hcs:=ho.cs
 have hme:(ev.flatMap Evt.cells).length=ev.length*5:=zag Evt.cells 5 evw ev
 rcases znz hc with⟨nu,ki,a,s,more,kn,f,u,m,rfl,hent,hfol,hki⟩|⟨nu,a,kn,rfl⟩|⟨nu,a,en,kn,rfl⟩|⟨nu,a,kn,v,rfl⟩
 ·have hc1:=znd g (a::s::more) (by simp) (by
   have h:=(zpa hc).2.1
   dsimp only at h
   rw [h]
   rcases hki with rfl|rfl|rfl
   ·decide
   ·decide
   ·decide)
  have hc2:=znc g [kn,f,u,m] (by simp) (by simp)
  rw [z0l,if_pos hent] at hask
  obtain⟨_,hl,_⟩:=zx0 hask
  have hml:(r.es.flatMap Ent.cells).length=r.es.length*8:=zag Ent.cells 8 zmi r.es
  clear hs hc ha hask
  by_cases hf:ki=zbz
  ·obtain⟨b,rfl⟩:=hfol hf
   subst hf
   have haft:zph r ⟨nu,zbz,[a,s,b],[kn,f,u,m],[]⟩=⟨kn,r.es++[⟨a,zbz,s,b,kn,f,u,m⟩],r.rs,r.cs⟩:=rfl
   rw [haft] at hK
   simp only [List.length_append,List.length_cons,List.length_nil,List.flatMap_append,List.flatMap_cons,List.flatMap_nil,mR] at hK
   change Fc E _ [.d (.list 3 [.str a,.str s,.str b])] (.d (.list 3 [.str a,.str s,.str b])) at hc1
   change Fc E _ [.d (.list 4 [DI kn,DI f,DI u,DI m])] (.d (.list 4 [DI kn,DI f,DI u,DI m])) at hc2
   change In E 1 zah [.ptr ⟨0,0,0⟩ 0 0,.d (.agg [DI nu,.str zbz,.list 3 [.str a,.str s,.str b],.list 4 [DI kn,DI f,DI u,DI m],.str []])] _ _
   refine In.enter (f:=zah) g.lim rfl rfl ?_
   repeat' ((conv=>whnf);first
   | refine Yz ?_
    | (apply zak.of;assumption)
    | (refine zco.mk ⟨rfl,rfl,rfl,rfl,rfl,rfl,by dsimp only;omega,by dsimp only;omega⟩ ?_)
    | (refine zcf.kinds g rfl ?_)
    | (refine zof.mk ⟨_,rfl,?_⟩)
    | (refine In.enter (f:=zap) g.lim rfl rfl ?_)
    | (exact hK _ ⟨rfl,rfl,rfl,rfl,rfl,trivial⟩)
    | fail)
  ·have haft:zph r ⟨nu,ki,a::s::more,[kn,f,u,m],[]⟩=⟨kn,r.es++[⟨a,ki,s,[],kn,f,u,m⟩],r.rs,r.cs⟩:=by
    rw [zph,if_pos hent,z6n,if_neg hf]
    rfl
   rw [haft] at hK
   simp only [List.length_append,List.length_cons,List.length_nil,List.flatMap_append,List.flatMap_cons,List.flatMap_nil,mR] at hK
   change Fc E _ [.d (.list (more.length+1+1) (.str a:: .str s::more.map D.str))] (.d (.list (more.length+1+1) (.str a:: .str s::more.map D.str))) at hc1
   change Fc E _ [.d (.list 4 [DI kn,DI f,DI u,DI m])] (.d (.list 4 [DI kn,DI f,DI u,DI m])) at hc2
   change In E 1 zah [.ptr ⟨0,0,0⟩ 0 0,.d (.agg [DI nu,.str ki,.list (more.length+1+1) (.str a:: .str s::more.map D.str),.list 4 [DI kn,DI f,DI u,DI m],.str []])] _ _
   rcases hki with rfl|rfl|rfl
   ·refine In.enter (f:=zah) g.lim rfl rfl ?_
    repeat' ((conv=>whnf);first
    | refine Yz ?_
     | (apply zak.of;assumption)
     | (refine zco.mk ⟨rfl,rfl,rfl,rfl,rfl,rfl,by dsimp only;omega,by dsimp only;omega⟩ ?_)
     | (refine zcf.kinds g rfl ?_)
     | (refine zof.mk ⟨_,rfl,?_⟩)
     | (refine In.enter (f:=zap) g.lim rfl rfl ?_)
     | (exact hK _ ⟨rfl,rfl,rfl,rfl,rfl,trivial⟩)
     | fail)
   ·refine In.enter (f:=zah) g.lim rfl rfl ?_
    repeat' ((conv=>whnf);first
    | refine Yz ?_
     | (apply zak.of;assumption)
     | (refine zco.mk ⟨rfl,rfl,rfl,rfl,rfl,rfl,by dsimp only;omega,by dsimp only;omega⟩ ?_)
     | (refine zcf.kinds g rfl ?_)
     | (refine zof.mk ⟨_,rfl,?_⟩)
     | (refine In.enter (f:=zap) g.lim rfl rfl ?_)
     | (exact hK _ ⟨rfl,rfl,rfl,rfl,rfl,trivial⟩)
     | fail)
   ·exact absurd rfl hf
 ·have hc1:=znd g [a] (by simp) (by simp)
  have hc2:=znc g [kn] (by simp) (by simp)
  have hml:(r.rs.flatMap Rmv.cells).length=r.rs.length*2:=zag Rmv.cells 2 yhp r.rs
  clear hs hc ha hask
  have haft:zph r ⟨nu,zdf,[a],[kn],[]⟩=⟨kn,r.es,r.rs++[⟨a,kn⟩],r.cs⟩:=rfl
  rw [haft] at hK
  simp only [List.length_append,List.length_cons,List.length_nil,List.flatMap_append,List.flatMap_cons,List.flatMap_nil,mR] at hK
  change Fc E _ [.d (.list 1 [.str a])] (.d (.list 1 [.str a])) at hc1
  change Fc E _ [.d (.list 1 [DI kn])] (.d (.list 1 [DI kn])) at hc2
  change In E 1 zah [.ptr ⟨0,0,0⟩ 0 0,.d (.agg [DI nu,.str zdf,.list 1 [.str a],.list 1 [DI kn],.str []])] _ _
  refine In.enter (f:=zah) g.lim rfl rfl ?_
  repeat' ((conv=>whnf);first
  | refine Yz ?_
   | (apply zak.of;assumption)
   | (refine zco.mk ⟨rfl,rfl,rfl,rfl,rfl,rfl,by dsimp only;omega,by dsimp only;omega⟩ ?_)
   | (refine zcf.kinds g rfl ?_)
   | (refine zof.mk ⟨_,rfl,?_⟩)
   | (refine In.enter (f:=zgo) g.lim rfl rfl ?_)
   | (refine In.enter (f:=za9) g.lim rfl rfl ?_)
   | (exact hK _ ⟨rfl,rfl,rfl,rfl,rfl,trivial⟩)
   | fail)
 ·have hc1:=znd g [a,en] (by simp) (by simp)
  have hc2:=znc g [kn] (by simp) (by simp)
  have hml:(r.cs.flatMap Cpl.cells).length=r.cs.length*5:=zag Cpl.cells 5 zpb r.cs
  clear hs hc ha hask
  have haft:zph r ⟨nu,zcl,[a,en],[kn],[]⟩=⟨kn,r.es,r.rs,r.cs++[⟨a,en,kn,false,false⟩]⟩:=rfl
  rw [haft] at hK
  simp only [List.length_append,List.length_cons,List.length_nil,List.flatMap_append,List.flatMap_cons,List.flatMap_nil,mR] at hK
  change Fc E _ [.d (.list 2 [.str a,.str en])] (.d (.list 2 [.str a,.str en])) at hc1
  change Fc E _ [.d (.list 1 [DI kn])] (.d (.list 1 [DI kn])) at hc2
  change In E 1 zah [.ptr ⟨0,0,0⟩ 0 0,.d (.agg [DI nu,.str zcl,.list 2 [.str a,.str en],.list 1 [DI kn],.str []])] _ _
  refine In.enter (f:=zah) g.lim rfl rfl ?_
  repeat' ((conv=>whnf);first
  | refine Yz ?_
   | (apply zak.of;assumption)
   | (refine zco.mk ⟨rfl,rfl,rfl,rfl,rfl,rfl,by dsimp only;omega,by dsimp only;omega⟩ ?_)
   | (refine zcf.kinds g rfl ?_)
   | (refine zof.mk ⟨_,rfl,?_⟩)
   | (refine In.enter (f:=zb2) g.lim rfl rfl ?_)
   | (exact hK _ ⟨rfl,rfl,rfl,rfl,rfl,trivial⟩)
   | fail)
 ·have hc1:=znd g [a] (by simp) (by simp)
  have hc2:=znc g [kn,v] (by simp) (by simp)
  have hml:(r.rs.flatMap Rmv.cells).length=r.rs.length*2:=zag Rmv.cells 2 yhp r.rs
  have hmc:(r.cs.flatMap Cpl.cells).length=r.cs.length*5:=zag Cpl.cells 5 zpb r.cs
  change zo8 r a v=0 at hask
  rcases zlu r.cs a with h|⟨k,hk,h,hnm⟩
  ·rw [zo8,h,if_pos (by decide)] at hask
   omega
  have hgd:r.cs.getD k ybl=r.cs[k]:=by simp [List.getD,hk]
  have haft:zph r ⟨nu,zei,[a],[kn,v],[]⟩=⟨kn,r.es,if v=1 then r.rs++[⟨r.cs[k].en,kn⟩] else r.rs,r.cs.set k {r.cs[k] with cl:=true,up:=decide (v=1)}⟩:=by
   change (Rgs.mk kn r.es (if v=1 then r.rs++[⟨(r.cs.getD (zsm r.cs a).toNat ybl).en,kn⟩] else r.rs) (r.cs.set (zsm r.cs a).toNat {r.cs.getD (zsm r.cs a).toNat ybl with cl:=true,up:=decide (v=1)}))=_
   rw [h,Int.toNat_natCast,hgd]
  rw [haft] at hK
  have hq:=zo1 g t (ev++[⟨nu,zei,[a],[kn,v],[]⟩]) ⟨kn,r.es,r.rs,r.cs⟩ a (by dsimp only;omega)
  rw [show zsm (Rgs.mk kn r.es r.rs r.cs).cs a=k from h,yjf,if_pos (by omega)] at hq
  simp only [List.length_append,List.length_cons,List.length_nil,List.flatMap_append,List.flatMap_cons,List.flatMap_nil,mR] at hq
  clear hs hc ha hask haft
  have hp1:patch (r.cs.flatMap Cpl.cells) ((0+((k:Nat):Int).toNat)*5+3) [.bool true]=(r.cs.set k {r.cs[k] with cl:=true}).flatMap Cpl.cells:=by
   rw [Nat.zero_add,Int.toNat_natCast]
   exact zqq Cpl.cells 5 zpb r.cs k 3 hk (by decide) _ _ rfl
  have hm1:((r.cs.set k {r.cs[k] with cl:=true}).flatMap Cpl.cells).length=r.cs.length*5:=by rw [zag Cpl.cells 5 zpb,List.length_set]
  have hk1:k<(r.cs.set k {r.cs[k] with cl:=true}).length:=by rw [List.length_set];exact hk
  have hp2:∀b,patch ((r.cs.set k {r.cs[k] with cl:=true}).flatMap Cpl.cells) ((0+((k:Nat):Int).toNat)*5+4) [.bool b]=(r.cs.set k {r.cs[k] with cl:=true,up:=b}).flatMap Cpl.cells:=by
   intro b
   rw [Nat.zero_add,Int.toNat_natCast]
   have:=zqq Cpl.cells 5 zpb (r.cs.set k {r.cs[k] with cl:=true}) k 4 hk1 (by decide) (.bool b) {r.cs[k] with cl:=true,up:=b} (by rw [List.getElem_set_self];rfl)
   rw [this,List.set_set]
  have hp3:∀b,k<(r.cs.set k {r.cs[k] with cl:=true,up:=b}).length:=fun b=>by rw [List.length_set];exact hk
  have hp4:∀b,(r.cs.set k {r.cs[k] with cl:=true,up:=b})[k]'(hp3 b)={r.cs[k] with cl:=true,up:=b}:=fun b=>List.getElem_set_self _
  change Fc E _ [.d (.list 1 [.str a])] (.d (.list 1 [.str a])) at hc1
  change Fc E _ [.d (.list 2 [DI kn,DI v])] (.d (.list 2 [DI kn,DI v])) at hc2
  change In E 1 zah [.ptr ⟨0,0,0⟩ 0 0,.d (.agg [DI nu,.str zei,.list 1 [.str a],.list 2 [DI kn,DI v],.str []])] _ _
  by_cases hv:v=1
  ·rw [if_pos hv,decide_eq_true hv] at hK
   simp only [List.length_append,List.length_cons,List.length_nil,List.flatMap_append,List.flatMap_cons,List.flatMap_nil,List.length_set,mR] at hK
   refine In.enter (f:=zah) g.lim rfl rfl ?_
   repeat' ((conv=>whnf);first
   | refine Yz ?_
    | (apply zak.of;assumption)
    | (refine zco.mk ⟨rfl,rfl,rfl,rfl,rfl,rfl,by dsimp only;omega,by dsimp only;omega⟩ ?_)
    | (refine zcf.kinds g rfl ?_)
    | (refine zof.mk ⟨_,rfl,?_⟩)
    | (refine Cmp.tt hv ?_)
    | (refine In.enter (f:=za6) g.lim rfl rfl ?_)
    | (refine zjh.of (r':= .ptr ⟨0,0,4⟩ ((0+((k:Nat):Int).toNat)*5) r.cs.length) isR rfl rfl rfl rfl hq rfl rfl rfl ?_)
    | (refine zco.mk ⟨rfl,by omega,rfl⟩ ?_;first |rw [hp1]|rw [hp2])
    | (refine zfo.rec0 zpb k rfl (hp3 true) (by rw [hp4];rfl) ?_)
    | (refine In.enter (f:=za9) g.lim rfl rfl ?_)
    | (exact hK _ ⟨rfl,rfl,rfl,rfl,rfl,trivial⟩)
    | fail)
  ·rw [if_neg hv,decide_eq_false hv] at hK
   simp only [List.length_append,List.length_cons,List.length_nil,List.flatMap_append,List.flatMap_cons,List.flatMap_nil,List.length_set,mR] at hK
   refine In.enter (f:=zah) g.lim rfl rfl ?_
   repeat' ((conv=>whnf);first
   | refine Yz ?_
    | (apply zak.of;assumption)
    | (refine zco.mk ⟨rfl,rfl,rfl,rfl,rfl,rfl,by dsimp only;omega,by dsimp only;omega⟩ ?_)
    | (refine zcf.kinds g rfl ?_)
    | (refine zof.mk ⟨_,rfl,?_⟩)
    | (refine Cmp.ff hv ?_)
    | (refine In.enter (f:=za6) g.lim rfl rfl ?_)
    | (refine zjh.of (r':= .ptr ⟨0,0,4⟩ ((0+((k:Nat):Int).toNat)*5) r.cs.length) isR rfl rfl rfl rfl hq rfl rfl rfl ?_)
    | (refine zco.mk ⟨rfl,by omega,rfl⟩ ?_;first |rw [hp1]|rw [hp2])
    | (refine zfo.rec0 zpb k rfl (hp3 false) (by rw [hp4];rfl) ?_)
    | (refine In.enter (f:=za9) g.lim rfl rfl ?_)
    | (exact hK _ ⟨rfl,rfl,rfl,rfl,rfl,trivial⟩)
    | fail)
theorem yra (t:Nat) (ev:List Evt) (r:Rgs) (ho:OkR r) (hrs:r.rs.length<1000) (e:Evt) (hs:zh8 r ev.length e=0) (hev:ev.length<=1000):Us E zah [.ptr ⟨0,0,0⟩ 0 0,Evv e] (mR t ev r) (.tup []) (mR t (ev++[e]) (zph r e)):=
 ⟨ym2 g t ev r ho hrs e hs hev fun _ h=>⟨rfl,h⟩⟩
end
section
variable {E : Oracle} (g : Good E)
include g
theorem z6u (ev:List Evt) (r:Rgs) (ho:OkR r) (kn:Int) {slot:Nat} {K:V->Mem->Prop} (hK:K (Ws (yll r kn)) (mR zaa ev r)):
  In E 1 zb4 [.ptr ⟨0,0,0⟩ 1 0,I kn] (mR zaa ev r) fun v m'=>zu4 ⟨0,1⟩ slot true v m' K:=by
 have hes:=ho.es
 have hml:(r.es.flatMap Ent.cells).length=r.es.length*8:=zag Ent.cells 8 zmi r.es
 refine In.enter (f:=zb4) g.lim rfl rfl ?_
 repeat' ((conv=>whnf);first
 | refine Yz ?_
  | (refine In.enter (f:=zcw) g.lim rfl rfl ?_)
  | fail)
 refine zam.to (zam.by (σ:=Nat×List Ent) g (fun u=>u.1<=r.es.length/\u.2=(r.es.take u.1).filter fun x=>z00 r x kn)
  (fun u=>[(1,.fn zch [] [.ptr ⟨1,2,0⟩ 0 0,.ptr ⟨1,3,0⟩ 0 0]),(5,.ref ⟨2,5,0⟩ 0 u.2.length u.2.length),(8,.ref ⟨0,0,2⟩ 0 r.es.length r.es.length),(9,I r.es.length),(10,I u.1)])
  (fun u=>mR zaa ev r++[(⟨1,2,0⟩,.cells za2 [.ptr ⟨0,0,0⟩ 1 0]),(⟨1,3,0⟩,.cells zbs [I kn]),(⟨2,4,0⟩,.row false zac 8 0 []),(⟨2,5,0⟩,.row false zac 8 u.2.length (u.2.flatMap Ent.cells))])
  (fun u=>r.es.length-u.1) ?_ (0,[]) ⟨Nat.zero_le _,rfl⟩) rfl rfl
 rintro⟨k,out⟩ ⟨h1,h2⟩ ih
 dsimp only at h1 h2 ih ⊢
 have hmo:(out.flatMap Ent.cells).length=out.length*8:=zag Ent.cells 8 zmi out
 have hol:out.length<=256:=by
  rw [h2]
  refine Nat.le_trans (List.length_filter_le _ _) ?_
  rw [List.length_take];omega
 by_cases hlt:k<r.es.length
 ·have hwin:win (r.es.flatMap Ent.cells) ((0+((k:Nat):Int).toNat)*8) 8=r.es[k].cells:=by
   rw [Nat.zero_add,Int.toNat_natCast]
   exact zb8 Ent.cells 8 zmi r.es k hlt
  have hq:=ynq g zaa ev r ho kn k hlt
  cases hc:z00 r r.es[k] kn with
  | true=>
   rw [hc] at hq
   have ih:=ih (k+1,out++[r.es[k]]) ⟨by dsimp only;omega,by dsimp only;rw [zih _ _ _ hlt,<-h2,hc];rfl⟩ (by dsimp only;omega)
   simp only [List.length_append,List.length_cons,List.length_nil,List.flatMap_append,List.flatMap_cons,List.flatMap_nil] at ih
   repeat' ((conv=>whnf);first
   | refine Yz ?_
    | (rw [hwin])
    | (refine In.enter (f:=zch) g.lim rfl rfl ?_)
    | (refine zjh.of (r':=B true) [⟨0,0,0⟩,⟨0,0,1⟩,⟨0,0,2⟩,⟨0,0,3⟩,⟨0,0,4⟩] rfl rfl rfl rfl hq rfl rfl rfl ?_)
    | (refine zco.mk ⟨rfl,rfl,rfl,rfl,rfl,rfl,by dsimp only;omega,by dsimp only;omega⟩ ?_)
    | (refine zam.to ih rfl rfl)
    | fail)
  | false=>
   rw [hc] at hq
   have ih:=ih (k+1,out) ⟨by dsimp only;omega,by dsimp only;rw [zih _ _ _ hlt,<-h2,hc];simp⟩ (by dsimp only;omega)
   repeat' ((conv=>whnf);first
   | refine Yz ?_
    | (rw [hwin])
    | (refine In.enter (f:=zch) g.lim rfl rfl ?_)
    | (refine zjh.of (r':=B false) [⟨0,0,0⟩,⟨0,0,1⟩,⟨0,0,2⟩,⟨0,0,3⟩,⟨0,0,4⟩] rfl rfl rfl rfl hq rfl rfl rfl ?_)
    | (refine zam.to ih rfl rfl)
    | fail)
 ·rw [List.take_of_length_le (by omega)] at h2
  have hcl:yll r kn=out.map Ent.nm:=by rw [yll,<-h2]
  rw [hcl] at hK
  clear hcl h2 ih
  repeat' ((conv=>whnf);first
  | refine Yz ?_
   | (refine zco.mk ⟨rfl,by omega⟩ ?_)
   | (rw [if_pos ⟨rfl,rfl⟩];refine In.enter (f:=zax) g.lim rfl rfl ?_)
   | (refine In.enter (f:=zax) g.lim rfl rfl ?_)
   | fail)
  refine zam.to (zam.by (σ:=List (List UInt8)) g (fun u=>u.length<=out.length/\u=(out.take u.length).map Ent.nm)
   (fun u=>[(1,.fn zgh [] []),(5,.ref ⟨2,5,0⟩ 0 u.length u.length),(8,.d (.list out.length (out.flatMap Ent.cells))),(9,I out.length),(10,I u.length)])
   (fun u=>mR zaa ev r++[(⟨1,2,0⟩,.cells za2 [.ptr ⟨0,0,0⟩ 1 0]),(⟨1,3,0⟩,.cells zbs [I kn]),(⟨2,4,0⟩,.row false zad 1 0 []),(⟨2,5,0⟩,.row false zad 1 u.length (u.map D.str))])
   (fun u=>out.length-u.length) ?_ [] ⟨Nat.zero_le _,rfl⟩) rfl rfl
  rintro u ⟨h3,h4⟩ ih
  dsimp only at h3 h4 ih ⊢
  by_cases hlt2:u.length<out.length
  ·have hwin:win (out.flatMap Ent.cells) (((u.length:Nat):Int).toNat*8) 8=out[u.length].cells:=by
    rw [Int.toNat_natCast]
    exact zb8 Ent.cells 8 zmi out u.length hlt2
   have ih:=ih (u++[out[u.length].nm]) ⟨by rw [List.length_append,List.length_singleton];omega,by
    rw [List.length_append,List.length_singleton,List.take_succ_eq_append_getElem hlt2,List.map_append,<-h4];rfl⟩ (by rw [List.length_append,List.length_singleton];omega)
   simp only [List.length_append,List.length_cons,List.length_nil,List.map_append,List.map_cons,List.map_nil] at ih
   repeat' ((conv=>whnf);first
   | refine Yz ?_
    | (rw [hwin])
    | (refine In.enter (f:=zgh) g.lim rfl rfl ?_)
    | (refine zco.mk ⟨rfl,rfl,rfl,rfl,rfl,rfl,by dsimp only;omega,by dsimp only;omega⟩ ?_)
    | (refine zam.to ih rfl rfl)
    | fail)
  ·rw [List.take_of_length_le (by omega)] at h4
   rw [<-h4] at hK
   repeat' ((conv=>whnf);first
   | refine Yz ?_
    | (refine zco.mk ⟨rfl,by omega⟩ ?_)
    | (rw [if_pos ⟨rfl,rfl⟩];exact hK)
    | (exact hK)
    | fail)
theorem yer (ev:List Evt) (r:Rgs) (ho:OkR r) (kn:Int):Ui E zb4 [.ptr ⟨0,0,0⟩ 1 0,I kn] (mR zaa ev r) (Ws (yll r kn)) (mR zaa ev r):=
 ⟨z6u g ev r ho kn ⟨rfl,⟨rfl,rfl,rfl,rfl,rfl,trivial⟩⟩⟩
end
def ypw (r:Rgs) (x:Ent) (on:List UInt8):Bool:=(chF r.es.length r.es x).tail.any fun y=>decide (y.nm=on)
def yop (r:Rgs) (on:List UInt8):List (List UInt8):=(r.es.filter fun x=>ypw r x on).map Ent.nm
theorem yir (x:Ent) (tl:List Ent):win ((x::tl).flatMap Ent.cells) (1*8) ((tl.length+1-1)*8)=tl.flatMap Ent.cells:=by
 unfold win
 rw [List.flatMap_cons]
 rw [Nat.add_sub_cancel,List.drop_append_of_le_length (by rw [zmi];decide),List.drop_of_length_le (by rw [zmi];decide),List.nil_append,<-zag Ent.cells 8 zmi tl,List.take_length]
abbrev mKZ (ev:List Evt) (r:Rgs) (on:List UInt8) (out:List Ent):Mem:=mR zaa ev r++[(⟨1,2,0⟩,.cells za2 [.ptr ⟨0,0,0⟩ 1 0]),(⟨1,3,0⟩,.cells zad [S on]),(⟨2,4,0⟩,.row false zac 8 0 []),(⟨2,5,0⟩,.row false zac 8 out.length (out.flatMap Ent.cells))]
section
variable {E : Oracle} (g : Good E)
include g
theorem z6w (ev:List Evt) (r:Rgs) (ho:OkR r) (on:List UInt8) (out0:List Ent) (k:Nat) (hk:k<r.es.length) (bx:Evl.Id×Ob) (hbx:bx=(⟨2,7,0⟩,.cells zac [S r.es[k].nm,S r.es[k].kd,S r.es[k].sr,S r.es[k].bs,I r.es[k].kn,I r.es[k].fr,I r.es[k].to,I r.es[k].mi])) {slot:Nat} {K:V->Mem->Prop} (hK:K (B (ypw r r.es[k] on)) (mKZ ev r on out0++[bx])):
  In E 3 zcn [yqb r.es[k],.ptr ⟨1,2,0⟩ 0 0,.ptr ⟨1,3,0⟩ 0 0] (mKZ ev r on out0++[bx]) fun v m'=>zu4 ⟨2,3⟩ slot true v m' K:=by
 have hes:=ho.es
 have hc:=z1y ho.bases r.es.length k (by omega) hk
 have hcl:=z9c r.es r.es.length r.es[k]
 unfold ypw at hK
 generalize chF r.es.length r.es r.es[k]=c at *
 have hml:(r.es.flatMap Ent.cells).length=r.es.length*8:=zag Ent.cells 8 zmi r.es
 generalize hx:r.es[k]=x at *
 subst hbx
 refine In.enter (f:=zcn) g.lim rfl rfl ?_
 repeat' ((conv=>whnf);first
 | refine Yz ?_
  | (refine In.enter (f:=zdi) g.lim rfl rfl ?_)
  | fail)
 refine zam.to (zam.by (σ:=List Ent×Ent×Nat×List Ent) g (fun u=>(∃hk:u.2.2.1<r.es.length,r.es[u.2.2.1]=u.2.1)/\Ch r.es u.2.2.1 u.2.2.2/\∃pre,u.1=pre++[u.2.1]/\pre++u.2.2.2=c)
  (fun u=>[(0,.ptr ⟨0,0,0⟩ 1 0),(5,.ref ⟨4,8,0⟩ 0 u.1.length u.1.length)])
  (fun u=>mKZ ev r on out0++[(⟨2,7,0⟩,.cells zac [S x.nm,S x.kd,S x.sr,S x.bs,I x.kn,I x.fr,I x.to,I x.mi]),(⟨3,3,0⟩,.cells zac [S x.nm,S x.kd,S x.sr,S x.bs,I x.kn,I x.fr,I x.to,I x.mi]),(⟨4,3,0⟩,.cells zac [S x.nm,S x.kd,S x.sr,S x.bs,I x.kn,I x.fr,I x.to,I x.mi]),(⟨4,4,0⟩,.row false zac 8 0 []),(⟨4,8,0⟩,.row false zac 8 u.1.length (u.1.flatMap Ent.cells))])
  (fun u=>u.2.2.2.length) ?_ ([x],x,k,c) ⟨⟨hk,hx⟩,hc,[],rfl,rfl⟩) rfl rfl
 have hc0:=hc
 clear hc hx
 rintro⟨out,y,k2,tl⟩ ⟨⟨hk2,hy⟩,hc,pre,h1,h2⟩ ih
 dsimp only at hk2 hy hc h1 h2 ih ⊢
 have hol:out.length=pre.length+1:=by rw [h1];simp
 have hlast:out[pre.length]'(by omega)=y:=by simp [h1]
 have hq:=zv3 g zaa ev r y.bs (by omega)
 have hcl2:pre.length+tl.length<=257:=by rw [<-List.length_append,h2];omega
 have hmo:(out.flatMap Ent.cells).length=out.length*8:=zag Ent.cells 8 zmi out
 cases hc with
 | stop k2 hk' h=>
  rw [hy] at h h2
  rw [h,z9f,if_neg (by decide)] at hq
  obtain rfl:out=c:=h1.trans h2
  obtain⟨z,rest,rfl⟩:∃z rest,out=z::rest:=List.exists_cons_of_ne_nil (by intro e;rw [e] at hol;simp at hol)
  have hll:(z::rest).length=rest.length+1:=rfl
  have hw8:=yir z rest
  have hmr:(rest.flatMap Ent.cells).length=rest.length*8:=zag Ent.cells 8 zmi rest
  rw [List.tail_cons] at hK
  clear ih
  repeat' ((conv=>whnf);first
  | refine Yz ?_
   | (refine zfo.rec0 zmi pre.length (by omega) (by omega) rfl ?_;rw [hlast])
   | (refine zjh.of (r':= .d .nilp) isR rfl rfl rfl rfl hq rfl rfl rfl ?_)
   | (rw [if_pos ⟨rfl,rfl⟩])
   | (refine zco.mk ⟨rfl,by omega⟩ ?_)
   | (refine zcd.at 1 (rest.length+1) rfl (by omega) (by omega) ?_;rw [hw8])
   | (refine In.enter (f:=zau) g.lim rfl rfl ?_)
   | (refine In.enter (f:=zat) g.lim rfl rfl ?_)
   | fail)
  refine zam.to (zam.upP g (fun k=>[(0,.d (.list rest.length (rest.flatMap Ent.cells))),(1,.fn zca [] [.ptr ⟨1,3,0⟩ 0 0]),(7,I rest.length),(8,I k)]) (fun _=>mKZ ev r on out0++[(⟨2,7,0⟩,.cells zac [S x.nm,S x.kd,S x.sr,S x.bs,I x.kn,I x.fr,I x.to,I x.mi]),(⟨3,3,0⟩,.cells zac [S x.nm,S x.kd,S x.sr,S x.bs,I x.kn,I x.fr,I x.to,I x.mi])])
   (fun k=>∀j,(hj:j<rest.length)->j<k->rest[j].nm≠on) rest.length (fun m hm hp ihm=> ?_) 0 (Nat.zero_le _) (fun j _ h=>absurd h (Nat.not_lt_zero _))) rfl rfl
  by_cases hlt:m<rest.length
  ·have hwin:win (rest.flatMap Ent.cells) (((m:Nat):Int).toNat*8) 8=rest[m].cells:=by
    rw [Int.toNat_natCast]
    exact zb8 Ent.cells 8 zmi rest m hlt
   by_cases hb:rest[m].nm=on
   ·have ha:(rest.any fun y=>decide (y.nm=on))=true:=List.any_eq_true.2 ⟨_,List.getElem_mem hlt,decide_eq_true hb⟩
    rw [ha] at hK
    repeat' ((conv=>whnf);first
    | refine Yz ?_
     | (rw [hwin];refine In.enter (f:=zca) g.lim rfl rfl ?_)
     | (refine Cmp.tt hb ?_)
     | (exact hK)
     | fail)
   ·have ihm:=ihm hlt fun j hj hjm=>by
     by_cases e:j=m
     ·subst e;exact hb
     ·exact hp j hj (by omega)
    repeat' ((conv=>whnf);first
    | refine Yz ?_
     | (rw [hwin];refine In.enter (f:=zca) g.lim rfl rfl ?_)
     | (refine Cmp.ff hb ?_)
     | (refine zam.to ihm rfl rfl)
     | fail)
  ·obtain rfl:m=rest.length:=by omega
   have ha:(rest.any fun y=>decide (y.nm=on))=false:=by
    rw [List.any_eq_false]
    intro z hz
    obtain⟨j,hj,rfl⟩:=List.mem_iff_getElem.1 hz
    simpa using hp j hj hj
   rw [ha] at hK
   repeat' ((conv=>whnf);first
   | refine Yz ?_
    | (exact hK)
    | fail)
 | step k2 j tl hk' h ht=>
  rw [hy] at h h2
  rw [h,z9f,if_pos (by omega)] at hq
  obtain⟨hj,hj'⟩:∃hj:j<r.es.length,True:=by
   cases ht with
   | stop _ hj _=>exact⟨hj,trivial⟩
   | step _ _ _ hj _ _=>exact⟨hj,trivial⟩
  have hwin:win (r.es.flatMap Ent.cells) ((0+((j:Nat):Int).toNat)*8) 8=r.es[j].cells:=by
   rw [Nat.zero_add,Int.toNat_natCast]
   exact zb8 Ent.cells 8 zmi r.es j hj
  simp only [List.length_cons] at hcl2
  have ih:=ih (out++[r.es[j]],r.es[j],j,tl) ⟨⟨hj,rfl⟩,ht,out,rfl,by rw [h1,List.append_assoc];exact h2⟩ (by simp)
  simp only [List.length_append,List.length_cons,List.length_nil,List.flatMap_append,List.flatMap_cons,List.flatMap_nil] at ih
  repeat' ((conv=>whnf);first
  | refine Yz ?_
   | (refine zfo.rec0 zmi pre.length (by omega) (by omega) rfl ?_;rw [hlast])
   | (refine zjh.of (r':= .ptr ⟨0,0,2⟩ ((0+((j:Nat):Int).toNat)*8) r.es.length) isR rfl rfl rfl rfl hq rfl rfl rfl ?_)
   | (rw [hwin])
   | (refine zco.mk ⟨rfl,rfl,rfl,rfl,rfl,rfl,by dsimp only;omega,by omega⟩ ?_)
   | (refine zam.to ih rfl rfl)
   | fail)
theorem z9q (ev:List Evt) (r:Rgs) (ho:OkR r) (on:List UInt8) {slot:Nat} {K:V->Mem->Prop} (hK:K (.tup [if zny r.es on<0 then Ws [] else Ws (yop r on),I (if zny r.es on<0 then 10 else 0)]) (mR zaa ev r)):
  In E 1 zcc [.ptr ⟨0,0,0⟩ 1 0,S on] (mR zaa ev r) fun v m'=>zu4 ⟨0,1⟩ slot true v m' K:=by
 have hes:=ho.es
 have hml:(r.es.flatMap Ent.cells).length=r.es.length*8:=zag Ent.cells 8 zmi r.es
 have hq0:=zv3 g zaa ev r on (by omega)
 refine In.enter (f:=zcc) g.lim rfl rfl ?_
 by_cases hi:zny r.es on<0
 ·rw [if_pos hi,if_pos hi] at hK
  rw [z9f,if_neg (by omega)] at hq0
  repeat' ((conv=>whnf);first
  | refine Yz ?_
   | (refine zjh.of (r':= .d .nilp) isR rfl rfl rfl rfl hq0 rfl rfl rfl ?_)
   | (exact hK)
   | fail)
 rw [if_neg hi,if_neg hi] at hK
 rw [z9f,if_pos (by omega)] at hq0
 generalize zny r.es on=i0 at *
 repeat' ((conv=>whnf);first
 | refine Yz ?_
  | (refine zjh.of (r':= .ptr ⟨0,0,2⟩ ((0+i0.toNat)*8) r.es.length) isR rfl rfl rfl rfl hq0 rfl rfl rfl ?_)
  | (refine In.enter (f:=zcw) g.lim rfl rfl ?_)
  | fail)
 refine zam.to (zam.by (σ:=Nat×List Ent) g (fun u=>u.1<=r.es.length/\u.2=(r.es.take u.1).filter fun x=>ypw r x on)
  (fun u=>[(1,.fn zcn [] [.ptr ⟨1,2,0⟩ 0 0,.ptr ⟨1,3,0⟩ 0 0]),(5,.ref ⟨2,5,0⟩ 0 u.2.length u.2.length),(8,.ref ⟨0,0,2⟩ 0 r.es.length r.es.length),(9,I r.es.length),(10,I u.1)])
  (fun u=>mKZ ev r on u.2)
  (fun u=>r.es.length-u.1) ?_ (0,[]) ⟨Nat.zero_le _,rfl⟩) rfl rfl
 rintro⟨k,out⟩ ⟨h1,h2⟩ ih
 dsimp only at h1 h2 ih ⊢
 have hmo:(out.flatMap Ent.cells).length=out.length*8:=zag Ent.cells 8 zmi out
 have hol:out.length<=256:=by
  rw [h2]
  refine Nat.le_trans (List.length_filter_le _ _) ?_
  rw [List.length_take];omega
 by_cases hlt:k<r.es.length
 ·have hwin:win (r.es.flatMap Ent.cells) ((0+((k:Nat):Int).toNat)*8) 8=r.es[k].cells:=by
   rw [Nat.zero_add,Int.toNat_natCast]
   exact zb8 Ent.cells 8 zmi r.es k hlt
  cases hc:ypw r r.es[k] on with
  | true=>
   have ih:=ih (k+1,out++[r.es[k]]) ⟨by dsimp only;omega,by dsimp only;rw [zih _ _ _ hlt,<-h2,hc];rfl⟩ (by dsimp only;omega)
   simp only [List.length_append,List.length_cons,List.length_nil,List.flatMap_append,List.flatMap_cons,List.flatMap_nil,mKZ] at ih
   repeat' ((conv=>whnf);first
   | refine Yz ?_
    | (rw [hwin])
    | (refine z6w g ev r ho on out k hlt _ rfl (slot:=16) ?_;rw [hc])
    | (refine zco.mk ⟨rfl,rfl,rfl,rfl,rfl,rfl,by dsimp only;omega,by dsimp only;omega⟩ ?_)
    | (refine zam.to ih rfl rfl)
    | fail)
  | false=>
   have ih:=ih (k+1,out) ⟨by dsimp only;omega,by dsimp only;rw [zih _ _ _ hlt,<-h2,hc];simp⟩ (by dsimp only;omega)
   repeat' ((conv=>whnf);first
   | refine Yz ?_
    | (rw [hwin])
    | (refine z6w g ev r ho on out k hlt _ rfl (slot:=16) ?_;rw [hc])
    | (refine zam.to ih rfl rfl)
    | fail)
 ·rw [List.take_of_length_le (by omega)] at h2
  have hcl:yop r on=out.map Ent.nm:=by rw [yop,<-h2]
  rw [hcl] at hK
  clear hcl h2 ih
  repeat' ((conv=>whnf);first
  | refine Yz ?_
   | (refine zco.mk ⟨rfl,by omega⟩ ?_)
   | (rw [if_pos ⟨rfl,rfl⟩];refine In.enter (f:=zax) g.lim rfl rfl ?_)
   | (refine In.enter (f:=zax) g.lim rfl rfl ?_)
   | fail)
  refine zam.to (zam.by (σ:=List (List UInt8)) g (fun u=>u.length<=out.length/\u=(out.take u.length).map Ent.nm)
   (fun u=>[(1,.fn zgh [] []),(5,.ref ⟨2,5,0⟩ 0 u.length u.length),(8,.d (.list out.length (out.flatMap Ent.cells))),(9,I out.length),(10,I u.length)])
   (fun u=>mR zaa ev r++[(⟨1,2,0⟩,.cells za2 [.ptr ⟨0,0,0⟩ 1 0]),(⟨1,3,0⟩,.cells zad [S on]),(⟨2,4,0⟩,.row false zad 1 0 []),(⟨2,5,0⟩,.row false zad 1 u.length (u.map D.str))])
   (fun u=>out.length-u.length) ?_ [] ⟨Nat.zero_le _,rfl⟩) rfl rfl
  rintro u ⟨h3,h4⟩ ih
  dsimp only at h3 h4 ih ⊢
  by_cases hlt2:u.length<out.length
  ·have hwin:win (out.flatMap Ent.cells) (((u.length:Nat):Int).toNat*8) 8=out[u.length].cells:=by
    rw [Int.toNat_natCast]
    exact zb8 Ent.cells 8 zmi out u.length hlt2
   have ih:=ih (u++[out[u.length].nm]) ⟨by rw [List.length_append,List.length_singleton];omega,by
    rw [List.length_append,List.length_singleton,List.take_succ_eq_append_getElem hlt2,List.map_append,<-h4];rfl⟩ (by rw [List.length_append,List.length_singleton];omega)
   simp only [List.length_append,List.length_cons,List.length_nil,List.map_append,List.map_cons,List.map_nil] at ih
   repeat' ((conv=>whnf);first
   | refine Yz ?_
    | (rw [hwin])
    | (refine In.enter (f:=zgh) g.lim rfl rfl ?_)
    | (refine zco.mk ⟨rfl,rfl,rfl,rfl,rfl,rfl,by dsimp only;omega,by dsimp only;omega⟩ ?_)
    | (refine zam.to ih rfl rfl)
    | fail)
  ·rw [List.take_of_length_le (by omega)] at h4
   rw [<-h4] at hK
   repeat' ((conv=>whnf);first
   | refine Yz ?_
    | (refine zco.mk ⟨rfl,by omega⟩ ?_)
    | (rw [if_pos ⟨rfl,rfl⟩];exact hK)
    | (exact hK)
    | fail)
theorem yin (ev:List Evt) (r:Rgs) (ho:OkR r) (on:List UInt8):Ui E zcc [.ptr ⟨0,0,0⟩ 1 0,S on] (mR zaa ev r) (.tup [if zny r.es on<0 then Ws [] else Ws (yop r on),I (if zny r.es on<0 then 10 else 0)]) (mR zaa ev r):=
 ⟨z9q g ev r ho on ⟨rfl,⟨rfl,rfl,rfl,rfl,rfl,trivial⟩⟩⟩
end
theorem z1n {α β:Type} {f:α->Option β} {p:β}:∀ {l:List α},(∀a∈l,f a=some p)->yex f l=some (l.map fun _=>p)
 | [],_=>rfl
 | a::l,h=>by
  unfold yex
  rw [h a (by simp),Option.bind_some,z1n fun b hb=>h b (by simp [hb])]
  rfl
theorem ybe {α β:Type} {f:α->Option β} {p:α->β}:∀ {l:List α},(∀a∈l,f a=some (p a))->yex f l=some (l.map p)
 | [],_=>rfl
 | a::l,h=>by
  unfold yex
  rw [h a (by simp),Option.bind_some,ybe fun b hb=>h b (by simp [hb])]
  rfl
theorem zrt (sz:Nat):∀(n:Nat) (ds:List D),ds.length=n*sz->(zkh sz n ds).flatten=ds
 | 0,ds,h=>by
  have:ds=[]:=List.length_eq_zero_iff.1 (by omega)
  subst this
  rfl
 | n+1,ds,h=>by
  rw [Nat.succ_mul] at h
  rw [zkh,List.flatten_cons,zrt sz n (ds.drop sz) (by rw [List.length_drop];omega),List.take_append_drop]
theorem zvq {run:Mem->Option (V×Mem)} {m:Mem} {o:Evl.Id} {a b c t n:Nat} {xs:List D} (hl:Evl.look m o=some (.bag t 1 n xs)) (hx:xs.length=n) (p:V×Mem)
  (hr:∀l:List D,l.Perm xs->run (upd m o (.row true t 1 n l))=some p) (hle:leM m p.2 (zk3 false m p.2)=true):znl run m (.ref o a b c)=some (p.1,zk3 false m p.2):=by
 have hx1:xs.length=n*1:=by omega
 unfold znl
 simp only [hl]
 rw [if_pos hx1,hr xs (List.Perm.refl _),Option.bind_some]
 have hall:yex (fun l=>run (upd m o (.row true t 1 n l.flatten))) (zzw (zkh 1 n xs))=some ((zzw (zkh 1 n xs)).map fun _=>p):=by
  refine z1n fun l hl'=>hr _ ?_
  have h1:=(zn3 _ _).1 hl'
  have h2:=h1.flatten
  rwa [zrt 1 n xs hx1] at h2
 rw [hall,Option.bind_some]
 unfold z3q
 rw [if_pos]
 rw [List.all_eq_true]
 intro q hq
 obtain⟨_,_,rfl⟩:=List.mem_map.1 hq
 rw [zxe,hle]
 rfl
theorem z38:∀e:Env,ylp e e=true
 | []=>rfl
 | (t,v)::r=>by simp [ylp,zxe,z38 r]
theorem z2x {body:Env->Mem->Option (Ex×Env×Mem)} {cx:Cx} {it:Nat} {x:Opd} {out nxt pair:Nat} {live:List Nat} {e1:Env} {m1:Mem} {o:Evl.Id} {es:List (D×V)} (hx:x.ev e1= .mp o) (hl:Evl.look m1 o=some (.map es))
  {i:Evl.Id} {m2:Mem} {e2 e3:Env} (hi:Evl.newId cx it m1=i) (hm:upd (upd m1 i .gone) o .gone=m2) (he:only live (put e1 it (.it i))=e2) (R:List (D×V)->Mem)
  (hr:∀p,p.Perm es->zhz body it i out nxt pair live (zm2 m2) p e2 m2=some (.normal,e3,R p)) {mj:Mem} (hj:zk3 true m2 (R es)=mj) (hle:∀p,p.Perm es->leM m2 (R p) mj=true) (hg:Evl.look mj o=some .gone):
  zo3 body cx it x out nxt pair live e1 m1=some (.normal,e3,upd mj o (.map es)):=by
 subst hj
 unfold zo3
 simp only [hx,hl,hi,hm,he]
 unfold zs8
 simp only [hr es (List.Perm.refl _),Option.bind_some]
 have hall:yex (fun p=>zhz body it i out nxt pair live (zm2 m2) p e2 m2) (zzw es)=some ((zzw es).map fun p=>(.normal,e3,R p)):=ybe fun p hp=>hr p ((zn3 _ _).1 hp)
 rw [hall,Option.bind_some]
 unfold zv1
 rw [if_pos]
 ·simp only [Option.bind_some,zzy,hg]
 ·rw [List.all_eq_true]
  intro q hq
  obtain⟨p,hp,rfl⟩:=List.mem_map.1 hq
  dsimp only
  rw [z38,hle p ((zn3 _ _).1 hp)]
  rfl
theorem ybr:∀es:List (D×V),yjk es es=true
 | []=>rfl
 | (k,v)::r=>by simp [yjk,zz9,zxe,ybr r]
inductive LeJ (m0:Mem):Mem->Mem->Prop
 | nil:LeJ m0 [] []
 | cells {i:Evl.Id} {t:Nat} {cs:List V} {r r':Mem} (h:LeJ m0 r r'):LeJ m0 ((i,.cells t cs)::r) ((i,.cells t cs)::r')
 | row {i:Evl.Id} {w:Bool} {t sz n:Nat} {xs:List D} {r r':Mem} (h:LeJ m0 r r'):LeJ m0 ((i,.row w t sz n xs)::r) ((i,.row w t sz n xs)::r')
 | gone {i:Evl.Id} {r r':Mem} (h:LeJ m0 r r'):LeJ m0 ((i,.gone)::r) ((i,.gone)::r')
 | map {i:Evl.Id} {es:List (D×V)} {r r':Mem} (he:yjk es es=true) (h:LeJ m0 r r'):LeJ m0 ((i,.map es)::r) ((i,.map es)::r')
 | loop {i:Evl.Id} {e e0:Env} {ps ps0:List Nat} {a b a0 b0:C} {lv lv0:Nat} {bu bu0 ov ov0:Bool} {j j0:Option ye1} {r r':Mem} (hl:Evl.look m0 i=some (.loop e0 ps0 a0 b0 lv0 bu0 ov0 j0)) (hj:yeb j j=true) (h:LeJ m0 r r'):LeJ m0 ((i,.loop e ps a b lv bu ov j)::r) ((i,.loop e ps a b lv bu ov j)::r')
 | bag {i:Evl.Id} {t sz n:Nat} {xs ys:List D} {r r':Mem} (hb:yiz sz n ys xs=true) (h:LeJ m0 r r'):LeJ m0 ((i,.row true t sz n xs)::r) ((i,.bag t sz n ys)::r')
theorem LeJ.ok {m0 a b:Mem} (h:LeJ m0 a b):leM m0 a b=true:=by
 induction h with
 | nil=>rfl
 | cells h ih=>simp [leM,leO,zl5,ih]
 | row h ih=>simp [leM,leO,zj7,ih]
 | gone h ih=>simp [leM,leO,ih]
 | map he h ih=>simp [leM,leO,he,ih]
 | loop hl hj h ih=>simp [leM,leO,hl,hj,z38,ih]
 | bag hb h ih=>simp [leM,leO,hb,ih]
theorem z0e {x:List D}:∀ {l:List (List D)},x∈l->∃r,zs1 x l=some r
 | y::r,h=>by
  unfold zs1
  by_cases e:zku x y=true
  ·exact⟨r,if_pos e⟩
  ·rw [if_neg e]
   rcases List.mem_cons.1 h with rfl|h
   ·exact absurd (zj7 x) e
   ·obtain⟨q,hq⟩:=z0e h
    exact⟨y::q,by rw [hq];rfl⟩
theorem ycs:∀ {a b:List (List D)},a.Perm b->yad a b=true
 | [],b,h=>by
  have:=List.Perm.nil_eq h
  subst this
  rfl
 | x::r,b,h=>by
  have hx:x∈b:=h.subset (by simp)
  obtain⟨q,hq⟩:=z0e hx
  have h1:=zqn x b q hq
  unfold yad
  rw [hq]
  exact ycs ((List.perm_cons x).1 (h.trans h1))
theorem zvr:∀(l:List D),zkh 1 l.length l=l.map fun x=>[x]
 | []=>rfl
 | x::r=>by
  rw [List.length_cons,zkh,List.map_cons]
  have:=zvr r
  simp only [List.take_succ_cons,List.take_zero,List.drop_succ_cons,List.drop_zero]
  rw [this]
theorem ymj {xs ys:List D} {n:Nat} (h:xs.Perm ys) (hn:ys.length=n):yiz 1 n xs ys=true:=by
 have hx:xs.length=n:=h.length_eq.trans hn
 unfold yiz
 subst hn
 rw [decide_eq_true (by omega),decide_eq_true (by omega),Bool.true_and,Bool.true_and]
 have e1:zkh 1 ys.length xs=xs.map fun x=>[x]:=by rw [<-hx];exact zvr xs
 rw [e1,zvr]
 exact ycs (h.map _)
abbrev zkj (ks:List (List UInt8)):List (D×V):=ks.map fun k=>(D.str k,B true)
theorem zos:∀ks:List (List UInt8),Evl.idsM (zkj ks)=[]
 | []=>rfl
 | k::ks=>by
  unfold zkj
  rw [List.map_cons,Evl.idsM]
  exact(List.nil_append _).trans (zos ks)
abbrev lpK:Ob:= .loop [(2,.ptr ⟨4,2,0⟩ 0 0),(4,.ref ⟨4,4,0⟩ 0 0 0),(6,.fn zao [] [.ptr ⟨1,29,0⟩ 0 0])] [7] zer zes 4 false false none
abbrev yl1 (us:List (List UInt8)):Ob:= .row true zad 1 us.length (us.map D.str)
abbrev eK:Env:=[(0,.yld ⟨4,14,0⟩),(5,.it ⟨5,5,0⟩)]
section
variable {E : Oracle} (g : Good E)
include g
omit g in
theorem z6o {ks:List (List UInt8)} {p:List (D×V)} (h:p.Perm (zkj ks)):∃us:List (List UInt8),p=zkj us/\us.Perm ks:=by
 refine⟨p.map fun e=>match e.1 with
  | .str s=>s
  | _=>[],?_,?_⟩
 ·unfold zkj
  rw [List.map_map]
  symm
  have:∀x∈p,((fun k=>(D.str k,B true))∘fun e:D×V=>match e.1 with
   | .str s=>s
   | _=>[]) x=x:=fun x hx=>by
   have:=h.subset hx
   obtain⟨k,_,rfl⟩:=List.mem_map.1 this
   rfl
  calc List.map _ p=List.map id p:=List.map_congr_left this
   _=p:=List.map_id p
 ·have h1:=h.map fun e:D×V=>match e.1 with
   | .str s=>s
   | _=>[]
  refine h1.trans ?_
  unfold zkj
  rw [List.map_map]
  have:List.map ((fun e:D×V=>match e.1 with
   | .str s=>s
   | _=>[])∘fun k=>(D.str k,B true)) ks=ks:=by
   calc _=List.map id ks:=List.map_congr_left fun _ _=>rfl
    _=ks:=List.map_id ks
  rw [this]
abbrev e1K:Env:=[(0,.yld ⟨4,14,0⟩),(1,.ptr ⟨1,29,0⟩ 0 0),(4,.mp ⟨1,14,0⟩)]
omit g in
theorem yif {ks:List (List UInt8)} {p:List D} (h:p.Perm (ks.map D.str)):∃us:List (List UInt8),p=us.map D.str/\us.Perm ks:=by
 refine⟨p.map fun e=>match e with
  | .str s=>s
  | _=>[],?_,?_⟩
 ·rw [List.map_map]
  symm
  have:∀x∈p,(D.str∘fun e:D=>match e with
   | .str s=>s
   | _=>[]) x=x:=fun x hx=>by
   have:=h.subset hx
   obtain⟨k,_,rfl⟩:=List.mem_map.1 this
   rfl
  calc List.map _ p=List.map id p:=List.map_congr_left this
   _=p:=List.map_id p
 ·have h1:=h.map fun e:D=>match e with
   | .str s=>s
   | _=>[]
  refine h1.trans ?_
  rw [List.map_map]
  have:List.map ((fun e:D=>match e with
   | .str s=>s
   | _=>[])∘D.str) ks=ks:=by
   calc _=List.map id ks:=List.map_congr_left fun _ _=>rfl
    _=ks:=List.map_id ks
  rw [this]
omit g in
theorem yeg {a b:List (List UInt8)} (h:a.Perm b):zmt a=zmt b:=by
 have hanti:∀x y:List UInt8,zbt y x=false->zbt x y=false->x=y:=by
  intro x
  induction x with
  | nil=>intro y _ h2;cases y with
   | nil=>rfl
   | cons=>simp [zbt] at h2
  | cons c x ih=>intro y h1 h2;cases y with
   | nil=>simp [zbt] at h1
   | cons d y=>
    simp only [zbt,Bool.or_eq_false_iff,decide_eq_false_iff_not,Bool.and_eq_false_iff,beq_eq_false_iff_ne,ne_eq,UInt8.not_lt] at h1 h2
    have e:c=d:=UInt8.le_antisymm h1.1 h2.1
    subst e
    rw [ih y (h1.2.resolve_left (fun h=>h rfl)) (h2.2.resolve_left (fun h=>h rfl))]
 exact List.Perm.eq_of_pairwise (le:=fun x y=>zbt y x=false) (fun x y _ _ h1 h2=>hanti x y h1 h2) (zne a) (zne b) ((zhr a).trans (h.trans (zhr b).symm))
end
structure Slt where
 sr:List UInt8
 mi:Int
def Slt.cells (t:Slt):List D:=[.str t.sr,DI t.mi]
theorem yq7 (t:Slt):t.cells.length=2:=rfl
abbrev LS2 (l:List Slt):V:= .d (.list l.length (l.flatMap Slt.cells))
def yew (ks:List (List UInt8)) (s:List UInt8):List (List UInt8):=if s∈ks then ks else ks++[s]
def srK (es:List Ent):List (List UInt8):=es.foldl (fun ks x=>yew ks x.sr) []
theorem yk4 (es:List Ent) (k:Nat) (h:k<es.length):srK (es.take (k+1))=yew (srK (es.take k)) es[k].sr:=by
 unfold srK
 rw [List.take_succ_eq_append_getElem h,List.foldl_append]
 rfl
theorem yi4 (ks:List (List UInt8)) (s:List UInt8):(yew ks s).length<=ks.length+1:=by
 unfold yew
 split
 ·omega
 ·simp
theorem yic (es:List Ent):(srK es).length<=es.length:=by
 have key:∀(es:List Ent) (ks:List (List UInt8)),(es.foldl (fun ks x=>yew ks x.sr) ks).length<=ks.length+es.length:=by
  intro es
  induction es with
  | nil=>intro ks;simp
  | cons x es ih=>
   intro ks
   rw [List.foldl_cons]
   have:=ih (yew ks x.sr)
   have:=yi4 ks x.sr
   simp only [List.length_cons];omega
 have:=key es []
 simpa [srK] using this
theorem z78 (s:List UInt8):∀ks:List (List UInt8),Evl.setE (.str s) (B true) (zkj ks)=some (zkj (yew ks s))
 | []=>rfl
 | q::ks=>by
  unfold zkj
  rw [List.map_cons,Evl.setE]
  have he:Evl.eqD (.str s) (.str q)=some (s==q):=rfl
  simp only [he]
  by_cases e:s=q
  ·subst e
   simp [yew]
  ·have:(s==q)=false:=beq_eq_false_iff_ne.2 e
   rw [this]
   dsimp only
   have ih:=z78 s ks
   unfold zkj at ih
   rw [ih]
   by_cases hm:s∈ks
   ·simp [yew,hm]
   ·have:¬s∈q::ks:=by simp [e,hm]
    simp [yew,hm,this]
def yl7 (r:Rgs) (kn d:Int) (ks:List (List UInt8)):List Slt:=(ks.filter fun s=>decide (z7a r s kn d≠1440)).map fun s=>⟨s,z7a r s kn d⟩
theorem z6s (p:List UInt8->Bool) (l:List (List UInt8)) (k:Nat) (h:k<l.length):(l.take (k+1)).filter p=(l.take k).filter p++if p l[k] then [l[k]] else []:=zih p l k h
def yee (r:Rgs) (kn d:Int):List Slt:=yl7 r kn d (zmt (srK r.es))
abbrev mTZ (l:List Evt) (r:Rgs):Mem:=mR zaa l r++[(⟨1,6,0⟩,.row false zb3 2 0 [])]
abbrev mZZ (l:List Evt) (r:Rgs) (ks:List (List UInt8)):Mem:=mTZ l r++[(⟨1,14,0⟩,.map (zkj ks)),(⟨1,10,0⟩,.row false zb3 2 0 []),(⟨1,29,0⟩,.cells zdl [.mp ⟨1,14,0⟩])]
abbrev ych (l:List Evt) (r:Rgs):Mem:=mTZ l r++[(⟨1,14,0⟩,.gone),(⟨1,10,0⟩,.row false zb3 2 0 []),(⟨1,29,0⟩,.cells zdl [.mp ⟨1,14,0⟩]),(⟨2,2,0⟩,.row true zad 1 0 []),(⟨3,2,0⟩,.row true zad 1 0 []),(⟨4,2,0⟩,.cells zoe [.d .nil]),(⟨4,4,0⟩,.row true zad 1 0 []),(⟨4,14,0⟩,lpK),(⟨5,5,0⟩,.gone)]
abbrev yls (l:List Evt) (r:Rgs) (us:List (List UInt8)) (last:Ob):Mem:=mTZ l r++[(⟨1,14,0⟩,.gone),(⟨1,10,0⟩,.row false zb3 2 0 []),(⟨1,29,0⟩,.cells zdl [.mp ⟨1,14,0⟩]),(⟨2,2,0⟩,.row true zad 1 0 []),(⟨3,2,0⟩,.row true zad 1 0 []),(⟨4,2,0⟩,.cells zoe [.ref ⟨4,11,0⟩ 0 us.length us.length]),(⟨4,4,0⟩,.row true zad 1 0 []),(⟨4,14,0⟩,lpK),(⟨5,5,0⟩,.gone),(⟨4,11,0⟩,last)]
section
variable {E : Oracle} (g : Good E)
include g
abbrev ylj (E:Oracle):Env->Mem->Option (Ex×Env×Mem):=fun e m=>(zkk E ⟨5,6⟩ [xq 9 8 0,mq 3 9] e m).bind fun q=>evC E ⟨5,6⟩ zb5 (ziq [8,9] q.1) q.2
omit g in
theorem yfd {e:Env} {m:Mem} {K:Ex->Env->Mem->Prop} (h:Evl.wpOps E ⟨5,6⟩ [xq 9 8 0,mq 3 9] e m fun e' m'=>wpC E ⟨5,6⟩ zb5 (ziq [8,9] e') m' K):∃x e' m',ylj E e m=some (x,e',m')/\K x e' m':=by
 obtain⟨p,h1,h2⟩:=Evl.wpOps_ok _ _ _ _ h
 obtain⟨x,e',m',h3,h4⟩:=Evl.wpC_ok _ _ _ _ h2
 exact⟨x,e',m',by unfold ylj;rw [h1,Option.bind_some];exact h3,h4⟩
theorem yny (l:List Evt) (r:Rgs) (k:List UInt8):∃x e' m',ylj E (put eK 8 (.tup [S k,B true])) (ych l r)=some (x,e',m')/\(x= .normal/\zp7 (get e' 5) (.it ⟨5,5,0⟩)=true/\only [0,5] e'=eK/\gc (zm2 (ych l r)) eK m'=yls l r [k] (yl1 [k])):=by
 refine yfd ?_
 repeat' ((conv=>whnf);first
 | refine Yz ?_
  | (refine Rnd.enter g.lim ?_)
  | (refine zco.mk ⟨by decide,rfl,by decide,by decide⟩ ?_)
  | (exact⟨rfl,rfl,rfl,rfl⟩)
  | fail)
theorem ynz (l:List Evt) (r:Rgs) (us:List (List UInt8)) (hu:us.length<=1000000) (k:List UInt8):∃x e' m',ylj E (put eK 8 (.tup [S k,B true])) (yls l r us (yl1 us))=some (x,e',m')/\(x= .normal/\zp7 (get e' 5) (.it ⟨5,5,0⟩)=true/\only [0,5] e'=eK/\gc (zm2 (ych l r)) eK m'=yls l r (us++[k]) (yl1 (us++[k]))):=by
 refine yfd ?_
 repeat' ((conv=>whnf);first
 | refine Yz ?_
  | (refine Rnd.enter g.lim ?_)
  | (refine zco.mk ⟨rfl,rfl,rfl,rfl,rfl,rfl,by dsimp only;omega,by first |omega|(dsimp only;omega)⟩ ?_)
  | (refine⟨rfl,rfl,rfl,?_⟩)
  | fail)
 simp only [yls,yl1,List.length_append,List.length_cons,List.length_nil,List.map_append,List.map_cons,List.map_nil]
 rfl
theorem yhq (l:List Evt) (r:Rgs):∀(ps us:List (List UInt8)),us.length+ps.length<=1000000->zhz (ylj E) 5 ⟨5,5,0⟩ 0 1 8 [0,5] (zm2 (ych l r)) (zkj ps) eK (yls l r us (yl1 us))=some (.normal,eK,yls l r (us++ps) (yl1 (us++ps)))
 | [],us,_=>by
  rw [List.append_nil]
  rfl
 | p::ps,us,h=>by
  rw [List.length_cons] at h
  obtain⟨x,e',m',h1,rfl,h2,h3,h4⟩:=ynz g l r us (by omega) p
  unfold zkj
  rw [List.map_cons,zhz,h1,Option.bind_some]
  unfold zjd
  dsimp only [Ex.on]
  rw [if_pos h2,h3,h4]
  have:=yhq l r ps (us++[p]) (by rw [List.length_append,List.length_singleton];omega)
  rw [List.append_assoc] at this
  exact this
theorem ykj (l:List Evt) (r:Rgs) (p:List UInt8) (ps:List (List UInt8)) (hl:ps.length<=100000):zhz (ylj E) 5 ⟨5,5,0⟩ 0 1 8 [0,5] (zm2 (ych l r)) (zkj (p::ps)) eK (ych l r)=some (.normal,eK,yls l r (p::ps) (yl1 (p::ps))):=by
 obtain⟨x,e',m',h1,rfl,h2,h3,h4⟩:=yny g l r p
 unfold zkj
 rw [List.map_cons,zhz,h1,Option.bind_some]
 unfold zjd
 dsimp only [Ex.on]
 rw [if_pos h2,h3,h4]
 exact yhq g l r ps [p] (by simp;omega)
abbrev yq1 (l:List Evt) (r:Rgs) (ks:List (List UInt8)):Mem:=mTZ l r++[(⟨1,14,0⟩,.map (zkj ks)),(⟨1,10,0⟩,.row false zb3 2 0 []),(⟨1,29,0⟩,.cells zdl [.mp ⟨1,14,0⟩]),(⟨2,2,0⟩,.row true zad 1 0 []),(⟨3,2,0⟩,.row true zad 1 0 []),(⟨4,2,0⟩,.cells zoe [.d .nil]),(⟨4,4,0⟩,.row true zad 1 0 []),(⟨4,14,0⟩,lpK)]
abbrev ype (l:List Evt) (r:Rgs) (mp:Ob) (n:Nat) (last:Ob):Mem:=mTZ l r++[(⟨1,14,0⟩,mp),(⟨1,10,0⟩,.row false zb3 2 0 []),(⟨1,29,0⟩,.cells zdl [.mp ⟨1,14,0⟩]),(⟨2,2,0⟩,.row true zad 1 0 []),(⟨3,2,0⟩,.row true zad 1 0 []),(⟨4,2,0⟩,.cells zoe [.ref ⟨4,11,0⟩ 0 n n]),(⟨4,4,0⟩,.row true zad 1 0 []),(⟨4,14,0⟩,lpK),(⟨5,5,0⟩,.gone),(⟨4,11,0⟩,last)]
theorem yo9 (l:List Evt) (r:Rgs) (k:List UInt8) (kr:List (List UInt8)) (hl:kr.length<=100000):
  zo3 (ylj E) ⟨5,6⟩ 5 (.t 4) 0 1 8 [0,5] e1K (yq1 l r (k::kr))=some (.normal,eK,ype l r (.map (zkj (k::kr))) (kr.length+1) (.bag zad 1 (kr.length+1) ((k::kr).map D.str))):=by
 have hj:zk3 true (ych l r) (ype l r .gone (kr.length+1) (.row true zad 1 (kr.length+1) ((k::kr).map D.str)))=ype l r .gone (kr.length+1) (.bag zad 1 (kr.length+1) ((k::kr).map D.str)):=by
  simp [zk3,yi0,z8x,Evl.look]
 refine(z2x (o:=⟨1,14,0⟩) (es:=zkj (k::kr)) rfl rfl (i:=⟨5,5,0⟩) (m2:=ych l r) (e2:=eK) (e3:=eK) rfl rfl rfl
  (fun p=>ype l r .gone (kr.length+1) (.row true zad 1 (kr.length+1) (p.map fun e=>e.1))) (fun p hp=> ?_) (mj:=ype l r .gone (kr.length+1) (.bag zad 1 (kr.length+1) ((k::kr).map D.str))) ?_ (fun p hp=> ?_) rfl).trans rfl
 ·obtain⟨us,rfl,hu⟩:=z6o hp
  have hul:us.length=kr.length+1:=hu.length_eq
  obtain⟨a,b,rfl⟩:∃a b,us=a::b:=List.exists_cons_of_ne_nil (by rintro rfl;simp at hul)
  rw [ykj g l r a b (by simp at hul;omega)]
  dsimp only [yls,yl1]
  rw [hul]
  have:(zkj (a::b)).map (fun e=>e.1)=(a::b).map D.str:=by
   unfold zkj
   rw [List.map_map]
   rfl
  rw [this]
 ·have:(zkj (k::kr)).map (fun e=>e.1)=(k::kr).map D.str:=by
   unfold zkj
   rw [List.map_map]
   rfl
  rw [this]
  exact hj
 ·obtain⟨us,rfl,hu⟩:=z6o hp
  have:(zkj us).map (fun e=>e.1)=us.map D.str:=by
   unfold zkj
   rw [List.map_map]
   rfl
  rw [this]
  have hb:yiz 1 (kr.length+1) ((k::kr).map D.str) (us.map D.str)=true:=ymj (hu.symm.map _) (by rw [List.length_map];exact hu.length_eq)
  exact LeJ.ok (.cells<| .row<| .row<| .row<| .row<| .row<| .gone<| .row<| .cells<| .row<| .row<| .cells<| .row<| .loop rfl rfl<| .gone<| .bag hb .nil)
omit g in
theorem ym6 (l:List Evt) (r:Rgs):zo3 (ylj E) ⟨5,6⟩ 5 (.t 4) 0 1 8 [0,5] e1K (yq1 l r [])=some (.normal,eK,yq1 l r []++[(⟨5,5,0⟩,.gone)]):=by
 have hj:zk3 true (ych l r) (ych l r)=ych l r:=by
  simp [zk3,yi0,z8x,Evl.look]
 refine(z2x (o:=⟨1,14,0⟩) (es:=[]) rfl rfl (i:=⟨5,5,0⟩) (m2:=ych l r) (e2:=eK) (e3:=eK) rfl rfl rfl (fun _=>ych l r) (fun p hp=> ?_) (mj:=ych l r) hj (fun p hp=> ?_) rfl).trans rfl
 ·have:=hp.symm.nil_eq
  subst this
  rfl
 ·exact LeJ.ok (.cells<| .row<| .row<| .row<| .row<| .row<| .gone<| .row<| .cells<| .row<| .row<| .cells<| .row<| .loop rfl rfl<| .gone .nil)
abbrev yd1 (l:List Evt) (r:Rgs) (ks:List (List UInt8)) (last:Ob):Mem:=mZZ l r ks++[(⟨2,2,0⟩,.row true zad 1 0 []),(⟨2,5,0⟩,last)]
theorem ykz (hx:ext n_slices_Sort_Lstring_string=some sortXS) (l:List Evt) (r:Rgs) (ks:List (List UInt8)) (n slot:Nat) (hn:ks.length=n) (h0:n≠0) (hb:n<=100000):
  znl (fun m=>zjo E ⟨2,3⟩ slot true true (.fn n_slices_Sort_Lstring_string [] []) [.ref ⟨2,5,0⟩ 0 n n] m) (yd1 l r ks (.bag zad 1 n (ks.map D.str))) (.ref ⟨2,5,0⟩ 0 n n)=some (.tup [],yd1 l r ks (.row true zad 1 n ((zmt ks).map D.str))):=by
 have hj:zk3 false (yd1 l r ks (.bag zad 1 n (ks.map D.str))) (yd1 l r ks (.row true zad 1 n ((zmt ks).map D.str)))=yd1 l r ks (.row true zad 1 n ((zmt ks).map D.str)):=by
  simp [zk3,z8x]
 refine(zvq (n:=n) (xs:=ks.map D.str) rfl (by rw [List.length_map];exact hn) (.tup [],yd1 l r ks (.row true zad 1 n ((zmt ks).map D.str))) (fun p hp=> ?_) ?_).trans (by rw [hj])
 ·obtain⟨us,rfl,hu⟩:=yif hp
  have hul:us.length=n:=hu.length_eq.trans hn
  have key:Evl.callW E ⟨2,3⟩ slot true true (.fn n_slices_Sort_Lstring_string [] []) [.ref ⟨2,5,0⟩ 0 n n] (yd1 l r ks (.row true zad 1 n (us.map D.str))) fun v m=>v= .tup []/\m=yd1 l r ks (.row true zad 1 n ((zmt ks).map D.str)):=by
   repeat' ((conv=>whnf);first
   | refine Yz ?_
    | (simp only [Evl.idsAll,Evl.idsO,zos,List.nil_append])
    | (refine In.extern (v:= .tup []) (m':=yd1 l r ks (.row true zad 1 n ((zmt ks).map D.str))) g.lim hx ?_ ?_)
    | (exact⟨rfl,rfl⟩)
    | (exact⟨trivial,rfl⟩)
    | fail)
   rw [<-yeg hu]
   show (if n=0/\n=0/\n=0 then some (V.tup [],yd1 l r ks (.row true zad 1 n (us.map D.str))) else if n=n/\n=n/\n≠0/\n<4611686018427387904 then(match Evl.strsOf (us.map D.str) with
    | some zs=>some (V.tup [],upd (yd1 l r ks (.row true zad 1 n (us.map D.str))) ⟨2,5,0⟩ (.row true zad 1 n ((zmt zs).map D.str)))
    | none=>none) else none)=_
   rw [if_neg (fun h=>h0 h.1),if_pos ⟨rfl,rfl,h0,by omega⟩,zq1]
   rfl
  obtain⟨q,h1,h2,h3⟩:=Evl.callW_ok key
  have:(q:V×Mem)=(.tup [],yd1 l r ks (.row true zad 1 n ((zmt ks).map D.str))):=Prod.ext h2 h3
  rw [<-this]
  exact h1
 ·rw [hj]
  exact LeJ.ok (.cells<| .row<| .row<| .row<| .row<| .row<| .map (ybr _)<| .row<| .cells<| .row<| .row .nil)
theorem yh6 (hx:ext n_slices_Sort_Lstring_string=some sortXS) (l:List Evt) (r:Rgs) (slot:Nat):
  znl (fun m=>zjo E ⟨2,3⟩ slot true true (.fn n_slices_Sort_Lstring_string [] []) [.d .nil] m) (mZZ l r []++[(⟨2,2,0⟩,.row true zad 1 0 [])]) (.d .nil)=some (.tup [],mZZ l r []++[(⟨2,2,0⟩,.row true zad 1 0 [])]):=by
 have key:Evl.callW E ⟨2,3⟩ slot true true (.fn n_slices_Sort_Lstring_string [] []) [.d .nil] (mZZ l r []++[(⟨2,2,0⟩,.row true zad 1 0 [])]) fun v m=>v= .tup []/\m=mZZ l r []++[(⟨2,2,0⟩,.row true zad 1 0 [])]:=by
  repeat' ((conv=>whnf);first
  | refine Yz ?_
   | (refine In.extern (v:= .tup []) (m':=mZZ l r []++[(⟨2,2,0⟩,.row true zad 1 0 [])]) g.lim hx rfl ?_)
   | (exact⟨rfl,rfl⟩)
   | (exact⟨trivial,rfl⟩)
   | fail)
 obtain⟨q,h1,h2,h3⟩:=Evl.callW_ok key
 have:(q:V×Mem)=(.tup [],mZZ l r []++[(⟨2,2,0⟩,.row true zad 1 0 [])]):=Prod.ext h2 h3
 rw [<-this]
 exact h1
theorem z2b (hx:ext n_slices_Sort_Lstring_string=some sortXS) (l:List Evt) (r:Rgs) (ks:List (List UInt8)) (hl:ks.length<=1000) {slot:Nat} {K:V->Mem->Prop} (hK0:ks=[]->K (.d .nil) (mZZ l r ks)) (hK:ks≠[]->K (Ws (zmt ks)) (mZZ l r ks)):
  In E 2 zdv [.fn zao [] [.ptr ⟨1,29,0⟩ 0 0]] (mZZ l r ks) fun v m'=>zu4 ⟨1,2⟩ slot true v m' K:=by
 refine In.enter (f:=zdv) g.lim rfl rfl ?_
 have hs:=(zhr ks).length_eq
 cases ks with
 | nil=>
  have h0:=ym6 (E:=E) l r
  have hK:=hK0 rfl
  repeat' ((conv=>whnf);first
  | refine Yz ?_
   | (refine In.enter (f:=zek) g.lim rfl rfl ?_)
   | (refine In.enter (f:=zci) g.lim rfl rfl ?_)
   | (refine In.enter (f:=zao) g.lim rfl rfl ?_)
   | (refine⟨_,_,_,h0,?_⟩)
   | (refine zux.mk ⟨(.d .nil,mZZ l r []++[(⟨2,2,0⟩,.row true zad 1 0 []),(⟨3,2,0⟩,.row true zad 1 0 [])]),rfl,?_⟩)
   | (refine zux.mk ⟨(.d .nil,mZZ l r []++[(⟨2,2,0⟩,.row true zad 1 0 [])]),rfl,?_⟩)
   | (refine⟨_,yh6 g hx l r 7,?_⟩)
   | (exact hK)
   | fail)
 | cons k kr=>
  have h1:=yo9 g l r k kr (by simp at hl;omega)
  have hK:=hK (by simp)
  rw [Ws,hs,List.length_cons] at hK
  repeat' ((conv=>whnf);first
  | refine Yz ?_
   | (simp only [Evl.idsAll,Evl.idsO,zos,List.nil_append])
   | (refine In.enter (f:=zek) g.lim rfl rfl ?_)
   | (refine In.enter (f:=zci) g.lim rfl rfl ?_)
   | (refine In.enter (f:=zao) g.lim rfl rfl ?_)
   | (refine⟨_,_,_,h1,?_⟩)
   | (refine zux.mk ⟨(.ref ⟨3,4,0⟩ 0 (kr.length+1) (kr.length+1),mZZ l r (k::kr)++[(⟨2,2,0⟩,.row true zad 1 0 []),(⟨3,2,0⟩,.row true zad 1 0 []),(⟨3,4,0⟩,.bag zad 1 (kr.length+1) ((k::kr).map D.str))]),rfl,?_⟩)
   | (refine zux.mk ⟨(.ref ⟨2,5,0⟩ 0 (kr.length+1) (kr.length+1),yd1 l r (k::kr) (.bag zad 1 (kr.length+1) ((k::kr).map D.str))),rfl,?_⟩)
   | (refine⟨_,ykz g hx l r (k::kr) (kr.length+1) 7 rfl (by omega) (by simp at hl;omega),?_⟩)
   | (refine zco.mk ⟨rfl,by omega⟩ ?_)
   | (exact hK)
   | (simp only [and_self,if_true];exact hK)
   | fail)
end
section
variable {E : Oracle} (g : Good E)
include g
theorem yf3 (hx:ext n_slices_Sort_Lstring_string=some sortXS) (l:List Evt) (r:Rgs) (ho:OkR r) (kn d:Int) {slot:Nat} {K:V->Mem->Prop} (hK:K (LS2 (yee r kn d)) (mR zaa l r)):
  In E 1 zct [.ptr ⟨0,0,0⟩ 1 0,I kn,I d] (mR zaa l r) fun v m'=>zu4 ⟨0,1⟩ slot true v m' K:=by
 have hes:=ho.es
 have hml:(r.es.flatMap Ent.cells).length=r.es.length*8:=zag Ent.cells 8 zmi r.es
 refine In.enter (f:=zct) g.lim rfl rfl ?_
 repeat' ((conv=>whnf);first
 | refine Yz ?_
  | fail)
 refine zam.to (zam.up g (fun k=>[(0,.ptr ⟨0,0,0⟩ 1 0),(1,I kn),(2,I d),(7,.mp ⟨1,14,0⟩),(18,.ref ⟨0,0,2⟩ 0 r.es.length r.es.length),(19,I r.es.length),(20,I k)])
  (fun k=>mTZ l r++[(⟨1,14,0⟩,.map (zkj (srK (r.es.take k))))]) r.es.length (fun k hk ih=> ?_) 0 (Nat.zero_le _)) rfl rfl
 by_cases hlt:k<r.es.length
 ·have ih:=ih hlt
  rw [yk4 r.es k hlt] at ih
  have hwin:win (r.es.flatMap Ent.cells) ((0+((k:Nat):Int).toNat)*8) 8=r.es[k].cells:=by
   rw [Nat.zero_add,Int.toNat_natCast]
   exact zb8 Ent.cells 8 zmi r.es k hlt
  have hse:=z78 r.es[k].sr (srK (r.es.take k))
  repeat' ((conv=>whnf);first
  | refine Yz ?_
   | (rw [hwin])
   | (refine yrj.mk ⟨_,hse,?_⟩)
   | (simp only [Evl.idsAll,Evl.idsO,zos,List.nil_append])
   | (refine zam.to ih rfl rfl)
   | fail)
 clear ih
 rw [List.take_of_length_le (by omega)]
 have hkl:(srK r.es).length<=256:=Nat.le_trans (yic r.es) hes
 unfold yee at hK
 generalize srK r.es=ks at *
 have hsl:=(zhr ks).length_eq
 by_cases hks:ks=[]
 ·subst hks
  repeat' ((conv=>whnf);first
  | refine Yz ?_
   | (refine In.enter (f:=zbn) g.lim rfl rfl ?_)
   | (refine zux.mk ⟨(.fn zao [] [.ptr ⟨1,29,0⟩ 0 0],mZZ l r []),rfl,?_⟩)
   | (refine z2b g hx l r [] (by simp) (slot:=30) (fun _=> ?_) (fun h=>absurd rfl h))
   | (refine zam.step g.lim ?_)
   | (refine zco.mk ⟨rfl,by omega⟩ ?_)
   | (exact hK)
   | fail)
 ·repeat' ((conv=>whnf);first
 | refine Yz ?_
   | (simp only [Evl.idsAll,Evl.idsO,zos,List.nil_append])
   | (refine In.enter (f:=zbn) g.lim rfl rfl ?_)
   | (refine zux.mk ⟨(.fn zao [] [.ptr ⟨1,29,0⟩ 0 0],mZZ l r ks),rfl,?_⟩)
   | (refine z2b g hx l r ks (by omega) (slot:=30) (fun h=>absurd h hks) (fun _=> ?_))
   | fail)
  generalize zmt ks=ss at *
  refine zam.to (zam.by (σ:=Nat×List Slt) g (fun u=>u.1<=ss.length/\u.2=yl7 r kn d (ss.take u.1))
   (fun u=>[(0,.ptr ⟨0,0,0⟩ 1 0),(1,I kn),(2,I d),(10,.ref ⟨1,10,0⟩ 0 u.2.length u.2.length),(30,Ws ss),(31,I ss.length),(32,I u.1)])
   (fun u=>mTZ l r++[(⟨1,14,0⟩,.map (zkj ks)),(⟨1,10,0⟩,.row false zb3 2 u.2.length (u.2.flatMap Slt.cells)),(⟨1,29,0⟩,.cells zdl [.mp ⟨1,14,0⟩])])
   (fun u=>ss.length-u.1) ?_ (0,[]) ⟨Nat.zero_le _,rfl⟩) rfl rfl
  rintro⟨k,out⟩ ⟨i1,i2⟩ ih
  dsimp only at i1 i2 ih ⊢
  have hmo:(out.flatMap Slt.cells).length=out.length*2:=zag Slt.cells 2 yq7 out
  have hol:out.length<=256:=by
   rw [i2,yl7,List.length_map]
   refine Nat.le_trans (List.length_filter_le _ _) ?_
   rw [List.length_take];omega
  by_cases hlt:k<ss.length
  ·have hq:=ycw g zaa l r ho ss[k] kn d
   have ht:yl7 r kn d (ss.take (k+1))=out++(if decide (z7a r ss[k] kn d≠1440) then [ss[k]] else []).map fun s=>(⟨s,z7a r s kn d⟩:Slt):=by
    rw [i2,yl7,z6s _ _ _ hlt,List.map_append]
    rfl
   have hpk:∀ {K:D->Prop},K (.str ss[k])->zfo (ss.map D.str) (((k:Nat):Int).toNat*1) K:=fun h=>zfo.ws k rfl hlt h
   by_cases hy:z7a r ss[k] kn d=1440
   ·have ih:=ih (k+1,out) ⟨by dsimp only;omega,by dsimp only;rw [ht,if_neg (by simp [hy])];simp⟩ (by dsimp only;omega)
    rw [hy] at hq
    generalize ss[k]=s at *
    repeat' ((conv=>whnf);first
    | refine Yz ?_
     | (simp only [Evl.idsAll,Evl.idsO,zos,List.nil_append])
     | (refine hpk ?_)
     | (refine zjh.of (r':=I 1440) [⟨0,0,0⟩,⟨0,0,1⟩,⟨0,0,2⟩,⟨0,0,3⟩,⟨0,0,4⟩] rfl rfl rfl rfl hq rfl rfl rfl ?_)
     | (refine Cmp.tt rfl ?_)
     | (refine zam.to ih rfl rfl)
     | fail)
   ·have ih:=ih (k+1,out++[⟨ss[k],z7a r ss[k] kn d⟩]) ⟨by dsimp only;omega,by dsimp only;rw [ht,if_pos (decide_eq_true hy)];rfl⟩ (by dsimp only;omega)
    simp only [List.length_append,List.length_cons,List.length_nil,List.flatMap_append,List.flatMap_cons,List.flatMap_nil] at ih
    generalize ss[k]=s at *
    generalize z7a r s kn d=y at *
    repeat' ((conv=>whnf);first
    | refine Yz ?_
     | (simp only [Evl.idsAll,Evl.idsO,zos,List.nil_append])
     | (refine hpk ?_)
     | (refine zjh.of (r':=I y) [⟨0,0,0⟩,⟨0,0,1⟩,⟨0,0,2⟩,⟨0,0,3⟩,⟨0,0,4⟩] rfl rfl rfl rfl hq rfl rfl rfl ?_)
     | (refine Cmp.tt rfl ?_)
     | (refine Cmp.ff hy ?_)
     | (refine Cmp.ff (fun h=>hy h.2) ?_)
     | (refine Cmp.ff (fun h=>hy h.2.1) ?_)
     | (refine zco.mk ⟨rfl,rfl,rfl,rfl,rfl,rfl,by dsimp only;omega,by first |omega|(dsimp only;omega)⟩ ?_)
     | (refine zam.to ih rfl rfl)
     | fail)
  ·rw [List.take_of_length_le (by omega)] at i2
   rw [<-i2] at hK
   repeat' ((conv=>whnf);first
   | refine Yz ?_
    | (refine zco.mk ⟨rfl,by omega⟩ ?_)
    | (refine zco.mk ⟨trivial,trivial⟩ ?_)
    | (simp only [and_self,if_true];exact hK)
    | fail)
theorem yod (ev:List Evt) (r:Rgs) (ho:OkR r) (kn d:Int):Ui E zct [.ptr ⟨0,0,0⟩ 1 0,I kn,I d] (mR zaa ev r) (LS2 (yee r kn d)) (mR zaa ev r):=
 ⟨yf3 g rfl ev r ho kn d ⟨rfl,⟨rfl,rfl,rfl,rfl,rfl,trivial⟩⟩⟩
end
theorem Ch.head {es:List Ent} {k:Nat} {c:List Ent} (h:Ch es k c):∃hk:k<es.length,c=es[k]::c.tail:=by
 cases h with
 | stop _ hk _=>exact⟨hk,rfl⟩
 | step _ _ _ hk _ _=>exact⟨hk,rfl⟩
section
variable {E : Oracle} (g : Good E)
include g
theorem zqk (r:Rgs) (nm:List UInt8) (hl:r.es.length<=1000000):Fc E zex [Rgv r,S nm] (I (zny r.es nm)):=by
 refine g.fn rfl rfl ?_
 have hml:(r.es.flatMap Ent.cells).length=r.es.length*8:=zag Ent.cells 8 zmi r.es
 repeat' ((conv=>whnf);first
 | refine Yz ?_
  | fail)
 refine zam.to (zam.upP g (fun k=>[(1,S nm),(2,.ptr ⟨0,2,0⟩ 0 0),(5,I k)]) (fun _=>[(⟨0,2,0⟩,.cells zaj [I r.kn,.d (.list r.es.length (r.es.flatMap Ent.cells)),.d (.list r.rs.length (r.rs.flatMap Rmv.cells)),.d (.list r.cs.length (r.cs.flatMap Cpl.cells))])]) (fun k=>∀j,(hj:j<k)->(hj':j<r.es.length)->decide (r.es[j].nm=nm)=false) r.es.length (fun k hk hp ih=> ?_) 0 (Nat.zero_le _) (fun j h _=>absurd h (Nat.not_lt_zero _))) rfl rfl
 by_cases hlt:k<r.es.length
 ·by_cases he:r.es[k].nm=nm
  ·have hi:zny r.es nm=k:=znm (p:=fun x:Ent=>decide (x.nm=nm)) hlt (decide_eq_true he) fun j hj=>hp j hj (by omega)
   rw [hi]
   repeat' ((conv=>whnf);first
   | refine Yz ?_
    | (refine zfo.rec zmi k rfl hlt rfl ?_)
    | (refine Cmp.tt he ?_)
    | (refine Ret.mk rfl)
    | fail)
  ·have ih:=ih hlt fun j hj hj'=>by
    by_cases e:j=k
    ·subst e;exact decide_eq_false he
    ·exact hp j (by omega) hj'
   repeat' ((conv=>whnf);first
   | refine Yz ?_
    | (refine zfo.rec zmi k rfl hlt rfl ?_)
    | (refine Cmp.ff he ?_)
    | (refine zam.to ih rfl rfl)
    | fail)
 ·obtain rfl:k=r.es.length:=by omega
  have hi:zny r.es nm= -1:=zkm (p:=fun x:Ent=>decide (x.nm=nm)) fun j hj=>hp j hj hj
  rw [hi]
  repeat' ((conv=>whnf);first
  | refine Yz ?_
   | (refine Ret.mk rfl)
   | fail)
theorem zo2 (r:Rgs) (nm:List UInt8) (hl:r.cs.length<=1000000):Fc E zc5 [Rgv r,S nm] (I (zsm r.cs nm)):=by
 refine g.fn rfl rfl ?_
 have hml:(r.cs.flatMap Cpl.cells).length=r.cs.length*5:=zag Cpl.cells 5 zpb r.cs
 repeat' ((conv=>whnf);first
 | refine Yz ?_
  | fail)
 refine zam.to (zam.upP g (fun k=>[(1,S nm),(2,.ptr ⟨0,2,0⟩ 0 0),(5,I k)]) (fun _=>[(⟨0,2,0⟩,.cells zaj [I r.kn,.d (.list r.es.length (r.es.flatMap Ent.cells)),.d (.list r.rs.length (r.rs.flatMap Rmv.cells)),.d (.list r.cs.length (r.cs.flatMap Cpl.cells))])]) (fun k=>∀j,(hj:j<k)->(hj':j<r.cs.length)->decide (r.cs[j].nm=nm)=false) r.cs.length (fun k hk hp ih=> ?_) 0 (Nat.zero_le _) (fun j h _=>absurd h (Nat.not_lt_zero _))) rfl rfl
 by_cases hlt:k<r.cs.length
 ·by_cases he:r.cs[k].nm=nm
  ·have hi:zsm r.cs nm=k:=znm (p:=fun x:Cpl=>decide (x.nm=nm)) hlt (decide_eq_true he) fun j hj=>hp j hj (by omega)
   rw [hi]
   repeat' ((conv=>whnf);first
   | refine Yz ?_
    | (refine zfo.rec zpb k rfl hlt rfl ?_)
    | (refine Cmp.tt he ?_)
    | (refine Ret.mk rfl)
    | fail)
  ·have ih:=ih hlt fun j hj hj'=>by
    by_cases e:j=k
    ·subst e;exact decide_eq_false he
    ·exact hp j (by omega) hj'
   repeat' ((conv=>whnf);first
   | refine Yz ?_
    | (refine zfo.rec zpb k rfl hlt rfl ?_)
    | (refine Cmp.ff he ?_)
    | (refine zam.to ih rfl rfl)
    | fail)
 ·obtain rfl:k=r.cs.length:=by omega
  have hi:zsm r.cs nm= -1:=zkm (p:=fun x:Cpl=>decide (x.nm=nm)) fun j hj=>hp j hj hj
  rw [hi]
  repeat' ((conv=>whnf);first
  | refine Yz ?_
   | (refine Ret.mk rfl)
   | fail)
theorem yhg (r:Rgs) (nm:List UInt8) (kn:Int) (hl:r.rs.length<=1000000):Fc E zme [Rgv r,S nm,I kn] (B (z24 r.rs nm kn)):=by
 refine g.fn rfl rfl ?_
 have hml:(r.rs.flatMap Rmv.cells).length=r.rs.length*2:=zag Rmv.cells 2 yhp r.rs
 repeat' ((conv=>whnf);first
 | refine Yz ?_
  | fail)
 refine zam.to (zam.upP g (fun k=>[(1,S nm),(2,I kn),(3,.ptr ⟨0,3,0⟩ 0 0),(7,I k)]) (fun _=>[(⟨0,3,0⟩,.cells zaj [I r.kn,.d (.list r.es.length (r.es.flatMap Ent.cells)),.d (.list r.rs.length (r.rs.flatMap Rmv.cells)),.d (.list r.cs.length (r.cs.flatMap Cpl.cells))])])
  (fun k=>∀j,(hj:j<r.rs.length)->j<k->¬(r.rs[j].en=nm/\r.rs[j].kn<=kn)) r.rs.length (fun k hk hp ih=> ?_) 0 (Nat.zero_le _) (fun j _ h=>absurd h (Nat.not_lt_zero _))) rfl rfl
 by_cases hlt:k<r.rs.length
 ·by_cases he:r.rs[k].en=nm
  ·by_cases hn:r.rs[k].kn<=kn
   ·have hb:z24 r.rs nm kn=true:=List.any_eq_true.2 ⟨_,List.getElem_mem hlt,decide_eq_true ⟨he,hn⟩⟩
    rw [hb]
    repeat' ((conv=>whnf);first
    | refine Yz ?_
     | (refine zfo.rec yhp k rfl hlt rfl ?_)
     | (refine Cmp.tt he ?_)
     | (refine Ret.mk rfl)
     | fail)
   ·have ih:=ih hlt fun j hj hjk=>by
     by_cases e:j=k
     ·subst e;exact fun h=>hn h.2
     ·exact hp j hj (by omega)
    repeat' ((conv=>whnf);first
    | refine Yz ?_
     | (refine zfo.rec yhp k rfl hlt rfl ?_)
     | (refine Cmp.tt he ?_)
     | (refine zam.to ih rfl rfl)
     | fail)
  ·have ih:=ih hlt fun j hj hjk=>by
    by_cases e:j=k
    ·subst e;exact fun h=>he h.1
    ·exact hp j hj (by omega)
   repeat' ((conv=>whnf);first
   | refine Yz ?_
    | (refine zfo.rec yhp k rfl hlt rfl ?_)
    | (refine Cmp.ff he ?_)
    | (refine zam.to ih rfl rfl)
    | fail)
 ·obtain rfl:k=r.rs.length:=by omega
  have hb:z24 r.rs nm kn=false:=by
   unfold z24
   rw [List.any_eq_false]
   intro z hz
   obtain⟨j,hj,rfl⟩:=List.mem_iff_getElem.1 hz
   simpa using hp j hj hj
  rw [hb]
  repeat' ((conv=>whnf);first
  | refine Yz ?_
   | (refine Ret.mk rfl)
   | fail)
theorem z45 (r:Rgs) (ho:OkR r) (kn:Int):∀(k:Nat) (hk:k<r.es.length),Fc E zgp [Rgv r,I k,I kn] (B (z00 r r.es[k] kn)):=by
 intro k
 induction k using Nat.strongRecOn with
 | _ k ihk=>
  intro hk
  have hes:=ho.es
  have hrm:=yhg g r r.es[k].nm kn (by have:=ho.rs;omega)
  have hml:(r.es.flatMap Ent.cells).length=r.es.length*8:=zag Ent.cells 8 zmi r.es
  have hwin:win (r.es.flatMap Ent.cells) (((k:Nat):Int).toNat*8) 8=r.es[k].cells:=by
   rw [Int.toNat_natCast]
   exact zb8 Ent.cells 8 zmi r.es k hk
  refine g.fn rfl rfl ?_
  rcases ho.bs k hk with hb|⟨j,hj,hb⟩
  ·rw [yje ho hk hb]
   by_cases h1:r.es[k].kn<=kn
   ·rw [decide_eq_true h1]
    cases hr:z24 r.rs r.es[k].nm kn
    all_goals
     rw [hr] at hrm
     repeat' ((conv=>whnf);first
     | refine Yz ?_
      | (rw [hwin])
      | (apply zak.of;assumption)
      | (refine Cmp.tt hb ?_)
      | (refine Ret.mk rfl)
      | fail)
   ·rw [decide_eq_false h1]
    repeat' ((conv=>whnf);first
    | refine Yz ?_
     | (rw [hwin])
     | (refine Ret.mk rfl)
     | fail)
  ·rw [yjd ho hk hj hb]
   have hb0:r.es[k].bs≠[]:=fun e=>by rw [e,z9g ho.nm] at hb;omega
   have hrec:=ihk j hj (by omega)
   have hea:=zqk g r r.es[k].bs (by omega)
   rw [hb] at hea
   by_cases h1:r.es[k].kn<=kn
   ·rw [decide_eq_true h1]
    cases hr:z24 r.rs r.es[k].nm kn
    all_goals
     rw [hr] at hrm
     repeat' ((conv=>whnf);first
     | refine Yz ?_
      | (rw [hwin])
      | (apply zak.of;assumption)
      | (refine Cmp.ff hb0 ?_)
      | (refine Ret.mk rfl)
      | fail)
   ·rw [decide_eq_false h1]
    repeat' ((conv=>whnf);first
    | refine Yz ?_
     | (rw [hwin])
     | (refine Ret.mk rfl)
     | fail)
end
abbrev bxR (sl:Nat) (r:Rgs):Evl.Id×Ob:=(⟨0,sl,0⟩,.cells zaj [I r.kn,.d (.list r.es.length (r.es.flatMap Ent.cells)),.d (.list r.rs.length (r.rs.flatMap Rmv.cells)),.d (.list r.cs.length (r.cs.flatMap Cpl.cells))])
def yoo (r:Rgs) (e:Evt):Int:=if vlN e 0<r.kn then 19 else if 99999<vlN e 0 then 3 else z0l r e
theorem ybb (r:Rgs) (n:Nat) (e:Evt):z5t r n e=if e.nu=n+1 then yoo r e else 11:=by
 unfold z5t yli yoo
 by_cases h1:e.nu=n+1
 ·rw [if_pos h1,if_pos h1]
  by_cases h2:vlN e 0<r.kn
  ·rw [if_pos h2,if_pos h2,show ∀z,za1 [0,19,z]=19 from fun _=>rfl,if_pos (by decide)]
  ·rw [if_neg h2,if_neg h2]
   by_cases h3:99999<vlN e 0
   ·rw [if_pos h3,if_pos h3];rfl
   ·rw [if_neg h3,if_neg h3];rfl
 ·rw [if_neg h1,if_neg h1,show ∀y z,za1 [11,y,z]=11 from fun _ _=>rfl,if_pos (by decide)]
section
variable {E : Oracle} (g : Good E)
include g
theorem z08 (r:Rgs) (ho:OkR r) (nu:Int) (ki:List UInt8) (a s:List UInt8) (more:List (List UInt8)) (b:List UInt8) (kn f u m:Int) (tx:List UInt8) (hb:ki=zbz->more=[b]):
  Fc E zfq [Rgv r,Evv ⟨nu,ki,a::s::more,[kn,f,u,m],tx⟩] (I (zpw r (decide (ki=zbz)) a b kn f u m)):=by
 have hes:=ho.es
 have hq:=zqk g r a (by omega)
 have hqb:=zqk g r b (by omega)
 have hcn:=z45 g r ho kn
 change Fc E zfq [Rgv r,.d (.agg [DI nu,.str ki,.list (more.length+1+1) (.str a:: .str s::more.map D.str),.list 4 [DI kn,DI f,DI u,DI m],.str tx])] _
 refine g.fn rfl rfl ?_
 unfold zpw ypf
 generalize zny r.es a=i at *
 by_cases hi:0<=i
 ·rw [if_pos hi,show ∀z,za1 [9,z]=9 from fun _=>rfl,if_pos (by decide)]
  repeat' ((conv=>whnf);first
  | refine Yz ?_
   | (apply zak.of;assumption)
   | (refine Ret.mk rfl)
   | fail)
 ·rw [if_neg hi]
  by_cases h256:256<=r.es.length
  ·rw [if_pos h256,show za1 [0,5]=5 from rfl,if_pos (by decide)]
   repeat' ((conv=>whnf);first
   | refine Yz ?_
    | (apply zak.of;assumption)
    | (refine Ret.mk rfl)
    | fail)
  ·rw [if_neg h256,show za1 [0,0]=0 from rfl,if_neg (by decide)]
   by_cases hf:ki=zbz
   ·obtain rfl:=hb hf
    rw [decide_eq_true hf]
    rcases zfv r.es b with⟨h,_⟩|⟨k,hk,h,_⟩
    ·rw [zuc h,if_pos ⟨rfl,by decide⟩]
     rw [h] at hqb
     repeat' ((conv=>whnf);first
     | refine Yz ?_
      | (apply zak.of;assumption)
      | (refine Cmp.tt hf ?_)
      | (refine Ret.mk rfl)
      | fail)
    ·have hcn:=hcn k hk
     rw [zqi hk h]
     rw [h] at hqb
     cases hc:z00 r r.es[k] kn with
     | false=>
      rw [hc] at hcn
      rw [show (if(false=true) then(0:Int) else 20)=20 from rfl,if_pos ⟨rfl,by decide⟩]
      repeat' ((conv=>whnf);first
      | refine Yz ?_
       | (apply zak.of;assumption)
       | (refine Cmp.tt hf ?_)
       | (refine Ret.mk rfl)
       | fail)
     | true=>
      rw [hc] at hcn
      rw [show (if(true=true) then(0:Int) else 20)=0 from rfl,if_neg (fun h=>h.2 rfl)]
      by_cases c1:99999<f
      all_goals by_cases c2:99999<u
      all_goals by_cases c3:1440<m
      all_goals by_cases c4:u<f
      all_goals
       repeat' ((conv=>whnf);first
       | refine Yz ?_
        | (apply zak.of;assumption)
        | (refine Cmp.tt hf ?_)
        | (exfalso;omega)
        | (refine Ret.mk ?_)
        | fail)
      all_goals simp [c1,c2,c3,c4,za1]
   ·rw [decide_eq_false hf,if_neg (fun h=>by cases h.1)]
    by_cases c1:99999<f
    all_goals by_cases c2:99999<u
    all_goals by_cases c3:1440<m
    all_goals by_cases c4:u<f
    all_goals
     repeat' ((conv=>whnf);first
     | refine Yz ?_
      | (apply zak.of;assumption)
      | (refine Cmp.ff hf ?_)
      | (exfalso;omega)
      | (refine Ret.mk ?_)
      | fail)
    all_goals simp [c1,c2,c3,c4,za1]
theorem yhf (r:Rgs) (ho:OkR r) (e:Evt) (hc:zhy e=0):Fc E zey [Rgv r,Evv e] (I (yoo r e)):=by
 have hes:=ho.es
 have hml:(r.es.flatMap Ent.cells).length=r.es.length*8:=zag Ent.cells 8 zmi r.es
 have hmc:(r.cs.flatMap Cpl.cells).length=r.cs.length*5:=zag Cpl.cells 5 zpb r.cs
 have hcs:=ho.cs
 unfold yoo
 rcases znz hc with⟨nu,ki,a,s,more,kn,f,u,m,rfl,hent,hfol,hki⟩|⟨nu,a,kn,rfl⟩|⟨nu,a,en,kn,rfl⟩|⟨nu,a,kn,v,rfl⟩
 ·obtain⟨b,hb⟩:∃b,ki=zbz->more=[b]:=by
   by_cases h:ki=zbz
   ·obtain⟨b,hb⟩:=hfol h
    exact⟨b,fun _=>hb⟩
   ·exact⟨[],fun h'=>absurd h' h⟩
  have hask:z0l r ⟨nu,ki,a::s::more,[kn,f,u,m],[]⟩=zpw r (decide (ki=zbz)) a b kn f u m:=by
   rw [z0l,if_pos hent]
   by_cases h:ki=zbz
   ·rw [hb h];rfl
   ·unfold zpw
    rw [decide_eq_false h]
    simp only [Bool.false_eq_true,false_and,if_false]
    rfl
  have hq:=z08 g r ho nu ki a s more b kn f u m [] hb
  rw [<-hask] at hq
  change Fc E zey _ (I (if kn<r.kn then 19 else if 99999<kn then 3 else z0l r ⟨nu,ki,a::s::more,[kn,f,u,m],[]⟩))
  generalize z0l r ⟨nu,ki,a::s::more,[kn,f,u,m],[]⟩=o at *
  have e1:Evv ⟨nu,ki,a::s::more,[kn,f,u,m],[]⟩= .d (.agg [DI nu,.str ki,.list (more.length+1+1) (.str a:: .str s::more.map D.str),.list 4 [DI kn,DI f,DI u,DI m],.str []]):=rfl
  rw [e1] at hq ⊢
  clear hfol hask hent hb
  refine g.fn rfl rfl ?_
  by_cases c1:kn<r.kn
  ·rw [if_pos c1]
   repeat' ((conv=>whnf);first
   | refine Yz ?_
    | (refine Ret.mk rfl)
    | fail)
  by_cases c2:99999<kn
  ·rw [if_neg c1,if_pos c2]
   repeat' ((conv=>whnf);first
   | refine Yz ?_
    | (refine Ret.mk rfl)
    | fail)
  rw [if_neg c1,if_neg c2]
  rcases hki with rfl|rfl|rfl
  all_goals
   repeat' ((conv=>whnf);first
   | refine Yz ?_
    | (apply zak.of;assumption)
    | (refine Ret.mk rfl)
    | fail)
 ·change Fc E zey [Rgv r,.d (.agg [DI nu,.str zdf,.list 1 [.str a],.list 1 [DI kn],.str []])] (I (if kn<r.kn then 19 else if 99999<kn then 3 else z5w r a kn))
  refine g.fn rfl rfl ?_
  by_cases c1:kn<r.kn
  ·rw [if_pos c1]
   repeat' ((conv=>whnf);first
   | refine Yz ?_
    | (refine Ret.mk rfl)
    | fail)
  by_cases c2:99999<kn
  ·rw [if_neg c1,if_pos c2]
   repeat' ((conv=>whnf);first
   | refine Yz ?_
    | (refine Ret.mk rfl)
    | fail)
  rw [if_neg c1,if_neg c2]
  unfold z5w
  have hq:=zqk g r a (by omega)
  rcases zfv r.es a with⟨h,_⟩|⟨k,hk,h,hnm,_⟩
  ·rw [h] at hq
   rw [h,if_pos (by decide)]
   repeat' ((conv=>whnf);first
   | refine Yz ?_
    | (apply zak.of;assumption)
    | (refine Ret.mk rfl)
    | fail)
  ·have hgd:r.es.getD k yo1=r.es[k]:=by simp [List.getD,hk]
   rw [h] at hq
   rw [zqi hk h,h,if_neg (by omega),Int.toNat_natCast,hgd]
   have hcn:=z45 g r ho kn k hk
   by_cases hkd:r.es[k].kd=zvv
   ·rw [if_pos hkd]
    cases hc':z00 r r.es[k] kn
    all_goals
     rw [hc'] at hcn
     repeat' ((conv=>whnf);first
     | refine Yz ?_
      | (apply zak.of;assumption)
      | (refine zfo.rec zmi k rfl hk rfl ?_)
      | (refine Cmp.ff (fun h=>h hkd) ?_)
      | (refine Ret.mk rfl)
      | fail)
   ·rw [if_neg hkd]
    repeat' ((conv=>whnf);first
    | refine Yz ?_
     | (apply zak.of;assumption)
     | (refine zfo.rec zmi k rfl hk rfl ?_)
     | (refine Cmp.tt hkd ?_)
     | (refine Ret.mk rfl)
     | fail)
 ·change Fc E zey [Rgv r,.d (.agg [DI nu,.str zcl,.list 2 [.str a,.str en],.list 1 [DI kn],.str []])] (I (if kn<r.kn then 19 else if 99999<kn then 3 else z1q r a en kn))
  refine g.fn rfl rfl ?_
  by_cases c1:kn<r.kn
  ·rw [if_pos c1]
   repeat' ((conv=>whnf);first
   | refine Yz ?_
    | (refine Ret.mk rfl)
    | fail)
  by_cases c2:99999<kn
  ·rw [if_neg c1,if_pos c2]
   repeat' ((conv=>whnf);first
   | refine Yz ?_
    | (refine Ret.mk rfl)
    | fail)
  rw [if_neg c1,if_neg c2]
  unfold z1q
  have hq:=zo2 g r a (by omega)
  have hq2:=zqk g r en (by omega)
  generalize zsm r.cs a=i at *
  by_cases hi:0<=i
  ·rw [if_pos hi]
   repeat' ((conv=>whnf);first
   | refine Yz ?_
    | (apply zak.of;assumption)
    | (refine Ret.mk rfl)
    | fail)
  rw [if_neg hi]
  by_cases h64:64<=r.cs.length
  ·rw [if_pos h64]
   repeat' ((conv=>whnf);first
   | refine Yz ?_
    | (apply zak.of;assumption)
    | (refine Ret.mk rfl)
    | fail)
  rw [if_neg h64]
  rcases zfv r.es en with⟨h,_⟩|⟨k,hk,h,_⟩
  ·rw [h] at hq2
   rw [zuc h]
   repeat' ((conv=>whnf);first
   | refine Yz ?_
    | (apply zak.of;assumption)
    | (refine Ret.mk rfl)
    | fail)
  ·rw [h] at hq2
   rw [zqi hk h]
   have hcn:=z45 g r ho kn k hk
   cases hc':z00 r r.es[k] kn
   all_goals
    rw [hc'] at hcn
    repeat' ((conv=>whnf);first
    | refine Yz ?_
     | (apply zak.of;assumption)
     | (refine Ret.mk rfl)
     | fail)
 ·change Fc E zey [Rgv r,.d (.agg [DI nu,.str zei,.list 1 [.str a],.list 2 [DI kn,DI v],.str []])] (I (if kn<r.kn then 19 else if 99999<kn then 3 else zo8 r a v))
  refine g.fn rfl rfl ?_
  by_cases c1:kn<r.kn
  ·rw [if_pos c1]
   repeat' ((conv=>whnf);first
   | refine Yz ?_
    | (refine Ret.mk rfl)
    | fail)
  by_cases c2:99999<kn
  ·rw [if_neg c1,if_pos c2]
   repeat' ((conv=>whnf);first
   | refine Yz ?_
    | (refine Ret.mk rfl)
    | fail)
  rw [if_neg c1,if_neg c2]
  unfold zo8
  have hq:=zo2 g r a (by omega)
  rcases zlu r.cs a with h|⟨k,hk,h,hnm⟩
  ·rw [h] at hq
   rw [h,if_pos (by decide)]
   repeat' ((conv=>whnf);first
   | refine Yz ?_
    | (apply zak.of;assumption)
    | (refine Ret.mk rfl)
    | fail)
  ·have hgd:r.cs.getD k ybl=r.cs[k]:=by simp [List.getD,hk]
   rw [h] at hq
   rw [h,if_neg (by omega),Int.toNat_natCast,hgd]
   cases hcl:r.cs[k].cl
   ·by_cases hv:1<v
    ·rw [if_pos hv]
     repeat' ((conv=>whnf);first
     | refine Yz ?_
      | (apply zak.of;assumption)
      | (refine zfo.rec zpb k rfl hk rfl ?_;rw [hcl])
      | (refine Ret.mk rfl)
      | fail)
    ·rw [if_neg hv]
     repeat' ((conv=>whnf);first
     | refine Yz ?_
      | (apply zak.of;assumption)
      | (refine zfo.rec zpb k rfl hk rfl ?_;rw [hcl])
      | (refine Ret.mk rfl)
      | fail)
   ·repeat' ((conv=>whnf);first
   | refine Yz ?_
     | (apply zak.of;assumption)
     | (refine zfo.rec zpb k rfl hk rfl ?_;rw [hcl])
     | (refine Ret.mk rfl)
     | fail)
end
theorem z02 (r:Rgs) (k:Nat) (hk:k<r.cs.length) (x:Cpl):patch (r.cs.flatMap Cpl.cells) (((k:Nat):Int).toNat*5) x.cells=(r.cs.set k x).flatMap Cpl.cells:=by
 rw [Int.toNat_natCast]
 have h2:r.cs.set k x=r.cs.take k++x::r.cs.drop (k+1):=by rw [List.set_eq_take_append_cons_drop,if_pos hk]
 rw [h2,List.flatMap_append,List.flatMap_cons]
 have h4:((r.cs.take k).flatMap Cpl.cells).length=k*5:=by
  rw [zag Cpl.cells 5 zpb,List.length_take,Nat.min_eq_left (by omega)]
 have h1:r.cs.flatMap Cpl.cells=(r.cs.take k).flatMap Cpl.cells++(r.cs[k].cells++(r.cs.drop (k+1)).flatMap Cpl.cells):=by
  rw [<-List.flatMap_cons,<-List.flatMap_append,<-List.drop_eq_getElem_cons hk,List.take_append_drop]
 have h5:=zpb r.cs[k]
 have h6:=zpb x
 unfold patch
 rw [h1]
 generalize (r.cs.take k).flatMap Cpl.cells=A at *
 generalize (r.cs.drop (k+1)).flatMap Cpl.cells=C at *
 generalize r.cs[k].cells=B at *
 rw [<-h4,List.take_left,List.drop_append,List.drop_of_length_le (by omega),h6,Nat.add_sub_cancel_left,List.nil_append,List.drop_append_of_le_length (by omega),List.drop_of_length_le (by omega),List.nil_append,List.append_assoc]
section
variable {E : Oracle} (g : Good E)
include g
abbrev mA (r:Rgs) (nu:Int) (a:List UInt8) (kn v:Int):Mem:=[bxR 2 r,(⟨0,3,0⟩,.cells zae [I nu,S zei,.d (.list 1 [.str a]),.d (.list 2 [DI kn,DI v]),S []]),(⟨0,4,0⟩,.row false zb7 8 0 []),(⟨0,4,1⟩,.row false zbd 2 0 []),(⟨0,4,2⟩,.row true za7 5 0 []),
 (⟨0,4,3⟩,.cells zaj [I 0,.ref ⟨0,4,0⟩ 0 0 0,.ref ⟨0,4,1⟩ 0 0 0,.ref ⟨0,4,2⟩ 0 0 0])]
theorem z01 (r:Rgs) (nu:Int) (a:List UInt8) (kn v:Int) (hl:r.cs.length<=1000000) {slot:Nat} {K:V->Mem->Prop} (hK:K (I (zsm r.cs a)) (mA r nu a kn v)):
  In E 1 zc5 [Rgv r,S a] (mA r nu a kn v) fun x m'=>zu4 ⟨0,1⟩ slot true x m' K:=by
 refine In.enter (f:=zc5) g.lim rfl rfl ?_
 have hml:(r.cs.flatMap Cpl.cells).length=r.cs.length*5:=zag Cpl.cells 5 zpb r.cs
 repeat' ((conv=>whnf);first
 | refine Yz ?_
  | fail)
 refine zam.to (zam.upP g (fun k=>[(1,S a),(2,.ptr ⟨1,2,0⟩ 0 0),(5,I k)]) (fun _=>mA r nu a kn v++[(⟨1,2,0⟩,.cells zaj [I r.kn,.d (.list r.es.length (r.es.flatMap Ent.cells)),.d (.list r.rs.length (r.rs.flatMap Rmv.cells)),.d (.list r.cs.length (r.cs.flatMap Cpl.cells))])]) (fun k=>∀j,(hj:j<k)->(hj':j<r.cs.length)->decide (r.cs[j].nm=a)=false) r.cs.length (fun k hk hp ih=> ?_) 0 (Nat.zero_le _) (fun j h _=>absurd h (Nat.not_lt_zero _))) rfl rfl
 by_cases hlt:k<r.cs.length
 ·by_cases he:r.cs[k].nm=a
  ·have hi:zsm r.cs a=k:=znm (p:=fun x:Cpl=>decide (x.nm=a)) hlt (decide_eq_true he) fun j hj=>hp j hj (by omega)
   rw [hi] at hK
   repeat' ((conv=>whnf);first
   | refine Yz ?_
    | (refine zfo.rec zpb k rfl hlt rfl ?_)
    | (refine Cmp.tt he ?_)
    | (exact hK)
    | fail)
  ·have ih:=ih hlt fun j hj hj'=>by
    by_cases e:j=k
    ·subst e;exact decide_eq_false he
    ·exact hp j (by omega) hj'
   repeat' ((conv=>whnf);first
   | refine Yz ?_
    | (refine zfo.rec zpb k rfl hlt rfl ?_)
    | (refine Cmp.ff he ?_)
    | (refine zam.to ih rfl rfl)
    | fail)
 ·obtain rfl:k=r.cs.length:=by omega
  have hi:zsm r.cs a= -1:=zkm (p:=fun x:Cpl=>decide (x.nm=a)) fun j hj=>hp j hj hj
  rw [hi] at hK
  repeat' ((conv=>whnf);first
  | refine Yz ?_
   | (exact hK)
   | fail)
theorem ynu (r:Rgs) (ho:OkR r) (e:Evt) (hc:zhy e=0) (hask:z0l r e=0) (hrs:r.rs.length<1000):Fc E zfi [Rgv r,Evv e] (Rgv (zph r e)):=by
 have hes:=ho.es
 have hcs:=ho.cs
 have hml:(r.es.flatMap Ent.cells).length=r.es.length*8:=zag Ent.cells 8 zmi r.es
 have hmr:(r.rs.flatMap Rmv.cells).length=r.rs.length*2:=zag Rmv.cells 2 yhp r.rs
 have hmc:(r.cs.flatMap Cpl.cells).length=r.cs.length*5:=zag Cpl.cells 5 zpb r.cs
 rcases znz hc with⟨nu,ki,a,s,more,kn,f,u,m,rfl,hent,hfol,hki⟩|⟨nu,a,kn,rfl⟩|⟨nu,a,en,kn,rfl⟩|⟨nu,a,kn,v,rfl⟩
 ·clear hask hc
  by_cases hf:ki=zbz
  ·obtain⟨b,rfl⟩:=hfol hf
   subst hf
   have haft:zph r ⟨nu,zbz,[a,s,b],[kn,f,u,m],[]⟩=⟨kn,r.es++[⟨a,zbz,s,b,kn,f,u,m⟩],r.rs,r.cs⟩:=rfl
   rw [haft]
   change Fc E zfi [Rgv r,.d (.agg [DI nu,.str zbz,.list 3 [.str a,.str s,.str b],.list 4 [DI kn,DI f,DI u,DI m],.str []])] _
   refine g.fn rfl rfl ?_
   repeat' ((conv=>whnf);first
   | refine Yz ?_
    | (refine zco.mk ⟨rfl,rfl,rfl,rfl,rfl,hml,by dsimp only;omega,by first |omega|(dsimp only;omega)⟩ ?_)
    | (refine zco.mk ⟨rfl,rfl,rfl,rfl,rfl,rfl,by dsimp only;omega,by first |omega|(dsimp only;omega)⟩ ?_)
    | (refine zco.mk ⟨rfl,by omega⟩ ?_)
    | (refine zco.mk ⟨rfl,by decide⟩ ?_)
    | (refine Ret.mk ?_)
    | fail)
   all_goals simp [Ent.cells]
  ·have haft:zph r ⟨nu,ki,a::s::more,[kn,f,u,m],[]⟩=⟨kn,r.es++[⟨a,ki,s,[],kn,f,u,m⟩],r.rs,r.cs⟩:=by
    rw [zph,if_pos hent,z6n,if_neg hf]
    rfl
   rw [haft]
   change Fc E zfi [Rgv r,.d (.agg [DI nu,.str ki,.list (more.length+1+1) (.str a:: .str s::more.map D.str),.list 4 [DI kn,DI f,DI u,DI m],.str []])] _
   refine g.fn rfl rfl ?_
   rcases hki with rfl|rfl|rfl
   ·repeat' ((conv=>whnf);first
   | refine Yz ?_
     | (refine zco.mk ⟨rfl,rfl,rfl,rfl,rfl,hml,by dsimp only;omega,by first |omega|(dsimp only;omega)⟩ ?_)
     | (refine zco.mk ⟨rfl,rfl,rfl,rfl,rfl,rfl,by dsimp only;omega,by first |omega|(dsimp only;omega)⟩ ?_)
     | (refine zco.mk ⟨rfl,by omega⟩ ?_)
     | (refine zco.mk ⟨rfl,by decide⟩ ?_)
     | (refine Ret.mk ?_)
     | fail)
    all_goals simp [Ent.cells]
   ·repeat' ((conv=>whnf);first
   | refine Yz ?_
     | (refine zco.mk ⟨rfl,rfl,rfl,rfl,rfl,hml,by dsimp only;omega,by first |omega|(dsimp only;omega)⟩ ?_)
     | (refine zco.mk ⟨rfl,rfl,rfl,rfl,rfl,rfl,by dsimp only;omega,by first |omega|(dsimp only;omega)⟩ ?_)
     | (refine zco.mk ⟨rfl,by omega⟩ ?_)
     | (refine zco.mk ⟨rfl,by decide⟩ ?_)
     | (refine Ret.mk ?_)
     | fail)
    all_goals simp [Ent.cells]
   ·exact absurd rfl hf
 ·have haft:zph r ⟨nu,zdf,[a],[kn],[]⟩=⟨kn,r.es,r.rs++[⟨a,kn⟩],r.cs⟩:=rfl
  rw [haft]
  change Fc E zfi [Rgv r,.d (.agg [DI nu,.str zdf,.list 1 [.str a],.list 1 [DI kn],.str []])] _
  refine g.fn rfl rfl ?_
  repeat' ((conv=>whnf);first
  | refine Yz ?_
   | (refine zco.mk ⟨rfl,rfl,rfl,rfl,rfl,hmr,by dsimp only;omega,by first |omega|(dsimp only;omega)⟩ ?_)
   | (refine zco.mk ⟨rfl,rfl,rfl,rfl,rfl,rfl,by dsimp only;omega,by first |omega|(dsimp only;omega)⟩ ?_)
   | (refine zco.mk ⟨rfl,by omega⟩ ?_)
   | (refine zco.mk ⟨rfl,by decide⟩ ?_)
   | (refine Ret.mk ?_)
   | fail)
  all_goals simp [Rmv.cells]
 ·have haft:zph r ⟨nu,zcl,[a,en],[kn],[]⟩=⟨kn,r.es,r.rs,r.cs++[⟨a,en,kn,false,false⟩]⟩:=rfl
  rw [haft]
  change Fc E zfi [Rgv r,.d (.agg [DI nu,.str zcl,.list 2 [.str a,.str en],.list 1 [DI kn],.str []])] _
  refine g.fn rfl rfl ?_
  repeat' ((conv=>whnf);first
  | refine Yz ?_
   | (refine zco.mk ⟨rfl,rfl,rfl,rfl,rfl,hmc,by dsimp only;omega,by first |omega|(dsimp only;omega)⟩ ?_)
   | (refine zco.mk ⟨rfl,rfl,rfl,rfl,rfl,rfl,by dsimp only;omega,by first |omega|(dsimp only;omega)⟩ ?_)
   | (refine zco.mk ⟨rfl,by omega⟩ ?_)
   | (refine zco.mk ⟨rfl,by decide⟩ ?_)
   | (refine Ret.mk ?_)
   | fail)
  all_goals simp [Cpl.cells]
 ·change zo8 r a v=0 at hask
  rcases zlu r.cs a with h|⟨k,hk,h,hnm⟩
  ·rw [zo8,h,if_pos (by decide)] at hask
   omega
  have hq:=zo2 g r a (by omega)
  rw [h] at hq
  have hgd:r.cs.getD k ybl=r.cs[k]:=by simp [List.getD,hk]
  have haft:zph r ⟨nu,zei,[a],[kn,v],[]⟩=⟨kn,r.es,if v=1 then r.rs++[⟨r.cs[k].en,kn⟩] else r.rs,r.cs.set k {r.cs[k] with cl:=true,up:=decide (v=1)}⟩:=by
   change (Rgs.mk kn r.es (if v=1 then r.rs++[⟨(r.cs.getD (zsm r.cs a).toNat ybl).en,kn⟩] else r.rs) (r.cs.set (zsm r.cs a).toNat {r.cs.getD (zsm r.cs a).toNat ybl with cl:=true,up:=decide (v=1)}))=_
   rw [h,Int.toNat_natCast,hgd]
  rw [haft]
  change Fc E zfi [Rgv r,.d (.agg [DI nu,.str zei,.list 1 [.str a],.list 2 [DI kn,DI v],.str []])] _
  have hcl:∀x:Cpl,patch ([]++r.cs.flatMap Cpl.cells) ((0+((k:Nat):Int).toNat)*5) x.cells=(r.cs.set k x).flatMap Cpl.cells:=fun x=>by
   rw [Nat.zero_add,List.nil_append];exact z02 r k hk x
  have hl5:∀x:Cpl,(r.cs.set k x).length=r.cs.length:=fun x=>List.length_set
  have hin:=@z01 E g ⟨kn,r.es,r.rs,r.cs⟩ nu a kn v (by dsimp only;omega) 109
  rw [show zsm (Rgs.mk kn r.es r.rs r.cs).cs a=k from h] at hin
  dsimp only [mA,bxR] at hin
  have hwin:win (r.cs.flatMap Cpl.cells) (((k:Nat):Int).toNat*5) 5=r.cs[k].cells:=by
   rw [Int.toNat_natCast]
   exact zb8 Cpl.cells 5 zpb r.cs k hk
  generalize hx:r.cs[k]=x at *
  by_cases hv:v=1
  ·rw [if_pos hv,decide_eq_true hv]
   have hcx:=hcl {x with cl:=true,up:=true}
   refine g.fn rfl rfl ?_
   repeat' ((conv=>whnf);first
   | refine Yz ?_
    | (refine hin ?_)
    | (rw [hwin])
    | (refine zco.mk ⟨rfl,rfl,rfl,rfl,rfl,hmc,by dsimp only;omega,by first |omega|(dsimp only;omega)⟩ ?_)
    | (refine zco.mk ⟨rfl,rfl,rfl,rfl,rfl,hmr,by dsimp only;omega,by first |omega|(dsimp only;omega)⟩ ?_)
    | (refine zco.mk ⟨rfl,rfl,rfl,rfl,rfl,rfl,by dsimp only;omega,by first |omega|(dsimp only;omega)⟩ ?_)
    | (refine zco.mk ⟨rfl,by omega⟩ ?_)
    | (refine zco.mk ⟨rfl,by decide⟩ ?_)
    | (refine zco.mk ⟨rfl,by rw [List.nil_append];omega,rfl⟩ ?_)
    | (refine Cmp.tt hv ?_)
    | (refine Ret.mk ?_)
    | fail)
   change patch _ _ [D.str x.nm,D.str x.en,DI x.kn,D.bool true,D.bool true]=_ at hcx
   rw [if_pos ⟨rfl,rfl⟩,if_pos ⟨rfl,rfl⟩,hcx]
   simp [Rmv.cells]
  ·rw [if_neg hv,decide_eq_false hv]
   have hcx:=hcl {x with cl:=true,up:=false}
   refine g.fn rfl rfl ?_
   repeat' ((conv=>whnf);first
   | refine Yz ?_
    | (refine hin ?_)
    | (rw [hwin])
    | (refine zco.mk ⟨rfl,rfl,rfl,rfl,rfl,hmc,by dsimp only;omega,by first |omega|(dsimp only;omega)⟩ ?_)
    | (refine zco.mk ⟨rfl,by omega⟩ ?_)
    | (refine zco.mk ⟨rfl,by decide⟩ ?_)
    | (refine zco.mk ⟨rfl,by rw [List.nil_append];omega,rfl⟩ ?_)
    | (refine Cmp.ff hv ?_)
    | (refine Ret.mk ?_)
    | fail)
   change patch _ _ [D.str x.nm,D.str x.en,DI x.kn,D.bool true,D.bool false]=_ at hcx
   rw [if_pos ⟨rfl,rfl⟩,hcx]
   simp
theorem yke (l:List Evt) (hl:l.length<=1000) (hb:∀e∈l,e.ns.length<=1000000/\e.vs.length<=1000000):
  Fc E zj8 [LE l] (.tup [Rgv (rgL l),I (zfc rg0 0 l).2.1,I (erL l)]):=by
 refine g.fn rfl rfl ?_
 have hml:(l.flatMap Evt.cells).length=l.length*5:=zag Evt.cells 5 evw l
 unfold rgL erL
 generalize hR:zfc rg0 0 l=R
 repeat' ((conv=>whnf);first
 | refine Yz ?_
  | fail)
 refine zam.to (zam.by (σ:=Nat×Rgs) g (fun u=>u.1<=l.length/\OkR u.2/\u.2.rs.length<=u.1/\zfc u.2 u.1 (l.drop u.1)=R)
  (fun u=>[(0,LE l),(2,.ptr ⟨0,2,0⟩ 0 0),(5,.ptr ⟨0,5,0⟩ 0 0),(6,I u.1)]) (fun u=>[(⟨0,2,0⟩,.cells zaj [I 0,.d (.list 0 []),.d (.list 0 []),.d (.list 0 [])]),bxR 5 u.2]) (fun u=>l.length-u.1) ?_ (0,rg0) ⟨Nat.zero_le _,yg2,Nat.le_refl _,hR⟩) rfl rfl
 clear hR
 rintro⟨k,r⟩ ⟨h2,ho,h3,hR⟩ ih
 dsimp only at h2 ho h3 hR ih ⊢
 by_cases hlt:k<l.length
 ·rw [yc2 hlt] at hR
  have hwin:win (l.flatMap Evt.cells) (((k:Nat):Int).toNat*5) 5=l[k].cells:=by
   rw [Int.toNat_natCast]
   exact zb8 Evt.cells 5 evw l k hlt
  obtain⟨hb1,hb2⟩:=hb _ (List.getElem_mem hlt)
  have ih:=fun hz:zh8 r k l[k]=0=>ih (k+1,zph r l[k]) ⟨by dsimp only;omega,yg1 ho hz (by omega),by
   have:=ybc r l[k]
   dsimp only
   omega,by
   rw [if_neg (fun h=>h hz)] at hR
   exact hR⟩ (by dsimp only;omega)
  have hnu:zfo (l.flatMap Evt.cells) (((k:Nat):Int).toNat*5+0)=fun K=>zfo (l.flatMap Evt.cells) (((k:Nat):Int).toNat*5+0) K:=rfl
  have hpk:∀ {K:D->Prop},K (DI l[k].nu)->zfo (l.flatMap Evt.cells) (((k:Nat):Int).toNat*5+0) K:=fun h=>zfo.rec evw k rfl hlt rfl h
  clear hnu
  generalize l[k]=e at *
  have hce:=z7p g e hb1 hb2
  have haft:=ynu g r ho e
  by_cases hc:zhy e=0
  ·rw [hc] at hce
   have hrf:=yhf g r ho e hc
   have hst:zh8 r k e=z5t r k e:=by rw [zh8,if_neg (fun h=>h hc)]
   rw [ybb] at hst
   by_cases hn:e.nu=k+1
   ·rw [if_pos hn] at hst
    by_cases ha:yoo r e=0
    ·rw [ha] at hrf hst
     have haft:=haft hc (z1m (n:=k) (by rw [ybb,if_pos hn];exact ha)).2.2.2 (by omega)
     have ih:=ih hst
     dsimp only [bxR] at ih
     repeat' ((conv=>whnf);first
     | refine Yz ?_
      | (rw [hwin])
      | (apply zak.of;assumption)
      | (refine hpk ?_)
      | (refine Cmp.ff (fun h=>h hn) ?_)
      | (refine zam.to ih rfl rfl)
      | fail)
    ·rw [hst,if_pos ha] at hR
     generalize yoo r e=x at *
     subst hR
     repeat' ((conv=>whnf);first
     | refine Yz ?_
      | (rw [hwin])
      | (apply zak.of;assumption)
      | (refine hpk ?_)
      | (refine Cmp.ff (fun h=>h hn) ?_)
      | (refine Cmp.ff ha ?_)
      | (refine Cmp.tt ha ?_)
      | (refine Ret.mk rfl)
      | fail)
   ·rw [if_neg hn] at hst
    rw [hst,if_pos (by decide)] at hR
    subst hR
    repeat' ((conv=>whnf);first
    | refine Yz ?_
     | (rw [hwin])
     | (apply zak.of;assumption)
     | (refine hpk ?_)
     | (refine Cmp.tt hn ?_)
     | (refine Ret.mk rfl)
     | fail)
  ·have hst:zh8 r k e=zhy e:=by rw [zh8,if_pos hc]
   rw [hst,if_pos hc] at hR
   generalize zhy e=x at *
   subst hR
   repeat' ((conv=>whnf);first
   | refine Yz ?_
    | (rw [hwin])
    | (apply zak.of;assumption)
    | (refine Cmp.ff hc ?_)
    | (refine Ret.mk rfl)
    | fail)
 ·rw [List.drop_of_length_le (by omega)] at hR
  subst hR
  repeat' ((conv=>whnf);first
  | refine Yz ?_
   | (refine Ret.mk rfl)
   | fail)
end
theorem ygk {r:Rgs} (ho:OkR r) (s:List UInt8) (kn d:Int):0<=z7a r s kn d/\z7a r s kn d<=1440:=by
 unfold z7a
 have key:∀(l:List Ent) (a:Int),(∀x∈l,0<=x.mi/\x.mi<=1440)->0<=a/\a<=1440->0<=l.foldl (fun o x=>if yjq r s kn d x then x.mi else o) a/\l.foldl (fun o x=>if yjq r s kn d x then x.mi else o) a<=1440:=by
  intro l
  induction l with
  | nil=>intro a _ h;exact h
  | cons x l ih=>
   intro a h1 h2
   rw [List.foldl_cons]
   refine ih _ (fun y hy=>h1 y (by simp [hy])) ?_
   split
   ·exact h1 x (by simp)
   ·exact h2
 exact key r.es 1440 ho.mi ⟨by decide,by decide⟩
def yf8:List UInt8:=[115,108,111,116]
def z8y:List UInt8:=[100,97,121]
def zgv:List UInt8:=[99,111,117,110,116,115]
def z61:List UInt8:=[114,101,115,116,115]
def zzf:List UInt8:=[111,112,101,110]
def z3l (r:Rgs) (s:List UInt8) (k d:Int):List (List UInt8)×Int:=
 if za1 [if !zcj s then 8 else 0,rng k 0 99999,rng d 0 99999]≠0 then([],za1 [if !zcj s then 8 else 0,rng k 0 99999,rng d 0 99999])
 else if z7a r s k d≠1440 then([zaw 20 (z7a r s k d).toNat],0) else([],0)
def z1o (r:Rgs) (k:Int):List (List UInt8)×Int:=if rng k 0 99999≠0 then([],rng k 0 99999) else(yll r k,0)
def ybf (r:Rgs) (s:List UInt8):List (List UInt8)×Int:=
 if(if !zcj s then(8:Int) else 0)≠0 then([],if !zcj s then 8 else 0) else if zny r.es s<0 then([],10) else(yop r s,0)
abbrev yog (a:List (List UInt8)×Int):V:= .tup [Ws a.1,I a.2]
section
variable {E : Oracle} (g : Good E)
include g
theorem ysh (ev:List Evt) (r:Rgs) (ho:OkR r) (a s b c:List UInt8) (k d:Int):Ui E zbu [.ptr ⟨0,0,0⟩ 1 0,Ws [a,s,b,c],LI [k,d]] (mR zaa ev r) (yog (z3l r s k d)) (mR zaa ev r):=by
 refine⟨?_⟩
 have h1:=z5b g s
 have h2:=z73 g k
 have h3:=z73 g d
 have h4:=zj9 g (if !zcj s then 8 else 0) (rng k 0 99999) (rng d 0 99999)
 have hq:=ycw g zaa ev r ho s k d
 have hm:=ygk ho s k d
 unfold z3l
 generalize (if !zcj s then(8:Int) else 0)=x at *
 generalize rng k 0 99999=y at *
 generalize rng d 0 99999=z at *
 generalize za1 [x,y,z]=e at *
 generalize z7a r s k d=mi at *
 have hi:=z25 g mi (by omega)
 change In E 1 zbu [.ptr ⟨0,0,0⟩ 1 0,.d (.list 4 [.str a,.str s,.str b,.str c]),.d (.list 2 [DI k,DI d])] _ _
 refine In.enter (f:=zbu) g.lim rfl rfl ?_
 by_cases he:e=0
 ·subst he
  by_cases h0:mi=1440
  ·subst h0
   repeat' ((conv=>whnf);first
   | refine Yz ?_
    | (apply zak.of;assumption)
    | (refine zjh.of (r':=I 1440) isR rfl rfl rfl rfl hq rfl rfl rfl ?_)
    | (refine Cmp.ff (fun h=>h rfl) ?_)
    | (exact⟨rfl,rfl,rfl,rfl,rfl,rfl,trivial⟩)
    | fail)
  ·rw [if_neg (fun h=>h rfl),if_pos h0]
   repeat' ((conv=>whnf);first
   | refine Yz ?_
    | (apply zak.of;assumption)
    | (refine zjh.of (r':=I mi) isR rfl rfl rfl rfl hq rfl rfl rfl ?_)
    | (refine Cmp.tt h0 ?_)
    | (refine Cmp.ff (fun h=>h rfl) ?_)
    | (exact⟨rfl,rfl,rfl,rfl,rfl,rfl,trivial⟩)
    | fail)
 ·rw [if_pos he]
  repeat' ((conv=>whnf);first
  | refine Yz ?_
   | (apply zak.of;assumption)
   | (refine Cmp.tt he ?_)
   | (exact⟨rfl,rfl,rfl,rfl,rfl,rfl,trivial⟩)
   | fail)
theorem ysj (ev:List Evt) (r:Rgs) (ho:OkR r) (w:List (List UInt8)) (k:Int):Ui E zbw [.ptr ⟨0,0,0⟩ 1 0,Ws w,LI [k]] (mR zaa ev r) (yog (z1o r k)) (mR zaa ev r):=by
 refine⟨?_⟩
 have h2:=z73 g k
 have hu:=yer g ev r ho k
 unfold z1o
 generalize rng k 0 99999=y at *
 change In E 1 zbw [.ptr ⟨0,0,0⟩ 1 0,Ws w,.d (.list 1 [DI k])] _ _
 refine In.enter (f:=zbw) g.lim rfl rfl ?_
 by_cases he:y=0
 ·subst he
  repeat' ((conv=>whnf);first
  | refine Yz ?_
   | (apply zak.of;assumption)
   | (refine zog.ofI (r':=Ws (yll r k)) isR rfl rfl rfl rfl hu rfl rfl rfl rfl ?_)
   | (refine Cmp.ff (fun h=>h rfl) ?_)
   | (exact⟨rfl,rfl,rfl,rfl,rfl,rfl,trivial⟩)
   | fail)
 ·rw [if_pos he]
  repeat' ((conv=>whnf);first
  | refine Yz ?_
   | (apply zak.of;assumption)
   | (refine Cmp.tt he ?_)
   | (exact⟨rfl,rfl,rfl,rfl,rfl,rfl,trivial⟩)
   | fail)
theorem ysk (ev:List Evt) (r:Rgs) (ho:OkR r) (a s:List UInt8):Ui E zbx [.ptr ⟨0,0,0⟩ 1 0,Ws [a,s],LI []] (mR zaa ev r) (yog (ybf r s)) (mR zaa ev r):=by
 refine⟨?_⟩
 have h1:=z5b g s
 have hu:=yin g ev r ho s
 unfold ybf
 generalize (if !zcj s then(8:Int) else 0)=y at *
 change In E 1 zbx [.ptr ⟨0,0,0⟩ 1 0,.d (.list 2 [.str a,.str s]),LI []] _ _
 refine In.enter (f:=zbx) g.lim rfl rfl ?_
 by_cases he:y=0
 ·subst he
  rw [if_neg (fun h=>h rfl)]
  by_cases hi:zny r.es s<0
  ·rw [if_pos hi,if_pos hi] at hu
   rw [if_pos hi]
   repeat' ((conv=>whnf);first
   | refine Yz ?_
    | (apply zak.of;assumption)
    | (refine zog.ofI (r':= .tup [Ws [],I 10]) isR rfl rfl rfl rfl hu rfl rfl rfl rfl ?_)
    | (refine Cmp.ff (fun h=>h rfl) ?_)
    | (exact⟨rfl,rfl,rfl,rfl,rfl,rfl,trivial⟩)
    | fail)
  ·rw [if_neg hi,if_neg hi] at hu
   rw [if_neg hi]
   repeat' ((conv=>whnf);first
   | refine Yz ?_
    | (apply zak.of;assumption)
    | (refine zog.ofI (r':= .tup [Ws (yop r s),I 0]) isR rfl rfl rfl rfl hu rfl rfl rfl rfl ?_)
    | (refine Cmp.ff (fun h=>h rfl) ?_)
    | (exact⟨rfl,rfl,rfl,rfl,rfl,rfl,trivial⟩)
    | fail)
 ·rw [if_pos he]
  repeat' ((conv=>whnf);first
  | refine Yz ?_
   | (apply zak.of;assumption)
   | (refine Cmp.tt he ?_)
   | (exact⟨rfl,rfl,rfl,rfl,rfl,rfl,trivial⟩)
   | fail)
end
section
variable {E : Oracle} (g : Good E)
include g
theorem ynt (l:List (List UInt8)) (hl:l.length<=1000000):Fc E zcu [Ws l,Ws l] (B true):=by
 refine g.fn rfl rfl ?_
 repeat' ((conv=>whnf);first
 | refine Yz ?_)
 refine zam.to (zam.up g (fun k=>[(0,Ws l),(1,Ws l),(5,I k)]) (fun _=>[]) l.length (fun k hk ih=> ?_) 0 (Nat.zero_le _)) rfl rfl
 by_cases hlt:k<l.length
 ·have ih:=ih hlt
  repeat' ((conv=>whnf);first
  | refine Yz ?_
   | (refine zfo.ws k rfl hlt ?_)
   | (refine Cmp.tt rfl ?_)
   | (refine zam.to ih rfl rfl))
 ·repeat' ((conv=>whnf);first
 | refine Yz ?_
   | (refine Ret.mk rfl))
theorem yns (l:List Int) (hl:l.length<=1000000):Fc E zd8 [LI l,LI l] (B true):=by
 refine g.fn rfl rfl ?_
 repeat' ((conv=>whnf);first
 | refine Yz ?_)
 refine zam.to (zam.up g (fun k=>[(0,LI l),(1,LI l),(5,I k)]) (fun _=>[]) l.length (fun k hk ih=> ?_) 0 (Nat.zero_le _)) rfl rfl
 by_cases hlt:k<l.length
 ·have ih:=ih hlt
  repeat' ((conv=>whnf);first
  | refine Yz ?_
   | (refine zfo.iw k rfl hlt ?_)
   | (refine zam.to ih rfl rfl))
 ·repeat' ((conv=>whnf);first
 | refine Yz ?_
   | (refine Ret.mk rfl))
theorem ynr (l:List Evt) (hl:l.length<=1000000) (h:∀e∈l,e.ns.length<=1000000/\e.vs.length<=1000000):Fc E zg1 [LE l,LE l] (B true):=by
 refine g.fn rfl rfl ?_
 repeat' ((conv=>whnf);first
 | refine Yz ?_)
 refine zam.to (zam.up g (fun k=>[(0,LE l),(1,LE l),(5,I k)]) (fun _=>[]) l.length (fun k hk ih=> ?_) 0 (Nat.zero_le _)) rfl rfl
 by_cases hlt:k<l.length
 ·have ih:=ih hlt
  obtain⟨b1,b2⟩:=h _ (List.getElem_mem hlt)
  have hw:=ynt g l[k].ns b1
  have hi:=yns g l[k].vs b2
  repeat' ((conv=>whnf);first
  | refine Yz ?_
   | (refine zfo.rec evw k rfl hlt rfl ?_)
   | (refine Cmp.tt rfl ?_)
   | (apply zak.of;assumption)
   | (refine zam.to ih rfl rfl)
   | fail)
 ·repeat' ((conv=>whnf);first
 | refine Yz ?_
   | (refine Ret.mk rfl))
end
def i64 (n:Int):Prop:= -9223372036854775808<=n/\n<=9223372036854775807
theorem yp7 {n:Int} (h:(Lit.int .i64 n).wf=true):i64 n:=by
 simp only [Lit.wf,Bool.and_eq_true,decide_eq_true_eq] at h
 exact h
section
variable {P : Program} {n : Nat} {t : Nat} {ds : List D} {x : D}
theorem yjn {k:IntKind} (ht:P.underlying t=some (.int k)) (h:fit P (n+1) t ds):∃i,ds=[.int k i]/\(Lit.int k i).wf=true:=by
 simp only [fit,ht] at h;exact h
theorem ymz (ht:P.underlying t=some .string) (h:fit P (n+1) t ds):∃s,ds=[.str s]/\s.length<=maxLen:=by
 simp only [fit,ht] at h;exact h
theorem ymy {e:Nat} (ht:P.underlying t=some (.slice e)) (h:fit P (n+1) t ds):∃m cs,ds=[.list m cs]/\m<=maxLen/\zlb (fit P n) (List.replicate m e) cs:=by
 simp only [fit,ht] at h;exact h
theorem yo3 {fs:Array Field} (ht:P.underlying t=some (.struct fs)) (h:fit P (n+1) t ds):zlb (fit P n) (fs.toList.map (·.type)) ds:=by
 simp only [fit,ht] at h;exact h
theorem yo2 {m e:Nat} (ht:P.underlying t=some (.array m e)) (h:fit P (n+1) t ds):zlb (fit P n) (List.replicate m e) ds:=by
 simp only [fit,ht] at h;exact h
theorem yqq {e:Nat} (ht:P.underlying t=some (.slice e)) (h:zqa P t x):∃m cs,x= .list m cs/\m<=maxLen/\zlb (fit P 7) (List.replicate m e) cs:=by
 simp only [zqa,ht] at h
 obtain⟨m,cs,e,h1,h2⟩:=ymy (n:=7) ht h
 exact⟨m,cs,by simpa using e,h1,h2⟩
theorem yox {m e:Nat} (ht:P.underlying t=some (.array m e)) (h:zqa P t x):∃ds,x= .agg ds/\zlb (fit P 7) (List.replicate m e) ds:=by
 simp only [zqa,ht] at h
 obtain⟨ds,rfl,h⟩:=h
 exact⟨ds,rfl,yo2 ht h⟩
end
theorem yft {k:Nat} {ds:List D} (h:fit Tryz.prog (k+1) 3 ds):∃n,ds=[DI n]/\i64 n:=by
 obtain⟨n,rfl,hw⟩:=yjn Tryz.underlying3 h
 exact⟨n,rfl,yp7 hw⟩
theorem ybv {k:Nat}:∀(m:Nat) {ds:List D},zlb (fit Tryz.prog (k+1)) (List.replicate m 3) ds->∃l:List Int,ds=l.map DI/\l.length=m/\∀n∈l,i64 n
 | 0,ds,h=>⟨[],h,rfl,by simp⟩
 | m+1,ds,h=>by
  obtain⟨a,b,rfl,h1,h2⟩:=h
  obtain⟨n,rfl,hn⟩:=yft h1
  obtain⟨l,rfl,h3,h4⟩:=ybv m h2
  exact⟨n::l,rfl,by simp [h3],by simpa using ⟨hn,h4⟩⟩
theorem yqr {P:Program} {t u:Nat} {xs:List D} (h:z4d P [t,u] xs):∃x y,xs=[x,y]/\zqa P t x/\zqa P u y:=by
 obtain⟨x,_,rfl,h1,y,_,rfl,h2,rfl⟩:=h
 exact⟨x,y,rfl,h1,h2⟩
structure yos (e:Evt):Prop where
 ns:e.ns.length<=9223372036854775807
 vs:e.vs.length<=9223372036854775807
 nu:i64 e.nu
 ki:e.ki.length<=9223372036854775807
 tx:e.tx.length<=9223372036854775807
 na:∀x∈e.ns,x.length<=9223372036854775807
theorem ybw {k:Nat}:∀(m:Nat) {ds:List D},zlb (fit Tryz.prog (k+1)) (List.replicate m 9) ds->∃l:List (List UInt8),ds=l.map D.str/\l.length=m/\∀x∈l,x.length<=9223372036854775807
 | 0,ds,h=>⟨[],h,rfl,fun _ h=>by cases h⟩
 | m+1,ds,h=>by
  obtain⟨a,b,rfl,h1,h2⟩:=h
  obtain⟨s,rfl,hs⟩:=ymz Tryz.underlying9 h1
  obtain⟨l,rfl,h3,h4⟩:=ybw m h2
  refine⟨s::l,rfl,by simp [h3],fun x hx=> ?_⟩
  rcases List.mem_cons.1 hx with rfl|hx
  ·exact Nat.le_trans hs (by decide)
  ·exact h4 x hx
theorem z4e {k:Nat} {ds:List D} (h:zlb (fit Tryz.prog (k+2)) [3,9,22,50,9] ds):∃e:Evt,ds=e.cells/\yos e:=by
 obtain⟨_,_,rfl,h1,_,_,rfl,h2,_,_,rfl,h3,_,_,rfl,h4,_,_,rfl,h5,rfl⟩:=h
 obtain⟨n,rfl,hn⟩:=yft h1
 obtain⟨s1,rfl,a1⟩:=ymz Tryz.underlying9 h2
 obtain⟨m,cs,rfl,a2,h6⟩:=ymy Tryz.underlying22 h3
 obtain⟨q,es,rfl,a3,h7⟩:=ymy Tryz.underlying50 h4
 obtain⟨s2,rfl,a4⟩:=ymz Tryz.underlying9 h5
 obtain⟨l,rfl,rfl,b1⟩:=ybw m h6
 obtain⟨v,rfl,rfl,b2⟩:=ybv q h7
 exact⟨⟨n,s1,l,v,s2⟩,rfl,Nat.le_trans a2 (by decide),Nat.le_trans a3 (by decide),hn,Nat.le_trans a1 (by decide),Nat.le_trans a4 (by decide),b1⟩
theorem yfs {k:Nat} {ds:List D} (h:fit Tryz.prog (k+3) 52 ds):∃e:Evt,ds=e.cells/\yos e:=z4e (yo3 Tryz.underlying52 h)
theorem z14 {k:Nat}:∀(m:Nat) {ds:List D},zlb (fit Tryz.prog (k+3)) (List.replicate m 52) ds->∃l:List Evt,ds=l.flatMap Evt.cells/\l.length=m/\∀e∈l,yos e
 | 0,ds,h=>⟨[],h,rfl,fun _ h=>by cases h⟩
 | m+1,ds,h=>by
  obtain⟨a,b,rfl,h1,h2⟩:=h
  obtain⟨x,rfl,b1⟩:=yfs h1
  obtain⟨l,rfl,h3,b2⟩:=z14 m h2
  refine⟨x::l,rfl,by simp [h3],fun e he=> ?_⟩
  rcases List.mem_cons.1 he with rfl|he
  ·exact b1
  ·exact b2 e he
theorem ydq {x:D} (h:zqa Tryz.prog 24 x):∃l:List Evt,x= .list l.length (l.flatMap Evt.cells)/\l.length<=9223372036854775807/\∀e∈l,yos e:=by
 obtain⟨m,cs,rfl,a,h'⟩:=yqq Tryz.underlying24 h
 obtain⟨l,rfl,rfl,b⟩:=z14 m h'
 exact⟨l,rfl,Nat.le_trans a (by decide),b⟩
theorem ykv {l:List Evt} {n:Int} (h:(decide ((l.length:Int)<=n)&&l.all zpe)=true):(l.length:Int)<=n/\∀e∈l,e.ns.length<=6/\e.vs.length<=8:=by
 rw [Bool.and_eq_true,decide_eq_true_eq,List.all_eq_true] at h
 refine⟨h.1,fun e he=> ?_⟩
 have:=h.2 e he
 simp only [zpe,Bool.and_eq_true,decide_eq_true_eq] at this
 exact⟨this.1.1.1.2,this.1.1.2⟩
theorem ydc {r:Rgs} (ho:OkR r) (kn d:Int):(yee r kn d).length<=256:=by
 unfold yee yl7
 rw [List.length_map]
 refine Nat.le_trans (List.length_filter_le _ _) ?_
 rw [(zhr _).length_eq]
 exact Nat.le_trans (yic r.es) ho.es
def okT:yqd->List yqd->Prop
 | _,[]=>True
 | b,t::ts=>b.kn<t.kn/\t.kn<=99999/\t.mi≠b.mi/\okT t ts
structure Lat (r r':Rgs) (F:Int):Prop where
 es:∃more,r'.es=r.es++more/\∀x∈more,F<x.kn
 rm:∀nm,z24 r'.rs nm F=z24 r.rs nm F
theorem Lat.refl (r:Rgs) (F:Int):Lat r r F:=⟨⟨[],by simp,by simp⟩,fun _=>rfl⟩
theorem Lat.trans {a b c:Rgs} {F:Int} (h:Lat a b F) (k:Lat b c F):Lat a c F:=by
 obtain⟨⟨m1,e1,h1⟩,r1⟩:=h
 obtain⟨⟨m2,e2,h2⟩,r2⟩:=k
 refine⟨⟨m1++m2,by rw [e2,e1,List.append_assoc],fun x hx=> ?_⟩,fun nm=>(r2 nm).trans (r1 nm)⟩
 rcases List.mem_append.1 hx with hx|hx
 ·exact h1 x hx
 ·exact h2 x hx
theorem yef {r:Rgs} (ho:OkR r) (kn d:Int):∀t∈yee r kn d,0<=t.mi/\t.mi<1440:=by
 intro t ht
 unfold yee yl7 at ht
 obtain⟨s,hs,rfl⟩:=List.mem_map.1 ht
 have h1:=of_decide_eq_true (List.mem_filter.1 hs).2
 have:=ygk ho s kn d
 dsimp only
 omega
def yan (t:Slt):List UInt8:=t.sr++[32]++zaw 20 t.mi.toNat
def z1p (r:Rgs) (k d:Int):List (List UInt8)×Int:=
 if za1 [rng k 0 99999,rng d 0 99999]≠0 then([],za1 [rng k 0 99999,rng d 0 99999]) else((yee r k d).map yan,0)
def yqi (r:Rgs):List Cpl:=r.cs.filter fun c=> !c.cl
def z5v (r:Rgs):List (List UInt8)×Int:=((yqi r).map Cpl.nm,0)
theorem ydd:∀(es:List Ent) (ks:List (List UInt8)) (s:List UInt8),s∈es.foldl (fun ks x=>yew ks x.sr) ks->s∈ks\/∃x∈es,x.sr=s
 | [],_,_,h=> .inl h
 | y::es,ks,s,h=>by
  rw [List.foldl_cons] at h
  rcases ydd es _ s h with h|⟨x,hx,e⟩
  ·unfold yew at h
   split at h
   ·exact .inl h
   ·rcases List.mem_append.1 h with h|h
    ·exact .inl h
    ·rw [List.mem_singleton] at h
     exact .inr ⟨y,by simp,h.symm⟩
  ·exact .inr ⟨x,by simp [hx],e⟩
def SrR (r:Rgs):Prop:=∀x∈r.es,zcj x.sr=true
theorem yh5 {r:Rgs} (h:SrR r) (k d:Int):∀t∈yee r k d,t.sr.length<=24:=by
 intro t ht
 unfold yee yl7 at ht
 obtain⟨s,hs,rfl⟩:=List.mem_map.1 ht
 have h1:=(zhr _).mem_iff.1 (List.mem_filter.1 hs).1
 rcases ydd r.es [] s h1 with h2|⟨x,hx,rfl⟩
 ·cases h2
 ·exact(of_decide_eq_true (h x hx)).2.1
theorem zm0:∀(f u:Nat),(zaw f u).length<=f
 | 0,_=>Nat.le_refl _
 | f+1,u=>by
  unfold zaw
  split
  ·simp
  ·have:=zm0 f (u/10)
   rw [List.length_append,List.length_singleton];omega
section
variable {E : Oracle} (g : Good E)
include g
theorem ysi (ev:List Evt) (r:Rgs) (ho:OkR r) (hsr:SrR r) (w:List (List UInt8)) (k d:Int):Ui E zbv [.ptr ⟨0,0,0⟩ 1 0,Ws w,LI [k,d]] (mR zaa ev r) (yog (z1p r k d)) (mR zaa ev r):=by
 refine⟨?_⟩
 have h2:=z73 g k
 have h3:=z73 g d
 have h4:=zd6 g (rng k 0 99999) (rng d 0 99999)
 have hu:=yod g ev r ho k d
 have hsl:=ydc ho k d
 have hran:=yef ho k d
 have hsrl:=yh5 hsr k d
 unfold z1p
 generalize rng k 0 99999=y at *
 generalize rng d 0 99999=z at *
 generalize za1 [y,z]=e at *
 generalize yee r k d=sl at *
 have hms:(sl.flatMap Slt.cells).length=sl.length*2:=zag Slt.cells 2 yq7 sl
 change In E 1 zbv [.ptr ⟨0,0,0⟩ 1 0,Ws w,.d (.list 2 [DI k,DI d])] _ _
 refine In.enter (f:=zbv) g.lim rfl rfl ?_
 by_cases he:e=0
 ·subst he
  rw [if_neg (fun h=>h rfl)]
  repeat' ((conv=>whnf);first
  | refine Yz ?_
   | (apply zak.of;assumption)
   | (refine zog.ofI (r':=LS2 sl) isR rfl rfl rfl rfl hu rfl rfl rfl rfl ?_)
   | (refine Cmp.ff (fun h=>h rfl) ?_)
   | (refine In.enter (f:=zc9) g.lim rfl rfl ?_)
   | fail)
  refine zam.to (zam.by (σ:=List (List UInt8)) g (fun u=>u.length<=sl.length/\u=(sl.take u.length).map yan)
   (fun u=>[(1,.fn ze1 [] []),(5,.ref ⟨2,5,0⟩ 0 u.length u.length),(8,LS2 sl),(9,I sl.length),(10,I u.length)])
   (fun u=>mR zaa ev r++[(⟨2,4,0⟩,.row false zad 1 0 []),(⟨2,5,0⟩,.row false zad 1 u.length (u.map D.str))])
   (fun u=>sl.length-u.length) ?_ [] ⟨Nat.zero_le _,rfl⟩) rfl rfl
  rintro u ⟨h5,h6⟩ ih
  dsimp only at h5 h6 ih ⊢
  by_cases hlt:u.length<sl.length
  ·have hwin:win (sl.flatMap Slt.cells) (((u.length:Nat):Int).toNat*2) 2=sl[u.length].cells:=by
    rw [Int.toNat_natCast]
    exact zb8 Slt.cells 2 yq7 sl u.length hlt
   change win _ _ _=[D.str sl[u.length].sr,DI sl[u.length].mi] at hwin
   have hi:=z25 g sl[u.length].mi (by have:=hran _ (List.getElem_mem hlt);omega)
   have ih:=ih (u++[yan sl[u.length]]) ⟨by rw [List.length_append,List.length_singleton];omega,by
    rw [List.length_append,List.length_singleton,List.take_succ_eq_append_getElem hlt,List.map_append,<-h6];rfl⟩ (by rw [List.length_append,List.length_singleton];omega)
   simp only [List.length_append,List.length_cons,List.length_nil,List.map_append,List.map_cons,List.map_nil] at ih
   have hT:yan sl[u.length]=sl[u.length].sr++[32]++zaw 20 sl[u.length].mi.toNat:=rfl
   rw [hT] at ih
   have hs1:=hsrl _ (List.getElem_mem hlt)
   have hs2:=zm0 20 sl[u.length].mi.toNat
   have hmx:zlc=9223372036854775807:=rfl
   clear hran hsrl
   generalize sl[u.length]=t at *
   repeat' ((conv=>whnf);first
   | refine Yz ?_
    | (rw [hwin])
    | (apply zak.of;assumption)
    | (refine In.enter (f:=ze1) g.lim rfl rfl ?_)
    | (refine zco.mk (by rw [hmx];simp only [List.length_append,List.length_cons,List.length_nil];omega) ?_)
    | (refine zco.mk ⟨rfl,rfl,rfl,rfl,rfl,rfl,by dsimp only;omega,by dsimp only;omega⟩ ?_)
    | (refine zam.to ih rfl rfl)
    | fail)
  ·rw [List.take_of_length_le (by omega)] at h6
   rw [<-h6]
   repeat' ((conv=>whnf);first
   | refine Yz ?_
    | (refine zco.mk ⟨rfl,by omega⟩ ?_)
    | (refine zco.mk ⟨by simp,rfl,by omega⟩ ?_)
    | (exact⟨by rw [if_pos ⟨rfl,rfl⟩],rfl,rfl,rfl,rfl,rfl,trivial⟩)
    | (exact⟨rfl,rfl,rfl,rfl,rfl,rfl,trivial⟩)
    | fail)
 ·rw [if_pos he]
  repeat' ((conv=>whnf);first
  | refine Yz ?_
   | (apply zak.of;assumption)
   | (refine Cmp.tt he ?_)
   | (exact⟨rfl,rfl,rfl,rfl,rfl,rfl,trivial⟩)
   | fail)
theorem ysl (ev:List Evt) (r:Rgs) (ho:OkR r) (w:List (List UInt8)) (n:List Int):Ui E zce [.ptr ⟨0,0,0⟩ 1 0,Ws w,LI n] (mR zaa ev r) (yog (z5v r)) (mR zaa ev r):=by
 refine⟨?_⟩
 have hcs:=ho.cs
 have hml:(r.cs.flatMap Cpl.cells).length=r.cs.length*5:=zag Cpl.cells 5 zpb r.cs
 refine In.enter (f:=zce) g.lim rfl rfl ?_
 repeat' ((conv=>whnf);first
 | refine Yz ?_
  | (refine In.enter (f:=zd1) g.lim rfl rfl ?_)
  | fail)
 refine zam.to (zam.by (σ:=Nat×List Cpl) g (fun u=>u.1<=r.cs.length/\u.2=(r.cs.take u.1).filter fun c=> !c.cl)
  (fun u=>[(1,.fn zdu [] []),(5,.ref ⟨2,5,0⟩ 0 u.2.length u.2.length),(8,.ref ⟨0,0,4⟩ 0 r.cs.length r.cs.length),(9,I r.cs.length),(10,I u.1)])
  (fun u=>mR zaa ev r++[(⟨2,4,0⟩,.row false zaf 5 0 []),(⟨2,5,0⟩,.row false zaf 5 u.2.length (u.2.flatMap Cpl.cells))])
  (fun u=>r.cs.length-u.1) ?_ (0,[]) ⟨Nat.zero_le _,rfl⟩) rfl rfl
 rintro⟨k,out⟩ ⟨h1,h2⟩ ih
 dsimp only at h1 h2 ih ⊢
 have hmo:(out.flatMap Cpl.cells).length=out.length*5:=zag Cpl.cells 5 zpb out
 have hol:out.length<=64:=by
  rw [h2]
  refine Nat.le_trans (List.length_filter_le _ _) ?_
  rw [List.length_take];omega
 by_cases hlt:k<r.cs.length
 ·have hwin:win (r.cs.flatMap Cpl.cells) ((0+((k:Nat):Int).toNat)*5) 5=r.cs[k].cells:=by
   rw [Nat.zero_add,Int.toNat_natCast]
   exact zb8 Cpl.cells 5 zpb r.cs k hlt
  change win _ _ _=[D.str r.cs[k].nm,D.str r.cs[k].en,DI r.cs[k].kn,D.bool r.cs[k].cl,D.bool r.cs[k].up] at hwin
  cases hc:r.cs[k].cl with
  | false=>
   have ih:=ih (k+1,out++[r.cs[k]]) ⟨by dsimp only;omega,by dsimp only;rw [zih _ _ _ hlt,<-h2,hc];rfl⟩ (by dsimp only;omega)
   simp only [List.length_append,List.length_cons,List.length_nil,List.flatMap_append,List.flatMap_cons,List.flatMap_nil] at ih
   have hcc:r.cs[k].cells=[D.str r.cs[k].nm,D.str r.cs[k].en,DI r.cs[k].kn,D.bool false,D.bool r.cs[k].up]:=by rw [<-hc];rfl
   rw [hcc] at ih
   rw [hc] at hwin
   repeat' ((conv=>whnf);first
   | refine Yz ?_
    | (rw [hwin])
    | (refine In.enter (f:=zdu) g.lim rfl rfl ?_)
    | (refine zco.mk ⟨rfl,rfl,rfl,rfl,rfl,rfl,by dsimp only;omega,by dsimp only;omega⟩ ?_)
    | (refine zam.to ih rfl rfl)
    | fail)
  | true=>
   have ih:=ih (k+1,out) ⟨by dsimp only;omega,by dsimp only;rw [zih _ _ _ hlt,<-h2,hc];simp⟩ (by dsimp only;omega)
   rw [hc] at hwin
   repeat' ((conv=>whnf);first
   | refine Yz ?_
    | (rw [hwin])
    | (refine In.enter (f:=zdu) g.lim rfl rfl ?_)
    | (refine zam.to ih rfl rfl)
    | fail)
 ·rw [List.take_of_length_le (by omega)] at h2
  have hcl:z5v r=(out.map Cpl.nm,0):=by rw [z5v,yqi,<-h2]
  rw [hcl]
  clear hcl h2 ih
  repeat' ((conv=>whnf);first
  | refine Yz ?_
   | (refine zco.mk ⟨rfl,by omega⟩ ?_)
   | (rw [if_pos ⟨rfl,rfl⟩];refine In.enter (f:=zbq) g.lim rfl rfl ?_)
   | (refine In.enter (f:=zbq) g.lim rfl rfl ?_)
   | fail)
  refine zam.to (zam.by (σ:=List (List UInt8)) g (fun u=>u.length<=out.length/\u=(out.take u.length).map Cpl.nm)
   (fun u=>[(1,.fn ze2 [] []),(5,.ref ⟨2,5,0⟩ 0 u.length u.length),(8,.d (.list out.length (out.flatMap Cpl.cells))),(9,I out.length),(10,I u.length)])
   (fun u=>mR zaa ev r++[(⟨2,4,0⟩,.row false zad 1 0 []),(⟨2,5,0⟩,.row false zad 1 u.length (u.map D.str))])
   (fun u=>out.length-u.length) ?_ [] ⟨Nat.zero_le _,rfl⟩) rfl rfl
  rintro u ⟨h3,h4⟩ ih
  dsimp only at h3 h4 ih ⊢
  by_cases hlt2:u.length<out.length
  ·have hwin:win (out.flatMap Cpl.cells) (((u.length:Nat):Int).toNat*5) 5=out[u.length].cells:=by
    rw [Int.toNat_natCast]
    exact zb8 Cpl.cells 5 zpb out u.length hlt2
   have ih:=ih (u++[out[u.length].nm]) ⟨by rw [List.length_append,List.length_singleton];omega,by
    rw [List.length_append,List.length_singleton,List.take_succ_eq_append_getElem hlt2,List.map_append,<-h4];rfl⟩ (by rw [List.length_append,List.length_singleton];omega)
   simp only [List.length_append,List.length_cons,List.length_nil,List.map_append,List.map_cons,List.map_nil] at ih
   repeat' ((conv=>whnf);first
   | refine Yz ?_
    | (rw [hwin])
    | (refine In.enter (f:=ze2) g.lim rfl rfl ?_)
    | (refine zco.mk ⟨rfl,rfl,rfl,rfl,rfl,rfl,by dsimp only;omega,by dsimp only;omega⟩ ?_)
    | (refine zam.to ih rfl rfl)
    | fail)
  ·rw [List.take_of_length_le (by omega)] at h4
   rw [<-h4]
   repeat' ((conv=>whnf);first
   | refine Yz ?_
    | (refine zco.mk ⟨rfl,by omega⟩ ?_)
    | (refine zco.mk ⟨by simp,rfl,by omega⟩ ?_)
    | (exact⟨by rw [if_pos ⟨rfl,rfl⟩],rfl,rfl,rfl,rfl,rfl,trivial⟩)
    | (exact⟨rfl,rfl,rfl,rfl,rfl,rfl,trivial⟩)
    | fail)
end
theorem zog.ofJ {E:Oracle} {f:Nat} {first caps args as0 as1:List V} {m m0 m2 m':Mem} {r r':V} {K:V->Mem->Prop} (is:List Evl.Id) (h0:(first ++args++caps).map (zuv m)=as1) (his:reach 0 m 64 (zeo as1) []=is)
  (hc:(within is 0 (zeo as1)&&movable is 0 m)=true) (has:zsz (number ⟨0,0⟩ 0 0 is) as1=as0) (hm:moved (number ⟨0,0⟩ 0 0 is) m (number ⟨0,0⟩ 0 0 is)=m0)
  (hq:Ui E f as0 m0 r m2) (hlow:zh2 1 (zm2 m0)=true) (hb:zr7 (number ⟨0,0⟩ 0 0 is) m2 (number ⟨0,0⟩ 0 0 is) m=some m') (hid:(ids r).all (fun i=>((number ⟨0,0⟩ 0 0 is).map (·.2)).elem i)=true) (hr:ren (zml (number ⟨0,0⟩ 0 0 is)) r=r') (hk:K r' m'):zog E true (.fn f first caps) args m K:=by
 subst h0
 exact zog.ofI is his hc has hm hq hlow hb hid hr hk
theorem z9n {m:Mem} {o:Evl.Id} {n:Nat} {t sz:Nat} {xs:List D} (h:Evl.look m o=some (.row false t sz n xs)):zuv m (.ref o 0 n n)= .d (.list n xs):=by
 have h1:Evl.freeze false m (.ref o 0 n n)=some (.list n xs):=by
  have h2:Evl.freeze false m (.ref o 0 n n)=match Evl.look m o with|some (.row wr _ sz n' xs)=>if(wr=false\/false=true)/\n'=n/\0+n<=n' then some (.list n (if 0=0/\n=n' then xs else win xs (0*sz) (n*sz))) else none|_=>none:=rfl
  rw [h2,h]
  dsimp only
  rw [if_pos ⟨.inl rfl,rfl,by omega⟩,if_pos ⟨rfl,rfl⟩]
 simp only [zuv,h1]
def zwj (l:List (List UInt8)):Bool:=l.all fun w=>(z6k w).2
def zmr (l:List (List UInt8)):List Int:=l.map fun w=>(z6k w).1
def ymc (a:List (List UInt8)×Int):List UInt8×Int:=if a.2≠0 then([],a.2) else if a.1=[] then([110,111,110,101],0) else(zfw 32 a.1,0)
def z8v (W I:Nat) (A:List (List UInt8)->List Int->List (List UInt8)×Int) (text:List UInt8):List UInt8×Int:=
 if(parts 32 text).length≠W\/[]∈parts 32 text then([],25)
 else if zwj ((parts 32 text).drop (W-I))=false then([],25)
 else ymc (A (parts 32 text) (zmr ((parts 32 text).drop (W-I))))
theorem yk9 (l:List (List UInt8)) (a:Nat):win (l.map D.str) (a*1) ((l.length-a)*1)=(l.drop a).map D.str:=by
 unfold win
 rw [Nat.mul_one,Nat.mul_one,List.map_drop,List.take_of_length_le (by rw [List.length_drop,List.length_map];exact Nat.le_refl _)]
theorem z6z (b:UInt8) (n:Nat):∀l:List (List UInt8),(∀w∈l,w.length<=n)->(zfw b l).length<=l.length*(n+1)
 | [],_=>by simp [zfw]
 | [x],h=>by
  have:=h x (by simp)
  simp only [zfw,List.length_cons,List.length_nil]
  omega
 | x::y::r,h=>by
  have h1:=h x (by simp)
  have h2:=z6z b n (y::r) fun w hw=>h w (List.mem_cons_of_mem _ hw)
  rw [List.length_cons,Nat.succ_mul]
  simp only [zfw,List.length_append,List.length_cons] at h2 ⊢
  omega
section
variable {E : Oracle} (g : Good E)
include g
theorem yil (ev:List Evt) (r:Rgs) (W Iq:Nat) (hI:Iq<=W) (hW:W<=10) (f:Nat) (A:List (List UInt8)->List Int->List (List UInt8)×Int) (text:List UInt8) (ht:text.length<=100000)
  (hq:∀w n,w.length=W->n.length=Iq->Ui E f [.ptr ⟨0,0,0⟩ 1 0,Ws w,LI n] (mR zaa ev r) (yog (A w n)) (mR zaa ev r))
  (hA:∀w n,(A w n).1.length<=1000/\∀x∈(A w n).1,x.length<=100):
  Ui E zbh [.ptr ⟨0,0,0⟩ 0 0,.agg [I W,I Iq,.fn f [] []],S text] (mR zaa ev r) (.tup [S (z8v W Iq A text).1,I (z8v W Iq A text).2]) (mR zaa ev r):=by
 refine⟨?_⟩
 have hsp:=yhv g text (by omega)
 have hln:=zzt 32 text
 have hpl:∀w∈parts 32 text,w.length<=1000000:=fun w hw=>by
  have:=z42 32 text w hw
  omega
 have hct:=zz7 g (parts 32 text) [] (by omega)
 unfold z8v
 generalize parts 32 text=w at *
 refine In.enter (f:=zbh) g.lim rfl rfl ?_
 by_cases h1:w.length=W
 ·by_cases h2:[]∈w
  ·rw [decide_eq_true h2] at hct
   rw [if_pos (.inr h2)]
   subst h1
   repeat' ((conv=>whnf);first
   | refine Yz ?_
    | (apply zak.of;assumption)
    | (exact⟨rfl,rfl,rfl,rfl,rfl,rfl,trivial⟩)
    | fail)
  ·rw [decide_eq_false h2] at hct
   rw [if_neg (fun h=>h.elim (fun h=>h h1) h2)]
   subst h1
   have hxl:(w.drop (w.length-Iq)).length=w.length-(w.length-Iq):=List.length_drop
   have hxw:∀x∈w.drop (w.length-Iq),x.length<=1000000:=fun x hx=>hpl x (List.mem_of_mem_drop hx)
   have hwd:=yk9 w (w.length-Iq)
   generalize hxs:w.drop (w.length-Iq)=xs at *
   repeat' ((conv=>whnf);first
   | refine Yz ?_
    | (apply zak.of;assumption)
    | (refine zcd.at (w.length-Iq) w.length (by omega) (by omega) (by omega) ?_;rw [hwd])
    | fail)
   rw [<-hxl]
   refine zam.to (zam.upP g (fun k=>[(0,.ptr ⟨0,0,0⟩ 0 0),(4,.ptr ⟨1,4,0⟩ 0 0),(8,LS w),(9,.ref ⟨1,9,0⟩ 0 k k),(33,LS xs),(34,I xs.length),(35,I k)])
    (fun k=>mR zaa ev r++[(⟨1,4,0⟩,.cells zjg [I w.length,I Iq,.fn f [] []]),(⟨1,9,0⟩,.row false zbs 1 k ((zmr (xs.take k)).map DI))])
    (fun k=>zwj (xs.take k)=true) xs.length (fun k hk hp ih=> ?_) 0 (Nat.zero_le _) rfl) rfl rfl
   by_cases hlt:k<xs.length
   ·have hd:=zul g xs[k] (hxw _ (List.getElem_mem hlt))
    have hpx:∀ {K:D->Prop},K (.str xs[k])->zfo (xs.map D.str) (((k:Nat):Int).toNat*1) K:=fun h=>zfo.ws k rfl hlt h
    have hmi:((zmr (xs.take k)).map DI).length=k*1:=by rw [List.length_map,zmr,List.length_map,List.length_take];omega
    cases hc:(z6k xs[k]).2 with
    | false=>
     have hno:zwj xs=false:=by
      unfold zwj
      rw [List.all_eq_false]
      exact⟨_,List.getElem_mem hlt,by rw [hc];decide⟩
     rw [hno,if_pos rfl]
     rw [hc] at hd
     clear ih
     repeat' ((conv=>whnf);first
     | refine Yz ?_
      | (refine hpx ?_)
      | (apply zak.of;assumption)
      | (exact⟨rfl,rfl,rfl,rfl,rfl,rfl,trivial⟩)
      | fail)
    | true=>
     rw [hc] at hd
     have e1:zwj (xs.take (k+1))=true:=by
      unfold zwj at hp ⊢
      rw [List.take_succ_eq_append_getElem hlt,List.all_append,hp,List.all_cons,hc]
      rfl
     have e2:(zmr (xs.take (k+1))).map DI=(zmr (xs.take k)).map DI++[DI (z6k xs[k]).1]:=by
      unfold zmr
      rw [List.take_succ_eq_append_getElem hlt,List.map_append,List.map_append]
      rfl
     have ih:=ih hlt e1
     rw [e2] at ih
     repeat' ((conv=>whnf);first
     | refine Yz ?_
      | (refine hpx ?_)
      | (apply zak.of;assumption)
      | (refine zco.mk ⟨rfl,rfl,rfl,rfl,rfl,rfl,by dsimp only;omega,by dsimp only;omega⟩ ?_)
      | (refine zam.to ih rfl rfl)
      | fail)
   ·obtain rfl:k=xs.length:=by omega
    clear ih
    rw [List.take_length] at hp ⊢
    rw [hp,if_neg (by decide)]
    have hil:(zmr xs).length=xs.length:=by rw [zmr,List.length_map]
    have hu:=hq w (zmr xs) rfl (by rw [hil,hxl];omega)
    obtain⟨ha1,ha2⟩:=hA w (zmr xs)
    generalize A w (zmr xs)=a at *
    obtain⟨al,ae⟩:=a
    dsimp only at ha1 ha2
    have hus:LI (zmr xs)= .d (.list xs.length ((zmr xs).map DI)):=by rw [<-hil]
    rw [hus] at hu
    have hfz:=fun m (h:Evl.look m ⟨1,9,0⟩=some (.row false zbs 1 xs.length ((zmr xs).map DI)))=>z9n h
    by_cases hae:ae=0
    ·subst hae
     by_cases hal:al=[]
     ·subst hal
      repeat' ((conv=>whnf);first
      | refine Yz ?_
       | (apply zak.of;assumption)
       | (refine zog.ofJ (as1:=[.ptr ⟨0,0,0⟩ 1 0,LS w,.d (.list xs.length ((zmr xs).map DI))]) (r':= .tup [Ws [],I 0]) isR (by rw [List.nil_append,List.append_nil,List.map_cons,List.map_cons,List.map_cons,List.map_nil,hfz _ rfl];rfl) rfl rfl rfl rfl hu rfl rfl rfl rfl ?_)
       | (refine Cmp.ff (fun h=>h rfl) ?_)
       | (exact⟨rfl,rfl,rfl,rfl,rfl,rfl,trivial⟩)
       | fail)
     ·obtain⟨a0,ar,rfl⟩:=List.exists_cons_of_ne_nil hal
      have hjl:=z6z 32 100 (a0::ar) ha2
      have hj:=yl3 g (a0::ar) hal (by omega) (by have:=Nat.mul_le_mul_right (100+1) ha1;omega)
      have hat:ymc (a0::ar,0)=(zfw 32 (a0::ar),0):=by
       unfold ymc
       rw [if_neg (fun h=>h rfl),if_neg (fun h=>by cases h)]
      rw [hat]
      dsimp only
      have hkl:(a0::ar).length=ar.length+1:=rfl
      repeat' ((conv=>whnf);first
      | refine Yz ?_
       | (apply zak.of;assumption)
       | (refine zog.ofJ (as1:=[.ptr ⟨0,0,0⟩ 1 0,LS w,.d (.list xs.length ((zmr xs).map DI))]) (r':= .tup [Ws (a0::ar),I 0]) isR (by rw [List.nil_append,List.append_nil,List.map_cons,List.map_cons,List.map_cons,List.map_nil,hfz _ rfl];rfl) rfl rfl rfl rfl hu rfl rfl rfl rfl ?_)
       | (refine Cmp.ff (by omega) ?_)
       | (refine Cmp.ff (fun h=>h rfl) ?_)
       | (exact⟨rfl,rfl,rfl,rfl,rfl,rfl,trivial⟩)
       | fail)
    ·have hat:ymc (al,ae)=([],ae):=by
      unfold ymc
      rw [if_pos hae]
     rw [hat]
     dsimp only
     repeat' ((conv=>whnf);first
     | refine Yz ?_
      | (apply zak.of;assumption)
      | (refine zog.ofJ (as1:=[.ptr ⟨0,0,0⟩ 1 0,LS w,.d (.list xs.length ((zmr xs).map DI))]) (r':= .tup [Ws al,I ae]) isR (by rw [List.nil_append,List.append_nil,List.map_cons,List.map_cons,List.map_cons,List.map_nil,hfz _ rfl];rfl) rfl rfl rfl rfl hu rfl rfl rfl rfl ?_)
      | (refine Cmp.tt hae ?_)
      | (exact⟨rfl,rfl,rfl,rfl,rfl,rfl,trivial⟩)
      | fail)
 ·rw [if_pos (.inl h1)]
  repeat' ((conv=>whnf);first
  | refine Yz ?_
   | (apply zak.of;assumption)
   | (refine Cmp.tt (by omega) ?_)
   | (exact⟨rfl,rfl,rfl,rfl,rfl,rfl,trivial⟩)
   | fail)
end
structure NmR (r:Rgs):Prop where
 nm:∀x∈r.es,zcj x.nm=true
 sr:∀x∈r.es,zcj x.sr=true
 cs:∀c∈r.cs,zcj c.nm=true
theorem z4r {s:List UInt8} (h:zcj s=true):s.length<=24:=(of_decide_eq_true h).2.1
theorem yot {r:Rgs} (h:NmR r) {n:Nat} {e:Evt} (hs:zh8 r n e=0):NmR (zph r e):=by
 obtain⟨h1,h2⟩:=zv6 hs
 obtain⟨_,_,_,h3⟩:=z1m h2
 obtain⟨a1,a2,a3,a4,_⟩:=zpa h1
 unfold z0l at h3
 unfold zph
 split at h3
 ·rename_i hk
  rw [if_pos hk]
  obtain⟨_,f2,_⟩:=z2c hk
  have hn:∀x∈r.es++[z6n e],zcj x.nm=true:=fun x hx=>by
   rcases List.mem_append.1 hx with hx|hx
   ·exact h.nm x hx
   ·rw [List.mem_singleton] at hx;subst hx
    exact ycq a4 (i:=0) (by omega)
  have hs':∀x∈r.es++[z6n e],zcj x.sr=true:=fun x hx=>by
   rcases List.mem_append.1 hx with hx|hx
   ·exact h.sr x hx
   ·rw [List.mem_singleton] at hx;subst hx
    exact ycq a4 (i:=1) (by omega)
  exact⟨hn,hs',h.cs⟩
 rename_i hk
 rw [if_neg hk]
 split at h3
 ·rename_i hk2
  rw [if_pos hk2]
  exact⟨h.nm,h.sr,h.cs⟩
 rename_i hk2
 rw [if_neg hk2]
 split at h3
 ·rename_i hk3
  rw [if_pos hk3]
  refine⟨h.nm,h.sr,fun c hc=> ?_⟩
  rcases List.mem_append.1 hc with hc|hc
  ·exact h.cs c hc
  ·rw [List.mem_singleton] at hc;subst hc
   exact ycq a4 (i:=0) (by rw [a2,hk3];decide)
 rename_i hk3
 rw [if_neg hk3]
 refine⟨h.nm,h.sr,fun c hc=> ?_⟩
 rcases List.mem_or_eq_of_mem_set hc with hc|hc
 ·exact h.cs c hc
 ·subst hc
  dsimp only
  have hge:0<=zsm r.cs (nmN e 0):=by
   unfold zo8 at h3
   split at h3
   ·exact absurd h3 (by decide)
   ·omega
  rcases zlu r.cs (nmN e 0) with e1|⟨k,hk,e1,_⟩
  ·omega
  ·rw [e1,Int.toNat_natCast]
   have:r.cs.getD k ybl=r.cs[k]:=by simp [List.getD,hk]
   rw [this]
   exact h.cs _ (List.getElem_mem hk)
theorem yc3:∀(l:List Evt) (r:Rgs) (n:Nat),NmR r->(zfc r n l).2.2=0->NmR (zfc r n l).1
 | [],_,_,h,_=>h
 | e::l,r,n,h,hz=>by
  rw [zhq] at hz ⊢
  by_cases hs:zh8 r n e≠0
  ·rw [if_pos hs] at hz;exact absurd hz hs
  ·rw [if_neg hs] at hz ⊢
   exact yc3 l _ _ (yot h (Decidable.byContradiction hs)) hz
theorem ypg:NmR rg0:=⟨by simp [rg0],by simp [rg0],by simp [rg0]⟩
abbrev A1 (r:Rgs) (w:List (List UInt8)) (n:List Int):=z3l r (w.getD 1 []) (n.getD 0 0) (n.getD 1 0)
abbrev A2 (r:Rgs) (_:List (List UInt8)) (n:List Int):=z1p r (n.getD 0 0) (n.getD 1 0)
abbrev A3 (r:Rgs) (_:List (List UInt8)) (n:List Int):=z1o r (n.getD 0 0)
abbrev A4 (r:Rgs) (w:List (List UInt8)) (_:List Int):=ybf r (w.getD 1 [])
abbrev A5 (r:Rgs) (_:List (List UInt8)) (_:List Int):=z5v r
theorem yql (r:Rgs) (w:List (List UInt8)) (n:List Int):(A1 r w n).1.length<=1000/\∀x∈(A1 r w n).1,x.length<=100:=by
 unfold A1 z3l
 generalize (if !zcj (w.getD 1 []) then(8:Int) else 0)=y
 split
 ·simp
 ·split
  ·refine⟨by simp,fun x hx=> ?_⟩
   rw [List.mem_singleton] at hx;subst hx
   have:=zm0 20 (z7a r (w.getD 1 []) (n.getD 0 0) (n.getD 1 0)).toNat
   omega
  ·simp
theorem yqm {r:Rgs} (ho:OkR r) (h:NmR r) (w:List (List UInt8)) (n:List Int):(A2 r w n).1.length<=1000/\∀x∈(A2 r w n).1,x.length<=100:=by
 unfold A2 z1p
 split
 ·simp
 ·refine⟨by have:=ydc ho (n.getD 0 0) (n.getD 1 0);dsimp only;rw [List.length_map];omega,fun x hx=> ?_⟩
  obtain⟨t,ht,rfl⟩:=List.mem_map.1 hx
  have h1:=yh5 h.sr _ _ t ht
  have h2:=zm0 20 t.mi.toNat
  unfold yan
  simp only [List.length_append,List.length_cons,List.length_nil]
  omega
theorem ycn {r:Rgs} (ho:OkR r) (h:NmR r) (p:Ent->Bool):((r.es.filter p).map Ent.nm).length<=1000/\∀x∈(r.es.filter p).map Ent.nm,x.length<=100:=by
 have hes:=ho.es
 refine⟨by rw [List.length_map];exact Nat.le_trans (List.length_filter_le _ _) (by omega),fun x hx=> ?_⟩
 obtain⟨y,hy,rfl⟩:=List.mem_map.1 hx
 have:=z4r (h.nm y (List.mem_filter.1 hy).1)
 omega
theorem yqn {r:Rgs} (ho:OkR r) (h:NmR r) (w:List (List UInt8)) (n:List Int):(A3 r w n).1.length<=1000/\∀x∈(A3 r w n).1,x.length<=100:=by
 unfold A3 z1o
 split
 ·simp
 ·exact ycn ho h _
theorem yqo {r:Rgs} (ho:OkR r) (h:NmR r) (w:List (List UInt8)) (n:List Int):(A4 r w n).1.length<=1000/\∀x∈(A4 r w n).1,x.length<=100:=by
 unfold A4 ybf
 generalize (if !zcj (w.getD 1 []) then(8:Int) else 0)=y
 split
 ·simp
 ·split
  ·simp
  ·exact ycn ho h _
theorem yqp {r:Rgs} (ho:OkR r) (h:NmR r) (w:List (List UInt8)) (n:List Int):(A5 r w n).1.length<=1000/\∀x∈(A5 r w n).1,x.length<=100:=by
 have hcs:=ho.cs
 unfold A5 z5v yqi
 dsimp only
 refine⟨by rw [List.length_map];exact Nat.le_trans (List.length_filter_le _ _) (by omega),fun x hx=> ?_⟩
 obtain⟨y,hy,rfl⟩:=List.mem_map.1 hx
 have:=z4r (h.cs y (List.mem_filter.1 hy).1)
 omega
def hdW (s:List UInt8):List UInt8:=(parts 32 s).headD []
section
variable {E : Oracle} (g : Good E)
include g
theorem yhu (s:List UInt8) (hs:s.length<=1000000):∃q b,Fc E zhp [S s,S [32]] (.tup [S (hdW s),S q,B b]):=by
 by_cases h:(32:UInt8)∈s
 ·obtain⟨a,q,rfl,ha⟩:=List.eq_append_cons_of_mem h
  refine⟨q,true,?_⟩
  unfold hdW
  rw [zga 32 q a ha]
  exact yda g a q ha hs
 ·refine⟨[],false,?_⟩
  unfold hdW
  rw [zlx 32 s h]
  exact z7w g s h
abbrev qsM:List (D×V):=[(.str yf8,.agg [I 4,I 2,.fn zbu [] []]),(.str z8y,.agg [I 3,I 2,.fn zbv [] []]),(.str zgv,.agg [I 2,I 1,.fn zbw [] []]),(.str z61,.agg [I 2,I 0,.fn zbx [] []]),(.str zzf,.agg [I 1,I 0,.fn zce [] []])]
omit g in
theorem yhd {k:List UInt8} (h:k≠yf8/\k≠z8y/\k≠zgv/\k≠z61/\k≠zzf):zp9 (.str k) qsM=some none:=by
 have e:∀t,k≠t->(k==t)=false:=fun t h=>beq_eq_false_iff_ne.2 h
 obtain⟨h1,h2,h3,h4,h5⟩:=h
 simp only [zp9,eqD,e _ h1,e _ h2,e _ h3,e _ h4,e _ h5]
theorem zcf.questions {cx:Cx} {slot:Nat} {m:Mem} {K:V->Mem->Prop} (hf:Go.Evl.freeK cx.lv slot m=0) (k:K (.mp ⟨cx.lv,slot,0⟩) (m++[(⟨cx.lv,slot,0⟩,.map qsM)])):zcf E zja [] cx slot m K:=by
 refine⟨.mp ⟨0,1,0⟩,[(⟨0,1,0⟩,.map qsM)],(.mp ⟨cx.lv,slot,0⟩,m++[(⟨cx.lv,slot,0⟩,.map qsM)]),g.lim.of_iter 1000 _ _ (by kernel_rfl),?_,k⟩
 unfold Evl.settle
 rw [hf]
 rfl
abbrev Aqv (a:List UInt8×Int):V:= .tup [S a.1,I a.2]
theorem yp1 (ev:List Evt) (r:Rgs) (ho:OkR r) (text:List UInt8) (ht:text.length<=100000):Ui E zbh [.ptr ⟨0,0,0⟩ 0 0,.agg [I 4,I 2,.fn zbu [] []],S text] (mR zaa ev r) (Aqv (z8v 4 2 (A1 r) text)) (mR zaa ev r):=by
 refine yil g ev r 4 2 (by decide) (by decide) zbu (A1 r) text ht (fun w n hw hn=> ?_) (yql r)
 match w,n,hw,hn with
 | [a,s,b,c],[k,d],_,_=>exact ysh g ev r ho a s b c k d
theorem yp2 (ev:List Evt) (r:Rgs) (ho:OkR r) (h:NmR r) (text:List UInt8) (ht:text.length<=100000):Ui E zbh [.ptr ⟨0,0,0⟩ 0 0,.agg [I 3,I 2,.fn zbv [] []],S text] (mR zaa ev r) (Aqv (z8v 3 2 (A2 r) text)) (mR zaa ev r):=by
 refine yil g ev r 3 2 (by decide) (by decide) zbv (A2 r) text ht (fun w n hw hn=> ?_) (yqm ho h)
 match n,hn with
 | [k,d],_=>exact ysi g ev r ho h.sr w k d
theorem yp3 (ev:List Evt) (r:Rgs) (ho:OkR r) (h:NmR r) (text:List UInt8) (ht:text.length<=100000):Ui E zbh [.ptr ⟨0,0,0⟩ 0 0,.agg [I 2,I 1,.fn zbw [] []],S text] (mR zaa ev r) (Aqv (z8v 2 1 (A3 r) text)) (mR zaa ev r):=by
 refine yil g ev r 2 1 (by decide) (by decide) zbw (A3 r) text ht (fun w n hw hn=> ?_) (yqn ho h)
 match n,hn with
 | [k],_=>exact ysj g ev r ho w k
theorem yp4 (ev:List Evt) (r:Rgs) (ho:OkR r) (h:NmR r) (text:List UInt8) (ht:text.length<=100000):Ui E zbh [.ptr ⟨0,0,0⟩ 0 0,.agg [I 2,I 0,.fn zbx [] []],S text] (mR zaa ev r) (Aqv (z8v 2 0 (A4 r) text)) (mR zaa ev r):=by
 refine yil g ev r 2 0 (by decide) (by decide) zbx (A4 r) text ht (fun w n hw hn=> ?_) (yqo ho h)
 match w,n,hw,hn with
 | [a,s],[],_,_=>exact ysk g ev r ho a s
theorem yp5 (ev:List Evt) (r:Rgs) (ho:OkR r) (h:NmR r) (text:List UInt8) (ht:text.length<=100000):Ui E zbh [.ptr ⟨0,0,0⟩ 0 0,.agg [I 1,I 0,.fn zce [] []],S text] (mR zaa ev r) (Aqv (z8v 1 0 (A5 r) text)) (mR zaa ev r):=by
 refine yil g ev r 1 0 (by decide) (by decide) zce (A5 r) text ht (fun w n hw hn=> ?_) (yqp ho h)
 exact ysl g ev r ho w n
end
def yp9 (l:List (List UInt8)):List UInt8:=if l=[] then [110,111,110,101] else zfw 32 l
theorem z83 (l:List (List UInt8)):ymc (l,0)=(yp9 l,0):=by
 unfold ymc yp9
 rw [if_neg (fun h=>h rfl)]
 by_cases h:l=[]
 ·rw [if_pos h,if_pos h]
 ·rw [if_neg h,if_neg h]
def ymg (r:Rgs) (t:List UInt8):List UInt8×Int:=
 if hdW t=yf8 then z8v 4 2 (A1 r) t
 else if hdW t=z8y then z8v 3 2 (A2 r) t
 else if hdW t=zgv then z8v 2 1 (A3 r) t
 else if hdW t=z61 then z8v 2 0 (A4 r) t
 else if hdW t=zzf then z8v 1 0 (A5 r) t
 else([],13)
theorem yqz {b c:List UInt8} (hb:zl6 b=true) (hc:zl6 c=true):zmr [b,c]=[zs3 b,zs3 c]:=by
 simp [zmr,(zkn b).2 hb,(zkn c).2 hc]
theorem yqy {b:List UInt8} (hb:zl6 b=true):zmr [b]=[zs3 b]:=by
 simp [zmr,(zkn b).2 hb]
theorem yf5 {b:List UInt8} (h:zl6 b=true):b≠[]:=by
 rintro rfl
 exact absurd h (by decide)
section
variable {E : Oracle} (g : Good E)
include g
theorem yim (ev:List Evt) (r:Rgs) (text:List UInt8) (hl:text.length<=4096) (hne:text≠[]) (nm:List UInt8) (hnm:hdW text=nm) (W Iq:Int) (f:Nat) (a:List UInt8×Int)
  (hf:zp9 (.str nm) qsM=some (some (.agg [I W,I Iq,.fn f [] []])))
  (hu:Ui E zbh [.ptr ⟨0,0,0⟩ 0 0,.agg [I W,I Iq,.fn f [] []],S text] (mR zaa ev r) (Aqv a) (mR zaa ev r)):
  Ui E zai [.ptr ⟨0,0,0⟩ 0 0,S text] (mR zaa ev r) (Aqv a) (mR zaa ev r):=by
 refine⟨?_⟩
 obtain⟨q,b,hcut⟩:=yhu g text (by omega)
 rw [hnm] at hcut
 obtain⟨a1,a2⟩:=a
 have hpos:0<text.length:=List.length_pos_iff.2 hne
 refine In.enter (f:=zai) g.lim rfl rfl ?_
 repeat' ((conv=>whnf);first
 | refine Yz ?_
  | (apply zak.of;assumption)
  | (refine zak.of (zf0 g _ _) ?_)
  | (refine zak.of (zd6 g _ _) ?_)
  | (refine zcf.questions g rfl ?_)
  | (refine Cmp.ff hne ?_)
  | (refine zof.mk ⟨_,hf,?_⟩)
  | (refine zog.ofI (r':=Aqv (a1,a2)) isR rfl rfl rfl rfl hu rfl rfl rfl rfl ?_)
  | (exact⟨rfl,rfl,rfl,rfl,rfl,rfl,trivial⟩)
  | fail)
end
def zxa (p:Evt) (n:Nat):Evt:=⟨(n:Int)+1,p.ki,p.ns,p.vs,p.tx⟩
def yey (r:Rgs) (n:Nat) (o:Option Evt):Int:=
 if za1 [if !o.isSome then 25 else 0,if 1000<=n then 5 else 0]≠0 then za1 [if !o.isSome then 25 else 0,if 1000<=n then 5 else 0]
 else if zhy (zxa (o.getD noE) n)≠0 then zhy (zxa (o.getD noE) n) else z5t r n (zxa (o.getD noE) n)
def yfj (n:Nat):List UInt8:=[100,111,110,101,32]++zaw 20 (n+1)
section
variable {E : Oracle} (g : Good E)
include g
theorem yrd (ev:List Evt) (r:Rgs):Ui E zai [.ptr ⟨0,0,0⟩ 0 0,S []] (mR zaa ev r) (Aqv ([],25)) (mR zaa ev r):=by
 refine⟨?_⟩
 refine In.enter (f:=zai) g.lim rfl rfl ?_
 repeat' ((conv=>whnf);first
 | refine Yz ?_
  | (apply zak.of;assumption)
  | (refine zak.of (zf0 g _ _) ?_)
  | (refine zak.of (zd6 g _ _) ?_)
  | (exact⟨rfl,rfl,rfl,rfl,rfl,rfl,trivial⟩)
  | fail)
theorem yrc (ev:List Evt) (r:Rgs) (text:List UInt8) (hl:text.length<=4096) (hne:text≠[]) (hq:zp9 (.str (hdW text)) qsM=some none) (hk:zev (hdW text)=false):Ui E zai [.ptr ⟨0,0,0⟩ 0 0,S text] (mR zaa ev r) (Aqv ([],13)) (mR zaa ev r):=by
 refine⟨?_⟩
 obtain⟨q,b,hcut⟩:=yhu g text (by omega)
 have hfk:=yo8 hk
 generalize hdW text=nm at *
 have hpos:0<text.length:=List.length_pos_iff.2 hne
 refine In.enter (f:=zai) g.lim rfl rfl ?_
 repeat' ((conv=>whnf);first
 | refine Yz ?_
  | (apply zak.of;assumption)
  | (refine zak.of (zf0 g _ _) ?_)
  | (refine zak.of (zd6 g _ _) ?_)
  | (refine zcf.questions g rfl ?_)
  | (refine zcf.kinds g rfl ?_)
  | (refine Cmp.ff hne ?_)
  | (refine zof.mk ⟨_,hq,?_⟩)
  | (refine zof.mk ⟨_,hfk,?_⟩)
  | (exact⟨rfl,rfl,rfl,rfl,rfl,rfl,trivial⟩)
  | fail)
theorem yrb (ev:List Evt) (r:Rgs) (ho:OkR r) (hrs:r.rs.length<1000) (hev:ev.length<=1000) (text:List UInt8) (hl:text.length<=4096) (hne:text≠[]) (hq:zp9 (.str (hdW text)) qsM=some none) (hk:zev (hdW text)=true)
  (hb:((zqz text).getD noE).ns.length<=1000000/\((zqz text).getD noE).vs.length<=1000000):
  Ui E zai [.ptr ⟨0,0,0⟩ 0 0,S text] (mR zaa ev r) (if yey r ev.length (zqz text)=0 then Aqv (yfj ev.length,0) else Aqv ([],yey r ev.length (zqz text)))
   (if yey r ev.length (zqz text)=0 then mR zaa (ev++[zxa ((zqz text).getD noE) ev.length]) (zph r (zxa ((zqz text).getD noE) ev.length)) else mR zaa ev r):=by
 refine⟨?_⟩
 obtain⟨q,b,hcut⟩:=yhu g text (by omega)
 obtain⟨fa,fb,hfk⟩:=yga hk
 have hps:=yai g text (by omega)
 change Fc E zfm [S text] (.tup [Evv ((zqz text).getD noE),B (zqz text).isSome]) at hps
 generalize hdW text=nm at *
 have hpos:0<text.length:=List.length_pos_iff.2 hne
 generalize zqz text=o at *
 cases o with
 | none=>
  have hbd:yey r ev.length none=25:=rfl
  rw [hbd,if_neg (show ¬(25:Int)=0 by decide),if_neg (show ¬(25:Int)=0 by decide)]
  change Fc E zfm [S text] (.tup [.d (.agg [DI 0,.str [],.list 0 [],.list 0 [],.str []]),B false]) at hps
  by_cases hfull:1000<=ev.length
  ·refine In.enter (f:=zai) g.lim rfl rfl ?_
   repeat' ((conv=>whnf);first
   | refine Yz ?_
    | (apply zak.of;assumption)
    | (refine zak.of (zf0 g _ _) ?_)
    | (refine zak.of (zd6 g _ _) ?_)
    | (refine zcf.questions g rfl ?_)
    | (refine zcf.kinds g rfl ?_)
    | (refine Cmp.ff hne ?_)
    | (refine zof.mk ⟨_,hq,?_⟩)
    | (refine zof.mk ⟨_,hfk,?_⟩)
    | (exact⟨rfl,rfl,rfl,rfl,rfl,rfl,trivial⟩)
    | fail)
  ·refine In.enter (f:=zai) g.lim rfl rfl ?_
   repeat' ((conv=>whnf);first
   | refine Yz ?_
    | (apply zak.of;assumption)
    | (refine zak.of (zf0 g _ _) ?_)
    | (refine zak.of (zd6 g _ _) ?_)
    | (refine zcf.questions g rfl ?_)
    | (refine zcf.kinds g rfl ?_)
    | (refine Cmp.ff hne ?_)
    | (refine zof.mk ⟨_,hq,?_⟩)
    | (refine zof.mk ⟨_,hfk,?_⟩)
    | (exact⟨rfl,rfl,rfl,rfl,rfl,rfl,trivial⟩)
    | fail)
 | some p=>
 change p.ns.length<=1000000/\p.vs.length<=1000000 at hb
 have hce:=znb g (zxa p ev.length) hb.1 hb.2
 have hqa:=fun hc=>z7o g zaa ev r ho (zxa p ev.length) hc (by omega)
 have hua:=fun hs=>yra g zaa ev r ho hrs (zxa p ev.length) hs hev
 have hit:=z25 g ((ev.length:Int)+1) (by omega)
 have hdl:=zm0 20 ((ev.length:Int)+1).toNat
 have hmx:zlc=9223372036854775807:=rfl
 have hst:zhy (zxa p ev.length)=0->zh8 r ev.length (zxa p ev.length)=z5t r ev.length (zxa p ev.length):=fun h=>by rw [zh8,if_neg (fun hn=>hn h)]
 have hbe:yey r ev.length (some p)=if za1 [0,if 1000<=ev.length then 5 else 0]≠0 then za1 [0,if 1000<=ev.length then 5 else 0] else if zhy (zxa p ev.length)≠0 then zhy (zxa p ev.length) else z5t r ev.length (zxa p ev.length):=rfl
 have hgd:(some p).getD noE=p:=rfl
 rw [hgd]
 have hdt:Aqv (yfj ev.length,0)= .tup [S ([100,111,110,101,32]++zaw 20 ((ev.length:Int)+1).toNat),I 0]:=rfl
 rw [hdt]
 generalize hbb:yey r ev.length (some p)=bb at *
 obtain⟨nu,ki,ns,vs,tx⟩:=p
 change Fc E zfm [S text] (.tup [.d (.agg [DI nu,.str ki,.list ns.length (ns.map D.str),.list vs.length (vs.map DI),.str tx]),B true]) at hps
 change Fc E zcm [.d (.agg [DI ((ev.length:Int)+1),.str ki,.list ns.length (ns.map D.str),.list vs.length (vs.map DI),.str tx])] _ at hce
 change ∀hc,Qs E zar [.ptr ⟨0,0,0⟩ 0 0,.d (.agg [DI ((ev.length:Int)+1),.str ki,.list ns.length (ns.map D.str),.list vs.length (vs.map DI),.str tx])] _ _ at hqa
 change ∀hs,Us E zah [.ptr ⟨0,0,0⟩ 0 0,.d (.agg [DI ((ev.length:Int)+1),.str ki,.list ns.length (ns.map D.str),.list vs.length (vs.map DI),.str tx])] _ _ _ at hua
 by_cases hfull:1000<=ev.length
 ·have hbd:bb=5:=by rw [hbe,if_pos hfull];rfl
  clear hbe hbb
  subst hbd
  rw [if_neg (show ¬(5:Int)=0 by decide),if_neg (show ¬(5:Int)=0 by decide)]
  refine In.enter (f:=zai) g.lim rfl rfl ?_
  repeat' ((conv=>whnf);first
  | refine Yz ?_
   | (apply zak.of;assumption)
   | (refine zak.of (zf0 g _ _) ?_)
   | (refine zak.of (zd6 g _ _) ?_)
   | (refine zcf.questions g rfl ?_)
   | (refine zcf.kinds g rfl ?_)
   | (refine Cmp.ff hne ?_)
   | (refine zof.mk ⟨_,hq,?_⟩)
   | (refine zof.mk ⟨_,hfk,?_⟩)
   | (exact⟨rfl,rfl,rfl,rfl,rfl,rfl,trivial⟩)
   | fail)
 rw [if_neg hfull,if_neg (show ¬za1 [0,0]≠0 by decide)] at hbe
 generalize zxa ⟨nu,ki,ns,vs,tx⟩ ev.length=e' at *
 by_cases hc:zhy e'=0
 ·rw [hc,if_neg (fun h=>h rfl)] at hbe
  rw [hc] at hce
  have hqa:=hqa hc
  rw [<-hbe] at hqa
  have hst:=hst hc
  clear hbb
  by_cases ha:bb=0
  ·rw [if_pos ha,if_pos ha]
   have hua:=hua (hst.trans (hbe.symm.trans ha))
   rw [ha] at hqa
   refine In.enter (f:=zai) g.lim rfl rfl ?_
   repeat' ((conv=>whnf);first
   | refine Yz ?_
    | (apply zak.of;assumption)
    | (refine zak.of (zf0 g _ _) ?_)
    | (refine zak.of (zd6 g _ _) ?_)
    | (refine zcf.questions g rfl ?_)
    | (refine zcf.kinds g rfl ?_)
    | (refine Cmp.ff hne ?_)
    | (refine zof.mk ⟨_,hq,?_⟩)
    | (refine zof.mk ⟨_,hfk,?_⟩)
    | (refine zjh.of (r':=I 0) isR rfl rfl rfl rfl hqa rfl rfl rfl ?_)
    | (refine zco.mk (by rw [hmx];simp only [List.length_cons,List.length_nil];omega) ?_)
    | (refine zog.of (r':= .tup []) isR rfl rfl rfl rfl hua rfl rfl rfl ?_)
    | (refine Cmp.ff (fun h=>h rfl) ?_)
    | (exact⟨rfl,rfl,rfl,rfl,rfl,rfl,trivial⟩)
    | fail)
  ·rw [if_neg ha,if_neg ha]
   refine In.enter (f:=zai) g.lim rfl rfl ?_
   repeat' ((conv=>whnf);first
   | refine Yz ?_
    | (apply zak.of;assumption)
    | (refine zak.of (zf0 g _ _) ?_)
    | (refine zak.of (zd6 g _ _) ?_)
    | (refine zcf.questions g rfl ?_)
    | (refine zcf.kinds g rfl ?_)
    | (refine Cmp.ff hne ?_)
    | (refine zof.mk ⟨_,hq,?_⟩)
    | (refine zof.mk ⟨_,hfk,?_⟩)
    | (refine zjh.of (r':=I bb) isR rfl rfl rfl rfl hqa rfl rfl rfl ?_)
    | (refine Cmp.tt ha ?_)
    | (exact⟨rfl,rfl,rfl,rfl,rfl,rfl,trivial⟩)
    | fail)
 ·rw [if_pos hc] at hbe
  rw [<-hbe] at hce hc
  clear hbb
  rw [if_neg hc,if_neg hc]
  refine In.enter (f:=zai) g.lim rfl rfl ?_
  repeat' ((conv=>whnf);first
  | refine Yz ?_
   | (apply zak.of;assumption)
   | (refine zak.of (zf0 g _ _) ?_)
   | (refine zak.of (zd6 g _ _) ?_)
   | (refine zcf.questions g rfl ?_)
   | (refine zcf.kinds g rfl ?_)
   | (refine Cmp.ff hne ?_)
   | (refine zof.mk ⟨_,hq,?_⟩)
   | (refine zof.mk ⟨_,hfk,?_⟩)
   | (refine Cmp.tt hc ?_)
   | (refine Cmp.ff hc ?_)
   | (exact⟨rfl,rfl,rfl,rfl,rfl,rfl,trivial⟩)
   | fail)
end
def yfi (l:List Evt) (t:List UInt8):(List UInt8×Int)×List Evt:=
 if t=[] then(([],25),l)
 else if zev (hdW t)=false then(ymg (rgL l) t,l)
 else if yey (rgL l) l.length (zqz t)=0 then((yfj l.length,0),l++[zxa ((zqz t).getD noE) l.length])
 else(([],yey (rgL l) l.length (zqz t)),l)
theorem yfb (r:Rgs) (n:Nat):yey r n none=25:=rfl
theorem z5x {r:Rgs} {n:Nat} (hn:n<1000) (p:Evt):yey r n (some p)=if zhy (zxa p n)≠0 then zhy (zxa p n) else z5t r n (zxa p n):=by
 unfold yey
 rw [if_neg (show ¬ 1000<=n by omega)]
 rfl
theorem ynn {t:List UInt8}:((zqz t).getD noE).ns.length<=3/\((zqz t).getD noE).vs.length<=4:=by
 cases h:zqz t with
 | none=>exact⟨by decide,by decide⟩
 | some p=>
  unfold zqz at h
  split at h
  ·cases h
  ·rename_i k r hp
   split at h
   ·obtain rfl:=Option.some.inj h
    rename_i hok
    have ⟨g1,g2⟩:=zsr k
    unfold z5p at hok
    simp only [Bool.and_eq_true,decide_eq_true_eq] at hok
    have:=hok.1.1.2
    unfold evW
    simp only [Option.getD_some,List.length_take,List.length_map,List.length_drop]
    omega
   ·cases h
section
variable {E : Oracle} (g : Good E)
include g
theorem z0h (l:List Evt) (hl:l.length<999) (hz:erL l=0) (hnm:NmR (rgL l)) (hrs:(rgL l).rs.length<1000) (text:List UInt8) (ht:text.length<=4096):
  Ui E zai [.ptr ⟨0,0,0⟩ 0 0,S text] (mR zaa l (rgL l)) (Aqv (yfi l text).1) (mR zaa (yfi l text).2 (rgL (yfi l text).2)):=by
 have ho:=ypv (by omega) hz
 unfold yfi
 by_cases hne:text=[]
 ·subst hne
  rw [if_pos rfl]
  exact yrd g l (rgL l)
 rw [if_neg hne]
 cases hk:zev (hdW text) with
 | false=>
  rw [if_pos rfl]
  show Ui E _ _ _ (Aqv (ymg (rgL l) text)) _
  unfold ymg
  by_cases h1:hdW text=yf8
  ·rw [if_pos h1]
   exact yim g l (rgL l) text ht hne yf8 h1 4 2 zbu _ rfl (yp1 g l (rgL l) ho text (by omega))
  rw [if_neg h1]
  by_cases h2:hdW text=z8y
  ·rw [if_pos h2]
   exact yim g l (rgL l) text ht hne z8y h2 3 2 zbv _ rfl (yp2 g l (rgL l) ho hnm text (by omega))
  rw [if_neg h2]
  by_cases h3:hdW text=zgv
  ·rw [if_pos h3]
   exact yim g l (rgL l) text ht hne zgv h3 2 1 zbw _ rfl (yp3 g l (rgL l) ho hnm text (by omega))
  rw [if_neg h3]
  by_cases h4:hdW text=z61
  ·rw [if_pos h4]
   exact yim g l (rgL l) text ht hne z61 h4 2 0 zbx _ rfl (yp4 g l (rgL l) ho hnm text (by omega))
  rw [if_neg h4]
  by_cases h5:hdW text=zzf
  ·rw [if_pos h5]
   exact yim g l (rgL l) text ht hne zzf h5 1 0 zce _ rfl (yp5 g l (rgL l) ho hnm text (by omega))
  rw [if_neg h5]
  exact yrc g l (rgL l) text ht hne (yhd ⟨h1,h2,h3,h4,h5⟩) hk
 | true=>
  rw [if_neg (by decide)]
  have hq:zp9 (.str (hdW text)) qsM=some none:=by
   refine yhd ⟨?_,?_,?_,?_,?_⟩<;>intro h<;>rw [h] at hk<;>exact absurd hk (by decide)
  obtain⟨b1,b2⟩:=ynn (t:=text)
  have h:=yrb g l (rgL l) ho hrs (by omega) text ht hne hq hk ⟨Nat.le_trans b1 (by decide),Nat.le_trans b2 (by decide)⟩
  by_cases hb0:yey (rgL l) l.length (zqz text)=0
  ·rw [if_pos hb0,if_pos hb0] at h
   rw [if_pos hb0]
   have hr:rgL (l++[zxa ((zqz text).getD noE) l.length])=zph (rgL l) (zxa ((zqz text).getD noE) l.length):=by
    cases hpe:zqz text with
    | none=>rw [hpe,yfb] at hb0;exact absurd hb0 (by decide)
    | some p=>
     rw [hpe,z5x (by omega)] at hb0
     have hst:zh8 (rgL l) l.length (zxa p l.length)=0:=hb0
     unfold rgL
     rw [zuj,if_neg (show ¬(zfc rg0 0 l).2.2≠0 from fun h=>h hz),Nat.zero_add]
     show (zfc (rgL l) l.length [zxa p l.length]).1=_
     rw [zhq,if_neg (fun h=>h hst)]
     rfl
   rw [hr]
   exact h
  ·rw [if_neg hb0,if_neg hb0] at h
   rw [if_neg hb0]
   exact h
end
def z23 (l:List Evt) (at0:Nat):List (List UInt8)->List Evt×Nat×Int
 | []=>(l,at0,0)
 | p::r=>if zkw p=false then(l,at0,28) else if z09 (z9e p) l.length≠0 then(l,at0,z09 (z9e p) l.length) else z23 (l++[(zuw (z9e p)).1]) (at0+p.length) r
def zv5 (s:List UInt8):List Evt×Nat×Int:=if 1000000<s.length then([],0,26) else z23 [] 0 (pcs s)
abbrev RcV (o:List Evt×Nat×Int):V:= .tup [LE o.1,I (o.2.1:Nat),I o.2.2]
theorem zz2 {l:List Evt} {i:Nat} {s:List UInt8} (h:s≠[]) (hn:(10:UInt8)∉s):z23 l i (pcs s)=(l,i,28):=by
 have hw:zkw s=false:=decide_eq_false fun e=>by
  obtain⟨t,e⟩:=List.getLast?_eq_some_iff.1 e
  exact hn (by rw [e];simp)
 rw [yac s h hn,z23,if_pos hw]
theorem zmf {l:List Evt} {i:Nat} {a r:List UInt8} (hn:(10:UInt8)∉a):z23 l i (pcs (a++10::r))=if z09 a l.length≠0 then(l,i,z09 a l.length) else z23 (l++[(zuw a).1]) (i+(a.length+1)) (pcs r):=by
 rw [yg9 a r hn,z23,(zxx _).1,(zxx _).2,if_neg (by decide)]
 simp
theorem ynw {s:List UInt8} {b:Int} (h:z09 s b=0):(zuw s).2=0/\(zuw s).1.nu=b+1:=by
 unfold z09 at h
 split at h
 ·rename_i h1;exact absurd h h1
 ·rename_i h1
  split at h
  ·cases h
  ·rename_i h2
   exact⟨Classical.not_not.1 h1,Classical.not_not.1 h2⟩
theorem yfv {k:List UInt8} (h:zev k=true):1<=zc8 k/\1<=zjx k:=by
 rcases zir k with rfl|rfl|rfl|rfl|rfl|rfl|⟨h1,h2,h3,h4,h5,h6⟩
 all_goals (try (exact⟨by decide,by decide⟩))
 exfalso
 unfold zev at h
 simp only [Bool.or_eq_true,decide_eq_true_eq] at h
 rcases h with((((h|h)|h)|h)|h)|h
 ·exact h1 h
 ·exact h2 h
 ·exact h3 h
 ·exact h4 h
 ·exact h5 h
 ·exact h6 h
theorem ybm {s:List UInt8} (h:zl6 s=true):ze8 (zs3 s)=s:=by
 unfold zl6 at h
 unfold zs3
 cases hn:z90 s with
 | none=>rw [hn] at h;cases h
 | some n=>exact z7c hn
theorem ygz {k:List UInt8} {r:List (List UInt8)} (h:z5p k r=true):zev k=true/\r.length=zc8 k+zjx k/\∀x∈r.drop (zc8 k),zl6 x=true:=by
 unfold z5p at h
 simp only [Bool.and_eq_true,decide_eq_true_eq] at h
 exact⟨h.1.1.1,h.1.1.2,List.all_eq_true.1 h.2⟩
theorem yg5 {s:List UInt8} {e:Evt} (h:zqz s=some e):zi0 e=s:=by
 unfold zqz at h
 split at h
 ·cases h
 ·rename_i k r hp
  split at h
  ·rename_i hok
   obtain rfl:=Option.some.inj h
   obtain⟨_,_,h3⟩:=ygz hok
   unfold zi0 evW
   have e1:((r.drop (zc8 k)).map zs3).map ze8=r.drop (zc8 k):=by
    rw [List.map_map]
    conv=>rhs;rw [<-List.map_id (r.drop (zc8 k))]
    exact List.map_congr_left fun x hx=>ybm (h3 x hx)
   show zfw 32 (k::r.take (zc8 k)++((r.drop (zc8 k)).map zs3).map ze8)=s
   rw [e1,List.cons_append,List.take_append_drop,<-hp]
   exact zwk 32 s
  ·cases h
theorem yg6 {s:List UInt8} {e:Evt} (h:zqz s=some e):(1<=e.ns.length/\e.ns.length<=3)/\(1<=e.vs.length/\e.vs.length<=4)/\∀x∈e.vs,0<=x/\x<=999999999:=by
 unfold zqz at h
 split at h
 ·cases h
 ·rename_i k r hp
  split at h
  ·rename_i hok
   obtain rfl:=Option.some.inj h
   obtain⟨h1,h2,h3⟩:=ygz hok
   have ⟨f1,f2⟩:=yfv h1
   have ⟨g1,g2⟩:=zsr k
   unfold evW
   dsimp only
   rw [List.length_take,List.length_map,List.length_drop]
   refine⟨by omega,by omega,fun x hx=> ?_⟩
   obtain⟨y,_,rfl⟩:=List.mem_map.1 hx
   exact yf4 y
  ·cases h
theorem yep {t:List UInt8} {e:Evt} (h:z1h t=some e):znf e=t/\zhy e=0/\(t.length<=1000000->PrE e):=by
 rcases z3c t with⟨_,_,ht⟩|⟨n,r,_,hth,_,ht⟩
 ·rw [ht] at h;cases h
 ·rw [ht] at h
  split at h
  ·rename_i hi
   split at h
   ·rename_i e' hp
    split at h
    ·rename_i hc
     obtain rfl:=Option.some.inj h
     have hb:=yg5 hp
     obtain⟨p1,p2,p3⟩:=yg6 hp
     have ht':znf {e' with nu:=zs3 n}=t:=by
      unfold znf
      show ze8 (zs3 n)++32::zi0 e'=t
      rw [hb,ybm hi,hth]
     exact⟨ht',hc,fun hl=>⟨yf4 n,⟨p1.1,by show e'.ns.length<=1000;omega⟩,⟨p2.1,by show e'.vs.length<=1000;omega⟩,p3,by rw [ht'];exact hl⟩⟩
    ·cases h
   ·cases h
  ·cases h
theorem yhj {s:List UInt8} (h:(zuw s).2=0):zcr (zuw s).1=s/\zhy (zuw s).1=0/\(s.length<=1000000->PrE (zuw s).1):=by
 by_cases h8:s.length<8
 ·rw [z22 h8] at h;cases h
 ·obtain⟨t,x,c,rfl,h7⟩:=ylm (Nat.le_of_not_lt h8)
  have hE:=zo4 (t:=t) (x:=x) h7
  split at hE
  ·rw [hE] at h;cases h
  ·rename_i hx
   split at hE
   ·rw [hE] at h;cases h
   ·rename_i hc
    rw [hE] at h ⊢
    cases ht:z1h t with
    | none=>rw [ht] at h;cases h
    | some e=>
     obtain⟨b1,b2,b3⟩:=yep ht
     have hx':x=35:=Classical.byContradiction fun e=>hx (.inl e)
     have hc':c=z8n t:=Classical.not_not.1 hc
     refine⟨?_,b2,fun hl=>b3 ?_⟩
     ·show zcr e=_
      unfold zcr
      rw [b1,hx',hc']
     ·rw [List.length_append] at hl;omega
theorem zxj (a b:List Evt):zbl (a++b)=zbl a++zbl b:=List.flatMap_append ..
theorem z4o (e:Evt):zbl [e]=zcr e++[10]:=by unfold zbl;simp
theorem zz1:∀(n:Nat) (s:List UInt8),s.length<=n->n<=1000000->∀(l0:List Evt) (i:Nat) (l:List Evt) (j:Nat) (x:Int),z23 l0 i (pcs s)=(l,j,x)->(∀e∈l0,PrE e/\zhy e=0)->
  (∀e∈l,PrE e/\zhy e=0)/\l0.length<=l.length/\l.length<=l0.length+s.length/\(x=0->zbl l=zbl l0++s)
 | 0,s,hs,_,l0,i,l,j,x,h,h0=>by
  obtain rfl:=List.length_eq_zero_iff.1 (Nat.le_zero.1 hs)
  rw [zzv,z23] at h
  obtain⟨rfl,_,rfl⟩:l0=l/\i=j/\(0:Int)=x:=by simpa using h
  exact⟨h0,Nat.le_refl _,by simp,fun _=>by simp⟩
 | n+1,s,hs,hn,l0,i,l,j,x,h,h0=>by
  by_cases he:s=[]
  ·exact zz1 0 s (by rw [he];simp) (by omega) l0 i l j x h h0
  ·rcases z7l s he with⟨hnl,hp⟩|⟨a,r,hnl,rfl,hp⟩
   ·rw [zz2 he hnl] at h
    obtain⟨rfl,_,rfl⟩:l0=l/\i=j/\(28:Int)=x:=by simpa using h
    exact⟨h0,Nat.le_refl _,by omega,fun h=>by cases h⟩
   ·have hlen:(a++10::r).length=a.length+(r.length+1):=by simp
    rw [zmf hnl] at h
    split at h
    ·rename_i hz
     obtain⟨rfl,_,rfl⟩:l0=l/\i=j/\z09 a l0.length=x:=by simpa using h
     exact⟨h0,Nat.le_refl _,by omega,fun h=>absurd h hz⟩
    ·rename_i hz
     obtain⟨z1,z2⟩:=ynw (Classical.not_not.1 hz)
     obtain⟨b1,b2,b3⟩:=yhj z1
     have ih:=zz1 n r (by omega) (by omega) _ _ _ _ _ h (fun e hm=>by
      rcases List.mem_append.1 hm with hm|hm
      ·exact h0 e hm
      ·rw [List.mem_singleton] at hm
       subst hm
       exact⟨b3 (by omega),b2⟩)
     rw [List.length_append,List.length_singleton] at ih
     obtain⟨i1,i2,i3,i4⟩:=ih
     refine⟨i1,by omega,by omega,fun hx=> ?_⟩
     rw [i4 hx,zxj,z4o,b1]
     simp
theorem yhk {s:List UInt8} (hs:s.length<=1000000):(∀e∈(zv5 s).1,PrE e/\zhy e=0)/\(zv5 s).1.length<=s.length/\((zv5 s).2.2=0->zbl (zv5 s).1=s):=by
 unfold zv5
 rw [if_neg (by omega)]
 obtain⟨h1,_,h3,h4⟩:=zz1 s.length s (Nat.le_refl _) hs [] 0 _ _ _ rfl (fun e h=>absurd h List.not_mem_nil)
 exact⟨h1,by simpa using h3,fun h=>by simpa [zbl] using h4 h⟩
theorem z0d {l:List (List UInt8)} {m:Nat} (h:∀x∈l,x.length<=m):(zmh l).length<=l.length*(m+1):=by
 induction l with
 | nil=>simp [zmh]
 | cons x r ih=>
  have:=h x (by simp)
  have ih:=ih fun y hy=>h y (by simp [hy])
  unfold zmh at ih ⊢
  rw [List.flatMap_cons,List.length_append,List.length_cons,List.length_cons,Nat.succ_mul]
  omega
structure ye4 (e:Evt):Prop where
 ki:e.ki.length<=60
 ns:e.ns.length<=6
 vs:e.vs.length<=8
 na:∀x∈e.ns,x.length<=60
theorem ymo {e:Evt} (h:zhy e=0):(1<=e.nu/\e.nu<=1000)/\zev e.ki=true/\e.ns.length=zc8 e.ki/\e.vs.length=zjx e.ki/\far e.vs=false:=by
 unfold zhy at h
 rw [zgf] at h
 have h1:=h (rng e.nu 1 1000) (by simp)
 have h2:=h (if !zev e.ki then 13 else 0) (by simp)
 have h3:=h (if e.ns.length≠zc8 e.ki\/e.vs.length≠zjx e.ki then 2 else 0) (by simp)
 have h5:=h (if far e.vs then 3 else 0) (by simp)
 refine⟨?_,?_,?_,?_,?_⟩
 ·unfold rng at h1
  split at h1
  ·cases h1
  ·omega
 ·cases hk:zev e.ki with
  | true=>rfl
  | false=>rw [hk] at h2;cases h2
 ·split at h3
  ·cases h3
  ·omega
 ·split at h3
  ·cases h3
  ·omega
 ·cases hk:far e.vs with
  | false=>rfl
  | true=>rw [hk] at h5;cases h5
theorem ydb {e:Evt} (hs:ye4 e) (h:zhy e=0):PrE e/\(znf e).length<=1000:=by
 obtain⟨h1,h2,h3,h4,h5⟩:=ymo h
 have ⟨f1,f2⟩:=yfv h2
 obtain⟨s1,s2,s3,s4⟩:=hs
 have hva:∀x∈e.vs,0<=x/\x<=999999999:=fun x hx=>by
  unfold far at h5
  rw [List.any_eq_false] at h5
  have:=h5 x hx
  unfold yjm at this
  simp only [decide_eq_true_eq] at this
  omega
 have hln:(znf e).length<=1000:=by
  rw [ydl]
  have t1:=z0d s4
  have t2:(zmh (e.vs.map ze8)).length<=e.vs.length*21:=by
   have:=z0d (l:=e.vs.map ze8) (m:=20) fun x hx=>by
    obtain⟨y,_,rfl⟩:=List.mem_map.1 hx
    exact ybn y
   rwa [List.length_map] at this
  have t3:=ybn e.nu
  have t4:e.ns.length*(60+1)<=6*61:=Nat.mul_le_mul_right _ s2
  have t5:e.vs.length*21<=8*21:=Nat.mul_le_mul_right _ s3
  simp only [List.length_append,List.length_cons,List.length_nil]
  omega
 exact⟨⟨by omega,by omega,by omega,hva,by omega⟩,hln⟩
theorem yc5:∀(l:List Evt) (r:Rgs) (n:Nat),(zfc r n l).1.rs.length<=r.rs.length+l.length
 | [],r,n=>Nat.le_refl _
 | e::l,r,n=>by
  rw [zhq]
  split
  ·simp [rg0]
  ·have h1:=yc5 l (zph r e) (n+1)
   have h2:=ybc r e
   rw [List.length_cons]
   omega
theorem ylz (l:List Evt):(rgL l).rs.length<=l.length:=by
 have:=yc5 l rg0 0
 have e:(rgL l)=(zfc rg0 0 l).1:=rfl
 rw [e]
 simpa [rg0] using this
theorem yb8 {k:List UInt8} (h:zev k=true):k.length<=60:=by
 rcases zir k with rfl|rfl|rfl|rfl|rfl|rfl|⟨h1,h2,h3,h4,h5,h6⟩
 all_goals (try (exact(by decide)))
 exfalso
 unfold zev at h
 simp only [Bool.or_eq_true,decide_eq_true_eq] at h
 rcases h with((((h|h)|h)|h)|h)|h
 ·exact h1 h
 ·exact h2 h
 ·exact h3 h
 ·exact h4 h
 ·exact h5 h
 ·exact h6 h
theorem ybj {e:Evt} (h:zhy e=0):PrE e/\(znf e).length<=1000:=by
 obtain⟨a1,a2,a3,a4,_⟩:=zpa h
 have ⟨f1,f2⟩:=zsr e.ki
 exact ydb ⟨yb8 a1,by omega,by omega,fun x hx=>Nat.le_trans (z4r (a4 x hx)) (by decide)⟩ h
theorem zjv {l:List Evt} (hz:erL l=0):∀e∈l,zhy e=0:=z7v l rg0 0 hz
theorem ylq {l:List Evt} (hz:erL l=0):∀e∈l,PrE e:=fun e he=>(ybj (zjv hz e he)).1
theorem z6p {l:List Evt} (hz:erL l=0):NmR (rgL l):=yc3 l rg0 0 ypg hz
theorem yfp {l:List Evt} (hz:erL l=0):∀e∈l,e.ns.length<=1000000/\e.vs.length<=1000000:=fun e he=>by
 obtain⟨_,a2,a3,_⟩:=zpa (zjv hz e he)
 have ⟨f1,f2⟩:=zsr e.ki
 omega
theorem z9v:∀(l:List Evt),(∀e∈l,(znf e).length<=1000)->(zbl l).length<=l.length*1009
 | [],_=>by simp [zbl]
 | e::r,h=>by
  have ih:=z9v r fun x hx=>h x (List.mem_cons_of_mem _ hx)
  have h1:=h e (by simp)
  have e1:zbl (e::r)=(zcr e++[10])++zbl r:=rfl
  rw [e1,List.length_append,List.length_append,ycc,List.length_singleton,List.length_cons,Nat.succ_mul]
  omega
theorem zy3 {l:List Evt} (hl:l.length<=900) (hz:erL l=0):(zbl l).length<=1000000:=by
 have:=z9v l fun e he=>(ybj (zjv hz e he)).2
 omega
theorem z4u {n:Nat} (h:n<=9):48<=(UInt8.ofNat (48+n)).toNat/\(UInt8.ofNat (48+n)).toNat<=57:=by
 have:(UInt8.ofNat (48+n)).toNat=48+n:=by
  rw [UInt8.toNat_ofNat']
  omega
 omega
theorem z1z:∀(f u:Nat),∀b∈zaw f u,48<=b.toNat/\b.toNat<=57
 | 0,_,b,h=>by cases h
 | f+1,u,b,h=>by
  unfold zaw at h
  split at h
  ·rw [List.mem_singleton] at h
   subst h
   exact z4u (by omega)
  ·rcases List.mem_append.1 h with h|h
   ·exact z1z f _ b h
   ·rw [List.mem_singleton] at h
    subst h
    exact z4u (by omega)
theorem z5l:∀(k:Nat) (n:Int),∀b∈zs2 k n,48<=b.toNat/\b.toNat<=57
 | 0,_,b,h=>by cases h
 | k+1,n,b,h=>by
  unfold zs2 at h
  rcases List.mem_append.1 h with h|h
  ·exact z5l k _ b h
  ·rw [List.mem_singleton] at h
   subst h
   exact z4u (by omega)
theorem zvx {b:UInt8} (hb:b.toNat<48) (n:Int):b∉ze8 n:=fun h=>by
 have:=z1z 20 n.toNat b h
 omega
theorem yj7 {b:UInt8} (hb:b.toNat<48) {s:List UInt8} (h:zcj s=true):b∉s:=fun hm=>by
 obtain⟨_,_,h3⟩:=of_decide_eq_true h
 obtain⟨i,hi,e⟩:=List.mem_iff_getElem.1 hm
 have:=h3 i hi
 have e2:s.getD i 0=b:=by simp [List.getD,hi,e]
 rw [e2] at this
 unfold z8z at this
 omega
theorem yj6 {b:UInt8} (hb:b.toNat<48) {k:List UInt8} (h:zev k=true):b∉k:=by
 have key:∀k':List UInt8,(k'.all fun c=>decide (48<=c.toNat))=true->b∉k':=fun k' hk hm=>by
  have:=List.all_eq_true.1 hk b hm
  simp only [decide_eq_true_eq] at this
  omega
 rcases zir k with rfl|rfl|rfl|rfl|rfl|rfl|⟨h1,h2,h3,h4,h5,h6⟩
 all_goals (try (exact key _ (by decide)))
 exfalso
 unfold zev at h
 simp only [Bool.or_eq_true,decide_eq_true_eq] at h
 rcases h with((((h|h)|h)|h)|h)|h
 ·exact h1 h
 ·exact h2 h
 ·exact h3 h
 ·exact h4 h
 ·exact h5 h
 ·exact h6 h
theorem z7d {b:UInt8} (hb:b.toNat<48) {e:Evt} (h:zhy e=0):∀w∈e.ki::(e.ns++e.vs.map ze8),b∉w:=fun w hw=>by
 obtain⟨a1,_,_,a4,_⟩:=zpa h
 rcases List.mem_cons.1 hw with rfl|hw
 ·exact yj6 hb a1
 ·rcases List.mem_append.1 hw with hw|hw
  ·exact yj7 hb (a4 w hw)
  ·obtain⟨n,_,rfl⟩:=List.mem_map.1 hw
   exact zvx hb n
theorem z2o {b c:UInt8} (hbc:b≠c):∀l:List (List UInt8),(∀w∈l,b∉w)->b∉zfw c l
 | [],_=>List.not_mem_nil
 | [x],h=>h x (by simp)
 | x::y::r,h=>by
  have ih:=z2o hbc (y::r) fun w hw=>h w (List.mem_cons_of_mem _ hw)
  simp only [zfw,List.mem_append,List.mem_cons,not_or]
  exact⟨h x (by simp),hbc,ih⟩
theorem zlv {n:Int} (h:0<=n/\n<=999999999):zl6 (ze8 n)=true/\zs3 (ze8 n)=n:=by
 have:=zzm h
 obtain⟨h1,h2⟩:=ym4 this
 exact⟨h1,by rw [h2];omega⟩
theorem zv2 {e:Evt} (h:zhy e=0):parts 32 (zi0 e)=e.ki::(e.ns++e.vs.map ze8):=
 zwn 32 _ (by simp) (z7d (by decide) h)
theorem z7j {e:Evt} (h:zhy e=0):zqz (zi0 e)=some {e with nu:=0}:=by
 obtain⟨a1,a2,a3,a4,a5,a6,_⟩:=zpa h
 unfold zqz
 rw [zv2 h]
 have hok:z5p e.ki (e.ns++e.vs.map ze8)=true:=by
  unfold z5p
  rw [a1,decide_eq_true (by rw [List.length_append,List.length_map];omega),<-a2,List.drop_left' rfl]
  have e1:¬ []∈e.ns++e.vs.map ze8:=fun hm=>by
   rcases List.mem_append.1 hm with hm|hm
   ·exact ygm (a4 _ hm) rfl
   ·obtain⟨n,hn,e⟩:=List.mem_map.1 hm
    exact absurd e (zqp 19 n.toNat)
  have e2:(e.vs.map ze8).all zl6=true:=by
   rw [List.all_eq_true]
   intro x hx
   obtain⟨n,hn,rfl⟩:=List.mem_map.1 hx
   exact(zlv (a5 n hn)).1
  rw [decide_eq_false e1,e2]
  rfl
 dsimp only
 rw [if_pos hok]
 unfold evW
 rw [<-a2,List.take_left' rfl,List.drop_left' rfl,List.map_map]
 have e3:e.vs.map (zs3∘ze8)=e.vs:=by
  conv=>rhs;rw [<-List.map_id e.vs]
  exact List.map_congr_left fun n hn=>(zlv (a5 n hn)).2
 rw [e3]
 obtain⟨nu,ki,ns,vs,tx⟩:=e
 dsimp only at a6
 subst a6
 rfl
theorem yij {e:Evt} (h:zhy e=0):z1h (znf e)=some e:=by
 obtain⟨_,_,_,_,_,_,a7,a8⟩:=zpa h
 have hd:=zlv (n:=e.nu) (by omega)
 unfold z1h znf
 rw [zga 32 (zi0 e) (ze8 e.nu) (zvx (by decide) _),zv2 h]
 dsimp only
 rw [if_pos hd.1,show ze8 e.nu++32::zi0 e=(ze8 e.nu++[32])++zi0 e by simp,List.drop_left' (by simp),z7j h,hd.2]
 dsimp only
 rw [if_pos h]
theorem z8p (s:List UInt8):zwp (z8n s)=true:=by
 unfold zwp
 rw [zq2,Bool.and_eq_true]
 refine⟨rfl,?_⟩
 rw [List.all_eq_true]
 intro b hb
 exact decide_eq_true (z5l 7 _ b hb)
theorem zui {e:Evt} (h:zhy e=0):zuw (zcr e)=(e,0):=by
 unfold zcr
 rw [zo4 (zq2 _),if_neg (by rw [z8p];simp),if_neg (fun h=>h rfl),yij h]
 rfl
theorem zsv {e:Evt} (h:zhy e=0):(10:UInt8)∉zcr e:=by
 unfold zcr znf zi0
 simp only [List.mem_append,List.mem_cons,not_or]
 refine⟨⟨zvx (by decide) _,by decide,z2o (by decide) _ (z7d (by decide) h)⟩,by decide,fun hm=> ?_⟩
 have:=z5l 7 _ _ hm
 exact absurd this.1 (by decide)
def yiw:Nat->List Evt->Prop
 | _,[]=>True
 | n,e::r=>e.nu=n+1/\yiw (n+1) r
theorem z7r {e:Evt} (h:zhy e=0) (b:Int):z09 (zcr e) b=if e.nu≠b+1 then 11 else 0:=by
 unfold z09
 rw [zui h,if_neg (fun h=>h rfl)]
theorem zz0 {e:Evt} (h:zhy e=0) {b:Int} (hn:e.nu=b+1):z09 (zcr e) b=0:=by
 rw [z7r h,if_neg (fun h=>h hn)]
theorem zko (e:Evt) (r:List Evt):zbl (e::r)=(zcr e++[10])++zbl r:=rfl
theorem z7s:∀(l l0:List Evt) (i:Nat) (s:List UInt8),(∀e∈l,zhy e=0)->yiw l0.length l->z23 l0 i (pcs (zbl l++s))=z23 (l0++l) (i+(zbl l).length) (pcs s)
 | [],l0,i,s,_,_=>by simp [zbl]
 | e::r,l0,i,s,h,hn=>by
  have hc:=h e (by simp)
  have e1:zbl (e::r)++s=zcr e++10::(zbl r++s):=by rw [zko];simp
  rw [e1,zmf (zsv hc),if_neg (fun h=>h (zz0 hc hn.1)),zui hc]
  rw [z7s r (l0++[e]) _ s (fun x hx=>h x (List.mem_cons_of_mem _ hx)) (by rw [List.length_append];exact hn.2)]
  have e2:i+((zcr e).length+1)+(zbl r).length=i+(zbl (e::r)).length:=by
   rw [zko]
   simp only [List.length_append,List.length_cons,List.length_nil]
   omega
  rw [e2]
  simp
theorem zm8:∀(l:List Evt) (r:Rgs) (n:Nat),(zfc r n l).2.2=0->yiw n l
 | [],_,_,_=>trivial
 | e::l,r,n,h=>by
  rw [zhq] at h
  split at h
  ·rename_i h1;exact absurd h h1
  ·rename_i h1
   obtain⟨_,h2⟩:=zv6 (Classical.not_not.1 h1)
   exact⟨(z1m h2).1,zm8 l _ _ h⟩
theorem yj5:∀(l:List Evt) (n:Nat),yiw n l->∀k,(hk:k<l.length)->l[k].nu=n+k+1
 | [],_,_,_,hk=>absurd hk (Nat.not_lt_zero _)
 | e::r,n,h,0,_=>by
  have:=h.1
  simpa using this
 | e::r,n,h,k+1,hk=>by
  have:=yj5 r (n+1) h.2 k (by simpa using hk)
  simp only [List.getElem_cons_succ]
  omega
theorem ygq:∀(l:List Evt) (n k:Nat),yiw n l->yiw n (l.take k)
 | [],_,_,_=>by simp [yiw]
 | _::_,_,0,_=>trivial
 | e::r,n,k+1,h=>⟨h.1,ygq r (n+1) k h.2⟩
theorem z7t {l:List Evt} (hc:∀e∈l,zhy e=0) (hn:yiw 0 l) (s:List UInt8) (hl:(zbl l++s).length<=1000000):zv5 (zbl l++s)=z23 l (zbl l).length (pcs s):=by
 unfold zv5
 rw [if_neg (by omega),z7s l [] 0 s hc hn]
 simp
theorem yc0 {l:List Evt} (hl:l.length<=900) (hz:erL l=0):zv5 (zbl l)=(l,(zbl l).length,0):=by
 have:=z7t (zjv hz) (zm8 l rg0 0 hz) [] (by have:=zy3 hl hz;simpa using this)
 rw [List.append_nil,zzv,z23] at this
 exact this
theorem ztv {l:List Evt} (hz:erL l=0) (k:Nat):erL (l.take k)=0:=by
 have h:=zuj (l.take k) rg0 0 (l.drop k)
 rw [List.take_append_drop] at h
 unfold erL at hz ⊢
 by_cases h0:(zfc rg0 0 (l.take k)).2.2=0
 ·exact h0
 ·rw [if_pos h0] at h
  rw [h] at hz
  exact absurd hz h0
theorem yjl {l:List Evt} (hz:erL l=0) {k:Nat} (hk:k<l.length):zh8 (rgL (l.take k)) k l[k]=0:=by
 have h:=ztv hz (k+1)
 rw [List.take_succ_eq_append_getElem hk] at h
 have h0:(zfc rg0 0 (l.take k)).2.2=0:=ztv hz k
 unfold erL at h
 rw [zuj,if_neg (fun hn=>hn h0),Nat.zero_add,List.length_take,Nat.min_eq_left (by omega),zhq] at h
 by_cases hs:zh8 (rgL (l.take k)) k l[k]=0
 ·exact hs
 ·have hs':zh8 (zfc rg0 0 (l.take k)).1 k l[k]≠0:=hs
  rw [if_pos hs'] at h
  exact absurd h hs
theorem yjh {l:List Evt} (hl:l.length<=900) (hz:erL l=0) {k:Nat} (hk:k<l.length):yfi (l.take k) (zi0 l[k])=((yfj k,0),l.take (k+1)):=by
 have hc:=zjv hz _ (List.getElem_mem hk)
 have hs:=yjl hz hk
 have hn:=yj5 l 0 (zm8 l rg0 0 hz) k hk
 have hlk:(l.take k).length=k:=by rw [List.length_take];omega
 have hp:=zv2 hc
 have hh:hdW (zi0 l[k])=l[k].ki:=by unfold hdW;rw [hp];rfl
 have hki:=(zpa hc).1
 have hne:zi0 l[k]≠[]:=fun e=>by
  rw [e] at hh
  have:hdW []=[]:=rfl
  rw [this] at hh
  rw [<-hh] at hki
  exact absurd hki (by decide)
 have hev:zxa ({l[k] with nu:=0}:Evt) k=l[k]:=by
  have e1:((k:Nat):Int)+1=l[k].nu:=by omega
  unfold zxa
  dsimp only
  rw [e1]
 unfold yfi
 rw [if_neg hne,hh,hki,if_neg (by decide),hlk,z7j hc,z5x (by omega),hev,Option.getD_some,hev]
 have h0:(if zhy l[k]≠0 then zhy l[k] else z5t (rgL (l.take k)) k l[k])=0:=hs
 rw [h0,if_pos rfl,List.take_succ_eq_append_getElem hk]
def whE:List Evt->Nat->Nat
 | [],_=>0
 | e::r,c=>if(zcr e).length+1<=c then whE r (c-((zcr e).length+1))+1 else 0
theorem yl8:∀(l:List Evt) (c:Nat),whE l c<=l.length
 | [],_=>Nat.le_refl _
 | e::r,c=>by
  unfold whE
  split
  ·have:=yl8 r (c-((zcr e).length+1))
   rw [List.length_cons];omega
  ·exact Nat.zero_le _
theorem yip:∀(l:List Evt) (c k:Nat),k<l.length->((zbl (l.take (k+1))).length<=c↔k<whE l c)
 | [],_,_,h=>absurd h (Nat.not_lt_zero _)
 | e::r,c,0,_=>by
  have e1:zbl ((e::r).take 1)=zcr e++[10]:=by
   rw [List.take_succ_cons,List.take_zero,z4o]
  rw [e1]
  unfold whE
  simp only [List.length_append,List.length_cons,List.length_nil]
  split<;>omega
 | e::r,c,k+1,h=>by
  have ih:=yip r (c-((zcr e).length+1)) k (by simpa using h)
  rw [List.take_succ_cons,zko]
  unfold whE
  simp only [List.length_append,List.length_cons,List.length_nil]
  split
  ·constructor
   ·intro h1
    have:=ih.1 (by omega)
    omega
   ·intro h1
    have:=ih.2 (by omega)
    omega
  ·omega
theorem ycy:∀(l l0:List Evt) (i c:Nat),(∀e∈l,zhy e=0)->yiw l0.length l->∃j x,z23 l0 i (pcs ((zbl l).take c))=(l0++l.take (whE l c),j,x)/\(x=0\/x=28)
 | [],l0,i,c,_,_=>⟨i,0,by simp [zbl,zzv,z23],.inl rfl⟩
 | e::r,l0,i,c,h,hn=>by
  have hc:=h e (by simp)
  unfold whE
  by_cases hle:(zcr e).length+1<=c
  ·rw [if_pos hle]
   have e1:(zbl (e::r)).take c=zcr e++10::(zbl r).take (c-((zcr e).length+1)):=by
    rw [zko,List.take_append,List.take_of_length_le (by simp;omega)]
    simp
   rw [e1,zmf (zsv hc),if_neg (fun h=>h (zz0 hc hn.1)),zui hc]
   obtain⟨j,x,h1,h2⟩:=ycy r (l0++[e]) (i+((zcr e).length+1)) (c-((zcr e).length+1)) (fun x hx=>h x (List.mem_cons_of_mem _ hx)) (by rw [List.length_append];exact hn.2)
   refine⟨j,x,?_,h2⟩
   rw [h1,List.take_succ_cons]
   simp
  ·rw [if_neg hle]
   have e1:(zbl (e::r)).take c=(zcr e).take c:=by
    rw [zko,List.append_assoc,List.take_append_of_le_length (by omega)]
   rw [e1]
   have hno:(10:UInt8)∉(zcr e).take c:=fun hm=>zsv hc (List.mem_of_mem_take hm)
   by_cases h0:(zcr e).take c=[]
   ·rw [h0,zzv,z23]
    exact⟨i,0,by simp,.inl rfl⟩
   ·rw [zz2 h0 hno]
    exact⟨i,28,by simp,.inr rfl⟩
theorem ykh {l:List Evt} (hl:l.length<=900) (hz:erL l=0) (c:Nat):∃j x,zv5 ((zbl l).take c)=(l.take (whE l c),j,x)/\(x=0\/x=28):=by
 obtain⟨j,x,h1,h2⟩:=ycy l [] 0 c (zjv hz) (zm8 l rg0 0 hz)
 refine⟨j,x,?_,h2⟩
 unfold zv5
 have:=zy3 hl hz
 rw [if_neg (by rw [List.length_take];omega),h1,List.nil_append]
theorem yhl {l:List Evt} (hl:l.length<=900) (hz:erL l=0) {r:Nat} (hr:r+1<l.length):(zv5 (zbl (l.take r)++zbl (l.drop (r+1)))).2.2=11:=by
 have hlog:=zy3 hl hz
 have hcut:zbl l=zbl (l.take r)++(zbl [l[r]]++zbl (l.drop (r+1))):=by
  rw [<-zxj,<-zxj]
  congr 1
  rw [List.singleton_append,<-List.drop_eq_getElem_cons (by omega),List.take_append_drop]
 have hle:(zbl (l.take r)++zbl (l.drop (r+1))).length<=1000000:=by
  rw [hcut] at hlog
  simp only [List.length_append] at hlog ⊢
  omega
 have hlt:r+1<l.length:=hr
 have hc:=zjv hz _ (List.getElem_mem hlt)
 have hn:=yj5 l 0 (zm8 l rg0 0 hz) (r+1) hlt
 rw [z7t (fun e he=>zjv hz e (List.mem_of_mem_take he)) (ygq l 0 r (zm8 l rg0 0 hz)) _ hle]
 rw [List.drop_eq_getElem_cons hlt,zko]
 have e1:(zcr l[r+1]++[10])++zbl (l.drop (r+1+1))=zcr l[r+1]++10::zbl (l.drop (r+1+1)):=by simp
 rw [e1,zmf (zsv hc),z7r hc]
 have hlr:(l.take r).length=r:=by rw [List.length_take];omega
 rw [hlr,if_pos (show l[r+1].nu≠(r:Int)+1 by omega),if_pos (by decide)]
theorem ydg:∀(s:List UInt8) (x y:Int),0<=x/\x<9999943->0<=y/\y<9999943->yih x s=yih y s->x=y
 | [],_,_,_,_,h=>h
 | b::r,x,y,hx,hy,h=>by
  have h1:=ydg r ((281*x+b.toNat)%9999943) ((281*y+b.toNat)%9999943) (by omega) (by omega) h
  have h2:(281*(x-y))%9999943=0:=by omega
  omega
theorem z8s:∀(k:Nat) (a b:Int),0<=a/\a<10^k->0<=b/\b<10^k->zs2 k a=zs2 k b->a=b
 | 0,a,b,ha,hb,_=>by simp at ha hb;omega
 | k+1,a,b,ha,hb,h=>by
  unfold zs2 at h
  obtain⟨h1,h2⟩:=List.append_inj' h rfl
  have hp:(10:Int)^(k+1)=10^k*10:=Int.pow_succ ..
  rw [hp] at ha hb
  have h3:=z8s k (a/10) (b/10) (by omega) (by omega) h1
  have h4:dig (a%10)=dig (b%10):=by simpa using h2
  have h5:∀n:Int,0<=n/\n<10->(dig n).toNat=48+n.toNat:=fun n hn=>by
   unfold dig
   rw [UInt8.toNat_ofNat']
   omega
  have h6:=congrArg UInt8.toNat h4
  rw [h5 _ (by omega),h5 _ (by omega)] at h6
  omega
theorem yk5 {s t:List UInt8} (h:z8n s=z8n t):z1g s=z1g t:=by
 have a:=z8o s
 have b:=z8o t
 have h7:(10:Int)^7=10000000:=by decide
 exact z8s 7 _ _ (by omega) (by omega) h
theorem yn9 (a:List UInt8) (b c:UInt8) (r:List UInt8) (h:b≠c):z8n (a++b::r)≠z8n (a++c::r):=fun e=>by
 have h1:=yk5 e
 unfold z1g at h1
 rw [z5j,z5j] at h1
 have h0:=z8o a
 unfold z1g at h0
 have h2:=ydg r ((281*yih 1 a+b.toNat)%9999943) ((281*yih 1 a+c.toNat)%9999943) (by omega) (by omega) h1
 have hb:=zq3 b
 have hc:=zq3 c
 have:b.toNat=c.toNat:=by omega
 exact h (UInt8.toNat_inj.1 this)
theorem yj0 {e:Evt} {a r:List UInt8} {b c:UInt8} (h:zcr e=a++b::r) (hbc:c≠b):(zuw (a++c::r)).2≠0:=by
 unfold zcr at h
 have hs:=zq2 (znf e)
 rcases List.append_eq_append_iff.1 h with⟨u,h1,h2⟩|⟨bs,h1,h2⟩
 ·cases u with
  | nil=>
   rw [List.nil_append] at h2
   obtain⟨h3,h4⟩:=List.cons.inj h2
   rw [List.append_nil] at h1
   subst h1 h4
   rw [zo4 hs,if_pos (.inl fun e=>hbc (e.trans h3))]
   decide
  | cons y u'=>
   rw [List.cons_append] at h2
   obtain⟨h3,h4⟩:=List.cons.inj h2
   subst h3 h1
   have hl:(u'++c::r).length=7:=by
    rw [h4] at hs
    simpa using hs
   have e1:(znf e++35::u')++c::r=znf e++35::(u'++c::r):=by simp
   rw [e1,zo4 hl]
   split
   ·decide
   ·rw [if_pos]
    ·decide
    ·intro e2
     rw [h4] at e2
     have:=(List.cons.inj (List.append_cancel_left e2)).1
     exact hbc this
 ·cases bs with
  | nil=>
   rw [List.nil_append] at h2
   obtain⟨h3,h4⟩:=List.cons.inj h2
   rw [List.append_nil] at h1
   subst h4
   rw [<-h1,zo4 hs,if_pos (.inl fun e=>hbc (e.trans h3.symm))]
   decide
  | cons y bs'=>
   rw [List.cons_append] at h2
   obtain⟨h3,h4⟩:=List.cons.inj h2
   subst h3 h4
   have e1:a++c::(bs'++35::z8n (znf e))=(a++c::bs')++35::z8n (znf e):=by simp
   rw [e1,zo4 hs,if_neg (by rw [z8p];simp),if_pos]
   ·decide
   ·rw [h1]
    exact yn9 a b c bs' (fun e=>hbc e.symm)
theorem ynv {s:List UInt8} (h:(zuw s).2≠0) (b:Int):z09 s b≠0:=by
 unfold z09
 rw [if_pos h]
 exact h
theorem ycz:∀(l l0:List Evt) (i k:Nat) (c:UInt8),(∀e∈l,zhy e=0)->yiw l0.length l->(hk:k<(zbl l).length)->(zbl l)[k]≠10->c≠(zbl l)[k]->c≠10->
  ∃l' j x,z23 l0 i (pcs ((zbl l).take k++c::(zbl l).drop (k+1)))=(l',j,x)/\x≠0/\j<i+(zbl l).length
 | [],_,_,_,_,_,_,hk,_,_,_=>absurd hk (Nat.not_lt_zero _)
 | e::r,l0,i,k,c,h,hn,hk,h10,hc,hc10=>by
  have hce:=h e (by simp)
  have hL:zbl (e::r)=zcr e++10::zbl r:=by rw [zko];simp
  have hlen:(zbl (e::r)).length=(zcr e).length+((zbl r).length+1):=by rw [hL,List.length_append,List.length_cons]
  rcases Nat.lt_trichotomy k (zcr e).length with hlt|heq|hgt
  ·have hb:(zbl (e::r))[k]=(zcr e)[k]:=by simp only [hL];rw [List.getElem_append_left hlt]
   have e1:(zbl (e::r)).take k++c::(zbl (e::r)).drop (k+1)=((zcr e).take k++c::(zcr e).drop (k+1))++10::zbl r:=by
    rw [hL,List.take_append_of_le_length (by omega),List.drop_append_of_le_length (by omega)]
    simp
   have hli:zcr e=(zcr e).take k++(zcr e)[k]::(zcr e).drop (k+1):=by
    rw [<-List.drop_eq_getElem_cons hlt,List.take_append_drop]
   have hno:(10:UInt8)∉(zcr e).take k++c::(zcr e).drop (k+1):=fun hm=>by
    rcases List.mem_append.1 hm with hm|hm
    ·exact zsv hce (List.mem_of_mem_take hm)
    ·rcases List.mem_cons.1 hm with hm|hm
     ·exact hc10 hm.symm
     ·exact zsv hce (List.mem_of_mem_drop hm)
   have hre:=ynv (yj0 hli (by rw [<-hb];exact hc)) l0.length
   rw [e1,zmf hno,if_pos hre]
   exact⟨_,_,_,rfl,hre,by omega⟩
  ·exfalso
   apply h10
   have:(zcr e++10::zbl r)[(zcr e).length]'(by rw [List.length_append,List.length_cons];omega)=10:=by simp
   subst heq
   simp only [hL]
   exact this
  ·obtain⟨k',rfl⟩:∃k',k=(zcr e).length+1+k':=⟨k-((zcr e).length+1),by omega⟩
   have hk':k'<(zbl r).length:=by omega
   have hL2:zbl (e::r)=(zcr e++[10])++zbl r:=zko e r
   have hl1:(zcr e++[10]).length=(zcr e).length+1:=by simp
   have hb:(zbl (e::r))[(zcr e).length+1+k']=(zbl r)[k']:=by
    simp only [hL2]
    rw [List.getElem_append_right (by omega)]
    simp only [hl1]
    congr 1
    omega
   have e1:(zbl (e::r)).take ((zcr e).length+1+k')++c::(zbl (e::r)).drop ((zcr e).length+1+k'+1)=zcr e++10::((zbl r).take k'++c::(zbl r).drop (k'+1)):=by
    rw [hL2,<-hl1,List.take_length_add_append,Nat.add_assoc,List.drop_length_add_append]
    simp
   obtain⟨l',j,x,h1,h2,h3⟩:=ycz r (l0++[e]) (i+((zcr e).length+1)) k' c (fun x hx=>h x (List.mem_cons_of_mem _ hx)) (by rw [List.length_append];exact hn.2) hk' (by rw [<-hb];exact h10) (by rw [<-hb];exact hc) hc10
   refine⟨l',j,x,?_,h2,by omega⟩
   rw [e1,zmf (zsv hce),if_neg (fun h=>h (zz0 hce hn.1)),zui hce,h1]
theorem yki {l:List Evt} (hl:l.length<=900) (hz:erL l=0) {k:Nat} {c:UInt8} (hk:k<(zbl l).length) (h10:(zbl l)[k]≠10) (hc:c≠(zbl l)[k]) (hc10:c≠10):
  (zv5 ((zbl l).take k++c::(zbl l).drop (k+1))).2.2≠0/\(zv5 ((zbl l).take k++c::(zbl l).drop (k+1))).2.1<(zbl l).length:=by
 obtain⟨l',j,x,h1,h2,h3⟩:=ycz l [] 0 k c (zjv hz) (zm8 l rg0 0 hz) hk h10 hc hc10
 have hlog:=zy3 hl hz
 unfold zv5
 rw [if_neg (by rw [List.length_append,List.length_cons,List.length_take,List.length_drop];omega),h1]
 exact⟨h2,by dsimp only;omega⟩
section
variable {E : Oracle} (g : Good E)
include g
theorem yn1 (s:List UInt8):In E 0 zhh [S s] [] fun v m'=>v= .fn zdy [] [.ptr ⟨0,1,0⟩ 0 0]/\m'=[(⟨0,1,0⟩,.cells zad [S s])]:=by
 refine In.enter (f:=zhh) g.lim rfl rfl ?_
 repeat' ((conv=>whnf);first
 | refine Yz ?_
  | (exact⟨rfl,rfl⟩))
theorem zcf.lines {s:List UInt8} {cx:Cx} {slot:Nat} {m:Mem} {K:V->Mem->Prop} (hf:Go.Evl.freeK cx.lv slot m=0) (h:K (.fn zdy [] [.ptr ⟨cx.lv,slot,0⟩ 0 0]) (m++[(⟨cx.lv,slot,0⟩,.cells zad [S s])])):zcf E zhh [S s] cx slot m K:=by
 obtain⟨v,m',h1,rfl,rfl⟩:=(yn1 g s).got
 refine⟨_,_,(.fn zdy [] [.ptr ⟨cx.lv,slot,0⟩ 0 0],m++[(⟨cx.lv,slot,0⟩,.cells zad [S s])]),h1,?_,h⟩
 unfold Go.Evl.settle
 rw [hf]
 rfl
theorem zqm (s0:List UInt8):Fc E zba [S s0] (RcV (zv5 s0)):=by
 refine g.fn rfl rfl ?_
 unfold zv5
 by_cases hl0:1000000<s0.length
 ·rw [if_pos hl0]
  repeat' ((conv=>whnf);first
  | refine Yz ?_
   | (refine Ret.mk rfl)
   | fail)
 rw [if_neg hl0]
 repeat' ((conv=>whnf);first
 | refine Yz ?_
  | (refine zcf.lines g rfl ?_)
  | (refine In.enter (f:=zdy) g.lim rfl rfl ?_)
  | fail)
 refine zam.to (zam.by (σ:=List Evt×Nat×List UInt8) g (fun x=>x.1.length<=x.2.1/\x.2.1+x.2.2.length<=s0.length/\z23 x.1 x.2.1 (pcs x.2.2)=z23 [] 0 (pcs s0))
  (fun _=>[(0,.yld ⟨0,50,0⟩),(1,.ptr ⟨0,16,0⟩ 0 0)])
  (fun x=>[(⟨0,2,0⟩,.row false zae 5 0 []),(⟨0,2,1⟩,.cells zlr [.ref ⟨0,2,0⟩ 0 0 0]),(⟨0,3,0⟩,.cells zbs [I 0]),(⟨0,4,0⟩,.cells zws [I 0]),(⟨0,5,0⟩,.row false zae 5 x.1.length (x.1.flatMap Evt.cells)),(⟨0,5,1⟩,.cells zlr [.ref ⟨0,5,0⟩ 0 x.1.length x.1.length]),(⟨0,6,0⟩,.cells zbs [I x.2.1]),(⟨0,16,0⟩,.cells zad [S x.2.2]),
   (⟨0,50,0⟩,.loop [(2,.ptr ⟨0,2,1⟩ 0 0),(3,.ptr ⟨0,3,0⟩ 0 0),(4,.ptr ⟨0,4,0⟩ 0 0),(14,B false),(5,.ptr ⟨0,5,1⟩ 0 0),(6,.ptr ⟨0,6,0⟩ 0 0),(16,.fn zdy [] [.ptr ⟨0,16,0⟩ 0 0])] [17] zmy zmz 0 false false none)])
  (fun x=>x.2.2.length) ?_ ([],0,s0) ⟨Nat.le_refl _,by simp,rfl⟩) rfl rfl
 rintro⟨l,i,s⟩ ⟨h1,h2,h3⟩ ih
 simp only at h1 h2 h3 ih
 dsimp only
 have hml:(l.flatMap Evt.cells).length=l.length*5:=zag Evt.cells 5 evw l
 by_cases hs:s=[]
 ·subst hs
  rw [zzv,z23] at h3
  rw [<-h3]
  repeat' ((conv=>whnf);first
  | refine Yz ?_
   | (refine zco.mk ⟨rfl,by decide⟩ ?_)
   | (refine Ret.mk ?_)
   | fail)
  rw [if_pos ⟨rfl,rfl⟩]
 ·rcases z7l s hs with⟨hn,hp⟩|⟨a,r,hn,rfl,hp⟩
  ·have hw:zkw s=false:=decide_eq_false fun e=>by
    obtain⟨t,e⟩:=List.getLast?_eq_some_iff.1 e
    exact hn (by rw [e];simp)
   have he:z9e s=s:=by unfold z9e;rw [hw];rfl
   rw [zz2 hs hn] at h3
   rw [<-h3]
   have hx:=z71 g s
   rw [zwi s hn] at hx
   have hcut:=yht g s (by omega)
   rw [hw,he] at hcut
   have hpos:s.length≠0:=fun e=>hs (List.length_eq_zero_iff.1 e)
   repeat' ((conv=>whnf);first
   | refine Yz ?_
    | (refine Rnd.enter g.lim ?_)
    | (refine zcd.at 0 (a.length+1) (by omega) (by omega) (by omega) ?_<;>(try dsimp only)<;>(rw [z5m]))
    | (refine zcd.at (a.length+1) (a++10::r).length (by omega) (by omega) (by omega) ?_<;>(try dsimp only)<;>(rw [z5n]))
    | (refine zcd.at 0 s.length (by omega) (by omega) (by omega) ?_<;>(try dsimp only)<;>(rw [ya4]))
    | (apply zak.of;assumption)
    | (refine zco.mk ⟨rfl,by decide⟩ ?_)
    | (refine Ret.mk ?_)
    | fail)
   rw [if_pos ⟨rfl,rfl⟩]
  ·have hlen:(a++10::r).length=a.length+(r.length+1):=by simp
   have hlen1:(a++[10]).length=a.length+1:=by simp
   have hx:=z71 g (a++10::r)
   rw [zwh a r hn] at hx
   have hcut:=yht g (a++[10]) (by simp;omega)
   rw [(zxx _).1,(zxx _).2] at hcut
   rw [zmf hn] at h3
   have hre:=yea g a (by omega) l.length (by omega)
   by_cases hz:z09 a l.length=0
   ·rw [if_neg (fun h=>h hz)] at h3
    rw [hz] at hre
    have ih:=ih (l++[(zuw a).1],i+(a.length+1),r) ⟨by simp only [List.length_append,List.length_cons,List.length_nil];omega,by dsimp only;omega,h3⟩ (by dsimp only;omega)
    simp only [List.length_append,List.length_cons,List.length_nil,List.flatMap_append,List.flatMap_cons,List.flatMap_nil] at ih
    have hie:((i+(a.length+1):Nat):Int)=(i:Int)+((a++[10]).length:Int):=by omega
    rw [hie] at ih
    generalize (zuw a).1=e at *
    obtain⟨nu,ki,ns,vs,tx⟩:=e
    simp only [Evt.cells] at ih
    repeat' ((conv=>whnf);first
    | refine Yz ?_
     | (refine Rnd.enter g.lim ?_)
     | (refine zcd.at 0 (a.length+1) (by omega) (by omega) (by omega) ?_<;>(try dsimp only)<;>(rw [z5m]))
     | (refine zcd.at (a.length+1) (a++10::r).length (by omega) (by omega) (by omega) ?_<;>(try dsimp only)<;>(rw [z5n]))
     | (refine zcd.at 0 s.length (by omega) (by omega) (by omega) ?_<;>(try dsimp only)<;>(rw [ya4]))
     | (apply zak.of;assumption)
     | (refine zco.mk (by simp only [List.length_cons,List.length_nil];omega) ?_)
     | (refine zco.mk ⟨rfl,by decide⟩ ?_)
     | (refine zam.to ih rfl rfl)
     | fail)
   ·rw [if_pos hz] at h3
    rw [<-h3]
    generalize (zuw a).1=e at *
    obtain⟨nu,ki,ns,vs,tx⟩:=e
    generalize z09 a l.length=x at *
    repeat' ((conv=>whnf);first
    | refine Yz ?_
     | (refine Rnd.enter g.lim ?_)
     | (refine zcd.at 0 (a.length+1) (by omega) (by omega) (by omega) ?_<;>(try dsimp only)<;>(rw [z5m]))
     | (refine zcd.at (a.length+1) (a++10::r).length (by omega) (by omega) (by omega) ?_<;>(try dsimp only)<;>(rw [z5n]))
     | (refine zcd.at 0 s.length (by omega) (by omega) (by omega) ?_<;>(try dsimp only)<;>(rw [ya4]))
     | (apply zak.of;assumption)
     | (refine Cmp.ff hz ?_)
     | (refine zco.mk ⟨rfl,by decide⟩ ?_)
     | (refine Ret.mk ?_)
     | fail)
    rw [if_pos ⟨rfl,rfl⟩]
end
def yov (s:List UInt8) (e:Evt):List UInt8×Int:=
 if za1 [(zv5 s).2.2,zhy e,if e.nu=(zv5 s).1.length+1 then 0 else 11]=0 then(s++(zcr e++[10]),0)
 else([],za1 [(zv5 s).2.2,zhy e,if e.nu=(zv5 s).1.length+1 then 0 else 11])
section
variable {E : Oracle} (g : Good E)
include g
theorem ykk (s:List UInt8) (e:Evt) (hs:s.length<=990000) (he:ye4 e):Fc E zhf [S s,Evv e] (.tup [S (yov s e).1,I (yov s e).2]):=by
 have hr:=zqm g s
 have ⟨_,hll,_⟩:=yhk (s:=s) (by omega)
 have hce:=znb g e (by have:=he.ns;omega) (by have:=he.vs;omega)
 have hlast:∀a b c:Int,Fc E zay [.d (.list 3 [DI a,DI b,DI c])] (I (za1 [a,b,c])):=fun a b c=>zum g [a,b,c] (by simp)
 have hw1:Fc E zal [B true,I 11] (I 11):=znr g true 11
 have hw0:Fc E zal [B false,I 11] (I 0):=znr g false 11
 have hsp:za1 [(zv5 s).2.2,zhy e,if e.nu=(zv5 s).1.length+1 then 0 else 11]=0->Fc E zd2 [Evv e] (S (zcr e++[10]))/\(zcr e).length<=2000:=fun h=>by
  rw [zgf] at h
  obtain⟨h1,h2⟩:=ydb he (h (zhy e) (by simp))
  exact⟨ykn g e h1,by rw [ycc];omega⟩
 unfold yov
 generalize hR:zv5 s=R at *
 obtain⟨l,i,x⟩:=R
 dsimp only at hll hsp ⊢
 change Fc E zba [S s] (.tup [LE l,I (i:Nat),I x]) at hr
 generalize zhy e=y at *
 generalize zcr e=le at *
 obtain⟨nu,ki,ns,vs,tx⟩:=e
 dsimp only at hsp ⊢
 change Fc E zhf [S s,.d (.agg [DI nu,.str ki,.list ns.length (ns.map D.str),.list vs.length (vs.map DI),.str tx])] _
 have hlen:(s++(le++[10])).length=s.length+(le.length+1):=by simp
 refine g.fn rfl rfl ?_
 by_cases hnu:nu=l.length+1
 ·rw [if_pos hnu] at hsp ⊢
  have hf:=hlast x y 0
  generalize za1 [x,y,0]=z at *
  by_cases hz:z=0
  ·rw [if_pos hz]
   obtain⟨h1,h2⟩:=hsp hz
   repeat' ((conv=>whnf);first
   | refine Yz ?_
    | (apply zak.of;assumption)
    | (refine Cmp.tt hz ?_)
    | (refine Cmp.ff (fun h=>h hnu) ?_)
    | (refine Cmp.tt hnu ?_)
    | (refine zco.mk (by simp only [zlc,List.length_append,List.length_cons,List.length_nil];omega) ?_)
    | (refine Ret.mk rfl)
    | fail)
  ·rw [if_neg hz]
   repeat' ((conv=>whnf);first
   | refine Yz ?_
    | (apply zak.of;assumption)
    | (refine Cmp.ff hz ?_)
    | (refine Ret.mk rfl)
    | fail)
 ·rw [if_neg hnu] at hsp ⊢
  have hf:=hlast x y 11
  generalize za1 [x,y,11]=z at *
  by_cases hz:z=0
  ·rw [if_pos hz]
   obtain⟨h1,h2⟩:=hsp hz
   repeat' ((conv=>whnf);first
   | refine Yz ?_
    | (apply zak.of;assumption)
    | (refine Cmp.tt hz ?_)
    | (refine zco.mk (by simp only [zlc,List.length_append,List.length_cons,List.length_nil];omega) ?_)
    | (refine Ret.mk rfl)
    | fail)
  ·rw [if_neg hz]
   repeat' ((conv=>whnf);first
   | refine Yz ?_
    | (apply zak.of;assumption)
    | (refine Cmp.ff hz ?_)
    | (refine Ret.mk rfl)
    | fail)
end
theorem yed {e:Evt} (h:zhy e=0):ye4 e:=by
 obtain⟨a1,a2,a3,a4,_⟩:=zpa h
 have ⟨f1,f2⟩:=zsr e.ki
 exact⟨yb8 a1,by omega,by omega,fun x hx=>Nat.le_trans (z4r (a4 x hx)) (by decide)⟩
theorem ymd {l:List Evt} (hl:l.length<=900) (hz:erL l=0) {k:Nat} (hk:k<l.length):yov (zbl (l.take k)) l[k]=(zbl (l.take (k+1)),0):=by
 have hc:=zjv hz _ (List.getElem_mem hk)
 have hn:=yj5 l 0 (zm8 l rg0 0 hz) k hk
 have hr:=yc0 (l:=l.take k) (by rw [List.length_take];omega) (ztv hz k)
 have hlk:(l.take k).length=k:=by rw [List.length_take];omega
 unfold yov
 rw [hr,hc,hlk,if_pos (show l[k].nu=(k:Int)+1 by omega),z66 hk]
 exact if_pos rfl
def yln (l:List Evt) (n:Nat):List Int:=(List.range n).map fun j=>((zbl (l.take (j+1))).length:Int)
theorem yji (l:List Evt) (n:Nat):((yln l n).map DI).length=n*1:=by simp [yln]
theorem yfm (l:List Evt) (n:Nat):(yln l (n+1)).map DI=(yln l n).map DI++[DI ((zbl (l.take (n+1))).length:Int)]:=by
 unfold yln
 rw [List.range_succ,List.map_append,List.map_append]
 rfl
theorem zfo.end {l:List Evt} {n:Nat} {i:Int} {K:D->Prop} (k:Nat) (hi:i=k) (h:k<n) (hk:K (DI ((zbl (l.take (k+1))).length:Int))):zfo ((yln l n).map DI) ((0+i.toNat)*1) K:=by
 subst hi
 refine⟨⟨_,?_,hk⟩⟩
 simp [yln,h]
theorem ygf (l:List Evt) (k:Nat):(zbl (l.take k)).length<=(zbl l).length:=ym9 l k
theorem zvw (l:List Evt) (k:Nat):zbl l=zbl (l.take k)++zbl (l.drop k):=by rw [<-zxj,List.take_append_drop]
theorem ya5 {s:List UInt8} (c:Nat):win s 0 (c-0)=s.take c:=by
 unfold win
 rw [List.drop_zero,Nat.sub_zero]
theorem yis {s:List UInt8} (c:Nat):win s c (s.length-c)=s.drop c:=by
 unfold win
 exact List.take_of_length_le (by rw [List.length_drop];exact Nat.le_refl _)
theorem yla (l:List Evt) (k:Nat) (h:k<=l.length):win (l.flatMap Evt.cells) (0*5) ((k-0)*5)=(l.take k).flatMap Evt.cells:=by
 have hl:(l.flatMap Evt.cells).length=l.length*5:=zag Evt.cells 5 evw l
 have ht:((l.take k).flatMap Evt.cells).length=k*5:=by rw [zag Evt.cells 5 evw,List.length_take,Nat.min_eq_left h]
 have e:l.flatMap Evt.cells=(l.take k).flatMap Evt.cells++(l.drop k).flatMap Evt.cells:=by rw [<-List.flatMap_append,List.take_append_drop]
 unfold win
 rw [Nat.zero_mul,List.drop_zero,Nat.sub_zero,e,List.take_left' ht]
theorem ylb (l:List Evt) (k:Nat) (h:k<=l.length):win (l.flatMap Evt.cells) (k*5) ((l.length-k)*5)=(l.drop k).flatMap Evt.cells:=by
 have ht:((l.take k).flatMap Evt.cells).length=k*5:=by rw [zag Evt.cells 5 evw,List.length_take,Nat.min_eq_left h]
 have hd:((l.drop k).flatMap Evt.cells).length=(l.length-k)*5:=by rw [zag Evt.cells 5 evw,List.length_drop]
 have e:l.flatMap Evt.cells=(l.take k).flatMap Evt.cells++(l.drop k).flatMap Evt.cells:=by rw [<-List.flatMap_append,List.take_append_drop]
 unfold win
 rw [e,List.drop_left' ht]
 exact List.take_of_length_le (by omega)
theorem zyy {l:List Evt} {t:List UInt8} (hne:t≠[]) (hk:zev (hdW t)=false):yfi l t=(ymg (rgL l) t,l):=by
 unfold yfi
 rw [if_neg hne,hk,if_pos rfl]
theorem yi6 (l:List Evt):∃tx,yfi l zzf=((tx,0),l):=by
 refine⟨yp9 ((yqi (rgL l)).map Cpl.nm),?_⟩
 rw [zyy (by decide) (by decide)]
 have hp:parts 32 zzf=[zzf]:=by decide
 have hh:hdW zzf=zzf:=by unfold hdW;rw [hp];rfl
 unfold ymg
 rw [hh,if_neg (by decide),if_neg (by decide),if_neg (by decide),if_neg (by decide),if_pos rfl]
 unfold z8v
 rw [hp,if_neg (by decide),if_neg (by decide)]
 exact congrArg (·,l) (z83 _)
theorem z1r (l:List Evt) {m:Int} (hm:0<=m/\m<=99999):∃tx,yfi l (zgv++32::ze8 m)=((tx,0),l):=by
 refine⟨yp9 (yll (rgL l) m),?_⟩
 have hp:parts 32 (zgv++32::ze8 m)=[zgv,ze8 m]:=by
  rw [zga 32 _ zgv (by decide),zlx 32 _ (zvx (by decide) m)]
 have hh:hdW (zgv++32::ze8 m)=zgv:=by unfold hdW;rw [hp];rfl
 rw [zyy (by simp) (by rw [hh];decide)]
 obtain⟨i1,i2⟩:=zlv (n:=m) (by omega)
 unfold ymg
 rw [hh,if_neg (by decide),if_neg (by decide),if_pos rfl]
 unfold z8v
 have e1:[zgv,ze8 m].drop (2-1)=[ze8 m]:=rfl
 rw [hp,e1,yqy i1,i2,if_neg,if_neg]
 ·have e2:A3 (rgL l) [zgv,ze8 m] [m]=(yll (rgL l) m,0):=by
   show z1o (rgL l) m=_
   unfold z1o
   have:rng m 0 99999=0:=by unfold rng;rw [if_neg (by omega)]
   rw [this]
   rfl
  rw [e2,z83]
 ·simp [zwj,(zkn (ze8 m)).1,i1]
 ·intro h
  rcases h with h|h
  ·exact h rfl
  ·simp only [List.mem_cons,List.not_mem_nil,or_false] at h
   rcases h with h|h
   ·exact absurd h (by decide)
   ·exact yf5 i1 h.symm
theorem ymh (l:List Evt) {k m:Int} (hk:0<=k/\k<=99999) (hm:0<=m/\m<=99999):∃tx,yfi l (z8y++32::(ze8 k++32::ze8 m))=((tx,0),l):=by
 refine⟨yp9 ((yee (rgL l) k m).map yan),?_⟩
 have hp:parts 32 (z8y++32::(ze8 k++32::ze8 m))=[z8y,ze8 k,ze8 m]:=by
  rw [zga 32 _ z8y (by decide),zga 32 _ (ze8 k) (zvx (by decide) k),zlx 32 _ (zvx (by decide) m)]
 have hh:hdW (z8y++32::(ze8 k++32::ze8 m))=z8y:=by unfold hdW;rw [hp];rfl
 rw [zyy (by simp) (by rw [hh];decide)]
 obtain⟨i1,i2⟩:=zlv (n:=m) (by omega)
 obtain⟨j1,j2⟩:=zlv (n:=k) (by omega)
 unfold ymg
 rw [hh,if_neg (by decide),if_pos rfl]
 unfold z8v
 have e1:[z8y,ze8 k,ze8 m].drop (3-2)=[ze8 k,ze8 m]:=rfl
 rw [hp,e1,yqz j1 i1,i2,j2,if_neg,if_neg]
 ·have e2:A2 (rgL l) [z8y,ze8 k,ze8 m] [k,m]=((yee (rgL l) k m).map yan,0):=by
   show z1p (rgL l) k m=_
   unfold z1p
   have h1:rng k 0 99999=0:=by unfold rng;rw [if_neg (by omega)]
   have h2:rng m 0 99999=0:=by unfold rng;rw [if_neg (by omega)]
   rw [h1,h2]
   rfl
  rw [e2,z83]
 ·simp [zwj,(zkn (ze8 m)).1,(zkn (ze8 k)).1,i1,j1]
 ·intro h
  rcases h with h|h
  ·exact h rfl
  ·simp only [List.mem_cons,List.not_mem_nil,or_false] at h
   rcases h with h|h|h
   ·exact absurd h (by decide)
   ·exact yf5 j1 h.symm
   ·exact yf5 i1 h.symm
theorem yp8 {x:Int} (h:0<=x/\x<=65535):IntKind.u16.wrap x=x:=by
 have hb:IntKind.u16.wrap x=x%65536:=by simp [IntKind.wrap,IntKind.signed,IntKind.bits]
 rw [hb]
 omega
theorem yrf {x:Int} (h:0<=x/\x<=255):IntKind.u8.wrap x=x:=by
 have hb:IntKind.u8.wrap x=x%256:=by simp [IntKind.wrap,IntKind.signed,IntKind.bits]
 rw [hb]
 omega
theorem Wr.k16 {x:Int} {K:Int->Prop} (h:0<=x/\x<=65535) (k:K x):Wr .u16 x K:=⟨by rw [yp8 h];exact k⟩
theorem Wr.k8 {x:Int} {K:Int->Prop} (h:0<=x/\x<=255) (k:K x):Wr .u8 x K:=⟨by rw [yrf h];exact k⟩
theorem yiq (e:Evt):win (znf e) ((ze8 e.nu).length+1) ((znf e).length-((ze8 e.nu).length+1))=zi0 e:=by
 have h:znf e=(ze8 e.nu++[32])++zi0 e:=by simp [znf]
 unfold win
 rw [h,List.drop_left' (by simp),List.take_of_length_le (by simp;omega)]
section
variable {E : Oracle} (g : Good E)
include g
theorem ypp (e:Evt) (h:PrE e):Fc E zkt [Evv e] (S (zi0 e)):=by
 have hb:=ypn g e h
 have ht:=zuh g e.nu h.nu
 have hw:=yiq e
 have hl:=zus e
 have hd:=zm0 20 e.nu.toNat
 have hd2:(ze8 e.nu).length<=20:=hd
 generalize zi0 e=bo at *
 generalize znf e=tx at *
 obtain⟨nu,ki,ns,vs,tx'⟩:=e
 dsimp only at *
 change Fc E zkr [.d (.agg [DI nu,.str ki,.list ns.length (ns.map D.str),.list vs.length (vs.map DI),.str tx'])] _ at hb
 change Fc E zkt [.d (.agg [DI nu,.str ki,.list ns.length (ns.map D.str),.list vs.length (vs.map DI),.str tx'])] _
 refine g.fn rfl rfl ?_
 repeat' ((conv=>whnf);first
 | refine Yz ?_
  | (apply zak.of;assumption)
  | (refine zcd.at ((ze8 nu).length+1) tx.length (by omega) (by omega) (by omega) ?_;dsimp only;rw [hw])
  | (refine Ret.mk rfl)
  | fail)
end
theorem z60:∀l:List (List UInt8),Lib.join l []=l.flatten
 | []=>rfl
 | [x]=>by simp [Lib.join,List.intercalate]
 | x::y::r=>by
  have ih:=z60 (y::r)
  simp only [Lib.join,List.intercalate] at ih
  simp [Lib.join,List.intercalate,ih]
def ykg (e:Evt):List UInt8:=zcr e++[10]
section
variable {E : Oracle} (g : Good E)
include g
theorem yn0 (l:List (List UInt8)) (hl:l.length<=1000000) (hj:l.flatten.length<=1000000):Fc E n_strings_Join [.d (.list l.length (l.map D.str)),S []] (S l.flatten):=by
 refine Fc.extern g.lim (x:=joinX) rfl (v:=S l.flatten) (m':=[]) ?_ rfl
 simp only [joinX,zq1,z60]
 rw [if_pos ⟨trivial,hj,hl⟩]
theorem yre (ev:List Evt) (r:Rgs) (hev:ev.length<=1000) (hp:∀e∈ev,PrE e) (hln:(zbl ev).length<=1000000):Ui E zdm [.ptr ⟨0,0,0⟩ 0 0] (mR zaa ev r) (S (zbl ev)) (mR zaa ev r):=by
 refine⟨?_⟩
 have hlf:(ev.map ykg).flatten=zbl ev:=(List.flatMap_def ..).symm
 have hj:=yn0 g (ev.map ykg) (by rw [List.length_map];omega) (by rw [hlf];exact hln)
 rw [hlf,List.length_map] at hj
 have hme:(ev.flatMap Evt.cells).length=ev.length*5:=zag Evt.cells 5 evw ev
 refine In.enter (f:=zdm) g.lim rfl rfl ?_
 repeat' ((conv=>whnf);first
 | refine Yz ?_
  | (refine In.enter (f:=zds) g.lim rfl rfl ?_)
  | fail)
 refine zam.to (zam.up g (fun k=>[(1,.fn zd2 [] []),(5,.ref ⟨2,5,0⟩ 0 k k),(8,.ref ⟨0,0,1⟩ 0 ev.length ev.length),(9,I ev.length),(10,I k)])
  (fun k=>mR zaa ev r++[(⟨2,4,0⟩,.row false zad 1 0 []),(⟨2,5,0⟩,.row false zad 1 k (((ev.take k).map ykg).map D.str))]) ev.length (fun k hk ih=> ?_) 0 (Nat.zero_le _)) rfl rfl
 by_cases hlt:k<ev.length
 ·have hwin:win (ev.flatMap Evt.cells) ((0+((k:Nat):Int).toNat)*5) 5=ev[k].cells:=by
   rw [Nat.zero_add,Int.toNat_natCast]
   exact zb8 Evt.cells 5 evw ev k hlt
  have ih:=ih hlt
  have hpe:=hp _ (List.getElem_mem hlt)
  have e0:((ev.take (k+1)).map ykg).map D.str=((ev.take k).map ykg).map D.str++[.str (ykg ev[k])]:=by
   rw [List.take_succ_eq_append_getElem hlt,List.map_append,List.map_append]
   rfl
  rw [e0] at ih
  have hmo:(((ev.take k).map ykg).map D.str).length=k*1:=by rw [List.length_map,List.length_map,List.length_take];omega
  have hbo:=yl5 g ev[k] hpe
  have hb:=zus ev[k]
  have hd:=ynh g ev[k].nu hpe.nu
  have hle:=hpe.ln
  have hsm:=yn4 g (znf ev[k]) hpe.ln
  have e1:(ze8 ev[k].nu++[32])++zi0 ev[k]=znf ev[k]:=by simp [znf]
  have e2:ykg ev[k]=((znf ev[k]++[35])++z8n (znf ev[k]))++[10]:=by simp [ykg,zcr]
  have hs:=zq2 (znf ev[k])
  rw [e2] at ih
  generalize ht:znf ev[k]=t at *
  generalize zi0 ev[k]=b at *
  generalize ev[k]=e at *
  obtain⟨nu,ki,ns,vs,tx⟩:=e
  dsimp only at e1 hd hb
  change Fc E zi9 [.d (.agg [DI nu,.str ki,.list ns.length (ns.map D.str),.list vs.length (vs.map DI),.str tx])] _ at hbo
  clear e0 e2
  repeat' ((conv=>whnf);first
  | refine Yz ?_
   | (rw [hwin])
   | (apply zak.of;assumption)
   | (refine In.enter (f:=zd2) g.lim rfl rfl ?_)
   | (refine zco.mk (by simp only [zlc,List.length_append,List.length_cons,List.length_nil];omega) ?_;try rw [e1])
   | (refine zco.mk ⟨rfl,rfl,rfl,rfl,rfl,rfl,by dsimp only;omega,by dsimp only;omega⟩ ?_)
   | (refine zam.to ih rfl rfl)
   | fail)
 ·obtain rfl:k=ev.length:=by omega
  clear ih
  rw [List.take_length]
  repeat' ((conv=>whnf);first
  | refine Yz ?_
   | (refine zco.mk ⟨rfl,by omega⟩ ?_)
   | (apply zak.of;assumption)
   | (rw [if_pos ⟨rfl,rfl⟩])
   | (exact⟨rfl,rfl,rfl,rfl,rfl,rfl,trivial⟩)
   | fail)
end
abbrev mSs (lv sl:Nat) (ev:List Evt) (r:Rgs):Mem:=[(⟨lv,sl,0⟩,.cells zaa [.ref ⟨lv,sl,1⟩ 0 ev.length ev.length,I r.kn,.ref ⟨lv,sl,2⟩ 0 r.es.length r.es.length,.ref ⟨lv,sl,3⟩ 0 r.rs.length r.rs.length,.ref ⟨lv,sl,4⟩ 0 r.cs.length r.cs.length]),
 (⟨lv,sl,1⟩,.row false zae 5 ev.length (ev.flatMap Evt.cells)),(⟨lv,sl,2⟩,.row false zac 8 r.es.length (r.es.flatMap Ent.cells)),(⟨lv,sl,3⟩,.row false zan 2 r.rs.length (r.rs.flatMap Rmv.cells)),(⟨lv,sl,4⟩,.row true zaf 5 r.cs.length (r.cs.flatMap Cpl.cells))]
section
variable {E : Oracle} (g : Good E)
include g
theorem zcf.open {s:List UInt8} {l:List Evt} {i e:Int} (hr:Fc E zba [S s] (.tup [LE l,I i,I e])) (he:e=0\/e=28) (hl:l.length<=1000) (hb:∀e∈l,e.ns.length<=1000000/\e.vs.length<=1000000) (hz:erL l=0) {cx:Cx} {slot:Nat} {m:Mem} {K:V->Mem->Prop} (hf:Go.Evl.freeK cx.lv slot m=0)
  (k:K (.tup [.ptr ⟨cx.lv,slot,0⟩ 0 0,I 0]) (m++mSs cx.lv slot l (rgL l))):zcf E zhn [S s] cx slot m K:=by
 have h:In E 0 zhn [S s] [] fun v m'=>v= .tup [.ptr ⟨0,35,0⟩ 0 0,I 0]/\m'=mS 0 24 l (rgL l)++[(⟨0,35,0⟩,.cells zaa [.ref ⟨0,24,1⟩ 0 l.length l.length,I (rgL l).kn,.ref ⟨0,24,2⟩ 0 (rgL l).es.length (rgL l).es.length,.ref ⟨0,24,3⟩ 0 (rgL l).rs.length (rgL l).rs.length,.ref ⟨0,24,4⟩ 0 (rgL l).cs.length (rgL l).cs.length])]:=by
  have hp:=@zcf.replay E g l hl hb
  refine In.enter (f:=zhn) g.lim rfl rfl ?_
  rcases he with rfl|rfl
  all_goals repeat' ((conv=>whnf);first
  | refine Yz ?_
   | (apply zak.of;assumption)
   | (refine hp rfl hz ?_)
   | (refine Cmp.ff (fun h=>h rfl) ?_)
   | (exact⟨rfl,rfl⟩)
   | fail)
 obtain⟨v,m',h1,rfl,rfl⟩:=h.got
 refine⟨_,_,(_,m++mSs cx.lv slot l (rgL l)),h1,?_,k⟩
 unfold Evl.settle
 rw [hf]
 rfl
end
section
variable {E : Oracle} (g : Good E)
include g
theorem yn2:Fc E zi8 [] (B true):=by
 refine g.fn rfl rfl ?_
 repeat' ((conv=>whnf);first
 | refine Yz ?_
  | (apply zak.of;first |exact ao1 g|exact ao2 g|exact ao3 g|exact ao4 g|exact ao5 g|exact ao6 g|exact ao7 g|exact ao8 g|exact ao9 g|exact yrt g|exact yru g|exact yrv g|exact yrw g|exact yrx g|exact yry g|exact yrz g|exact yr0 g|exact yr1 g|exact yr2 g|exact yr3 g|exact yr4 g|exact yr5 g|exact yr6 g|exact yr7 g|exact yr8 g|exact yr9 g|exact ysa g)
  | (refine is0 g ?_)
  | (first |refine is1 g ?_|refine is2 g ?_|refine is3 g ?_|refine is4 g ?_|refine is5 g ?_|refine is6 g ?_|refine is7 g ?_|refine is8 g ?_|refine is9 g ?_|refine ysb g ?_|refine ysc g ?_)
  | (refine zco.mk (by simp only [zlc,List.length_cons,List.length_nil];omega) ?_)
  | (refine zam.step g.lim ?_)
  | (exact Ret.mk rfl))
end
end Go.Proofs.YtnabmkmhbncidaaGreatDoor.Co
