/-
  TopTowerRulings: what its law leans on, part 9.
-/
import Derived.Laws.RangeAny
import Derived.Lib.SplitLaws
import Derived.Test.YtkflcbhclegghaaGreatDoorEvX
import Derived.Test.YtkflcbhclegghaaGreatDoorEvY
import Derived.Test.YtkflcbhclegghaaGreatDoorRead
import Derived.Test.YtkflcbhclegghaaGreatDoorSpBase
import Derived.Test.YtkflcbhclegghaaGreatDoorTwh
namespace Go.Proofs.YtkflcbhclegghaaGreatDoor.Co
open Go Go.Evl
set_option maxHeartbeats 32000000
set_option maxRecDepth 100000
theorem zw9{α:Type}(p:α->Bool)(l:List α)(k:Nat)(h:k<l.length):(l.take (k+1)).filter p=(l.take k).filter p++if p l[k]then [l[k]]else []:=by
 rw[List.take_succ_eq_append_getElem h,List.filter_append];cases hp:p l[k]<;>simp[hp]
def ylj(r:Rgs)(x:Ent)(on:List UInt8):Bool:=(chF r.es.length r.es x).tail.any λy=>decide (y.nm=on)
def yub(r:Rgs)(on:List UInt8):List (List UInt8):=(r.es.filter λx=>ylj r x on).map Ent.nm
theorem yqe(x:Ent)(tl:List Ent):win ((x::tl).flatMap Ent.cells) (1*8) ((tl.length+1-1)*8)=tl.flatMap Ent.cells:=by
 unfold win;rw[List.flatMap_cons];rw[Nat.add_sub_cancel,List.drop_append_of_le_length (by rw[zwb];decide),List.drop_of_length_le (by rw[zwb];decide),List.nil_append,<-zae Ent.cells 8 zwb tl,List.take_length]
abbrev mK(ev:List Evt)(r:Rgs)(on:List UInt8)(out:List Ent):Mem:=mS 0 13 ev r++[(⟨1,2,0⟩,.cells zb8 [.ptr ⟨0,13,0⟩ 1 0]),(⟨1,3,0⟩,.cells zad [S on]),(⟨2,4,0⟩,.row false zag 8 0 []),(⟨2,5,0⟩,.row false zag 8 out.length (out.flatMap Ent.cells))]
abbrev yzc:List Evl.Id:=[⟨0,13,0⟩,⟨0,13,1⟩,⟨0,13,2⟩,⟨0,13,3⟩,⟨0,13,4⟩]
section
variable{E:Oracle}(g:Good E)
include g
theorem yin(ev:List Evt)(r:Rgs)(ho:OkR r)(on:List UInt8)(out0:List Ent)(k:Nat)(hk:k<r.es.length)(bx:Evl.Id×Ob)(hbx:bx=(⟨2,7,0⟩,.cells zag [S r.es[k].nm,S r.es[k].kd,S r.es[k].sr,S r.es[k].bs,I r.es[k].kn,I r.es[k].fr,I r.es[k].to,I r.es[k].mi])){slot:Nat}{K:V->Mem->Prop}(hK:K (B (ylj r r.es[k] on)) (mK ev r on out0++[bx])):
  In E 3 zc2 [yy3 r.es[k],.ptr ⟨1,2,0⟩ 0 0,.ptr ⟨1,3,0⟩ 0 0] (mK ev r on out0++[bx]) λv m'=>zxy ⟨2,3⟩ slot true v m' K:=by
 have hes:=ho.es;have hc:=zyk ho.bases r.es.length k (by omega) hk;have hcl:=ye3 r.es r.es.length r.es[k];unfold ylj at hK;generalize chF r.es.length r.es r.es[k]=c at*;have hml:(r.es.flatMap Ent.cells).length=r.es.length*8:=zae Ent.cells 8 zwb r.es;generalize hx:r.es[k]=x at*;subst hbx;refine In.enter (f:=zc2) g.lim rfl rfl ?_
 repeat'((conv=>whnf);first|refine Yz ?_|refine In.enter (f:=zdu) g.lim rfl rfl ?_|fail)
 refine zab.to (zab.by (σ:=List Ent×Ent×Nat×List Ent) g (λu=>(∃hk:u.2.2.1<r.es.length,r.es[u.2.2.1]=u.2.1)/\Ch r.es u.2.2.1 u.2.2.2/\∃pre,u.1=pre++[u.2.1]/\pre++u.2.2.2=c)
  (λu=>[(0,.ptr ⟨0,13,0⟩ 1 0),(5,.ref ⟨4,8,0⟩ 0 u.1.length u.1.length)])
  (λu=>mK ev r on out0++[(⟨2,7,0⟩,.cells zag [S x.nm,S x.kd,S x.sr,S x.bs,I x.kn,I x.fr,I x.to,I x.mi]),(⟨3,3,0⟩,.cells zag [S x.nm,S x.kd,S x.sr,S x.bs,I x.kn,I x.fr,I x.to,I x.mi]),(⟨4,3,0⟩,.cells zag [S x.nm,S x.kd,S x.sr,S x.bs,I x.kn,I x.fr,I x.to,I x.mi]),(⟨4,4,0⟩,.row false zag 8 0 []),(⟨4,8,0⟩,.row false zag 8 u.1.length (u.1.flatMap Ent.cells))])
  (λu=>u.2.2.2.length) ?_ ([x],x,k,c) ⟨⟨hk,hx⟩,hc,[],rfl,rfl⟩) rfl rfl
 have hc0:=hc;clear hc hx;rintro⟨out,y,k2,tl⟩⟨⟨hk2,hy⟩,hc,pre,h1,h2⟩ih;dsimp only at hk2 hy hc h1 h2 ih⊢;have hol:out.length=pre.length+1:=by rw[h1];simp
 have hlast:out[pre.length]'(by omega)=y:=by simp[h1]
 have hq:=z0t g zdq ev r y.bs (by omega);have hcl2:pre.length+tl.length<=257:=by rw[<-List.length_append,h2];omega
 have hmo:(out.flatMap Ent.cells).length=out.length*8:=zae Ent.cells 8 zwb out;cases hc with
 | stop k2 hk' h=>
  rw[hy]at h h2;rw[h,yfd,if_neg (by decide)]at hq;obtain rfl:out=c:=h1.trans h2;obtain⟨z,rest,rfl⟩:∃z rest,out=z::rest:=List.exists_cons_of_ne_nil (by intro e;rw[e]at hol;simp at hol)
  have hll:(z::rest).length=rest.length+1:=rfl;have hw8:=yqe z rest;have hmr:(rest.flatMap Ent.cells).length=rest.length*8:=zae Ent.cells 8 zwb rest;rw[List.tail_cons]at hK;clear ih
  repeat'((conv=>whnf);first|refine Yz ?_|(refine zgp.rec0 zwb pre.length (by omega) (by omega) rfl ?_;rw[hlast])|refine znw.of (r':=.d .nilp) yzc rfl rfl rfl rfl hq rfl rfl rfl ?_|rw[if_pos ⟨rfl,rfl⟩]|refine zem.mk ⟨rfl,by omega⟩ ?_|(refine zom.at 1 (rest.length+1) rfl (by omega) (by omega) ?_;rw[hw8])|refine In.enter (f:=zaz) g.lim rfl rfl ?_|refine In.enter (f:=zav) g.lim rfl rfl ?_|fail)
  refine zab.to (zab.upP g (λk=>[(0,.d (.list rest.length (rest.flatMap Ent.cells))),(1,.fn zct [] [.ptr ⟨1,3,0⟩ 0 0]),(7,I rest.length),(8,I k)]) (λ_=>mK ev r on out0++[(⟨2,7,0⟩,.cells zag [S x.nm,S x.kd,S x.sr,S x.bs,I x.kn,I x.fr,I x.to,I x.mi]),(⟨3,3,0⟩,.cells zag [S x.nm,S x.kd,S x.sr,S x.bs,I x.kn,I x.fr,I x.to,I x.mi])])
   (λk=>∀j,(hj:j<rest.length)->j<k->rest[j].nm≠on) rest.length (λm hm hp ihm=>?_) 0 (Nat.zero_le _) (λj _ h=>absurd h (Nat.not_lt_zero _))) rfl rfl
  by_cases hlt:m<rest.length
  ·have hwin:win (rest.flatMap Ent.cells) (((m:Nat):Int).toNat*8) 8=rest[m].cells:=by
    rw[Int.toNat_natCast];exact zei Ent.cells 8 zwb rest m hlt
   by_cases hb:rest[m].nm=on
   ·have ha:(rest.any λy=>decide (y.nm=on))=true:=List.any_eq_true.2 ⟨_,List.getElem_mem hlt,decide_eq_true hb⟩;rw[ha]at hK
    repeat'((conv=>whnf);first|refine Yz ?_|(rw[hwin];refine In.enter (f:=zct) g.lim rfl rfl ?_)|refine Cmp.tt hb ?_|exact hK|fail)
   have ihm:=ihm hlt λj hj hjm=>by
    by_cases e:j=m
    ·subst e;exact hb
    exact hp j hj (by omega)
   repeat'((conv=>whnf);first|refine Yz ?_|(rw[hwin];refine In.enter (f:=zct) g.lim rfl rfl ?_)|refine Cmp.ff hb ?_|refine zab.to ihm rfl rfl|fail)
  obtain rfl:m=rest.length:=by omega
  have ha:(rest.any λy=>decide (y.nm=on))=false:=by
   rw[List.any_eq_false];intro z hz;obtain⟨j,hj,rfl⟩:=List.mem_iff_getElem.1 hz;simpa using hp j hj hj
  rw[ha]at hK
  repeat'((conv=>whnf);first
  | refine Yz ?_
   | (exact hK)
   | fail)
 | step k2 j tl hk' h ht=>
  rw[hy]at h h2;rw[h,yfd,if_pos (by omega)]at hq
  obtain⟨hj,hj'⟩:∃hj:j<r.es.length,True:=by
   cases ht with
   | stop _ hj _=>exact⟨hj,trivial⟩
   | step _ _ _ hj _ _=>exact⟨hj,trivial⟩
  have hwin:win (r.es.flatMap Ent.cells) ((0+((j:Nat):Int).toNat)*8) 8=r.es[j].cells:=by
   rw[Nat.zero_add,Int.toNat_natCast];exact zei Ent.cells 8 zwb r.es j hj
  simp only[List.length_cons]at hcl2;have ih:=ih (out++[r.es[j]],r.es[j],j,tl) ⟨⟨hj,rfl⟩,ht,out,rfl,by rw[h1,List.append_assoc];exact h2⟩ (by simp);simp only[List.length_append,List.length_cons,List.length_nil,List.flatMap_append,List.flatMap_cons,List.flatMap_nil]at ih
  repeat'((conv=>whnf);first|refine Yz ?_|(refine zgp.rec0 zwb pre.length (by omega) (by omega) rfl ?_;rw[hlast])|refine znw.of (r':=.ptr ⟨0,13,2⟩ ((0+((j:Nat):Int).toNat)*8) r.es.length) yzc rfl rfl rfl rfl hq rfl rfl rfl ?_|rw[hwin]|refine zem.mk ⟨rfl,rfl,rfl,rfl,rfl,rfl,by dsimp only;omega,by omega⟩ ?_|refine zab.to ih rfl rfl|fail)
theorem z7r(ev:List Evt)(r:Rgs)(ho:OkR r)(on:List UInt8){slot:Nat}{K:V->Mem->Prop}(hK:K (.tup [if zph r.es on<0 then Ws []else Ws (yub r on),I (if zph r.es on<0 then 10 else 0)]) (mS 0 13 ev r)):
  In E 1 zdi [.ptr ⟨0,13,0⟩ 1 0,S on] (mS 0 13 ev r) λv m'=>zxy ⟨0,1⟩ slot true v m' K:=by
 have hes:=ho.es;have hml:(r.es.flatMap Ent.cells).length=r.es.length*8:=zae Ent.cells 8 zwb r.es;have hq0:=z0t g zdq ev r on (by omega);refine In.enter (f:=zdi) g.lim rfl rfl ?_
 by_cases hi:zph r.es on<0
 ·rw[if_pos hi,if_pos hi]at hK;rw[yfd,if_neg (by omega)]at hq0
  repeat'((conv=>whnf);first|refine Yz ?_|refine znw.of (r':=.d .nilp) yzc rfl rfl rfl rfl hq0 rfl rfl rfl ?_|exact hK|fail)
 rw[if_neg hi,if_neg hi]at hK;rw[yfd,if_pos (by omega)]at hq0;generalize zph r.es on=i0 at*
 repeat'((conv=>whnf);first|refine Yz ?_|refine znw.of (r':=.ptr ⟨0,13,2⟩ ((0+i0.toNat)*8) r.es.length) yzc rfl rfl rfl rfl hq0 rfl rfl rfl ?_|refine In.enter (f:=zd8) g.lim rfl rfl ?_|fail)
 refine zab.to (zab.by (σ:=Nat×List Ent) g (λu=>u.1<=r.es.length/\u.2=(r.es.take u.1).filter λx=>ylj r x on)
  (λu=>[(1,.fn zc2 [] [.ptr ⟨1,2,0⟩ 0 0,.ptr ⟨1,3,0⟩ 0 0]),(5,.ref ⟨2,5,0⟩ 0 u.2.length u.2.length),(8,.ref ⟨0,13,2⟩ 0 r.es.length r.es.length),(9,I r.es.length),(10,I u.1)])
  (λu=>mK ev r on u.2)
  (λu=>r.es.length-u.1) ?_ (0,[]) ⟨Nat.zero_le _,rfl⟩) rfl rfl
 rintro⟨k,out⟩⟨h1,h2⟩ih;dsimp only at h1 h2 ih⊢;have hmo:(out.flatMap Ent.cells).length=out.length*8:=zae Ent.cells 8 zwb out
 have hol:out.length<=256:=by
  rw[h2];refine Nat.le_trans (List.length_filter_le _ _) ?_;rw[List.length_take];omega
 by_cases hlt:k<r.es.length
 ·have hwin:win (r.es.flatMap Ent.cells) ((0+((k:Nat):Int).toNat)*8) 8=r.es[k].cells:=by
   rw[Nat.zero_add,Int.toNat_natCast];exact zei Ent.cells 8 zwb r.es k hlt
  cases hc:ylj r r.es[k] on with
  | true=>
   have ih:=ih (k+1,out++[r.es[k]]) ⟨by dsimp only;omega,by dsimp only;rw[zw9 _ _ _ hlt,<-h2,hc];rfl⟩ (by dsimp only;omega);simp only[List.length_append,List.length_cons,List.length_nil,List.flatMap_append,List.flatMap_cons,List.flatMap_nil,mK]at ih
   repeat'((conv=>whnf);first
   | refine Yz ?_
    | (rw[hwin])
    | (refine yin g ev r ho on out k hlt _ rfl (slot:=16) ?_;rw[hc])
    | (refine zem.mk ⟨rfl,rfl,rfl,rfl,rfl,rfl,by dsimp only;omega,by dsimp only;omega⟩ ?_)
    | (refine zab.to ih rfl rfl)
    | fail)
  | false=>
   have ih:=ih (k+1,out) ⟨by dsimp only;omega,by dsimp only;rw[zw9 _ _ _ hlt,<-h2,hc];simp⟩ (by dsimp only;omega)
   repeat'((conv=>whnf);first|refine Yz ?_|rw[hwin]|(refine yin g ev r ho on out k hlt _ rfl (slot:=16) ?_;rw[hc])|refine zab.to ih rfl rfl|fail)
 rw[List.take_of_length_le (by omega)]at h2;have hcl:yub r on=out.map Ent.nm:=by rw[yub,<-h2]
 rw[hcl]at hK;clear hcl h2 ih
 repeat'((conv=>whnf);first|refine Yz ?_|refine zem.mk ⟨rfl,by omega⟩ ?_|(rw[if_pos ⟨rfl,rfl⟩];refine In.enter (f:=zbp) g.lim rfl rfl ?_)|refine In.enter (f:=zbp) g.lim rfl rfl ?_|fail)
 refine zab.to (zab.by (σ:=List (List UInt8)) g (λu=>u.length<=out.length/\u=(out.take u.length).map Ent.nm)
  (λu=>[(1,.fn zlp [] []),(5,.ref ⟨2,5,0⟩ 0 u.length u.length),(8,.d (.list out.length (out.flatMap Ent.cells))),(9,I out.length),(10,I u.length)])
  (λu=>mS 0 13 ev r++[(⟨1,2,0⟩,.cells zb8 [.ptr ⟨0,13,0⟩ 1 0]),(⟨1,3,0⟩,.cells zad [S on]),(⟨2,4,0⟩,.row false zad 1 0 []),(⟨2,5,0⟩,.row false zad 1 u.length (u.map D.str))])
  (λu=>out.length-u.length) ?_ [] ⟨Nat.zero_le _,rfl⟩) rfl rfl
 rintro u⟨h3,h4⟩ih;dsimp only at h3 h4 ih⊢
 by_cases hlt2:u.length<out.length
 ·have hwin:win (out.flatMap Ent.cells) (((u.length:Nat):Int).toNat*8) 8=out[u.length].cells:=by
   rw[Int.toNat_natCast];exact zei Ent.cells 8 zwb out u.length hlt2
  have ih:=ih (u++[out[u.length].nm]) ⟨by rw[List.length_append,List.length_singleton];omega,by
   rw[List.length_append,List.length_singleton,List.take_succ_eq_append_getElem hlt2,List.map_append,<-h4];rfl⟩ (by rw[List.length_append,List.length_singleton];omega)
  simp only[List.length_append,List.length_cons,List.length_nil,List.map_append,List.map_cons,List.map_nil]at ih
  repeat'((conv=>whnf);first|refine Yz ?_|rw[hwin]|refine In.enter (f:=zlp) g.lim rfl rfl ?_|refine zem.mk ⟨rfl,rfl,rfl,rfl,rfl,rfl,by dsimp only;omega,by dsimp only;omega⟩ ?_|refine zab.to ih rfl rfl|fail)
 rw[List.take_of_length_le (by omega)]at h4;rw[<-h4]at hK
 repeat'((conv=>whnf);first|refine Yz ?_|refine zem.mk ⟨rfl,by omega⟩ ?_|(rw[if_pos ⟨rfl,rfl⟩];exact hK)|exact hK|fail)
def erR(l:List Evt)(on:List UInt8):Int:=zar [erL l,zar [if !zcd on then 8 else 0]]
theorem yo7(l:List Evt)(hl:l.length<=1000)(hb:∀e∈l,e.ns.length<=1000000/\e.vs.length<=1000000)(on:List UInt8):
  Fc E zki [LE l,S on] (.tup [if erR l on=0 then(if zph (rgL l).es on<0 then Ws []else Ws (yub (rgL l) on))else Ws [],I (if erR l on=0 then(if zph (rgL l).es on<0 then 10 else 0)else erR l on)]):=by
 refine g.fn rfl rfl ?_;have h2:=yjx g on;have ha:=@zd5.asked E g l hl hb [if !zcd on then 8 else 0] (by simp);have hn:=@zd5.askedNo E g l hl hb [if !zcd on then 8 else 0] (by simp);unfold erR;generalize(if !zcd on then(8:Int)else 0)=b at*
 by_cases hz:zar [erL l,zar [b]]=0
 ·rw[if_pos hz,if_pos hz];have ho:OkR (rgL l):=yo2 hl (by rw[zb2]at hz;exact hz _ (by simp))
  by_cases hi:zph (rgL l).es on<0
  ·have hr:=@z7r E g l (rgL l) ho on 21;simp only[if_pos hi]at hr⊢
   repeat'((conv=>whnf);first|refine Yz ?_|(apply zaf.of;assumption)|refine ha rfl hz ?_|refine hr ?_|refine Ret.mk rfl|fail)
  have hr:=@z7r E g l (rgL l) ho on 21;simp only[if_neg hi]at hr⊢
  repeat'((conv=>whnf);first|refine Yz ?_|(apply zaf.of;assumption)|refine ha rfl hz ?_|refine hr ?_|refine Ret.mk rfl|fail)
 rw[if_neg hz,if_neg hz]
 repeat'((conv=>whnf);first|refine Yz ?_|(apply zaf.of;assumption)|refine hn rfl hz ?_|refine Cmp.ff hz ?_|refine Ret.mk rfl|fail)
end
abbrev zm1(ks:List (List UInt8)):List (D×V):=ks.map λk=>(D.str k,B true)
theorem zsm:∀ks:List (List UInt8),Evl.idsM (zm1 ks)=[]
 |[]=>rfl
 |k::ks=>by
  unfold zm1;rw[List.map_cons,Evl.idsM];exact(List.nil_append _).trans (zsm ks)
abbrev mT(l:List Evt)(r:Rgs):Mem:=mS 0 17 l r++[(⟨1,6,0⟩,.row false zcc 2 0 [])]
abbrev mZ(l:List Evt)(r:Rgs)(ks:List (List UInt8)):Mem:=mT l r++[(⟨1,14,0⟩,.map (zm1 ks)),(⟨1,10,0⟩,.row false zcc 2 0 []),(⟨1,29,0⟩,.cells zd0 [.mp ⟨1,14,0⟩])]
abbrev lpK:Ob:=.loop [(2,.ptr ⟨4,2,0⟩ 0 0),(4,.ref ⟨4,4,0⟩ 0 0 0),(6,.fn zam [] [.ptr ⟨1,29,0⟩ 0 0])] [7] zff zfg 4 false false none
abbrev mR0(l:List Evt)(r:Rgs):Mem:=mT l r++[(⟨1,14,0⟩,.gone),(⟨1,10,0⟩,.row false zcc 2 0 []),(⟨1,29,0⟩,.cells zd0 [.mp ⟨1,14,0⟩]),(⟨2,2,0⟩,.row true zad 1 0 []),(⟨3,2,0⟩,.row true zad 1 0 []),(⟨4,2,0⟩,.cells zro [.d .nil]),(⟨4,4,0⟩,.row true zad 1 0 []),(⟨4,14,0⟩,lpK),(⟨5,5,0⟩,.gone)]
abbrev mR1(l:List Evt)(r:Rgs)(us:List (List UInt8))(last:Ob):Mem:=mT l r++[(⟨1,14,0⟩,.gone),(⟨1,10,0⟩,.row false zcc 2 0 []),(⟨1,29,0⟩,.cells zd0 [.mp ⟨1,14,0⟩]),(⟨2,2,0⟩,.row true zad 1 0 []),(⟨3,2,0⟩,.row true zad 1 0 []),(⟨4,2,0⟩,.cells zro [.ref ⟨4,11,0⟩ 0 us.length us.length]),(⟨4,4,0⟩,.row true zad 1 0 []),(⟨4,14,0⟩,lpK),(⟨5,5,0⟩,.gone),(⟨4,11,0⟩,last)]
abbrev yua(us:List (List UInt8)):Ob:=.row true zad 1 us.length (us.map D.str)
abbrev eK:Env:=[(0,.yld ⟨4,14,0⟩),(5,.it ⟨5,5,0⟩)]
section
variable{E:Oracle}(g:Good E)
include g
abbrev bdK(E:Oracle):Env->Mem->Option (Ex×Env×Mem):=λe m=>(zjb E ⟨5,6⟩ [xq 9 8 0,mq 3 9] e m).bind λq=>evC E ⟨5,6⟩ zcg (zdk [8,9] q.1) q.2
omit g in
theorem ytu{e:Env}{m:Mem}{K:Ex->Env->Mem->Prop}(h:Evl.wpOps E ⟨5,6⟩ [xq 9 8 0,mq 3 9] e m λe' m'=>wpC E ⟨5,6⟩ zcg (zdk [8,9] e') m' K):∃x e' m',bdK E e m=some (x,e',m')/\K x e' m':=by
 obtain⟨p,h1,h2⟩:=Evl.wpOps_ok _ _ _ _ h;obtain⟨x,e',m',h3,h4⟩:=Evl.wpC_ok _ _ _ _ h2;exact⟨x,e',m',by unfold bdK;rw[h1,Option.bind_some];exact h3,h4⟩
theorem yyd(l:List Evt)(r:Rgs)(k:List UInt8):∃x e' m',bdK E (put eK 8 (.tup [S k,B true])) (mR0 l r)=some (x,e',m')/\(x=.normal/\zsj (get e' 5) (.it ⟨5,5,0⟩)=true/\only [0,5] e'=eK/\gc (zoi (mR0 l r)) eK m'=mR1 l r [k] (yua [k])):=by
 refine ytu ?_
 repeat'((conv=>whnf);first|refine Yz ?_|refine Rnd.enter g.lim ?_|refine zem.mk ⟨by decide,rfl,by decide,by decide⟩ ?_|(exact⟨rfl,rfl,rfl,rfl⟩)|fail)
theorem yye(l:List Evt)(r:Rgs)(us:List (List UInt8))(hu:us.length<=1000000)(k:List UInt8):∃x e' m',bdK E (put eK 8 (.tup [S k,B true])) (mR1 l r us (yua us))=some (x,e',m')/\(x=.normal/\zsj (get e' 5) (.it ⟨5,5,0⟩)=true/\only [0,5] e'=eK/\gc (zoi (mR0 l r)) eK m'=mR1 l r (us++[k]) (yua (us++[k]))):=by
 refine ytu ?_
 repeat'((conv=>whnf);first|refine Yz ?_|refine Rnd.enter g.lim ?_|refine zem.mk ⟨rfl,rfl,rfl,rfl,rfl,rfl,by dsimp only;omega,by first|omega|(dsimp only;omega)⟩ ?_|(refine⟨rfl,rfl,rfl,?_⟩)|fail)
 simp only[mR1,yua,List.length_append,List.length_cons,List.length_nil,List.map_append,List.map_cons,List.map_nil]
 rfl
theorem yo4(l:List Evt)(r:Rgs):∀(ps us:List (List UInt8)),us.length+ps.length<=1000000->zg2 (bdK E) 5 ⟨5,5,0⟩ 0 1 8 [0,5] (zoi (mR0 l r)) (zm1 ps) eK (mR1 l r us (yua us))=some (.normal,eK,mR1 l r (us++ps) (yua (us++ps)))
 |[],us,_=>by
  rw[List.append_nil]
  rfl
 |p::ps,us,h=>by
  rw[List.length_cons]at h;obtain⟨x,e',m',h1,rfl,h2,h3,h4⟩:=yye g l r us (by omega) p;unfold zm1;rw[List.map_cons,zg2,h1,Option.bind_some];unfold zkd;dsimp only[Ex.on];rw[if_pos h2,h3,h4];have:=yo4 l r ps (us++[p]) (by rw[List.length_append,List.length_singleton];omega);rw[List.append_assoc]at this;exact this
theorem yv3(l:List Evt)(r:Rgs)(p:List UInt8)(ps:List (List UInt8))(hl:ps.length<=100000):zg2 (bdK E) 5 ⟨5,5,0⟩ 0 1 8 [0,5] (zoi (mR0 l r)) (zm1 (p::ps)) eK (mR0 l r)=some (.normal,eK,mR1 l r (p::ps) (yua (p::ps))):=by
 obtain⟨x,e',m',h1,rfl,h2,h3,h4⟩:=yyd g l r p;unfold zm1;rw[List.map_cons,zg2,h1,Option.bind_some];unfold zkd;dsimp only[Ex.on];rw[if_pos h2,h3,h4];exact yo4 g l r ps [p] (by simp;omega)
omit g in
theorem yca{ks:List (List UInt8)}{p:List (D×V)}(h:p.Perm (zm1 ks)):∃us:List (List UInt8),p=zm1 us/\us.Perm ks:=by
 refine⟨p.map λe=>match e.1 with
  |.str s=>s
  |_=>[],?_,?_⟩
 ·unfold zm1;rw[List.map_map]
  symm
  have:∀x∈p,((λk=>(D.str k,B true))∘λe:D×V=>match e.1 with
   |.str s=>s
   |_=>[]) x=x:=λx hx=>by
   have:=h.subset hx;obtain⟨k,_,rfl⟩:=List.mem_map.1 this
   rfl
  calc List.map _ p=List.map id p:=List.map_congr_left this
   _=p:=List.map_id p
 have h1:=h.map λe:D×V=>match e.1 with
  |.str s=>s
  |_=>[]
 refine h1.trans ?_;unfold zm1;rw[List.map_map]
 have:List.map ((λe:D×V=>match e.1 with
  |.str s=>s
  |_=>[])∘λk=>(D.str k,B true)) ks=ks:=by
  calc _=List.map id ks:=List.map_congr_left λ_ _=>rfl
   _=ks:=List.map_id ks
 rw[this]
abbrev mK1(l:List Evt)(r:Rgs)(ks:List (List UInt8)):Mem:=mT l r++[(⟨1,14,0⟩,.map (zm1 ks)),(⟨1,10,0⟩,.row false zcc 2 0 []),(⟨1,29,0⟩,.cells zd0 [.mp ⟨1,14,0⟩]),(⟨2,2,0⟩,.row true zad 1 0 []),(⟨3,2,0⟩,.row true zad 1 0 []),(⟨4,2,0⟩,.cells zro [.d .nil]),(⟨4,4,0⟩,.row true zad 1 0 []),(⟨4,14,0⟩,lpK)]
abbrev mRn(l:List Evt)(r:Rgs)(mp:Ob)(n:Nat)(last:Ob):Mem:=mT l r++[(⟨1,14,0⟩,mp),(⟨1,10,0⟩,.row false zcc 2 0 []),(⟨1,29,0⟩,.cells zd0 [.mp ⟨1,14,0⟩]),(⟨2,2,0⟩,.row true zad 1 0 []),(⟨3,2,0⟩,.row true zad 1 0 []),(⟨4,2,0⟩,.cells zro [.ref ⟨4,11,0⟩ 0 n n]),(⟨4,4,0⟩,.row true zad 1 0 []),(⟨4,14,0⟩,lpK),(⟨5,5,0⟩,.gone),(⟨4,11,0⟩,last)]
abbrev e1K:Env:=[(0,.yld ⟨4,14,0⟩),(1,.ptr ⟨1,29,0⟩ 0 0),(4,.mp ⟨1,14,0⟩)]
theorem yzw(l:List Evt)(r:Rgs)(k:List UInt8)(kr:List (List UInt8))(hl:kr.length<=100000):
  znm (bdK E) ⟨5,6⟩ 5 (.t 4) 0 1 8 [0,5] e1K (mK1 l r (k::kr))=some (.normal,eK,mRn l r (.map (zm1 (k::kr))) (kr.length+1) (.bag zad 1 (kr.length+1) ((k::kr).map D.str))):=by
 have hj:zmc true (mR0 l r) (mRn l r .gone (kr.length+1) (.row true zad 1 (kr.length+1) ((k::kr).map D.str)))=mRn l r .gone (kr.length+1) (.bag zad 1 (kr.length+1) ((k::kr).map D.str)):=by
  simp[zmc,ymx,ycj,Evl.look]
 refine(z8i (o:=⟨1,14,0⟩) (es:=zm1 (k::kr)) rfl rfl (i:=⟨5,5,0⟩) (m2:=mR0 l r) (e2:=eK) (e3:=eK) rfl rfl rfl
  (λp=>mRn l r .gone (kr.length+1) (.row true zad 1 (kr.length+1) (p.map λe=>e.1))) (λp hp=>?_) (mj:=mRn l r .gone (kr.length+1) (.bag zad 1 (kr.length+1) ((k::kr).map D.str))) ?_ (λp hp=>?_) rfl).trans rfl
 ·obtain⟨us,rfl,hu⟩:=yca hp;have hul:us.length=kr.length+1:=hu.length_eq;obtain⟨a,b,rfl⟩:∃a b,us=a::b:=List.exists_cons_of_ne_nil (by rintro rfl;simp at hul)
  rw[yv3 g l r a b (by simp at hul;omega)];dsimp only[mR1,yua];rw[hul]
  have:(zm1 (a::b)).map (λe=>e.1)=(a::b).map D.str:=by
   unfold zm1;rw[List.map_map]
   rfl
  rw[this]
 ·have:(zm1 (k::kr)).map (λe=>e.1)=(k::kr).map D.str:=by
   unfold zm1;rw[List.map_map]
   rfl
  rw[this];exact hj
 obtain⟨us,rfl,hu⟩:=yca hp
 have:(zm1 us).map (λe=>e.1)=us.map D.str:=by
  unfold zm1;rw[List.map_map]
  rfl
 rw[this];have hb:yuv 1 (kr.length+1) ((k::kr).map D.str) (us.map D.str)=true:=yuw (hu.symm.map _) (by rw[List.length_map];exact hu.length_eq);exact LeJ.ok (.cells<|.row<|.row<|.row<|.row<|.row<|.gone<|.row<|.cells<|.row<|.row<|.cells<|.row<|.loop rfl rfl<|.gone<|.bag hb .nil)
omit g in
theorem yxr(l:List Evt)(r:Rgs):znm (bdK E) ⟨5,6⟩ 5 (.t 4) 0 1 8 [0,5] e1K (mK1 l r [])=some (.normal,eK,mK1 l r []++[(⟨5,5,0⟩,.gone)]):=by
 have hj:zmc true (mR0 l r) (mR0 l r)=mR0 l r:=by
  simp[zmc,ymx,ycj,Evl.look]
 refine(z8i (o:=⟨1,14,0⟩) (es:=[]) rfl rfl (i:=⟨5,5,0⟩) (m2:=mR0 l r) (e2:=eK) (e3:=eK) rfl rfl rfl (λ_=>mR0 l r) (λp hp=>?_) (mj:=mR0 l r) hj (λp hp=>?_) rfl).trans rfl
 ·have:=hp.symm.nil_eq;subst this
  rfl
 exact LeJ.ok (.cells<|.row<|.row<|.row<|.row<|.row<|.gone<|.row<|.cells<|.row<|.row<|.cells<|.row<|.loop rfl rfl<|.gone .nil)
abbrev mA3(l:List Evt)(r:Rgs)(ks:List (List UInt8))(last:Ob):Mem:=mZ l r ks++[(⟨2,2,0⟩,.row true zad 1 0 []),(⟨2,5,0⟩,last)]
omit g in
theorem yp6{ks:List (List UInt8)}{p:List D}(h:p.Perm (ks.map D.str)):∃us:List (List UInt8),p=us.map D.str/\us.Perm ks:=by
 refine⟨p.map λe=>match e with
  |.str s=>s
  |_=>[],?_,?_⟩
 ·rw[List.map_map]
  symm
  have:∀x∈p,(D.str∘λe:D=>match e with
   |.str s=>s
   |_=>[]) x=x:=λx hx=>by
   have:=h.subset hx;obtain⟨k,_,rfl⟩:=List.mem_map.1 this
   rfl
  calc List.map _ p=List.map id p:=List.map_congr_left this
   _=p:=List.map_id p
 have h1:=h.map λe:D=>match e with
  |.str s=>s
  |_=>[]
 refine h1.trans ?_;rw[List.map_map]
 have:List.map ((λe:D=>match e with
  |.str s=>s
  |_=>[])∘D.str) ks=ks:=by
  calc _=List.map id ks:=List.map_congr_left λ_ _=>rfl
   _=ks:=List.map_id ks
 rw[this]
omit g in
theorem ylr{a b:List (List UInt8)}(h:a.Perm b):zof a=zof b:=by
 have hanti:∀x y:List UInt8,zal y x=false->zal x y=false->x=y:=by
  intro x;induction x with
  |nil=>intro y _ h2;cases y with
   |nil=>rfl
   |cons=>simp[zal]at h2
  |cons c x ih=>intro y h1 h2;cases y with
   |nil=>simp[zal]at h1
   |cons d y=>
    simp only[zal,Bool.or_eq_false_iff,decide_eq_false_iff_not,Bool.and_eq_false_iff,beq_eq_false_iff_ne,ne_eq,UInt8.not_lt]at h1 h2;have e:c=d:=UInt8.le_antisymm h1.1 h2.1;subst e;rw[ih y (h1.2.resolve_left (λh=>h rfl)) (h2.2.resolve_left (λh=>h rfl))]
 exact List.Perm.eq_of_pairwise (le:=λx y=>zal y x=false) (λx y _ _ h1 h2=>hanti x y h1 h2) (zm4 a) (zm4 b) ((zjj a).trans (h.trans (zjj b).symm))
theorem ywj(hx:ext n_slices_Sort_Lstring_string=some sortXS)(l:List Evt)(r:Rgs)(ks:List (List UInt8))(n slot:Nat)(hn:ks.length=n)(h0:n≠0)(hb:n<=100000):
  zqt (λm=>zlz E ⟨2,3⟩ slot true true (.fn n_slices_Sort_Lstring_string [] []) [.ref ⟨2,5,0⟩ 0 n n] m) (mA3 l r ks (.bag zad 1 n (ks.map D.str))) (.ref ⟨2,5,0⟩ 0 n n)=some (.tup [],mA3 l r ks (.row true zad 1 n ((zof ks).map D.str))):=by
 have hj:zmc false (mA3 l r ks (.bag zad 1 n (ks.map D.str))) (mA3 l r ks (.row true zad 1 n ((zof ks).map D.str)))=mA3 l r ks (.row true zad 1 n ((zof ks).map D.str)):=by
  simp[zmc,ycj]
 refine(z0a (n:=n) (xs:=ks.map D.str) rfl (by rw[List.length_map];exact hn) (.tup [],mA3 l r ks (.row true zad 1 n ((zof ks).map D.str))) (λp hp=>?_) ?_).trans (by rw[hj])
 ·obtain⟨us,rfl,hu⟩:=yp6 hp;have hul:us.length=n:=hu.length_eq.trans hn
  have key:Evl.callW E ⟨2,3⟩ slot true true (.fn n_slices_Sort_Lstring_string [] []) [.ref ⟨2,5,0⟩ 0 n n] (mA3 l r ks (.row true zad 1 n (us.map D.str))) λv m=>v=.tup []/\m=mA3 l r ks (.row true zad 1 n ((zof ks).map D.str)):=by
   repeat'((conv=>whnf);first|refine Yz ?_|(simp only[Evl.idsAll,Evl.idsO,zsm,List.nil_append])|refine In.extern (v:=.tup []) (m':=mA3 l r ks (.row true zad 1 n ((zof ks).map D.str))) g.lim hx ?_ ?_|(exact⟨rfl,rfl⟩)|(exact⟨trivial,rfl⟩)|fail)
   rw[<-ylr hu]
   show(if n=0/\n=0/\n=0 then some (V.tup [],mA3 l r ks (.row true zad 1 n (us.map D.str)))else if n=n/\n=n/\n≠0/\n<4611686018427387904 then(match Evl.strsOf (us.map D.str)with
    |some zs=>some (V.tup [],upd (mA3 l r ks (.row true zad 1 n (us.map D.str))) ⟨2,5,0⟩ (.row true zad 1 n ((zof zs).map D.str)))
    |none=>none)else none)=_
   rw[if_neg (λh=>h0 h.1),if_pos ⟨rfl,rfl,h0,by omega⟩,z8u]
   rfl
  obtain⟨q,h1,h2,h3⟩:=Evl.callW_ok key;have:(q:V×Mem)=(.tup [],mA3 l r ks (.row true zad 1 n ((zof ks).map D.str))):=Prod.ext h2 h3;rw[<-this];exact h1
 rw[hj];exact LeJ.ok (.cells<|.row<|.row<|.row<|.row<|.row<|.map (z9o _)<|.row<|.cells<|.row<|.row .nil)
theorem ytb(hx:ext n_slices_Sort_Lstring_string=some sortXS)(l:List Evt)(r:Rgs)(slot:Nat):
  zqt (λm=>zlz E ⟨2,3⟩ slot true true (.fn n_slices_Sort_Lstring_string [] []) [.d .nil] m) (mZ l r []++[(⟨2,2,0⟩,.row true zad 1 0 [])]) (.d .nil)=some (.tup [],mZ l r []++[(⟨2,2,0⟩,.row true zad 1 0 [])]):=by
 have key:Evl.callW E ⟨2,3⟩ slot true true (.fn n_slices_Sort_Lstring_string [] []) [.d .nil] (mZ l r []++[(⟨2,2,0⟩,.row true zad 1 0 [])]) λv m=>v=.tup []/\m=mZ l r []++[(⟨2,2,0⟩,.row true zad 1 0 [])]:=by
  repeat'((conv=>whnf);first|refine Yz ?_|refine In.extern (v:=.tup []) (m':=mZ l r []++[(⟨2,2,0⟩,.row true zad 1 0 [])]) g.lim hx rfl ?_|(exact⟨rfl,rfl⟩)|(exact⟨trivial,rfl⟩)|fail)
 obtain⟨q,h1,h2,h3⟩:=Evl.callW_ok key;have:(q:V×Mem)=(.tup [],mZ l r []++[(⟨2,2,0⟩,.row true zad 1 0 [])]):=Prod.ext h2 h3;rw[<-this];exact h1
theorem ycp(hx:ext n_slices_Sort_Lstring_string=some sortXS)(l:List Evt)(r:Rgs)(ks:List (List UInt8))(hl:ks.length<=1000){slot:Nat}{K:V->Mem->Prop}(hK0:ks=[]->K (.d .nil) (mZ l r ks))(hK:ks≠[]->K (Ws (zof ks)) (mZ l r ks)):
  In E 2 zfv [.fn zam [] [.ptr ⟨1,29,0⟩ 0 0]] (mZ l r ks) λv m'=>zxy ⟨1,2⟩ slot true v m' K:=by
 refine In.enter (f:=zfv) g.lim rfl rfl ?_;have hs:=(zjj ks).length_eq;cases ks with
 | nil=>
  have h0:=yxr (E:=E) l r;have hK:=hK0 rfl
  repeat'((conv=>whnf);first
  | refine Yz ?_
   | (refine In.enter (f:=ze7) g.lim rfl rfl ?_)
   | (refine In.enter (f:=zcz) g.lim rfl rfl ?_)
   | (refine In.enter (f:=zam) g.lim rfl rfl ?_)
   | (refine⟨_,_,_,h0,?_⟩)
   | (refine zto.mk ⟨(.d .nil,mZ l r []++[(⟨2,2,0⟩,.row true zad 1 0 []),(⟨3,2,0⟩,.row true zad 1 0 [])]),rfl,?_⟩)
   | (refine zto.mk ⟨(.d .nil,mZ l r []++[(⟨2,2,0⟩,.row true zad 1 0 [])]),rfl,?_⟩)
   | (refine⟨_,ytb g hx l r 7,?_⟩)
   | (exact hK)
   | fail)
 | cons k kr=>
  have h1:=yzw g l r k kr (by simp at hl;omega);have hK:=hK (by simp);rw[Ws,hs,List.length_cons]at hK
  repeat'((conv=>whnf);first|refine Yz ?_|(simp only[Evl.idsAll,Evl.idsO,zsm,List.nil_append])|refine In.enter (f:=ze7) g.lim rfl rfl ?_|refine In.enter (f:=zcz) g.lim rfl rfl ?_|refine In.enter (f:=zam) g.lim rfl rfl ?_|(refine⟨_,_,_,h1,?_⟩)|refine zto.mk ⟨(.ref ⟨3,4,0⟩ 0 (kr.length+1) (kr.length+1),mZ l r (k::kr)++[(⟨2,2,0⟩,.row true zad 1 0 []),(⟨3,2,0⟩,.row true zad 1 0 []),(⟨3,4,0⟩,.bag zad 1 (kr.length+1) ((k::kr).map D.str))]),rfl,?_⟩|refine zto.mk ⟨(.ref ⟨2,5,0⟩ 0 (kr.length+1) (kr.length+1),mA3 l r (k::kr) (.bag zad 1 (kr.length+1) ((k::kr).map D.str))),rfl,?_⟩|(refine⟨_,ywj g hx l r (k::kr) (kr.length+1) 7 rfl (by omega) (by simp at hl;omega),?_⟩)|refine zem.mk ⟨rfl,by omega⟩ ?_|exact hK|(simp only[and_self,if_true];exact hK)|fail)
end
structure Slt where
 sr:List UInt8
 mi:Int
def Slt.cells(t:Slt):List D:=[.str t.sr,DI t.mi]
theorem yj4(t:Slt):t.cells.length=2:=rfl
abbrev LS2(l:List Slt):V:=.d (.list l.length (l.flatMap Slt.cells))
def yeg(ks:List (List UInt8))(s:List UInt8):List (List UInt8):=if s∈ks then ks else ks++[s]
def srK(es:List Ent):List (List UInt8):=es.foldl (λks x=>yeg ks x.sr) []
theorem ytg(es:List Ent)(k:Nat)(h:k<es.length):srK (es.take (k+1))=yeg (srK (es.take k)) es[k].sr:=by
 unfold srK;rw[List.take_succ_eq_append_getElem h,List.foldl_append]
 rfl
theorem yqz(ks:List (List UInt8))(s:List UInt8):(yeg ks s).length<=ks.length+1:=by
 unfold yeg
 split
 ·omega
 simp
theorem ywk(es:List Ent):(srK es).length<=es.length:=by
 have key:∀(es:List Ent)(ks:List (List UInt8)),(es.foldl (λks x=>yeg ks x.sr) ks).length<=ks.length+es.length:=by
  intro es;induction es with
  |nil=>intro ks;simp
  |cons x es ih=>
   intro ks;rw[List.foldl_cons];have:=ih (yeg ks x.sr);have:=yqz ks x.sr;simp only[List.length_cons];omega
 have:=key es [];simpa[srK]using this
theorem ydr(s:List UInt8):∀ks:List (List UInt8),Evl.setE (.str s) (B true) (zm1 ks)=some (zm1 (yeg ks s))
 |[]=>rfl
 |q::ks=>by
  unfold zm1;rw[List.map_cons,Evl.setE];have he:Evl.eqD (.str s) (.str q)=some (s==q):=rfl;simp only[he]
  by_cases e:s=q
  ·subst e;simp[yeg]
  have:(s==q)=false:=beq_eq_false_iff_ne.2 e;rw[this];dsimp only;have ih:=ydr s ks;unfold zm1 at ih;rw[ih]
  by_cases hm:s∈ks
  ·simp[yeg,hm]
  have:¬s∈q::ks:=by simp[e,hm]
  simp[yeg,hm,this]
def ywh(r:Rgs)(kn d:Int)(ks:List (List UInt8)):List Slt:=(ks.filter λs=>decide (yi2 r s kn d≠1440)).map λs=>⟨s,yi2 r s kn d⟩
theorem ycf(p:List UInt8->Bool)(l:List (List UInt8))(k:Nat)(h:k<l.length):(l.take (k+1)).filter p=(l.take k).filter p++if p l[k]then [l[k]]else []:=zw9 p l k h
def ypr(r:Rgs)(kn d:Int):List Slt:=ywh r kn d (zof (srK r.es))
section
variable{E:Oracle}(g:Good E)
include g
theorem yrq(hx:ext n_slices_Sort_Lstring_string=some sortXS)(l:List Evt)(r:Rgs)(ho:OkR r)(kn d:Int){slot:Nat}{K:V->Mem->Prop}(hK:K (LS2 (ypr r kn d)) (mS 0 17 l r)):
  In E 1 zdv [.ptr ⟨0,17,0⟩ 1 0,I kn,I d] (mS 0 17 l r) λv m'=>zxy ⟨0,1⟩ slot true v m' K:=by
 have hes:=ho.es;have hml:(r.es.flatMap Ent.cells).length=r.es.length*8:=zae Ent.cells 8 zwb r.es;refine In.enter (f:=zdv) g.lim rfl rfl ?_
 repeat'((conv=>whnf);first|refine Yz ?_|fail)
 refine zab.to (zab.up g (λk=>[(0,.ptr ⟨0,17,0⟩ 1 0),(1,I kn),(2,I d),(7,.mp ⟨1,14,0⟩),(18,.ref ⟨0,17,2⟩ 0 r.es.length r.es.length),(19,I r.es.length),(20,I k)])
  (λk=>mT l r++[(⟨1,14,0⟩,.map (zm1 (srK (r.es.take k))))]) r.es.length (λk hk ih=>?_) 0 (Nat.zero_le _)) rfl rfl
 by_cases hlt:k<r.es.length
 ·have ih:=ih hlt;rw[ytg r.es k hlt]at ih
  have hwin:win (r.es.flatMap Ent.cells) ((0+((k:Nat):Int).toNat)*8) 8=r.es[k].cells:=by
   rw[Nat.zero_add,Int.toNat_natCast];exact zei Ent.cells 8 zwb r.es k hlt
  have hse:=ydr r.es[k].sr (srK (r.es.take k))
  repeat'((conv=>whnf);first|refine Yz ?_|rw[hwin]|refine yql.mk ⟨_,hse,?_⟩|(simp only[Evl.idsAll,Evl.idsO,zsm,List.nil_append])|refine zab.to ih rfl rfl|fail)
 clear ih;rw[List.take_of_length_le (by omega)];have hkl:(srK r.es).length<=256:=Nat.le_trans (ywk r.es) hes;unfold ypr at hK;generalize srK r.es=ks at*;have hsl:=(zjj ks).length_eq
 by_cases hks:ks=[]
 ·subst hks
  repeat'((conv=>whnf);first|refine Yz ?_|refine In.enter (f:=zb0) g.lim rfl rfl ?_|refine zto.mk ⟨(.fn zam [] [.ptr ⟨1,29,0⟩ 0 0],mZ l r []),rfl,?_⟩|refine ycp g hx l r [] (by simp) (slot:=30) (λ_=>?_) (λh=>absurd rfl h)|refine zab.step g.lim ?_|refine zem.mk ⟨rfl,by omega⟩ ?_|exact hK|fail)
 ·repeat'((conv=>whnf);first|refine Yz ?_|(simp only[Evl.idsAll,Evl.idsO,zsm,List.nil_append])|refine In.enter (f:=zb0) g.lim rfl rfl ?_|refine zto.mk ⟨(.fn zam [] [.ptr ⟨1,29,0⟩ 0 0],mZ l r ks),rfl,?_⟩|refine ycp g hx l r ks (by omega) (slot:=30) (λh=>absurd h hks) (λ_=>?_)|fail)
  generalize zof ks=ss at*
  refine zab.to (zab.by (σ:=Nat×List Slt) g (λu=>u.1<=ss.length/\u.2=ywh r kn d (ss.take u.1))
   (λu=>[(0,.ptr ⟨0,17,0⟩ 1 0),(1,I kn),(2,I d),(10,.ref ⟨1,10,0⟩ 0 u.2.length u.2.length),(30,Ws ss),(31,I ss.length),(32,I u.1)])
   (λu=>mT l r++[(⟨1,14,0⟩,.map (zm1 ks)),(⟨1,10,0⟩,.row false zcc 2 u.2.length (u.2.flatMap Slt.cells)),(⟨1,29,0⟩,.cells zd0 [.mp ⟨1,14,0⟩])])
   (λu=>ss.length-u.1) ?_ (0,[]) ⟨Nat.zero_le _,rfl⟩) rfl rfl
  rintro⟨k,out⟩⟨i1,i2⟩ih;dsimp only at i1 i2 ih⊢;have hmo:(out.flatMap Slt.cells).length=out.length*2:=zae Slt.cells 2 yj4 out
  have hol:out.length<=256:=by
   rw[i2,ywh,List.length_map];refine Nat.le_trans (List.length_filter_le _ _) ?_;rw[List.length_take];omega
  by_cases hlt:k<ss.length
  ·have hq:=ysd g zdq l r ho ss[k] kn d
   have ht:ywh r kn d (ss.take (k+1))=out++(if decide (yi2 r ss[k] kn d≠1440)then [ss[k]]else []).map λs=>(⟨s,yi2 r s kn d⟩:Slt):=by
    rw[i2,ywh,ycf _ _ _ hlt,List.map_append]
    rfl
   have hpk:∀{K:D->Prop},K (.str ss[k])->zgp (ss.map D.str) (((k:Nat):Int).toNat*1) K:=λh=>zgp.ws k rfl hlt h
   by_cases hy:yi2 r ss[k] kn d=1440
   ·have ih:=ih (k+1,out) ⟨by dsimp only;omega,by dsimp only;rw[ht,if_neg (by simp[hy])];simp⟩ (by dsimp only;omega);rw[hy]at hq;generalize ss[k]=s at*
    repeat'((conv=>whnf);first|refine Yz ?_|(simp only[Evl.idsAll,Evl.idsO,zsm,List.nil_append])|refine hpk ?_|refine znw.of (r':=I 1440) [⟨0,17,0⟩,⟨0,17,1⟩,⟨0,17,2⟩,⟨0,17,3⟩,⟨0,17,4⟩] rfl rfl rfl rfl hq rfl rfl rfl ?_|refine Cmp.tt rfl ?_|refine zab.to ih rfl rfl|fail)
   have ih:=ih (k+1,out++[⟨ss[k],yi2 r ss[k] kn d⟩]) ⟨by dsimp only;omega,by dsimp only;rw[ht,if_pos (decide_eq_true hy)];rfl⟩ (by dsimp only;omega);simp only[List.length_append,List.length_cons,List.length_nil,List.flatMap_append,List.flatMap_cons,List.flatMap_nil]at ih;generalize ss[k]=s at*;generalize yi2 r s kn d=y at*
   repeat'((conv=>whnf);first|refine Yz ?_|(simp only[Evl.idsAll,Evl.idsO,zsm,List.nil_append])|refine hpk ?_|refine znw.of (r':=I y) [⟨0,17,0⟩,⟨0,17,1⟩,⟨0,17,2⟩,⟨0,17,3⟩,⟨0,17,4⟩] rfl rfl rfl rfl hq rfl rfl rfl ?_|refine Cmp.tt rfl ?_|refine Cmp.ff hy ?_|refine Cmp.ff (λh=>hy h.2) ?_|refine Cmp.ff (λh=>hy h.2.1) ?_|refine zem.mk ⟨rfl,rfl,rfl,rfl,rfl,rfl,by dsimp only;omega,by first|omega|(dsimp only;omega)⟩ ?_|refine zab.to ih rfl rfl|fail)
  rw[List.take_of_length_le (by omega)]at i2;rw[<-i2]at hK
  repeat'((conv=>whnf);first|refine Yz ?_|refine zem.mk ⟨rfl,by omega⟩ ?_|refine zem.mk ⟨trivial,trivial⟩ ?_|(simp only[and_self,if_true];exact hK)|fail)
def erS(l:List Evt)(kn d:Int):Int:=zar [erL l,zar [rng kn 0 99999,rng d 0 99999]]
theorem yyg(hx:ext n_slices_Sort_Lstring_string=some sortXS)(l:List Evt)(hl:l.length<=1000)(hb:∀e∈l,e.ns.length<=1000000/\e.vs.length<=1000000)(kn d:Int):
  Fc E zso [LE l,I kn,I d] (.tup [if erS l kn d=0 then LS2 (ypr (rgL l) kn d)else LS2 [],I (erS l kn d)]):=by
 refine g.fn rfl rfl ?_;have h2:=yui g kn;have h3:=yui g d;have ha:=@zd5.asked E g l hl hb [rng kn 0 99999,rng d 0 99999] (by simp);have hn:=@zd5.askedNo E g l hl hb [rng kn 0 99999,rng d 0 99999] (by simp);unfold erS;generalize rng kn 0 99999=b at*;generalize rng d 0 99999=c at*
 by_cases hz:zar [erL l,zar [b,c]]=0
 ·rw[if_pos hz,hz];have ho:OkR (rgL l):=yo2 hl (by rw[zb2]at hz;exact hz _ (by simp))
  repeat'((conv=>whnf);first|refine Yz ?_|(apply zaf.of;assumption)|refine ha rfl hz ?_|refine yrq g hx l (rgL l) ho kn d (slot:=26) ?_|refine Ret.mk rfl|fail)
 rw[if_neg hz]
 repeat'((conv=>whnf);first|refine Yz ?_|(apply zaf.of;assumption)|refine hn rfl hz ?_|refine Cmp.ff hz ?_|refine Ret.mk rfl|fail)
end
def yz9(l:List (List UInt8)):Prop:=l.Pairwise λa b=>zal a b=true
theorem yhd(x y:List UInt8)(h:zal y x=false)(hn:x≠y):zal x y=true:=by
 cases hh:zal x y with
 |true=>rfl
 |false=>
  exfalso;apply hn
  have key:∀x y:List UInt8,zal y x=false->zal x y=false->x=y:=by
   intro x;induction x with
   |nil=>intro y _ h2;cases y with
    |nil=>rfl
    |cons=>simp[zal]at h2
   |cons c x ih=>intro y h1 h2;cases y with
    |nil=>simp[zal]at h1
    |cons d y=>
     simp only[zal,Bool.or_eq_false_iff,decide_eq_false_iff_not,Bool.and_eq_false_iff,beq_eq_false_iff_ne,ne_eq,UInt8.not_lt]at h1 h2;have e:c=d:=UInt8.le_antisymm h1.1 h2.1;subst e;rw[ih y (h1.2.resolve_left (λh=>h rfl)) (h2.2.resolve_left (λh=>h rfl))]
  exact key x y h hh
theorem ypt{ks:List (List UInt8)}(h:ks.Nodup):yz9 (zof ks):=by
 have h1:=zm4 ks;have h2:(zof ks).Nodup:=(zjj ks).nodup_iff.2 h;unfold yz9;exact(h1.and h2).imp λh=>yhd _ _ h.1 h.2
theorem yke{ks:List (List UInt8)}{s:List UInt8}(h:ks.Nodup):(yeg ks s).Nodup:=by
 unfold yeg
 split
 ·exact h
 rename_i hn;rw[List.nodup_append];refine⟨h,by simp,λa ha b hb=>?_⟩;rw[List.mem_singleton]at hb;subst hb;rintro rfl;exact hn ha
theorem yp0(es:List Ent):(srK es).Nodup:=by
 have key:∀(es:List Ent)(ks:List (List UInt8)),ks.Nodup->(es.foldl (λks x=>yeg ks x.sr) ks).Nodup:=by
  intro es;induction es with
  |nil=>intro ks h;exact h
  |cons x es ih=>intro ks h;exact ih _ (yke h)
 exact key es [] List.nodup_nil
section
variable{E:Oracle}(g:Good E)
include g
theorem ysh(l:List Slt)(hl:l.length<=1000000):Fc E zmh [LS2 l,LS2 l] (B true):=by
 refine g.fn rfl rfl ?_;have hml:(l.flatMap Slt.cells).length=l.length*2:=zae Slt.cells 2 yj4 l
 repeat'((conv=>whnf);first|refine Yz ?_|fail)
 refine zab.to (zab.up g (λk=>[(0,LS2 l),(1,LS2 l),(5,I k)]) (λ_=>[]) l.length (λk hk ih=>?_) 0 (Nat.zero_le _)) rfl rfl
 by_cases hlt:k<l.length
 ·have ih:=ih hlt
  have hwin:win (l.flatMap Slt.cells) (((k:Nat):Int).toNat*2) 2=l[k].cells:=by
   rw[Int.toNat_natCast];exact zei Slt.cells 2 yj4 l k hlt
  change win _ _ _=[D.str l[k].sr,DI l[k].mi]at hwin
  repeat'((conv=>whnf);first|refine Yz ?_|rw[hwin]|refine Cmp.tt ⟨rfl,rfl⟩ ?_|refine Cmp.tt ⟨rfl,rfl,trivial⟩ ?_|refine Cmp.tt rfl ?_|refine zab.to ih rfl rfl|fail)
 ·repeat'((conv=>whnf);first|refine Yz ?_|refine Ret.mk rfl|fail)
end
abbrev Slv(t:Slt):V:=.d (.agg t.cells)
def yuo(X Z:List Slt):Prop:=(∀t,t∈Z↔t∈X)/\Z.Pairwise λa b=>zal a.sr b.sr=true
theorem yu3{a b:List UInt8}(h:zal b a=true):yqp a b=1:=by
 unfold yqp;have h2:zal a b=false:=zog _ _ h;rw[h2,if_neg (by decide),if_neg (λe=>by rw[e,zk0]at h;cases h)]
theorem yu4{a b:List UInt8}(h:zal a b=true):yqp a b=-1:=by
 unfold yqp;rw[if_pos h]
abbrev ltT(a b:Slt):Prop:=zal a.sr b.sr=true
abbrev yxj:V:=.fn zes [] []
abbrev URT(E:Oracle)(f:Nat)(n:Nat)(av:List V)(X:List Slt):Prop:=UR E f zap 2 n av (X.flatMap Slt.cells) λxs'=>∃Z,yuo X Z/\Z.length=X.length/\xs'=Z.flatMap Slt.cells
section
variable{E:Oracle}(g:Good E)
include g
theorem ypb(x y:Slt):Fc E zes [Slv x,Slv y] (I (yqp x.sr y.sr)):=by
 have h1:Fc E n_strings_Compare [S x.sr,S y.sr] (I (yqp x.sr y.sr)):=Fc.extern g.lim (x:=compareX) rfl (m':=[]) (by simp only[compareX,zt4];rfl) rfl;refine g.fn rfl rfl ?_
 repeat'((conv=>whnf);first|refine Yz ?_|(apply zaf.of;assumption)|refine Ret.mk rfl|fail)
theorem yzq{x y:Slt}(h:zal x.sr y.sr=true):Fc E zes [Slv x,Slv y] (I (-1)):=yu4 h▸ypb g x y
theorem yzp{x y:Slt}(h:zal y.sr x.sr=true):Fc E zes [Slv x,Slv y] (I 1):=yu3 h▸ypb g x y
theorem yyw(X:List Slt)(hX:X.length<=3)(hn:X.Pairwise λa b=>a.sr≠b.sr):URT E zbu X.length [I 0,I X.length,yxj] X:=by
 refine⟨?_⟩;refine In.enter (f:=zbu) g.lim rfl rfl ?_
 repeat'((conv=>whnf);first|refine Yz ?_|fail)
 refine zab.to (zab.by (σ:=Nat×List Slt) g (λu=>0<u.1/\u.2.Perm X/\∃S C,u.2=S++C/\S.length=min u.1 X.length/\S.Pairwise ltT)
  (λu=>[(0,.ref ⟨0,0,0⟩ 0 X.length X.length),(1,I 0),(2,I X.length),(3,yxj),(8,I u.1)]) (λu=>rwO zap 2 X.length (u.2.flatMap Slt.cells)) (λu=>X.length+1-u.1) ?_ (1,X) ⟨Nat.zero_lt_one,.refl _,X.take 1,X.drop 1,(List.take_append_drop 1 X).symm,List.length_take ..,?_⟩) rfl rfl
 rotate_left
 ·match X with
  | []=>exact .nil
  | x::_=>simp
 rintro⟨i,Y⟩⟨h1,h2,S,C,h3,h4,h5⟩ih;dsimp only at h1 h2 h3 h4;have hYl:=h2.length_eq
 by_cases hlt:i<X.length
 ·have ih:=λZ(hz:Z.Perm X)(h:∃S C,Z=S++C/\S.length=i+1/\S.Pairwise ltT)=>ih (i+1,Z) ⟨by dsimp only;omega,hz,by obtain⟨S,C,a,b,c⟩:=h;exact⟨S,C,a,by dsimp only;omega,c⟩⟩ (by dsimp only;omega)
  dsimp only at ih;have hS:S.length=i:=by omega
  repeat'((conv=>whnf);first|refine Yz ?_|fail)
  refine zab.to (zab.by (σ:=Nat×List Slt) g (λu=>u.2.Perm X/\∃A y B C,u.2=A++y::(B++C)/\A.length=u.1/\u.1+B.length=i/\(A++B).Pairwise ltT/\∀b∈B,ltT y b)
   (λu=>[(0,.ref ⟨0,0,0⟩ 0 X.length X.length),(1,I 0),(2,I X.length),(3,yxj),(8,I i),(9,I u.1)]) (λu=>rwO zap 2 X.length (u.2.flatMap Slt.cells)) (λu=>u.1) ?_ (i,Y) ⟨h2,?_⟩) rfl rfl
  rotate_left
  ·match C,h3 with
   | [],h3=>exfalso;rw[h3]at hYl;simp at hYl;omega
   | y::C,h3=>exact⟨S,y,[],C,h3,hS,by simp,by simpa using h5,λb hb=>absurd hb List.not_mem_nil⟩
  rintro⟨j,Y⟩⟨k1,A,y,B,C,rfl,k3,k4,k5,k6⟩ihj;dsimp only at k1 k3 k4⊢;have hYl:=k1.length_eq
  rcases List.eq_nil_or_concat A with rfl|⟨A,a,rfl⟩
  ·obtain rfl:j=0:=by simpa using k3.symm
   have ih:=ih _ k1 ⟨y::B,C,by simp,by simp;omega,List.pairwise_cons.2 ⟨k6,by simpa using k5⟩⟩
   repeat'((conv=>whnf);first|refine Yz ?_|refine zab.to ih rfl rfl|fail)
  rw[List.concat_eq_append]at*;rw[List.length_append,List.length_singleton]at k3;have hj:j<(A++[a]++y::(B++C)).length:=by simp;omega
  have hj1:j-1<(A++[a]++y::(B++C)).length:=by simp;omega
  have e1:(A++[a]++y::(B++C))[j]=y:=by rw[List.getElem_append_right (by simp;omega)];simp[k3]
  have e2:(A++[a]++y::(B++C))[j-1]=a:=by rw[List.getElem_append_left (by simp;omega),List.getElem_append_right (by omega)];simp
  have hne:a.sr≠y.sr:=by
   have:=(k1.pairwise_iff (R:=λa b:Slt=>a.sr≠b.sr) (λh=>h.symm)).2 hn;have:=(List.pairwise_append.1 this).2.2 a (by simp) y (by simp);exact this
  have hset:(((A++[a]++y::(B++C)).set j a).set (j-1) y)=A++y::((a::B)++C):=by
   rw[List.set_append_right _ _ (by simp;omega),show j-(A++[a]).length=0 from by simp;omega,List.set_cons_zero,List.append_assoc,List.set_append_right _ _ (by omega),show j-1-A.length=0 from by omega];simp
  have hl1:=λ_:Unit=>zae Slt.cells 2 yj4 (A++[a]++y::(B++C))
  have hl2:=λ_:Unit=>zae Slt.cells 2 yj4 ((A++[a]++y::(B++C)).set j a)
  have p1:=zy6 Slt.cells 2 yj4 (A++[a]++y::(B++C)) j hj a;have p2:=zy6 Slt.cells 2 yj4 ((A++[a]++y::(B++C)).set j a) (j-1) (by rw[List.length_set];exact hj1) y;rw[hset]at p2;have f1:(0+((j:Nat):Int).toNat)*2=j*2:=by omega
  have f2:(0+((j:Int)-1).toNat)*2=(j-1)*2:=by omega
  rw[<-f1]at p1;rw[<-f2]at p2;cases hc:zal y.sr a.sr with
  | true=>
   have hcm:=yzq g hc
   have hpm:(A++y::((a::B)++C)).Perm X:=(by
    refine List.Perm.trans ?_ k1;simp only[List.append_assoc,List.cons_append,List.nil_append]
    exact(List.Perm.swap a y (B++C)).append_left A)
   have ihk:=ihj (j-1,A++y::((a::B)++C)) ⟨hpm,A,y,a::B,C,rfl,by dsimp only;omega,by simp;omega,by simpa[List.append_assoc]using k5,λb hb=>by
    rcases List.mem_cons.1 hb with rfl|hb
    ·exact hc
    exact k6 b hb⟩ (by dsimp only;omega)
   dsimp only at ihk;have e3:((j-1:Nat):Int)=(j:Int)-1:=by omega
   rw[e3]at ihk;clear ihj ih;generalize A++[a]++y::(B++C)=Y at*
   repeat'((conv=>whnf);first
   | refine Yz ?_
    | (refine za2.recN yj4 j (by omega) hj ?_;rw[e1])
    | (refine za2.recN yj4 (j-1) (by omega) hj1 ?_;rw[e2])
    | (refine zaf.of hcm ?_)
    | (refine zem.mk ⟨rfl,by rw[hl1 ()];show _+2<=_;omega,rfl⟩ ?_;rw[p1])
    | (refine zem.mk ⟨rfl,by rw[hl2 (),List.length_set];show _+2<=_;omega,rfl⟩ ?_;rw[p2])
    | (refine zab.to ihk rfl rfl)
    | fail)
  | false=>
   have hlt2:zal a.sr y.sr=true:=z5w (Ne.symm hne) hc;have hcm:=yzp g hlt2
   have hsrt:(A++[a]++y::B).Pairwise ltT:=by
    rw[List.append_assoc,List.singleton_append]at k5⊢;obtain⟨q1,q2,q3⟩:=List.pairwise_append.1 k5;rw[List.pairwise_cons]at q2
    refine List.pairwise_append.2 ⟨q1,List.pairwise_cons.2 ⟨λb hb=>?_,List.pairwise_cons.2 ⟨k6,q2.2⟩⟩,λp hp b hb=>?_⟩
    ·rcases List.mem_cons.1 hb with rfl|hb
     ·exact hlt2
     exact q2.1 b hb
    have hpa:=q3 p hp a (by simp)
    rcases List.mem_cons.1 hb with rfl|hb
    ·exact hpa
    rcases List.mem_cons.1 hb with rfl|hb
    ·exact zlv hpa hlt2
    exact q3 p hp b (by simp[hb])
   have ihk:=ih _ k1 ⟨A++[a]++y::B,C,by simp,by simp;omega,hsrt⟩;clear ihj ih;generalize A++[a]++y::(B++C)=Y at*
   repeat'((conv=>whnf);first|refine Yz ?_|(refine za2.recN yj4 j (by omega) hj ?_;rw[e1])|(refine za2.recN yj4 (j-1) (by omega) hj1 ?_;rw[e2])|refine zaf.of hcm ?_|refine zab.to ihk rfl rfl|fail)
 have hall:Y.Pairwise ltT:=by
  have:C=[]:=List.length_eq_zero_iff.1 (by rw[h3,List.length_append]at hYl;omega);rw[h3,this,List.append_nil];exact h5
 repeat'((conv=>whnf);first|refine Yz ?_|fail)
 all_goals exact⟨rfl,_,⟨Y,⟨λt=>h2.mem_iff,hall⟩,hYl,rfl⟩,rfl⟩
theorem yws(X:List Slt)(hX:X.length<=3)(hn:X.Pairwise λa b=>a.sr≠b.sr):URT E zbt X.length [yxj] X:=by
 have hi:=yyw g X hX hn;obtain⟨r,hr⟩:=yyh g X.length (by omega)
 have hp:∀r,URT E zbe X.length [I 0,I X.length,I r,yxj] X:=λr=>by
  refine⟨?_⟩;refine In.enter (f:=zbe) g.lim rfl rfl ?_
  repeat'((conv=>whnf);first|refine Yz ?_|refine zab.step g.lim ?_|(refine UpdR.of hi rfl rfl rfl ?_;rintro _⟨Z,hz,hl,rfl⟩)|fail)
  all_goals exact⟨rfl,_,⟨Z,hz,hl,rfl⟩,rfl⟩
 refine⟨?_⟩;refine In.enter (f:=zbt) g.lim rfl rfl ?_
 repeat'((conv=>whnf);first|refine Yz ?_|(apply zaf.of;assumption)|refine Wr.u64b (by omega) ?_|(refine UpdR.of (hp r) rfl rfl rfl ?_;rintro _⟨Z,hz,hl,rfl⟩)|fail)
 all_goals exact⟨rfl,_,⟨Z,hz,hl,rfl⟩,rfl⟩
end
theorem za2.part1{α:Type}{cell:α->List D}{w:Nat}(hw:∀a,(cell a).length=w){l:List α}{i:Int}{j n:Nat}{ds:List D}{K:List D->Prop}(k:Nat)(hi:i=k)(h:k<l.length)(hj:win (cell l[k]) j n=ds)(hn:j+n<=w)(hk:K ds):za2 (l.flatMap cell) (i.toNat*w+0+j) n K:=za2.part hw k hi h hn hj hk
def slL:List Wsh->List Alr->Int->List Slt
 |w::l,r::q,d=>(if r.gr=true/\w.r.fr<=d/\d<=w.r.to then [⟨r.nm,r.mi⟩]else [])++slL l q d
 |_,_,_=>[]
theorem yj3(d:Int):∀(l:List Wsh)(rs:List Alr)(w:Wsh)(r:Alr),l.length=rs.length->slL (l++[w]) (rs++[r]) d=slL l rs d++if r.gr=true/\w.r.fr<=d/\d<=w.r.to then [⟨r.nm,r.mi⟩]else []
 |[],[],w,r,_=>by simp[slL]
 |_::l,_::rs,w,r,h=>by
  simp only[List.cons_append,slL,yj3 d l rs w r (by simpa using h),List.append_assoc]
 |[],_::_,_,_,h=>by simp at h
 |_::_,[],_,_,h=>by simp at h
theorem ys8{l:List Wsh}{rs:List Alr}{i:Nat}(h1:i<l.length)(h2:i<rs.length)(d:Int):slL (l.take (i+1)) (rs.take (i+1)) d=slL (l.take i) (rs.take i) d++if rs[i].gr=true/\l[i].r.fr<=d/\d<=l[i].r.to then [⟨rs[i].nm,rs[i].mi⟩]else []:=by
 rw[List.take_add_one,List.getElem?_eq_getElem h1,List.take_add_one,List.getElem?_eq_getElem h2];exact yj3 d _ _ _ _ (by simp;omega)
theorem ygw(d:Int):∀(l:List Wsh)(rs:List Alr),(slL l rs d).length<=l.length
 |[],_=>by simp[slL]
 |_::_,[]=>by simp[slL]
 |w::l,r::rs=>by
  have:=ygw d l rs;unfold slL;rw[List.length_append,List.length_cons];split<;>simp<;>omega
theorem yfx{d:Int}{t:Slt}:∀{l:List Wsh}{rs:List Alr},t∈slL l rs d↔∃(i:Nat)(h1:i<l.length)(h2:i<rs.length),rs[i].gr=true/\l[i].r.fr<=d/\d<=l[i].r.to/\t=⟨rs[i].nm,rs[i].mi⟩
 |[],_=>by simp[slL]
 |_::_,[]=>by simp[slL]
 |w::l,r::rs=>by
  unfold slL;rw[List.mem_append,yfx (l:=l) (rs:=rs)]
  constructor
  ·rintro(h|⟨i,h1,h2,h⟩)
   ·split at h
    ·rename_i hc;exact⟨0,by simp,by simp,hc.1,hc.2.1,hc.2.2,List.mem_singleton.1 h⟩
    exact absurd h List.not_mem_nil
   exact⟨i+1,by simp;omega,by simp;omega,h⟩
  rintro⟨i,h1,h2,h⟩;cases i with
  |zero=>
   left;rw[if_pos ⟨h.1,h.2.1,h.2.2.1⟩];exact List.mem_singleton.2 h.2.2.2
  |succ i=>exact .inr ⟨i,by simpa using h1,by simpa using h2,h⟩
theorem ypo(d:Int):∀(l:List Wsh)(rs:List Alr),(l.map λw=>w.r.nm).Nodup->(∀(i:Nat)(h1:i<rs.length)(h2:i<l.length),rs[i].nm=l[i].r.nm)->(slL l rs d).Pairwise λa b=>a.sr≠b.sr
 |[],_,_,_=>by simp[slL]
 |_::_,[],_,_=>by simp[slL]
 |w::l,r::rs,hn,hf=>by
  rw[List.map_cons,List.nodup_cons]at hn;have ih:=ypo d l rs hn.2 λi h1 h2=>hf (i+1) (by simp;omega) (by simp;omega)
  unfold slL
  split
  ·rw[List.singleton_append,List.pairwise_cons];refine⟨λt ht e=>?_,ih⟩;obtain⟨i,h1,h2,_,_,_,rfl⟩:=yfx.1 ht;have e0:r.nm=w.r.nm:=hf 0 (by simp) (by simp);have e1:rs[i].nm=l[i].r.nm:=hf (i+1) (by simp;omega) (by simp;omega);dsimp only at e;refine hn.1 (List.mem_map.2 ⟨l[i],List.getElem_mem h1,?_⟩);rw[<-e1,<-e,e0]
  exact ih
section
variable{E:Oracle}(g:Good E)
include g
theorem ydo(l:List Wsh)(rs:List Alr)(hl:l.length<=3)(hrl:rs.length=l.length)(d:Int)(hnd:(slL l rs d).Pairwise λa b=>a.sr≠b.sr):∃Z,yuo (slL l rs d) Z/\Z.length<=3/\Fc E zf5 [LWi l,LRs rs,I d] (LS2 Z):=by
 have hfw:=ygw d l rs;have hst:=yws g (slL l rs d) (by omega) hnd
 obtain⟨v,m1,h1,h2⟩:∃v m1,E (.call 0 zf5 [LWi l,LRs rs,I d] [])=some (.val v m1)/\∃Z:List Slt,yuo (slL l rs d) Z/\Z.length=(slL l rs d).length/\v=.ref ⟨0,7,0⟩ 0 (slL l rs d).length (slL l rs d).length/\Evl.look m1 ⟨0,7,0⟩=some (.row true zap 2 (slL l rs d).length (Z.flatMap Slt.cells)):=by
  refine In.got (E:=E) (lv:=0) (f:=zf5) (args:=[LWi l,LRs rs,I d]) (m:=[]) (K:=λv m1=>∃Z:List Slt,yuo (slL l rs d) Z/\Z.length=(slL l rs d).length/\v=.ref ⟨0,7,0⟩ 0 (slL l rs d).length (slL l rs d).length/\Evl.look m1 ⟨0,7,0⟩=some (.row true zap 2 (slL l rs d).length (Z.flatMap Slt.cells))) ?_;refine In.enter (f:=zf5) g.lim rfl rfl ?_
  repeat'((conv=>whnf);first|refine Yz ?_|fail)
  refine zab.to (zab.up g (λi=>[(0,LWi l),(2,I d),(7,.ref ⟨0,7,0⟩ 0 (slL (l.take i) (rs.take i) d).length (slL (l.take i) (rs.take i) d).length),(11,LRs rs),(12,I rs.length),(13,I i)]) (λi=>[(⟨0,6,0⟩,.row true zap 2 0 []),(⟨0,7,0⟩,.row true zap 2 (slL (l.take i) (rs.take i) d).length ((slL (l.take i) (rs.take i) d).flatMap Slt.cells))]) rs.length (λi hi ih=>?_) 0 (Nat.zero_le _)) rfl rfl
  by_cases hlt:i<rs.length
  ·have ih:=ih hlt;have hli:i<l.length:=by omega
   rw[ys8 hli hlt]at ih;have hfi:=ygw d (l.take i) (rs.take i);rw[List.length_take]at hfi
   by_cases hc:rs[i].gr=true/\l[i].r.fr<=d/\d<=l[i].r.to
   ·obtain⟨hg,hf,ht⟩:=hc;rw[if_pos ⟨hg,hf,ht⟩]at ih;generalize slL (l.take i) (rs.take i) d=A at*;simp only[List.length_append,List.length_cons,List.length_nil,List.flatMap_append,List.flatMap_cons,List.flatMap_nil]at ih;have hmo:=λ_:Unit=>zae Slt.cells 2 yj4 A
    repeat'((conv=>whnf);first|refine Yz ?_|refine za2.rec Alr.cells_length i rfl hlt ?_|refine za2.part1 (ds:=[DI l[i].r.fr,DI l[i].r.to,DI l[i].r.da]) Wsh.cells_length i rfl hli rfl (by decide) ?_|rw[hg]|refine zem.mk ⟨rfl,rfl,rfl,rfl,rfl,hmo (),by dsimp only;omega,by first|omega|(dsimp only;omega)⟩ ?_|refine zab.to ih rfl rfl|fail)
   rw[if_neg hc,List.append_nil]at ih;generalize slL (l.take i) (rs.take i) d=A at*;cases hg:rs[i].gr with
   | false=>
    repeat'((conv=>whnf);first
    | refine Yz ?_
     | (refine za2.rec Alr.cells_length i rfl hlt ?_)
     | (refine za2.part1 (ds:=[DI l[i].r.fr,DI l[i].r.to,DI l[i].r.da]) Wsh.cells_length i rfl hli rfl (by decide) ?_)
     | (rw[hg])
     | (refine zab.to ih rfl rfl)
     | fail)
   | true=>
    by_cases hf:l[i].r.fr<=d
    ·have ht:¬d<=l[i].r.to:=λh=>hc ⟨hg,hf,h⟩
     repeat'((conv=>whnf);first|refine Yz ?_|refine za2.rec Alr.cells_length i rfl hlt ?_|refine za2.part1 (ds:=[DI l[i].r.fr,DI l[i].r.to,DI l[i].r.da]) Wsh.cells_length i rfl hli rfl (by decide) ?_|rw[hg]|refine zab.to ih rfl rfl|fail)
    ·repeat'((conv=>whnf);first|refine Yz ?_|refine za2.rec Alr.cells_length i rfl hlt ?_|refine za2.part1 (ds:=[DI l[i].r.fr,DI l[i].r.to,DI l[i].r.da]) Wsh.cells_length i rfl hli rfl (by decide) ?_|rw[hg]|refine zab.to ih rfl rfl|fail)
  obtain rfl:i=rs.length:=by omega
  clear ih;rw[List.take_length,hrl,List.take_length]
  repeat'((conv=>whnf);first|refine Yz ?_|(refine UpdR.of hst rfl rfl rfl ?_;rintro _⟨Z,hz,hlz,rfl⟩)|fail)
  exact⟨Z,hz,hlz,rfl,rfl⟩
 obtain⟨Z,hz,hlz,rfl,h4⟩:=h2;refine⟨Z,hz,by omega,_,m1,h1,?_⟩;simp[thaw,Go.Evl.freeze,h4,hlz]
end
def i64(n:Int):Prop:=-9223372036854775808<=n/\n<=9223372036854775807
theorem yy0{n:Int}(h:(Lit.int .i64 n).wf=true):i64 n:=by
 simp only[Lit.wf,Bool.and_eq_true,decide_eq_true_eq]at h;exact h
section
variable{P:Program}{n:Nat}{t:Nat}{ds:List D}{x:D}
theorem yzt{k:IntKind}(ht:P.underlying t=some (.int k))(h:fit P (n+1) t ds):∃i,ds=[.int k i]/\(Lit.int k i).wf=true:=by
 simp only[fit,ht]at h;exact h
theorem yxm(ht:P.underlying t=some .string)(h:fit P (n+1) t ds):∃s,ds=[.str s]/\s.length<=maxLen:=by
 simp only[fit,ht]at h;exact h
theorem yzu{e:Nat}(ht:P.underlying t=some (.slice e))(h:fit P (n+1) t ds):∃m cs,ds=[.list m cs]/\m<=maxLen/\zs1 (fit P n) (List.replicate m e) cs:=by
 simp only[fit,ht]at h;exact h
theorem yic{fs:Array Field}(ht:P.underlying t=some (.struct fs))(h:fit P (n+1) t ds):zs1 (fit P n) (fs.toList.map (·.type)) ds:=by
 simp only[fit,ht]at h;exact h
theorem yxe{e:Nat}(ht:P.underlying t=some (.slice e))(h:zyq P t x):∃m cs,x=.list m cs/\m<=maxLen/\zs1 (fit P 7) (List.replicate m e) cs:=by
 simp only[zyq,ht]at h;obtain⟨m,cs,e,h1,h2⟩:=yzu (n:=7) ht h;exact⟨m,cs,by simpa using e,h1,h2⟩
end
theorem zku{k:Nat}{ds:List D}(h:fit Tryz.prog (k+1) 3 ds):∃n,ds=[DI n]/\i64 n:=by
 obtain⟨n,rfl,hw⟩:=yzt Tryz.underlying3 h;exact⟨n,rfl,yy0 hw⟩
theorem yzk{P:Program}{t u:Nat}{xs:List D}(h:z9t P [t,u] xs):∃x y,xs=[x,y]/\zyq P t x/\zyq P u y:=by
 obtain⟨x,_,rfl,h1,y,_,rfl,h2,rfl⟩:=h;exact⟨x,y,rfl,h1,h2⟩
theorem z0f{k:Nat}{ds:List D}(h:fit Tryz.prog (k+1) 9 ds):∃s,ds=[.str s]:=by
 obtain⟨s,rfl,_⟩:=yxm Tryz.underlying9 h;exact⟨s,rfl⟩
theorem ykt{k:Nat}{ds:List D}(h:fit Tryz.prog (k+2) 31 ds):∃f t d,ds=[DI f,DI t,DI d]:=by
 obtain⟨_,_,rfl,h1,_,_,rfl,h2,_,_,rfl,h3,rfl⟩:=yic Tryz.underlying31 h;obtain⟨f,rfl,_⟩:=zku h1;obtain⟨t,rfl,_⟩:=zku h2;obtain⟨d,rfl,_⟩:=zku h3;exact⟨f,t,d,rfl⟩
theorem yfl{k:Nat}{ds:List D}(h:fit Tryz.prog (k+3) 33 ds):∃q:Rqt,ds=q.cells:=by
 obtain⟨_,_,rfl,h1,_,_,rfl,h2,_,_,rfl,h3,_,_,rfl,h4,_,_,rfl,h5,_,_,rfl,h6,_,_,rfl,h7,_,_,rfl,h8,_,_,rfl,h9,_,_,rfl,h10,_,_,rfl,h11,rfl⟩:=yic Tryz.underlying33 h;obtain⟨s1,rfl⟩:=z0f h1;obtain⟨s2,rfl⟩:=z0f h2;obtain⟨s3,rfl⟩:=z0f h3;obtain⟨s4,rfl⟩:=z0f h4;obtain⟨s5,rfl⟩:=z0f h5;obtain⟨s6,rfl⟩:=z0f h6;obtain⟨f,t,d,rfl⟩:=ykt h7;obtain⟨a,rfl,_⟩:=zku h8;obtain⟨b,rfl,_⟩:=zku h9;obtain⟨c,rfl,_⟩:=zku h10;obtain⟨e,rfl,_⟩:=zku h11;exact⟨⟨s1,s2,s3,s4,s5,s6,f,t,d,a,b,c,e⟩,rfl⟩
def zx1(q:Rqt):Bool:=decide (q.nm.length<=40/\q.ca.length<=40/\q.ki.length<=40/\q.te.length<=40/\q.pa.length<=40/\q.li.length<=40)
section
variable{E:Oracle}(g:Good E)
include g
theorem yvz(q:Rqt):Fc E zsp [Rqv q] (B (zx1 q)):=by
 refine g.fn rfl rfl ?_;unfold zx1
 by_cases h1:q.nm.length<=40
 ·by_cases h2:q.ca.length<=40
  ·by_cases h3:q.ki.length<=40
   ·by_cases h4:q.te.length<=40
    ·by_cases h5:q.pa.length<=40
     ·by_cases h6:q.li.length<=40
      ·rw[decide_eq_true ⟨h1,h2,h3,h4,h5,h6⟩]
       repeat'((conv=>whnf);first|refine Yz ?_|(refine Ret.mk rfl))
      rw[decide_eq_false (λh=>h6 (by omega))]
      repeat'((conv=>whnf);first|refine Yz ?_|(refine Ret.mk rfl))
     rw[decide_eq_false (λh=>h5 (by omega))]
     repeat'((conv=>whnf);first|refine Yz ?_|(refine Ret.mk rfl))
    rw[decide_eq_false (λh=>h4 (by omega))]
    repeat'((conv=>whnf);first|refine Yz ?_|(refine Ret.mk rfl))
   rw[decide_eq_false (λh=>h3 (by omega))]
   repeat'((conv=>whnf);first|refine Yz ?_|(refine Ret.mk rfl))
  rw[decide_eq_false (λh=>h2 (by omega))]
  repeat'((conv=>whnf);first|refine Yz ?_|(refine Ret.mk rfl))
 rw[decide_eq_false (λh=>h1 (by omega))]
 repeat'((conv=>whnf);first|refine Yz ?_|(refine Ret.mk rfl))
end
end Go.Proofs.YtkflcbhclegghaaGreatDoor.Co
