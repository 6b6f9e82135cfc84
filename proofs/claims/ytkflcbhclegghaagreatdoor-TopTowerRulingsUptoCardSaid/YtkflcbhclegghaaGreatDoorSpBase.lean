
/-
 Ways to show what a function of the program gives: how data stand for Go's values; steps; loops.
-/
import Derived.Test.YtkflcbhclegghaaGreatDoorEvE
import Derived.Test.YtkflcbhclegghaaGreatDoorGood
namespace Go.Proofs.YtkflcbhclegghaaGreatDoor.Co
open Go Go.Evl
abbrev I(x:Int):V:=.d (.int .i64 x)
abbrev B(b:Bool):V:=.d (.bool b)
abbrev S(s:List UInt8):V:=.d (.str s)
abbrev DI(x:Int):D:=.int .i64 x
abbrev LI(l:List Int):V:=.d (.list l.length (l.map DI))
abbrev Per(a b c:Int):V:=.d (.agg [DI a,DI b,DI c])
theorem yqg{x:Int}(h:-9223372036854775808<=x/\x<=9223372036854775807):IntKind.i64.wrap x=x:=by
 have hb:IntKind.i64.wrap x=(if x%18446744073709551616>=9223372036854775808 then x%18446744073709551616-18446744073709551616 else x%18446744073709551616):=by
  simp[IntKind.wrap,IntKind.signed,IntKind.bits]
 rw[hb];split<;>omega
section
variable{E:Oracle}
theorem Wr.keep{x:Int}{K:Int->Prop}(h:-9223372036854775808<=x/\x<=9223372036854775807)(k:K x):Wr .i64 x K:=⟨by rw[yqg h];exact k⟩
theorem Br.tt{a b:Prop}(h:a):Br true a b:=⟨λ_=>h,λh=>nomatch h⟩
theorem Br.ff{a b:Prop}(h:b):Br false a b:=⟨λh=>(nomatch h),λ_=>h⟩
theorem Cmp.tt{p a b:Prop}(hp:p)(h:a):Cmp p a b:=⟨λ_=>h,λhn=>absurd hp hn⟩
theorem Cmp.ff{p a b:Prop}(hp:¬p)(h:b):Cmp p a b:=⟨λhn=>absurd hn hp,λ_=>h⟩
theorem Rem.pos{a b:Int}{K:Int->Prop}(hb:0<b/\0<=a)(k:K (a%b)):Rem a b K:=⟨by omega,by rw[Int.tmod_eq_emod_of_nonneg hb.2];exact k⟩
theorem Rem.any{a b:Int}{K:Int->Prop}(hb:0<b)(k:∀r,-b<r/\r<b->r=a.tmod b->K r):Rem a b K:=
 by
 refine⟨by omega,k _ ⟨?_,Int.tmod_lt_of_pos a hb⟩ rfl⟩;rw[Int.tmod_eq_emod];have h1:=Int.emod_nonneg a (show b≠0 by omega);have h2:=Int.emod_lt_of_pos a hb
 split
 ·omega
 rename_i hn;have:a%b≠0:=λe=>hn (.inr (Int.dvd_of_emod_eq_zero e))
 omega
theorem Quo.pos{a b:Int}{K:Int->Prop}(hb:0<b/\0<=a/\a<=9223372036854775807)(k:K (a/b)):Quo .i64 a b K:=by
 have h1:a/b<=a:=Int.ediv_le_self b hb.2.1;have h2:0<=a/b:=Int.ediv_nonneg hb.2.1 (by omega);exact⟨by omega,by rw[Int.tdiv_eq_ediv_of_nonneg hb.2.1,yqg (by omega)];exact k⟩
theorem zgp.now{cs:List D}{off:Nat}{K:D->Prop}{d:D}(h:cs[off]?=some d)(k:K d):zgp cs off K:=⟨⟨d,h,k⟩⟩
theorem ykd.now{cs:List V}{off:Nat}{K:V->Prop}{d:V}(h:cs[off]?=some d)(k:K d):ykd cs off K:=⟨⟨d,h,k⟩⟩
theorem za2.now{cs ds:List D}{off n:Nat}{K:List D->Prop}(hl:off+n<=cs.length)(h:win cs off n=ds)(k:K ds):za2 cs off n K:=⟨hl,by rw[h];exact k⟩
theorem Ya{a b:Prop}(h:a):Br true a b:=Br.tt h
theorem Yb{a b:Prop}(h:b):Br false a b:=Br.ff h
theorem Yi{cs:List V}{off:Nat}{K:V->Prop}{d:V}(h:cs[off]?=some d)(k:K d):ykd cs off K:=ykd.now h k
theorem Yj{cs:List D}{off:Nat}{K:D->Prop}{d:D}(h:cs[off]?=some d)(k:K d):zgp cs off K:=zgp.now h k
theorem Yk{b:Bool}{k:Prop}(h:b=true)(hk:k):Chk b k:=⟨h,hk⟩
theorem Yc'{p k:Prop}(hp:p)(h:k):zem p k:=⟨hp,h⟩
theorem Yz{p q:Prop}(k:q)(h:q->p:=by first|exact Ya|exact Yb|exact Yc' (by first|omega|(simp;done)|(simp;omega))|exact Wr.keep (by omega)|exact Cmp.tt (by first|omega|decide)|exact Cmp.ff (by first|omega|decide)|exact Rem.pos (by omega)|exact Quo.pos (by omega)|exact Yi rfl|exact Yj rfl|exact Yk rfl|exact za2.now (by first|omega|decide) rfl):p:=h k
theorem zom.at{n:Nat}{l h:Int}{K:Nat->Nat->Prop}(a b:Nat)(hl:l=a)(hh:h=b)(hb:a<=b/\b<=n)(k:K a b):zom n l h K:=by
 subst hl;subst hh;exact⟨by omega,k⟩
theorem zgp.int{l:List Int}{i:Int}{K:D->Prop}(h:0<=i/\i<l.length)(k:K (DI (l.getD i.toNat 0))):zgp (l.map DI) (i.toNat*1) K:=by
 refine⟨⟨_,?_,k⟩⟩;have hi:i.toNat<l.length:=by omega
 simp[List.getD,hi]
theorem zab.to{cx:Cx}{live:List Nat}{keep:List Evl.Id}{body:C}{e1 e2:Env}{m1 m2:Mem}{K:Ex->Env->Mem->Prop}(h:zab E cx live keep body e1 m1 K)(he:e1=e2)(hm:m1=m2):zab E cx live keep body e2 m2 K:=by
 subst he;subst hm;exact h
theorem zab.up(g:Good E){cx:Cx}{live:List Nat}{keep:List Evl.Id}{body:C}{K:Ex->Env->Mem->Prop}(env:Nat->Env)(mem:Nat->Mem)(b:Nat)
  (h:∀k,k<=b->(k<b->zab E cx live keep body (env (k+1)) (mem (k+1)) K)->wpC E cx body (env k) (mem k) (z61 E cx live keep body K)):∀a,a<=b->zab E cx live keep body (env a) (mem a) K:=by
 have key:∀n a,a+n=b->zab E cx live keep body (env a) (mem a) K:=by
  intro n;induction n with
  |zero=>exact λa ha=>zab.step g.lim (h a (by omega) λhlt=>absurd hlt (by omega))
  |succ n ih=>exact λa ha=>zab.step g.lim (h a (by omega) λ_=>ih (a+1) (by omega))
 exact λa ha=>key (b-a) a (by omega)
theorem zab.upP(g:Good E){cx:Cx}{live:List Nat}{keep:List Evl.Id}{body:C}{K:Ex->Env->Mem->Prop}(env:Nat->Env)(mem:Nat->Mem)(P:Nat->Prop)(b:Nat)
  (h:∀k,k<=b->P k->(k<b->P (k+1)->zab E cx live keep body (env (k+1)) (mem (k+1)) K)->wpC E cx body (env k) (mem k) (z61 E cx live keep body K)):∀a,a<=b->P a->zab E cx live keep body (env a) (mem a) K:=by
 have key:∀n a,a+n=b->P a->zab E cx live keep body (env a) (mem a) K:=by
  intro n;induction n with
  |zero=>exact λa ha hp=>zab.step g.lim (h a (by omega) hp λhlt=>absurd hlt (by omega))
  |succ n ih=>exact λa ha hp=>zab.step g.lim (h a (by omega) hp λ_ hp'=>ih (a+1) (by omega) hp')
 exact λa ha=>key (b-a) a (by omega)
theorem zab.by{σ:Type}(g:Good E){cx:Cx}{live:List Nat}{keep:List Evl.Id}{body:C}{K:Ex->Env->Mem->Prop}(inv:σ->Prop)(env:σ->Env)(mem:σ->Mem)(μ:σ->Nat)
  (h:∀s,inv s->(∀s',inv s'->μ s'<μ s->zab E cx live keep body (env s') (mem s') K)->wpC E cx body (env s) (mem s) (z61 E cx live keep body K)):∀s,inv s->zab E cx live keep body (env s) (mem s) K:=by
 have key:∀n s,μ s<n->inv s->zab E cx live keep body (env s) (mem s) K:=by
  intro n;induction n with
  |zero=>exact λs hs=>absurd hs (Nat.not_lt_zero _)
  |succ n ih=>exact λs hs hi=>zab.step g.lim (h s hi λs' hi' hlt=>ih s' (by omega) hi')
 exact λs hi=>key (μ s+1) s (Nat.lt_succ_self _) hi
theorem Good.fn(g:Good E){f:Nat}{args:List V}{r:V}{cf:CF}(hc:code f=some cf)(hX:ext f=none)(h:ym1 E 0 cf args [] λv m'=>yqa m' v λd=>Ret d r):Fc E f args r:=Fc.enter g.lim hX hc h
def ywe:V->V->Bool
 |.d a,.d b=>zk9 a b
 |.tup as1,.tup bs=>
  match zvj as1,zvj bs with
  |some xs,some ys=>zl6 xs ys
  |_,_=>false
 |_,_=>false
theorem ys1(a b:V)(h:ywe a b=true):a=b:=by
 unfold ywe at h
 split at h
 ·rw[zsw _ _ h]
 ·split at h
  ·rename_i h1 h2;rw[zgc _ _ h]at h1;rw[ymt _ _ _ h1 h2]
  cases h
 cases h
def yxo(o:Option Res)(r:V):Bool:=
 match o with
 |some (.val v m)=>
  (match thaw m v with
  |some x=>ywe x r
  |none=>false)
 |_=>false
theorem Good.compR(g:Good E)(n:Nat){f:Nat}{args:List V}{r:V}(h:yxo (iter code ext n (.call 0 f args [])) r=true):Fc E f args r:=by
 cases hr:iter code ext n (.call 0 f args [])with
 |none=>rw[hr]at h;cases h
 |some x=>
  rw[hr]at h;unfold yxo at h
  split at h
  ·rename_i v m e;obtain rfl:=Option.some.inj e
   split at h
   ·rename_i y hy;exact⟨_,_,g.lim.of_iter n _ _ hr,by rw[hy,ys1 _ _ h]⟩
   cases h
  cases h
end
theorem zd5.ext{E:Oracle}(g:Good E){f:Nat}{args:List V}{cx:Cx}{slot:Nat}{m:Mem}{K:V->Mem->Prop}{v:V}{x:List V->Mem->Option (V×Mem)}{p:V×Mem}(hX:ext f=some x)(h:x args []=some (v,[]))(hs:Evl.settle cx slot 0 m [] v=some p)(hk:K p.1 p.2):zd5 E f args cx slot m K:=
 ⟨v,[],p,by rw[g.lim.fix];simp only[Go.Evl.step,hX,h];rfl,hs,hk⟩
end Go.Proofs.YtkflcbhclegghaaGreatDoor.Co
