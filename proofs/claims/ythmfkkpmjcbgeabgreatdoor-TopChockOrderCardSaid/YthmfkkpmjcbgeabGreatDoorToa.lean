/-
  TopChockOrder: what its law leans on, part 1.
-/
import Derived.KernelRfl
import Derived.Laws.RangeAny
import Derived.Lib.SplitLaws
import Derived.Test.YthmfkkpmjcbgeabGreatDoorEvE
import Derived.Test.YthmfkkpmjcbgeabGreatDoorEvRun
import Derived.Test.YthmfkkpmjcbgeabGreatDoorEvX
import Derived.Test.YthmfkkpmjcbgeabGreatDoorGood
import Derived.Test.YthmfkkpmjcbgeabGreatDoorRead
namespace Go.Proofs.YthmfkkpmjcbgeabGreatDoor.Co
open Go Go.Evl
set_option maxHeartbeats 32000000
set_option maxRecDepth 100000
abbrev I (x:Int):V:= .d (.int .i64 x)
abbrev B (b:Bool):V:= .d (.bool b)
abbrev S (s:List UInt8):V:= .d (.str s)
abbrev DI (x:Int):D:= .int .i64 x
abbrev LI (l:List Int):V:= .d (.list l.length (l.map DI))
abbrev Per (a b c:Int):V:= .d (.agg [DI a,DI b,DI c])
theorem yj9 {x:Int} (h: -9223372036854775808<=x/\x<=9223372036854775807):IntKind.i64.wrap x=x:=by
 have hb:IntKind.i64.wrap x=(if x%18446744073709551616>=9223372036854775808 then x%18446744073709551616-18446744073709551616 else x%18446744073709551616):=by
  simp [IntKind.wrap,IntKind.signed,IntKind.bits]
 rw [hb]
 split<;>omega
section
variable {E : Oracle}
theorem Wr.keep {x:Int} {K:Int->Prop} (h: -9223372036854775808<=x/\x<=9223372036854775807) (k:K x):Wr .i64 x K:=⟨by rw [yj9 h];exact k⟩
theorem Br.tt {a b:Prop} (h:a):Br true a b:=⟨fun _=>h,fun h=>nomatch h⟩
theorem Br.ff {a b:Prop} (h:b):Br false a b:=⟨fun h=>(nomatch h),fun _=>h⟩
theorem Cmp.tt {p a b:Prop} (hp:p) (h:a):Cmp p a b:=⟨fun _=>h,fun hn=>absurd hp hn⟩
theorem Cmp.ff {p a b:Prop} (hp:¬p) (h:b):Cmp p a b:=⟨fun hn=>absurd hn hp,fun _=>h⟩
theorem Rem.pos {a b:Int} {K:Int->Prop} (hb:0<b/\0<=a) (k:K (a%b)):Rem a b K:=⟨by omega,by rw [Int.tmod_eq_emod_of_nonneg hb.2];exact k⟩
theorem Rem.any {a b:Int} {K:Int->Prop} (hb:0<b) (k:∀r,-b<r/\r<b->r=a.tmod b->K r):Rem a b K:=
 by
 refine⟨by omega,k _ ⟨?_,Int.tmod_lt_of_pos a hb⟩ rfl⟩
 rw [Int.tmod_eq_emod]
 have h1:=Int.emod_nonneg a (show b≠0 by omega)
 have h2:=Int.emod_lt_of_pos a hb
 split
 ·omega
 ·rename_i hn
  have:a%b≠0:=fun e=>hn (.inr (Int.dvd_of_emod_eq_zero e))
  omega
theorem Quo.pos {a b:Int} {K:Int->Prop} (hb:0<b/\0<=a/\a<=9223372036854775807) (k:K (a/b)):Quo .i64 a b K:=by
 have h1:a/b<=a:=Int.ediv_le_self b hb.2.1
 have h2:0<=a/b:=Int.ediv_nonneg hb.2.1 (by omega)
 exact⟨by omega,by rw [Int.tdiv_eq_ediv_of_nonneg hb.2.1,yj9 (by omega)];exact k⟩
theorem zcj.now {cs:List D} {off:Nat} {K:D->Prop} {d:D} (h:cs[off]? =some d) (k:K d):zcj cs off K:=⟨⟨d,h,k⟩⟩
theorem yg3.now {cs:List V} {off:Nat} {K:V->Prop} {d:V} (h:cs[off]? =some d) (k:K d):yg3 cs off K:=⟨⟨d,h,k⟩⟩
theorem za0.now {cs ds:List D} {off n:Nat} {K:List D->Prop} (hl:off+n<=cs.length) (h:win cs off n=ds) (k:K ds):za0 cs off n K:=⟨hl,by rw [h];exact k⟩
theorem Ya {a b:Prop} (h:a):Br true a b:=Br.tt h
theorem Yb {a b:Prop} (h:b):Br false a b:=Br.ff h
theorem Yi {cs:List V} {off:Nat} {K:V->Prop} {d:V} (h:cs[off]? =some d) (k:K d):yg3 cs off K:=yg3.now h k
theorem Yj {cs:List D} {off:Nat} {K:D->Prop} {d:D} (h:cs[off]? =some d) (k:K d):zcj cs off K:=zcj.now h k
theorem Yk {b:Bool} {k:Prop} (h:b=true) (hk:k):Chk b k:=⟨h,hk⟩
theorem Yc' {p k:Prop} (hp:p) (h:k):zbk p k:=⟨hp,h⟩
theorem Yz {p q:Prop} (k:q) (h:q->p:=by first |exact Ya|exact Yb|exact Yc' (by first |omega|(simp;done)|(simp;omega))|exact Wr.keep (by omega)|exact Cmp.tt (by first |omega|decide)|exact Cmp.ff (by first |omega|decide)|exact Rem.pos (by omega)|exact Quo.pos (by omega)|exact Yi rfl|exact Yj rfl|exact Yk rfl|exact za0.now (by first |omega|decide) rfl):p:=h k
theorem zbe.at {n:Nat} {l h:Int} {K:Nat->Nat->Prop} (a b:Nat) (hl:l=a) (hh:h=b) (hb:a<=b/\b<=n) (k:K a b):zbe n l h K:=by
 subst hl
 subst hh
 exact⟨by omega,k⟩
theorem zcj.int {l:List Int} {i:Int} {K:D->Prop} (h:0<=i/\i<l.length) (k:K (DI (l.getD i.toNat 0))):zcj (l.map DI) (i.toNat*1) K:=by
 refine⟨⟨_,?_,k⟩⟩
 have hi:i.toNat<l.length:=by omega
 simp [List.getD,hi]
theorem zcj.int0 {l:List Int} {i:Int} {K:D->Prop} (h:0<=i/\i<l.length) (k:K (DI (l.getD i.toNat 0))):zcj (l.map DI) ((0+i.toNat)*1) K:=by
 refine⟨⟨_,?_,k⟩⟩
 have hi:i.toNat<l.length:=by omega
 simp [List.getD,hi]
theorem zad.to {cx:Cx} {live:List Nat} {keep:List Evl.Id} {body:C} {e1 e2:Env} {m1 m2:Mem} {K:Ex->Env->Mem->Prop} (h:zad E cx live keep body e1 m1 K) (he:e1=e2) (hm:m1=m2):zad E cx live keep body e2 m2 K:=by
 subst he;subst hm;exact h
theorem zad.up (g:Good E) {cx:Cx} {live:List Nat} {keep:List Evl.Id} {body:C} {K:Ex->Env->Mem->Prop} (env:Nat->Env) (mem:Nat->Mem) (b:Nat)
  (h:∀k,k<=b->(k<b->zad E cx live keep body (env (k+1)) (mem (k+1)) K)->wpC E cx body (env k) (mem k) (z2n E cx live keep body K)):∀a,a<=b->zad E cx live keep body (env a) (mem a) K:=by
 have key:∀n a,a+n=b->zad E cx live keep body (env a) (mem a) K:=by
  intro n
  induction n with
  | zero=>exact fun a ha=>zad.step g.lim (h a (by omega) fun hlt=>absurd hlt (by omega))
  | succ n ih=>exact fun a ha=>zad.step g.lim (h a (by omega) fun _=>ih (a+1) (by omega))
 exact fun a ha=>key (b-a) a (by omega)
theorem zad.upP (g:Good E) {cx:Cx} {live:List Nat} {keep:List Evl.Id} {body:C} {K:Ex->Env->Mem->Prop} (env:Nat->Env) (mem:Nat->Mem) (P:Nat->Prop) (b:Nat)
  (h:∀k,k<=b->P k->(k<b->P (k+1)->zad E cx live keep body (env (k+1)) (mem (k+1)) K)->wpC E cx body (env k) (mem k) (z2n E cx live keep body K)):∀a,a<=b->P a->zad E cx live keep body (env a) (mem a) K:=by
 have key:∀n a,a+n=b->P a->zad E cx live keep body (env a) (mem a) K:=by
  intro n
  induction n with
  | zero=>exact fun a ha hp=>zad.step g.lim (h a (by omega) hp fun hlt=>absurd hlt (by omega))
  | succ n ih=>exact fun a ha hp=>zad.step g.lim (h a (by omega) hp fun _ hp'=>ih (a+1) (by omega) hp')
 exact fun a ha=>key (b-a) a (by omega)
theorem zad.by {σ:Type} (g:Good E) {cx:Cx} {live:List Nat} {keep:List Evl.Id} {body:C} {K:Ex->Env->Mem->Prop} (inv:σ->Prop) (env:σ->Env) (mem:σ->Mem) (μ:σ->Nat)
  (h:∀s,inv s->(∀s',inv s'->μ s'<μ s->zad E cx live keep body (env s') (mem s') K)->wpC E cx body (env s) (mem s) (z2n E cx live keep body K)):∀s,inv s->zad E cx live keep body (env s) (mem s) K:=by
 have key:∀n s,μ s<n->inv s->zad E cx live keep body (env s) (mem s) K:=by
  intro n
  induction n with
  | zero=>exact fun s hs=>absurd hs (Nat.not_lt_zero _)
  | succ n ih=>exact fun s hs hi=>zad.step g.lim (h s hi fun s' hi' hlt=>ih s' (by omega) hi')
 exact fun s hi=>key (μ s+1) s (Nat.lt_succ_self _) hi
theorem Good.fn (g:Good E) {f:Nat} {args:List V} {r:V} {cf:CF} (hc:code f=some cf) (hX:ext f=none) (h:ypg E 0 cf args [] fun v m'=>znm m' v fun d=>Ret d r):Fc E f args r:=Fc.enter g.lim hX hc h
def yrl:V->V->Bool
 | .d a,.d b=>zpe a b
 | .tup as1,.tup bs=>
  match zri as1,zri bs with
  | some xs,some ys=>zxx xs ys
  | _,_=>false
 | _,_=>false
theorem ypi (a b:V) (h:yrl a b=true):a=b:=by
 unfold yrl at h
 split at h
 ·rw [z65 _ _ h]
 ·split at h
  ·rename_i h1 h2
   rw [zqa _ _ h] at h1
   rw [yl1 _ _ _ h1 h2]
  ·cases h
 ·cases h
def yu2 (o:Option Res) (r:V):Bool:=
 match o with
 | some (.val v m)=>
  (match ybb m v with
  | some x=>yrl x r
  | none=>false)
 | _=>false
theorem Good.compR (g:Good E) (n:Nat) {f:Nat} {args:List V} {r:V} (h:yu2 (iter code ext n (.call 0 f args [])) r=true):Fc E f args r:=by
 cases hr:iter code ext n (.call 0 f args []) with
 | none=>rw [hr] at h;cases h
 | some x=>
  rw [hr] at h
  unfold yu2 at h
  split at h
  ·rename_i v m e
   obtain rfl:=Option.some.inj e
   split at h
   ·rename_i y hy
    exact⟨_,_,g.lim.of_iter n _ _ hr,by rw [hy,ypi _ _ h]⟩
   ·cases h
  ·cases h
end
theorem zdo.ext {E:Oracle} (g:Good E) {f:Nat} {args:List V} {cx:Cx} {slot:Nat} {m:Mem} {K:V->Mem->Prop} {v:V} {x:List V->Mem->Option (V×Mem)} {p:V×Mem} (hX:ext f=some x) (h:x args []=some (v,[])) (hs:Evl.settle cx slot 0 m [] v=some p) (hk:K p.1 p.2):zdo E f args cx slot m K:=
 ⟨v,[],p,by rw [g.lim.fix];simp only [Go.Evl.step,hX,h];rfl,hs,hk⟩
def rng (n a b:Int):Int:=if n<a\/b<n then 3 else 0
def zap:List Int->Int
 | []=>0
 | x::r=>if x=0 then zap r else x
theorem yi6 (n a b:Int):0<=rng n a b/\rng n a b<=3:=by unfold rng;split<;>omega
theorem zcw {n a b:Int}:rng n a b=0↔a<=n/\n<=b:=by unfold rng;split<;>omega
section
variable {E : Oracle} (g : Good E)
include g
theorem yqz (b:Bool) (e:Int):Fc E zhd [B b,I e] (I (if b then e else 0)):=by
 refine g.fn rfl rfl ?_
 cases b
 all_goals repeat' ((conv=>whnf);first
 | refine Yz ?_
  | (refine Ret.mk rfl))
theorem zy4 (n a b:Int):Fc E zdv [I n,I a,I b] (I (rng n a b)):=by
 refine g.fn rfl rfl ?_
 repeat' ((conv=>whnf);first
 | refine Yz ?_
  | (refine Cmp.mk (fun h=> ?_) (fun h=> ?_))|(refine Rem.any (by omega) (fun r hr he=> ?_))|(refine Br.mk (fun h=> ?_) (fun h=> ?_))
  | (refine zaf.of (yqz g _ _) ?_)
  | (refine Ret.mk ?_))
 all_goals (simp only [V.d.injEq,D.int.injEq,true_and,rng];simp_all)
omit g in
theorem zn4 (l:List Int) (k:Nat) (h:k<l.length):zap (l.drop k)=if l.getD k 0=0 then zap (l.drop (k+1)) else l.getD k 0:=by
 rw [List.drop_eq_getElem_cons h]
 simp [zap,List.getD,h]
theorem ymh (l:List Int) (hl:l.length<=140737488355328):Fc E zeh [LI l] (I (zap l)):=by
 refine g.fn rfl rfl ?_
 conv=>whnf
 refine zad.upP g (fun k=>[(5,LI l),(6,I l.length),(7,I k)]) (fun _=>[]) (fun k=>zap l=zap (l.drop k)) l.length (fun k hk hp ih=> ?_) 0 (Nat.zero_le _) (by simp)
 by_cases hlt:k<l.length
 ·have hd:=zn4 l k hlt
  repeat' ((conv=>whnf);first
  | refine Yz ?_
   | (refine zcj.int (by omega) ?_)
   | (refine Cmp.mk (fun h=> ?_) (fun h=> ?_))|(refine Rem.any (by omega) (fun r hr he=> ?_))|(refine Br.mk (fun h=> ?_) (fun h=> ?_))
   | (refine zad.to (ih hlt ?_) ?_ rfl)
   | (refine Ret.mk ?_))
  all_goals simp_all
 ·have:l.drop k=[]:=List.drop_eq_nil_of_le (by omega)
  repeat' ((conv=>whnf);first
  | refine Yz ?_
   | (refine Ret.mk ?_))
  simp [hp,this,zap]
theorem yfn (a b:Int):Fc E zeh [.d (.list 2 [DI a,DI b])] (I (zap [a,b])):=ymh g [a,b] (by simp)
theorem ynb (a b c:Int):Fc E zeh [.d (.list 3 [DI a,DI b,DI c])] (I (zap [a,b,c])):=ymh g [a,b,c] (by simp)
theorem yho (n:Int):Fc E zgb [I n] (I (rng n 0 99999)):=by
 refine g.fn rfl rfl ?_
 repeat' ((conv=>whnf);first
 | refine Yz ?_
  | (refine zaf.of (zy4 g _ _ _) ?_)
  | (refine Ret.mk rfl))
theorem ziq (n a b:Int):Fc E zbm [I n,I a,I b] (I (rng n a b)):=by
 refine g.fn rfl rfl ?_
 repeat' ((conv=>whnf);first
 | refine Yz ?_
  | (refine Cmp.mk (fun h=> ?_) (fun h=> ?_))|(refine Rem.any (by omega) (fun r hr he=> ?_))|(refine Br.mk (fun h=> ?_) (fun h=> ?_))
  | (refine Ret.mk ?_))
 all_goals (simp only [V.d.injEq,D.int.injEq,true_and,rng];simp_all)
theorem yg9 (n:Int):Fc E zh2 [I n] (I (rng n 0 99999)):=by
 refine g.fn rfl rfl ?_
 repeat' ((conv=>whnf);first
 | refine Yz ?_
  | (refine zaf.of (ziq g _ _ _) ?_)
  | (refine Ret.mk rfl))
theorem yc1 (l:List Int) (hl:l.length<=140737488355328):Fc E zfl [LI l] (I (zap l)):=by
 refine g.fn rfl rfl ?_
 conv=>whnf
 refine zad.upP g (fun k=>[(0,LI l),(3,I k)]) (fun _=>[]) (fun k=>zap l=zap (l.drop k)) l.length (fun k hk hp ih=> ?_) 0 (Nat.zero_le _) (by simp)
 by_cases hlt:k<l.length
 ·have hd:=zn4 l k hlt
  repeat' ((conv=>whnf);first
  | refine Yz ?_
   | (refine zcj.int (by omega) ?_)
   | (refine Cmp.mk (fun h=> ?_) (fun h=> ?_))|(refine Rem.any (by omega) (fun r hr he=> ?_))|(refine Br.mk (fun h=> ?_) (fun h=> ?_))
   | (refine zad.to (ih hlt ?_) ?_ rfl)
   | (refine Ret.mk ?_))
  all_goals simp_all
 ·have:l.drop k=[]:=List.drop_eq_nil_of_le (by omega)
  repeat' ((conv=>whnf);first
  | refine Yz ?_
   | (refine Ret.mk ?_))
  simp [hp,this,zap]
omit g in
def zor (f t d:Int):Int:=if f<0\/99999<f\/t<0\/99999<t then 3 else if t<f then 11 else if 400<t-f then 4 else rng d 1 127
omit g in
theorem zsm {f t d:Int}:zor f t d=0↔0<=f/\f<=t/\t<=99999/\t-f<=400/\1<=d/\d<=127:=by
 unfold zor rng
 repeat' split
 all_goals omega
omit g in
theorem yoc (f t:Int):zap [rng f 0 99999,rng t 0 99999]=0↔(0<=f/\f<=99999/\0<=t/\t<=99999):=by
 simp only [zap];unfold rng
 repeat' split
 all_goals omega
omit g in
theorem ytu (f t:Int) (h:zap [rng f 0 99999,rng t 0 99999]≠0):zap [rng f 0 99999,rng t 0 99999]=3:=by
 simp only [zap] at h ⊢;unfold rng at h ⊢
 repeat' split
 all_goals (try omega)
 all_goals simp_all
theorem zvn (f t d:Int):Fc E zfa [Per f t d] (I (zor f t d)):=by
 refine g.fn rfl rfl ?_
 have k1:=yoc f t
 have k2:=ytu f t
 have k3:=yi6 d 1 127
 repeat' ((conv=>whnf);first
 | refine Yz ?_
  | (refine zaf.of (yho g _) ?_)
  | (refine zaf.of (yfn g _ _) ?_)
  | (refine zaf.of (yqz g _ _) ?_)
  | (refine zaf.of (zy4 g _ _ _) ?_)
  | (refine zaf.of (ynb g _ _ _) ?_)
  | (refine Cmp.mk (fun h=> ?_) (fun h=> ?_))|(refine Rem.any (by omega) (fun r hr he=> ?_))|(refine Br.mk (fun h=> ?_) (fun h=> ?_))
  | (refine Ret.mk ?_))
 all_goals (simp only [V.d.injEq,D.int.injEq,true_and,zor])
 all_goals first
  | (rw [if_pos (by omega)];omega)
  | (simp [zap];repeat' split;all_goals omega)
theorem z7h (f t d:Int):Fc E zik [Per f t d] (I (zor f t d)):=by
 refine g.fn rfl rfl ?_
 have k1:=@zcw f 0 99999
 have k2:=@zcw t 0 99999
 repeat' ((conv=>whnf);first
 | refine Yz ?_
  | (refine zaf.of (yg9 g _) ?_)
  | (refine zaf.of (ziq g _ _ _) ?_)
  | (refine Cmp.mk (fun h=> ?_) (fun h=> ?_))|(refine Rem.any (by omega) (fun r hr he=> ?_))|(refine Br.mk (fun h=> ?_) (fun h=> ?_))
  | (refine Ret.mk ?_))
 all_goals (simp only [V.d.injEq,D.int.injEq,true_and,zor])
 all_goals (repeat' split)
 all_goals first
  | rfl
  | omega
omit g in
def inM (m w:Int):Bool:=decide (m/2^w.toNat%2=1)
theorem yni (m w:Int) (hm:0<=m/\m<=127) (hw:0<=w/\w<=6):Fc E zmy [I m,I w] (B (inM m w)):=by
 refine g.fn rfl rfl ?_
 conv=>whnf
 refine zad.to (zad.up g (fun k=>[(0,I (m/2^k)),(1,I w),(5,I k)]) (fun _=>[]) w.toNat (fun k hk ih=> ?_) 0 (Nat.zero_le _)) ?_ rfl
 ·have h0:0<=m/2^k:=Int.ediv_nonneg hm.1 (Int.pow_nonneg (by decide))
  have h1:m/2^k<=m:=Int.ediv_le_self _ hm.1
  have h2:m/2^k/2=m/2^(k+1):=by rw [Int.pow_succ,Int.ediv_ediv_of_nonneg (Int.pow_nonneg (by decide))]
  by_cases hlt:k<w.toNat
  ·repeat' ((conv=>whnf);first
  | refine Yz ?_
    | (refine zad.to (ih hlt) ?_ rfl)
    | (refine Ret.mk ?_))
   simp [h2]
  ·have:k=w.toNat:=by omega
   subst this
   repeat' ((conv=>whnf);first
   | refine Yz ?_
    | (refine Cmp.mk (fun h=> ?_) (fun h=> ?_))|(refine Rem.any (by omega) (fun r hr he=> ?_))|(refine Br.mk (fun h=> ?_) (fun h=> ?_))
    | (refine Ret.mk ?_))
   all_goals simp_all [inM]
 ·simp
end
def i64 (n:Int):Prop:= -9223372036854775808<=n/\n<=9223372036854775807
theorem yup {n:Int} (h:(Lit.int .i64 n).wf=true):i64 n:=by
 simp only [Lit.wf,Bool.and_eq_true,decide_eq_true_eq] at h
 exact h
section
variable {P : Program} {n : Nat} {t : Nat} {ds : List D} {x : D}
theorem yre {k:IntKind} (ht:P.underlying t=some (.int k)) (h:fit P (n+1) t ds):∃i,ds=[.int k i]/\(Lit.int k i).wf=true:=by
 simp only [fit,ht] at h;exact h
theorem yxz (ht:P.underlying t=some .bool) (h:fit P (n+1) t ds):∃b,ds=[.bool b]:=by
 simp only [fit,ht] at h;exact h
theorem yxp (ht:P.underlying t=some .string) (h:fit P (n+1) t ds):∃s,ds=[.str s]/\s.length<=maxLen:=by
 simp only [fit,ht] at h;exact h
theorem yn1 {e:Nat} (ht:P.underlying t=some (.slice e)) (h:fit P (n+1) t ds):∃m cs,ds=[.list m cs]/\m<=maxLen/\zj9 (fit P n) (List.replicate m e) cs:=by
 simp only [fit,ht] at h;exact h
theorem z14 {fs:Array Field} (ht:P.underlying t=some (.struct fs)) (h:fit P (n+1) t ds):zj9 (fit P n) (fs.toList.map (·.type)) ds:=by
 simp only [fit,ht] at h;exact h
theorem yvu {m e:Nat} (ht:P.underlying t=some (.array m e)) (h:fit P (n+1) t ds):zj9 (fit P n) (List.replicate m e) ds:=by
 simp only [fit,ht] at h;exact h
theorem yxo {e:Nat} (ht:P.underlying t=some (.slice e)) (h:zmk P t x):∃m cs,x= .list m cs/\m<=maxLen/\zj9 (fit P 7) (List.replicate m e) cs:=by
 simp only [zmk,ht] at h
 obtain⟨m,cs,e,h1,h2⟩:=yn1 (n:=7) ht h
 exact⟨m,cs,by simpa using e,h1,h2⟩
theorem ywb {fs:Array Field} (ht:P.underlying t=some (.struct fs)) (h:zmk P t x):∃ds,x= .agg ds/\zj9 (fit P 7) (fs.toList.map (·.type)) ds:=by
 simp only [zmk,ht] at h
 obtain⟨ds,rfl,h⟩:=h
 exact⟨ds,rfl,z14 ht h⟩
theorem yvg {m e:Nat} (ht:P.underlying t=some (.array m e)) (h:zmk P t x):∃ds,x= .agg ds/\zj9 (fit P 7) (List.replicate m e) ds:=by
 simp only [zmk,ht] at h
 obtain⟨ds,rfl,h⟩:=h
 exact⟨ds,rfl,yvu ht h⟩
end
theorem zkk {k:Nat} {ds:List D} (h:fit Tryz.prog (k+1) 3 ds):∃n,ds=[DI n]/\i64 n:=by
 obtain⟨n,rfl,hw⟩:=yre Tryz.underlying3 h
 exact⟨n,rfl,yup hw⟩
theorem yxl {P:Program} {t u v:Nat} {xs:List D} (h:z52 P [t,u,v] xs):∃x y z,xs=[x,y,z]/\zmk P t x/\zmk P u y/\zmk P v z:=by
 obtain⟨x,_,rfl,h1,y,_,rfl,h2,z,_,rfl,h3,rfl⟩:=h
 exact⟨x,y,z,rfl,h1,h2,h3⟩
theorem z7v.at {s:List UInt8} {i:Nat} {K:UInt8->Prop} (k:Nat) (hi:i=k) (h:k<s.length) (hk:K (s.getD k 0)):z7v s i K:=by
 subst hi
 exact⟨⟨_,by simp [List.getD,h],hk⟩⟩
theorem zk1.asc {s:List UInt8} {k:Nat} {a:Int->Nat->Prop} {b:Prop} (h:k<s.length) (ha:(s.getD k 0).toNat<128) (hk:a (s.getD k 0).toNat 1):zk1 s k a b:=by
 refine⟨fun _=> ?_,fun hn=>absurd h hn⟩
 have e:(s.getD k 0)=s[k]:=by simp [List.getD,h]
 have hd:=decode_ascii ⟨s.toArray⟩ k (by simpa [ByteArray.size] using h) (by rw [e] at ha;exact ha)
 rw [hd]
 rw [e] at hk
 exact hk
theorem zk1.high {s:List UInt8} {k:Nat} {a:Int->Nat->Prop} {b:Prop} (h:k<s.length) (ha:128<=(s.getD k 0).toNat) (hk:∀(c:Int) (w:Nat),128<=c->1<=w->a c w):zk1 s k a b:=by
 refine⟨fun _=> ?_,fun hn=>absurd h hn⟩
 have e:(s.getD k 0)=s[k]:=by simp [List.getD,h]
 have hd:=decode_high ⟨s.toArray⟩ k (by simpa [ByteArray.size] using h) (by rw [e] at ha;exact ha)
 exact hk _ _ (by omega) hd.2
theorem zk1.end' {s:List UInt8} {k:Nat} {a:Int->Nat->Prop} {b:Prop} (h:s.length<=k) (hk:b):zk1 s k a b:=⟨fun hn=>absurd hn (by omega),fun _=>hk⟩
def ya9 (k:Nat) (b:UInt8):Prop:=(65<=b.toNat/\b.toNat<=90)\/(97<=b.toNat/\b.toNat<=122)\/(0<k/\(b.toNat=95\/(48<=b.toNat/\b.toNat<=57)))
instance (k:Nat) (b:UInt8):Decidable (ya9 k b):=by unfold ya9;infer_instance
def ysz (s:List UInt8):Prop:=0<s.length/\s.length<=24/\∀i,i<s.length->ya9 i (s.getD i 0)
instance (s:List UInt8):Decidable (ysz s):=by unfold ysz;infer_instance
def zc6 (s:List UInt8):Bool:=decide (ysz s)
theorem z2g {s:List UInt8} {k:Nat} (hk:k<s.length) (h:¬ya9 k (s.getD k 0)):zc6 s=false:=decide_eq_false fun hn=>h (hn.2.2 k hk)
section
variable {E : Oracle} (g : Good E)
include g
theorem zmi (s:List UInt8):Fc E zao [S s] (B (zc6 s)):=by
 refine g.fn rfl rfl ?_
 by_cases h0:0<s.length/\s.length<=24
 ·repeat' ((conv=>whnf);first
 | refine Yz ?_)
  refine zad.to (zad.upP g (fun _=>[(15,.it ⟨0,15,0⟩)]) (fun k=>[(⟨0,15,0⟩,.iter s k)]) (fun k=>∀i,i<k->ya9 i (s.getD i 0)) s.length (fun k hk hp ih=> ?_) 0 (Nat.zero_le _) (fun i hi=>by omega)) rfl rfl
  by_cases hlt:k<s.length
  ·by_cases ha:(s.getD k 0).toNat<128
   ·by_cases hok:ya9 k (s.getD k 0)
    ·have hp':∀i,i<k+1->ya9 i (s.getD i 0):=fun i hi=>by
      by_cases e:i=k
      ·subst e;exact hok
      ·exact hp i (by omega)
     have ih:=ih hlt hp'
     unfold ya9 at hok
     repeat' ((conv=>whnf);first
     | refine Yz ?_
      | (refine zk1.asc hlt ha ?_)
      | (refine Cmp.mk (fun h=> ?_) (fun h=> ?_))|(refine Rem.any (by omega) (fun r hr he=> ?_))|(refine Br.mk (fun h=> ?_) (fun h=> ?_))
      | (refine zad.to ih rfl rfl)
      | (exfalso;omega))
    ·have hno:=z2g hlt hok
     unfold ya9 at hok
     rw [hno]
     repeat' ((conv=>whnf);first
     | refine Yz ?_
      | (refine zk1.asc hlt ha ?_)
      | (refine Cmp.mk (fun h=> ?_) (fun h=> ?_))|(refine Rem.any (by omega) (fun r hr he=> ?_))|(refine Br.mk (fun h=> ?_) (fun h=> ?_))
      | (refine Ret.mk rfl)
      | (exfalso;omega))
   ·have hno:zc6 s=false:=z2g hlt (by unfold ya9;omega)
    rw [hno]
    repeat' ((conv=>whnf);first
    | refine Yz ?_
     | (refine zk1.high hlt (by omega) (fun c w hc hw=> ?_))
     | (refine Cmp.mk (fun h=> ?_) (fun h=> ?_))|(refine Rem.any (by omega) (fun r hr he=> ?_))|(refine Br.mk (fun h=> ?_) (fun h=> ?_))
     | (refine Ret.mk rfl)
     | (exfalso;omega))
  ·have hk':k=s.length:=by omega
   subst hk'
   have hyes:zc6 s=true:=decide_eq_true ⟨h0.1,h0.2,hp⟩
   rw [hyes]
   repeat' ((conv=>whnf);first
   | refine Yz ?_
    | (refine zk1.end' (Nat.le_refl _) ?_)
    | (refine Ret.mk rfl))
 ·have hno:zc6 s=false:=decide_eq_false fun hn=>h0 ⟨hn.1,hn.2.1⟩
  rw [hno]
  repeat' ((conv=>whnf);first
  | refine Yz ?_
   | (refine Cmp.mk (fun h=> ?_) (fun h=> ?_))|(refine Rem.any (by omega) (fun r hr he=> ?_))|(refine Br.mk (fun h=> ?_) (fun h=> ?_))
   | (refine Ret.mk rfl)
   | (exfalso;omega))
theorem zuq (s:List UInt8):Fc E zfu [S s] (B (zc6 s)):=by
 refine g.fn rfl rfl ?_
 by_cases h0:0<s.length/\s.length<=24
 ·repeat' ((conv=>whnf);first
 | refine Yz ?_)
  refine zad.to (zad.upP g (fun k=>[(0,S s),(3,I k)]) (fun _=>[]) (fun k=>∀i,i<k->ya9 i (s.getD i 0)) s.length (fun k hk hp ih=> ?_) 0 (Nat.zero_le _) (fun i hi=>by omega)) rfl rfl
  by_cases hlt:k<s.length
  ·by_cases hok:ya9 k (s.getD k 0)
   ·have hp':∀i,i<k+1->ya9 i (s.getD i 0):=fun i hi=>by
     by_cases e:i=k
     ·subst e;exact hok
     ·exact hp i (by omega)
    have ih:=ih hlt hp'
    unfold ya9 at hok
    repeat' ((conv=>whnf);first
    | refine Yz ?_
     | (refine z7v.at k (by omega) hlt ?_)
     | (refine Cmp.mk (fun h=> ?_) (fun h=> ?_))|(refine Rem.any (by omega) (fun r hr he=> ?_))|(refine Br.mk (fun h=> ?_) (fun h=> ?_))
     | (refine zad.to ih rfl rfl)
     | (exfalso;omega))
   ·have hno:=z2g hlt hok
    unfold ya9 at hok
    rw [hno]
    repeat' ((conv=>whnf);first
    | refine Yz ?_
     | (refine z7v.at k (by omega) hlt ?_)
     | (refine Cmp.mk (fun h=> ?_) (fun h=> ?_))|(refine Rem.any (by omega) (fun r hr he=> ?_))|(refine Br.mk (fun h=> ?_) (fun h=> ?_))
     | (refine Ret.mk rfl)
     | (exfalso;omega))
  ·have hk':k=s.length:=by omega
   subst hk'
   have hyes:zc6 s=true:=decide_eq_true ⟨h0.1,h0.2,hp⟩
   rw [hyes]
   repeat' ((conv=>whnf);first
   | refine Yz ?_
    | (refine Ret.mk rfl))
 ·have hno:zc6 s=false:=decide_eq_false fun hn=>h0 ⟨hn.1,hn.2.1⟩
  rw [hno]
  repeat' ((conv=>whnf);first
  | refine Yz ?_
   | (refine Cmp.mk (fun h=> ?_) (fun h=> ?_))|(refine Rem.any (by omega) (fun r hr he=> ?_))|(refine Br.mk (fun h=> ?_) (fun h=> ?_))
   | (refine Ret.mk rfl)
   | (exfalso;omega))
end
def dig (n:Int):UInt8:=UInt8.ofNat (48+n.toNat)
def zdz:Nat->Int->List UInt8
 | 0,_=>[]
 | k+1,n=>zdz k (n/10)++[dig (n%10)]
theorem zes:∀(k:Nat) (n:Int),(zdz k n).length=k
 | 0,_=>rfl
 | k+1,n=>by simp [zdz,zes k]
def dg (b:UInt8):Prop:=48<=b.toNat/\b.toNat<=57
instance (b:UInt8):Decidable (dg b):=by unfold dg;infer_instance
section
variable {E : Oracle} (g : Good E)
include g
theorem yk7 (n:Int) (h:0<=n/\n<=9223372036854775807):Fc E n_strconv_Itoa [I n] (S (zb0 20 n.toNat)):=
 Fc.extern g.lim (x:=itoaX) rfl (v:=S (zb0 20 n.toNat)) (m':=[]) (by simp only [itoaX];rw [if_pos h]) rfl
end
def zl2 (a:Int):List UInt8->Int
 | []=>a
 | b::r=>zl2 (10*a+((b.toNat:Int)-48)) r
theorem zlf:∀(l r:List UInt8) (a:Int),zl2 a (l++r)=zl2 (zl2 a l) r
 | [],_,_=>rfl
 | b::l,r,a=>by simp only [List.cons_append,zl2];exact zlf l r _
theorem yiy {s:List UInt8} {k:Nat} (h:k<s.length):zl2 0 (s.take (k+1))=10*zl2 0 (s.take k)+(((s.getD k 0).toNat:Int)-48):=by
 rw [List.take_add_one,zlf,List.getElem?_eq_getElem h]
 simp [zl2,List.getD,h]
theorem ybq:∀(n:Nat) (l:List UInt8),l.length=n->(∀x∈l,dg x)->0<=zl2 0 l/\zl2 0 l<(10^n:Nat)
 | 0,l,h,_=>by
  obtain rfl:=List.length_eq_zero_iff.1 h
  simp [zl2]
 | n+1,l,h,hd=>by
  have hne:l≠[]:=fun e=>by subst e;simp at h
  have e:l=l.dropLast++[l.getLast hne]:=(List.dropLast_concat_getLast hne).symm
  have ih:=ybq n l.dropLast (by simp [h]) fun x hx=>hd x (List.dropLast_subset l hx)
  have hl:=hd _ (List.getLast_mem hne)
  rw [e,zlf]
  simp only [zl2]
  unfold dg at hl
  rw [Nat.pow_succ]
  omega
def yxx (s:List UInt8) (w:Nat):Prop:=s.length=w/\∀x∈s,dg x
instance (s:List UInt8) (w:Nat):Decidable (yxx s w):=by unfold yxx;infer_instance
def z27 (s:List UInt8) (w:Nat):Bool:=decide (yxx s w)
theorem yox {s:List UInt8} {w:Nat} (h:s.length≠w):z27 s w=false:=decide_eq_false fun hn=>h hn.1
theorem zzl {s:List UInt8} {w k:Nat} (hk:k<s.length) (h:¬dg (s.getD k 0)):z27 s w=false:=decide_eq_false fun hn=>h (hn.2 _ (by
 simp [List.getD,hk]))
theorem yeq {s:List UInt8} {w:Nat} (h:s.length=w) (hd:∀i,i<s.length->dg (s.getD i 0)):z27 s w=true:=decide_eq_true ⟨h,fun x hx=>by
 obtain⟨i,hi,rfl⟩:=List.getElem_of_mem hx
 have:=hd i hi
 simpa [List.getD,hi] using this⟩
theorem ygm {s:List UInt8} {w:Nat} (h:z27 s w=true):0<=zl2 0 s/\zl2 0 s<(10^w:Nat):=
 have h:=of_decide_eq_true h
 ybq w s h.1 h.2
theorem ytl {s:List UInt8} {k w:Nat} (hk:k<=s.length) (hw:s.length<=w) (hd:∀i,i<k->dg (s.getD i 0)):0<=zl2 0 (s.take k)/\zl2 0 (s.take k)<(10^w:Nat):=by
 have h:=ybq k (s.take k) (by simp;omega) fun x hx=>by
  obtain⟨i,hi,rfl⟩:=List.getElem_of_mem hx
  have hi':i<k:=by simp at hi;omega
  have:=hd i hi'
  simpa [List.getD,show i<s.length by omega] using this
 have hp:10^k<=10^w:=Nat.pow_le_pow_right (by omega) (by omega)
 omega
theorem z4g:∀k:Nat,zdz k 0=List.replicate k 48
 | 0=>rfl
 | k+1=>by
  have:zdz (k+1) 0=zdz k 0++[48]:=rfl
  rw [this,z4g k,<-List.replicate_succ']
theorem ya4:∀(w f u:Nat),1<=w->w<=f->u<10^w->(zb0 f u).length<=w/\List.replicate (w-(zb0 f u).length) 48++zb0 f u=zdz w u
 | 0,_,_,h,_,_=>absurd h (by omega)
 | _+1,0,_,_,h,_=>absurd h (by omega)
 | w+1,f+1,u,_,hf,hu=>by
  simp only [zb0]
  split
  ·rename_i hlt
   refine⟨by simp,?_⟩
   have e1:(u:Int)/10=0:=by omega
   have e2:(u:Int)%10=u:=by omega
   simp only [zdz,e1,e2,z4g]
   simp [dig]
  ·rename_i hge
   have hw:1<=w:=by
    rcases Nat.eq_zero_or_pos w with h|h
    ·subst h;simp at hu;omega
    ·exact h
   rw [Nat.pow_succ] at hu
   obtain⟨h1,h2⟩:=ya4 w f (u/10) hw (by omega) (by omega)
   refine⟨by simp;omega,?_⟩
   have e1:(u:Int)/10=((u/10:Nat):Int):=by omega
   have e2:((u:Int)%10).toNat=u%10:=by omega
   simp only [zdz,e1]
   rw [<-h2]
   simp [dig,e2]
theorem yex (b:UInt8):b.toNat<256:=b.toNat_lt
theorem Wr.keep32 {x:Int} {K:Int->Prop} (h: -2147483648<=x/\x<=2147483647) (k:K x):Wr .i32 x K:=⟨by
 have:IntKind.i32.wrap x=x:=by
  have hb:IntKind.i32.wrap x=(if x%4294967296>=2147483648 then x%4294967296-4294967296 else x%4294967296):=by
   simp [IntKind.wrap,IntKind.signed,IntKind.bits]
  rw [hb]
  split<;>omega
 rw [this];exact k⟩
def yie (m:Int):List UInt8:=zdz 2 (m/60)++zdz 2 (m%60)
def ym6 (s:List UInt8):Prop:=z27 s 4=true/\zl2 0 s/100<=23/\zl2 0 s%100<=59
instance (s:List UInt8):Decidable (ym6 s):=by unfold ym6;infer_instance
def ywc (s:List UInt8):Int:=zl2 0 s/100*60+zl2 0 s%100
section
variable {E : Oracle} (g : Good E)
include g
theorem zj3 (s:List UInt8) (w:Nat) (hw:w<=5):Fc E zbi [S s,I w] (.tup [I (if z27 s w then zl2 0 s else 0),B (z27 s w)]):=by
 refine g.fn rfl rfl ?_
 by_cases h0:s.length=w
 ·have hp:10^w<=10^5:=Nat.pow_le_pow_right (by omega) (by omega)
  repeat' ((conv=>whnf);first
  | refine Yz ?_)
  refine zad.to (zad.upP g (fun k=>[(6,I (zl2 0 (s.take k))),(14,.it ⟨0,14,0⟩)]) (fun k=>[(⟨0,14,0⟩,.iter s k)]) (fun k=>∀i,i<k->dg (s.getD i 0)) s.length (fun k hk hp ih=> ?_) 0 (Nat.zero_le _) (fun i hi=>by omega)) rfl rfl
  have hv:=ytl hk (Nat.le_of_eq h0) hp
  by_cases hlt:k<s.length
  ·by_cases ha:(s.getD k 0).toNat<128
   ·by_cases hok:dg (s.getD k 0)
    ·have ih:=ih hlt fun i hi=>by
      by_cases e:i=k
      ·subst e;exact hok
      ·exact hp i (by omega)
     unfold dg at hok
     have e:=yiy hlt
     repeat' ((conv=>whnf);first
     | refine Yz ?_
      | (refine zk1.asc hlt ha ?_)
      | (refine Wr.keep32 (by omega) ?_)
      | (refine Cmp.mk (fun h=> ?_) (fun h=> ?_))|(refine Rem.any (by omega) (fun r hr he=> ?_))|(refine Br.mk (fun h=> ?_) (fun h=> ?_))
      | (refine zad.to ih (by rw [e]) rfl)
      | (exfalso;omega))
    ·have hno:=zzl (w:=w) hlt hok
     unfold dg at hok
     rw [hno]
     repeat' ((conv=>whnf);first
     | refine Yz ?_
      | (refine zk1.asc hlt ha ?_)
      | (refine Cmp.mk (fun h=> ?_) (fun h=> ?_))|(refine Rem.any (by omega) (fun r hr he=> ?_))|(refine Br.mk (fun h=> ?_) (fun h=> ?_))
      | (refine Ret.mk rfl)
      | (exfalso;omega))
   ·have hno:=zzl (w:=w) hlt (by unfold dg;omega)
    rw [hno]
    repeat' ((conv=>whnf);first
    | refine Yz ?_
     | (refine zk1.high hlt (by omega) (fun c w hc hw=> ?_))
     | (refine Cmp.mk (fun h=> ?_) (fun h=> ?_))|(refine Rem.any (by omega) (fun r hr he=> ?_))|(refine Br.mk (fun h=> ?_) (fun h=> ?_))
     | (refine Ret.mk rfl)
     | (exfalso;omega))
  ·have hk':k=s.length:=by omega
   subst hk'
   have hyes:=yeq h0 hp
   rw [hyes,if_pos rfl]
   repeat' ((conv=>whnf);first
   | refine Yz ?_
    | (refine zk1.end' (Nat.le_refl _) ?_)
    | (refine Ret.mk ?_))
   rw [List.take_length]
 ·have hno:=yox h0
  rw [hno]
  repeat' ((conv=>whnf);first
  | refine Yz ?_
   | (refine Ret.mk rfl))
omit g in
theorem zzz:∀k:Nat,Lib.repeatL [48] k=List.replicate k (48:UInt8)
 | 0=>rfl
 | k+1=>by
  rw [List.replicate_succ,<-zzz k]
  rfl
theorem zu3 (n:Int) (w:Nat) (hw:1<=w/\w<=5) (h:0<=n/\n<(10^w:Nat)):Fc E zco [I n,I w] (S (zdz w n)):=by
 refine g.fn rfl rfl ?_
 have hp:10^w<=10^5:=Nat.pow_le_pow_right (by omega) (by omega)
 obtain⟨h1,h2⟩:=ya4 w 20 n.toNat hw.1 (by omega) (by omega)
 rw [Int.toNat_of_nonneg h.1] at h2
 have hi:=yk7 g n (by omega)
 have hm:(if(w:Int)-((zb0 20 n.toNat).length:Int)>0 then(w:Int)-((zb0 20 n.toNat).length:Int) else 0)=((w-(zb0 20 n.toNat).length:Nat):Int):=by split<;>omega
 have hr:Fc E n_strings_Repeat [S [48],I (if(w:Int)-((zb0 20 n.toNat).length:Int)>0 then(w:Int)-((zb0 20 n.toNat).length:Int) else 0)] (S (List.replicate (w-(zb0 20 n.toNat).length) 48)):=by
  rw [hm]
  refine Fc.extern g.lim (x:=repeatX) rfl (v:=S (List.replicate (w-(zb0 20 n.toNat).length) 48)) (m':=[]) ?_ rfl
  simp only [repeatX]
  rw [if_pos ⟨by omega,by omega,by simp⟩,Int.toNat_natCast,zzz]
 repeat' ((conv=>whnf);first
 | refine Yz ?_
  | (apply zaf.of;assumption)
  | (refine zbk.mk (by simp only [zhb,List.length_replicate];omega) ?_)
  | (refine Ret.mk ?_))
 rw [h2]
theorem zbr (b:Bool) (e:Int):Fc E za7 [B b,I e] (I (if b then e else 0)):=by
 refine g.fn rfl rfl ?_
 cases b<;>repeat' ((conv=>whnf);first
 | refine Yz ?_
  | (refine Ret.mk rfl))
theorem z2i (n a b:Int):Fc E zdl [I n,I a,I b] (I (rng n a b)):=by
 refine g.fn rfl rfl ?_
 have hw:∀c,Fc E za7 [B c,I 3] (I (if c then 3 else 0)):=fun c=>zbr g c 3
 unfold rng
 by_cases h1:n<a
 ·rw [if_pos (.inl h1)]
  repeat' ((conv=>whnf);first
  | refine Yz ?_
   | (refine zaf.of (hw _) ?_)
   | (refine Ret.mk rfl))
 ·by_cases h2:b<n
  ·rw [if_pos (.inr h2)]
   repeat' ((conv=>whnf);first
   | refine Yz ?_
    | (refine zaf.of (hw _) ?_)
    | (refine Ret.mk rfl))
  ·rw [if_neg (by omega)]
   repeat' ((conv=>whnf);first
   | refine Yz ?_
    | (refine zaf.of (hw _) ?_)
    | (refine Ret.mk rfl))
theorem z6j (m:Int):Fc E zfm [I m] (.tup [S (if rng m 0 1439=0 then yie m else []),I (rng m 0 1439)]):=by
 refine g.fn rfl rfl ?_
 have hw:=z2i g m 0 1439
 by_cases h:rng m 0 1439=0
 ·rw [h] at hw ⊢
  have hm:=zcw.1 h
  have h1:=zu3 g (m/60) 2 (by omega) (by omega)
  have h2:=zu3 g (m%60) 2 (by omega) (by omega)
  repeat' ((conv=>whnf);first
  | refine Yz ?_
   | (apply zaf.of;assumption)
   | (refine zbk.mk (by simp only [zhb,zes];omega) ?_)
   | (refine Ret.mk rfl))
 ·rw [if_neg h]
  repeat' ((conv=>whnf);first
  | refine Yz ?_
   | (apply zaf.of;assumption)
   | (refine Ret.mk rfl))
theorem z7k (s:List UInt8):Fc E zc4 [S s] (.tup [I (if ym6 s then ywc s else 0),I (if ym6 s then 0 else 25)]):=by
 refine g.fn rfl rfl ?_
 have hn:=zj3 g s 4 (by omega)
 by_cases hp:ym6 s
 ·rw [if_pos hp,if_pos hp]
  obtain⟨hb,h1,h2⟩:=hp
  have hv:=ygm hb
  rw [hb,if_pos rfl] at hn
  unfold ywc
  generalize zl2 0 s=v at *
  repeat' ((conv=>whnf);first
  | refine Yz ?_
   | (apply zaf.of;assumption)
   | (refine Ret.mk rfl))
 ·rw [if_neg hp,if_neg hp]
  by_cases hb:z27 s 4=true
  ·have hv:=ygm hb
   have hq:¬(zl2 0 s/100<=23/\zl2 0 s%100<=59):=fun h=>hp ⟨hb,h⟩
   rw [hb,if_pos rfl] at hn
   clear hp
   generalize zl2 0 s=v at *
   repeat' ((conv=>whnf);first
   | refine Yz ?_
    | (apply zaf.of;assumption)
    | (refine Cmp.mk (fun h=> ?_) (fun h=> ?_))|(refine Rem.any (by omega) (fun r hr he=> ?_))|(refine Br.mk (fun h=> ?_) (fun h=> ?_))
    | (refine Ret.mk rfl)
    | (exfalso;omega))
  ·rw [Bool.not_eq_true] at hb
   rw [hb] at hn
   repeat' ((conv=>whnf);first
   | refine Yz ?_
    | (apply zaf.of;assumption)
    | (refine Ret.mk rfl))
end
theorem yrt:∀(m:Fin 128) (w:Fin 7),IntKind.i64.wrap ((BitVec.ofInt IntKind.i64.bits ((m.val:Int).fdiv (2^(min (w.val:Int).toNat IntKind.i64.bits)))&&&BitVec.ofInt IntKind.i64.bits 1).toNat)=(m.val:Int)/2^(w.val:Int).toNat%2:=by decide+kernel
theorem zdo.of {E:Oracle} {f:Nat} {args:List V} {cx:Cx} {slot:Nat} {m:Mem} {K:V->Mem->Prop} (h:In E 0 f args [] fun v m'=>zb4 (Go.Evl.settle cx slot 0 m m' v) fun p=>K p.1 p.2):zdo E f args cx slot m K:=by
 obtain⟨v,m',h1,p,h2,h3⟩:=h
 exact⟨v,m',p,h1,h2,h3⟩
section
variable {E : Oracle} (g : Good E)
include g
theorem yel (m w:Int) (hm:0<=m/\m<=127) (hw:0<=w/\w<=6):Fc E zhj [I m,I w] (B (inM m w)):=by
 refine g.fn rfl rfl ?_
 have h:=yrt ⟨m.toNat,by omega⟩ ⟨w.toNat,by omega⟩
 simp only [Int.toNat_of_nonneg hm.1,Int.toNat_of_nonneg hw.1] at h
 unfold inM
 by_cases hc:m/2^w.toNat%2=1
 ·repeat' ((conv=>whnf);first
 | refine Yz ?_
   | (refine Cmp.tt (h.trans hc) ?_)
   | (refine Ret.mk ?_))
  simp [hc]
 ·repeat' ((conv=>whnf);first
 | refine Yz ?_
   | (refine Cmp.ff (fun e=>hc (h.symm.trans e)) ?_)
   | (refine Ret.mk ?_))
  simp [hc]
end
structure Rqt where
 (nm ca ki te pa li:List UInt8)
 (fr to da mi se si no:Int)
 deriving DecidableEq
def Rqt.cells (q:Rqt):List D:=[.str q.nm,.str q.ca,.str q.ki,.str q.te,.str q.pa,.str q.li,DI q.fr,DI q.to,DI q.da,DI q.mi,DI q.se,DI q.si,DI q.no]
structure Lnt where
 ac:List UInt8
 rq:Rqt
def Lnt.cells (l:Lnt):List D:= .str l.ac::l.rq.cells
theorem Lnt.cells_length (l:Lnt):l.cells.length=14:=rfl
theorem Rqt.cells_length (q:Rqt):q.cells.length=13:=rfl
abbrev Rqv (q:Rqt):V:= .d (.agg q.cells)
abbrev Lnv (l:Lnt):V:= .d (.agg l.cells)
def nmE (s:List UInt8):Int:=if(!zc6 s)=true then 8 else 0
def ya3 (s:List UInt8):Bool:=decide (s=[])||zc6 s
def opE (s:List UInt8):Int:=if(!ya3 s)=true then 8 else 0
def z0e (s:List UInt8):Bool:=decide (s=[65])||decide (s=[68])
def znb (q:Rqt):Int:=zap [nmE q.nm,nmE q.ca,nmE q.pa,opE q.te,opE q.li,if(!z0e q.ki)=true then 13 else 0,if q.li=q.nm then 32 else 0,zor q.fr q.to q.da,rng q.mi 0 1439,rng q.se 0 999,rng q.si 1 9,rng q.no 0 99]
def yod:List (List UInt8):=[[78],[72],[67],[82],[68]]
def yn5:List (List UInt8):=[[75],[79],[85],[88]]
def ylk (s:List UInt8):Bool:=decide (s∈yod)
def yv0 (s:List UInt8):Bool:=decide (s∈yn5)
def ycq (s:List UInt8):Bool:=ylk s||yv0 s
abbrev REQ:List UInt8:=[82,69,81]
abbrev ANS:List UInt8:=[65,78,83]
def ywy (s:List UInt8):List UInt8:=if ylk s then REQ else if yv0 s then ANS else []
def zhn (l:Lnt):Int:=zap [if(!ycq l.ac)=true then 13 else 0,znb l.rq]
theorem yfl (l:Lnt):zhn l=if ycq l.ac then znb l.rq else 13:=by
 unfold zhn
 cases ycq l.ac
 ·simp [zap]
 ·simp only [zap];simp;intro h;exact h.symm
abbrev yt7:List (D×V):=[(.str [78],S REQ),(.str [72],S REQ),(.str [67],S REQ),(.str [82],S REQ),(.str [68],S REQ),(.str [75],S ANS),(.str [79],S ANS),(.str [85],S ANS),(.str [88],S ANS)]
theorem z88 (s:List UInt8):s∈yod++yn5\/zwt (.str s) yt7=some none/\ylk s=false/\yv0 s=false:=by
 by_cases h:s∈yod++yn5
 ·exact .inl h
 ·refine .inr ?_
  simp only [yod,yn5,List.mem_append,List.mem_cons,List.not_mem_nil,or_false,not_or] at h
  have e:∀t,s≠t->(s==t)=false:=fun t h=>beq_eq_false_iff_ne.2 h
  refine⟨?_,decide_eq_false (by simp [yod,h]),decide_eq_false (by simp [yn5,h])⟩
  obtain⟨⟨h1,h2,h3,h4,h5⟩,h6,h7,h8,h9⟩:=h
  simp only [zwt,eqD,e _ h1,e _ h2,e _ h3,e _ h4,e _ h5,e _ h6,e _ h7,e _ h8,e _ h9]
section
variable {E : Oracle} (g : Good E)
include g
theorem zzt (l:List Int) (hl:l.length<=140737488355328):Fc E zbj [LI l] (I (zap l)):=by
 refine g.fn rfl rfl ?_
 conv=>whnf
 refine zad.upP g (fun k=>[(5,LI l),(6,I l.length),(7,I k)]) (fun _=>[]) (fun k=>zap l=zap (l.drop k)) l.length (fun k hk hp ih=> ?_) 0 (Nat.zero_le _) (by simp)
 by_cases hlt:k<l.length
 ·have hd:=zn4 l k hlt
  repeat' ((conv=>whnf);first
  | refine Yz ?_
   | (refine zcj.int (by omega) ?_)
   | (refine Cmp.mk (fun h=> ?_) (fun h=> ?_))|(refine Rem.any (by omega) (fun r hr he=> ?_))|(refine Br.mk (fun h=> ?_) (fun h=> ?_))
   | (refine zad.to (ih hlt ?_) ?_ rfl)
   | (refine Ret.mk ?_))
  all_goals simp_all
 ·have:l.drop k=[]:=List.drop_eq_nil_of_le (by omega)
  repeat' ((conv=>whnf);first
  | refine Yz ?_
   | (refine Ret.mk ?_))
  simp [hp,this,zap]
theorem zc0 (a b:Int):Fc E zbj [.d (.list 2 [DI a,DI b])] (I (zap [a,b])):=zzt g [a,b] (by simp)
theorem zdi (a b c:Int):Fc E zbj [.d (.list 3 [DI a,DI b,DI c])] (I (zap [a,b,c])):=zzt g [a,b,c] (by simp)
theorem yj6 (a b c d:Int):Fc E zbj [.d (.list 4 [DI a,DI b,DI c,DI d])] (I (zap [a,b,c,d])):=zzt g [a,b,c,d] (by simp)
theorem yg6 (a b c d e f h i j k l m:Int):Fc E zbj [.d (.list 12 [DI a,DI b,DI c,DI d,DI e,DI f,DI h,DI i,DI j,DI k,DI l,DI m])] (I (zap [a,b,c,d,e,f,h,i,j,k,l,m])):=zzt g [a,b,c,d,e,f,h,i,j,k,l,m] (by simp)
theorem zqm (a b c d:Int):Fc E zfl [.d (.list 4 [DI a,DI b,DI c,DI d])] (I (zap [a,b,c,d])):=yc1 g [a,b,c,d] (by simp)
theorem yo2 (a b:Int):Fc E zfl [.d (.list 2 [DI a,DI b])] (I (zap [a,b])):=yc1 g [a,b] (by simp)
theorem yj0 (s:List UInt8):Fc E zf7 [S s] (I (nmE s)):=by
 refine g.fn rfl rfl ?_
 have h:=zmi g s
 repeat' ((conv=>whnf);first
 | refine Yz ?_
  | (apply zaf.of;assumption)
  | (refine zaf.of (zbr g _ _) ?_)
  | (refine Ret.mk rfl))
theorem yda (s:List UInt8):Fc E zgw [S s] (I (opE s)):=by
 refine g.fn rfl rfl ?_
 have h:=zmi g s
 unfold opE ya3
 by_cases he:s=[]
 ·subst he
  repeat' ((conv=>whnf);first
  | refine Yz ?_
   | (refine zaf.of (zbr g _ _) ?_)
   | (refine Ret.mk rfl))
 ·rw [decide_eq_false he]
  repeat' ((conv=>whnf);first
  | refine Yz ?_
   | (apply zaf.of;assumption)
   | (refine Cmp.ff he ?_)
   | (refine zaf.of (zbr g _ _) ?_)
   | (refine Ret.mk rfl))
theorem z4s (s:List UInt8):Fc E zh9 [S s] (B (ya3 s)):=by
 refine g.fn rfl rfl ?_
 have h:=zuq g s
 unfold ya3
 by_cases he:s=[]
 ·subst he
  repeat' ((conv=>whnf);first
  | refine Yz ?_
   | (refine Ret.mk rfl))
 ·rw [decide_eq_false he]
  repeat' ((conv=>whnf);first
  | refine Yz ?_
   | (apply zaf.of;assumption)
   | (refine Cmp.ff he ?_)
   | (refine Ret.mk rfl))
theorem yge (s:List UInt8):Fc E zdk [S s] (B (z0e s)):=by
 refine g.fn rfl rfl ?_
 unfold z0e
 by_cases he:s=[65]
 ·subst he
  repeat' ((conv=>whnf);first
  | refine Yz ?_
   | (refine Ret.mk rfl))
 ·rw [decide_eq_false he]
  by_cases hd:s=[68]
  ·subst hd
   repeat' ((conv=>whnf);first
   | refine Yz ?_
    | (refine Ret.mk rfl))
  ·rw [decide_eq_false hd]
   repeat' ((conv=>whnf);first
   | refine Yz ?_
    | (refine Cmp.ff he ?_)
    | (refine Cmp.ff hd ?_)
    | (refine Ret.mk rfl))
theorem zrn (q:Rqt):Fc E ze8 [Rqv q] (I (znb q)):=by
 refine g.fn rfl rfl ?_
 have h1:=yj0 g
 have h2:=yda g
 have h3:=yge g q.ki
 have h4:=zvn g q.fr q.to q.da
 have h5:=z2i g
 have h6:=zbr g
 unfold znb
 by_cases hl:q.li=q.nm
 all_goals first |rw [if_pos hl]|rw [if_neg hl]
 all_goals repeat' ((conv=>whnf);first
 | refine Yz ?_
  | (refine zaf.of (h1 _) ?_)
  | (refine zaf.of (h2 _) ?_)
  | (refine zaf.of h3 ?_)
  | (refine zaf.of h4 ?_)
  | (refine zaf.of (h5 _ _ _) ?_)
  | (refine zaf.of (h6 _ _) ?_)
  | (refine Cmp.tt hl ?_)
  | (refine Cmp.ff hl ?_)
  | (refine zaf.of (yg6 g _ _ _ _ _ _ _ _ _ _ _ _) ?_)
  | (refine Ret.mk rfl))
theorem z3k (q:Rqt):Fc E zhv [Rqv q] (I (znb q)):=by
 refine g.fn rfl rfl ?_
 have n1:=zuq g q.nm
 have n2:=zuq g q.ca
 have n3:=zuq g q.pa
 have n4:=z4s g q.te
 have n5:=z4s g q.li
 have hp:=z7h g q.fr q.to q.da
 have hr:=ziq g
 unfold znb nmE opE
 generalize zc6 q.nm=b1 at *
 generalize zc6 q.ca=b2 at *
 generalize zc6 q.pa=b3 at *
 generalize ya3 q.te=b4 at *
 generalize ya3 q.li=b5 at *
 generalize zor q.fr q.to q.da=cp at *
 cases b1
 ·repeat' ((conv=>whnf);first
 | refine Yz ?_
   | (apply zaf.of;assumption)
   | (refine Cmp.tt (by assumption) ?_)
   | (refine Cmp.ff (by assumption) ?_)
   | (refine zaf.of (hr _ _ _) ?_)
   | (refine zaf.of (zqm g _ _ _ _) ?_)
   | (refine Ret.mk ?_))
  rfl
 ·
  cases b2
  ·repeat' ((conv=>whnf);first
  | refine Yz ?_
    | (apply zaf.of;assumption)
    | (refine Cmp.tt (by assumption) ?_)
    | (refine Cmp.ff (by assumption) ?_)
    | (refine zaf.of (hr _ _ _) ?_)
    | (refine zaf.of (zqm g _ _ _ _) ?_)
    | (refine Ret.mk ?_))
   rfl
  ·
   cases b3
   ·repeat' ((conv=>whnf);first
   | refine Yz ?_
     | (apply zaf.of;assumption)
     | (refine Cmp.tt (by assumption) ?_)
     | (refine Cmp.ff (by assumption) ?_)
     | (refine zaf.of (hr _ _ _) ?_)
     | (refine zaf.of (zqm g _ _ _ _) ?_)
     | (refine Ret.mk ?_))
    rfl
   ·
    cases b4
    ·repeat' ((conv=>whnf);first
    | refine Yz ?_
      | (apply zaf.of;assumption)
      | (refine Cmp.tt (by assumption) ?_)
      | (refine Cmp.ff (by assumption) ?_)
      | (refine zaf.of (hr _ _ _) ?_)
      | (refine zaf.of (zqm g _ _ _ _) ?_)
      | (refine Ret.mk ?_))
     rfl
    ·
     cases b5
     ·repeat' ((conv=>whnf);first
     | refine Yz ?_
       | (apply zaf.of;assumption)
       | (refine Cmp.tt (by assumption) ?_)
       | (refine Cmp.ff (by assumption) ?_)
       | (refine zaf.of (hr _ _ _) ?_)
       | (refine zaf.of (zqm g _ _ _ _) ?_)
       | (refine Ret.mk ?_))
      rfl
     ·
      unfold z0e
      by_cases ka:q.ki=[65]
      all_goals by_cases kd:q.ki=[68]
      all_goals by_cases hl:q.li=q.nm
      all_goals by_cases hc:cp=0
      all_goals repeat' ((conv=>whnf);first
      | refine Yz ?_
       | (apply zaf.of;assumption)
       | (refine Cmp.tt (by assumption) ?_)
       | (refine Cmp.ff (by assumption) ?_)
       | (refine zaf.of (hr _ _ _) ?_)
       | (refine zaf.of (zqm g _ _ _ _) ?_)
       | (refine Ret.mk ?_))
      all_goals simp_all [zap]
theorem yjn (l:List (List UInt8)) (s:List UInt8) (hl:l.length<=140737488355328):Fc E zhg [.d (.list l.length (l.map D.str)),S s] (B (decide (s∈l))):=by
 refine g.fn rfl rfl ?_
 conv=>whnf
 refine zad.upP g (fun k=>[(0,.d (.list l.length (l.map D.str))),(1,S s),(5,I k)]) (fun _=>[]) (fun k=>∀i,i<k->∀x,l[i]? =some x->x≠s) l.length (fun k hk hp ih=> ?_) 0 (Nat.zero_le _) (fun i hi=>absurd hi (Nat.not_lt_zero _))
 by_cases hlt:k<l.length
 ·have hg:(l.map D.str)[((k:Int)).toNat*1]? =some (.str l[k]):=by simp [hlt]
  by_cases he:l[k]=s
  ·rw [decide_eq_true (by rw [<-he];exact List.getElem_mem hlt)]
   repeat' ((conv=>whnf);first
   | refine Yz ?_
    | (refine zcj.now hg ?_)
    | (refine Cmp.tt he ?_)
    | (refine Ret.mk rfl))
  ·have ih:=ih hlt fun i hi x hx=>by
    by_cases e:i=k
    ·subst e
     rw [List.getElem?_eq_getElem hlt] at hx
     rw [<-Option.some.inj hx];exact he
    ·exact hp i (by omega) x hx
   repeat' ((conv=>whnf);first
   | refine Yz ?_
    | (refine zcj.now hg ?_)
    | (refine Cmp.ff he ?_)
    | (refine zad.to ih rfl rfl))
 ·have hno:s∉l:=fun hm=>by
   obtain⟨i,hi,e⟩:=List.getElem_of_mem hm
   exact hp i (by omega) s (by rw [List.getElem?_eq_getElem hi,e]) rfl
  rw [decide_eq_false hno]
  repeat' ((conv=>whnf);first
  | refine Yz ?_
   | (refine Ret.mk rfl))
theorem yk5:In E 0 zev [] [] fun v m'=>v= .mp ⟨0,1,0⟩/\m'=[(⟨0,1,0⟩,.map yt7)]:=by
 refine In.enter (f:=zev) g.lim rfl rfl ?_
 repeat' ((conv=>whnf);first
 | refine Yz ?_
  | (refine yx7.mk ⟨_,rfl,?_⟩)
  | (exact⟨rfl,rfl⟩))
omit g in
theorem z3c {cx:Cx} {slot:Nat} {m:Mem} (hf:Go.Evl.freeK cx.lv slot m=0):Go.Evl.settle cx slot 0 m [(⟨0,1,0⟩,.map yt7)] (.mp ⟨0,1,0⟩)=some (.mp ⟨cx.lv,slot,0⟩,m++[(⟨cx.lv,slot,0⟩,.map yt7)]):=by
 unfold Go.Evl.settle
 rw [hf]
 rfl
theorem zdo.actions {cx:Cx} {slot:Nat} {m:Mem} {K:V->Mem->Prop} (hf:Go.Evl.freeK cx.lv slot m=0) (h:K (.mp ⟨cx.lv,slot,0⟩) (m++[(⟨cx.lv,slot,0⟩,.map yt7)])):zdo E zev [] cx slot m K:=by
 obtain⟨v,m',h1,rfl,rfl⟩:=(yk5 g).got
 exact⟨_,_,_,h1,z3c hf,h⟩
theorem z5w (s:List UInt8):Fc E zcu [S s] (B (ycq s)):=by
 refine g.fn rfl rfl ?_
 rcases z88 s with h|⟨h,h1,h2⟩
 ·simp only [yod,yn5,List.cons_append,List.nil_append,List.mem_cons,List.not_mem_nil,or_false] at h
  rcases h with rfl|rfl|rfl|rfl|rfl|rfl|rfl|rfl|rfl
  all_goals repeat' ((conv=>whnf);first
  | refine Yz ?_
   | (refine zdo.actions g rfl ?_)
   | (refine z39.mk ⟨_,rfl,?_⟩)
   | (refine Ret.mk rfl))
 ·unfold ycq
  rw [h1,h2]
  repeat' ((conv=>whnf);first
  | refine Yz ?_
   | (refine zdo.actions g rfl ?_)
   | (refine z39.mk ⟨_,h,?_⟩)
   | (refine Ret.mk rfl))
theorem zz0 (l:Lnt):Fc E ze3 [Lnv l] (I (zhn l)):=by
 refine g.fn rfl rfl ?_
 have h1:=z5w g l.ac
 have h2:=zrn g l.rq
 repeat' ((conv=>whnf);first
 | refine Yz ?_
  | (apply zaf.of;assumption)
  | (refine zaf.of (zbr g _ _) ?_)
  | (refine zaf.of (zc0 g _ _) ?_)
  | (refine Ret.mk rfl))
end
theorem zm0 {k:Nat} {ds:List D} (h:fit Tryz.prog (k+1) 9 ds):∃s,ds=[.str s]:=by
 obtain⟨s,rfl,_⟩:=yxp Tryz.underlying9 h
 exact⟨s,rfl⟩
theorem yhk {k:Nat} {ds:List D} (h:fit Tryz.prog (k+2) 45 ds):∃f t d,ds=[DI f,DI t,DI d]:=by
 obtain⟨_,_,rfl,h1,_,_,rfl,h2,_,_,rfl,h3,rfl⟩:=z14 Tryz.underlying45 h
 obtain⟨f,rfl,_⟩:=zkk h1
 obtain⟨t,rfl,_⟩:=zkk h2
 obtain⟨d,rfl,_⟩:=zkk h3
 exact⟨f,t,d,rfl⟩
theorem ybu {k:Nat} {ds:List D} (h:fit Tryz.prog (k+3) 47 ds):∃q:Rqt,ds=q.cells:=by
 obtain⟨_,_,rfl,h1,_,_,rfl,h2,_,_,rfl,h3,_,_,rfl,h4,_,_,rfl,h5,_,_,rfl,h6,_,_,rfl,h7,_,_,rfl,h8,_,_,rfl,h9,_,_,rfl,h10,_,_,rfl,h11,rfl⟩:=z14 Tryz.underlying47 h
 obtain⟨s1,rfl⟩:=zm0 h1
 obtain⟨s2,rfl⟩:=zm0 h2
 obtain⟨s3,rfl⟩:=zm0 h3
 obtain⟨s4,rfl⟩:=zm0 h4
 obtain⟨s5,rfl⟩:=zm0 h5
 obtain⟨s6,rfl⟩:=zm0 h6
 obtain⟨f,t,d,rfl⟩:=yhk h7
 obtain⟨a,rfl,_⟩:=zkk h8
 obtain⟨b,rfl,_⟩:=zkk h9
 obtain⟨c,rfl,_⟩:=zkk h10
 obtain⟨e,rfl,_⟩:=zkk h11
 exact⟨⟨s1,s2,s3,s4,s5,s6,f,t,d,a,b,c,e⟩,rfl⟩
def zuc (q:Rqt):Bool:=decide (q.nm.length<=40/\q.ca.length<=40/\q.ki.length<=40/\q.te.length<=40/\q.pa.length<=40/\q.li.length<=40)
section
variable {E : Oracle} (g : Good E)
include g
theorem yr0 (q:Rqt):Fc E zok [Rqv q] (B (zuc q)):=by
 refine g.fn rfl rfl ?_
 unfold zuc
 by_cases h1:q.nm.length<=40
 ·by_cases h2:q.ca.length<=40
  ·by_cases h3:q.ki.length<=40
   ·by_cases h4:q.te.length<=40
    ·by_cases h5:q.pa.length<=40
     ·by_cases h6:q.li.length<=40
      ·rw [decide_eq_true ⟨h1,h2,h3,h4,h5,h6⟩]
       repeat' ((conv=>whnf);first
       | refine Yz ?_
        | (refine Ret.mk rfl))
      ·rw [decide_eq_false (fun h=>h6 (by omega))]
       repeat' ((conv=>whnf);first
       | refine Yz ?_
        | (refine Ret.mk rfl))
     ·rw [decide_eq_false (fun h=>h5 (by omega))]
      repeat' ((conv=>whnf);first
      | refine Yz ?_
       | (refine Ret.mk rfl))
    ·rw [decide_eq_false (fun h=>h4 (by omega))]
     repeat' ((conv=>whnf);first
     | refine Yz ?_
      | (refine Ret.mk rfl))
   ·rw [decide_eq_false (fun h=>h3 (by omega))]
    repeat' ((conv=>whnf);first
    | refine Yz ?_
     | (refine Ret.mk rfl))
  ·rw [decide_eq_false (fun h=>h2 (by omega))]
   repeat' ((conv=>whnf);first
   | refine Yz ?_
    | (refine Ret.mk rfl))
 ·rw [decide_eq_false (fun h=>h1 (by omega))]
  repeat' ((conv=>whnf);first
  | refine Yz ?_
   | (refine Ret.mk rfl))
end
def zqt (m:Nat):List UInt8:=(List.range 7).map fun w=>if m/2^w%2=1 then UInt8.ofNat (49+w) else 48
def zon (s:List UInt8):Nat->Nat
 | 0=>0
 | k+1=>if s.getD k 0=48 then zon s k else zon s k+2^k
def zyr (s:List UInt8):Nat:=zon s (min 7 s.length)
theorem z23 (s:List UInt8):∀k,zon s k<2^k
 | 0=>by simp [zon]
 | k+1=>by
  have:=z23 s k
  simp only [zon]
  rw [Nat.pow_succ]
  split<;>omega
theorem yib:∀m:Fin 128,zyr (zqt m.val)=m.val:=by decide+kernel
theorem yoa (s:List UInt8):zyr s<128:=by
 have h1:=z23 s (min 7 s.length)
 have h2:2^(min 7 s.length)<=2^7:=Nat.pow_le_pow_right (by decide) (by omega)
 unfold zyr
 omega
def zlh (s:List UInt8):Prop:=zyr s≠0/\zqt (zyr s)=s
instance (s:List UInt8):Decidable (zlh s):=by unfold zlh;infer_instance
theorem yhd {s:List UInt8} {m:Nat} (h1:1<=m) (h2:m<128) (h:zqt m=s):zlh s/\zyr s=m:=by
 have:=yib ⟨m,h2⟩
 simp only at this
 rw [h] at this
 exact⟨⟨by omega,by rw [this];exact h⟩,this⟩
theorem yrj:∀a:Fin 128,∀w:Fin 7,a.val<2^w.val->IntKind.i64.wrap ((BitVec.ofInt IntKind.i64.bits (a.val:Int)|||BitVec.ofInt IntKind.i64.bits (1*2^(min ((w.val:Int)).toNat IntKind.i64.bits))).toNat)=((a.val+2^w.val:Nat):Int):=by decide+kernel
section
variable {E : Oracle} (g : Good E)
include g
omit g in
theorem yvo {k:Nat} (h:k<7):zb0 20 ((k:Int)+1).toNat=[UInt8.ofNat (49+k)]:=by
 have e:((k:Int)+1).toNat=k+1:=by omega
 rw [e]
 show (if k+1<10 then [UInt8.ofNat (48+(k+1))] else _)=_
 rw [if_pos (by omega),show 48+(k+1)=49+k by omega]
omit g in
def zx8 (m:Nat) (k:Nat):List UInt8:=(List.range k).map fun w=>if m/2^w%2=1 then UInt8.ofNat (49+w) else 48
omit g in
theorem ygs (m k:Nat):zx8 m (k+1)=zx8 m k++[if m/2^k%2=1 then UInt8.ofNat (49+k) else 48]:=by simp [zx8,List.range_succ]
omit g in
theorem z92 (m k:Nat):(zx8 m k).length=k:=by simp [zx8]
omit g in
def byD (l:List UInt8):List D:=l.map fun b=>D.int .u8 b.toNat
omit g in
theorem z67 (a b:List UInt8):byD (a++b)=byD a++byD b:=by simp [byD]
omit g in
theorem ykf (a:List UInt8):(byD a).length=a.length:=by simp [byD]
omit g in
theorem yaq (a:List UInt8):Evl.bytesD a=byD a:=rfl
omit g in
theorem zz3 {bt et t n:Nat} {m:Mem} {o r:Evl.Id} {p:V} {xs:List D} {b:List UInt8} (h1:Evl.look m o=some (.cells bt [p,.ref r 0 n n])) (h2:Evl.look m r=some (.row false et 1 n xs)) (hn:n≠0) (hb:Evl.bytesOf xs=some b):stringX bt et [.ptr o 0 t] m=some (.d (.str b),Evl.upd m r .gone):=by
 simp only [stringX,h1,h2,hb]
 simp [hn]
omit g in
theorem zoe:∀l:List UInt8,Evl.bytesOf (byD l)=some l
 | []=>rfl
 | b::r=>by
  have h:=b.toNat_lt
  show (if 0<=(b.toNat:Int)/\(b.toNat:Int)<256 then(Evl.bytesOf (byD r)).map (UInt8.ofNat ((b.toNat:Int)).toNat::·) else none)=_
  rw [if_pos (by omega),zoe r]
  simp
omit g in
theorem ys6 (m k:Nat):inM m k=decide (m/2^k%2=1):=by
 unfold inM
 rw [Int.toNat_natCast]
 apply decide_eq_decide.2
 have e:((m:Int)/2^k%2)=((m/2^k%2:Nat):Int):=by
  rw [Int.natCast_emod,Int.natCast_ediv,Int.natCast_pow];rfl
 rw [e]
 omega
theorem z2r (m:Nat) (h:m<128):Fc E zf0 [I m] (S (zqt m)):=by
 refine g.fn rfl rfl ?_
 repeat' ((conv=>whnf);first
 | refine Yz ?_)
 refine zad.to (zad.up g (fun k=>[(0,I m),(3,.ptr ⟨0,3,1⟩ 0 0),(5,I k)]) (fun k=>[(⟨0,3,0⟩,.row false ty_uint8 1 k (byD (zx8 m k))),(⟨0,3,1⟩,.cells ty_strings_Builder [match k with|0=> .d .nilp|_+1=> .ptr ⟨0,3,1⟩ 0 0,.ref ⟨0,3,0⟩ 0 k k])]) 7 (fun k hk ih=> ?_) 0 (Nat.zero_le _)) rfl rfl
 have hlen:=z92 m k
 have hbl:(byD (zx8 m k)).length=k:=by simp [byD,hlen]
 by_cases hlt:k<7
 ·have hin:=yel g m k (by omega) (by omega)
  rw [ys6] at hin
  have hit:=yk7 g ((k:Int)+1) (by omega)
  rw [yvo hlt] at hit
  have hs:=ygs m k
  by_cases hb:m/2^k%2=1
  ·rw [decide_eq_true hb] at hin
   rw [if_pos hb] at hs
   cases k with
   | zero=>
    repeat' ((conv=>whnf);first
    | refine Yz ?_
     | (apply zaf.of;assumption)
     | (refine In.enter (f:=zak) g.lim rfl rfl ?_)
     | (refine zbk.mk (by simp [Evl.bytesD]<;>omega) ?_)
     | (refine In.extern g.lim (x:=copyX ty_strings_Builder) rfl rfl ?_)
     | (refine zb4.mk ⟨_,rfl,?_⟩)
     | (refine zad.to (ih hlt) rfl ?_))
    rw [hs];simp [byD,zx8,Evl.bytesD]
   | succ j=>
    repeat' ((conv=>whnf);first
    | refine Yz ?_
     | (apply zaf.of;assumption)
     | (refine In.enter (f:=zak) g.lim rfl rfl ?_)
     | (refine zbk.mk (by simp [Evl.bytesD]<;>omega) ?_)
     | (refine In.extern g.lim (x:=copyX ty_strings_Builder) rfl rfl ?_)
     | (refine zb4.mk ⟨_,rfl,?_⟩)
     | (refine zad.to (ih hlt) rfl ?_))
    rw [hs];simp [byD,Evl.bytesD]
  ·rw [decide_eq_false hb] at hin
   rw [if_neg hb] at hs
   cases k with
   | zero=>
    repeat' ((conv=>whnf);first
    | refine Yz ?_
     | (apply zaf.of;assumption)
     | (refine In.enter (f:=zdb) g.lim rfl rfl ?_)
     | (refine In.extern g.lim (x:=copyX ty_strings_Builder) rfl rfl ?_)
     | (refine zb4.mk ⟨_,rfl,?_⟩)
     | (refine zad.to (ih hlt) rfl ?_))
    rw [hs];simp [byD,zx8]
   | succ j=>
    repeat' ((conv=>whnf);first
    | refine Yz ?_
     | (apply zaf.of;assumption)
     | (refine In.enter (f:=zdb) g.lim rfl rfl ?_)
     | (refine In.extern g.lim (x:=copyX ty_strings_Builder) rfl rfl ?_)
     | (refine zb4.mk ⟨_,rfl,?_⟩)
     | (refine zad.to (ih hlt) rfl ?_))
    rw [hs];simp [byD]
 ·obtain rfl:k=7:=by omega
  have hx:stringX ty_strings_Builder ty_uint8 [.ptr ⟨0,3,1⟩ 0 0] [(⟨0,3,0⟩,.row false ty_uint8 1 7 (byD (zx8 m 7))),(⟨0,3,1⟩,.cells ty_strings_Builder [.ptr ⟨0,3,1⟩ 0 0,.ref ⟨0,3,0⟩ 0 7 7])]=some (S (zx8 m 7),[(⟨0,3,0⟩,.gone),(⟨0,3,1⟩,.cells ty_strings_Builder [.ptr ⟨0,3,1⟩ 0 0,.ref ⟨0,3,0⟩ 0 7 7])]):=by
   show (match Evl.bytesOf (byD (zx8 m 7)) with|some b=>some (V.d (.str b),_)|none=>none)=_
   rw [zoe];rfl
  repeat' ((conv=>whnf);first
  | refine Yz ?_
   | (refine In.extern g.lim (x:=stringX ty_strings_Builder ty_uint8) rfl hx ?_)
   | (refine Ret.mk rfl))
theorem z3v (m:Nat) (h:1<=m/\m<=127):Fc E zfz [I m] (.tup [S (zqt m),I 0]):=by
 refine g.fn rfl rfl ?_
 have hw:=zy4 g m 1 127
 rw [zcw.2 (by omega)] at hw
 repeat' ((conv=>whnf);first
 | refine Yz ?_
  | (refine zaf.of hw ?_)
  | (refine zaf.of (z2r g m (by omega)) ?_)
  | (refine Ret.mk rfl))
theorem ybx (s:List UInt8):Fc E zdj [S s] (.tup (if zlh s then [I (zyr s),I 0] else [I 0,I 25])):=by
 refine g.fn rfl rfl ?_
 repeat' ((conv=>whnf);first
 | refine Yz ?_)
 refine zad.to (zad.up g (fun k=>[(0,S s),(4,I (zon s k)),(8,I (if(s.length:Int)<7 then(s.length:Int) else 7)),(9,I k)]) (fun _=>[]) (min 7 s.length) (fun k hk ih=> ?_) 0 (Nat.zero_le _)) rfl rfl
 by_cases hlt:k<min 7 s.length
 ·have h1:=z23 s k
  have h2:2^k<=2^6:=Nat.pow_le_pow_right (by decide) (by omega)
  have hor:=yrj ⟨zon s k,by omega⟩ ⟨k,by omega⟩ h1
  have hps: -9223372036854775808<=1*(2:Int)^(min ((k:Int)).toNat IntKind.i64.bits)/\1*(2:Int)^(min ((k:Int)).toNat IntKind.i64.bits)<=9223372036854775807:=by
   have e:min ((k:Int)).toNat IntKind.i64.bits=k:=by
    have:IntKind.i64.bits=64:=rfl
    omega
   have h3:((2^k:Nat):Int)<=64:=by exact_mod_cast h2
   have h4:(0:Int)<2^k:=Int.pow_pos (by decide)
   rw [e]
   rw [Int.natCast_pow] at h3
   have:((2:Nat):Int)^k=(2:Int)^k:=rfl
   omega
  have hm:zon s (k+1)=if s.getD k 0=48 then zon s k else zon s k+2^k:=rfl
  by_cases e:s.getD k 0=48
  ·rw [if_pos e] at hm
   repeat' ((conv=>whnf);first
   | refine Yz ?_
    | (refine z7v.at k (by omega) (by omega) ?_)
    | (refine Cmp.tt (by rw [e];rfl) ?_)
    | (refine zad.to (ih hlt) ?_ rfl))
   rw [hm];rfl
  ·rw [if_neg e] at hm
   have hne:¬((s.getD k 0).toNat:Int)=48:=fun h=>by
    have h8:(s.getD k 0).toNat=(48:UInt8).toNat:=by show (s.getD k 0).toNat=48;omega
    exact e (UInt8.toNat_inj.1 h8)
   repeat' ((conv=>whnf);first
   | refine Yz ?_
    | (refine z7v.at k (by omega) (by omega) ?_)
    | (refine Cmp.ff hne ?_)
    | (refine Wr.keep hps ?_)
    | (refine zad.to (ih hlt) ?_ rfl))
   rw [hm,<-hor];rfl
 ·have hk':k=min 7 s.length:=by omega
  subst hk'
  have hlt7:=yoa s
  have hp:=z2r g (zyr s) hlt7
  have hM:zon s (min 7 s.length)=zyr s:=rfl
  rw [hM]
  by_cases hT:zlh s
  ·rw [if_pos hT]
   obtain⟨h1,h2⟩:=hT
   rw [h2] at hp
   repeat' ((conv=>whnf);first
   | refine Yz ?_
    | (refine zaf.of hp ?_)
    | (refine Cmp.tt rfl ?_)
    | (refine Ret.mk rfl))
  ·rw [if_neg hT]
   unfold zlh at hT
   by_cases h0:zyr s=0
   ·repeat' ((conv=>whnf);first
   | refine Yz ?_
     | (refine Ret.mk rfl))
   ·have hne:¬zqt (zyr s)=s:=fun e=>hT ⟨h0,e⟩
    repeat' ((conv=>whnf);first
    | refine Yz ?_
     | (refine zaf.of hp ?_)
     | (refine Cmp.ff hne ?_)
     | (refine Ret.mk rfl))
end
end Go.Proofs.YthmfkkpmjcbgeabGreatDoor.Co
namespace Go.Evl
open Go Go.Lib
def parts (b:UInt8):List UInt8->List (List UInt8)
 | []=>[[]]
 | x::r=>if x=b then []::parts b r else
  match parts b r with
  | []=>[[x]]
  | p::q=>(x::p)::q
theorem zvf (b:UInt8) (s:List UInt8):parts b s≠[]:=by
 cases s with
 | nil=>simp [parts]
 | cons x r=>
  unfold parts
  split
  ·simp
  ·split<;>simp
theorem z22 (b:UInt8):∀s:List UInt8,(parts b s).length<=s.length+1
 | []=>by simp [parts]
 | x::r=>by
  have ih:=z22 b r
  rw [parts]
  split
  ·simp;omega
  ·split
   ·simp
   ·rename_i h;rw [h] at ih;simp only [List.length_cons] at ih ⊢;omega
theorem zxt (b:UInt8):∀s:List UInt8,splitK [b] 0 (count s [b]) s=parts b s
 | []=>by
  have:count ([]:List UInt8) [b]=0:=count_miss (by rw [index_one];rfl)
  rw [this];rfl
 | x::r=>by
  have ih:=zxt b r
  unfold parts
  by_cases h:x=b
  ·subst h
   have hi:index (x::r) [x]=((0:Nat):Int):=by rw [index_one];simp [indexByte]
   have hc:=count_hit (by simp) hi
   simp only [List.length_cons,List.length_nil,Nat.zero_add,List.drop_succ_cons,List.drop_zero] at hc
   rw [hc,Nat.add_comm 1,if_pos rfl,<-ih]
   simp only [splitK,hi,List.length_cons,List.length_nil]
   rfl
  ·rw [count_cons_ne x b r h,if_neg h,<-ih]
   have hx:(x==b)=false:=by simpa using h
   generalize count r [b]=k
   cases k with
   | zero=>rfl
   | succ k=>
    have hr:index (x::r) [b]=if indexByte r b== -1 then -1 else indexByte r b+1:=by rw [index_one];simp [indexByte,hx]
    have hq:index r [b]=indexByte r b:=index_one r b
    simp only [splitK,hr,hq]
    have hge:=indexByte_ge r b
    by_cases hm:indexByte r b= -1
    ·simp [hm]
    ·obtain⟨i,hi⟩:∃i:Nat,indexByte r b=i:=⟨(indexByte r b).toNat,by omega⟩
     rw [hi]
     have e1:(((i:Nat):Int)== -1)=false:=by simp
     have e2:(((i:Nat):Int)+1== -1)=false:=by simp;omega
     have e3:(((i:Nat):Int)+1).toNat=i+1:=by omega
     simp only [e1,e2,e3,Bool.false_eq_true,if_false,Int.toNat_natCast,Nat.add_zero,List.take_succ_cons,List.length_cons,List.length_nil,Nat.zero_add,List.drop_succ_cons]
theorem yae (s:List UInt8) (b:UInt8):z8a s [b]=parts b s:=by
 unfold z8a
 rw [splitB_data]
 exact zxt b s
def zcg (b:UInt8):List (List UInt8)->List UInt8
 | []=>[]
 | [x]=>x
 | x::y::r=>x++b::zcg b (y::r)
theorem z1g (b:UInt8):∀l:List (List UInt8),Lib.join l [b]=zcg b l
 | []=>rfl
 | [x]=>Lib.join_one x [b]
 | x::y::r=>by
  have ih:=z1g b (y::r)
  simp only [Lib.join,List.intercalate] at ih ⊢
  simp only [List.intersperse_cons_cons,List.flatten_cons,ih,zcg]
  simp
theorem yb2 (b x:UInt8) (p:List UInt8) (q:List (List UInt8)):zcg b ((x::p)::q)=x::zcg b (p::q):=by
 cases q<;>rfl
theorem zp0 (b:UInt8):∀s:List UInt8,zcg b (parts b s)=s
 | []=>rfl
 | x::r=>by
  have ih:=zp0 b r
  unfold parts
  by_cases h:x=b
  ·rw [if_pos h]
   cases hp:parts b r with
   | nil=>exact absurd hp (zvf b r)
   | cons p q=>rw [zcg,<-hp,ih,h];rfl
  ·rw [if_neg h]
   cases hp:parts b r with
   | nil=>exact absurd hp (zvf b r)
   | cons p q=>
    rw [hp] at ih
    rw [yb2,ih]
theorem z4u (b:UInt8):∀w:List UInt8,b∉w->parts b w=[w]
 | [],_=>rfl
 | x::r,h=>by
  have hx:¬x=b:=fun e=>h (by simp [e])
  have hr:b∉r:=fun e=>h (by simp [e])
  unfold parts
  rw [if_neg hx,z4u b r hr]
theorem zxz (b:UInt8) (s:List UInt8):∀w:List UInt8,b∉w->parts b (w++b::s)=w::parts b s
 | [],_=>by simp [parts]
 | x::r,h=>by
  have hx:¬x=b:=fun e=>h (by simp [e])
  have hr:b∉r:=fun e=>h (by simp [e])
  rw [List.cons_append,parts,if_neg hx,zxz b s r hr]
theorem zkg (b:UInt8):∀l:List (List UInt8),l≠[]->(∀w∈l,b∉w)->parts b (zcg b l)=l
 | [],h,_=>absurd rfl h
 | [x],_,h=>z4u b x (h x (by simp))
 | x::y::r,_,h=>by
  rw [zcg,zxz b _ x (h x (by simp)),zkg b (y::r) (by simp) fun w hw=>h w (by simp at hw ⊢;exact .inr hw)]
end Go.Evl
namespace Go.Proofs.YthmfkkpmjcbgeabGreatDoor.Co
open Go Go.Evl
set_option maxHeartbeats 32000000
set_option maxRecDepth 100000
def zp6 (s:List UInt8):List UInt8:=if s=[] then [45] else s
def zlw (l:Lnt):List (List UInt8):=[l.ac,l.rq.ca,l.rq.nm,l.rq.ki,l.rq.pa,zdz 5 l.rq.fr,zdz 5 l.rq.to,zqt l.rq.da.toNat,yie l.rq.mi,zdz 3 l.rq.se,zdz 1 l.rq.si,zdz 2 l.rq.no,zp6 l.rq.te,zp6 l.rq.li]
def zr3 (l:Lnt):List UInt8:=zcg 32 (zlw l)
theorem zbq:∀l:List Int,zap l=0↔∀x∈l,x=0
 | []=>by simp [zap]
 | x::r=>by
  simp only [zap,List.mem_cons,forall_eq_or_imp]
  split
  ·rename_i h;rw [zbq r];exact⟨fun hr=>⟨h,hr⟩,fun hr=>hr.2⟩
  ·rename_i h;exact⟨fun hr=>absurd hr h,fun hr=>absurd hr.1 h⟩
structure yuj (q:Rqt):Prop where
 nm:zc6 q.nm=true
 ca:zc6 q.ca=true
 pa:zc6 q.pa=true
 te:ya3 q.te=true
 li:ya3 q.li=true
 ki:z0e q.ki=true
 ne:q.li≠q.nm
 per:0<=q.fr/\q.fr<=q.to/\q.to<=99999/\q.to-q.fr<=400/\1<=q.da/\q.da<=127
 mi:0<=q.mi/\q.mi<=1439
 se:0<=q.se/\q.se<=999
 si:1<=q.si/\q.si<=9
 no:0<=q.no/\q.no<=99
theorem zzn {s:List UInt8} (h:nmE s=0):zc6 s=true:=by
 unfold nmE at h
 cases hb:zc6 s with
 | true=>rfl
 | false=>rw [hb] at h;simp at h
theorem yf4 {s:List UInt8} (h:opE s=0):ya3 s=true:=by
 unfold opE at h
 cases hb:ya3 s with
 | true=>rfl
 | false=>rw [hb] at h;simp at h
theorem ym7 {q:Rqt} (h:znb q=0):yuj q:=by
 unfold znb at h
 rw [zbq] at h
 simp only [List.mem_cons,List.not_mem_nil,or_false,forall_eq_or_imp,forall_eq] at h
 obtain⟨h1,h2,h3,h4,h5,h6,h7,h8,h9,h10,h11,h12⟩:=h
 refine⟨zzn h1,zzn h2,zzn h3,yf4 h4,yf4 h5,?_,?_,zsm.1 h8,zcw.1 h9,zcw.1 h10,zcw.1 h11,zcw.1 h12⟩
 ·cases hb:z0e q.ki with
  | true=>rfl
  | false=>rw [hb] at h6;simp at h6
 ·intro e;rw [if_pos e] at h7;cases h7
theorem zqk {l:Lnt} (h:zhn l=0):ycq l.ac=true/\yuj l.rq:=by
 rw [yfl] at h
 split at h
 ·rename_i ha;exact⟨ha,ym7 h⟩
 ·cases h
theorem zla {s:List UInt8} (h:zc6 s=true):s.length<=24:=(of_decide_eq_true h).2.1
theorem yq8 {s:List UInt8} (h:ya3 s=true):s.length<=24:=by
 simp only [ya3,Bool.or_eq_true,decide_eq_true_eq] at h
 rcases h with rfl|h
 ·simp
 ·exact zla h
theorem yem {s:List UInt8} (h:z0e s=true):s.length<=24:=by
 simp only [z0e,Bool.or_eq_true,decide_eq_true_eq] at h
 rcases h with rfl|rfl<;>simp
theorem ylc {s:List UInt8} (h:ycq s=true):s.length<=24:=by
 simp only [ycq,ylk,yv0,Bool.or_eq_true,decide_eq_true_eq,yod,yn5,List.mem_cons,List.not_mem_nil,or_false] at h
 rcases h with(rfl|rfl|rfl|rfl|rfl)|rfl|rfl|rfl|rfl<;>simp
theorem zzk {s:List UInt8} (h:ya3 s=true):(zp6 s).length<=24:=by
 unfold zp6
 split
 ·simp
 ·exact yq8 h
theorem z1p (m:Int):(yie m).length=4:=by simp [yie,zes]
theorem zxk (m:Nat):(zqt m).length=7:=by simp [zqt]
theorem zqg (b:UInt8) (n:Nat):∀l:List (List UInt8),(∀w∈l,w.length<=n)->(zcg b l).length<=l.length*(n+1)
 | [],_=>by simp [zcg]
 | [x],h=>by
  have:=h x (by simp)
  simp only [zcg,List.length_cons,List.length_nil]
  omega
 | x::y::r,h=>by
  have h1:=h x (by simp)
  have h2:=zqg b n (y::r) fun w hw=>h w (List.mem_cons_of_mem _ hw)
  rw [List.length_cons,Nat.succ_mul]
  simp only [zcg,List.length_append,List.length_cons] at h2 ⊢
  omega
theorem yi0 {l:Lnt} (ha:ycq l.ac=true) (hq:yuj l.rq):∀w∈zlw l,w.length<=24:=by
 have h1:=ylc ha
 have h2:=zla hq.ca
 have h3:=zla hq.nm
 have h4:=zla hq.pa
 have h5:=yem hq.ki
 have h6:=zzk hq.te
 have h7:=zzk hq.li
 simp only [zlw,List.mem_cons,List.not_mem_nil,or_false,forall_eq_or_imp,forall_eq,zes,z1p,zxk]
 omega
theorem ymr {l:Lnt} (ha:ycq l.ac=true) (hq:yuj l.rq):(zr3 l).length<=350:=by
 have:=zqg 32 24 (zlw l) (yi0 ha hq)
 have hw:(zlw l).length=14:=rfl
 rw [hw] at this
 exact Nat.le_trans this (by decide)
theorem z4h:∀l:List (List UInt8),Evl.strsOf (l.map D.str)=some l
 | []=>rfl
 | x::r=>by simp only [List.map_cons,Evl.strsOf,z4h r,Option.map_some]
section
variable {E : Oracle} (g : Good E)
include g
theorem ylo (l:List (List UInt8)) (hn:l≠[]) (hl:l.length<=1000000) (hj:(zcg 32 l).length<=1000000):Fc E n_strings_Join [.d (.list l.length (l.map D.str)),S [32]] (S (zcg 32 l)):=by
 refine Fc.extern g.lim (x:=joinX) rfl (v:=S (zcg 32 l)) (m':=[]) ?_ rfl
 simp only [joinX,z4h,z1g]
 rw [if_pos ⟨trivial,by simpa using hn,hj,hl⟩]
end
section
variable {E : Oracle} (g : Good E)
include g
theorem z8q (day:Int) (h:0<=day/\day<=1000000):Fc E zjd [I day] (I ((day+5)%7)):=by
 refine g.fn rfl rfl ?_
 repeat' ((conv=>whnf);first
 | refine Yz ?_
  | (refine Ret.mk rfl))
theorem yko (day:Int) (h:0<=day/\day<=1000000):Fc E zl1 [I day] (I ((day+5)%7)):=by
 refine g.fn rfl rfl ?_
 repeat' ((conv=>whnf);first
 | refine Yz ?_
  | (refine Ret.mk rfl))
end
def zmd (f d:Int):Nat->List Int
 | 0=>[]
 | k+1=>zmd f d k++(if inM d ((f+k+5)%7) then [f+k] else [])
theorem zpo (f d:Int):∀k:Nat,(zmd f d k).length<=k
 | 0=>Nat.le_refl _
 | k+1=>by
  have:=zpo f d k
  simp only [zmd,List.length_append]
  split<;>simp<;>omega
def yu1:C:= .reg false [⟨some 6,none,.mv (.t 8)⟩] [8]
def yvd:C:= .block 1 (.seq (.reg false [
⟨some 9,none,.load none (.t 3)⟩,
⟨some 10,none,.mv (.t 6)⟩,
⟨some 11,none,.call true true (.t 9) [.t 10]⟩] [3,9,10])
(.cond (.t 11) (.reg false [
⟨some 12,none,.load none (.t 5)⟩,
⟨some 13,none,.mv (.t 6)⟩,
⟨some 14,none,.mkList 1 1 [.t 13]⟩,
⟨some 15,none,.append ⟨false,zam,1,8⟩ (.t 12) (.t 14)⟩,
⟨none,none,.store 1 (.t 5) (.t 15)⟩] [5,6,12,13,14,15])
 .skip))
section
variable {E : Oracle} (g : Good E)
include g
theorem yb8 (f t d:Int) (h:zor f t d=0):Fc E zhk [Per f t d] (.tup [LI (zmd f d (t-f+1).toNat),I 0]):=by
 refine g.fn rfl rfl ?_
 have hc:=zvn g f t d
 rw [h] at hc
 have hb:=zsm.1 h
 repeat' ((conv=>whnf);first
 | refine Yz ?_
  | (refine zaf.of hc ?_)
  | (refine zdo.of (In.enter (f:=zjr) g.lim rfl rfl ?_))
  | (refine⟨(.fn zez [] [.ptr ⟨0,11,0⟩ 0 0],[(⟨0,1,0⟩,.cells zcx [I f,I t,I d]),(⟨0,11,0⟩,.cells zcx [I f,I t,I d])]),rfl,?_⟩)
  | (refine In.enter (f:=zf9) g.lim rfl rfl ?_)
  | (refine In.enter (f:=zez) g.lim rfl rfl ?_))
 refine zad.to (zad.up g (fun k=>[(0,.yld ⟨1,18,0⟩),(1,.ptr ⟨0,11,0⟩ 0 0),(3,I (f+k))]) (fun k=>[(⟨0,1,0⟩,.cells zcx [I f,I t,I d]),(⟨0,11,0⟩,.cells zcx [I f,I t,I d]),
  (⟨1,3,0⟩,.cells zop [.fn zgi [] []]),(⟨1,4,0⟩,.row false zam 1 0 []),(⟨1,5,0⟩,.row false zam 1 (zmd f d k).length ((zmd f d k).map DI)),(⟨1,5,1⟩,.cells ymx [.ref ⟨1,5,0⟩ 0 (zmd f d k).length (zmd f d k).length]),
  (⟨1,18,0⟩,.loop [(3,.ptr ⟨1,3,0⟩ 0 0),(4,.ref ⟨1,4,0⟩ 0 0 0),(5,.ptr ⟨1,5,1⟩ 0 0),(7,.fn zez [] [.ptr ⟨0,11,0⟩ 0 0])] [8] yu1 yvd 1 false false none)]) (t-f+1).toNat (fun k hk ih=> ?_) 0 (Nat.zero_le _)) (by simp) rfl
 have hlen:=zpo f d k
 by_cases hlt:k<(t-f+1).toNat
 ·have hin:=yel g d ((f+k+5)%7) (by omega) (by omega)
  by_cases hc:inM d ((f+k+5)%7)=true
  ·rw [hc] at hin
   repeat' ((conv=>whnf);first
   | refine Yz ?_
    | (refine zaf.of (z8q g _ (by omega)) ?_)
    | (refine zaf.of hin ?_)
    | (refine Rnd.enter g.lim ?_)
    | (refine In.enter (f:=zgi) g.lim rfl rfl ?_)
    | (refine zad.to (ih hlt) ?_ ?_))
   ·simp;omega
   ·simp [zmd,hc]
  ·rw [Bool.not_eq_true] at hc
   rw [hc] at hin
   repeat' ((conv=>whnf);first
   | refine Yz ?_
    | (refine zaf.of (z8q g _ (by omega)) ?_)
    | (refine zaf.of hin ?_)
    | (refine zad.to (ih hlt) ?_ ?_))
   ·simp;omega
   ·simp [zmd,hc]
 ·have hk':k=(t-f+1).toNat:=by omega
  repeat' ((conv=>whnf);first
  | refine Yz ?_
   | (refine Ret.mk ?_))
  simp [hk']
end
def yw3 (f t d day:Int):Bool:=decide (f<=day)&&(decide (day<=t)&&inM d ((day+5)%7))
section
variable {E : Oracle} (g : Good E)
include g
theorem yxm (f t d day:Int) (hd:0<=d/\d<=127) (h:0<=day/\day<=1000000):Fc E zsd [Per f t d,I day] (B (yw3 f t d day)):=by
 refine g.fn rfl rfl ?_
 have hin:=yni g d ((day+5)%7) hd (by omega)
 unfold yw3
 generalize inM d ((day+5)%7)=b at *
 by_cases h1:f<=day
 ·by_cases h2:day<=t
  all_goals repeat' ((conv=>whnf);first
  | refine Yz ?_
   | (refine zaf.of (yko g _ h) ?_)
   | (refine zaf.of hin ?_)
   | (refine Ret.mk ?_))
  all_goals simp [h1,h2]
 ·repeat' ((conv=>whnf);first
 | refine Yz ?_
   | (refine Ret.mk ?_))
  simp [h1]
theorem yr9 (f t d:Int) (l:List Int) (e:Int) (h:Fc E zhk [Per f t d] (.tup [LI l,I e])):Fc E zgl [Per f t d] (.tup [I l.length,I e]):=by
 refine g.fn rfl rfl ?_
 repeat' ((conv=>whnf);first
 | refine Yz ?_
  | (refine zaf.of h ?_)
  | (refine Ret.mk rfl))
theorem yno (f t d:Int) (h:zor f t d=0):Fc E zmv [Per f t d] (LI (zmd f d (t-f+1).toNat)):=by
 refine g.fn rfl rfl ?_
 have hb:=zsm.1 h
 repeat' ((conv=>whnf);first
 | refine Yz ?_)
 refine zad.to (zad.up g (fun k=>[(1,.ptr ⟨0,1,0⟩ 0 0),(3,.ref ⟨0,3,0⟩ 0 (zmd f d k).length (zmd f d k).length),(4,I (f+k))])
  (fun k=>[(⟨0,1,0⟩,.cells zcx [I f,I t,I d]),(⟨0,2,0⟩,.row false zam 1 0 []),(⟨0,3,0⟩,.row false zam 1 (zmd f d k).length ((zmd f d k).map DI))]) (t-f+1).toNat (fun k hk ih=> ?_) 0 (Nat.zero_le _)) (by simp [zmd]) rfl
 have hlen:=zpo f d k
 by_cases hlt:k<(t-f+1).toNat
 ·have hh:=yxm g f t d (f+k) (by omega) (by omega)
  have he:yw3 f t d (f+k)=inM d ((f+k+5)%7):=by
   simp only [yw3,decide_eq_true (show f<=f+(k:Int) by omega),decide_eq_true (show f+(k:Int)<=t by omega),Bool.true_and]
  rw [he] at hh
  by_cases hc:inM d ((f+k+5)%7)=true
  ·rw [hc] at hh
   repeat' ((conv=>whnf);first
   | refine Yz ?_
    | (refine zaf.of hh ?_)
    | (refine zad.to (ih hlt) ?_ ?_))
   ·simp [zmd,hc];omega
   ·simp [zmd,hc]
  ·rw [Bool.not_eq_true] at hc
   rw [hc] at hh
   repeat' ((conv=>whnf);first
   | refine Yz ?_
    | (refine zaf.of hh ?_)
    | (refine zad.to (ih hlt) ?_ ?_))
   ·simp [zmd,hc];omega
   ·simp [zmd,hc]
 ·have hk':k=(t-f+1).toNat:=by omega
  repeat' ((conv=>whnf);first
  | refine Yz ?_
   | (refine Ret.mk ?_))
  simp [hk']
end
structure Clm where
 rq:Rqt
 (hi re ne ye:Bool)
 di:Int
def Clm.cells (c:Clm):List D:=[.str c.rq.nm,.str c.rq.ca,.str c.rq.ki,.str c.rq.te,.str c.rq.pa,.str c.rq.li,DI c.rq.fr,DI c.rq.to,DI c.rq.da,DI c.rq.mi,DI c.rq.se,DI c.rq.si,DI c.rq.no,.bool c.hi,.bool c.re,.bool c.ne,.bool c.ye,DI c.di]
theorem Clm.cells_length (c:Clm):c.cells.length=18:=rfl
abbrev Clv (c:Clm):V:= .d (.agg c.cells)
def zhz (c:Clm):Int:=zap [znb c.rq,rng c.di 0 20000]
theorem z45 {c:Clm}:zhz c=0↔znb c.rq=0/\0<=c.di/\c.di<=20000:=by
 unfold zhz
 rw [zbq,<-zcw]
 simp
theorem ya6 {c:Clm} (h:zhz c=0):zor c.rq.fr c.rq.to c.rq.da=0:=by
 have h:=(z45.1 h).1
 unfold znb at h
 rw [zbq] at h
 exact h _ (by simp)
abbrev fcL:List (List UInt8):=[[104,105,115,116,111,114,105,99],[114,101,116,105,109,101,100],[110,101,119,99,111,109,101,114],[121,101,97,114,114,111,117,110,100],[100,97,121,115],[115,101,97,116,115],[115,105,122,101],[110,111,105,115,101],[100,105,115,116,97,110,99,101],[109,105,110,117,116,101]]
def ym1 (b:Bool):Int:=if b then 1 else 0
def zm1 (c:Clm) (s:List UInt8):Int:=
 if s=[104,105,115,116,111,114,105,99] then ym1 c.hi else if s=[114,101,116,105,109,101,100] then ym1 c.re else if s=[110,101,119,99,111,109,101,114] then ym1 c.ne
 else if s=[121,101,97,114,114,111,117,110,100] then ym1 c.ye else if s=[100,97,121,115] then((zmd c.rq.fr c.rq.da (c.rq.to-c.rq.fr+1).toNat).length:Int)
 else if s=[115,101,97,116,115] then c.rq.se else if s=[115,105,122,101] then c.rq.si else if s=[110,111,105,115,101] then c.rq.no else if s=[100,105,115,116,97,110,99,101] then c.di else c.rq.mi
abbrev fcE (s:List UInt8) (n:Nat):D×V:=(.str s,.d (.agg [.str s,.fn n]))
abbrev ytc:List (D×V):=[fcE [104,105,115,116,111,114,105,99] zg7,fcE [114,101,116,105,109,101,100] zg1,fcE [110,101,119,99,111,109,101,114] zg2,fcE [121,101,97,114,114,111,117,110,100] zg4,fcE [100,97,121,115] zgz,fcE [115,101,97,116,115] zgu,fcE [115,105,122,101] zgy,fcE [110,111,105,115,101] zg6,fcE [100,105,115,116,97,110,99,101] zg5,fcE [109,105,110,117,116,101] zgc]
section
variable {E : Oracle} (g : Good E)
include g
theorem yf2 (l:List Int) (hl:l.length<=140737488355328):Fc E za3 [LI l] (I (zap l)):=by
 refine g.fn rfl rfl ?_
 conv=>whnf
 refine zad.upP g (fun k=>[(5,LI l),(6,I l.length),(7,I k)]) (fun _=>[]) (fun k=>zap l=zap (l.drop k)) l.length (fun k hk hp ih=> ?_) 0 (Nat.zero_le _) (by simp)
 by_cases hlt:k<l.length
 ·have hd:=zn4 l k hlt
  repeat' ((conv=>whnf);first
  | refine Yz ?_
   | (refine zcj.int (by omega) ?_)
   | (refine Cmp.mk (fun h=> ?_) (fun h=> ?_))|(refine Rem.any (by omega) (fun r hr he=> ?_))|(refine Br.mk (fun h=> ?_) (fun h=> ?_))
   | (refine zad.to (ih hlt ?_) ?_ rfl)
   | (refine Ret.mk ?_))
  all_goals simp_all
 ·have:l.drop k=[]:=List.drop_eq_nil_of_le (by omega)
  repeat' ((conv=>whnf);first
  | refine Yz ?_
   | (refine Ret.mk ?_))
  simp [hp,this,zap]
theorem zey (a b:Int):Fc E za3 [.d (.list 2 [DI a,DI b])] (I (zap [a,b])):=yf2 g [a,b] (by simp)
theorem zpn (a b c:Int):Fc E za3 [.d (.list 3 [DI a,DI b,DI c])] (I (zap [a,b,c])):=yf2 g [a,b,c] (by simp)
theorem zem (b:Bool) (e:Int):Fc E za8 [B b,I e] (I (if b=true then e else 0)):=by
 refine g.fn rfl rfl ?_
 cases b
 all_goals repeat' ((conv=>whnf);first
 | refine Yz ?_
  | (refine Ret.mk rfl))
theorem zp7 (n a b:Int):Fc E zc3 [I n,I a,I b] (I (rng n a b)):=by
 refine g.fn rfl rfl ?_
 have hw:=zem g
 unfold rng
 by_cases h1:n<a
 ·rw [if_pos (.inl h1)]
  repeat' ((conv=>whnf);first
  | refine Yz ?_
   | (refine zaf.of (hw _ _) ?_)
   | (refine Ret.mk rfl))
 ·by_cases h2:b<n
  ·rw [if_pos (.inr h2)]
   repeat' ((conv=>whnf);first
   | refine Yz ?_
    | (refine zaf.of (hw _ _) ?_)
    | (refine Ret.mk rfl))
  ·rw [if_neg (by omega)]
   repeat' ((conv=>whnf);first
   | refine Yz ?_
    | (refine zaf.of (hw _ _) ?_)
    | (refine Ret.mk rfl))
theorem zxn (b:Bool):Fc E zb1 [B b] (I (ym1 b)):=by
 refine g.fn rfl rfl ?_
 cases b
 all_goals repeat' ((conv=>whnf);first
 | refine Yz ?_
  | (refine Ret.mk rfl))
theorem yva (b:Bool):Fc E zjy [B b] (I (ym1 b)):=by
 refine g.fn rfl rfl ?_
 cases b
 all_goals repeat' ((conv=>whnf);first
 | refine Yz ?_
  | (refine Ret.mk rfl))
theorem ya2 (c:Clm):Fc E zfr [Clv c] (I (zhz c)):=by
 refine g.fn rfl rfl ?_
 have h1:=zrn g c.rq
 have h2:=zp7 g c.di 0 20000
 repeat' ((conv=>whnf);first
 | refine Yz ?_
  | (apply zaf.of;assumption)
  | (refine zaf.of (zey g _ _) ?_)
  | (refine Ret.mk rfl))
theorem z9a (c:Clm):Fc E zi2 [Clv c] (I (zhz c)):=by
 refine g.fn rfl rfl ?_
 have h1:=z3k g c.rq
 have h2:=ziq g c.di 0 20000
 repeat' ((conv=>whnf);first
 | refine Yz ?_
  | (apply zaf.of;assumption)
  | (refine zaf.of (yo2 g _ _) ?_)
  | (refine Ret.mk rfl))
theorem ymg:Fc E zh7 [] (.d (.list 10 (fcL.map D.str))):=g.compR 100 (by decide+kernel)
theorem ymu:Fc E zk7 [] (.d (.list 10 (fcL.map D.str))):=g.compR 100 (by decide+kernel)
theorem z9j (s:List UInt8):Fc E zhg [.d (.list 10 (fcL.map D.str)),S s] (B (decide (s∈fcL))):=yjn g fcL s (by decide)
theorem yt4:E (.call 0 zfj [] [])=some (.val (.mp ⟨0,4,0⟩) [(⟨0,4,0⟩,.map ytc)]):=g.lim.of_iter 100 _ _ (by kernel_rfl)
omit g in
theorem yab {cx:Cx} {slot:Nat} {m:Mem} (hf:Go.Evl.freeK cx.lv slot m=0):Go.Evl.settle cx slot 0 m [(⟨0,4,0⟩,.map ytc)] (.mp ⟨0,4,0⟩)=some (.mp ⟨cx.lv,slot,0⟩,m++[(⟨cx.lv,slot,0⟩,.map ytc)]):=by
 unfold Go.Evl.settle
 rw [hf]
 rfl
theorem zdo.known {cx:Cx} {slot:Nat} {m:Mem} {K:V->Mem->Prop} (hf:Go.Evl.freeK cx.lv slot m=0) (h:K (.mp ⟨cx.lv,slot,0⟩) (m++[(⟨cx.lv,slot,0⟩,.map ytc)])):zdo E zfj [] cx slot m K:=⟨_,_,_,yt4 g,yab hf,h⟩
theorem yth (c:Clm):Fc E zg7 [Clv c] (I (ym1 c.hi)):=by
 refine g.fn rfl rfl ?_
 repeat' ((conv=>whnf);first
 | refine Yz ?_
  | (refine zaf.of (zxn g _) ?_)
  | (refine Ret.mk rfl))
theorem yte (c:Clm):Fc E zg1 [Clv c] (I (ym1 c.re)):=by
 refine g.fn rfl rfl ?_
 repeat' ((conv=>whnf);first
 | refine Yz ?_
  | (refine zaf.of (zxn g _) ?_)
  | (refine Ret.mk rfl))
theorem yr1 (c:Clm):Fc E zg2 [Clv c] (I (ym1 c.ne)):=by
 refine g.fn rfl rfl ?_
 repeat' ((conv=>whnf);first
 | refine Yz ?_
  | (refine zaf.of (zxn g _) ?_)
  | (refine Ret.mk rfl))
theorem yq6 (c:Clm):Fc E zg4 [Clv c] (I (ym1 c.ye)):=by
 refine g.fn rfl rfl ?_
 repeat' ((conv=>whnf);first
 | refine Yz ?_
  | (refine zaf.of (zxn g _) ?_)
  | (refine Ret.mk rfl))
theorem ytd (c:Clm) (h:zor c.rq.fr c.rq.to c.rq.da=0):Fc E zgz [Clv c] (I (zmd c.rq.fr c.rq.da (c.rq.to-c.rq.fr+1).toNat).length):=by
 refine g.fn rfl rfl ?_
 have h1:=yr9 g _ _ _ _ _ (yb8 g _ _ _ h)
 repeat' ((conv=>whnf);first
 | refine Yz ?_
  | (apply zaf.of;assumption)
  | (refine Ret.mk rfl))
theorem yrq (c:Clm):Fc E zgu [Clv c] (I c.rq.se):=by
 refine g.fn rfl rfl ?_
 repeat' ((conv=>whnf);first
 | refine Yz ?_
  | (refine Ret.mk rfl))
theorem ytp (c:Clm):Fc E zgy [Clv c] (I c.rq.si):=by
 refine g.fn rfl rfl ?_
 repeat' ((conv=>whnf);first
 | refine Yz ?_
  | (refine Ret.mk rfl))
theorem yst (c:Clm):Fc E zg6 [Clv c] (I c.rq.no):=by
 refine g.fn rfl rfl ?_
 repeat' ((conv=>whnf);first
 | refine Yz ?_
  | (refine Ret.mk rfl))
theorem ysh (c:Clm):Fc E zg5 [Clv c] (I c.di):=by
 refine g.fn rfl rfl ?_
 repeat' ((conv=>whnf);first
 | refine Yz ?_
  | (refine Ret.mk rfl))
theorem yoo (c:Clm):Fc E zgc [Clv c] (I c.rq.mi):=by
 refine g.fn rfl rfl ?_
 repeat' ((conv=>whnf);first
 | refine Yz ?_
  | (refine Ret.mk rfl))
theorem yms (c:Clm) (s:List UInt8) (h:s∈fcL) (hc:zhz c=0):Fc E zj8 [Clv c,S s] (I (zm1 c s)):=by
 refine g.fn rfl rfl ?_
 have h1:=yno g _ _ _ (ya6 hc)
 simp only [fcL,List.mem_cons,List.not_mem_nil,or_false] at h
 rcases h with rfl|rfl|rfl|rfl|rfl|rfl|rfl|rfl|rfl|rfl
 all_goals repeat' ((conv=>whnf);first
 | refine Yz ?_
  | (apply zaf.of;assumption)
  | (refine zaf.of (yva g _) ?_)
  | (refine Ret.mk rfl))
end
theorem z8b {k:Nat} {ds:List D} (h:fit Tryz.prog (k+1) 4 ds):∃b,ds=[.bool b]:=yxz Tryz.underlying4 h
structure Tst where
 (fa op:List UInt8)
 va:Int
def Tst.cells (t:Tst):List D:=[.str t.fa,.str t.op,DI t.va]
abbrev Tsv (t:Tst):V:= .d (.agg t.cells)
theorem ypc {k:Nat} {ds:List D} (h:fit Tryz.prog (k+2) 98 ds):∃t:Tst,ds=t.cells:=by
 obtain⟨_,_,rfl,h1,_,_,rfl,h2,_,_,rfl,h3,rfl⟩:=z14 Tryz.underlying98 h
 obtain⟨s1,rfl⟩:=zm0 h1
 obtain⟨s2,rfl⟩:=zm0 h2
 obtain⟨n,rfl,_⟩:=zkk h3
 exact⟨⟨s1,s2,n⟩,rfl⟩
def zqf:List (List UInt8)->List UInt8->Nat->Int
 | [],_,_=> -1
 | x::r,s,k=>if s=x then k else zqf r s (k+1)
theorem zqh (s:List UInt8):∀(l:List (List UInt8)) (k:Nat),0<=zqf l s k↔s∈l
 | [],k=>by simp [zqf]
 | x::r,k=>by
  unfold zqf
  split
  ·rename_i h
   simp [h]
  ·rename_i h
   rw [zqh s r]
   simp [h]
theorem yi8 (l:List (List UInt8)) (s:List UInt8) (k:Nat) (h:k<l.length):zqf (l.drop k) s k=if s=l[k] then(k:Int) else zqf (l.drop (k+1)) s (k+1):=by
 rw [List.drop_eq_getElem_cons h]
 rfl
def opB (s:List UInt8):Bool:=decide (s=[61])||decide (s=[60])||decide (s=[62])
def zjx (t:Tst):Int:=zap [if t.fa∈fcL then 0 else 10,if opB t.op=true then 0 else 13,rng t.va 0 999999999]
def yiv (v:Int) (op:List UInt8) (va:Int):Bool:=if op=[60] then decide (v<va) else if op=[62] then decide (va<v) else decide (v=va)
def zwm (c:Clm) (t:Tst):Bool:=yiv (zm1 c t.fa) t.op t.va
theorem zju {t:Tst} (h:zjx t=0):t.fa∈fcL/\(t.op=[61]\/t.op=[60]\/t.op=[62]):=by
 unfold zjx at h
 rw [zbq] at h
 have h1:=h _ (List.mem_cons_self ..)
 have h2:=h (if opB t.op=true then 0 else 13) (by simp)
 refine⟨Classical.byContradiction fun hn=> ?_,?_⟩
 ·rw [if_neg hn] at h1;cases h1
 ·cases ho:opB t.op with
  | false=>rw [ho] at h2;cases h2
  | true=>simpa [opB,or_assoc] using ho
section
variable {E : Oracle} (g : Good E)
include g
theorem yp0 (l:List (List UInt8)) (s:List UInt8) (hl:l.length<=140737488355328):Fc E zee [.d (.list l.length (l.map D.str)),S s] (I (zqf l s 0)):=by
 refine g.fn rfl rfl ?_
 conv=>whnf
 refine zad.upP g (fun k=>[(0,.d (.list l.length (l.map D.str))),(1,S s),(7,I l.length),(8,I k)]) (fun _=>[]) (fun k=>zqf l s 0=zqf (l.drop k) s k) l.length (fun k hk hp ih=> ?_) 0 (Nat.zero_le _) (by simp)
 by_cases hlt:k<l.length
 ·have hd:=yi8 l s k hlt
  have hg:(l.map D.str)[((k:Int)).toNat*1]? =some (.str l[k]):=by simp [hlt]
  by_cases he:s=l[k]
  ·rw [hp,hd,if_pos he]
   repeat' ((conv=>whnf);first
   | refine Yz ?_
    | (refine zcj.now hg ?_)
    | (refine Cmp.tt he ?_)
    | (refine Ret.mk rfl))
  ·have ih:=ih hlt (by rw [hp,hd,if_neg he])
   repeat' ((conv=>whnf);first
   | refine Yz ?_
    | (refine zcj.now hg ?_)
    | (refine Cmp.ff he ?_)
    | (refine zad.to ih rfl rfl))
 ·have:l.drop k=[]:=List.drop_eq_nil_of_le (by omega)
  rw [hp,this]
  repeat' ((conv=>whnf);first
  | refine Yz ?_
   | (refine Ret.mk rfl))
theorem zrt (l:List (List UInt8)) (s:List UInt8) (hl:l.length<=140737488355328):Fc E zbd [.d (.list l.length (l.map D.str)),S s] (B (decide (s∈l))):=by
 refine g.fn rfl rfl ?_
 have h:=yp0 g l s hl
 have hm:=zqh s l 0
 generalize zqf l s 0=r at *
 by_cases hr:0<=r
 ·rw [decide_eq_true (hm.1 hr)]
  repeat' ((conv=>whnf);first
  | refine Yz ?_
   | (apply zaf.of;assumption)
   | (refine Ret.mk rfl))
 ·rw [decide_eq_false fun h=>hr (hm.2 h)]
  repeat' ((conv=>whnf);first
  | refine Yz ?_
   | (apply zaf.of;assumption)
   | (refine Ret.mk rfl))
theorem ydl (t:Tst):Fc E zhc [Tsv t] (I (zjx t)):=by
 refine g.fn rfl rfl ?_
 have h1:=ymg g
 have h2:Fc E zbd [.d (.list 10 (fcL.map D.str)),S t.fa] (B (decide (t.fa∈fcL))):=zrt g fcL t.fa (by decide)
 have h3:=zp7 g t.va 0 999999999
 have h4:Fc E za3 [.d (.list 3 [DI (if(!decide (t.fa∈fcL))=true then 10 else 0),DI (if(!opB t.op)=true then 13 else 0),DI (rng t.va 0 999999999)])] (I (zjx t)):=by
  have e:zjx t=zap [if(!decide (t.fa∈fcL))=true then 10 else 0,if(!opB t.op)=true then 13 else 0,rng t.va 0 999999999]:=by
   unfold zjx
   cases opB t.op<;>by_cases hf:t.fa∈fcL<;>simp [hf]
  rw [e]
  exact zpn g _ _ _
 generalize zjx t=z at *
 generalize rng t.va 0 999999999=y at *
 generalize decide (t.fa∈fcL)=b at *
 by_cases o1:t.op=[61]
 ·have ho:opB t.op=true:=by simp [opB,o1]
  rw [ho] at h4
  repeat' ((conv=>whnf);first
  | refine Yz ?_
   | (apply zaf.of;assumption)
   | (refine zaf.of (zem g _ _) ?_)
   | (refine Cmp.ff (fun h=>h o1) ?_)
   | (refine Ret.mk rfl))
 ·by_cases o2:t.op=[60]
  ·have ho:opB t.op=true:=by simp [opB,o2]
   rw [ho] at h4
   repeat' ((conv=>whnf);first
   | refine Yz ?_
    | (apply zaf.of;assumption)
    | (refine zaf.of (zem g _ _) ?_)
    | (refine Cmp.tt o1 ?_)
    | (refine Cmp.ff (fun h=>h o2) ?_)
    | (refine Ret.mk rfl))
  ·by_cases o3:t.op=[62]
   ·have ho:opB t.op=true:=by simp [opB,o3]
    rw [ho] at h4
    repeat' ((conv=>whnf);first
    | refine Yz ?_
     | (apply zaf.of;assumption)
     | (refine zaf.of (zem g _ _) ?_)
     | (refine Cmp.tt o1 ?_)
     | (refine Cmp.tt o2 ?_)
     | (refine Cmp.ff (fun h=>h o3) ?_)
     | (refine Ret.mk rfl))
   ·have ho:opB t.op=false:=by simp [opB,o1,o2,o3]
    rw [ho] at h4
    repeat' ((conv=>whnf);first
    | refine Yz ?_
     | (apply zaf.of;assumption)
     | (refine zaf.of (zem g _ _) ?_)
     | (refine Cmp.tt o1 ?_)
     | (refine Cmp.tt o2 ?_)
     | (refine Cmp.tt o3 ?_)
     | (refine Ret.mk rfl))
theorem ycd (t:Tst):Fc E zj0 [Tsv t] (I (zjx t)):=by
 refine g.fn rfl rfl ?_
 have h1:=ymu g
 have h2:=z9j g t.fa
 have h3:=ziq g t.va 0 999999999
 unfold zjx
 generalize rng t.va 0 999999999=y at *
 by_cases hf:t.fa∈fcL
 ·rw [decide_eq_true hf] at h2
  rw [if_pos hf]
  by_cases o1:t.op=[61]
  ·have ho:opB t.op=true:=by simp [opB,o1]
   rw [ho]
   repeat' ((conv=>whnf);first
   | refine Yz ?_
    | (apply zaf.of;assumption)
    | (refine Cmp.ff (fun h=>h o1) ?_)
    | (refine Ret.mk ?_))
   all_goals simp [zap]
   all_goals (intro h;exact h.symm)
  ·by_cases o2:t.op=[60]
   ·have ho:opB t.op=true:=by simp [opB,o2]
    rw [ho]
    repeat' ((conv=>whnf);first
    | refine Yz ?_
     | (apply zaf.of;assumption)
     | (refine Cmp.tt o1 ?_)
     | (refine Cmp.ff (fun h=>h o2) ?_)
     | (refine Ret.mk ?_))
    all_goals simp [zap]
    all_goals (intro h;exact h.symm)
   ·by_cases o3:t.op=[62]
    ·have ho:opB t.op=true:=by simp [opB,o3]
     rw [ho]
     repeat' ((conv=>whnf);first
     | refine Yz ?_
      | (apply zaf.of;assumption)
      | (refine Cmp.tt o1 ?_)
      | (refine Cmp.tt o2 ?_)
      | (refine Cmp.ff (fun h=>h o3) ?_)
      | (refine Ret.mk ?_))
     all_goals simp [zap]
     all_goals (intro h;exact h.symm)
    ·have ho:opB t.op=false:=by simp [opB,o1,o2,o3]
     rw [ho]
     repeat' ((conv=>whnf);first
     | refine Yz ?_
      | (apply zaf.of;assumption)
      | (refine Cmp.tt o1 ?_)
      | (refine Cmp.tt o2 ?_)
      | (refine Cmp.tt o3 ?_)
      | (refine Ret.mk ?_))
     all_goals simp [zap]
 ·rw [decide_eq_false hf] at h2
  rw [if_neg hf]
  repeat' ((conv=>whnf);first
  | refine Yz ?_
   | (apply zaf.of;assumption)
   | (refine Ret.mk ?_))
  all_goals simp [zap]
theorem z2w (c:Clm) (s:List UInt8) (h:s∈fcL) (hc:zhz c=0):∃n,zwt (.str s) ytc=some (some (.d (.agg [.str s,.fn n])))/\Fc E n [Clv c] (I (zm1 c s)):=by
 have f5:=ytd g c (ya6 hc)
 simp only [fcL,List.mem_cons,List.not_mem_nil,or_false] at h
 rcases h with rfl|rfl|rfl|rfl|rfl|rfl|rfl|rfl|rfl|rfl
 ·exact⟨_,rfl,yth g c⟩
 ·exact⟨_,rfl,yte g c⟩
 ·exact⟨_,rfl,yr1 g c⟩
 ·exact⟨_,rfl,yq6 g c⟩
 ·exact⟨_,rfl,f5⟩
 ·exact⟨_,rfl,yrq g c⟩
 ·exact⟨_,rfl,ytp g c⟩
 ·exact⟨_,rfl,yst g c⟩
 ·exact⟨_,rfl,ysh g c⟩
 ·exact⟨_,rfl,yoo g c⟩
theorem yob (c:Clm) (fa op:List UInt8) (va:Int) (hc:zhz c=0) (hf:fa∈fcL) (ho:op=[61]\/op=[60]\/op=[62]):Fc E zh5 [Clv c,.d (.agg [.str fa,.str op,DI va])] (B (yiv (zm1 c fa) op va)):=by
 refine g.fn rfl rfl ?_
 obtain⟨n,h1,h2⟩:=z2w g c fa hf hc
 unfold yiv
 generalize zm1 c fa=v at *
 rcases ho with rfl|rfl|rfl
 all_goals rcases Int.lt_trichotomy v va with h|h|h
 all_goals (first |rw [if_neg (by decide),if_neg (by decide)]|rw [if_neg (by decide),if_pos rfl]|rw [if_pos rfl])
 all_goals (first |rw [decide_eq_true (by omega)]|rw [decide_eq_false (by omega)])
 all_goals repeat' ((conv=>whnf);first
 | refine Yz ?_
  | (refine zdo.known g rfl ?_)
  | (refine z39.mk ⟨_,h1,?_⟩)
  | (apply zaf.of;assumption)
  | (refine Ret.mk rfl))
theorem ypk (c:Clm) (fa op:List UInt8) (va:Int) (hc:zhz c=0) (hf:fa∈fcL) (ho:op=[61]\/op=[60]\/op=[62]):Fc E zk8 [Clv c,.d (.agg [.str fa,.str op,DI va])] (B (yiv (zm1 c fa) op va)):=by
 refine g.fn rfl rfl ?_
 have h1:=yms g c fa hf hc
 unfold yiv
 generalize zm1 c fa=v at *
 rcases ho with rfl|rfl|rfl
 all_goals rcases Int.lt_trichotomy v va with h|h|h
 all_goals (first |rw [if_neg (by decide),if_neg (by decide)]|rw [if_neg (by decide),if_pos rfl]|rw [if_pos rfl])
 all_goals (first |rw [decide_eq_true (by omega)]|rw [decide_eq_false (by omega)])
 all_goals repeat' ((conv=>whnf);first
 | refine Yz ?_
  | (apply zaf.of;assumption)
  | (refine Ret.mk rfl))
theorem ysr (c:Clm) (t:Tst) (hc:zhz c=0) (ht:zjx t=0):Fc E zh5 [Clv c,Tsv t] (B (zwm c t)):=yob g c t.fa t.op t.va hc (zju ht).1 (zju ht).2
theorem ysm (c:Clm) (t:Tst) (hc:zhz c=0) (ht:zjx t=0):Fc E zk8 [Clv c,Tsv t] (B (zwm c t)):=ypk g c t.fa t.op t.va hc (zju ht).1 (zju ht).2
end
theorem za2 {α:Type} (cell:α->List D) (w:Nat) (hw:∀a,(cell a).length=w):∀l:List α,(l.flatMap cell).length=l.length*w
 | []=>by simp
 | c::r=>by rw [List.flatMap_cons,List.length_append,hw,za2 cell w hw r,List.length_cons,Nat.succ_mul];omega
theorem zjz {α:Type} (cell:α->List D) (w:Nat) (hw:∀a,(cell a).length=w):∀(l:List α) (k:Nat),(l.flatMap cell).drop (k*w)=(l.drop k).flatMap cell
 | l,0=>by simp
 | [],k+1=>by simp
 | c::r,k+1=>by
  rw [List.flatMap_cons,List.drop_succ_cons,<-zjz cell w hw r k,Nat.succ_mul,Nat.add_comm,<-List.drop_drop]
  congr 1
  rw [List.drop_append_of_le_length (by rw [hw];exact Nat.le_refl _),List.drop_of_length_le (by rw [hw];exact Nat.le_refl _)]
  rfl
theorem yj7 {α:Type} (cell:α->List D) (w:Nat) (hw:∀a,(cell a).length=w) (l:List α) (k:Nat) (h:k<l.length):win (l.flatMap cell) (k*w) w=cell l[k]:=by
 unfold win
 rw [zjz cell w hw,List.drop_eq_getElem_cons h,List.flatMap_cons,List.take_append_of_le_length (by rw [hw];exact Nat.le_refl _),List.take_of_length_le (by rw [hw];exact Nat.le_refl _)]
theorem ymk {α:Type} (cell:α->List D) (w:Nat) (hw:∀a,(cell a).length=w) (l:List α) (k j:Nat) (h:k<l.length) (hj:j<w):(l.flatMap cell)[k*w+j]? =(cell l[k])[j]? :=by
 rw [<-List.getElem?_drop,zjz cell w hw,List.drop_eq_getElem_cons h,List.flatMap_cons,List.getElem?_append_left (by rw [hw];exact hj)]
theorem zlb {α:Type} (cell:α->List D) (l:List α) (k:Nat) (h:k<l.length):(l.take (k+1)).flatMap cell=(l.take k).flatMap cell++cell l[k]:=by
 rw [List.take_add_one,List.flatMap_append,List.getElem?_eq_getElem h]
 simp
theorem za0.rec {α:Type} {cell:α->List D} {w:Nat} (hw:∀a,(cell a).length=w) {l:List α} {i:Int} {K:List D->Prop} (k:Nat) (hi:i=k) (h:k<l.length) (hk:K (cell l[k])):za0 (l.flatMap cell) (i.toNat*w) w K:=by
 subst hi
 rw [Int.toNat_natCast]
 have h1:=za2 cell w hw l
 refine⟨?_,by rw [yj7 cell w hw l k h];exact hk⟩
 have h2:(k+1)*w<=l.length*w:=Nat.mul_le_mul_right _ h
 rw [Nat.succ_mul] at h2
 omega
theorem za0.rec0 {α:Type} {cell:α->List D} {w:Nat} (hw:∀a,(cell a).length=w) {l:List α} {i:Int} {K:List D->Prop} (k:Nat) (hi:i=k) (h:k<l.length) (hk:K (cell l[k])):za0 (l.flatMap cell) ((0+i.toNat)*w) w K:=by
 rw [Nat.zero_add];exact za0.rec hw k hi h hk
theorem zcj.rec {α:Type} {cell:α->List D} {w:Nat} (hw:∀a,(cell a).length=w) {l:List α} {i:Int} {j:Nat} {K:D->Prop} {d:D} (k:Nat) (hi:i=k) (h:k<l.length) (hj:(cell l[k])[j]? =some d) (hk:K d):zcj (l.flatMap cell) (i.toNat*w+j) K:=by
 subst hi
 rw [Int.toNat_natCast]
 have hlt:j<w:=by
  have:=(List.getElem?_eq_some_iff.1 hj).1
  rwa [hw] at this
 exact⟨⟨d,by rw [ymk cell w hw l k j h hlt];exact hj,hk⟩⟩
theorem zcj.rec0 {α:Type} {cell:α->List D} {w:Nat} (hw:∀a,(cell a).length=w) {l:List α} {i:Int} {j:Nat} {K:D->Prop} {d:D} (k:Nat) (hi:i=k) (h:k<l.length) (hj:(cell l[k])[j]? =some d) (hk:K d):zcj (l.flatMap cell) ((0+i.toNat)*w+j) K:=by
 rw [Nat.zero_add];exact zcj.rec hw k hi h hj hk
theorem zcj.intI {l:List Int} {i:Int} {K:D->Prop} (k:Nat) (hi:i=k) (h:k<l.length) (hk:K (DI l[k])):zcj (l.map DI) (i.toNat*1) K:=by
 subst hi
 refine⟨⟨_,?_,hk⟩⟩
 simp [h]
theorem zcj.intI0 {l:List Int} {i:Int} {K:D->Prop} (k:Nat) (hi:i=k) (h:k<l.length) (hk:K (DI l[k])):zcj (l.map DI) ((0+i.toNat)*1) K:=by
 subst hi
 refine⟨⟨_,?_,hk⟩⟩
 simp [h]
theorem Tst.cells_length (t:Tst):t.cells.length=3:=rfl
structure Kyt where
 fa:List UInt8
 dn:Bool
def Kyt.cells (k:Kyt):List D:=[.str k.fa,.bool k.dn]
theorem Kyt.cells_length (k:Kyt):k.cells.length=2:=rfl
abbrev Kyv (k:Kyt):V:= .d (.agg k.cells)
structure Cls where
 nm:List UInt8
 wh:List Tst
 ky:List Kyt
def Cls.cells (c:Cls):List D:=[.str c.nm,.list c.wh.length (c.wh.flatMap Tst.cells),.list c.ky.length (c.ky.flatMap Kyt.cells)]
theorem Cls.cells_length (c:Cls):c.cells.length=3:=rfl
abbrev Csv (c:Cls):V:= .d (.agg c.cells)
abbrev LT (l:List Tst):V:= .d (.list l.length (l.flatMap Tst.cells))
abbrev LK (l:List Kyt):V:= .d (.list l.length (l.flatMap Kyt.cells))
abbrev LC (l:List Cls):V:= .d (.list l.length (l.flatMap Cls.cells))
structure Prg where
 cl:List Cls
 (po «of» fo:Int)
def Prg.cells (p:Prg):List D:=[.list p.cl.length (p.cl.flatMap Cls.cells),DI p.po,DI p.of,DI p.fo]
abbrev Pgv (p:Prg):V:= .d (.agg p.cells)
def zky:List Tst->Int
 | []=>0
 | t::r=>if zjx t=0 then zky r else zjx t
def zy2 (l:List Kyt):List (List UInt8):=l.map (·.fa)
def zuw (seen:List (List UInt8)) (k:Kyt):Int:=zap [if k.fa∈fcL then 0 else 10,if k.fa∈seen then 9 else 0]
def zkh (seen:List (List UInt8)):List Kyt->Int
 | []=>0
 | k::r=>if zuw seen k=0 then zkh (seen++[k.fa]) r else zuw seen k
def zys (c:Cls):Int:=zap [nmE c.nm,if 8<c.wh.length then 5 else 0,zky c.wh,if 8<c.ky.length then 5 else 0,zkh [] c.ky]
def znf (l:List Cls):List (List UInt8):=l.map (·.nm)
def zo0 (seen:List (List UInt8)) (c:Cls):Int:=zap [zys c,if c.nm∈seen then 9 else 0]
def ziv (seen:List (List UInt8)):List Cls->Int
 | []=>0
 | c::r=>if zo0 seen c=0 then ziv (seen++[c.nm]) r else zo0 seen c
def zgf (p:Prg):Int:=zap [rng p.po 0 p.cl.length,rng p.of 1 100,rng p.fo 0 p.of]
def znu (p:Prg):Int:=zap [if p.cl.length=0 then 12 else 0,if 16<p.cl.length then 5 else 0,ziv [] p.cl,zgf p]
theorem zn0 {α:Type} (f:α->List UInt8) {l:List α} {k:Nat} (h:k<l.length):(l.take (k+1)).map f=(l.take k).map f++[f l[k]]:=by
 rw [List.take_add_one,List.getElem?_eq_getElem h,List.map_append]
 rfl
theorem ykd {α:Type} (f:α->List D) (n:Nat) (hf:∀a,(f a).length=n) (l:List α) (k:Nat) (h:k<=l.length):win (l.flatMap f) 0 (k*n)=(l.take k).flatMap f:=by
 unfold win
 rw [List.drop_zero]
 have e:l.flatMap f=(l.take k).flatMap f++(l.drop k).flatMap f:=by rw [<-List.flatMap_append,List.take_append_drop]
 have hn:=za2 f n hf (l.take k)
 rw [List.length_take,Nat.min_eq_left h] at hn
 rw [e,List.take_append_of_le_length (by omega),List.take_of_length_le (by omega)]
theorem z00 {α:Type} (f:α->List D) (n:Nat) (hf:∀a,(f a).length=n) (l:List α) (k:Nat) (h:k<=l.length):V.d (.list (k-0) (win (l.flatMap f) (0*n) ((k-0)*n)))= .d (.list (l.take k).length ((l.take k).flatMap f)):=by
 rw [Nat.zero_mul,Nat.sub_zero,ykd f n hf l k h,List.length_take,Nat.min_eq_left h]
section
variable {E : Oracle} (g : Good E)
include g
theorem yxu (l:List Tst) (t:Tst):Fc E zcz [LT l,Tsv t] (I (zjx t)):=by
 refine g.fn rfl rfl ?_
 have h:=ydl g t
 repeat' ((conv=>whnf);first
 | refine Yz ?_
  | (apply zaf.of;assumption)
  | (refine Ret.mk rfl))
theorem yr3 (l:List Tst) (hl:l.length<=1000000):Fc E zeg [LT l,.d (.fn zcz)] (I (zky l)):=by
 refine g.fn rfl rfl ?_
 generalize hR:zky l=R
 repeat' ((conv=>whnf);first
 | refine Yz ?_)
 refine zad.to (zad.upP g (fun k=>[(0,LT l),(1,.d (.fn zcz)),(8,LT l),(9,I l.length),(10,I k)]) (fun _=>[]) (fun k=>zky (l.drop k)=R) l.length (fun k hk h0 ih=> ?_) 0 (Nat.zero_le _) hR) rfl rfl
 by_cases hlt:k<l.length
 ·rw [List.drop_eq_getElem_cons hlt,zky] at h0
  have ih:=ih hlt
  have hn:=yxu g (l.take k) l[k]
  have ht:=z00 Tst.cells 3 Tst.cells_length l k (by omega)
  generalize zjx l[k]=r at *
  by_cases hz:r=0
  ·rw [if_pos hz] at h0
   have ih:=ih h0
   repeat' ((conv=>whnf);first
   | refine Yz ?_
    | (refine za0.rec Tst.cells_length k rfl hlt ?_)
    | (refine zbe.at 0 k rfl rfl (by omega) ?_<;>(try rw [ht]))
    | (refine zaf.of hn ?_)
    | (refine Cmp.ff (fun h=>h hz) ?_)
    | (refine zad.to ih rfl rfl))
  ·rw [if_neg hz] at h0
   rw [<-h0]
   repeat' ((conv=>whnf);first
   | refine Yz ?_
    | (refine za0.rec Tst.cells_length k rfl hlt ?_)
    | (refine zbe.at 0 k rfl rfl (by omega) ?_<;>(try rw [ht]))
    | (refine zaf.of hn ?_)
    | (refine Cmp.tt hz ?_)
    | (refine Ret.mk rfl))
 ·rw [List.drop_eq_nil_of_le (by omega),zky] at h0
  rw [<-h0]
  repeat' ((conv=>whnf);first
  | refine Yz ?_
   | (refine Ret.mk rfl))
theorem ywe (l:List Kyt) (q:Kyt) (hl:l.length<=1000000) {K:V->Mem->Prop}
  (hK:K (I (zqf (zy2 l) q.fa 0)) [(⟨0,3,0⟩,.cells zan (q.cells.map V.d))]):
  In E 2 zbl [LK l,.fn zce [] [.ptr ⟨0,3,0⟩ 0 0]] [(⟨0,3,0⟩,.cells zan (q.cells.map V.d))] K:=by
 generalize hA:zqf (zy2 l) q.fa 0=A at *
 refine In.enter (f:=zbl) g.lim rfl rfl ?_
 repeat' ((conv=>whnf);first
 | refine Yz ?_)
 refine zad.to (zad.upP g (fun k=>[(0,LK l),(1,.fn zce [] [.ptr ⟨0,3,0⟩ 0 0]),(7,I l.length),(8,I k)]) (fun _=>_) (fun k=>zqf (zy2 (l.drop k)) q.fa k=A) l.length (fun k hk h0 ih=> ?_) 0 (Nat.zero_le _) hA) rfl rfl
 by_cases hlt:k<l.length
 ·rw [List.drop_eq_getElem_cons hlt,zy2,List.map_cons,zqf] at h0
  have ih:=ih hlt
  by_cases hd:l[k].fa=q.fa
  ·rw [if_pos hd.symm] at h0
   subst h0
   repeat' ((conv=>whnf);first
   | refine Yz ?_
    | (refine za0.rec Kyt.cells_length k rfl hlt ?_)
    | (refine In.enter (f:=zce) g.lim rfl rfl ?_)
    | (refine Cmp.tt hd ?_)
    | (exact hK))
  ·rw [if_neg (Ne.symm hd)] at h0
   have ih:=ih h0
   repeat' ((conv=>whnf);first
   | refine Yz ?_
    | (refine za0.rec Kyt.cells_length k rfl hlt ?_)
    | (refine In.enter (f:=zce) g.lim rfl rfl ?_)
    | (refine Cmp.ff hd ?_)
    | (refine zad.to ih rfl rfl))
 ·rw [List.drop_eq_nil_of_le (by omega),zy2,List.map_nil,zqf] at h0
  subst h0
  repeat' ((conv=>whnf);first
  | refine Yz ?_
   | (exact hK))
theorem yxs (l:List Kyt) (q:Kyt) (hl:l.length<=1000000):Fc E zc1 [LK l,Kyv q] (I (zuw (zy2 l) q)):=by
 refine g.fn rfl rfl ?_
 have h1:=ymg g
 have h2:Fc E zbd [.d (.list 10 (fcL.map D.str)),S q.fa] (B (decide (q.fa∈fcL))):=zrt g fcL q.fa (by decide)
 have h3:=zey g (if(!decide (q.fa∈fcL))=true then 10 else 0) (if q.fa∈zy2 l then 9 else 0)
 have e:zuw (zy2 l) q=zap [if(!decide (q.fa∈fcL))=true then 10 else 0,if q.fa∈zy2 l then 9 else 0]:=by
  unfold zuw
  by_cases hf:q.fa∈fcL<;>simp [hf]
 rw [e]
 have hm:=zqh q.fa (zy2 l) 0
 have hin:=fun {K}=>ywe g (K:=K) l q hl
 generalize zqf (zy2 l) q.fa 0=r at *
 generalize decide (q.fa∈fcL)=b at *
 by_cases hr:0<=r
 ·rw [if_pos (hm.1 hr)] at h3 ⊢
  repeat' ((conv=>whnf);first
  | refine Yz ?_
   | (refine In.enter (f:=zbg) g.lim rfl rfl ?_)
   | (refine hin ?_)
   | (apply zaf.of;assumption)
   | (refine zaf.of (zem g _ _) ?_)
   | (refine Ret.mk rfl))
 ·rw [if_neg (fun h=>hr (hm.2 h))] at h3 ⊢
  repeat' ((conv=>whnf);first
  | refine Yz ?_
   | (refine In.enter (f:=zbg) g.lim rfl rfl ?_)
   | (refine hin ?_)
   | (apply zaf.of;assumption)
   | (refine zaf.of (zem g _ _) ?_)
   | (refine Ret.mk rfl))
theorem yr6 (l:List Kyt) (hl:l.length<=1000000):Fc E zeo [LK l,.d (.fn zc1)] (I (zkh [] l)):=by
 refine g.fn rfl rfl ?_
 generalize hR:zkh [] l=R
 repeat' ((conv=>whnf);first
 | refine Yz ?_)
 refine zad.to (zad.upP g (fun k=>[(0,LK l),(1,.d (.fn zc1)),(8,LK l),(9,I l.length),(10,I k)]) (fun _=>[]) (fun k=>zkh (zy2 (l.take k)) (l.drop k)=R) l.length (fun k hk h0 ih=> ?_) 0 (Nat.zero_le _) hR) rfl rfl
 by_cases hlt:k<l.length
 ·have hs:zy2 (l.take (k+1))=zy2 (l.take k)++[l[k].fa]:=zn0 Kyt.fa hlt
  rw [List.drop_eq_getElem_cons hlt,zkh,<-hs] at h0
  have ih:=ih hlt
  have hn:=yxs g (l.take k) l[k] (by simp;omega)
  have ht:=z00 Kyt.cells 2 Kyt.cells_length l k (by omega)
  generalize zuw (zy2 (l.take k)) l[k]=r at *
  by_cases hz:r=0
  ·rw [if_pos hz] at h0
   have ih:=ih h0
   repeat' ((conv=>whnf);first
   | refine Yz ?_
    | (refine za0.rec Kyt.cells_length k rfl hlt ?_)
    | (refine zbe.at 0 k rfl rfl (by omega) ?_<;>(try rw [ht]))
    | (refine zaf.of hn ?_)
    | (refine Cmp.ff (fun h=>h hz) ?_)
    | (refine zad.to ih rfl rfl))
  ·rw [if_neg hz] at h0
   rw [<-h0]
   repeat' ((conv=>whnf);first
   | refine Yz ?_
    | (refine za0.rec Kyt.cells_length k rfl hlt ?_)
    | (refine zbe.at 0 k rfl rfl (by omega) ?_<;>(try rw [ht]))
    | (refine zaf.of hn ?_)
    | (refine Cmp.tt hz ?_)
    | (refine Ret.mk rfl))
 ·rw [List.drop_eq_nil_of_le (by omega),zkh] at h0
  rw [<-h0]
  repeat' ((conv=>whnf);first
  | refine Yz ?_
   | (refine Ret.mk rfl))
end
theorem z4t (a b:Int) (r:List Int):zap (a::b::r)=if zap [a,b]=0 then zap r else zap [a,b]:=by
 simp only [zap]
 by_cases ha:a=0
 ·by_cases hb:b=0<;>simp [ha,hb]
 ·simp [ha]
def z1b (c:Cls):Prop:=c.wh.length<=1000000/\c.ky.length<=1000000
def zpt (p:Prg):Prop:=p.cl.length<=1000000/\∀c∈p.cl,z1b c
section
variable {E : Oracle} (g : Good E)
include g
theorem zx0 (c:Cls) (hs:z1b c):Fc E zgq [Csv c] (I (zys c)):=by
 refine g.fn rfl rfl ?_
 have h1:=zmi g c.nm
 have h2:=yr3 g c.wh hs.1
 have h3:=yr6 g c.ky hs.2
 have hp:=zey g (nmE c.nm) (if 8<c.wh.length then 5 else 0)
 have hq:=zpn g (zky c.wh) (if 8<c.ky.length then 5 else 0) (zkh [] c.ky)
 unfold zys
 rw [z4t]
 unfold nmE at *
 obtain⟨l1,l2⟩:=hs
 generalize zap [zky c.wh,if 8<c.ky.length then 5 else 0,zkh [] c.ky]=q at *
 by_cases n1:8<c.wh.length
 ·rw [if_pos n1] at hp ⊢
  generalize zc6 c.nm=b at *
  have hz:zap [if(!b)=true then 8 else 0,5]≠0:=by cases b<;>decide
  rw [if_neg hz]
  generalize zap [if(!b)=true then 8 else 0,5]=r at *
  repeat' ((conv=>whnf);first
  | refine Yz ?_
   | (apply zaf.of;assumption)
   | (refine zaf.of (zem g _ _) ?_)
   | (refine Cmp.tt hz ?_)
   | (refine Ret.mk rfl))
 ·rw [if_neg n1] at hp ⊢
  generalize zc6 c.nm=b at *
  generalize zap [if(!b)=true then 8 else 0,0]=r at *
  by_cases hz:r=0
  ·rw [if_pos hz]
   by_cases n2:8<c.ky.length
   ·rw [if_pos n2] at hq
    repeat' ((conv=>whnf);first
    | refine Yz ?_
     | (apply zaf.of;assumption)
     | (refine zaf.of (zem g _ _) ?_)
     | (refine Cmp.ff (fun h=>h hz) ?_)
     | (refine Ret.mk rfl))
   ·rw [if_neg n2] at hq
    repeat' ((conv=>whnf);first
    | refine Yz ?_
     | (apply zaf.of;assumption)
     | (refine zaf.of (zem g _ _) ?_)
     | (refine Cmp.ff (fun h=>h hz) ?_)
     | (refine Ret.mk rfl))
  ·rw [if_neg hz]
   repeat' ((conv=>whnf);first
   | refine Yz ?_
    | (apply zaf.of;assumption)
    | (refine zaf.of (zem g _ _) ?_)
    | (refine Cmp.tt hz ?_)
    | (refine Ret.mk rfl))
theorem yvk (l:List Cls) (q:Cls) (hl:l.length<=1000000) {K:V->Mem->Prop}
  (hK:K (I (zqf (znf l) q.nm 0)) [(⟨0,3,0⟩,.cells zaa [V.d (.str q.nm),V.d (.list q.wh.length (q.wh.flatMap Tst.cells)),V.d (.list q.ky.length (q.ky.flatMap Kyt.cells))])]):
  In E 2 zaw [LC l,.fn zb8 [] [.ptr ⟨0,3,0⟩ 0 0]] [(⟨0,3,0⟩,.cells zaa [V.d (.str q.nm),V.d (.list q.wh.length (q.wh.flatMap Tst.cells)),V.d (.list q.ky.length (q.ky.flatMap Kyt.cells))])] K:=by
 generalize hA:zqf (znf l) q.nm 0=A at *
 refine In.enter (f:=zaw) g.lim rfl rfl ?_
 repeat' ((conv=>whnf);first
 | refine Yz ?_)
 refine zad.to (zad.upP g (fun k=>[(0,LC l),(1,.fn zb8 [] [.ptr ⟨0,3,0⟩ 0 0]),(7,I l.length),(8,I k)]) (fun _=>_) (fun k=>zqf (znf (l.drop k)) q.nm k=A) l.length (fun k hk h0 ih=> ?_) 0 (Nat.zero_le _) hA) rfl rfl
 by_cases hlt:k<l.length
 ·rw [List.drop_eq_getElem_cons hlt,znf,List.map_cons,zqf] at h0
  have ih:=ih hlt
  by_cases hd:l[k].nm=q.nm
  ·rw [if_pos hd.symm] at h0
   subst h0
   repeat' ((conv=>whnf);first
   | refine Yz ?_
    | (refine za0.rec Cls.cells_length k rfl hlt ?_)
    | (refine In.enter (f:=zb8) g.lim rfl rfl ?_)
    | (refine Cmp.tt hd ?_)
    | (exact hK))
  ·rw [if_neg (Ne.symm hd)] at h0
   have ih:=ih h0
   repeat' ((conv=>whnf);first
   | refine Yz ?_
    | (refine za0.rec Cls.cells_length k rfl hlt ?_)
    | (refine In.enter (f:=zb8) g.lim rfl rfl ?_)
    | (refine Cmp.ff hd ?_)
    | (refine zad.to ih rfl rfl))
 ·rw [List.drop_eq_nil_of_le (by omega),znf,List.map_nil,zqf] at h0
  subst h0
  repeat' ((conv=>whnf);first
  | refine Yz ?_
   | (exact hK))
theorem yrd (l:List Cls) (c:Cls) (hl:l.length<=1000000) (hs:z1b c):Fc E zdm [LC l,Csv c] (I (zo0 (znf l) c)):=by
 refine g.fn rfl rfl ?_
 have h1:=zx0 g c hs
 have h3:=zey g (zys c) (if c.nm∈znf l then 9 else 0)
 unfold zo0
 have hm:=zqh c.nm (znf l) 0
 have hin:=fun {K}=>yvk g (K:=K) l c hl
 generalize zqf (znf l) c.nm 0=r at *
 generalize zys c=e at *
 by_cases hr:0<=r
 ·rw [if_pos (hm.1 hr)] at h3 ⊢
  repeat' ((conv=>whnf);first
  | refine Yz ?_
   | (refine In.enter (f:=zar) g.lim rfl rfl ?_)
   | (refine hin ?_)
   | (apply zaf.of;assumption)
   | (refine zaf.of (zem g _ _) ?_)
   | (refine Ret.mk rfl))
 ·rw [if_neg (fun h=>hr (hm.2 h))] at h3 ⊢
  repeat' ((conv=>whnf);first
  | refine Yz ?_
   | (refine In.enter (f:=zar) g.lim rfl rfl ?_)
   | (refine hin ?_)
   | (apply zaf.of;assumption)
   | (refine zaf.of (zem g _ _) ?_)
   | (refine Ret.mk rfl))
theorem yse (l:List Cls) (hl:l.length<=1000000) (hs:∀c∈l,z1b c):Fc E zd1 [LC l,.d (.fn zdm)] (I (ziv [] l)):=by
 refine g.fn rfl rfl ?_
 generalize hR:ziv [] l=R
 repeat' ((conv=>whnf);first
 | refine Yz ?_)
 refine zad.to (zad.upP g (fun k=>[(0,LC l),(1,.d (.fn zdm)),(8,LC l),(9,I l.length),(10,I k)]) (fun _=>[]) (fun k=>ziv (znf (l.take k)) (l.drop k)=R) l.length (fun k hk h0 ih=> ?_) 0 (Nat.zero_le _) hR) rfl rfl
 by_cases hlt:k<l.length
 ·have e:znf (l.take (k+1))=znf (l.take k)++[l[k].nm]:=zn0 Cls.nm hlt
  rw [List.drop_eq_getElem_cons hlt,ziv,<-e] at h0
  have ih:=ih hlt
  have hn:=yrd g (l.take k) l[k] (by simp;omega) (hs _ (List.getElem_mem hlt))
  have ht:=z00 Cls.cells 3 Cls.cells_length l k (by omega)
  generalize zo0 (znf (l.take k)) l[k]=r at *
  by_cases hz:r=0
  ·rw [if_pos hz] at h0
   have ih:=ih h0
   repeat' ((conv=>whnf);first
   | refine Yz ?_
    | (refine za0.rec Cls.cells_length k rfl hlt ?_)
    | (refine zbe.at 0 k rfl rfl (by omega) ?_<;>(try rw [ht]))
    | (refine zaf.of hn ?_)
    | (refine Cmp.ff (fun h=>h hz) ?_)
    | (refine zad.to ih rfl rfl))
  ·rw [if_neg hz] at h0
   rw [<-h0]
   repeat' ((conv=>whnf);first
   | refine Yz ?_
    | (refine za0.rec Cls.cells_length k rfl hlt ?_)
    | (refine zbe.at 0 k rfl rfl (by omega) ?_<;>(try rw [ht]))
    | (refine zaf.of hn ?_)
    | (refine Cmp.tt hz ?_)
    | (refine Ret.mk rfl))
 ·rw [List.drop_eq_nil_of_le (by omega),ziv] at h0
  rw [<-h0]
  repeat' ((conv=>whnf);first
  | refine Yz ?_
   | (refine Ret.mk rfl))
theorem yri (p:Prg):Fc E zdh [Pgv p] (I (zgf p)):=by
 refine g.fn rfl rfl ?_
 have h:=zp7 g
 repeat' ((conv=>whnf);first
 | refine Yz ?_
  | (refine zaf.of (h _ _ _) ?_)
  | (refine zaf.of (zpn g _ _ _) ?_)
  | (refine Ret.mk rfl))
theorem zrj (p:Prg) (hs:zpt p):Fc E zeq [Pgv p] (I (znu p)):=by
 refine g.fn rfl rfl ?_
 have h1:=yse g p.cl hs.1 hs.2
 have h2:=yri g p
 have hq:=zey g (ziv [] p.cl) (zgf p)
 have hl:=hs.1
 unfold znu
 rw [z4t]
 generalize zap [ziv [] p.cl,zgf p]=q at *
 by_cases n1:p.cl.length=0
 ·rw [if_pos n1,if_neg (show ¬ 16<p.cl.length by omega),if_neg (show ¬zap [12,0]=0 by decide)]
  repeat' ((conv=>whnf);first
  | refine Yz ?_
   | (apply zaf.of;assumption)
   | (refine zaf.of (zem g _ _) ?_)
   | (refine zaf.of (zey g _ _) ?_)
   | (refine Ret.mk rfl))
 ·rw [if_neg n1]
  by_cases n2:16<p.cl.length
  ·rw [if_pos n2,if_neg (show ¬zap [0,5]=0 by decide)]
   repeat' ((conv=>whnf);first
   | refine Yz ?_
    | (apply zaf.of;assumption)
    | (refine zaf.of (zem g _ _) ?_)
    | (refine zaf.of (zey g _ _) ?_)
    | (refine Ret.mk rfl))
  ·rw [if_neg n2,if_pos (show zap [0,0]=0 by decide)]
   repeat' ((conv=>whnf);first
   | refine Yz ?_
    | (apply zaf.of;assumption)
    | (refine zaf.of (zem g _ _) ?_)
    | (refine zaf.of (zey g _ _) ?_)
    | (refine Ret.mk rfl))
end
theorem yv7 {l:List Kyt} {k j:Nat} (h:k<l.length) (hj:j<k) (e:(l[j]'(Nat.lt_trans hj h)).fa=l[k].fa):l[k].fa∈zy2 (l.take k):=by
 unfold zy2
 rw [List.mem_map]
 refine⟨l[j]'(Nat.lt_trans hj h),?_,e⟩
 rw [List.mem_take_iff_getElem]
 exact⟨j,by omega,rfl⟩
theorem yq5 {l:List Kyt} {k:Nat} (h:k<l.length) (hn:∀(i:Nat) (hi:i<k),(l[i]'(Nat.lt_trans hi h)).fa≠l[k].fa):l[k].fa∉zy2 (l.take k):=by
 intro hm
 unfold zy2 at hm
 rw [List.mem_map] at hm
 obtain⟨x,hx,e⟩:=hm
 rw [List.mem_take_iff_getElem] at hx
 obtain⟨i,hi,rfl⟩:=hx
 exact hn i (by omega) e
theorem yu5 {l:List Cls} {s:List UInt8} {j:Nat} (h:j<l.length) (e:l[j].nm=s):s∈znf l:=by
 unfold znf
 rw [List.mem_map]
 exact⟨_,List.getElem_mem h,e⟩
theorem ytr {l:List Cls} {s:List UInt8} (hn:∀(i:Nat) (h:i<l.length),l[i].nm≠s):s∉znf l:=by
 intro hm
 unfold znf at hm
 rw [List.mem_map] at hm
 obtain⟨x,hx,e⟩:=hm
 obtain⟨i,hi,rfl⟩:=List.getElem_of_mem hx
 exact hn i hi e
section
variable {E : Oracle} (g : Good E)
include g
theorem z9d (c:Cls) (hs:z1b c):Fc E ziy [Csv c] (I (zys c)):=by
 refine g.fn rfl rfl ?_
 have h1:=zuq g c.nm
 have h2:=ymu g
 obtain⟨l1,l2⟩:=hs
 unfold zys nmE
 generalize zc6 c.nm=b at *
 cases b
 ·repeat' ((conv=>whnf);first
 | refine Yz ?_
   | (apply zaf.of;assumption)
   | (refine Ret.mk rfl))
 ·by_cases n1:8<c.wh.length
  ·rw [if_pos n1]
   repeat' ((conv=>whnf);first
   | refine Yz ?_
    | (apply zaf.of;assumption)
    | (refine Ret.mk rfl))
  ·rw [if_neg n1]
   generalize hR:zky c.wh=R
   repeat' ((conv=>whnf);first
   | refine Yz ?_
    | (apply zaf.of;assumption))
   refine zad.to (zad.upP g (fun k=>[(1,.ptr ⟨0,1,0⟩ 0 0),(3,I k)]) (fun _=>_) (fun k=>zky (c.wh.drop k)=R) c.wh.length (fun k hk h0 ih=> ?_) 0 (Nat.zero_le _) hR) rfl rfl
   by_cases hlt:k<c.wh.length
   ·rw [List.drop_eq_getElem_cons hlt,zky] at h0
    have ih:=ih hlt
    have hc:=ycd g c.wh[k]
    generalize zjx c.wh[k]=e at *
    by_cases hz:e=0
    ·rw [if_pos hz] at h0
     have ih:=ih h0
     repeat' ((conv=>whnf);first
     | refine Yz ?_
      | (refine za0.rec Tst.cells_length k rfl hlt ?_)
      | (refine zaf.of hc ?_)
      | (refine Cmp.ff (fun h=>h hz) ?_)
      | (refine zad.to ih rfl rfl))
    ·rw [if_neg hz] at h0
     have hf:zap [if(!true)=true then 8 else 0,0,R,if 8<c.ky.length then 5 else 0,zkh [] c.ky]=e:=by
      rw [<-h0]
      simp [zap,hz]
     rw [hf]
     repeat' ((conv=>whnf);first
     | refine Yz ?_
      | (refine za0.rec Tst.cells_length k rfl hlt ?_)
      | (refine zaf.of hc ?_)
      | (refine Cmp.tt hz ?_)
      | (refine Ret.mk rfl))
   ·rw [List.drop_eq_nil_of_le (by omega),zky] at h0
    subst h0
    by_cases n2:8<c.ky.length
    ·rw [if_pos n2]
     repeat' ((conv=>whnf);first
     | refine Yz ?_
      | (refine Ret.mk rfl))
    ·rw [if_neg n2]
     generalize hQ:zkh [] c.ky=Q
     have hf:zap [if(!true)=true then 8 else 0,0,0,0,Q]=Q:=by
      simp only [zap]
      simp
      intro h;exact h.symm
     rw [hf]
     repeat' ((conv=>whnf);first
     | refine Yz ?_)
     refine zad.to (zad.upP g (fun k=>[(1,.ptr ⟨0,1,0⟩ 0 0),(5,I k)]) (fun _=>_) (fun k=>zkh (zy2 (c.ky.take k)) (c.ky.drop k)=Q) c.ky.length (fun k hk h0 ih=> ?_) 0 (Nat.zero_le _) hQ) rfl rfl
     by_cases hlt:k<c.ky.length
     ·have e:zy2 (c.ky.take (k+1))=zy2 (c.ky.take k)++[c.ky[k].fa]:=zn0 Kyt.fa hlt
      rw [List.drop_eq_getElem_cons hlt,zkh,<-e] at h0
      have ih:=ih hlt
      have hw:=z9j g c.ky[k].fa
      by_cases hk1:c.ky[k].fa∈fcL
      ·rw [decide_eq_true hk1] at hw
       repeat' ((conv=>whnf);first
       | refine Yz ?_
        | (refine za0.rec Kyt.cells_length k rfl hlt ?_)
        | (refine zcj.rec Kyt.cells_length k rfl hlt rfl ?_)
        | (apply zaf.of;assumption))
       refine zad.to (zad.upP g (fun j=>[(1,.ptr ⟨0,1,0⟩ 0 0),(5,I k),(6,I j)]) (fun _=>_) (fun j=>∀(i:Nat) (_:i<j) (h:i<c.ky.length),c.ky[i].fa≠c.ky[k].fa) k (fun j hj hn jh=> ?_) 0 (Nat.zero_le _) (fun i hi=>absurd hi (Nat.not_lt_zero _))) rfl rfl
       by_cases hjk:j<k
       ·have hjl:j<c.ky.length:=by omega
        by_cases hd:c.ky[j].fa=c.ky[k].fa
        ·have hm:=yv7 hlt hjk hd
         have hc:zuw (zy2 (c.ky.take k)) c.ky[k]=9:=by
          unfold zuw
          rw [if_pos hk1,if_pos hm]
          rfl
         rw [hc,if_neg (by decide)] at h0
         rw [<-h0]
         repeat' ((conv=>whnf);first
         | refine Yz ?_
          | (refine zcj.rec Kyt.cells_length j rfl hjl rfl ?_)
          | (refine zcj.rec Kyt.cells_length k rfl hlt rfl ?_)
          | (refine Cmp.tt hd ?_)
          | (refine Ret.mk rfl))
        ·have jh:=jh hjk fun i hi h=>by
          by_cases e:i=j
          ·subst e;exact hd
          ·exact hn i (by omega) h
         repeat' ((conv=>whnf);first
         | refine Yz ?_
          | (refine zcj.rec Kyt.cells_length j rfl hjl rfl ?_)
          | (refine zcj.rec Kyt.cells_length k rfl hlt rfl ?_)
          | (refine Cmp.ff hd ?_)
          | (refine zad.to jh rfl rfl))
       ·have hm:=yq5 hlt fun i hi=>hn i (by omega) (by omega)
        have hc:zuw (zy2 (c.ky.take k)) c.ky[k]=0:=by
         unfold zuw
         rw [if_pos hk1,if_neg hm]
         rfl
        rw [hc,if_pos rfl] at h0
        have ih:=ih h0
        repeat' ((conv=>whnf);first
        | refine Yz ?_
         | (refine zad.to ih rfl rfl))
      ·rw [decide_eq_false hk1] at hw
       have hc:zuw (zy2 (c.ky.take k)) c.ky[k]=10:=by
        unfold zuw
        rw [if_neg hk1]
        rfl
       rw [hc,if_neg (by decide)] at h0
       rw [<-h0]
       repeat' ((conv=>whnf);first
       | refine Yz ?_
        | (refine zcj.rec Kyt.cells_length k rfl hlt rfl ?_)
        | (apply zaf.of;assumption)
        | (refine Ret.mk rfl))
     ·rw [List.drop_eq_nil_of_le (by omega),zkh] at h0
      rw [<-h0]
      repeat' ((conv=>whnf);first
      | refine Yz ?_
       | (refine Ret.mk rfl))
theorem yct (p:Prg):Fc E zjt [Pgv p] (I (zgf p)):=by
 refine g.fn rfl rfl ?_
 have h:=ziq g
 have h3:Fc E zfl [.d (.list 3 [DI (rng p.po 0 p.cl.length),DI (rng p.of 1 100),DI (rng p.fo 0 p.of)])] (I (zgf p)):=yc1 g [_,_,_] (by simp)
 repeat' ((conv=>whnf);first
 | refine Yz ?_
  | (refine zaf.of (h _ _ _) ?_)
  | (apply zaf.of;assumption)
  | (refine Ret.mk rfl))
theorem yp6 (l:List Cls) (c:Cls) (hl:l.length<=1000000) (hs:z1b c):Fc E zom [LC l,Csv c] (I (zo0 (znf l) c)):=by
 refine g.fn rfl rfl ?_
 have h1:=z9d g c hs
 unfold zo0
 generalize zys c=e at *
 by_cases he:e=0
 ·subst he
  repeat' ((conv=>whnf);first
  | refine Yz ?_
   | (apply zaf.of;assumption))
  refine zad.to (zad.upP g (fun k=>[(0,LC l),(3,.ptr ⟨0,3,0⟩ 0 0),(5,I 0),(6,I k)]) (fun _=>_) (fun k=>∀(i:Nat) (_:i<k) (h:i<l.length),l[i].nm≠c.nm) l.length (fun k hk hn ih=> ?_) 0 (Nat.zero_le _) (fun i hi=>absurd hi (Nat.not_lt_zero _))) rfl rfl
  by_cases hlt:k<l.length
  ·by_cases hd:l[k].nm=c.nm
   ·rw [if_pos (yu5 hlt hd)]
    by_cases hx:k+1<l.length
    all_goals repeat' ((conv=>whnf);first
    | refine Yz ?_
     | (refine zcj.rec Cls.cells_length k rfl hlt rfl ?_)
     | (refine Cmp.tt hd ?_)
     | (refine zad.step g.lim ?_)
     | (refine Ret.mk rfl))
   ·have ih:=ih hlt fun i hi h=>by
     by_cases e:i=k
     ·subst e;exact hd
     ·exact hn i (by omega) h
    repeat' ((conv=>whnf);first
    | refine Yz ?_
     | (refine zcj.rec Cls.cells_length k rfl hlt rfl ?_)
     | (refine Cmp.ff hd ?_)
     | (refine zad.to ih rfl rfl))
  ·rw [if_neg (ytr fun i h=>hn i (by omega) h)]
   repeat' ((conv=>whnf);first
   | refine Yz ?_
    | (refine Ret.mk rfl))
 ·have hf:∀x,zap [e,x]=e:=fun x=>by simp [zap,he]
  rw [hf]
  by_cases hx:0<l.length
  all_goals repeat' ((conv=>whnf);first
  | refine Yz ?_
   | (apply zaf.of;assumption)
   | (refine Cmp.ff he ?_)
   | (refine zad.step g.lim ?_)
   | (refine Ret.mk rfl))
theorem z3w (p:Prg) (hs:zpt p):Fc E zhr [Pgv p] (I (znu p)):=by
 refine g.fn rfl rfl ?_
 have hp:=yct g p
 obtain⟨l1,l2⟩:=hs
 unfold znu
 by_cases n1:p.cl.length=0
 ·rw [if_pos n1]
  repeat' ((conv=>whnf);first
  | refine Yz ?_
   | (refine Ret.mk rfl))
 ·rw [if_neg n1]
  by_cases n2:16<p.cl.length
  ·rw [if_pos n2]
   repeat' ((conv=>whnf);first
   | refine Yz ?_
    | (refine Ret.mk rfl))
  ·rw [if_neg n2]
   generalize hR:ziv [] p.cl=R
   generalize zgf p=q at *
   repeat' ((conv=>whnf);first
   | refine Yz ?_)
   refine zad.to (zad.upP g (fun k=>[(1,.ptr ⟨0,1,0⟩ 0 0),(3,I k)]) (fun _=>_) (fun k=>ziv (znf (p.cl.take k)) (p.cl.drop k)=R) p.cl.length (fun k hk h0 ih=> ?_) 0 (Nat.zero_le _) hR) rfl rfl
   by_cases hlt:k<p.cl.length
   ·have e:znf (p.cl.take (k+1))=znf (p.cl.take k)++[p.cl[k].nm]:=zn0 Cls.nm hlt
    rw [List.drop_eq_getElem_cons hlt,ziv,<-e] at h0
    have ih:=ih hlt
    have hn:=yp6 g (p.cl.take k) p.cl[k] (by simp;omega) (l2 _ (List.getElem_mem hlt))
    have ht:=z00 Cls.cells 3 Cls.cells_length p.cl k (by omega)
    generalize zo0 (znf (p.cl.take k)) p.cl[k]=r at *
    by_cases hz:r=0
    ·rw [if_pos hz] at h0
     have ih:=ih h0
     repeat' ((conv=>whnf);first
     | refine Yz ?_
      | (refine za0.rec Cls.cells_length k rfl hlt ?_)
      | (refine zbe.at 0 k rfl rfl (by omega) ?_<;>(try rw [ht]))
      | (refine zaf.of hn ?_)
      | (refine Cmp.ff (fun h=>h hz) ?_)
      | (refine zad.to ih rfl rfl))
    ·rw [if_neg hz] at h0
     have hf:zap [0,0,R,q]=r:=by rw [<-h0];simp [zap,hz]
     rw [hf]
     repeat' ((conv=>whnf);first
     | refine Yz ?_
      | (refine za0.rec Cls.cells_length k rfl hlt ?_)
      | (refine zbe.at 0 k rfl rfl (by omega) ?_<;>(try rw [ht]))
      | (refine zaf.of hn ?_)
      | (refine Cmp.tt hz ?_)
      | (refine Ret.mk rfl))
   ·rw [List.drop_eq_nil_of_le (by omega),ziv] at h0
    have hf:zap [0,0,R,q]=q:=by
     rw [<-h0]
     simp only [zap]
     simp
     intro h;exact h.symm
    rw [hf]
    repeat' ((conv=>whnf);first
    | refine Yz ?_
     | (apply zaf.of;assumption)
     | (refine Ret.mk rfl))
end
def zyz (c:Clm):Nat->List Cls->Int
 | i,[]=>i
 | i,x::r=>if x.wh.all (zwm c)=true then i else zyz c (i+1) r
def yt8 (p:Prg):Prop:=∀x∈p.cl,∀t∈x.wh,zjx t=0
theorem z0b:∀ {l:List Tst},zky l=0->∀t∈l,zjx t=0
 | [],_,t,ht=>by cases ht
 | x::r,h,t,ht=>by
  rw [zky] at h
  by_cases hz:zjx x=0
  ·rw [if_pos hz] at h
   rcases List.mem_cons.1 ht with rfl|ht
   ·exact hz
   ·exact z0b h t ht
  ·rw [if_neg hz] at h
   exact absurd h hz
theorem z07:∀ {l:List Kyt} {seen:List (List UInt8)},zkh seen l=0->∀k∈l,k.fa∈fcL
 | [],_,_,k,hk=>by cases hk
 | x::r,seen,h,k,hk=>by
  rw [zkh] at h
  by_cases hz:zuw seen x=0
  ·rw [if_pos hz] at h
   rcases List.mem_cons.1 hk with rfl|hk
   ·unfold zuw at hz
    rw [zbq] at hz
    refine Classical.byContradiction fun hn=> ?_
    have:=hz _ (List.mem_cons_self ..)
    rw [if_neg hn] at this
    cases this
   ·exact z07 h k hk
  ·rw [if_neg hz] at h
   exact absurd h hz
structure zu2 (c:Cls):Prop where
 nm:zc6 c.nm=true
 wh:c.wh.length<=8
 ky:c.ky.length<=8
 ts:∀t∈c.wh,zjx t=0
 ks:∀k∈c.ky,k.fa∈fcL
theorem yh7 {c:Cls} (h:zys c=0):zu2 c:=by
 unfold zys at h
 rw [zbq] at h
 have h1:=h (nmE c.nm) (by simp)
 have h2:=h (if 8<c.wh.length then 5 else 0) (by simp)
 have h3:=h (zky c.wh) (by simp)
 have h4:=h (if 8<c.ky.length then 5 else 0) (by simp)
 have h5:=h (zkh [] c.ky) (by simp)
 refine⟨?_,?_,?_,z0b h3,z07 h5⟩
 ·unfold nmE at h1
  cases hb:zc6 c.nm with
  | true=>rfl
  | false=>rw [hb] at h1;cases h1
 ·refine Classical.byContradiction fun hn=> ?_
  rw [if_pos (by omega)] at h2
  cases h2
 ·refine Classical.byContradiction fun hn=> ?_
  rw [if_pos (by omega)] at h4
  cases h4
theorem z0s:∀ {l:List Cls} {seen:List (List UInt8)},ziv seen l=0->∀c∈l,zu2 c
 | [],_,_,c,hc=>by cases hc
 | x::r,seen,h,c,hc=>by
  rw [ziv] at h
  by_cases hz:zo0 seen x=0
  ·rw [if_pos hz] at h
   rcases List.mem_cons.1 hc with rfl|hc
   ·unfold zo0 at hz
    rw [zbq] at hz
    exact yh7 (hz _ (List.mem_cons_self ..))
   ·exact z0s h c hc
  ·rw [if_neg hz] at h
   exact absurd h hz
structure zyi (p:Prg):Prop where
 one:0<p.cl.length
 many:p.cl.length<=16
 cs:∀c∈p.cl,zu2 c
 po:0<=p.po/\p.po<=p.cl.length
 of':1<=p.of/\p.of<=100
 fo:0<=p.fo/\p.fo<=p.of
theorem zjv {p:Prg} (h:znu p=0):zyi p:=by
 unfold znu at h
 rw [zbq] at h
 have h1:=h (if p.cl.length=0 then 12 else 0) (by simp)
 have h2:=h (if 16<p.cl.length then 5 else 0) (by simp)
 have h3:=h (ziv [] p.cl) (by simp)
 have h4:=h (zgf p) (by simp)
 unfold zgf at h4
 rw [zbq] at h4
 refine⟨?_,?_,z0s h3,zcw.1 (h4 _ (by simp)),zcw.1 (h4 _ (by simp)),zcw.1 (h4 _ (by simp))⟩
 ·refine Classical.byContradiction fun hn=> ?_
  rw [if_pos (by omega)] at h1
  cases h1
 ·refine Classical.byContradiction fun hn=> ?_
  rw [if_pos (by omega)] at h2
  cases h2
theorem zyi.okWh {p:Prg} (h:zyi p):yt8 p:=fun x hx=>(h.cs x hx).ts
theorem zyi.small {p:Prg} (h:zyi p):zpt p:=⟨by have:=h.many;omega,fun c hc=>⟨by have:=(h.cs c hc).wh;omega,by have:=(h.cs c hc).ky;omega⟩⟩
section
variable {E : Oracle} (g : Good E)
include g
theorem z1t (p:Prg) (c:Clm) (hs:zpt p) (hc:zhz c=0) (hp:yt8 p):Fc E zcr [Pgv p,Clv c] (I (zyz c 0 p.cl)):=by
 refine g.fn rfl rfl ?_
 obtain⟨l1,l2⟩:=hs
 generalize hR:zyz c 0 p.cl=R
 repeat' ((conv=>whnf);first
 | refine Yz ?_)
 refine zad.to (zad.upP g (fun k=>[(2,.ptr ⟨0,2,0⟩ 0 0),(3,.ptr ⟨0,3,0⟩ 0 0),(10,LC p.cl),(11,I p.cl.length),(12,I k)]) (fun _=>_) (fun k=>zyz c k (p.cl.drop k)=R) p.cl.length (fun k hk h0 ih=> ?_) 0 (Nat.zero_le _) hR) rfl rfl
 by_cases hlt:k<p.cl.length
 ·rw [List.drop_eq_getElem_cons hlt,zyz] at h0
  have ih:=ih hlt
  have hx:=hp _ (List.getElem_mem hlt)
  have l3:=(l2 _ (List.getElem_mem hlt)).1
  generalize hA:p.cl[k].wh.all (zwm c)=A at h0
  repeat' ((conv=>whnf);first
  | refine Yz ?_
   | (refine za0.rec Cls.cells_length k rfl hlt ?_))
  refine zad.to (zad.upP g (fun j=>[(2,.ptr ⟨0,2,0⟩ 0 0),(3,.ptr ⟨0,3,0⟩ 0 0),(5,I k),(10,LC p.cl),(11,I p.cl.length),(12,I k),(18,LT p.cl[k].wh),(19,I p.cl[k].wh.length),(20,I j)]) (fun _=>_) (fun j=>(p.cl[k].wh.drop j).all (zwm c)=A) p.cl[k].wh.length (fun j hj h1 jh=> ?_) 0 (Nat.zero_le _) hA) rfl rfl
  by_cases hjl:j<p.cl[k].wh.length
  ·rw [List.drop_eq_getElem_cons hjl,List.all_cons] at h1
   have jh:=jh hjl
   have hh:=ysr g c _ hc (hx _ (List.getElem_mem hjl))
   generalize zwm c p.cl[k].wh[j]=b at *
   cases b
   ·rw [Bool.false_and] at h1
    rw [<-h1,if_neg (by decide)] at h0
    have ih:=ih h0
    repeat' ((conv=>whnf);first
    | refine Yz ?_
     | (refine za0.rec Tst.cells_length j rfl hjl ?_)
     | (refine zaf.of hh ?_)
     | (refine zad.to ih rfl rfl))
   ·rw [Bool.true_and] at h1
    have jh:=jh h1
    repeat' ((conv=>whnf);first
    | refine Yz ?_
     | (refine za0.rec Tst.cells_length j rfl hjl ?_)
     | (refine zaf.of hh ?_)
     | (refine zad.to jh rfl rfl))
  ·rw [List.drop_eq_nil_of_le (by omega),List.all_nil] at h1
   rw [<-h1,if_pos rfl] at h0
   rw [<-h0]
   repeat' ((conv=>whnf);first
   | refine Yz ?_
    | (refine Ret.mk rfl))
 ·rw [List.drop_eq_nil_of_le (by omega),zyz] at h0
  have e:k=p.cl.length:=by omega
  subst e
  rw [<-h0]
  repeat' ((conv=>whnf);first
  | refine Yz ?_
   | (refine Ret.mk rfl))
theorem z9g (p:Prg) (c:Clm) (hs:zpt p) (hc:zhz c=0) (hp:yt8 p):Fc E ziu [Pgv p,Clv c] (I (zyz c 0 p.cl)):=by
 refine g.fn rfl rfl ?_
 obtain⟨l1,l2⟩:=hs
 generalize hR:zyz c 0 p.cl=R
 repeat' ((conv=>whnf);first
 | refine Yz ?_)
 refine zad.to (zad.upP g (fun k=>[(2,.ptr ⟨0,2,0⟩ 0 0),(3,.ptr ⟨0,3,0⟩ 0 0),(5,I k)]) (fun _=>_) (fun k=>zyz c k (p.cl.drop k)=R) p.cl.length (fun k hk h0 ih=> ?_) 0 (Nat.zero_le _) hR) rfl rfl
 by_cases hlt:k<p.cl.length
 ·rw [List.drop_eq_getElem_cons hlt,zyz] at h0
  have ih:=ih hlt
  have hx:=hp _ (List.getElem_mem hlt)
  have l3:=(l2 _ (List.getElem_mem hlt)).1
  repeat' ((conv=>whnf);first
  | refine Yz ?_)
  refine zad.to (zad.up g (fun j=>[(2,.ptr ⟨0,2,0⟩ 0 0),(3,.ptr ⟨0,3,0⟩ 0 0),(5,I k),(6,B ((p.cl[k].wh.take j).all (zwm c))),(7,I j)]) (fun _=>_) p.cl[k].wh.length (fun j hj jh=> ?_) 0 (Nat.zero_le _)) rfl rfl
  by_cases hjl:j<p.cl[k].wh.length
  ·have e:(p.cl[k].wh.take (j+1)).all (zwm c)=((p.cl[k].wh.take j).all (zwm c)&&zwm c p.cl[k].wh[j]):=by
    rw [List.take_add_one,List.getElem?_eq_getElem hjl,List.all_append]
    simp
   have jh:=jh hjl
   rw [e] at jh
   have hh:=ysm g c _ hc (hx _ (List.getElem_mem hjl))
   generalize (p.cl[k].wh.take j).all (zwm c)=a at *
   generalize zwm c p.cl[k].wh[j]=b at *
   cases a
   ·rw [Bool.false_and] at jh
    repeat' ((conv=>whnf);first
    | refine Yz ?_
     | (refine zcj.rec Cls.cells_length k rfl hlt rfl ?_)
     | (refine zad.to jh rfl rfl))
   ·rw [Bool.true_and] at jh
    repeat' ((conv=>whnf);first
    | refine Yz ?_
     | (refine zcj.rec Cls.cells_length k rfl hlt rfl ?_)
     | (refine za0.rec Tst.cells_length j rfl hjl ?_)
     | (refine zaf.of hh ?_)
     | (refine zad.to jh rfl rfl))
  ·have e:p.cl[k].wh.take j=p.cl[k].wh:=List.take_of_length_le (by omega)
   rw [e]
   generalize p.cl[k].wh.all (zwm c)=a at *
   cases a
   ·rw [if_neg (by decide)] at h0
    have ih:=ih h0
    repeat' ((conv=>whnf);first
    | refine Yz ?_
     | (refine zcj.rec Cls.cells_length k rfl hlt rfl ?_)
     | (refine zad.to ih rfl rfl))
   ·rw [if_pos rfl] at h0
    rw [<-h0]
    repeat' ((conv=>whnf);first
    | refine Yz ?_
     | (refine zcj.rec Cls.cells_length k rfl hlt rfl ?_)
     | (refine Ret.mk rfl))
 ·rw [List.drop_eq_nil_of_le (by omega),zyz] at h0
  have e:k=p.cl.length:=by omega
  subst e
  rw [<-h0]
  repeat' ((conv=>whnf);first
  | refine Yz ?_
   | (refine Ret.mk rfl))
end
theorem ydo {α:Type} (f:α->List D) {l:List α} {k:Nat} (h:k<l.length):(l.take (k+1)).flatMap f=(l.take k).flatMap f++f l[k]:=by
 rw [List.take_add_one,List.getElem?_eq_getElem h,List.flatMap_append]
 simp
theorem ylm {α:Type} (f:α->List D) (n:Nat) (hf:∀a,(f a).length=n) {l:List α} {k:Nat} (h:k<=l.length):((l.take k).flatMap f).length=k*n:=by
 rw [za2 f n hf,List.length_take,Nat.min_eq_left h]
def z95 (t:Tst):Bool:=decide (t.fa.length<=40/\t.op.length<=40)
def z78 (k:Kyt):Bool:=decide (k.fa.length<=40)
def ynv (c:Cls):Bool:=decide (c.nm.length<=40/\(c.wh.length<=4\/c.wh.length=9)/\(c.ky.length<=4\/c.ky.length=9))
def z81 (c:Cls):Bool:=ynv c&&(c.wh.all z95&&c.ky.all z78)
def zxy (p:Prg):Bool:=decide (p.cl.length<=5\/p.cl.length=17)&&p.cl.all z81
def yw8 (p:Prg):Prop:=p.cl.length<=9223372036854775807/\∀c∈p.cl,c.wh.length<=9223372036854775807/\c.ky.length<=9223372036854775807
theorem z8f {p:Prg} (h:zxy p=true):zpt p:=by
 simp only [zxy,z81,ynv,Bool.and_eq_true,decide_eq_true_eq,List.all_eq_true] at h
 refine⟨by omega,fun c hc=> ?_⟩
 have:=(h.2 c hc).1
 exact⟨by omega,by omega⟩
section
variable {E : Oracle} (g : Good E)
include g
theorem ypj (p:Prg) (hs:yw8 p):Fc E zol [Pgv p] (B (zxy p)):=by
 refine g.fn rfl rfl ?_
 obtain⟨l1,l2⟩:=hs
 unfold zxy
 by_cases hl:p.cl.length<=5\/p.cl.length=17
 ·rw [decide_eq_true hl,Bool.true_and]
  generalize hR:p.cl.all z81=R
  repeat' ((conv=>whnf);first
  | refine Yz ?_
   | (refine Cmp.mk (fun h=> ?_) (fun h=> ?_))|(refine Rem.any (by omega) (fun r hr he=> ?_))|(refine Br.mk (fun h=> ?_) (fun h=> ?_))
   | (exfalso;omega))
  all_goals
   refine zad.to (zad.upP g (fun k=>[(1,.ptr ⟨0,1,0⟩ 0 0),(3,I k)]) (fun _=>_) (fun k=>(p.cl.drop k).all z81=R) p.cl.length (fun k hk h0 ih=> ?_) 0 (Nat.zero_le _) hR) rfl rfl
   by_cases hlt:k<p.cl.length
   ·rw [List.drop_eq_getElem_cons hlt,List.all_cons] at h0
    have ih:=ih hlt
    have l3:=l2 _ (List.getElem_mem hlt)
    generalize hx:p.cl[k]=x at *
    obtain⟨l4,l5⟩:=l3
    unfold z81 at h0
    by_cases hh:x.nm.length<=40/\(x.wh.length<=4\/x.wh.length=9)/\(x.ky.length<=4\/x.ky.length=9)
    ·have hd:ynv x=true:=decide_eq_true hh
     rw [hd,Bool.true_and] at h0
     generalize hA:x.wh.all z95=A at h0
     generalize hB:x.ky.all z78=B' at h0
     repeat' ((conv=>whnf);first
     | refine Yz ?_
      | (refine za0.rec Cls.cells_length k rfl hlt ?_;rw [hx])
      | (refine Cmp.mk (fun h=> ?_) (fun h=> ?_))|(refine Rem.any (by omega) (fun r hr he=> ?_))|(refine Br.mk (fun h=> ?_) (fun h=> ?_))
      | (exfalso;omega))
     all_goals
      refine zad.to (zad.upP g (fun j=>[(1,.ptr ⟨0,1,0⟩ 0 0),(3,I k),(4,.ptr ⟨0,4,0⟩ 0 0),(5,I j)]) (fun _=>_) (fun j=>(x.wh.drop j).all z95=A) x.wh.length (fun j hj h1 jh=> ?_) 0 (Nat.zero_le _) hA) rfl rfl
      by_cases hjl:j<x.wh.length
      ·rw [List.drop_eq_getElem_cons hjl,List.all_cons] at h1
       have jh:=jh hjl
       by_cases ht:x.wh[j].fa.length<=40/\x.wh[j].op.length<=40
       ·have hd:z95 x.wh[j]=true:=decide_eq_true ht
        rw [hd,Bool.true_and] at h1
        have jh:=jh h1
        repeat' ((conv=>whnf);first
        | refine Yz ?_
         | (refine zcj.rec Tst.cells_length j rfl hjl rfl ?_)
         | (refine zad.to jh rfl rfl))
       ·have hd:z95 x.wh[j]=false:=decide_eq_false ht
        rw [hd,Bool.false_and] at h1
        rw [<-h1,Bool.false_and,Bool.false_and] at h0
        rw [<-h0]
        repeat' ((conv=>whnf);first
        | refine Yz ?_
         | (refine zcj.rec Tst.cells_length j rfl hjl rfl ?_)
         | (refine Cmp.mk (fun h=> ?_) (fun h=> ?_))|(refine Rem.any (by omega) (fun r hr he=> ?_))|(refine Br.mk (fun h=> ?_) (fun h=> ?_))
         | (refine Ret.mk rfl)
         | (exfalso;omega))
      ·rw [List.drop_eq_nil_of_le (by omega),List.all_nil] at h1
       rw [<-h1,Bool.true_and] at h0
       repeat' ((conv=>whnf);first
       | refine Yz ?_)
       refine zad.to (zad.upP g (fun i=>[(1,.ptr ⟨0,1,0⟩ 0 0),(3,I k),(4,.ptr ⟨0,4,0⟩ 0 0),(6,I i)]) (fun _=>_) (fun i=>(x.ky.drop i).all z78=B') x.ky.length (fun i hi h2 ik=> ?_) 0 (Nat.zero_le _) hB) rfl rfl
       by_cases hil:i<x.ky.length
       ·rw [List.drop_eq_getElem_cons hil,List.all_cons] at h2
        have ik:=ik hil
        by_cases ht:x.ky[i].fa.length<=40
        ·have hd:z78 x.ky[i]=true:=decide_eq_true ht
         rw [hd,Bool.true_and] at h2
         have ik:=ik h2
         repeat' ((conv=>whnf);first
         | refine Yz ?_
          | (refine zcj.rec Kyt.cells_length i rfl hil rfl ?_)
          | (refine zad.to ik rfl rfl))
        ·have hd:z78 x.ky[i]=false:=decide_eq_false ht
         rw [hd,Bool.false_and] at h2
         rw [<-h2,Bool.false_and] at h0
         rw [<-h0]
         repeat' ((conv=>whnf);first
         | refine Yz ?_
          | (refine zcj.rec Kyt.cells_length i rfl hil rfl ?_)
          | (refine Ret.mk rfl))
       ·rw [List.drop_eq_nil_of_le (by omega),List.all_nil] at h2
        rw [<-h2,Bool.true_and] at h0
        have ih:=ih h0
        repeat' ((conv=>whnf);first
        | refine Yz ?_
         | (refine zad.to ih rfl rfl))
    ·have hd:ynv x=false:=decide_eq_false hh
     rw [hd,Bool.false_and,Bool.false_and] at h0
     rw [<-h0]
     repeat' ((conv=>whnf);first
     | refine Yz ?_
      | (refine za0.rec Cls.cells_length k rfl hlt ?_;rw [hx])
      | (refine Cmp.mk (fun h=> ?_) (fun h=> ?_))|(refine Rem.any (by omega) (fun r hr he=> ?_))|(refine Br.mk (fun h=> ?_) (fun h=> ?_))
      | (refine Ret.mk rfl)
      | (exfalso;omega))
   ·rw [List.drop_eq_nil_of_le (by omega),List.all_nil] at h0
    rw [<-h0]
    repeat' ((conv=>whnf);first
    | refine Yz ?_
     | (refine Ret.mk rfl))
 ·rw [decide_eq_false hl,Bool.false_and]
  repeat' ((conv=>whnf);first
  | refine Yz ?_
   | (refine Cmp.mk (fun h=> ?_) (fun h=> ?_))|(refine Rem.any (by omega) (fun r hr he=> ?_))|(refine Br.mk (fun h=> ?_) (fun h=> ?_))
   | (refine Ret.mk rfl)
   | (exfalso;omega))
end
abbrev LM (l:List Clm):V:= .d (.list l.length (l.flatMap Clm.cells))
theorem yjy {k:Nat} {ds:List D} (h:fit Tryz.prog (k+4) 49 ds):∃c:Clm,ds=c.cells:=by
 obtain⟨_,_,rfl,h1,_,_,rfl,h2,_,_,rfl,h3,_,_,rfl,h4,_,_,rfl,h5,_,_,rfl,h6,rfl⟩:=z14 Tryz.underlying49 h
 obtain⟨q,rfl⟩:=ybu h1
 obtain⟨b1,rfl⟩:=z8b h2
 obtain⟨b2,rfl⟩:=z8b h3
 obtain⟨b3,rfl⟩:=z8b h4
 obtain⟨b4,rfl⟩:=z8b h5
 obtain⟨d,rfl,_⟩:=zkk h6
 exact⟨⟨q,b1,b2,b3,b4,d⟩,rfl⟩
theorem z4f {k:Nat}:∀(m:Nat) {ds:List D},zj9 (fit Tryz.prog (k+4)) (List.replicate m 49) ds->∃l:List Clm,ds=l.flatMap Clm.cells/\l.length=m
 | 0,ds,h=>⟨[],h,rfl⟩
 | m+1,ds,h=>by
  obtain⟨a,b,rfl,h1,h2⟩:=h
  obtain⟨x,rfl⟩:=yjy h1
  obtain⟨l,rfl,h3⟩:=z4f m h2
  exact⟨x::l,rfl,by simp [h3]⟩
theorem yhx {x:D} (h:zmk Tryz.prog 25 x):∃l:List Clm,x= .list l.length (l.flatMap Clm.cells)/\l.length<=9223372036854775807:=by
 obtain⟨m,cs,rfl,h1,h2⟩:=yxo Tryz.underlying25 h
 obtain⟨l,rfl,rfl⟩:=z4f m h2
 exact⟨l,rfl,Nat.le_trans h1 (by decide)⟩
def znr (l:List Clm):List (List UInt8):=l.map (·.rq.nm)
def zrw (seen:List (List UInt8)) (c:Clm):Int:=zap [zhz c,if c.rq.nm∈seen then 9 else 0]
def zlr (seen:List (List UInt8)):List Clm->Int
 | []=>0
 | c::r=>if zrw seen c=0 then zlr (seen++[c.rq.nm]) r else zrw seen c
def zls (l:List Clm):Int:=if 64<l.length then 5 else zlr [] l
theorem z1c:∀ {l:List Clm} {seen:List (List UInt8)},zlr seen l=0->(∀c∈l,zhz c=0)/\(∀c∈l,c.rq.nm∉seen)/\(znr l).Nodup
 | [],_,_=>⟨fun _ h=>(by cases h),fun _ h=>(by cases h),List.Pairwise.nil⟩
 | x::r,seen,h=>by
  rw [zlr] at h
  by_cases hz:zrw seen x=0
  ·rw [if_pos hz] at h
   obtain⟨h1,h2,h3⟩:=z1c h
   unfold zrw at hz
   rw [zbq] at hz
   have z1:=hz (zhz x) (by simp)
   have z2:=hz (if x.rq.nm∈seen then 9 else 0) (by simp)
   have z3:x.rq.nm∉seen:=fun hc=>by rw [if_pos hc] at z2;cases z2
   refine⟨fun c hc=> ?_,fun c hc=> ?_,?_⟩
   ·rcases List.mem_cons.1 hc with rfl|hc
    ·exact z1
    ·exact h1 c hc
   ·rcases List.mem_cons.1 hc with rfl|hc
    ·exact z3
    ·exact fun hm=>h2 c hc (by simp [hm])
   ·refine List.nodup_cons.2 ⟨fun hm=> ?_,h3⟩
    obtain⟨c,hc,e⟩:=List.mem_map.1 hm
    exact h2 c hc (by simp [e])
  ·rw [if_neg hz] at h
   exact absurd h hz
theorem zia {l:List Clm} (h:zls l=0):l.length<=64/\(∀c∈l,zhz c=0)/\(znr l).Nodup:=by
 unfold zls at h
 by_cases hl:64<l.length
 ·rw [if_pos hl] at h;cases h
 ·rw [if_neg hl] at h
  have:=z1c h
  exact⟨by omega,this.1,this.2.2⟩
theorem ysq {l:List Clm} {s:List UInt8} {j:Nat} (h:j<l.length) (e:l[j].rq.nm=s):s∈znr l:=List.mem_map.2 ⟨_,List.getElem_mem h,e⟩
theorem yol {l:List Clm} {k:Nat} (h:k<l.length) {s:List UInt8} (hn:s∉znr (l.take k)) (e:l[k].rq.nm≠s):s∉znr (l.take (k+1)):=by
 unfold znr at *
 rw [zn0 (fun c:Clm=>c.rq.nm) h]
 intro hm
 rcases List.mem_append.1 hm with h1|h1
 ·exact hn h1
 ·exact e (List.mem_singleton.1 h1).symm
abbrev yya (q:Clm):List V:=[S q.rq.nm,S q.rq.ca,S q.rq.ki,S q.rq.te,S q.rq.pa,S q.rq.li,I q.rq.fr,I q.rq.to,I q.rq.da,I q.rq.mi,I q.rq.se,I q.rq.si,I q.rq.no,B q.hi,B q.re,B q.ne,B q.ye,I q.di]
theorem zcj.rec00 {α:Type} {cell:α->List D} {w:Nat} (hw:∀a,(cell a).length=w) {l:List α} {i:Int} {K:D->Prop} {d:D} (k:Nat) (hi:i=k) (h:k<l.length) (hj:(cell l[k])[0]? =some d) (hk:K d):zcj (l.flatMap cell) (i.toNat*w+0+0) K:=zcj.rec hw k hi h hj hk
theorem za0.partC {α:Type} {cell:α->List D} {w:Nat} (hw:∀a,(cell a).length=w) {l:List α} {i:Int} {j n:Nat} {ds:List D} {K:List D->Prop} (k:Nat) (hi:i=k) (h:k<l.length) (hj:j+n<=w) (hd:win (cell l[k]) j n=ds) (hk:K ds):za0 (l.flatMap cell) (i.toNat*w+j) n K:=by
 subst hi
 rw [Int.toNat_natCast]
 have h1:=za2 cell w hw l
 have h2:(k+1)*w<=l.length*w:=Nat.mul_le_mul_right _ h
 rw [Nat.succ_mul] at h2
 refine⟨by omega,?_⟩
 have e:win (l.flatMap cell) (k*w+j) n=ds:=by
  rw [<-hd]
  unfold win
  rw [<-List.drop_drop,zjz cell w hw,List.drop_eq_getElem_cons h,List.flatMap_cons,List.drop_append_of_le_length (by rw [hw];omega),List.take_append_of_le_length (by rw [List.length_drop,hw];omega)]
 rw [e];exact hk
section
variable {E : Oracle} (g : Good E)
include g
theorem yur (l:List Clm) (q:Clm) (hl:l.length<=1000000) {K:V->Mem->Prop} (hK:K (I (zqf (znr l) q.rq.nm 0)) [(⟨0,3,0⟩,.cells zal (yya q))]):
  In E 2 zbf [LM l,.fn zcc [] [.ptr ⟨0,3,0⟩ 0 0]] [(⟨0,3,0⟩,.cells zal (yya q))] K:=by
 generalize hA:zqf (znr l) q.rq.nm 0=A at *
 refine In.enter (f:=zbf) g.lim rfl rfl ?_
 repeat' ((conv=>whnf);first
 | refine Yz ?_)
 refine zad.to (zad.upP g (fun k=>[(0,LM l),(1,.fn zcc [] [.ptr ⟨0,3,0⟩ 0 0]),(7,I l.length),(8,I k)]) (fun _=>_) (fun k=>zqf (znr (l.drop k)) q.rq.nm k=A) l.length (fun k hk h0 ih=> ?_) 0 (Nat.zero_le _) hA) rfl rfl
 by_cases hlt:k<l.length
 ·rw [List.drop_eq_getElem_cons hlt,znr,List.map_cons,zqf] at h0
  have ih:=ih hlt
  by_cases hd:l[k].rq.nm=q.rq.nm
  ·rw [if_pos hd.symm] at h0
   subst h0
   repeat' ((conv=>whnf);first
   | refine Yz ?_
    | (refine za0.rec Clm.cells_length k rfl hlt ?_)
    | (refine In.enter (f:=zcc) g.lim rfl rfl ?_)
    | (refine Cmp.tt hd ?_)
    | (exact hK))
  ·rw [if_neg (Ne.symm hd)] at h0
   have ih:=ih h0
   repeat' ((conv=>whnf);first
   | refine Yz ?_
    | (refine za0.rec Clm.cells_length k rfl hlt ?_)
    | (refine In.enter (f:=zcc) g.lim rfl rfl ?_)
    | (refine Cmp.ff hd ?_)
    | (refine zad.to ih rfl rfl))
 ·rw [List.drop_eq_nil_of_le (by omega),znr,List.map_nil,zqf] at h0
  subst h0
  repeat' ((conv=>whnf);first
  | refine Yz ?_
   | (exact hK))
theorem yxi (l:List Clm) (q:Clm) (hl:l.length<=1000000):Fc E zc2 [LM l,Clv q] (I (zrw (znr l) q)):=by
 refine g.fn rfl rfl ?_
 have h1:=ya2 g q
 have h3:=zey g (zhz q) (if q.rq.nm∈znr l then 9 else 0)
 unfold zrw
 have hm:=zqh q.rq.nm (znr l) 0
 have hin:=fun {K}=>yur g (K:=K) l q hl
 generalize zqf (znr l) q.rq.nm 0=r at *
 generalize zhz q=e at *
 by_cases hr:0<=r
 ·rw [if_pos (hm.1 hr)] at h3 ⊢
  repeat' ((conv=>whnf);first
  | refine Yz ?_
   | (refine In.enter (f:=za9) g.lim rfl rfl ?_)
   | (refine hin ?_)
   | (apply zaf.of;assumption)
   | (refine zaf.of (zem g _ _) ?_)
   | (refine Ret.mk rfl))
 ·rw [if_neg (fun h=>hr (hm.2 h))] at h3 ⊢
  repeat' ((conv=>whnf);first
  | refine Yz ?_
   | (refine In.enter (f:=za9) g.lim rfl rfl ?_)
   | (refine hin ?_)
   | (apply zaf.of;assumption)
   | (refine zaf.of (zem g _ _) ?_)
   | (refine Ret.mk rfl))
theorem yry (l:List Clm) (hl:l.length<=1000000):Fc E zd0 [LM l,.d (.fn zc2)] (I (zlr [] l)):=by
 refine g.fn rfl rfl ?_
 generalize hR:zlr [] l=R
 repeat' ((conv=>whnf);first
 | refine Yz ?_)
 refine zad.to (zad.upP g (fun k=>[(0,LM l),(1,.d (.fn zc2)),(8,LM l),(9,I l.length),(10,I k)]) (fun _=>[]) (fun k=>zlr (znr (l.take k)) (l.drop k)=R) l.length (fun k hk h0 ih=> ?_) 0 (Nat.zero_le _) hR) rfl rfl
 by_cases hlt:k<l.length
 ·have hs:znr (l.take (k+1))=znr (l.take k)++[l[k].rq.nm]:=zn0 (fun c:Clm=>c.rq.nm) hlt
  rw [List.drop_eq_getElem_cons hlt,zlr,<-hs] at h0
  have ih:=ih hlt
  have hn:=yxi g (l.take k) l[k] (by simp;omega)
  have ht:=z00 Clm.cells 18 Clm.cells_length l k (by omega)
  generalize zrw (znr (l.take k)) l[k]=r at *
  by_cases hz:r=0
  ·rw [if_pos hz] at h0
   have ih:=ih h0
   repeat' ((conv=>whnf);first
   | refine Yz ?_
    | (refine za0.rec Clm.cells_length k rfl hlt ?_)
    | (refine zbe.at 0 k rfl rfl (by omega) ?_<;>(try rw [ht]))
    | (refine zaf.of hn ?_)
    | (refine Cmp.ff (fun h=>h hz) ?_)
    | (refine zad.to ih rfl rfl))
  ·rw [if_neg hz] at h0
   rw [<-h0]
   repeat' ((conv=>whnf);first
   | refine Yz ?_
    | (refine za0.rec Clm.cells_length k rfl hlt ?_)
    | (refine zbe.at 0 k rfl rfl (by omega) ?_<;>(try rw [ht]))
    | (refine zaf.of hn ?_)
    | (refine Cmp.tt hz ?_)
    | (refine Ret.mk rfl))
 ·rw [List.drop_eq_nil_of_le (by omega),zlr] at h0
  rw [<-h0]
  repeat' ((conv=>whnf);first
  | refine Yz ?_
   | (refine Ret.mk rfl))
theorem z6p (l:List Clm) (hl:l.length<=1000000):Fc E zgo [LM l] (I (zls l)):=by
 refine g.fn rfl rfl ?_
 have h:=yry g l hl
 unfold zls
 by_cases hm:64<l.length
 ·rw [if_pos hm]
  repeat' ((conv=>whnf);first
  | refine Yz ?_
   | (refine Ret.mk rfl))
 ·rw [if_neg hm]
  repeat' ((conv=>whnf);first
  | refine Yz ?_
   | (apply zaf.of;assumption)
   | (refine Ret.mk rfl))
theorem z58 (l:List Clm) (hl:l.length<=1000000):Fc E zij [LM l] (I (zls l)):=by
 refine g.fn rfl rfl ?_
 unfold zls
 by_cases hm:64<l.length
 ·rw [if_pos hm]
  repeat' ((conv=>whnf);first
  | refine Yz ?_
   | (refine Ret.mk rfl))
 ·rw [if_neg hm]
  generalize hR:zlr [] l=R
  repeat' ((conv=>whnf);first
  | refine Yz ?_)
  refine zad.to (zad.upP g (fun k=>[(0,LM l),(3,I k)]) (fun _=>[]) (fun k=>zlr (znr (l.take k)) (l.drop k)=R) l.length (fun k hk h0 ih=> ?_) 0 (Nat.zero_le _) hR) rfl rfl
  by_cases hlt:k<l.length
  ·have hs:znr (l.take (k+1))=znr (l.take k)++[l[k].rq.nm]:=zn0 (fun c:Clm=>c.rq.nm) hlt
   rw [List.drop_eq_getElem_cons hlt,zlr,<-hs] at h0
   have ih:=ih hlt
   have hn:=z9a g l[k]
   by_cases hz:zhz l[k]=0
   ·rw [hz] at hn
    repeat' ((conv=>whnf);first
    | refine Yz ?_
     | (refine za0.rec Clm.cells_length k rfl hlt ?_)
     | (refine zaf.of hn ?_))
    refine zad.to (zad.upP g (fun j=>[(0,LM l),(3,I k),(4,I 0),(5,I j)]) (fun _=>[]) (fun j=>l[k].rq.nm∉znr (l.take j)) k (fun j hj hno jh=> ?_) 0 (Nat.zero_le _) (by simp [znr])) rfl rfl
    by_cases hjk:j<k
    ·have hjl:j<l.length:=by omega
     replace jh:=jh hjk
     by_cases hd:l[j].rq.nm=l[k].rq.nm
     ·have hin:l[k].rq.nm∈znr (l.take k):=by
       refine ysq (j:=j) (by simp;omega) ?_
       rw [List.getElem_take]
       exact hd
      have he:zrw (znr (l.take k)) l[k]=9:=by
       unfold zrw
       rw [hz,if_pos hin]
       rfl
      rw [he,if_neg (by decide)] at h0
      rw [<-h0]
      repeat' ((conv=>whnf);first
      | refine Yz ?_
       | (refine zcj.rec00 Clm.cells_length j rfl hjl rfl ?_)
       | (refine zcj.rec00 Clm.cells_length k rfl hlt rfl ?_)
       | (refine Cmp.tt hd ?_)
       | (refine zad.step g.lim ?_)
       | (refine Ret.mk rfl)
       | (refine Cmp.mk (fun h=> ?_) (fun h=> ?_))|(refine Rem.any (by omega) (fun r hr he=> ?_))|(refine Br.mk (fun h=> ?_) (fun h=> ?_)))
     ·have jh:=jh (yol hjl hno hd)
      repeat' ((conv=>whnf);first
      | refine Yz ?_
       | (refine zcj.rec00 Clm.cells_length j rfl hjl rfl ?_)
       | (refine zcj.rec00 Clm.cells_length k rfl hlt rfl ?_)
       | (refine Cmp.ff hd ?_)
       | (refine zad.to jh rfl rfl))
    ·obtain rfl:j=k:=by omega
     have he:zrw (znr (l.take j)) l[j]=0:=by
      unfold zrw
      rw [hz,if_neg hno]
      rfl
     rw [he,if_pos rfl] at h0
     have ih:=ih h0
     repeat' ((conv=>whnf);first
     | refine Yz ?_
      | (refine zad.to ih rfl rfl))
   ·have he:zrw (znr (l.take k)) l[k]=zhz l[k]:=by
     unfold zrw
     simp [zap,hz]
    rw [he,if_neg hz] at h0
    rw [<-h0]
    generalize zhz l[k]=e at *
    repeat' ((conv=>whnf);first
    | refine Yz ?_
     | (refine za0.rec Clm.cells_length k rfl hlt ?_)
     | (refine zaf.of hn ?_)
     | (refine zad.step g.lim ?_)
     | (refine Cmp.tt hz ?_)
     | (refine Cmp.ff hz ?_)
     | (refine Ret.mk rfl)
     | (refine Cmp.mk (fun h=> ?_) (fun h=> ?_))|(refine Rem.any (by omega) (fun r hr he=> ?_))|(refine Br.mk (fun h=> ?_) (fun h=> ?_)))
  ·rw [List.drop_eq_nil_of_le (by omega),zlr] at h0
   rw [<-h0]
   repeat' ((conv=>whnf);first
   | refine Yz ?_
    | (refine Ret.mk rfl))
theorem z54 (l:List Clm) (n:Int) (hl:l.length<=9223372036854775807):Fc E zif [LM l,I n] (B (decide (((l.length:Int)<=n\/l.length=65)/\∀c∈l,zuc c.rq=true))):=by
 refine g.fn rfl rfl ?_
 by_cases hs:(l.length:Int)<=n\/l.length=65
 ·generalize hR:decide (((l.length:Int)<=n\/l.length=65)/\∀c∈l,zuc c.rq=true)=R
  have hR:decide (∀c∈l,zuc c.rq=true)=R:=by
   rw [<-hR]
   simp [hs]
  repeat' ((conv=>whnf);first
  | refine Yz ?_
   | (refine Cmp.mk (fun h=> ?_) (fun h=> ?_))|(refine Rem.any (by omega) (fun r hr he=> ?_))|(refine Br.mk (fun h=> ?_) (fun h=> ?_))
   | (exfalso;omega))
  all_goals
   refine zad.to (zad.upP g (fun k=>[(0,LM l),(5,I k)]) (fun _=>[]) (fun k=>decide (∀c∈l.drop k,zuc c.rq=true)=R) l.length (fun k hk h0 ih=> ?_) 0 (Nat.zero_le _) hR) rfl rfl
   by_cases hlt:k<l.length
   ·rw [List.drop_eq_getElem_cons hlt] at h0
    have ih:=ih hlt
    have hb:=yr0 g l[k].rq
    cases hc:zuc l[k].rq
    ·rw [hc] at hb
     rw [decide_eq_false fun h=>by have:=h l[k] (List.mem_cons_self ..);rw [hc] at this;cases this] at h0
     rw [<-h0]
     repeat' ((conv=>whnf);first
     | refine Yz ?_
      | (refine za0.partC Clm.cells_length k rfl hlt (by decide) rfl ?_)
      | (refine zaf.of hb ?_)
      | (refine Ret.mk rfl))
    ·rw [hc] at hb
     have ih:=ih (h0▸decide_eq_decide.2 ⟨fun h c hm=>(List.mem_cons.1 hm).elim (fun e=>e▸hc) (h c),fun h c hm=>h c (List.mem_cons_of_mem _ hm)⟩)
     repeat' ((conv=>whnf);first
     | refine Yz ?_
      | (refine za0.partC Clm.cells_length k rfl hlt (by decide) rfl ?_)
      | (refine zaf.of hb ?_)
      | (refine zad.to ih rfl rfl))
   ·rw [List.drop_eq_nil_of_le (by omega)] at h0
    rw [<-h0]
    repeat' ((conv=>whnf);first
    | refine Yz ?_
     | (refine Ret.mk (by simp)))
 ·rw [decide_eq_false (fun h=>hs h.1)]
  repeat' ((conv=>whnf);first
  | refine Yz ?_
   | (refine Cmp.mk (fun h=> ?_) (fun h=> ?_))|(refine Rem.any (by omega) (fun r hr he=> ?_))|(refine Br.mk (fun h=> ?_) (fun h=> ?_))
   | (refine Ret.mk rfl)
   | (exfalso;omega))
end
section
variable {E : Oracle} (g : Good E)
include g
theorem zro (p:Prg) (hs:zpt p):Fc E zd5 [Pgv p] (Pgv p):=by
 refine g.fn rfl rfl ?_
 obtain⟨l1,l2⟩:=hs
 repeat' ((conv=>whnf);first
 | refine Yz ?_)
 refine zad.to (zad.up g (fun k=>[(2,.ptr ⟨0,2,1⟩ 0 0),(3,.ptr ⟨0,3,1⟩ 0 0),(19,LC p.cl),(20,I p.cl.length),(21,I k)])
  (fun k=>[(⟨0,1,0⟩,.cells zat [.d (.list p.cl.length (p.cl.flatMap Cls.cells)),.d (DI p.po),.d (DI p.of),.d (DI p.fo)]),(⟨0,2,0⟩,.row false zaa 3 0 []),(⟨0,2,1⟩,.cells zab [.ref ⟨0,2,0⟩ 0 0 0,.d (DI 0),.d (DI 0),.d (DI 0)]),(⟨0,17,0⟩,.row false zaa 3 k ((p.cl.take k).flatMap Cls.cells)),(⟨0,3,0⟩,.row false zaa 3 0 []),(⟨0,3,1⟩,.cells zab [.ref ⟨0,17,0⟩ 0 k k,.d (DI p.po),.d (DI p.of),.d (DI p.fo)])])
  p.cl.length (fun k hk ih=> ?_) 0 (Nat.zero_le _)) rfl rfl
 have hfl:=ylm Cls.cells 3 Cls.cells_length hk
 by_cases hlt:k<p.cl.length
 ·have ih:=ih hlt
  rw [ydo Cls.cells hlt] at ih
  have l3:=l2 _ (List.getElem_mem hlt)
  generalize hx:p.cl[k]=x at *
  obtain⟨nm,wh,ky⟩:=x
  obtain⟨l4,l5⟩:=l3
  dsimp only at l4 l5
  repeat' ((conv=>whnf);first
  | refine Yz ?_
   | (refine za0.rec Cls.cells_length k rfl hlt ?_;rw [hx]))
  refine zad.to (zad.up g (fun j=>[(2,.ptr ⟨0,2,1⟩ 0 0),(3,.ptr ⟨0,3,1⟩ 0 0),(5,.ptr ⟨0,5,0⟩ 0 0),(6,.ptr ⟨0,6,2⟩ 0 0),(19,LC p.cl),(20,I p.cl.length),(21,I k),(29,LT wh),(30,I wh.length),(31,I j)])
   (fun j=>[(⟨0,1,0⟩,.cells zat [.d (.list p.cl.length (p.cl.flatMap Cls.cells)),.d (DI p.po),.d (DI p.of),.d (DI p.fo)]),(⟨0,2,0⟩,.row false zaa 3 0 []),(⟨0,2,1⟩,.cells zab [.ref ⟨0,2,0⟩ 0 0 0,.d (DI 0),.d (DI 0),.d (DI 0)]),(⟨0,17,0⟩,.row false zaa 3 k ((p.cl.take k).flatMap Cls.cells)),(⟨0,3,0⟩,.row false zaa 3 0 []),(⟨0,3,1⟩,.cells zab [.ref ⟨0,17,0⟩ 0 k k,.d (DI p.po),.d (DI p.of),.d (DI p.fo)]),(⟨0,5,0⟩,.cells zcq [.d (.str nm),.d (.list wh.length (wh.flatMap Tst.cells)),.d (.list ky.length (ky.flatMap Kyt.cells))]),(⟨0,27,0⟩,.row false zay 3 j ((wh.take j).flatMap Tst.cells)),(⟨0,27,1⟩,.row false zan 2 0 ([])),(⟨0,6,0⟩,.row false zay 3 0 []),(⟨0,6,1⟩,.row false zan 2 0 []),(⟨0,6,2⟩,.cells zaa [.d (.str nm),.ref ⟨0,27,0⟩ 0 j j,.ref ⟨0,27,1⟩ 0 0 0])])
   wh.length (fun j hj jh=> ?_) 0 (Nat.zero_le _)) rfl rfl
  have hft:=ylm Tst.cells 3 Tst.cells_length hj
  by_cases hjl:j<wh.length
  ·have jh:=jh hjl
   rw [ydo Tst.cells hjl] at jh
   repeat' ((conv=>whnf);first
   | refine Yz ?_
    | (refine za0.rec Tst.cells_length j rfl hjl ?_)
    | (refine zbk.mk (by simp only [List.length_cons,List.length_nil];omega) ?_)
    | (refine zad.to jh rfl rfl))
  ·have ej:wh.take j=wh:=List.take_of_length_le (by omega)
   have hj':j=wh.length:=by omega
   subst hj'
   rw [ej]
   repeat' ((conv=>whnf);first
   | refine Yz ?_)
   refine zad.to (zad.up g (fun i=>[(2,.ptr ⟨0,2,1⟩ 0 0),(3,.ptr ⟨0,3,1⟩ 0 0),(6,.ptr ⟨0,6,2⟩ 0 0),(19,LC p.cl),(20,I p.cl.length),(21,I k),(43,LK ky),(44,I ky.length),(45,I i)])
    (fun i=>[(⟨0,1,0⟩,.cells zat [.d (.list p.cl.length (p.cl.flatMap Cls.cells)),.d (DI p.po),.d (DI p.of),.d (DI p.fo)]),(⟨0,2,0⟩,.row false zaa 3 0 []),(⟨0,2,1⟩,.cells zab [.ref ⟨0,2,0⟩ 0 0 0,.d (DI 0),.d (DI 0),.d (DI 0)]),(⟨0,17,0⟩,.row false zaa 3 k ((p.cl.take k).flatMap Cls.cells)),(⟨0,3,0⟩,.row false zaa 3 0 []),(⟨0,3,1⟩,.cells zab [.ref ⟨0,17,0⟩ 0 k k,.d (DI p.po),.d (DI p.of),.d (DI p.fo)]),(⟨0,5,0⟩,.cells zcq [.d (.str nm),.d (.list wh.length (wh.flatMap Tst.cells)),.d (.list ky.length (ky.flatMap Kyt.cells))]),(⟨0,27,0⟩,.row false zay 3 wh.length (wh.flatMap Tst.cells)),(⟨0,27,1⟩,.row false zan 2 i ((ky.take i).flatMap Kyt.cells)),(⟨0,6,0⟩,.row false zay 3 0 []),(⟨0,6,1⟩,.row false zan 2 0 []),(⟨0,6,2⟩,.cells zaa [.d (.str nm),.ref ⟨0,27,0⟩ 0 wh.length wh.length,.ref ⟨0,27,1⟩ 0 i i])])
    ky.length (fun i hi ik=> ?_) 0 (Nat.zero_le _)) rfl rfl
   have hfk:=ylm Kyt.cells 2 Kyt.cells_length hi
   by_cases hil:i<ky.length
   ·have ik:=ik hil
    rw [ydo Kyt.cells hil] at ik
    repeat' ((conv=>whnf);first
    | refine Yz ?_
     | (refine za0.rec Kyt.cells_length i rfl hil ?_)
     | (refine zbk.mk (by simp only [List.length_cons,List.length_nil];omega) ?_)
     | (refine zad.to ik rfl rfl))
   ·have ei:ky.take i=ky:=List.take_of_length_le (by omega)
    have hi':i=ky.length:=by omega
    subst hi'
    rw [ei]
    repeat' ((conv=>whnf);first
    | refine Yz ?_
     | (refine zbk.mk (by simp only [List.length_cons,List.length_nil];omega) ?_)
     | (refine zad.to ih rfl ?_))
    rw [if_pos ⟨rfl,rfl⟩,if_pos ⟨rfl,rfl⟩]
    rfl
 ·have ek:p.cl.take k=p.cl:=List.take_of_length_le (by omega)
  have hk':k=p.cl.length:=by omega
  subst hk'
  rw [ek]
  repeat' ((conv=>whnf);first
  | refine Yz ?_
   | (refine zbk.mk ⟨rfl,by simp⟩ ?_)
   | (refine Ret.mk ?_))
  refine congrArg (fun x=>V.d (.agg [.list p.cl.length x,DI p.po,DI p.of,DI p.fo])) (?_:_=p.cl.flatMap Cls.cells)
  exact if_pos ⟨rfl,rfl⟩
def ys4 (p:Prg) (l:List Clm):Prop:=zxy p=true/\l.length<=6/\(∀c∈l,zuc c.rq=true)/\znu p=0/\zls l=0
theorem z9r (p:Prg) (l:List Clm) (hp:yw8 p) (hl:l.length<=9223372036854775807):(ys4 p l->Fc E zi3 [Pgv p,LM l,I 6] (B true))/\(¬ys4 p l->Fc E zi3 [Pgv p,LM l,I 6] (B false)):=by
 have h1:=ypj g p hp
 have h2:=z54 g l 6 hl
 cases hs:zxy p
 ·rw [hs] at h1
  refine⟨fun h=>absurd (hs▸h.1) (by decide),fun _=> ?_⟩
  refine g.fn rfl rfl ?_
  repeat' ((conv=>whnf);first
  | refine Yz ?_
   | (apply zaf.of;assumption)
   | (exact Ret.mk rfl))
 ·rw [hs] at h1
  have h3:=z3w g p (z8f hs)
  by_cases hb:((l.length:Int)<=6\/l.length=65)/\∀c∈l,zuc c.rq=true
  ·rw [decide_eq_true hb] at h2
   by_cases h6:l.length<=6
   ·have h4:=z58 g l (by omega)
    by_cases hq:znu p=0
    ·rw [hq] at h3
     by_cases hz:zls l=0
     ·rw [hz] at h4
      refine⟨fun _=> ?_,fun h=>absurd ⟨hs,h6,hb.2,hq,hz⟩ h⟩
      refine g.fn rfl rfl ?_
      repeat' ((conv=>whnf);first
      | refine Yz ?_
       | (apply zaf.of;assumption)
       | (exact Ret.mk rfl))
     ·refine⟨fun h=>absurd h.2.2.2.2 hz,fun _=> ?_⟩
      refine g.fn rfl rfl ?_
      repeat' ((conv=>whnf);first
      | refine Yz ?_
       | (apply zaf.of;assumption)
       | (refine Cmp.ff hz ?_)
       | (exact Ret.mk rfl))
    ·refine⟨fun h=>absurd h.2.2.2.1 hq,fun _=> ?_⟩
     refine g.fn rfl rfl ?_
     repeat' ((conv=>whnf);first
     | refine Yz ?_
      | (apply zaf.of;assumption)
      | (refine Cmp.ff hq ?_)
      | (exact Ret.mk rfl))
   ·refine⟨fun h=>absurd h.2.1 h6,fun _=> ?_⟩
    refine g.fn rfl rfl ?_
    repeat' ((conv=>whnf);first
    | refine Yz ?_
     | (apply zaf.of;assumption)
     | (exact Ret.mk rfl))
  ·rw [decide_eq_false hb] at h2
   refine⟨fun h=>absurd ⟨.inl (by have:=h.2.1;omega),h.2.2.1⟩ hb,fun _=> ?_⟩
   refine g.fn rfl rfl ?_
   repeat' ((conv=>whnf);first
   | refine Yz ?_
    | (apply zaf.of;assumption)
    | (exact Ret.mk rfl))
end
open Go Go.Evl
theorem z4z {cx:Cx} {slot lo:Nat} {old m:Mem} {o:Evl.Id} {off l top:Nat} {wr:Bool} {t sz n:Nat} {xs:List D} (hlo:lo<=o.lv) (hl:Evl.look m o=some (.row wr t sz n xs)):
  Go.Evl.settle cx slot lo old m (.ref o off l top)=some (.ref ⟨cx.lv,slot,Go.Evl.freeK cx.lv slot old⟩ off l top,old++[(⟨cx.lv,slot,Go.Evl.freeK cx.lv slot old⟩,.row wr t sz n xs)]):=by
 have hr:Go.Evl.reach lo m 64 (Go.Evl.ids (.ref o off l top)) []=[o]:=by
  simp [Go.Evl.ids,Go.Evl.reach,hlo,hl,Go.Evl.idsO]
 unfold Go.Evl.settle
 simp only [hr]
 rw [if_pos (by simp [Go.Evl.within,Go.Evl.movable,Go.Evl.onceB,Go.Evl.ids,hl,hlo,Go.Evl.idsO,Go.Evl.isLoop])]
 simp [Go.Evl.number,Go.Evl.ren,Go.Evl.subst,Go.Evl.moved,hl,Go.Evl.renO]
theorem zb4.row {cx:Cx} {slot lo:Nat} {old m:Mem} {o:Evl.Id} {off l top:Nat} {wr:Bool} {t sz n:Nat} {xs:List D} {K:V×Mem->Prop} (hlo:lo<=o.lv) (hl:Evl.look m o=some (.row wr t sz n xs))
  (k:K (.ref ⟨cx.lv,slot,Go.Evl.freeK cx.lv slot old⟩ off l top,old++[(⟨cx.lv,slot,Go.Evl.freeK cx.lv slot old⟩,.row wr t sz n xs)])):zb4 (Go.Evl.settle cx slot lo old m (.ref o off l top)) K:=⟨_,z4z hlo hl,k⟩
abbrev LQ (l:List Rqt):V:= .d (.list l.length (l.flatMap Rqt.cells))
def yun (l:List Rqt):List (List UInt8):=l.map (·.nm)
section
variable {E : Oracle} (g : Good E)
include g
theorem z3i (l:List Rqt) (hl:l.length<=1000000):Fc E zho [LQ l,LQ l] (B true):=by
 refine g.fn rfl rfl ?_
 repeat' ((conv=>whnf);first
 | refine Yz ?_
  | (refine Cmp.tt rfl ?_))
 refine zad.to (zad.up g (fun k=>[(0,LQ l),(1,LQ l),(5,I k)]) (fun _=>[]) l.length (fun k hk ih=> ?_) 0 (Nat.zero_le _)) rfl rfl
 by_cases hlt:k<l.length
 ·have ih:=ih hlt
  repeat' ((conv=>whnf);first
  | refine Yz ?_
   | (refine za0.rec Rqt.cells_length k rfl hlt ?_)
   | (refine Cmp.tt ⟨rfl,rfl,rfl,rfl,rfl,rfl,rfl,rfl,rfl,rfl,rfl,rfl,rfl⟩ ?_)
   | (refine zad.to ih rfl rfl))
 ·repeat' ((conv=>whnf);first
 | refine Yz ?_
   | (refine Ret.mk rfl))
end
def ygy (s:List UInt8):Bool:=decide (s.length=5/\((s.getD 0 0).toNat=83\/(s.getD 0 0).toNat=87))&&z27 (win s 1 (s.length-1)) 4
def ztm (ai se:List UInt8) (da:Int):Int:=zap [nmE ai,if(!ygy se)=true then 1 else 0,rng da 0 99999]
def yba (s:List UInt8):Bool:=decide (s=REQ)||decide (s=ANS)
section
variable {E : Oracle} (g : Good E)
include g
theorem yip (s:List UInt8):Fc E zjb [S s] (B (ygy s)):=by
 refine g.fn rfl rfl ?_
 unfold ygy
 by_cases h0:s.length=5/\((s.getD 0 0).toNat=83\/(s.getD 0 0).toNat=87)
 ·rw [decide_eq_true h0,Bool.true_and]
  obtain⟨hl,hc⟩:=h0
  have hb:=yex (s.getD 0 0)
  have hwl:(win s 1 (s.length-1)).length=4:=by simp [win,hl]
  repeat' ((conv=>whnf);first
  | refine Yz ?_
   | (refine z7v.at 0 (by decide) (by omega) ?_)
   | (refine zbe.mk (by omega) ?_)
   | (refine Cmp.mk (fun h=> ?_) (fun h=> ?_))|(refine Rem.any (by omega) (fun r hr he=> ?_))|(refine Br.mk (fun h=> ?_) (fun h=> ?_))
   | (exfalso;omega))
  all_goals
   change zad E _ _ _ _ [(20,.it ⟨0,20,0⟩)] [(⟨0,20,0⟩,.iter (win s 1 (s.length-1)) 0)] _
   generalize win s 1 (s.length-1)=t at *
   refine zad.to (zad.upP g (fun _=>[(20,.it ⟨0,20,0⟩)]) (fun k=>[(⟨0,20,0⟩,.iter t k)]) (fun k=>∀i,i<k->dg (t.getD i 0)) t.length (fun k hk hp ih=> ?_) 0 (Nat.zero_le _) (fun i hi=>by omega)) rfl rfl
   by_cases hlt:k<t.length
   ·by_cases ha:(t.getD k 0).toNat<128
    ·by_cases hok:dg (t.getD k 0)
     ·have ih:=ih hlt fun i hi=>by
       by_cases e:i=k
       ·subst e;exact hok
       ·exact hp i (by omega)
      unfold dg at hok
      repeat' ((conv=>whnf);first
      | refine Yz ?_
       | (refine zk1.asc hlt ha ?_)
       | (refine Cmp.mk (fun h=> ?_) (fun h=> ?_))|(refine Rem.any (by omega) (fun r hr he=> ?_))|(refine Br.mk (fun h=> ?_) (fun h=> ?_))
       | (refine zad.to ih rfl rfl)
       | (exfalso;omega))
     ·rw [zzl (w:=4) hlt hok]
      unfold dg at hok
      repeat' ((conv=>whnf);first
      | refine Yz ?_
       | (refine zk1.asc hlt ha ?_)
       | (refine Cmp.mk (fun h=> ?_) (fun h=> ?_))|(refine Rem.any (by omega) (fun r hr he=> ?_))|(refine Br.mk (fun h=> ?_) (fun h=> ?_))
       | (refine Ret.mk rfl)
       | (exfalso;omega))
    ·rw [zzl (w:=4) hlt (by unfold dg;omega)]
     repeat' ((conv=>whnf);first
     | refine Yz ?_
      | (refine zk1.high hlt (by omega) (fun c w hc hw=> ?_))
      | (refine Cmp.mk (fun h=> ?_) (fun h=> ?_))|(refine Rem.any (by omega) (fun r hr he=> ?_))|(refine Br.mk (fun h=> ?_) (fun h=> ?_))
      | (refine Ret.mk rfl)
      | (exfalso;omega))
   ·have hk':k=t.length:=by omega
    subst hk'
    rw [yeq hwl hp]
    repeat' ((conv=>whnf);first
    | refine Yz ?_
     | (refine zk1.end' (Nat.le_refl _) ?_)
     | (refine Ret.mk rfl))
 ·rw [decide_eq_false h0,Bool.false_and]
  by_cases hl:s.length=5
  ·have hb:=yex (s.getD 0 0)
   have hc:(s.getD 0 0).toNat≠83/\(s.getD 0 0).toNat≠87:=by omega
   clear h0
   repeat' ((conv=>whnf);first
   | refine Yz ?_
    | (refine z7v.at 0 (by decide) (by omega) ?_)
    | (refine Ret.mk rfl))
  ·clear h0
   repeat' ((conv=>whnf);first
   | refine Yz ?_
    | (refine Ret.mk rfl))
theorem zrr (ai se:List UInt8) (da:Int):Fc E zgh [S ai,S se,I da] (I (ztm ai se da)):=by
 refine g.fn rfl rfl ?_
 have h1:=yj0 g ai
 have h2:=yip g se
 have h3:=z2i g da 0 99999
 repeat' ((conv=>whnf);first
 | refine Yz ?_
  | (apply zaf.of;assumption)
  | (refine zaf.of (zbr g _ _) ?_)
  | (refine zaf.of (zdi g _ _ _) ?_)
  | (refine Ret.mk rfl))
theorem zrq (s:List UInt8):Fc E zgg [S s] (B (yba s)):=by
 refine g.fn rfl rfl ?_
 unfold yba
 by_cases he:s=REQ
 ·subst he
  repeat' ((conv=>whnf);first
  | refine Yz ?_
   | (refine Ret.mk rfl))
 ·rw [decide_eq_false he]
  by_cases hd:s=ANS
  ·subst hd
   repeat' ((conv=>whnf);first
   | refine Yz ?_
    | (refine Ret.mk rfl))
  ·rw [decide_eq_false hd]
   repeat' ((conv=>whnf);first
   | refine Yz ?_
    | (refine Cmp.ff he ?_)
    | (refine Cmp.ff hd ?_)
    | (refine Ret.mk rfl))
end
def vis (s:List UInt8):Prop:=∀x∈s,32<x.toNat
theorem zxh {s:List UInt8} (h:vis s):(32:UInt8)∉s/\(10:UInt8)∉s:=⟨fun hm=>absurd (h _ hm) (by decide),fun hm=>absurd (h _ hm) (by decide)⟩
theorem zqq {s:List UInt8} (h:zc6 s=true):vis s:=by
 have h:=(of_decide_eq_true h).2.2
 intro x hx
 obtain⟨i,hi,rfl⟩:=List.getElem_of_mem hx
 have:=h i hi
 rw [show s.getD i 0=s[i] by simp [List.getD,hi]] at this
 unfold ya9 at this
 omega
abbrev z3e:List V:=[.fn zbc [] [.ptr ⟨0,1,0⟩ 0 0],.fn zbb [] [.ptr ⟨0,1,0⟩ 0 0,.ptr ⟨0,1,1⟩ 0 0],.fn zbc [] [.ptr ⟨0,2,0⟩ 0 0],.fn zbb [] [.ptr ⟨0,2,0⟩ 0 0,.ptr ⟨0,2,1⟩ 0 0],.fn zbc [] [.ptr ⟨0,3,0⟩ 0 0],.fn zbb [] [.ptr ⟨0,3,0⟩ 0 0,.ptr ⟨0,3,1⟩ 0 0],.fn zbc [] [.ptr ⟨0,4,0⟩ 0 0],.fn zbb [] [.ptr ⟨0,4,0⟩ 0 0,.ptr ⟨0,4,1⟩ 0 0],.fn zbc [] [.ptr ⟨0,5,0⟩ 0 0],.fn zbb [] [.ptr ⟨0,5,0⟩ 0 0,.ptr ⟨0,5,1⟩ 0 0],.fn za4 [] [.ptr ⟨0,6,0⟩ 0 0,.ptr ⟨0,6,1⟩ 0 0],.fn za5 [] [.ptr ⟨0,6,1⟩ 0 0,.ptr ⟨0,6,0⟩ 0 0],.fn za4 [] [.ptr ⟨0,7,0⟩ 0 0,.ptr ⟨0,7,1⟩ 0 0],.fn za5 [] [.ptr ⟨0,7,1⟩ 0 0,.ptr ⟨0,7,0⟩ 0 0],.fn zfq [] [],.fn zfp [] [],.fn ze0 [] [],.fn ze5 [] [],.fn za4 [] [.ptr ⟨0,10,0⟩ 0 0,.ptr ⟨0,10,1⟩ 0 0],.fn za5 [] [.ptr ⟨0,10,1⟩ 0 0,.ptr ⟨0,10,0⟩ 0 0],.fn za4 [] [.ptr ⟨0,11,0⟩ 0 0,.ptr ⟨0,11,1⟩ 0 0],.fn za5 [] [.ptr ⟨0,11,1⟩ 0 0,.ptr ⟨0,11,0⟩ 0 0],.fn za4 [] [.ptr ⟨0,12,0⟩ 0 0,.ptr ⟨0,12,1⟩ 0 0],.fn za5 [] [.ptr ⟨0,12,1⟩ 0 0,.ptr ⟨0,12,0⟩ 0 0],.fn zb7 [] [.ptr ⟨0,13,0⟩ 0 0],.fn zb9 [] [.ptr ⟨0,13,0⟩ 0 0],.fn zb7 [] [.ptr ⟨0,14,0⟩ 0 0],.fn zb9 [] [.ptr ⟨0,14,0⟩ 0 0]]
abbrev yk6:Mem:=[(⟨0,1,0⟩,.cells zah [.fn zd9 [] []]),(⟨0,1,1⟩,.cells zbt [.fn zcu [] []]),(⟨0,2,0⟩,.cells zah [.fn zec [] []]),(⟨0,2,1⟩,.cells zbt [.fn zao [] []]),(⟨0,3,0⟩,.cells zah [.fn zd4 [] []]),(⟨0,3,1⟩,.cells zbt [.fn zao [] []]),(⟨0,4,0⟩,.cells zah [.fn zd8 [] []]),(⟨0,4,1⟩,.cells zbt [.fn zdk [] []]),(⟨0,5,0⟩,.cells zah [.fn zd7 [] []]),(⟨0,5,1⟩,.cells zbt [.fn zao [] []]),(⟨0,6,0⟩,.cells zaq [.fn zeb [] []]),(⟨0,6,1⟩,.cells zam [.d (DI 5)]),(⟨0,7,0⟩,.cells zaq [.fn zd3 [] []]),(⟨0,7,1⟩,.cells zam [.d (DI 5)]),(⟨0,10,0⟩,.cells zaq [.fn zdw [] []]),(⟨0,10,1⟩,.cells zam [.d (DI 3)]),(⟨0,11,0⟩,.cells zaq [.fn zdq [] []]),(⟨0,11,1⟩,.cells zam [.d (DI 1)]),(⟨0,12,0⟩,.cells zaq [.fn zds [] []]),(⟨0,12,1⟩,.cells zam [.d (DI 2)]),(⟨0,13,0⟩,.cells zah [.fn zck [] []]),(⟨0,14,0⟩,.cells zah [.fn zcl [] []])]
abbrev yin:List Evl.Id:=[⟨0,1,0⟩,⟨0,1,1⟩,⟨0,2,0⟩,⟨0,2,1⟩,⟨0,3,0⟩,⟨0,3,1⟩,⟨0,4,0⟩,⟨0,4,1⟩,⟨0,5,0⟩,⟨0,5,1⟩,⟨0,6,0⟩,⟨0,6,1⟩,⟨0,7,0⟩,⟨0,7,1⟩,⟨0,10,0⟩,⟨0,10,1⟩,⟨0,11,0⟩,⟨0,11,1⟩,⟨0,12,0⟩,⟨0,12,1⟩,⟨0,13,0⟩,⟨0,14,0⟩]
abbrev ywp (lv slot:Nat):List V:=[.fn zbc [] [.ptr ⟨lv,slot,0⟩ 0 0],.fn zbb [] [.ptr ⟨lv,slot,0⟩ 0 0,.ptr ⟨lv,slot,1⟩ 0 0],.fn zbc [] [.ptr ⟨lv,slot,2⟩ 0 0],.fn zbb [] [.ptr ⟨lv,slot,2⟩ 0 0,.ptr ⟨lv,slot,3⟩ 0 0],.fn zbc [] [.ptr ⟨lv,slot,4⟩ 0 0],.fn zbb [] [.ptr ⟨lv,slot,4⟩ 0 0,.ptr ⟨lv,slot,5⟩ 0 0],.fn zbc [] [.ptr ⟨lv,slot,6⟩ 0 0],.fn zbb [] [.ptr ⟨lv,slot,6⟩ 0 0,.ptr ⟨lv,slot,7⟩ 0 0],.fn zbc [] [.ptr ⟨lv,slot,8⟩ 0 0],.fn zbb [] [.ptr ⟨lv,slot,8⟩ 0 0,.ptr ⟨lv,slot,9⟩ 0 0],.fn za4 [] [.ptr ⟨lv,slot,10⟩ 0 0,.ptr ⟨lv,slot,11⟩ 0 0],.fn za5 [] [.ptr ⟨lv,slot,11⟩ 0 0,.ptr ⟨lv,slot,10⟩ 0 0],.fn za4 [] [.ptr ⟨lv,slot,12⟩ 0 0,.ptr ⟨lv,slot,13⟩ 0 0],.fn za5 [] [.ptr ⟨lv,slot,13⟩ 0 0,.ptr ⟨lv,slot,12⟩ 0 0],.fn zfq [] [],.fn zfp [] [],.fn ze0 [] [],.fn ze5 [] [],.fn za4 [] [.ptr ⟨lv,slot,14⟩ 0 0,.ptr ⟨lv,slot,15⟩ 0 0],.fn za5 [] [.ptr ⟨lv,slot,15⟩ 0 0,.ptr ⟨lv,slot,14⟩ 0 0],.fn za4 [] [.ptr ⟨lv,slot,16⟩ 0 0,.ptr ⟨lv,slot,17⟩ 0 0],.fn za5 [] [.ptr ⟨lv,slot,17⟩ 0 0,.ptr ⟨lv,slot,16⟩ 0 0],.fn za4 [] [.ptr ⟨lv,slot,18⟩ 0 0,.ptr ⟨lv,slot,19⟩ 0 0],.fn za5 [] [.ptr ⟨lv,slot,19⟩ 0 0,.ptr ⟨lv,slot,18⟩ 0 0],.fn zb7 [] [.ptr ⟨lv,slot,20⟩ 0 0],.fn zb9 [] [.ptr ⟨lv,slot,20⟩ 0 0],.fn zb7 [] [.ptr ⟨lv,slot,21⟩ 0 0],.fn zb9 [] [.ptr ⟨lv,slot,21⟩ 0 0]]
abbrev yv4 (lv slot:Nat):Mem:=[(⟨lv,slot,0⟩,.cells zah [.fn zd9 [] []]),(⟨lv,slot,1⟩,.cells zbt [.fn zcu [] []]),(⟨lv,slot,2⟩,.cells zah [.fn zec [] []]),(⟨lv,slot,3⟩,.cells zbt [.fn zao [] []]),(⟨lv,slot,4⟩,.cells zah [.fn zd4 [] []]),(⟨lv,slot,5⟩,.cells zbt [.fn zao [] []]),(⟨lv,slot,6⟩,.cells zah [.fn zd8 [] []]),(⟨lv,slot,7⟩,.cells zbt [.fn zdk [] []]),(⟨lv,slot,8⟩,.cells zah [.fn zd7 [] []]),(⟨lv,slot,9⟩,.cells zbt [.fn zao [] []]),(⟨lv,slot,10⟩,.cells zaq [.fn zeb [] []]),(⟨lv,slot,11⟩,.cells zam [.d (DI 5)]),(⟨lv,slot,12⟩,.cells zaq [.fn zd3 [] []]),(⟨lv,slot,13⟩,.cells zam [.d (DI 5)]),(⟨lv,slot,14⟩,.cells zaq [.fn zdw [] []]),(⟨lv,slot,15⟩,.cells zam [.d (DI 3)]),(⟨lv,slot,16⟩,.cells zaq [.fn zdq [] []]),(⟨lv,slot,17⟩,.cells zam [.d (DI 1)]),(⟨lv,slot,18⟩,.cells zaq [.fn zds [] []]),(⟨lv,slot,19⟩,.cells zam [.d (DI 2)]),(⟨lv,slot,20⟩,.cells zah [.fn zck [] []]),(⟨lv,slot,21⟩,.cells zah [.fn zcl [] []])]
section
variable {E : Oracle} (g : Good E)
include g
theorem ync:E (.call 0 zgm [] [])=some (.val (.agg z3e) ((⟨0,0,0⟩,.cells zcm z3e)::yk6)):=g.lim.of_iter 100 _ _ (by kernel_rfl)
omit g in
theorem yhr {cx:Cx} {slot lo:Nat} {old m:Mem} {o:Evl.Id} {a b:Nat} (h:o.lv<lo):Go.Evl.settle cx slot lo old m (.ptr o a b)=some (.ptr o a b,old):=by
 have h1:¬lo<=o.lv:=by omega
 have hr:Go.Evl.reach lo m 64 (Go.Evl.ids (.ptr o a b)) []=[]:=by
  simp [Go.Evl.ids,Go.Evl.reach,h1]
 unfold Go.Evl.settle
 simp only [hr]
 rw [if_pos (by simp [Go.Evl.within,Go.Evl.movable,Go.Evl.onceB,Go.Evl.ids,h])]
 simp [Go.Evl.number,Go.Evl.ren,Go.Evl.subst,Go.Evl.moved]
omit g in
theorem zb4.ptr {cx:Cx} {slot lo:Nat} {old m:Mem} {o:Evl.Id} {a b:Nat} {K:V×Mem->Prop} (h:o.lv<lo) (k:K (.ptr o a b,old)):zb4 (Go.Evl.settle cx slot lo old m (.ptr o a b)) K:=⟨_,yhr h,k⟩
omit g in
theorem z84:Go.Evl.reach 0 ((⟨0,0,0⟩,.cells zcm z3e)::yk6) 64 (Go.Evl.ids (.agg z3e)) []=yin:=by decide+kernel
omit g in
theorem yjq:(Go.Evl.within yin 0 (Go.Evl.ids (.agg z3e))&&Go.Evl.movable yin 0 ((⟨0,0,0⟩,.cells zcm z3e)::yk6))=true:=by decide+kernel
omit g in
theorem yhz (cx:Cx) (slot:Nat):Go.Evl.ren (Go.Evl.number cx slot 0 yin) (.agg z3e)= .agg (ywp cx.lv slot):=by rfl
omit g in
theorem z74 (cx:Cx) (slot:Nat):Go.Evl.moved (Go.Evl.number cx slot 0 yin) ((⟨0,0,0⟩,.cells zcm z3e)::yk6) (Go.Evl.number cx slot 0 yin)=yv4 cx.lv slot:=by rfl
omit g in
theorem z7x {cx:Cx} {slot:Nat} {m:Mem} (hf:Go.Evl.freeK cx.lv slot m=0):Go.Evl.settle cx slot 0 m ((⟨0,0,0⟩,.cells zcm z3e)::yk6) (.agg z3e)=some (.agg (ywp cx.lv slot),m++yv4 cx.lv slot):=by
 unfold Go.Evl.settle
 simp only [z84,hf,yjq,if_true,yhz,z74]
theorem zdo.fields {cx:Cx} {slot:Nat} {m:Mem} {K:V->Mem->Prop} (hf:Go.Evl.freeK cx.lv slot m=0) (h:K (.agg (ywp cx.lv slot)) (m++yv4 cx.lv slot)):zdo E zgm [] cx slot m K:=by
 exact⟨_,_,_,ync g,z7x hf,h⟩
end
abbrev LS (l:List (List UInt8)):V:= .d (.list l.length (l.map D.str))
section
variable {E : Oracle} (g : Good E)
include g
theorem zn3 (s:List UInt8) (hs:s.length<=1000000):Fc E n_strings_Split [S s,S [32]] (LS (parts 32 s)):=by
 refine Fc.extern g.lim (x:=splitX) rfl (v:=LS (parts 32 s)) (m':=[]) ?_ rfl
 simp only [splitX,yae]
 rw [if_pos ⟨hs,by simp⟩]
end
def ytq (s:List UInt8) (w:Nat):Int:=if z27 s w then zl2 0 s else 0
def ywk (s:List UInt8):Int:=if ym6 s then ywc s else 0
def yv5 (s:List UInt8):Int:=if zlh s then zyr s else 0
def zms (s:List UInt8):List UInt8:=if s=[45] then [] else s
def yuf (s:List UInt8):Bool:=decide (s=[45])||zc6 s
structure W14 where
 (a0 a1 a2 a3 a4 a5 a6 a7 a8 a9 a10 a11 a12 a13:List UInt8)
def W14.list (w:W14):List (List UInt8):=[w.a0,w.a1,w.a2,w.a3,w.a4,w.a5,w.a6,w.a7,w.a8,w.a9,w.a10,w.a11,w.a12,w.a13]
theorem yv3 {l:List (List UInt8)} (h:l.length=14):∃w:W14,l=w.list:=by
 match l,h with
 | [a0,a1,a2,a3,a4,a5,a6,a7,a8,a9,a10,a11,a12,a13],_=>exact⟨⟨a0,a1,a2,a3,a4,a5,a6,a7,a8,a9,a10,a11,a12,a13⟩,rfl⟩
def W14.fits (w:W14):List Bool:=[ycq w.a0,zc6 w.a1,zc6 w.a2,z0e w.a3,zc6 w.a4,z27 w.a5 5,z27 w.a6 5,decide (zlh w.a7),decide (ym6 w.a8),z27 w.a9 3,z27 w.a10 1,z27 w.a11 2,yuf w.a12,yuf w.a13]
def W14.line (w:W14):Lnt:=⟨w.a0,⟨w.a2,w.a1,w.a3,zms w.a12,w.a4,zms w.a13,ytq w.a5 5,ytq w.a6 5,yv5 w.a7,ywk w.a8,ytq w.a9 3,ytq w.a10 1,ytq w.a11 2⟩⟩
def zxw:List Bool->Nat
 | []=>0
 | true::r=>zxw r+1
 | false::_=>0
abbrev zp8:List D:=[.str [],.str [],.str [],.str [],.str [],.str [],.str [],DI 0,DI 0,DI 0,DI 0,DI 0,DI 0,DI 0]
def yw5 (bs:List Bool) (cs:List D) (c:Int):V:=
 if zxw bs=14 then(if c=0 then .tup [.d (.agg cs),I 0,I 0] else .tup [.d (.agg zp8),I 14,I c]) else .tup [.d (.agg zp8),I (zxw bs:Nat),I 25]
def yqo (w:W14):V:=yw5 w.fits w.line.cells (zhn w.line)
theorem Br.not {b:Bool} {A B:Prop} (ht:b=false->A) (hf:b=true->B):Br (!b) A B:=by
 cases b
 ·exact⟨fun _=>ht rfl,fun h=>nomatch h⟩
 ·exact⟨fun h=>(nomatch h),fun _=>hf rfl⟩
theorem Cmp.b25 {b:Bool} {A B:Prop} (ht:b=true->A) (hf:b=false->B):Cmp ((if b=true then(0:Int) else 25)=0) A B:=by
 cases b
 ·exact⟨fun h=>by simp at h,fun _=>hf rfl⟩
 ·exact⟨fun _=>ht rfl,fun h=>by simp at h⟩
def pcs:List UInt8->List (List UInt8)
 | []=>[]
 | c::r=>if c=10 then [10]::pcs r else
  match pcs r with
  | []=>[[c]]
  | p::q=>(c::p)::q
theorem z6c:pcs []=[]:=rfl
theorem z0p:∀(a r:List UInt8),(10:UInt8)∉a->pcs (a++10::r)=(a++[10])::pcs r
 | [],r,_=>by simp [pcs]
 | c::a,r,h=>by
  have hc:¬c=10:=fun e=>h (by simp [e])
  have h':(10:UInt8)∉a:=fun hm=>h (by simp [hm])
  simp only [List.cons_append,pcs,if_neg hc,z0p a r h']
theorem yk3:∀(a:List UInt8),a≠[]->(10:UInt8)∉a->pcs a=[a]
 | [],h,_=>absurd rfl h
 | [c],_,h=>by
  have hc:¬c=10:=fun e=>h (by simp [e])
  simp only [pcs,if_neg hc]
 | c::d::a,_,h=>by
  have hc:¬c=10:=fun e=>h (by simp [e])
  have h':(10:UInt8)∉d::a:=fun hm=>h (List.mem_cons_of_mem _ hm)
  have:=yk3 (d::a) (by simp) h'
  rw [pcs,if_neg hc,this]
theorem yez:∀s:List UInt8,(pcs s).flatten=s
 | []=>rfl
 | c::r=>by
  have ih:=yez r
  rw [pcs]
  split
  ·rename_i h;simp [ih,h]
  ·split
   ·rename_i h;rw [h] at ih;simp only [List.flatten_nil] at ih;simp [<-ih]
   ·rename_i h;rw [h] at ih;simp only [List.flatten_cons] at ih ⊢;rw [<-ih];simp
theorem yka {s:List UInt8} (h:s≠[]):pcs s≠[]:=fun e=>h (by rw [<-yez s,e];rfl)
theorem yke:∀s:List UInt8,(pcs s).length<=s.length
 | []=>by simp [pcs]
 | c::r=>by
  have ih:=yke r
  rw [pcs]
  split
  ·simp;omega
  ·split
   ·simp
   ·rename_i h;rw [h] at ih;simp only [List.length_cons] at ih ⊢;omega
theorem z0t:∀(s:List UInt8),∀p∈pcs s,p.length<=s.length
 | [],p,h=>by simp [pcs] at h
 | c::r,p,h=>by
  have ih:=z0t r
  rw [pcs] at h
  split at h
  ·rcases List.mem_cons.1 h with rfl|h
   ·simp
   ·have:=ih p h;simp;omega
  ·split at h
   ·simp at h;subst h;simp
   ·rename_i q0 q hq
    rw [hq] at ih
    rcases List.mem_cons.1 h with rfl|h
    ·have:=ih q0 (by simp);simp;omega
    ·have:=ih p (List.mem_cons_of_mem _ h);simp;omega
theorem yei:∀s:List UInt8,(10:UInt8)∈s->∃a r,s=a++10::r/\(10:UInt8)∉a
 | [],h=>absurd h List.not_mem_nil
 | c::s,h=>by
  by_cases e:c=10
  ·exact⟨[],s,by rw [e];rfl,List.not_mem_nil⟩
  ·obtain⟨a,r,h1,h2⟩:=yei s ((List.mem_cons.1 h).resolve_left fun x=>e x.symm)
   exact⟨c::a,r,by rw [h1];rfl,fun hm=>(List.mem_cons.1 hm).elim (fun x=>e x.symm) h2⟩
theorem z9n (s:List UInt8) (h:s≠[]):((10:UInt8)∉s/\pcs s=[s])\/∃a r,(10:UInt8)∉a/\s=a++10::r/\pcs s=(a++[10])::pcs r:=by
 by_cases hm:(10:UInt8)∈s
 ·obtain⟨a,r,e,ha⟩:=yei s hm
  exact .inr ⟨a,r,ha,e,by rw [e];exact z0p a r ha⟩
 ·exact .inl ⟨hm,yk3 s h hm⟩
def zgx (p:List UInt8):Bool:=decide (p.getLast? =some 10)
def zqd (p:List UInt8):List UInt8:=if zgx p then p.dropLast else p
theorem zfy (a:List UInt8):zgx (a++[10])=true/\zqd (a++[10])=a:=by
 have h:zgx (a++[10])=true:=by simp [zgx]
 refine⟨h,?_⟩
 unfold zqd
 rw [if_pos h]
 simp
theorem yeo {p:List UInt8} (h:zgx p=true):p=zqd p++[10]:=by
 unfold zqd
 rw [if_pos h]
 unfold zgx at h
 have h:=of_decide_eq_true h
 obtain⟨ys,e⟩:=List.getLast?_eq_some_iff.1 h
 rw [e];simp
theorem yv6 {b:UInt8} (h:dg b):dig ((b.toNat:Int)-48)=b:=by
 unfold dig
 have h1:=h.1
 rw [show 48+((b.toNat:Int)-48).toNat=b.toNat by omega,UInt8.ofNat_toNat]
theorem ylw {n:Int} (h:0<=n/\n<=9):(dig n).toNat=48+n.toNat:=by
 unfold dig
 rw [UInt8.toNat_ofNat']
 omega
theorem yuu {n:Int} (h:0<=n/\n<=9):dg (dig n):=by
 unfold dg
 rw [ylw h]
 omega
theorem yap:∀(w:Nat) (s:List UInt8),s.length=w->(∀x∈s,dg x)->zdz w (zl2 0 s)=s
 | 0,s,h,_=>by
  obtain rfl:=List.length_eq_zero_iff.1 h
  rfl
 | w+1,s,h,hd=>by
  have hne:s≠[]:=fun e=>by subst e;simp at h
  have e:s=s.dropLast++[s.getLast hne]:=(List.dropLast_concat_getLast hne).symm
  have ih:=yap w s.dropLast (by simp [h]) fun x hx=>hd x (List.dropLast_subset s hx)
  have hl:=hd _ (List.getLast_mem hne)
  have hv:zl2 0 s=10*zl2 0 s.dropLast+(((s.getLast hne).toNat:Int)-48):=by
   conv=>lhs;rw [e]
   rw [zlf]
   rfl
  have hd:=yv6 hl
  unfold dg at hl
  rw [hv]
  simp only [zdz]
  rw [show (10*zl2 0 s.dropLast+(((s.getLast hne).toNat:Int)-48))/10=zl2 0 s.dropLast by omega,show (10*zl2 0 s.dropLast+(((s.getLast hne).toNat:Int)-48))%10=((s.getLast hne).toNat:Int)-48 by omega,ih,hd]
  exact e.symm
theorem ztq:∀(w:Nat) (n:Int),0<=n->n<(10^w:Nat)->zl2 0 (zdz w n)=n
 | 0,n,h0,h1=>by
  simp at h1
  have:n=0:=by omega
  subst this
  rfl
 | w+1,n,h0,h1=>by
  rw [Nat.pow_succ] at h1
  have ih:=ztq w (n/10) (by omega) (by omega)
  have hd:=ylw (n:=n%10) (by omega)
  simp only [zdz,zlf,ih,zl2,hd]
  omega
theorem zli:∀(w:Nat) (n:Int),∀x∈zdz w n,dg x
 | 0,_,x,h=>by simp [zdz] at h
 | w+1,n,x,h=>by
  simp only [zdz,List.mem_append,List.mem_cons,List.not_mem_nil,or_false] at h
  rcases h with h|rfl
  ·exact zli w _ x h
  ·exact yuu (by omega)
theorem zis (w:Nat) (n:Int):z27 (zdz w n) w=true:=decide_eq_true ⟨zes w n,zli w n⟩
theorem zph {w:Nat} {n:Int} (h0:0<=n) (h1:n<(10^w:Nat)):ytq (zdz w n) w=n:=by
 unfold ytq
 rw [if_pos (zis w n),ztq w n h0 h1]
theorem yxn (n:Int):zdz 2 (n/100)++zdz 2 (n%100)=zdz 4 n:=by
 have e1:n/100/10=n/10/10/10:=by omega
 have e2:n/100%10=n/10/10%10:=by omega
 have e3:n%100/10%10=n/10%10:=by omega
 have e4:n%100%10=n%10:=by omega
 simp only [zdz,List.nil_append,List.cons_append,e1,e2,e3,e4]
theorem ykq {m:Int} (h:0<=m/\m<=1439):ym6 (yie m)/\ywc (yie m)=m:=by
 have e:yie m=zdz 4 (m/60*100+m%60):=by
  rw [<-yxn,show (m/60*100+m%60)/100=m/60 by omega,show (m/60*100+m%60)%100=m%60 by omega]
  rfl
 have hv:=ztq 4 (m/60*100+m%60) (by omega) (by omega)
 rw [e]
 refine⟨⟨zis 4 _,?_,?_⟩,?_⟩
 ·rw [hv];omega
 ·rw [hv];omega
 ·unfold ywc;rw [hv];omega
theorem z13 {s:List UInt8} (h:ya3 s=true):zms (zp6 s)=s/\yuf (zp6 s)=true:=by
 unfold zp6
 by_cases he:s=[]
 ·subst he;exact⟨rfl,rfl⟩
 ·rw [if_neg he]
  have hn:zc6 s=true:=by
   unfold ya3 at h
   rw [decide_eq_false he,Bool.false_or] at h
   exact h
  have hd:s≠[45]:=fun e=>by
   rw [e] at hn
   exact absurd hn (by decide)
  refine⟨by unfold zms;rw [if_neg hd],?_⟩
  unfold yuf
  rw [hn,Bool.or_true]
theorem zxf {s:List UInt8} (h:∀x∈s,dg x):vis s:=fun x hx=>by
 have:=(h x hx).1
 omega
theorem yfa {s:List UInt8} (h:ya3 s=true):vis (zp6 s):=by
 unfold zp6
 by_cases he:s=[]
 ·rw [if_pos he]
  intro x hx
  rcases List.mem_cons.1 hx with rfl|hx
  ·decide
  ·exact absurd hx List.not_mem_nil
 ·rw [if_neg he]
  unfold ya3 at h
  rw [decide_eq_false he,Bool.false_or] at h
  exact zqq h
theorem ynd {s:List UInt8} (h:z0e s=true):vis s:=by
 simp only [z0e,Bool.or_eq_true,decide_eq_true_eq] at h
 rcases h with rfl|rfl<;>(intro x hx;simp at hx;subst hx;decide)
theorem ys7 {s:List UInt8} (h:ycq s=true):vis s:=by
 simp only [ycq,ylk,yv0,Bool.or_eq_true,decide_eq_true_eq,yod,yn5,List.mem_cons,List.not_mem_nil,or_false] at h
 rcases h with(rfl|rfl|rfl|rfl|rfl)|rfl|rfl|rfl|rfl<;>(intro x hx;simp at hx;subst hx;decide)
theorem yn8 (m:Nat):vis (zqt m):=by
 intro x hx
 simp only [zqt,List.mem_map,List.mem_range] at hx
 obtain⟨w,hw,rfl⟩:=hx
 split
 ·have:w=0\/w=1\/w=2\/w=3\/w=4\/w=5\/w=6:=by omega
  rcases this with rfl|rfl|rfl|rfl|rfl|rfl|rfl<;>decide
 ·decide
theorem ytb (m:Int):vis (yie m):=by
 intro x hx
 simp only [yie,List.mem_append] at hx
 have h:dg x:=hx.elim (zli 2 _ x) (zli 2 _ x)
 have:=h.1
 omega
theorem yaj {l:Lnt} (ha:ycq l.ac=true) (hq:yuj l.rq):∀w∈zlw l,vis w:=by
 simp only [zlw,List.mem_cons,List.not_mem_nil,or_false,forall_eq_or_imp,forall_eq]
 exact⟨ys7 ha,zqq hq.ca,zqq hq.nm,ynd hq.ki,zqq hq.pa,zxf (zli _ _),zxf (zli _ _),yn8 _,ytb _,zxf (zli _ _),zxf (zli _ _),zxf (zli _ _),yfa hq.te,yfa hq.li⟩
theorem zwy (b:UInt8):∀(l:List (List UInt8)) (x:UInt8),x∈zcg b l->x=b\/∃w∈l,x∈w
 | [],x,h=>by simp [zcg] at h
 | [y],x,h=> .inr ⟨y,by simp,h⟩
 | y::z::r,x,h=>by
  simp only [zcg,List.mem_append,List.mem_cons] at h
  rcases h with h|h|h
  ·exact .inr ⟨y,by simp,h⟩
  ·exact .inl h
  ·rcases zwy b (z::r) x h with h|⟨w,hw,h⟩
   ·exact .inl h
   ·exact .inr ⟨w,List.mem_cons_of_mem _ hw,h⟩
def wOf (l:Lnt):W14:=⟨l.ac,l.rq.ca,l.rq.nm,l.rq.ki,l.rq.pa,zdz 5 l.rq.fr,zdz 5 l.rq.to,zqt l.rq.da.toNat,yie l.rq.mi,zdz 3 l.rq.se,zdz 1 l.rq.si,zdz 2 l.rq.no,zp6 l.rq.te,zp6 l.rq.li⟩
theorem yns (l:Lnt):(wOf l).list=zlw l:=rfl
def ysv:Lnt:=⟨[],⟨[],[],[],[],[],[],0,0,0,0,0,0,0⟩⟩
def yp2 (w:W14):Lnt×Int:=if zxw w.fits=14 then(if zhn w.line=0 then(w.line,0) else(ysv,zhn w.line)) else(ysv,25)
def yhs (l:List (List UInt8)):Option W14:=
 match l with
 | [a0,a1,a2,a3,a4,a5,a6,a7,a8,a9,a10,a11,a12,a13]=>some ⟨a0,a1,a2,a3,a4,a5,a6,a7,a8,a9,a10,a11,a12,a13⟩
 | _=>none
theorem z4r (w:W14):yhs w.list=some w:=rfl
theorem yif {l:List (List UInt8)} {w:W14} (h:yhs l=some w):l=w.list:=by
 unfold yhs at h
 split at h
 ·obtain rfl:=Option.some.inj h;rfl
 ·cases h
theorem yhg {l:List (List UInt8)} (h:yhs l=none):l.length≠14:=fun e=>by
 obtain⟨w,hw⟩:=yv3 e
 rw [hw,z4r] at h
 cases h
def zyd (s:List UInt8):Lnt×Int:=
 match yhs (parts 32 s) with
 | some w=>yp2 w
 | none=>(ysv,25)
theorem yyl:∀(bs:List Bool),(∀b∈bs,b=true)->zxw bs=bs.length
 | [],_=>rfl
 | b::r,h=>by
  have hb:=h b (by simp)
  subst hb
  simp only [zxw,List.length_cons,yyl r fun b hb=>h b (List.mem_cons_of_mem _ hb)]
theorem ym9 {q:Rqt} (hq:yuj q):zlh (zqt q.da.toNat)/\yv5 (zqt q.da.toNat)=q.da:=by
 obtain⟨_,_,_,_,p5,p6⟩:=hq.per
 have:=yhd (m:=q.da.toNat) (by omega) (by omega) rfl
 refine⟨this.1,?_⟩
 unfold yv5
 rw [if_pos this.1,this.2]
 omega
set_option maxRecDepth 4000 in
theorem yn6 {l:Lnt} (h:zhn l=0):zxw (wOf l).fits=14/\(wOf l).line=l:=by
 obtain⟨ha,hq⟩:=zqk h
 obtain⟨p1,p2,p3,p4,p5,p6⟩:=hq.per
 obtain⟨m1,m2⟩:=ykq hq.mi
 obtain⟨k1,k2⟩:=ym9 hq
 obtain⟨d1,d2⟩:=z13 hq.te
 obtain⟨d3,d4⟩:=z13 hq.li
 constructor
 ·refine yyl _ ?_
  simp only [W14.fits,wOf,List.mem_cons,List.not_mem_nil,or_false,forall_eq_or_imp,forall_eq]
  exact⟨ha,hq.ca,hq.nm,hq.ki,hq.pa,zis _ _,zis _ _,decide_eq_true k1,decide_eq_true m1,zis _ _,zis _ _,zis _ _,d2,d4⟩
 ·have hm:ywk (yie l.rq.mi)=l.rq.mi:=by unfold ywk;rw [if_pos m1,m2]
  have n1:=zph (w:=5) (n:=l.rq.fr) (by omega) (by omega)
  have n2:=zph (w:=5) (n:=l.rq.to) (by omega) (by omega)
  have n3:=zph (w:=3) (n:=l.rq.se) hq.se.1 (by have:=hq.se.2;omega)
  have n4:=zph (w:=1) (n:=l.rq.si) (by have:=hq.si.1;omega) (by have:=hq.si.2;omega)
  have n5:=zph (w:=2) (n:=l.rq.no) hq.no.1 (by have:=hq.no.2;omega)
  obtain⟨ac,⟨nm,ca,ki,te,pa,li,fr,to,da,mi,se,si,no⟩⟩:=l
  simp only [W14.line,wOf] at *
  simp only [d1,d3,k2,hm,n1,n2,n3,n4,n5]
theorem yqa (l:Lnt):zlw l≠[]:=by simp [zlw]
theorem z5l {l:Lnt} (h:zhn l=0):parts 32 (zr3 l)=zlw l:=by
 obtain⟨ha,hq⟩:=zqk h
 exact zkg 32 _ (yqa l) fun w hw=>(zxh (yaj ha hq w hw)).1
theorem yg8 {l:Lnt} (h:zhn l=0):zyd (zr3 l)=(l,0):=by
 obtain⟨h1,h2⟩:=yn6 h
 unfold zyd
 rw [z5l h,<-yns,z4r]
 show yp2 (wOf l)=_
 unfold yp2
 rw [if_pos h1,h2,if_pos h]
theorem yl8 {l:Lnt} (h:zhn l=0):(10:UInt8)∉zr3 l:=by
 obtain⟨ha,hq⟩:=zqk h
 intro hm
 rcases zwy 32 _ _ hm with h|⟨w,hw,h⟩
 ·exact absurd h (by decide)
 ·exact(zxh (yaj ha hq w hw)).2 h
abbrev LL (ls:List Lnt):V:= .d (.list ls.length (ls.flatMap Lnt.cells))
def yar (a b:Rqt):Bool:=decide (a.ca=b.ca)&&decide (a.nm=b.nm)
def zjj:Option Lnt->Bool
 | some y=>decide (y.ac=[67])
 | none=>false
def zny (x:Lnt):Option Lnt->Bool
 | some y=>yar y.rq x.rq
 | none=>false
def lnE (kind:List UInt8) (p:Option Lnt) (x:Lnt):Int:=
 zap [zhn x,if ywy x.ac=kind then 0 else 18,if(zjj p||decide (x.ac=[82]))&& !(zjj p&&decide (x.ac=[82])&&zny x p) then 11 else 0]
def zfs (kind:List UInt8):Option Lnt->Nat->List Lnt->Nat×Int
 | p,i,[]=>if zjj p then(i-1,11) else(0,0)
 | p,i,x::r=>if lnE kind p x=0 then zfs kind (some x) (i+1) r else(i,lnE kind p x)
theorem zld {kind:List UInt8}:∀(ls:List Lnt) (p:Option Lnt) (i:Nat),(zfs kind p i ls).2=0->zfs kind p i ls=(0,0)/\∀x∈ls,zhn x=0
 | [],p,i,h=>by
  simp only [zfs] at h ⊢
  split at h
  ·cases h
  ·rename_i hn;rw [if_neg hn];exact⟨rfl,by simp⟩
 | x::r,p,i,h=>by
  simp only [zfs] at h ⊢
  split at h
  ·rename_i hz
   rw [if_pos hz]
   have ih:=zld r _ _ h
   refine⟨ih.1,fun y hy=> ?_⟩
   rcases List.mem_cons.1 hy with rfl|hy
   ·exact(zbq _).1 hz _ (by simp)
   ·exact ih.2 y hy
  ·rename_i hz;exact absurd h hz
structure Mst where
 (ki ai se:List UInt8)
 da:Int
 ls:List Lnt
def Mst.cells (m:Mst):List D:=[.str m.ki,.str m.ai,.str m.se,DI m.da,.list m.ls.length (m.ls.flatMap Lnt.cells)]
abbrev Msv (m:Mst):V:= .d (.agg m.cells)
def zhs:Mst:=⟨[],[],[],0,[]⟩
def zra (m:Mst):Int:=zap [if(!yba m.ki)=true then 13 else 0,ztm m.ai m.se m.da,if 64<m.ls.length then 5 else 0,(zfs m.ki none 0 m.ls).2]
structure ynz (m:Mst):Prop where
 ki:yba m.ki=true
 hd:ztm m.ai m.se m.da=0
 ln:m.ls.length<=64
 ok:(zfs m.ki none 0 m.ls).2=0
theorem znt {m:Mst}:zra m=0↔ynz m:=by
 unfold zra
 rw [zbq]
 simp only [List.mem_cons,List.not_mem_nil,or_false,forall_eq_or_imp,forall_eq]
 constructor
 ·rintro⟨h1,h2,h3,h4⟩
  refine⟨?_,h2,?_,h4⟩
  ·cases hb:yba m.ki with
   | true=>rfl
   | false=>rw [hb] at h1;simp at h1
  ·rcases Nat.lt_or_ge 64 m.ls.length with h|h
   ·rw [if_pos h] at h3;cases h3
   ·exact h
 ·rintro⟨h1,h2,h3,h4⟩
  exact⟨by rw [h1];rfl,h2,if_neg (by omega),h4⟩
abbrev yh8:List UInt8:=[83,76,79,84,83]
abbrev z71:List UInt8:=[69,78,68]
def zs0 (m:Mst):List UInt8:=zcg 32 [yh8,m.ki,m.ai,m.se,zdz 5 m.da]
def yor (n:Nat):List UInt8:=zcg 32 [z71,zdz 2 n]
def zmm (ls:List Lnt):List UInt8:=ls.flatMap fun l=>zr3 l++[10]
def yec (m:Mst):List UInt8:=(zs0 m++[10])++(zmm m.ls++(yor m.ls.length++[10]))
theorem zqp {ai se:List UInt8} {da:Int} (h:ztm ai se da=0):vis ai/\vis se/\ai.length<=24/\1<=ai.length/\se.length=5/\0<=da/\da<=99999:=by
 unfold ztm at h
 rw [zbq] at h
 simp only [List.mem_cons,List.not_mem_nil,or_false,forall_eq_or_imp,forall_eq] at h
 obtain⟨h1,h2,h3⟩:=h
 have hn:=zzn h1
 have hs:ygy se=true:=by
  cases hb:ygy se with
  | true=>rfl
  | false=>rw [hb] at h2;simp at h2
 have hr:=zcw.1 h3
 unfold ygy at hs
 simp only [Bool.and_eq_true,decide_eq_true_eq] at hs
 obtain⟨⟨hl,hc⟩,hd⟩:=hs
 refine⟨zqq hn,?_,zla hn,(of_decide_eq_true hn).1,hl,hr.1,hr.2⟩
 match se,hl with
 | [a,b,c,d,e],_=>
  have hd:=(of_decide_eq_true hd).2
  simp only [win,List.length_cons,List.length_nil,List.drop_succ_cons,List.drop_zero] at hd
  have hw:=zxf hd
  simp only [List.getD,List.getElem?_cons_zero,Option.getD_some] at hc
  intro x hx
  rcases List.mem_cons.1 hx with rfl|hx
  ·omega
  ·exact hw x hx
theorem ydf {s:List UInt8} (h:yba s=true):vis s/\s.length=3:=by
 simp only [yba,Bool.or_eq_true,decide_eq_true_eq] at h
 rcases h with rfl|rfl
 all_goals
  refine⟨fun x hx=> ?_,rfl⟩
  simp only [List.mem_cons,List.not_mem_nil,or_false] at hx
  rcases hx with rfl|rfl|rfl<;>decide
theorem ylt:vis yh8/\vis z71:=by
 constructor
 all_goals
  intro x hx
  simp only [List.mem_cons,List.not_mem_nil,or_false] at hx
  rcases hx with rfl|rfl|rfl|rfl|rfl<;>decide
theorem ya0 {m:Mst} (h:ynz m):∀w∈[yh8,m.ki,m.ai,m.se,zdz 5 m.da],vis w:=by
 obtain⟨h1,h2,_⟩:=zqp h.hd
 simp only [List.mem_cons,List.not_mem_nil,or_false,forall_eq_or_imp,forall_eq]
 exact⟨ylt.1,(ydf h.ki).1,h1,h2,zxf (zli _ _)⟩
theorem z2h {l:List (List UInt8)} (h:∀w∈l,vis w):(10:UInt8)∉zcg 32 l:=fun hm=>by
 rcases zwy 32 _ _ hm with h|⟨w,hw,h'⟩
 ·exact absurd h (by decide)
 ·exact(zxh (h w hw)).2 h'
theorem yfq (n:Nat):∀w∈[z71,zdz 2 n],vis w:=by
 simp only [List.mem_cons,List.not_mem_nil,or_false,forall_eq_or_imp,forall_eq]
 exact⟨ylt.2,zxf (zli _ _)⟩
theorem yd1 {l:Lnt} (h:zhn l=0):(zr3 l).length<=208:=by
 obtain⟨ha,hq⟩:=zqk h
 have h1:=ylc ha
 have h2:=zla hq.ca
 have h3:=zla hq.nm
 have h4:=zla hq.pa
 have h5:=yem hq.ki
 have h6:=zzk hq.te
 have h7:=zzk hq.li
 simp only [zr3,zlw,zcg,List.length_append,List.length_cons,zes,z1p,zxk]
 omega
theorem zxd:∀ls:List Lnt,(∀x∈ls,zhn x=0)->(zmm ls).length<=ls.length*209
 | [],_=>by simp [zmm]
 | l::ls,h=>by
  have ih:=zxd ls fun x hx=>h x (List.mem_cons_of_mem _ hx)
  have hl:=yd1 (h l (by simp))
  simp only [zmm,List.flatMap_cons,List.length_append,List.length_cons,List.length_nil] at ih ⊢
  omega
theorem z87 {m:Mst} (h:ynz m):23<=(zs0 m).length/\(zs0 m).length<=46:=by
 obtain⟨_,_,h3,h4,h5,_,_⟩:=zqp h.hd
 have h6:=(ydf h.ki).2
 simp only [zs0,zcg,List.length_append,List.length_cons,List.length_nil,zes]
 omega
theorem ypb (n:Nat):(yor n).length=6:=by simp [yor,zcg,zes]
theorem yr4 {m:Mst} (h:ynz m):24<=(yec m).length/\(yec m).length<=m.ls.length*209+54:=by
 have h1:=z87 h
 have h2:=zxd m.ls (zld _ _ _ h.ok).2
 have h3:=ypb m.ls.length
 simp only [yec,List.length_append,List.length_cons,List.length_nil]
 omega
def zq3 (p:List UInt8):Option Mst:=
 match parts 32 (zqd p) with
 | [w0,w1,w2,w3,w4]=>if zgx p=true/\w0=yh8/\yba w1=true/\z27 w4 5=true/\ztm w2 w3 (zl2 0 w4)=0 then some ⟨w1,w2,w3,zl2 0 w4,[]⟩ else none
 | _=>none
def zjo (m:Mst) (i:Nat):List (List UInt8)->Mst×Nat×Int
 | []=>(zhs,i,28)
 | p::r=>
  if zgx p=false then(zhs,i,25)
  else if(parts 32 (zqd p)).head? ≠some z71 then
   (if(zyd (zqd p)).2≠0 then(zhs,i,(zyd (zqd p)).2)
   else if 64<=m.ls.length then(zhs,i,5)
   else zjo {m with ls:=m.ls++[(zyd (zqd p)).1]} (i+1) r)
  else
   match parts 32 (zqd p) with
   | [_,x]=>
    if z27 x 2=false then(zhs,i,25)
    else if zl2 0 x≠m.ls.length then(zhs,i,27)
    else if r≠[] then(zhs,i+1,25)
    else if(zfs m.ki none 0 m.ls).2≠0 then(zhs,(zfs m.ki none 0 m.ls).1+1,(zfs m.ki none 0 m.ls).2)
    else(m,0,0)
   | _=>(zhs,i,25)
def zkw (s:List UInt8):Mst×Nat×Int:=
 if 16384<s.length then(zhs,0,26) else
 match pcs s with
 | []=>(zhs,0,28)
 | p::r=>
  match zq3 p with
  | none=>(zhs,0,25)
  | some m=>zjo m 1 r
theorem z9w (t:List UInt8):∀ls:List Lnt,(∀x∈ls,zhn x=0)->pcs (zmm ls++t)=(ls.map fun l=>zr3 l++[10])++pcs t
 | [],_=>rfl
 | l::ls,h=>by
  have ih:=z9w t ls fun x hx=>h x (List.mem_cons_of_mem _ hx)
  have e:zmm (l::ls)++t=zr3 l++10::(zmm ls++t):=by simp [zmm]
  rw [e,z0p _ _ (yl8 (h l (by simp))),ih]
  rfl
theorem yty {m:Mst} (h:ynz m) (t:List UInt8):pcs (yec m++t)=(zs0 m++[10])::((m.ls.map fun l=>zr3 l++[10])++((yor m.ls.length++[10])::pcs t)):=by
 have e:yec m++t=zs0 m++10::(zmm m.ls++(yor m.ls.length++10::t)):=by simp [yec]
 have n1:(10:UInt8)∉zs0 m:=z2h (ya0 h)
 have n2:(10:UInt8)∉yor m.ls.length:=z2h (yfq _)
 rw [e,z0p _ _ n1,z9w _ _ (zld _ _ _ h.ok).2,z0p _ _ n2]
theorem ylz {l:Lnt} (h:zhn l=0):(parts 32 (zr3 l)).head? =some l.ac/\l.ac≠z71:=by
 rw [z5l h]
 refine⟨rfl,fun e=> ?_⟩
 have:=(zqk h).1
 rw [e] at this
 exact absurd this (by decide)
theorem zxo (rest:List (List UInt8)):∀(ls:List Lnt) (m:Mst) (i:Nat),(∀x∈ls,zhn x=0)->m.ls.length+ls.length<=64->zjo m i ((ls.map fun l=>zr3 l++[10])++rest)=zjo {m with ls:=m.ls++ls} (i+ls.length) rest
 | [],m,i,_,_=>by simp
 | l::ls,m,i,h,hn=>by
  have hl:=h l (by simp)
  have hh:=ylz hl
  simp only [List.length_cons] at hn
  have ih:=zxo rest ls {m with ls:=m.ls++[l]} (i+1) (fun x hx=>h x (List.mem_cons_of_mem _ hx)) (by simp;omega)
  simp only [List.map_cons,List.cons_append]
  rw [zjo,(zfy _).1,(zfy _).2,if_neg (by decide),if_pos (by rw [hh.1];simpa using hh.2),yg8 hl,if_neg (by simp),if_neg (by omega),ih]
  simp only [List.append_assoc,List.cons_append,List.nil_append,List.length_cons]
  rw [show i+1+ls.length=i+(ls.length+1) by omega]
theorem yjz {m:Mst} (h:ynz m):zq3 (zs0 m++[10])=some ⟨m.ki,m.ai,m.se,m.da,[]⟩:=by
 obtain⟨_,_,_,_,_,d1,d2⟩:=zqp h.hd
 unfold zq3
 rw [(zfy _).1,(zfy _).2,zs0,zkg 32 _ (by simp) fun w hw=>(zxh (ya0 h w hw)).1]
 have hv:=ztq 5 m.da d1 (by omega)
 simp only [hv,h.ki,zis,h.hd,and_self,if_true]
theorem yh1 {m:Mst} (h:ynz m) (hl:(yec m).length<=16384):zkw (yec m)=(m,0,0):=by
 have hp:=yty h []
 rw [List.append_nil,z6c] at hp
 have hz:=zld _ _ _ h.ok
 have hn:=h.ln
 have he:parts 32 (yor m.ls.length)=[z71,zdz 2 m.ls.length]:=zkg 32 _ (by simp) fun w hw=>(zxh (yfq _ w hw)).1
 have hv:=ztq 2 (m.ls.length:Int) (by omega) (by omega)
 unfold zkw
 rw [if_neg (by omega),hp]
 simp only [yjz h]
 rw [zxo _ _ _ _ hz.2 (by simpa using hn)]
 simp only [List.nil_append]
 rw [zjo,(zfy _).1,(zfy _).2,if_neg (by decide),he,if_neg (by simp)]
 simp only [zis,hv,hz.1]
 simp
theorem z9l {p:List UInt8} {m:Mst} (h:zq3 p=some m):m.ls=[]/\yba m.ki=true/\ztm m.ai m.se m.da=0/\zs0 m++[10]=p:=by
 unfold zq3 at h
 split at h
 ·rename_i w0 w1 w2 w3 w4 he
  split at h
  ·rename_i hc
   obtain⟨c1,c2,c3,c4,c5⟩:=hc
   obtain rfl:=Option.some.inj h
   refine⟨rfl,c3,c5,?_⟩
   have hb:=of_decide_eq_true c4
   have hw:=yap 5 w4 hb.1 hb.2
   have hj:=zp0 32 (zqd p)
   rw [he,c2] at hj
   unfold zs0
   simp only [hw,hj]
   exact(yeo c1).symm
  ·cases h
 ·cases h
theorem ycg (a:List Lnt) (l:Lnt):zmm (a++[l])=zmm a++(zr3 l++[10]):=by simp [zmm]
end Go.Proofs.YthmfkkpmjcbgeabGreatDoor.Co
