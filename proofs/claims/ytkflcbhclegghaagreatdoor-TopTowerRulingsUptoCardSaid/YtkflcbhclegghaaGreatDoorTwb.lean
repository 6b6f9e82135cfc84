/-
  TopTowerRulings: what its law leans on, part 2.
-/
import Derived.Laws.RangeAny
import Derived.Lib.SplitLaws
import Derived.Test.YtkflcbhclegghaaGreatDoorEvX
import Derived.Test.YtkflcbhclegghaaGreatDoorEvY
import Derived.Test.YtkflcbhclegghaaGreatDoorRead
import Derived.Test.YtkflcbhclegghaaGreatDoorSpBase
import Derived.Test.YtkflcbhclegghaaGreatDoorTwa
namespace Go.Proofs.YtkflcbhclegghaaGreatDoor.Co
open Go Go.Evl
structure Tot(n:Nat)(lt:Int->Int->Bool):Prop where
 irr:∀a:Int,lt a a=false
 tr:∀a b c:Int,a∈idL n->b∈idL n->c∈idL n->lt a b=true->lt b c=true->lt a c=true
 tot:∀a b:Int,a∈idL n->b∈idL n->a≠b->lt a b=false->lt b a=true
structure Srt(n:Nat)(lt:Int->Int->Bool)(l:List Int):Prop where
 pm:l.Perm (idL n)
 up:l.Pairwise λa b=>lt a b=true
theorem Srt.len{n:Nat}{lt:Int->Int->Bool}{l:List Int}(h:Srt n lt l):l.length=n:=by
 rw[h.pm.length_eq,z7o]
theorem Srt.mem{n:Nat}{lt:Int->Int->Bool}{l:List Int}(h:Srt n lt l){k:Nat}(hk:k<l.length):l[k]∈idL n:=h.pm.mem_iff.1 (List.getElem_mem hk)
structure Ins(lt:Int->Int->Bool)(s:List Int)(x:Int)(p q:List Int):Prop where
 eq:p++q=s
 lo:∀y∈q,lt x y=true
theorem Ins.start{lt:Int->Int->Bool}(s:List Int)(x:Int):Ins lt s x s []:=⟨by simp,by simp⟩
theorem Ins.step{lt:Int->Int->Bool}{s p q:List Int}{x y:Int}(h:Ins lt s x (p++[y]) q)(hy:lt x y=true):Ins lt s x p (y::q):=by
 refine⟨by rw[<-h.eq];simp,λz hz=>?_⟩
 rcases List.mem_cons.1 hz with rfl|hz
 ·exact hy
 exact h.lo z hz
theorem Ins.done{n:Nat}{lt:Int->Int->Bool}{s p q:List Int}{x:Int}(t:Tot n lt)(hs:s.Pairwise λa b=>lt a b=true)(hm:∀y∈s,y∈idL n)(hx:x∈idL n)(hn:x∉s)(h:Ins lt s x p q)
  (he:p=[]\/∃p' y,p=p'++[y]/\lt x y=false):(p++x::q).Pairwise λa b=>lt a b=true:=by
 obtain⟨rfl,lo⟩:=h;have h0:=List.pairwise_append.1 hs;refine List.pairwise_append.2 ⟨h0.1,List.pairwise_cons.2 ⟨lo,h0.2.1⟩,λa ha b hb=>?_⟩
 rcases List.mem_cons.1 hb with rfl|hb
 ·rcases he with rfl|⟨p',y,rfl,hy⟩
  ·cases ha
  have hym:y∈idL n:=hm y (by simp);have hyx:lt y b=true:=t.tot b y hx hym (λe=>hn (by subst e;simp)) hy
  rcases List.mem_append.1 ha with ha|ha
  ·have hay:lt a y=true:=(List.pairwise_append.1 h0.1).2.2 a ha y (by simp);exact t.tr a y b (hm a (by simp[ha])) hym hx hay hyx
  rw[List.mem_singleton.1 ha];exact hyx
 exact h0.2.2 a ha b hb
theorem zk0:∀s:List UInt8,zal s s=false
 |[]=>rfl
 |a::r=>by simp[zal,zk0 r]
theorem zuq{a b:UInt8}{x y:List UInt8}:zal (a::x) (b::y)=true↔a<b\/(a=b/\zal x y=true):=by
 simp[zal]
theorem zlv:∀{a b c:List UInt8},zal a b=true->zal b c=true->zal a c=true
 |_,_,[],_,h=>by simp[zal]at h
 |_,[],_::_,h,_=>by simp[zal]at h
 |[],_::_,_::_,_,_=>rfl
 |x::a,y::b,z::c,h1,h2=>by
  rw[zuq]at h1 h2⊢
  rcases h1 with h1|⟨rfl,h1⟩
  ·rcases h2 with h2|⟨rfl,_⟩
   ·exact .inl (UInt8.lt_trans h1 h2)
   exact .inl h1
  rcases h2 with h2|⟨rfl,h2⟩
  ·exact .inl h2
  exact .inr ⟨rfl,zlv h1 h2⟩
theorem z5w:∀{a b:List UInt8},a≠b->zal a b=false->zal b a=true
 |[],[],h,_=>absurd rfl h
 |[],_::_,_,h=>by simp[zal]at h
 |_::_,[],_,_=>rfl
 |x::a,y::b,h,h2=>by
  rw[zuq];have hn:¬(x<y\/(x=y/\zal a b=true)):=λhc=>by rw[zuq.2 hc]at h2;cases h2
  by_cases e:x=y
  ·subst e;refine .inr ⟨rfl,z5w (λhc=>h (by rw[hc])) ?_⟩;cases hc:zal a b with
   |false=>rfl
   |true=>exact absurd (.inr ⟨rfl,hc⟩) hn
  left;have h3:¬x<y:=λhc=>hn (.inl hc)
  rcases UInt8.lt_or_lt_of_ne e with h4|h4
  ·exact absurd h4 h3
  exact h4
def yqp(a b:List UInt8):Int:=if zal a b=true then -1 else if a=b then 0 else 1
def ywy(a b:Int):Int:=if a<b then -1 else if b<a then 1 else 0
theorem Wr.u64{x:Int}{K:Int->Prop}(k:K x)(h:0<=x/\x<=1000000:=by omega):Wr .u64 x K:=⟨by
 have:IntKind.u64.wrap x=x:=by
  simp only[IntKind.wrap,IntKind.signed,IntKind.bits];simp;omega
 rw[this]
 exact k⟩
section
variable{E:Oracle}(g:Good E)
include g
theorem yud(a b:List UInt8):Fc E zgw [S a,S b] (I (yqp a b)):=by
 have h1:=yjw g a;have h2:=yjw g b;refine g.fn rfl rfl ?_;unfold yqp
 by_cases h:a=b
 ·subst h;have hu:=zk0 a;have he:(a==a)=true:=beq_self_eq_true a;rw[hu,if_neg (by decide),if_pos rfl]
  repeat'((conv=>whnf);first|refine Yz ?_|(apply zaf.of;assumption)|rw[hu]|rw[he]|(refine Ret.mk rfl))
 have he:(a==b)=false:=beq_eq_false_iff_ne.2 h;rw[if_neg h]
 cases hu:zal a b
 ·rw[if_neg (by decide)]
  repeat'((conv=>whnf);first|refine Yz ?_|(apply zaf.of;assumption)|rw[hu]|rw[he]|(refine Ret.mk rfl))
 rw[if_pos rfl]
 repeat'((conv=>whnf);first|refine Yz ?_|(apply zaf.of;assumption)|rw[hu]|(refine Ret.mk rfl))
theorem yjr(a b:Int):Fc E zbx [I a,I b] (I (ywy a b)):=by
 have h1:=yjv g a;have h2:=yjv g b;refine g.fn rfl rfl ?_;unfold ywy
 rcases Int.lt_trichotomy a b with h|h|h
 ·rw[if_pos h]
  repeat'((conv=>whnf);first|refine Yz ?_|(apply zaf.of;assumption)|(refine Ret.mk rfl))
 ·rw[if_neg (by omega),if_neg (by omega)]
  repeat'((conv=>whnf);first|refine Yz ?_|(apply zaf.of;assumption)|(refine Ret.mk rfl))
 rw[if_neg (by omega),if_pos h]
 repeat'((conv=>whnf);first|refine Yz ?_|(apply zaf.of;assumption)|(refine Ret.mk rfl))
theorem yyh:∀n:Nat,n<=12->∃r,Fc E zlo [.d (.int .u64 n)] (I r)
 |0,_=>⟨0,g.compR 100 (by decide+kernel)⟩
 |1,_=>⟨1,g.compR 100 (by decide+kernel)⟩
 |2,_=>⟨2,g.compR 100 (by decide+kernel)⟩
 |3,_=>⟨2,g.compR 100 (by decide+kernel)⟩
 |4,_=>⟨3,g.compR 100 (by decide+kernel)⟩
 |5,_=>⟨3,g.compR 100 (by decide+kernel)⟩
 |6,_=>⟨3,g.compR 100 (by decide+kernel)⟩
 |7,_=>⟨3,g.compR 100 (by decide+kernel)⟩
 |8,_=>⟨4,g.compR 100 (by decide+kernel)⟩
 |9,_=>⟨4,g.compR 100 (by decide+kernel)⟩
 |10,_=>⟨4,g.compR 100 (by decide+kernel)⟩
 |11,_=>⟨4,g.compR 100 (by decide+kernel)⟩
 |12,_=>⟨4,g.compR 100 (by decide+kernel)⟩
 |n+13,h=>absurd h (by omega)
end
end Go.Proofs.YtkflcbhclegghaaGreatDoor.Co
