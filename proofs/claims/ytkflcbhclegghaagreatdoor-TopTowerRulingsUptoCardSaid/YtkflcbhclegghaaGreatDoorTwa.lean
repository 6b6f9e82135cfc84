/-
  TopTowerRulings: what its law leans on, part 1.
-/
import Derived.Laws.RangeAny
import Derived.Lib.SplitLaws
import Derived.Test.YtkflcbhclegghaaGreatDoorEvX
import Derived.Test.YtkflcbhclegghaaGreatDoorEvY
import Derived.Test.YtkflcbhclegghaaGreatDoorRead
import Derived.Test.YtkflcbhclegghaaGreatDoorSpBase
namespace Go.Proofs.YtkflcbhclegghaaGreatDoor.Co
open Go Go.Evl
set_option maxHeartbeats 32000000
set_option maxRecDepth 100000
def rng(n a b:Int):Int:=if n<a\/b<n then 3 else 0
def zar:List Int->Int
 |[]=>0
 |x::r=>if x=0 then zar r else x
theorem zb2:∀l:List Int,zar l=0↔∀x∈l,x=0
 |[]=>by simp[zar]
 |x::r=>by
  simp only[zar,List.mem_cons,forall_eq_or_imp]
  split
  ·rename_i h;rw[zb2 r];exact⟨λhr=>⟨h,hr⟩,λhr=>hr.2⟩
  rename_i h;exact⟨λhr=>absurd hr h,λhr=>absurd hr.1 h⟩
theorem yo3(n a b:Int):0<=rng n a b/\rng n a b<=3:=by unfold rng;split<;>omega
theorem zib{n a b:Int}:rng n a b=0↔a<=n/\n<=b:=by unfold rng;split<;>omega
section
variable{E:Oracle}(g:Good E)
include g
theorem yuj(b:Bool)(e:Int):Fc E ziz [B b,I e] (I (if b then e else 0)):=by
 refine g.fn rfl rfl ?_;cases b
 all_goals repeat'((conv=>whnf);first|refine Yz ?_|(refine Ret.mk rfl))
theorem yjy(n a b:Int):Fc E zjg [I n,I a,I b] (I (rng n a b)):=by
 refine g.fn rfl rfl ?_
 repeat'((conv=>whnf);first|refine Yz ?_|(refine Cmp.mk (λh=>?_) (λh=>?_))|(refine Rem.any (by omega) (λr hr he=>?_))|(refine Br.mk (λh=>?_) (λh=>?_))|refine zaf.of (yuj g _ _) ?_|(refine Ret.mk ?_))
 all_goals(simp only[V.d.injEq,D.int.injEq,true_and,rng];simp_all)
omit g in
theorem zsk(l:List Int)(k:Nat)(h:k<l.length):zar (l.drop k)=if l.getD k 0=0 then zar (l.drop (k+1))else l.getD k 0:=by
 rw[List.drop_eq_getElem_cons h];simp[zar,List.getD,h]
theorem ypd(l:List Int)(hl:l.length<=140737488355328):Fc E zd4 [LI l] (I (zar l)):=by
 refine g.fn rfl rfl ?_
 conv=>whnf
 refine zab.upP g (λk=>[(5,LI l),(6,I l.length),(7,I k)]) (λ_=>[]) (λk=>zar l=zar (l.drop k)) l.length (λk hk hp ih=>?_) 0 (Nat.zero_le _) (by simp)
 by_cases hlt:k<l.length
 ·have hd:=zsk l k hlt
  repeat'((conv=>whnf);first|refine Yz ?_|refine zgp.int (by omega) ?_|(refine Cmp.mk (λh=>?_) (λh=>?_))|(refine Rem.any (by omega) (λr hr he=>?_))|(refine Br.mk (λh=>?_) (λh=>?_))|refine zab.to (ih hlt ?_) ?_ rfl|(refine Ret.mk ?_))
  all_goals simp_all
 have:l.drop k=[]:=List.drop_eq_nil_of_le (by omega)
 repeat'((conv=>whnf);first|refine Yz ?_|(refine Ret.mk ?_))
 simp[hp,this,zar]
theorem yjt(a b:Int):Fc E zd4 [.d (.list 2 [DI a,DI b])] (I (zar [a,b])):=ypd g [a,b] (by simp)
theorem ysu(a b c:Int):Fc E zd4 [.d (.list 3 [DI a,DI b,DI c])] (I (zar [a,b,c])):=ypd g [a,b,c] (by simp)
theorem z8n(n:Int):Fc E zfn [I n] (I (rng n 0 99999)):=by
 refine g.fn rfl rfl ?_
 repeat'((conv=>whnf);first|refine Yz ?_|refine zaf.of (yjy g _ _ _) ?_|(refine Ret.mk rfl))
theorem zuk(n a b:Int):Fc E zdc [I n,I a,I b] (I (rng n a b)):=by
 refine g.fn rfl rfl ?_
 repeat'((conv=>whnf);first|refine Yz ?_|(refine Cmp.mk (λh=>?_) (λh=>?_))|(refine Rem.any (by omega) (λr hr he=>?_))|(refine Br.mk (λh=>?_) (λh=>?_))|(refine Ret.mk ?_))
 all_goals(simp only[V.d.injEq,D.int.injEq,true_and,rng];simp_all)
theorem ylh(n:Int):Fc E zkk [I n] (I (rng n 0 99999)):=by
 refine g.fn rfl rfl ?_
 repeat'((conv=>whnf);first|refine Yz ?_|refine zaf.of (zuk g _ _ _) ?_|(refine Ret.mk rfl))
theorem yv0(l:List Int)(hl:l.length<=140737488355328):Fc E zn9 [LI l] (I (zar l)):=by
 refine g.fn rfl rfl ?_
 conv=>whnf
 refine zab.upP g (λk=>[(0,LI l),(3,I k)]) (λ_=>[]) (λk=>zar l=zar (l.drop k)) l.length (λk hk hp ih=>?_) 0 (Nat.zero_le _) (by simp)
 by_cases hlt:k<l.length
 ·have hd:=zsk l k hlt
  repeat'((conv=>whnf);first|refine Yz ?_|refine zgp.int (by omega) ?_|(refine Cmp.mk (λh=>?_) (λh=>?_))|(refine Rem.any (by omega) (λr hr he=>?_))|(refine Br.mk (λh=>?_) (λh=>?_))|refine zab.to (ih hlt ?_) ?_ rfl|(refine Ret.mk ?_))
  all_goals simp_all
 have:l.drop k=[]:=List.drop_eq_nil_of_le (by omega)
 repeat'((conv=>whnf);first|refine Yz ?_|(refine Ret.mk ?_))
 simp[hp,this,zar]
omit g in
def ziv(f t d:Int):Int:=if f<0\/99999<f\/t<0\/99999<t then 3 else if t<f then 11 else if 400<t-f then 4 else rng d 1 127
omit g in
theorem zfl{f t d:Int}:ziv f t d=0↔0<=f/\f<=t/\t<=99999/\t-f<=400/\1<=d/\d<=127:=by
 unfold ziv rng
 repeat' split
 all_goals omega
omit g in
theorem ytj(f t:Int):zar [rng f 0 99999,rng t 0 99999]=0↔(0<=f/\f<=99999/\0<=t/\t<=99999):=by
 simp only[zar];unfold rng
 repeat' split
 all_goals omega
omit g in
theorem ywr(f t:Int)(h:zar [rng f 0 99999,rng t 0 99999]≠0):zar [rng f 0 99999,rng t 0 99999]=3:=by
 simp only[zar]at h⊢;unfold rng at h⊢
 repeat' split
 all_goals(try omega)
 all_goals simp_all
theorem zod(f t d:Int):Fc E zde [Per f t d] (I (ziv f t d)):=by
 refine g.fn rfl rfl ?_;have k1:=ytj f t;have k2:=ywr f t;have k3:=yo3 d 1 127
 repeat'((conv=>whnf);first|refine Yz ?_|refine zaf.of (z8n g _) ?_|refine zaf.of (yjt g _ _) ?_|refine zaf.of (yuj g _ _) ?_|refine zaf.of (yjy g _ _ _) ?_|refine zaf.of (ysu g _ _ _) ?_|(refine Cmp.mk (λh=>?_) (λh=>?_))|(refine Rem.any (by omega) (λr hr he=>?_))|(refine Br.mk (λh=>?_) (λh=>?_))|(refine Ret.mk ?_))
 all_goals(simp only[V.d.injEq,D.int.injEq,true_and,ziv])
 all_goals first|(rw[if_pos (by omega)];omega)|(simp[zar];repeat' split;all_goals omega)
theorem zss(f t d:Int):Fc E zfq [Per f t d] (I (ziv f t d)):=by
 refine g.fn rfl rfl ?_;have k1:=@zib f 0 99999;have k2:=@zib t 0 99999
 repeat'((conv=>whnf);first|refine Yz ?_|refine zaf.of (ylh g _) ?_|refine zaf.of (zuk g _ _ _) ?_|(refine Cmp.mk (λh=>?_) (λh=>?_))|(refine Rem.any (by omega) (λr hr he=>?_))|(refine Br.mk (λh=>?_) (λh=>?_))|(refine Ret.mk ?_))
 all_goals(simp only[V.d.injEq,D.int.injEq,true_and,ziv])
 all_goals(repeat' split)
 all_goals first|rfl|omega
omit g in
def inM(m w:Int):Bool:=decide (m/2^w.toNat%2=1)
theorem ysg(m w:Int)(hm:0<=m/\m<=127)(hw:0<=w/\w<=6):Fc E zqy [I m,I w] (B (inM m w)):=by
 refine g.fn rfl rfl ?_
 conv=>whnf
 refine zab.to (zab.up g (λk=>[(0,I (m/2^k)),(1,I w),(5,I k)]) (λ_=>[]) w.toNat (λk hk ih=>?_) 0 (Nat.zero_le _)) ?_ rfl
 ·have h0:0<=m/2^k:=Int.ediv_nonneg hm.1 (Int.pow_nonneg (by decide));have h1:m/2^k<=m:=Int.ediv_le_self _ hm.1;have h2:m/2^k/2=m/2^(k+1):=by rw[Int.pow_succ,Int.ediv_ediv_of_nonneg (Int.pow_nonneg (by decide))]
  by_cases hlt:k<w.toNat
  ·repeat'((conv=>whnf);first|refine Yz ?_|refine zab.to (ih hlt) ?_ rfl|(refine Ret.mk ?_))
   simp[h2]
  have:k=w.toNat:=by omega
  subst this
  repeat'((conv=>whnf);first|refine Yz ?_|(refine Cmp.mk (λh=>?_) (λh=>?_))|(refine Rem.any (by omega) (λr hr he=>?_))|(refine Br.mk (λh=>?_) (λh=>?_))|(refine Ret.mk ?_))
  all_goals simp_all[inM]
 simp
end
theorem ymo.at{s:List UInt8}{i:Nat}{K:UInt8->Prop}(k:Nat)(hi:i=k)(h:k<s.length)(hk:K (s.getD k 0)):ymo s i K:=by
 subst hi;exact⟨⟨_,by simp[List.getD,h],hk⟩⟩
theorem z2z.asc{s:List UInt8}{k:Nat}{a:Int->Nat->Prop}{b:Prop}(h:k<s.length)(ha:(s.getD k 0).toNat<128)(hk:a (s.getD k 0).toNat 1):z2z s k a b:=by
 refine⟨λ_=>?_,λhn=>absurd h hn⟩;have e:(s.getD k 0)=s[k]:=by simp[List.getD,h]
 have hd:=decode_ascii ⟨s.toArray⟩ k (by simpa[ByteArray.size]using h) (by rw[e]at ha;exact ha);rw[hd];rw[e]at hk;exact hk
theorem z2z.high{s:List UInt8}{k:Nat}{a:Int->Nat->Prop}{b:Prop}(h:k<s.length)(ha:128<=(s.getD k 0).toNat)(hk:∀(c:Int)(w:Nat),128<=c->1<=w->a c w):z2z s k a b:=by
 refine⟨λ_=>?_,λhn=>absurd h hn⟩;have e:(s.getD k 0)=s[k]:=by simp[List.getD,h]
 have hd:=decode_high ⟨s.toArray⟩ k (by simpa[ByteArray.size]using h) (by rw[e]at ha;exact ha);exact hk _ _ (by omega) hd.2
theorem z2z.end'{s:List UInt8}{k:Nat}{a:Int->Nat->Prop}{b:Prop}(h:s.length<=k)(hk:b):z2z s k a b:=⟨λhn=>absurd hn (by omega),λ_=>hk⟩
def yf6(k:Nat)(b:UInt8):Prop:=(65<=b.toNat/\b.toNat<=90)\/(97<=b.toNat/\b.toNat<=122)\/(0<k/\(b.toNat=95\/(48<=b.toNat/\b.toNat<=57)))
instance(k:Nat)(b:UInt8):Decidable (yf6 k b):=by unfold yf6;infer_instance
def yvn(s:List UInt8):Prop:=0<s.length/\s.length<=24/\∀i,i<s.length->yf6 i (s.getD i 0)
instance(s:List UInt8):Decidable (yvn s):=by unfold yvn;infer_instance
def zcd(s:List UInt8):Bool:=decide (yvn s)
theorem z4o{s:List UInt8}{k:Nat}(hk:k<s.length)(h:¬yf6 k (s.getD k 0)):zcd s=false:=decide_eq_false λhn=>h (hn.2.2 k hk)
section
variable{E:Oracle}(g:Good E)
include g
theorem zvd(s:List UInt8):Fc E zdo [S s] (B (zcd s)):=by
 refine g.fn rfl rfl ?_
 by_cases h0:0<s.length/\s.length<=24
 ·repeat'((conv=>whnf);first|refine Yz ?_)
  refine zab.to (zab.upP g (λ_=>[(15,.it ⟨0,15,0⟩)]) (λk=>[(⟨0,15,0⟩,.iter s k)]) (λk=>∀i,i<k->yf6 i (s.getD i 0)) s.length (λk hk hp ih=>?_) 0 (Nat.zero_le _) (λi hi=>by omega)) rfl rfl
  by_cases hlt:k<s.length
  ·by_cases ha:(s.getD k 0).toNat<128
   ·by_cases hok:yf6 k (s.getD k 0)
    ·have hp':∀i,i<k+1->yf6 i (s.getD i 0):=λi hi=>by
      by_cases e:i=k
      ·subst e;exact hok
      exact hp i (by omega)
     have ih:=ih hlt hp';unfold yf6 at hok
     repeat'((conv=>whnf);first|refine Yz ?_|refine z2z.asc hlt ha ?_|(refine Cmp.mk (λh=>?_) (λh=>?_))|(refine Rem.any (by omega) (λr hr he=>?_))|(refine Br.mk (λh=>?_) (λh=>?_))|refine zab.to ih rfl rfl|(exfalso;omega))
    have hno:=z4o hlt hok;unfold yf6 at hok;rw[hno]
    repeat'((conv=>whnf);first|refine Yz ?_|refine z2z.asc hlt ha ?_|(refine Cmp.mk (λh=>?_) (λh=>?_))|(refine Rem.any (by omega) (λr hr he=>?_))|(refine Br.mk (λh=>?_) (λh=>?_))|refine Ret.mk rfl|(exfalso;omega))
   have hno:zcd s=false:=z4o hlt (by unfold yf6;omega);rw[hno]
   repeat'((conv=>whnf);first|refine Yz ?_|refine z2z.high hlt (by omega) (λc w hc hw=>?_)|(refine Cmp.mk (λh=>?_) (λh=>?_))|(refine Rem.any (by omega) (λr hr he=>?_))|(refine Br.mk (λh=>?_) (λh=>?_))|refine Ret.mk rfl|(exfalso;omega))
  have hk':k=s.length:=by omega
  subst hk';have hyes:zcd s=true:=decide_eq_true ⟨h0.1,h0.2,hp⟩;rw[hyes]
  repeat'((conv=>whnf);first|refine Yz ?_|refine z2z.end' (Nat.le_refl _) ?_|(refine Ret.mk rfl))
 have hno:zcd s=false:=decide_eq_false λhn=>h0 ⟨hn.1,hn.2.1⟩
 rw[hno]
 repeat'((conv=>whnf);first|refine Yz ?_|(refine Cmp.mk (λh=>?_) (λh=>?_))|(refine Rem.any (by omega) (λr hr he=>?_))|(refine Br.mk (λh=>?_) (λh=>?_))|refine Ret.mk rfl|(exfalso;omega))
theorem zva(s:List UInt8):Fc E ze8 [S s] (B (zcd s)):=by
 refine g.fn rfl rfl ?_
 by_cases h0:0<s.length/\s.length<=24
 ·repeat'((conv=>whnf);first|refine Yz ?_)
  refine zab.to (zab.upP g (λk=>[(0,S s),(3,I k)]) (λ_=>[]) (λk=>∀i,i<k->yf6 i (s.getD i 0)) s.length (λk hk hp ih=>?_) 0 (Nat.zero_le _) (λi hi=>by omega)) rfl rfl
  by_cases hlt:k<s.length
  ·by_cases hok:yf6 k (s.getD k 0)
   ·have hp':∀i,i<k+1->yf6 i (s.getD i 0):=λi hi=>by
     by_cases e:i=k
     ·subst e;exact hok
     exact hp i (by omega)
    have ih:=ih hlt hp';unfold yf6 at hok
    repeat'((conv=>whnf);first|refine Yz ?_|(refine ymo.at k (by omega) hlt ?_)|(refine Cmp.mk (λh=>?_) (λh=>?_))|(refine Rem.any (by omega) (λr hr he=>?_))|(refine Br.mk (λh=>?_) (λh=>?_))|refine zab.to ih rfl rfl|(exfalso;omega))
   have hno:=z4o hlt hok;unfold yf6 at hok;rw[hno]
   repeat'((conv=>whnf);first|refine Yz ?_|(refine ymo.at k (by omega) hlt ?_)|(refine Cmp.mk (λh=>?_) (λh=>?_))|(refine Rem.any (by omega) (λr hr he=>?_))|(refine Br.mk (λh=>?_) (λh=>?_))|refine Ret.mk rfl|(exfalso;omega))
  have hk':k=s.length:=by omega
  subst hk';have hyes:zcd s=true:=decide_eq_true ⟨h0.1,h0.2,hp⟩;rw[hyes]
  repeat'((conv=>whnf);first|refine Yz ?_|(refine Ret.mk rfl))
 have hno:zcd s=false:=decide_eq_false λhn=>h0 ⟨hn.1,hn.2.1⟩
 rw[hno]
 repeat'((conv=>whnf);first|refine Yz ?_|(refine Cmp.mk (λh=>?_) (λh=>?_))|(refine Rem.any (by omega) (λr hr he=>?_))|(refine Br.mk (λh=>?_) (λh=>?_))|refine Ret.mk rfl|(exfalso;omega))
end
def dig(n:Int):UInt8:=UInt8.ofNat (48+n.toNat)
section
variable{E:Oracle}(g:Good E)
include g
theorem ygm(n:Int)(h:0<=n/\n<=9):Fc E zoa [I n] (S [dig n]):=by
 refine g.fn rfl rfl ?_;have hc:n=0\/n=1\/n=2\/n=3\/n=4\/n=5\/n=6\/n=7\/n=8\/n=9:=by omega
 rcases hc with rfl|rfl|rfl|rfl|rfl|rfl|rfl|rfl|rfl|rfl
 all_goals repeat'((conv=>whnf);first|refine Yz ?_|refine zom.mk (by decide) ?_|(refine Ret.mk rfl))
end
section
variable{E:Oracle}(g:Good E)
include g
theorem yt7:∀(f:Nat)(n:Int),f<=16->0<=n/\n<(10^(f+1):Nat)->Fc E zp3 [I n] (S (zlg (f+1) n.toNat))
 |0,n,_,h=>by
  refine g.fn rfl rfl ?_;have hd:=ygm g n (by omega)
  repeat'((conv=>whnf);first|refine Yz ?_|(apply zaf.of;assumption)|(refine Ret.mk ?_))
  simp only[zlg];rw[if_pos (by omega)]
  rfl
 |f+1,n,hf,h=>by
  refine g.fn rfl rfl ?_;rw[Nat.pow_succ]at h;have hp:10^(f+1)<=10^17:=Nat.pow_le_pow_right (by omega) (by omega)
  by_cases hl:n<10
  ·have hd:=ygm g n (by omega)
   repeat'((conv=>whnf);first|refine Yz ?_|(apply zaf.of;assumption)|(refine Ret.mk ?_))
   rw[zlg,if_pos (by omega)]
   rfl
  have hd:=ygm g (n%10) (by omega);have ih:=yt7 f (n/10) (by omega) (by omega)
  have hlen:∀(k u:Nat),(zlg k u).length<=k:=λk=>by
   induction k with
   |zero=>intro u;simp[zlg]
   |succ k ih=>
    intro u;simp only[zlg]
    split
    ·simp
    have:=ih (u/10);simp;omega
  have hl2:=hlen (f+1) (n/10).toNat
  repeat'((conv=>whnf);first|refine Yz ?_|(apply zaf.of;assumption)|refine zem.mk (by simp only[z4t,List.length_cons,List.length_nil];omega) ?_|(refine Ret.mk ?_))
  have e1:(n/10).toNat=n.toNat/10:=by omega
  have e2:(n%10).toNat=n.toNat%10:=by omega
  show S (zlg (f+1) (n/10).toNat++[dig (n%10)])=S (if n.toNat<10 then _ else zlg (f+1) (n.toNat/10)++[UInt8.ofNat (48+n.toNat%10)]);rw[if_neg (by omega),dig,e1,e2]
end
theorem yur:∀(m:Fin 128)(w:Fin 7),IntKind.i64.wrap ((BitVec.ofInt IntKind.i64.bits ((m.val:Int).fdiv (2^(min (w.val:Int).toNat IntKind.i64.bits)))&&&BitVec.ofInt IntKind.i64.bits 1).toNat)=(m.val:Int)/2^(w.val:Int).toNat%2:=by decide+kernel
theorem zd5.of{E:Oracle}{f:Nat}{args:List V}{cx:Cx}{slot:Nat}{m:Mem}{K:V->Mem->Prop}(h:In E 0 f args [] λv m'=>zto (Go.Evl.settle cx slot 0 m m' v) λp=>K p.1 p.2):zd5 E f args cx slot m K:=by
 obtain⟨v,m',h1,p,h2,h3⟩:=h;exact⟨v,m',p,h1,h2,h3⟩
section
variable{E:Oracle}(g:Good E)
include g
theorem yju(m w:Int)(hm:0<=m/\m<=127)(hw:0<=w/\w<=6):Fc E zjf [I m,I w] (B (inM m w)):=by
 refine g.fn rfl rfl ?_;have h:=yur ⟨m.toNat,by omega⟩ ⟨w.toNat,by omega⟩;simp only[Int.toNat_of_nonneg hm.1,Int.toNat_of_nonneg hw.1]at h;unfold inM
 by_cases hc:m/2^w.toNat%2=1
 ·repeat'((conv=>whnf);first|refine Yz ?_|refine Cmp.tt (h.trans hc) ?_|(refine Ret.mk ?_))
  simp[hc]
 ·repeat'((conv=>whnf);first|refine Yz ?_|refine Cmp.ff (λe=>hc (h.symm.trans e)) ?_|(refine Ret.mk ?_))
  simp[hc]
end
structure Rqt where
 (nm ca ki te pa li:List UInt8)
 (fr to da mi se si no:Int)
 deriving DecidableEq
def Rqt.cells(q:Rqt):List D:=[.str q.nm,.str q.ca,.str q.ki,.str q.te,.str q.pa,.str q.li,DI q.fr,DI q.to,DI q.da,DI q.mi,DI q.se,DI q.si,DI q.no]
structure Lnt where
 ac:List UInt8
 rq:Rqt
def Lnt.cells(l:Lnt):List D:=.str l.ac::l.rq.cells
theorem Lnt.cells_length(l:Lnt):l.cells.length=14:=rfl
theorem Rqt.cells_length(q:Rqt):q.cells.length=13:=rfl
abbrev Rqv(q:Rqt):V:=.d (.agg q.cells)
def nmE(s:List UInt8):Int:=if(!zcd s)=true then 8 else 0
def yr9(s:List UInt8):Bool:=decide (s=[])||zcd s
def opE(s:List UInt8):Int:=if(!yr9 s)=true then 8 else 0
def yru(s:List UInt8):Bool:=decide (s=[65])||decide (s=[68])
def zv5(q:Rqt):Int:=zar [nmE q.nm,nmE q.ca,nmE q.pa,opE q.te,opE q.li,if(!yru q.ki)=true then 13 else 0,if q.li=q.nm then 32 else 0,ziv q.fr q.to q.da,rng q.mi 0 1439,rng q.se 0 999,rng q.si 1 9,rng q.no 0 99]
section
variable{E:Oracle}(g:Good E)
include g
theorem zu9(a b c d:Int):Fc E zn9 [.d (.list 4 [DI a,DI b,DI c,DI d])] (I (zar [a,b,c,d])):=yv0 g [a,b,c,d] (by simp)
theorem z8h(s:List UInt8):Fc E zkl [S s] (B (yr9 s)):=by
 refine g.fn rfl rfl ?_;have h:=zva g s;unfold yr9
 by_cases he:s=[]
 ·subst he
  repeat'((conv=>whnf);first|refine Yz ?_|(refine Ret.mk rfl))
 rw[decide_eq_false he]
 repeat'((conv=>whnf);first|refine Yz ?_|(apply zaf.of;assumption)|refine Cmp.ff he ?_|(refine Ret.mk rfl))
theorem z6s(q:Rqt):Fc E zj1 [Rqv q] (I (zv5 q)):=by
 refine g.fn rfl rfl ?_;have n1:=zva g q.nm;have n2:=zva g q.ca;have n3:=zva g q.pa;have n4:=z8h g q.te;have n5:=z8h g q.li;have hp:=zss g q.fr q.to q.da;have hr:=zuk g;unfold zv5 nmE opE;generalize zcd q.nm=b1 at*;generalize zcd q.ca=b2 at*;generalize zcd q.pa=b3 at*;generalize yr9 q.te=b4 at*;generalize yr9 q.li=b5 at*;generalize ziv q.fr q.to q.da=cp at*
 cases b1
 ·repeat'((conv=>whnf);first|refine Yz ?_|(apply zaf.of;assumption)|refine Cmp.tt (by assumption) ?_|refine Cmp.ff (by assumption) ?_|refine zaf.of (hr _ _ _) ?_|refine zaf.of (zu9 g _ _ _ _) ?_|(refine Ret.mk ?_))
  rfl
 
 cases b2
 ·repeat'((conv=>whnf);first|refine Yz ?_|(apply zaf.of;assumption)|refine Cmp.tt (by assumption) ?_|refine Cmp.ff (by assumption) ?_|refine zaf.of (hr _ _ _) ?_|refine zaf.of (zu9 g _ _ _ _) ?_|(refine Ret.mk ?_))
  rfl
  
 cases b3
 ·repeat'((conv=>whnf);first|refine Yz ?_|(apply zaf.of;assumption)|refine Cmp.tt (by assumption) ?_|refine Cmp.ff (by assumption) ?_|refine zaf.of (hr _ _ _) ?_|refine zaf.of (zu9 g _ _ _ _) ?_|(refine Ret.mk ?_))
  rfl
   
 cases b4
 ·repeat'((conv=>whnf);first|refine Yz ?_|(apply zaf.of;assumption)|refine Cmp.tt (by assumption) ?_|refine Cmp.ff (by assumption) ?_|refine zaf.of (hr _ _ _) ?_|refine zaf.of (zu9 g _ _ _ _) ?_|(refine Ret.mk ?_))
  rfl
    
 cases b5
 ·repeat'((conv=>whnf);first|refine Yz ?_|(apply zaf.of;assumption)|refine Cmp.tt (by assumption) ?_|refine Cmp.ff (by assumption) ?_|refine zaf.of (hr _ _ _) ?_|refine zaf.of (zu9 g _ _ _ _) ?_|(refine Ret.mk ?_))
  rfl
     
 unfold yru;by_cases ka:q.ki=[65]
 all_goals by_cases kd:q.ki=[68]
 all_goals by_cases hl:q.li=q.nm
 all_goals by_cases hc:cp=0
 all_goals repeat'((conv=>whnf);first|refine Yz ?_|(apply zaf.of;assumption)|refine Cmp.tt (by assumption) ?_|refine Cmp.ff (by assumption) ?_|refine zaf.of (hr _ _ _) ?_|refine zaf.of (zu9 g _ _ _ _) ?_|(refine Ret.mk ?_))
 all_goals simp_all[zar]
end
theorem zae{α:Type}(cell:α->List D)(w:Nat)(hw:∀a,(cell a).length=w):∀l:List α,(l.flatMap cell).length=l.length*w
 |[]=>by simp
 |c::r=>by rw[List.flatMap_cons,List.length_append,hw,zae cell w hw r,List.length_cons,Nat.succ_mul];omega
theorem zux{α:Type}(cell:α->List D)(w:Nat)(hw:∀a,(cell a).length=w):∀(l:List α)(k:Nat),(l.flatMap cell).drop (k*w)=(l.drop k).flatMap cell
 |l,0=>by simp
 |[],k+1=>by simp
 |c::r,k+1=>by
  rw[List.flatMap_cons,List.drop_succ_cons,<-zux cell w hw r k,Nat.succ_mul,Nat.add_comm,<-List.drop_drop];congr 1;rw[List.drop_append_of_le_length (by rw[hw];exact Nat.le_refl _),List.drop_of_length_le (by rw[hw];exact Nat.le_refl _)]
  rfl
theorem zei{α:Type}(cell:α->List D)(w:Nat)(hw:∀a,(cell a).length=w)(l:List α)(k:Nat)(h:k<l.length):win (l.flatMap cell) (k*w) w=cell l[k]:=by
 unfold win;rw[zux cell w hw,List.drop_eq_getElem_cons h,List.flatMap_cons,List.take_append_of_le_length (by rw[hw];exact Nat.le_refl _),List.take_of_length_le (by rw[hw];exact Nat.le_refl _)]
theorem ynl{α:Type}(cell:α->List D)(w:Nat)(hw:∀a,(cell a).length=w)(l:List α)(k j:Nat)(h:k<l.length)(hj:j<w):(l.flatMap cell)[k*w+j]?=(cell l[k])[j]?:=by
 rw[<-List.getElem?_drop,zux cell w hw,List.drop_eq_getElem_cons h,List.flatMap_cons,List.getElem?_append_left (by rw[hw];exact hj)]
theorem ykv{α:Type}(cell:α->List D)(l:List α)(k:Nat)(h:k<l.length):(l.take (k+1)).flatMap cell=(l.take k).flatMap cell++cell l[k]:=by
 rw[List.take_add_one,List.flatMap_append,List.getElem?_eq_getElem h];simp
theorem za2.rec{α:Type}{cell:α->List D}{w:Nat}(hw:∀a,(cell a).length=w){l:List α}{i:Int}{K:List D->Prop}(k:Nat)(hi:i=k)(h:k<l.length)(hk:K (cell l[k])):za2 (l.flatMap cell) (i.toNat*w) w K:=by
 subst hi;rw[Int.toNat_natCast];have h1:=zae cell w hw l;refine⟨?_,by rw[zei cell w hw l k h];exact hk⟩;have h2:(k+1)*w<=l.length*w:=Nat.mul_le_mul_right _ h;rw[Nat.succ_mul]at h2;omega
theorem za2.rec0{α:Type}{cell:α->List D}{w:Nat}(hw:∀a,(cell a).length=w){l:List α}{i:Int}{K:List D->Prop}(k:Nat)(hi:i=k)(h:k<l.length)(hk:K (cell l[k])):za2 (l.flatMap cell) ((0+i.toNat)*w) w K:=by
 rw[Nat.zero_add];exact za2.rec hw k hi h hk
theorem zgp.rec{α:Type}{cell:α->List D}{w:Nat}(hw:∀a,(cell a).length=w){l:List α}{i:Int}{j:Nat}{K:D->Prop}{d:D}(k:Nat)(hi:i=k)(h:k<l.length)(hj:(cell l[k])[j]?=some d)(hk:K d):zgp (l.flatMap cell) (i.toNat*w+j) K:=by
 subst hi;rw[Int.toNat_natCast]
 have hlt:j<w:=by
  have:=(List.getElem?_eq_some_iff.1 hj).1
  rwa[hw]at this
 exact⟨⟨d,by rw[ynl cell w hw l k j h hlt];exact hj,hk⟩⟩
theorem zgp.rec0{α:Type}{cell:α->List D}{w:Nat}(hw:∀a,(cell a).length=w){l:List α}{i:Int}{j:Nat}{K:D->Prop}{d:D}(k:Nat)(hi:i=k)(h:k<l.length)(hj:(cell l[k])[j]?=some d)(hk:K d):zgp (l.flatMap cell) ((0+i.toNat)*w+j) K:=by
 rw[Nat.zero_add];exact zgp.rec hw k hi h hj hk
theorem zgp.intI{l:List Int}{i:Int}{K:D->Prop}(k:Nat)(hi:i=k)(h:k<l.length)(hk:K (DI l[k])):zgp (l.map DI) (i.toNat*1) K:=by
 subst hi;refine⟨⟨_,?_,hk⟩⟩;simp[h]
theorem yi9{α:Type}(f:α->List UInt8){l:List α}{k:Nat}(h:k<l.length):(l.take (k+1)).map f=(l.take k).map f++[f l[k]]:=by
 rw[List.take_add_one,List.getElem?_eq_getElem h,List.map_append]
 rfl
theorem yqf{α:Type}(f:α->List D)(n:Nat)(hf:∀a,(f a).length=n)(l:List α)(k:Nat)(h:k<=l.length):win (l.flatMap f) 0 (k*n)=(l.take k).flatMap f:=by
 unfold win;rw[List.drop_zero];have e:l.flatMap f=(l.take k).flatMap f++(l.drop k).flatMap f:=by rw[<-List.flatMap_append,List.take_append_drop]
 have hn:=zae f n hf (l.take k);rw[List.length_take,Nat.min_eq_left h]at hn;rw[e,List.take_append_of_le_length (by omega),List.take_of_length_le (by omega)]
theorem ygx{α:Type}(f:α->List D)(n:Nat)(hf:∀a,(f a).length=n)(l:List α)(k:Nat)(h:k<=l.length):V.d (.list (k-0) (win (l.flatMap f) (0*n) ((k-0)*n)))=.d (.list (l.take k).length ((l.take k).flatMap f)):=by
 rw[Nat.zero_mul,Nat.sub_zero,yqf f n hf l k h,List.length_take,Nat.min_eq_left h]
theorem za2.part{α:Type}{cell:α->List D}{w:Nat}(hw:∀a,(cell a).length=w){l:List α}{i:Int}{j n:Nat}{ds:List D}{K:List D->Prop}(k:Nat)(hi:i=k)(h:k<l.length)(hj:j+n<=w)(hd:win (cell l[k]) j n=ds)(hk:K ds):za2 (l.flatMap cell) (i.toNat*w+j) n K:=by
 subst hi;rw[Int.toNat_natCast];have h1:=zae cell w hw l;have h2:(k+1)*w<=l.length*w:=Nat.mul_le_mul_right _ h;rw[Nat.succ_mul]at h2;refine⟨by omega,?_⟩
 have e:win (l.flatMap cell) (k*w+j) n=ds:=by
  rw[<-hd];unfold win;rw[<-List.drop_drop,zux cell w hw,List.drop_eq_getElem_cons h,List.flatMap_cons,List.drop_append_of_le_length (by rw[hw];omega),List.take_append_of_le_length (by rw[List.length_drop,hw];omega)]
 rw[e];exact hk
def yba:List (List UInt8)->List UInt8->Nat->Int
 |[],_,_=>-1
 |x::r,s,k=>if s=x then k else yba r s (k+1)
theorem z91(s:List UInt8):∀(l:List (List UInt8))(k:Nat),0<=yba l s k↔s∈l
 |[],k=>by simp[yba]
 |x::r,k=>by
  unfold yba
  split
  ·rename_i h;simp[h]
  rename_i h;rw[z91 s r];simp[h]
structure Lmt where
 (nm ki te:List UInt8)
 (le st fr to pf pt pd mo:Int)
 deriving Inhabited
def Lmt.cells(l:Lmt):List D:=[.str l.nm,.str l.ki,.str l.te,DI l.le,DI l.st,DI l.fr,DI l.to,DI l.pf,DI l.pt,DI l.pd,DI l.mo]
theorem Lmt.cells_length(l:Lmt):l.cells.length=11:=rfl
abbrev Lmv(l:Lmt):V:=.d (.agg l.cells)
abbrev LLm(l:List Lmt):V:=.d (.list l.length (l.flatMap Lmt.cells))
structure Mvt where
 mo:Int
 (ki te:List UInt8)
 (se si no:Int)
 nm:List UInt8
 deriving DecidableEq,Inhabited
def Mvt.cells(m:Mvt):List D:=[DI m.mo,.str m.ki,.str m.te,DI m.se,DI m.si,DI m.no,.str m.nm]
theorem Mvt.cells_length(m:Mvt):m.cells.length=7:=rfl
abbrev Mvv(m:Mvt):V:=.d (.agg m.cells)
abbrev LMv(l:List Mvt):V:=.d (.list l.length (l.flatMap Mvt.cells))
def yrw(s:List UInt8):Bool:=decide (s=[65])||decide (s=[68])||decide (s=[84])
def flE(s:List UInt8):Int:=if(!yru s)=true then 13 else 0
def ldE(a b c:Int):Int:=zar [rng a 0 999,rng b 0 9,rng c 0 99]
def zgr(l:Lmt):Int:=zar [nmE l.nm,if(!yrw l.ki)=true then 13 else 0,opE l.te,rng l.le 1 1440,rng l.st 1 1440,rng l.fr 0 1439,rng l.to 0 1439,if l.to<l.fr then 11 else 0,ziv l.pf l.pt l.pd,rng l.mo 0 999999999]
def zmk(l:List Lmt):List (List UInt8):=l.map (·.nm)
def z6k(seen:List (List UInt8))(l:Lmt):Int:=zar [zgr l,if l.nm∈seen then 9 else 0]
def zv4(seen:List (List UInt8)):List Lmt->Int
 |[]=>0
 |l::r=>if z6k seen l=0 then zv4 (seen++[l.nm]) r else z6k seen l
def zj8(l:List Lmt):Int:=if 32<l.length then 5 else zv4 [] l
def zt3(q:Rqt):Int:=zar [nmE q.nm,flE q.ki,opE q.te,ziv q.fr q.to q.da,rng q.mi 0 1439,ldE q.se q.si q.no]
section
variable{E:Oracle}(g:Good E)
include g
theorem zq1(b:Bool)(e:Int):Fc E zcr [B b,I e] (I (if b then e else 0)):=by
 refine g.fn rfl rfl ?_;cases b<;>repeat'((conv=>whnf);first|refine Yz ?_|(refine Ret.mk rfl))
theorem zul(n a b:Int):Fc E zbw [I n,I a,I b] (I (rng n a b)):=by
 refine g.fn rfl rfl ?_;have hw:∀c,Fc E zcr [B c,I 3] (I (if c then 3 else 0)):=λc=>zq1 g c 3
 unfold rng
 by_cases h1:n<a
 ·rw[if_pos (.inl h1)]
  repeat'((conv=>whnf);first|refine Yz ?_|refine zaf.of (hw _) ?_|(refine Ret.mk rfl))
 by_cases h2:b<n
 ·rw[if_pos (.inr h2)]
  repeat'((conv=>whnf);first|refine Yz ?_|refine zaf.of (hw _) ?_|(refine Ret.mk rfl))
 rw[if_neg (by omega)]
 repeat'((conv=>whnf);first|refine Yz ?_|refine zaf.of (hw _) ?_|(refine Ret.mk rfl))
theorem z2t(l:List Int)(hl:l.length<=140737488355328):Fc E zcq [LI l] (I (zar l)):=by
 refine g.fn rfl rfl ?_
 conv=>whnf
 refine zab.upP g (λk=>[(5,LI l),(6,I l.length),(7,I k)]) (λ_=>[]) (λk=>zar l=zar (l.drop k)) l.length (λk hk hp ih=>?_) 0 (Nat.zero_le _) (by simp)
 by_cases hlt:k<l.length
 ·have hd:=zsk l k hlt
  repeat'((conv=>whnf);first|refine Yz ?_|refine zgp.int (by omega) ?_|(refine Cmp.mk (λh=>?_) (λh=>?_))|(refine Rem.any (by omega) (λr hr he=>?_))|(refine Br.mk (λh=>?_) (λh=>?_))|refine zab.to (ih hlt ?_) ?_ rfl|(refine Ret.mk ?_))
  all_goals simp_all
 have:l.drop k=[]:=List.drop_eq_nil_of_le (by omega)
 repeat'((conv=>whnf);first|refine Yz ?_|(refine Ret.mk ?_))
 simp[hp,this,zar]
theorem z5l(a b:Int):Fc E zcq [.d (.list 2 [DI a,DI b])] (I (zar [a,b])):=z2t g [a,b] (by simp)
theorem yo9(a b c:Int):Fc E zcq [.d (.list 3 [DI a,DI b,DI c])] (I (zar [a,b,c])):=z2t g [a,b,c] (by simp)
theorem ypa(a b c d e f:Int):Fc E zcq [.d (.list 6 [DI a,DI b,DI c,DI d,DI e,DI f])] (I (zar [a,b,c,d,e,f])):=z2t g [a,b,c,d,e,f] (by simp)
theorem yln(a b c d e f h i j k:Int):Fc E zcq [.d (.list 10 [DI a,DI b,DI c,DI d,DI e,DI f,DI h,DI i,DI j,DI k])] (I (zar [a,b,c,d,e,f,h,i,j,k])):=z2t g [a,b,c,d,e,f,h,i,j,k] (by simp)
theorem z5m(s:List UInt8):Fc E zhm [S s] (I (opE s)):=by
 refine g.fn rfl rfl ?_;have h:=zvd g s;unfold opE yr9
 by_cases he:s=[]
 ·subst he
  repeat'((conv=>whnf);first|refine Yz ?_|refine zaf.of (zq1 g _ _) ?_|(refine Ret.mk rfl))
 rw[decide_eq_false he]
 repeat'((conv=>whnf);first|refine Yz ?_|(apply zaf.of;assumption)|refine Cmp.ff he ?_|refine zaf.of (zq1 g _ _) ?_|(refine Ret.mk rfl))
theorem ydf(s:List UInt8):Fc E zlq [S s] (B (yr9 s)):=by
 refine g.fn rfl rfl ?_;have h:=zva g s;unfold yr9
 by_cases he:s=[]
 ·subst he
  repeat'((conv=>whnf);first|refine Yz ?_|(refine Ret.mk rfl))
 rw[decide_eq_false he]
 repeat'((conv=>whnf);first|refine Yz ?_|(apply zaf.of;assumption)|refine Cmp.ff he ?_|(refine Ret.mk rfl))
theorem ysv(s:List UInt8):Fc E zmg [S s] (I (flE s)):=by
 refine g.fn rfl rfl ?_;unfold flE yru
 by_cases he:s=[65]
 ·subst he
  repeat'((conv=>whnf);first|refine Yz ?_|refine zaf.of (zq1 g _ _) ?_|(refine Ret.mk rfl))
 rw[decide_eq_false he]
 by_cases hd:s=[68]
 ·subst hd
  repeat'((conv=>whnf);first|refine Yz ?_|refine zaf.of (zq1 g _ _) ?_|(refine Ret.mk rfl))
 rw[decide_eq_false hd]
 repeat'((conv=>whnf);first|refine Yz ?_|refine Cmp.ff he ?_|refine Cmp.ff hd ?_|refine zaf.of (zq1 g _ _) ?_|(refine Ret.mk rfl))
theorem yyo(a b c:Int):Fc E zo9 [I a,I b,I c] (I (ldE a b c)):=by
 refine g.fn rfl rfl ?_
 repeat'((conv=>whnf);first|refine Yz ?_|refine zaf.of (zul g _ _ _) ?_|refine zaf.of (yo9 g _ _ _) ?_|(refine Ret.mk rfl))
theorem yv8(q:Rqt):Fc E zhl [Rqv q] (I (zt3 q)):=by
 refine g.fn rfl rfl ?_;have h:=zvd g q.nm
 repeat'((conv=>whnf);first|refine Yz ?_|(apply zaf.of;assumption)|refine zaf.of (zul g _ _ _) ?_|refine zaf.of (ysv g _) ?_|refine zaf.of (z5m g _) ?_|refine zaf.of (yyo g _ _ _) ?_|refine zaf.of (zq1 g _ _) ?_|refine zaf.of (zod g _ _ _) ?_|refine zaf.of (ypa g _ _ _ _ _ _) ?_|(refine Ret.mk rfl))
abbrev yzx(i:Evl.Id):V:=.agg [.fn ze0 [] [.ptr i 0 0]]
abbrev yxs(a b:Evl.Id):List (D×V):=[(.str [65],yzx a),(.str [68],yzx b),(.str [84],.agg [.fn zln [] []])]
theorem ywc:In E 0 zhv [] [] λv m'=>v=.mp ⟨0,2,0⟩/\m'=[(⟨0,2,0⟩,.map (yxs ⟨0,4,0⟩ ⟨0,7,0⟩)),(⟨0,4,0⟩,.cells zad [S [65]]),(⟨0,7,0⟩,.cells zad [S [68]])]:=by
 refine In.enter (f:=zhv) g.lim rfl rfl ?_
 repeat'((conv=>whnf);first|refine Yz ?_|refine In.enter (f:=zlm) g.lim rfl rfl ?_|(refine⟨(.fn ze0 [] [.ptr ⟨0,4,0⟩ 0 0],[(⟨0,2,0⟩,.map []),(⟨0,4,0⟩,.cells zad [S [65]])]),rfl,?_⟩)|(refine⟨(.fn ze0 [] [.ptr ⟨0,7,0⟩ 0 0],[(⟨0,2,0⟩,.map [(.str [65],yzx ⟨0,4,0⟩)]),(⟨0,4,0⟩,.cells zad [S [65]]),(⟨0,7,0⟩,.cells zad [S [68]])]),rfl,?_⟩)|refine yql.mk ⟨_,rfl,?_⟩|(exact⟨rfl,rfl⟩))
omit g in
theorem ydw{cx:Cx}{slot:Nat}{m:Mem}(hf:Go.Evl.freeK cx.lv slot m=0):Go.Evl.settle cx slot 0 m [(⟨0,2,0⟩,.map (yxs ⟨0,4,0⟩ ⟨0,7,0⟩)),(⟨0,4,0⟩,.cells zad [S [65]]),(⟨0,7,0⟩,.cells zad [S [68]])] (.mp ⟨0,2,0⟩)=some (.mp ⟨cx.lv,slot,0⟩,m++[(⟨cx.lv,slot,0⟩,.map (yxs ⟨cx.lv,slot,1⟩ ⟨cx.lv,slot,2⟩)),(⟨cx.lv,slot,1⟩,.cells zad [S [65]]),(⟨cx.lv,slot,2⟩,.cells zad [S [68]])]):=by
 unfold Go.Evl.settle;rw[hf]
 rfl
theorem zd5.cknds{cx:Cx}{slot:Nat}{m:Mem}{K:V->Mem->Prop}(hf:Go.Evl.freeK cx.lv slot m=0)(h:K (.mp ⟨cx.lv,slot,0⟩) (m++[(⟨cx.lv,slot,0⟩,.map (yxs ⟨cx.lv,slot,1⟩ ⟨cx.lv,slot,2⟩)),(⟨cx.lv,slot,1⟩,.cells zad [S [65]]),(⟨cx.lv,slot,2⟩,.cells zad [S [68]])])):zd5 E zhv [] cx slot m K:=by
 obtain⟨v,m',h1,rfl,rfl⟩:=(ywc g).got;exact⟨_,_,_,h1,ydw hf,h⟩
omit g in
theorem ykr(s:List UInt8)(a b:Evl.Id):s=[65]\/s=[68]\/s=[84]\/(yrw s=false/\zii (.str s) (yxs a b)=some none):=by
 by_cases h1:s=[65]
 ·exact .inl h1
 by_cases h2:s=[68]
 ·exact .inr (.inl h2)
 by_cases h3:s=[84]
 ·exact .inr (.inr (.inl h3))
 refine .inr (.inr (.inr ⟨by simp[yrw,h1,h2,h3],?_⟩));have e:∀t:List UInt8,s≠t->eqD (.str s) (.str t)=some false:=λt ht=>by simp[eqD,ht]
 simp only[zii,e _ h1,e _ h2,e _ h3]
theorem ygr(l:Lmt):Fc E zfu [Lmv l] (I (zgr l)):=by
 refine g.fn rfl rfl ?_;have h:=zvd g l.nm
 have e:zgr l=zar [nmE l.nm,if(!yrw l.ki)=true then 13 else 0,opE l.te,rng l.le 1 1440,rng l.st 1 1440,rng l.fr 0 1439,rng l.to 0 1439,if decide (l.to<l.fr)=true then 11 else 0,ziv l.pf l.pt l.pd,rng l.mo 0 999999999]:=by
  simp only[zgr,decide_eq_true_eq]
 rw[e];obtain⟨nm,ki,te,le,st,fr,to,pf,pt,pd,mo⟩:=l;have hw:∀b,Fc E zcr [B b,I 13] (I (if b then 13 else 0)):=λb=>zq1 g b 13
 by_cases hlt:to<fr
 all_goals first|rw[decide_eq_true hlt]|rw[decide_eq_false hlt]
 all_goals rcases ykr ki ⟨0,6,1⟩ ⟨0,6,2⟩with rfl|rfl|rfl|⟨hk,hf⟩
 all_goals try rw[hk]
 all_goals repeat'((conv=>whnf);first|refine Yz ?_|(apply zaf.of;assumption)|refine zd5.cknds g rfl ?_|refine zxi.mk ⟨_,rfl,?_⟩|refine zxi.mk ⟨_,hf,?_⟩|refine zaf.of (zul g _ _ _) ?_|refine zaf.of (z5m g _) ?_|refine zaf.of (zq1 g _ _) ?_|refine zaf.of (zod g _ _ _) ?_|refine zaf.of (yln g _ _ _ _ _ _ _ _ _ _) ?_|(refine Ret.mk rfl))
theorem yrp(l:List Lmt)(q:List UInt8)(hl:l.length<=1000000){K:V->Mem->Prop}
  (hK:K (I (yba (zmk l) q 0)) [(⟨0,3,0⟩,.cells zad [S q])]):
  In E 1 zba [LLm l,.fn zeq [] [.ptr ⟨0,3,0⟩ 0 0]] [(⟨0,3,0⟩,.cells zad [S q])] K:=by
 generalize hA:yba (zmk l) q 0=A at*;refine In.enter (f:=zba) g.lim rfl rfl ?_
 repeat'((conv=>whnf);first|refine Yz ?_)
 refine zab.to (zab.upP g (λk=>[(0,LLm l),(1,.fn zeq [] [.ptr ⟨0,3,0⟩ 0 0]),(7,I l.length),(8,I k)]) (λ_=>_) (λk=>yba (zmk (l.drop k)) q k=A) l.length (λk hk h0 ih=>?_) 0 (Nat.zero_le _) hA) rfl rfl
 by_cases hlt:k<l.length
 ·rw[List.drop_eq_getElem_cons hlt,zmk,List.map_cons,yba]at h0;have ih:=ih hlt
  by_cases hd:l[k].nm=q
  ·rw[if_pos hd.symm]at h0;subst h0
   repeat'((conv=>whnf);first|refine Yz ?_|refine za2.rec Lmt.cells_length k rfl hlt ?_|refine In.enter (f:=zeq) g.lim rfl rfl ?_|refine Cmp.tt hd ?_|(exact hK))
  rw[if_neg (Ne.symm hd)]at h0;have ih:=ih h0
  repeat'((conv=>whnf);first|refine Yz ?_|refine za2.rec Lmt.cells_length k rfl hlt ?_|refine In.enter (f:=zeq) g.lim rfl rfl ?_|refine Cmp.ff hd ?_|(refine zab.to ih rfl rfl))
 rw[List.drop_eq_nil_of_le (by omega),zmk,List.map_nil,yba]at h0;subst h0
 repeat'((conv=>whnf);first|refine Yz ?_|(exact hK))
theorem yst(l:List Lmt)(q:List UInt8)(hl:l.length<=1000000):Fc E zng [LLm l,S q] (I (yba (zmk l) q 0)):=by
 refine g.fn rfl rfl ?_;have hin:=λ{K}=>yrp g (K:=K) l q hl
 generalize yba (zmk l) q 0=r at*
 repeat'((conv=>whnf);first|refine Yz ?_|refine hin ?_|(refine Ret.mk rfl))
theorem zsu(l:List Lmt)(hl:l.length<=1000000):Fc E zea [LLm l] (I (zj8 l)):=by
 refine g.fn rfl rfl ?_;unfold zj8
 by_cases hm:32<l.length
 ·rw[if_pos hm]
  repeat'((conv=>whnf);first|refine Yz ?_|(refine Ret.mk rfl))
 rw[if_neg hm];generalize hR:zv4 [] l=R
 repeat'((conv=>whnf);first|refine Yz ?_)
 refine zab.to (zab.upP g (λk=>[(0,LLm l),(9,LLm l),(10,I l.length),(11,I k)]) (λ_=>[]) (λk=>zv4 (zmk (l.take k)) (l.drop k)=R) l.length (λk hk h0 ih=>?_) 0 (Nat.zero_le _) hR) rfl rfl
 by_cases hlt:k<l.length
 ·have hs:zmk (l.take (k+1))=zmk (l.take k)++[l[k].nm]:=yi9 Lmt.nm hlt;rw[List.drop_eq_getElem_cons hlt,zv4,<-hs]at h0;have ih:=ih hlt;have hc:=ygr g l[k];have hn:=yst g (l.take k) l[k].nm (by simp;omega);have ht:=ygx Lmt.cells 11 Lmt.cells_length l k (by omega);have hm:=z91 l[k].nm (zmk (l.take k)) 0;generalize yba (zmk (l.take k)) l[k].nm 0=r at*;have hf:=z5l g (zgr l[k]) (if l[k].nm∈zmk (l.take k)then 9 else 0);have hq:z6k (zmk (l.take k)) l[k]=zar [zgr l[k],if l[k].nm∈zmk (l.take k)then 9 else 0]:=rfl;rw[<-hq]at hf;have hw:=zq1 g;generalize z6k (zmk (l.take k)) l[k]=x at*;by_cases hr:0<=r
  all_goals first|rw[if_pos (hm.1 hr)]at hf|rw[if_neg (λh=>hr (hm.2 h))]at hf
  all_goals by_cases hz:x=0
  all_goals first|rw[if_pos hz]at h0|rw[if_neg hz]at h0
  all_goals first|(replace ih:=ih h0)|rw[<-h0]
  all_goals repeat'((conv=>whnf);first|refine Yz ?_|refine za2.rec Lmt.cells_length k rfl hlt ?_|(refine zom.at 0 k rfl rfl (by omega) ?_<;>(try rw[ht]))|(apply zaf.of;assumption)|refine zaf.of (hw _ _) ?_|refine Cmp.ff (λh=>h hz) ?_|refine Cmp.tt hz ?_|refine zab.to ih rfl rfl|(refine Ret.mk rfl))
 rw[List.drop_eq_nil_of_le (by omega),zv4]at h0;rw[<-h0]
 repeat'((conv=>whnf);first|refine Yz ?_|(refine Ret.mk rfl))
end
section
variable{E:Oracle}(g:Good E)
include g
theorem z5p(day:Int)(h:0<=day/\day<=1000000):Fc E zh5 [I day] (I ((day+5)%7)):=by
 refine g.fn rfl rfl ?_
 repeat'((conv=>whnf);first|refine Yz ?_|(refine Ret.mk rfl))
theorem yov(day:Int)(h:0<=day/\day<=1000000):Fc E zpa [I day] (I ((day+5)%7)):=by
 refine g.fn rfl rfl ?_
 repeat'((conv=>whnf);first|refine Yz ?_|(refine Ret.mk rfl))
end
def zm0(f d:Int):Nat->List Int
 |0=>[]
 |k+1=>zm0 f d k++(if inM d ((f+k+5)%7)then [f+k]else [])
theorem ziw(f d:Int):∀k:Nat,(zm0 f d k).length<=k
 |0=>Nat.le_refl _
 |k+1=>by
  have:=ziw f d k;simp only[zm0,List.length_append];split<;>simp<;>omega
def yyb:C:=.reg false [⟨some 6,none,.mv (.t 8)⟩] [8]
def yyc:C:=.block 1 (.seq (.reg false [
⟨some 9,none,.load none (.t 3)⟩,
⟨some 10,none,.mv (.t 6)⟩,
⟨some 11,none,.call true true (.t 9) [.t 10]⟩] [3,9,10])
(.cond (.t 11) (.reg false [
⟨some 12,none,.load none (.t 5)⟩,
⟨some 13,none,.mv (.t 6)⟩,
⟨some 14,none,.mkList 1 1 [.t 13]⟩,
⟨some 15,none,.append ⟨false,zc0,1,8⟩ (.t 12) (.t 14)⟩,
⟨none,none,.store 1 (.t 5) (.t 15)⟩] [5,6,12,13,14,15])
 .skip))
section
variable{E:Oracle}(g:Good E)
include g
theorem ygq(f t d:Int)(h:ziv f t d=0):Fc E zje [Per f t d] (.tup [LI (zm0 f d (t-f+1).toNat),I 0]):=by
 refine g.fn rfl rfl ?_;have hc:=zod g f t d;rw[h]at hc;have hb:=zfl.1 h
 repeat'((conv=>whnf);first|refine Yz ?_|refine zaf.of hc ?_|refine zd5.of (In.enter (f:=zmf) g.lim rfl rfl ?_)|(refine⟨(.fn zfo [] [.ptr ⟨0,11,0⟩ 0 0],[(⟨0,1,0⟩,.cells zck [I f,I t,I d]),(⟨0,11,0⟩,.cells zck [I f,I t,I d])]),rfl,?_⟩)|refine In.enter (f:=zg3) g.lim rfl rfl ?_|(refine In.enter (f:=zfo) g.lim rfl rfl ?_))
 refine zab.to (zab.up g (λk=>[(0,.yld ⟨1,18,0⟩),(1,.ptr ⟨0,11,0⟩ 0 0),(3,I (f+k))]) (λk=>[(⟨0,1,0⟩,.cells zck [I f,I t,I d]),(⟨0,11,0⟩,.cells zck [I f,I t,I d]),
  (⟨1,3,0⟩,.cells zs5 [.fn zhk [] []]),(⟨1,4,0⟩,.row false zc0 1 0 []),(⟨1,5,0⟩,.row false zc0 1 (zm0 f d k).length ((zm0 f d k).map DI)),(⟨1,5,1⟩,.cells zsx [.ref ⟨1,5,0⟩ 0 (zm0 f d k).length (zm0 f d k).length]),
  (⟨1,18,0⟩,.loop [(3,.ptr ⟨1,3,0⟩ 0 0),(4,.ref ⟨1,4,0⟩ 0 0 0),(5,.ptr ⟨1,5,1⟩ 0 0),(7,.fn zfo [] [.ptr ⟨0,11,0⟩ 0 0])] [8] yyb yyc 1 false false none)]) (t-f+1).toNat (λk hk ih=>?_) 0 (Nat.zero_le _)) (by simp) rfl
 have hlen:=ziw f d k
 by_cases hlt:k<(t-f+1).toNat
 ·have hin:=yju g d ((f+k+5)%7) (by omega) (by omega)
  by_cases hc:inM d ((f+k+5)%7)=true
  ·rw[hc]at hin
   repeat'((conv=>whnf);first|refine Yz ?_|refine zaf.of (z5p g _ (by omega)) ?_|refine zaf.of hin ?_|refine Rnd.enter g.lim ?_|refine In.enter (f:=zhk) g.lim rfl rfl ?_|(refine zab.to (ih hlt) ?_ ?_))
   ·simp;omega
   simp[zm0,hc]
  rw[Bool.not_eq_true]at hc;rw[hc]at hin
  repeat'((conv=>whnf);first|refine Yz ?_|refine zaf.of (z5p g _ (by omega)) ?_|refine zaf.of hin ?_|(refine zab.to (ih hlt) ?_ ?_))
  ·simp;omega
  simp[zm0,hc]
 have hk':k=(t-f+1).toNat:=by omega
 repeat'((conv=>whnf);first|refine Yz ?_|(refine Ret.mk ?_))
 simp[hk']
end
def ymh(f t d day:Int):Bool:=decide (f<=day)&&(decide (day<=t)&&inM d ((day+5)%7))
section
variable{E:Oracle}(g:Good E)
include g
theorem yz5(f t d day:Int)(hd:0<=d/\d<=127)(h:0<=day/\day<=1000000):Fc E zqx [Per f t d,I day] (B (ymh f t d day)):=by
 refine g.fn rfl rfl ?_;have hin:=yju g d ((day+5)%7) hd (by omega);unfold ymh;generalize inM d ((day+5)%7)=b at*
 by_cases h1:f<=day
 ·by_cases h2:day<=t
  all_goals repeat'((conv=>whnf);first|refine Yz ?_|refine zaf.of (z5p g _ h) ?_|refine zaf.of hin ?_|(refine Ret.mk ?_))
  all_goals simp[h1,h2]
 ·repeat'((conv=>whnf);first|refine Yz ?_|(refine Ret.mk ?_))
  simp[h1]
theorem yz1(f t d day:Int)(hd:0<=d/\d<=127)(h:0<=day/\day<=1000000):Fc E zxc [Per f t d,I day] (B (ymh f t d day)):=by
 refine g.fn rfl rfl ?_;have hin:=ysg g d ((day+5)%7) hd (by omega);unfold ymh;generalize inM d ((day+5)%7)=b at*
 by_cases h1:f<=day
 ·by_cases h2:day<=t
  all_goals repeat'((conv=>whnf);first|refine Yz ?_|refine zaf.of (yov g _ h) ?_|refine zaf.of hin ?_|(refine Ret.mk ?_))
  all_goals simp[h1,h2]
 ·repeat'((conv=>whnf);first|refine Yz ?_|(refine Ret.mk ?_))
  simp[h1]
theorem ysq(f t d day:Int)(h:ziv f t d=0)(h2:rng day 0 99999=0):Fc E zqw [Per f t d,I day] (.tup [B (ymh f t d day),I 0]):=by
 refine g.fn rfl rfl ?_;have hc:=zod g f t d;have hc2:=z8n g day;rw[h]at hc;rw[h2]at hc2;have hb:=zfl.1 h;have hb2:=zib.1 h2;have hf:Fc E zd4 [.d (.list 2 [DI 0,DI 0])] (I 0):=yjt g 0 0
 repeat'((conv=>whnf);first|refine Yz ?_|refine zaf.of hc ?_|refine zaf.of hc2 ?_|refine zaf.of hf ?_|refine zaf.of (yz5 g _ _ _ _ (by omega) (by omega)) ?_|(refine Ret.mk rfl))
theorem ysf(f t d:Int)(h:ziv f t d=0):Fc E zmn [Per f t d] (LI (zm0 f d (t-f+1).toNat)):=by
 refine g.fn rfl rfl ?_;have hb:=zfl.1 h
 repeat'((conv=>whnf);first|refine Yz ?_)
 refine zab.to (zab.up g (λk=>[(1,.ptr ⟨0,1,0⟩ 0 0),(3,.ref ⟨0,3,0⟩ 0 (zm0 f d k).length (zm0 f d k).length),(4,I (f+k))])
  (λk=>[(⟨0,1,0⟩,.cells zck [I f,I t,I d]),(⟨0,2,0⟩,.row false zc0 1 0 []),(⟨0,3,0⟩,.row false zc0 1 (zm0 f d k).length ((zm0 f d k).map DI))]) (t-f+1).toNat (λk hk ih=>?_) 0 (Nat.zero_le _)) (by simp[zm0]) rfl
 have hlen:=ziw f d k
 by_cases hlt:k<(t-f+1).toNat
 ·have hh:=yz1 g f t d (f+k) (by omega) (by omega)
  have he:ymh f t d (f+k)=inM d ((f+k+5)%7):=by
   simp only[ymh,decide_eq_true (show f<=f+(k:Int)by omega),decide_eq_true (show f+(k:Int)<=t by omega),Bool.true_and]
  rw[he]at hh
  by_cases hc:inM d ((f+k+5)%7)=true
  ·rw[hc]at hh
   repeat'((conv=>whnf);first|refine Yz ?_|refine zaf.of hh ?_|(refine zab.to (ih hlt) ?_ ?_))
   ·simp[zm0,hc];omega
   simp[zm0,hc]
  rw[Bool.not_eq_true]at hc;rw[hc]at hh
  repeat'((conv=>whnf);first|refine Yz ?_|refine zaf.of hh ?_|(refine zab.to (ih hlt) ?_ ?_))
  ·simp[zm0,hc];omega
  simp[zm0,hc]
 have hk':k=(t-f+1).toNat:=by omega
 repeat'((conv=>whnf);first|refine Yz ?_|(refine Ret.mk ?_))
 simp[hk']
end
theorem z5e(n a b:Int):rng n a b=if decide (n<a\/b<n)=true then 3 else 0:=by
 unfold rng;simp only[decide_eq_true_eq]
def zgo(l:Lmt):Int:=l.to/l.st-(l.fr+l.st-1)/l.st+1
def yw1(f t d n:Int):Bool:=decide (ziv f t d≠0)||decide (t-f<n)
def yfa(l:Lmt):List Int:=zm0 l.pf l.pd (l.pt-l.pf+1).toNat
def znv(l:Lmt):Bool:=decide (l.nm.length<=40)&&decide (l.ki.length<=40)&&decide (l.te.length<=40)&&yw1 l.pf l.pt l.pd 24
def yhe(l:Lmt):Int:=if zgr l=0 then zgo l*(yfa l).length else 0
def zlw:List Lmt->Int
 |[]=>0
 |l::r=>yhe l+zlw r
theorem zhx{l:Lmt}:zgr l=0↔nmE l.nm=0/\yrw l.ki=true/\opE l.te=0/\(1<=l.le/\l.le<=1440)/\(1<=l.st/\l.st<=1440)/\(0<=l.fr/\l.fr<=1439)/\(0<=l.to/\l.to<=1439)/\l.fr<=l.to/\ziv l.pf l.pt l.pd=0/\(0<=l.mo/\l.mo<=999999999):=by
 unfold zgr;rw[zb2];simp only[List.mem_cons,List.not_mem_nil,or_false,forall_eq_or_imp,forall_eq,zib];have e1:(if(!yrw l.ki)=true then(13:Int)else 0)=0↔yrw l.ki=true:=by cases yrw l.ki<;>simp
 have e2:(if l.to<l.fr then(11:Int)else 0)=0↔l.fr<=l.to:=by split<;>omega
 rw[e1,e2]
theorem zm5{l:Lmt}(h:zgr l=0):0<=zgo l/\zgo l<=1440:=by
 obtain⟨_,_,_,_,h1,h2,h3,h4,_⟩:=zhx.1 h;unfold zgo;have a1:l.to/l.st<=l.to:=Int.ediv_le_self _ h3.1;have a2:0<=(l.fr+l.st-1)/l.st:=Int.ediv_nonneg (by omega) (by omega);have a3:(l.fr+l.st-1)/l.st<=(l.to+l.st-1)/l.st:=Int.ediv_le_ediv (by omega) (by omega)
 have a4:(l.to+l.st-1)/l.st<=l.to/l.st+1:=by
  have:(l.to+l.st-1)/l.st<=(l.to+l.st*1)/l.st:=Int.ediv_le_ediv (by omega) (by omega);rw[Int.add_mul_ediv_left _ _ (by omega)]at this;exact this
 omega
theorem yhf(l:List Lmt)(k:Nat)(h:k<l.length):zlw (l.take (k+1))=zlw (l.take k)+yhe l[k]:=by
 rw[List.take_add_one,List.getElem?_eq_getElem h]
 have key:∀(a b:List Lmt),zlw (a++b)=zlw a+zlw b:=by
  intro a b;induction a with
  |nil=>simp[zlw]
  |cons x a ih=>simp only[List.cons_append,zlw,ih];omega
 rw[key];simp[zlw]
theorem yh0(l:Lmt)(h:yw1 l.pf l.pt l.pd 24=true)(hc:ziv l.pf l.pt l.pd=0):(yfa l).length<=24:=by
 unfold yw1 at h;simp only[hc,ne_eq,not_true_eq_false,decide_false,Bool.false_or,decide_eq_true_eq]at h;have:=ziw l.pf l.pd (l.pt-l.pf+1).toNat;unfold yfa;omega
theorem z5x(l:Lmt)(h:znv l=true):0<=yhe l/\yhe l<=34560:=by
 unfold yhe
 split
 ·rename_i hc;have h1:=zm5 hc;unfold znv at h;simp only[Bool.and_eq_true]at h;have h2:=yh0 l h.2 (zhx.1 hc).2.2.2.2.2.2.2.2.1
  constructor
  ·exact Int.mul_nonneg h1.1 (by omega)
  exact Int.le_trans (Int.mul_le_mul h1.2 (show((yfa l).length:Int)<=24 by omega) (by omega) (by omega)) (by omega)
 omega
theorem z1f:∀(l:List Lmt),l.all znv=true->0<=zlw l/\zlw l<=34560*l.length
 |[],_=>by simp[zlw]
 |x::l,h=>by
  simp only[List.all_cons,Bool.and_eq_true]at h;have h1:=z5x x h.1;have h2:=z1f l h.2;simp only[zlw,List.length_cons];omega
section
variable{E:Oracle}(g:Good E)
include g
theorem z49(n a b:Int):Fc E zfr [I n,I a,I b] (B (decide (n<a\/b<n))):=by
 refine g.fn rfl rfl ?_
 by_cases h1:n<a
 ·rw[decide_eq_true (.inl h1)]
  repeat'((conv=>whnf);first|refine Yz ?_|(refine Ret.mk rfl))
 by_cases h2:b<n
 ·rw[decide_eq_true (.inr h2)]
  repeat'((conv=>whnf);first|refine Yz ?_|(refine Ret.mk rfl))
 rw[decide_eq_false (by omega)]
 repeat'((conv=>whnf);first|refine Yz ?_|(refine Ret.mk rfl))
theorem yow(l:Lmt):Fc E zh9 [Lmv l] (I (zgr l)):=by
 refine g.fn rfl rfl ?_;have n1:=zva g l.nm;have n2:=ydf g l.te;have o1:=z49 g l.le 1 1440;have o2:=z49 g l.st 1 1440;have o3:=z49 g l.fr 0 1439;have o4:=z49 g l.to 0 1439;have o5:=z49 g l.mo 0 999999999;have hp:=zss g l.pf l.pt l.pd;unfold zgr nmE opE yrw;rw[z5e l.le,z5e l.st,z5e l.fr,z5e l.to,z5e l.mo];generalize zcd l.nm=b1 at*;generalize yr9 l.te=b2 at*;generalize decide (l.le<1\/1440<l.le)=c1 at*;generalize decide (l.st<1\/1440<l.st)=c2 at*;generalize decide (l.fr<0\/1439<l.fr)=c3 at*;generalize decide (l.to<0\/1439<l.to)=c4 at*;generalize decide (l.mo<0\/999999999<l.mo)=c5 at*;generalize ziv l.pf l.pt l.pd=cp at*
 repeat'((conv=>whnf);first|refine Yz ?_|(apply zaf.of;assumption)|(refine Cmp.mk (λh=>?_) (λh=>?_))|(refine Rem.any (by omega) (λr hr he=>?_))|(refine Br.mk (λh=>?_) (λh=>?_))|(refine Ret.mk ?_))
 all_goals simp_all[zar]
theorem yot(l:List Lmt)(q:List UInt8)(hl:l.length<=1000000):Fc E zpb [LLm l,S q] (I (yba (zmk l) q 0)):=by
 refine g.fn rfl rfl ?_;generalize hA:yba (zmk l) q 0=A
 repeat'((conv=>whnf);first|refine Yz ?_)
 refine zab.to (zab.upP g (λk=>[(0,LLm l),(1,S q),(5,I k)]) (λ_=>_) (λk=>yba (zmk (l.drop k)) q k=A) l.length (λk hk h0 ih=>?_) 0 (Nat.zero_le _) hA) rfl rfl
 by_cases hlt:k<l.length
 ·rw[List.drop_eq_getElem_cons hlt,zmk,List.map_cons,yba]at h0;have ih:=ih hlt
  by_cases hd:l[k].nm=q
  ·rw[if_pos hd.symm]at h0;subst h0
   repeat'((conv=>whnf);first|refine Yz ?_|refine zgp.rec Lmt.cells_length k rfl hlt rfl ?_|refine Cmp.tt hd ?_|(refine Ret.mk rfl))
  rw[if_neg (Ne.symm hd)]at h0;have ih:=ih h0
  repeat'((conv=>whnf);first|refine Yz ?_|refine zgp.rec Lmt.cells_length k rfl hlt rfl ?_|refine Cmp.ff hd ?_|(refine zab.to ih rfl rfl))
 rw[List.drop_eq_nil_of_le (by omega),zmk,List.map_nil,yba]at h0;subst h0
 repeat'((conv=>whnf);first|refine Yz ?_|(refine Ret.mk rfl))
theorem yal(l:List Lmt)(hl:l.length<=1000000):Fc E zkx [LLm l] (I (zj8 l)):=by
 refine g.fn rfl rfl ?_;unfold zj8
 by_cases hm:32<l.length
 ·rw[if_pos hm]
  repeat'((conv=>whnf);first|refine Yz ?_|(refine Ret.mk rfl))
 rw[if_neg hm];generalize hR:zv4 [] l=R
 repeat'((conv=>whnf);first|refine Yz ?_)
 refine zab.to (zab.upP g (λk=>[(0,LLm l),(3,I k)]) (λ_=>[]) (λk=>zv4 (zmk (l.take k)) (l.drop k)=R) l.length (λk hk h0 ih=>?_) 0 (Nat.zero_le _) hR) rfl rfl
 by_cases hlt:k<l.length
 ·have hs:zmk (l.take (k+1))=zmk (l.take k)++[l[k].nm]:=yi9 Lmt.nm hlt;rw[List.drop_eq_getElem_cons hlt,zv4,<-hs]at h0;have ih:=ih hlt;have hc:=yow g l[k];have hn:=yot g (l.take k) l[k].nm (by simp;omega);have ht:=ygx Lmt.cells 11 Lmt.cells_length l k (by omega);have hm:=z91 l[k].nm (zmk (l.take k)) 0;generalize yba (zmk (l.take k)) l[k].nm 0=r at*
  have hq:z6k (zmk (l.take k)) l[k]=if zgr l[k]=0 then if 0<=r then 9 else 0 else zgr l[k]:=by
   unfold z6k zar zar zar
   by_cases hr:0<=r
   ·rw[if_pos (hm.1 hr),if_pos hr];rfl
   rw[if_neg (λh=>hr (hm.2 h)),if_neg hr];rfl
  rw[hq]at h0;generalize zgr l[k]=x at*
  by_cases hz:x=0
  ·rw[if_pos hz]at h0
   by_cases hr:0<=r
   ·simp only[if_pos hr]at h0;rw[if_neg (by decide)]at h0;rw[<-h0]
    repeat'((conv=>whnf);first|refine Yz ?_|refine za2.rec Lmt.cells_length k rfl hlt ?_|refine zgp.rec Lmt.cells_length k rfl hlt rfl ?_|(refine zom.at 0 k rfl rfl (by omega) ?_<;>(try rw[ht]))|(apply zaf.of;assumption)|refine Cmp.ff (λh=>h hz) ?_|(refine Ret.mk rfl))
   simp only[if_neg hr,if_true]at h0;replace ih:=ih h0
   repeat'((conv=>whnf);first|refine Yz ?_|refine za2.rec Lmt.cells_length k rfl hlt ?_|refine zgp.rec Lmt.cells_length k rfl hlt rfl ?_|(refine zom.at 0 k rfl rfl (by omega) ?_<;>(try rw[ht]))|(apply zaf.of;assumption)|refine Cmp.ff (λh=>h hz) ?_|(refine zab.to ih rfl rfl))
  rw[if_neg hz]at h0;rw[if_neg hz]at h0;rw[<-h0]
  repeat'((conv=>whnf);first|refine Yz ?_|refine za2.rec Lmt.cells_length k rfl hlt ?_|(apply zaf.of;assumption)|refine Cmp.tt hz ?_|(refine Ret.mk rfl))
 rw[List.drop_eq_nil_of_le (by omega),zv4]at h0;rw[<-h0]
 repeat'((conv=>whnf);first|refine Yz ?_|(refine Ret.mk rfl))
theorem yz2(f t d n:Int):Fc E zxd [Per f t d,I n] (B (yw1 f t d n)):=by
 refine g.fn rfl rfl ?_;have hp:=zss g f t d;unfold yw1
 by_cases hz:ziv f t d=0
 ·have hb:=zfl.1 hz
  by_cases hlt:t-f<n
  ·rw[hz,decide_eq_true hlt];rw[hz]at hp
   repeat'((conv=>whnf);first|refine Yz ?_|(apply zaf.of;assumption)|(refine Ret.mk rfl))
  rw[hz,decide_eq_false hlt];rw[hz]at hp
  repeat'((conv=>whnf);first|refine Yz ?_|(apply zaf.of;assumption)|(refine Ret.mk rfl))
 rw[decide_eq_true hz]
 repeat'((conv=>whnf);first|refine Yz ?_|(apply zaf.of;assumption)|refine Cmp.tt hz ?_|(refine Ret.mk rfl))
theorem ysi(l:Lmt)(h:zgr l=0):Fc E zqz [Lmv l] (I (zgo l)):=by
 refine g.fn rfl rfl ?_;obtain⟨_,_,_,_,h1,h2,h3,h4,_⟩:=zhx.1 h;have a1:l.to/l.st<=l.to:=Int.ediv_le_self _ h3.1;have a2:0<=(l.fr+l.st-1)/l.st:=Int.ediv_nonneg (by omega) (by omega);have a3:(l.fr+l.st-1)/l.st<=l.fr+l.st-1:=Int.ediv_le_self _ (by omega);have a4:0<=l.to/l.st:=Int.ediv_nonneg (by omega) (by omega)
 repeat'((conv=>whnf);first|refine Yz ?_|(refine Ret.mk rfl))
theorem yam(l:List Lmt)(hl:l.length<=3):Fc E zky [LLm l,I 3] (B (l.all znv&&decide (zlw l<=400))):=by
 refine g.fn rfl rfl ?_;generalize hR:(l.all znv&&decide (zlw l<=400))=R
 repeat'((conv=>whnf);first|refine Yz ?_)
 refine zab.to (zab.upP g (λk=>[(0,LLm l),(5,I (zlw (l.take k))),(6,I k)]) (λ_=>[]) (λk=>(l.take k).all znv=true) l.length (λk hk h0 ih=>?_) 0 (Nat.zero_le _) rfl) rfl rfl
 by_cases hlt:k<l.length
 ·have hs:(l.take (k+1)).all znv=((l.take k).all znv&&znv l[k]):=by
   rw[List.take_add_one,List.getElem?_eq_getElem hlt,List.all_append];simp
  have hall:znv l[k]=false->R=false:=λhf=>by
   rw[<-hR]
   have:l.all znv=false:=by
    rw[List.all_eq_false];exact⟨l[k],List.getElem_mem hlt,by rw[hf];decide⟩
   rw[this,Bool.false_and]
  have hsum:=yhf l k hlt;have ih:=ih hlt;have hfw:=yz2 g l[k].pf l[k].pt l[k].pd 24;have hc:=yow g l[k];have hst:=ysi g l[k];have hdy:=ysf g l[k].pf l[k].pt l[k].pd;have hr0:=z1f (l.take k) h0;have hlk:(l.take k).length=k:=by rw[List.length_take];omega
  rw[hlk]at hr0;rw[hs,h0,Bool.true_and]at ih;have hsr:=z5x l[k];rw[hsum]at ih;cases hsh:znv l[k]with
  | false=>
   rw[hall hsh];clear ih hsr hst hdy hc;unfold znv at hsh;simp only[Bool.and_eq_false_iff,decide_eq_false_iff_not]at hsh;generalize yw1 l[k].pf l[k].pt l[k].pd 24=b at*
   repeat'((conv=>whnf);first
   | refine Yz ?_
    | (refine zgp.rec Lmt.cells_length k rfl hlt rfl ?_)
    | (refine za2.part Lmt.cells_length k rfl hlt (by decide) rfl ?_)
    | (apply zaf.of;assumption)
    | (refine Cmp.mk (λh=>?_) (λh=>?_))|(refine Rem.any (by omega) (λr hr he=>?_))|(refine Br.mk (λh=>?_) (λh=>?_))
    | (refine Ret.mk rfl)
    | (exfalso;simp_all;omega)
    | fail)
  | true=>
   replace ih:=ih hsh;have hsr:=hsr hsh;have hsh0:=hsh;unfold znv at hsh;simp only[Bool.and_eq_true,decide_eq_true_eq]at hsh;obtain⟨⟨⟨s1,s2⟩,s3⟩,s4⟩:=hsh;rw[s4]at hfw
   by_cases hz:zgr l[k]=0
   ·have hz2:=zhx.1 hz;have hdl:=yh0 l[k] s4 hz2.2.2.2.2.2.2.2.2.1;replace hst:=hst hz;replace hdy:=hdy hz2.2.2.2.2.2.2.2.2.1;have hsr2:=zm5 hz;have e:yhe l[k]=zgo l[k]*(yfa l[k]).length:=if_pos hz;rw[e]at ih hsr;change Fc E zmn _ (LI (yfa l[k]))at hdy;rw[hz]at hc;generalize zgo l[k]=x at*;generalize yfa l[k]=ds at*
    repeat'((conv=>whnf);first|refine Yz ?_|refine zgp.rec Lmt.cells_length k rfl hlt rfl ?_|refine za2.part Lmt.cells_length k rfl hlt (by decide) rfl ?_|refine za2.rec Lmt.cells_length k rfl hlt ?_|(apply zaf.of;assumption)|refine zab.to ih rfl rfl|fail)
   have e:yhe l[k]=0:=if_neg hz;rw[e,Int.add_zero]at ih
   repeat'((conv=>whnf);first|refine Yz ?_|refine zgp.rec Lmt.cells_length k rfl hlt rfl ?_|refine za2.part Lmt.cells_length k rfl hlt (by decide) rfl ?_|refine za2.rec Lmt.cells_length k rfl hlt ?_|(apply zaf.of;assumption)|refine Cmp.ff hz ?_|refine zab.to ih rfl rfl|fail)
 have hk':k=l.length:=by omega
 subst hk';rw[List.take_length]at*;rw[h0,Bool.true_and]at hR;rw[<-hR]
 by_cases hle:zlw l<=400
 ·rw[decide_eq_true hle]
  repeat'((conv=>whnf);first|refine Yz ?_|(refine Ret.mk rfl))
 rw[decide_eq_false hle]
 repeat'((conv=>whnf);first|refine Yz ?_|(refine Ret.mk rfl))
end
def yqs(q:Rqt)(d:Int):Mvt:=⟨1440*d+q.mi,q.ki,q.te,q.se,q.si,q.no,q.nm⟩
def z9j(q:Rqt):List Int:=zm0 q.fr q.da (q.to-q.fr+1).toNat
def yf2(q:Rqt):List Mvt:=(z9j q).map (yqs q)
theorem z4u{f d x:Int}:∀k:Nat,x∈zm0 f d k↔f<=x/\x<f+k/\inM d ((x+5)%7)=true
 |0=>by simp[zm0];omega
 |k+1=>by
  rw[zm0,List.mem_append,z4u k]
  by_cases h:inM d ((f+k+5)%7)=true
  ·rw[if_pos h];simp only[List.mem_singleton]
   constructor
   ·rintro(⟨h1,h2,h3⟩|rfl)
    ·exact⟨h1,by omega,h3⟩
    exact⟨by omega,by omega,h⟩
   rintro⟨h1,h2,h3⟩
   by_cases e:x=f+k
   ·exact .inr e
   exact .inl ⟨h1,by omega,h3⟩
  rw[if_neg h];simp only[List.not_mem_nil,or_false]
  constructor
  ·rintro⟨h1,h2,h3⟩;exact⟨h1,by omega,h3⟩
  rintro⟨h1,h2,h3⟩
  by_cases e:x=f+k
  ·subst e;exact absurd h3 h
  exact⟨h1,by omega,h3⟩
section
variable{E:Oracle}(g:Good E)
include g
theorem ygs(q:Rqt)(h:zt3 q=0):Fc E zj0 [Rqv q] (LMv (yf2 q)):=by
 refine g.fn rfl rfl ?_;unfold zt3 at h;rw[zb2]at h;simp only[List.mem_cons,List.not_mem_nil,or_false,forall_eq_or_imp,forall_eq,zib]at h;obtain⟨_,_,_,hp,hm,_⟩:=h;have hpz:=zfl.1 hp;have hd:=ygq g q.fr q.to q.da hp;change Fc E zje _ (.tup [LI (z9j q),I 0])at hd
 have hmem:∀x∈z9j q,0<=x/\x<=99999:=λx hx=>by
  have:=(z4u _).1 hx;omega
 have hlen:(z9j q).length<=401:=by
  have:=ziw q.fr q.da (q.to-q.fr+1).toNat;unfold z9j;omega
 unfold yf2;generalize z9j q=ds at*
 repeat'((conv=>whnf);first|refine Yz ?_|(refine zaf.of hd ?_))
 refine zab.to (zab.up g (λk=>[(1,.ptr ⟨0,1,0⟩ 0 0),(5,.ref ⟨0,5,0⟩ 0 ((ds.take k).map (yqs q)).length ((ds.take k).map (yqs q)).length),(14,LI ds),(15,I ds.length),(16,I k)])
  (λk=>[(⟨0,1,0⟩,.cells zcx [S q.nm,S q.ca,S q.ki,S q.te,S q.pa,S q.li,I q.fr,I q.to,I q.da,I q.mi,I q.se,I q.si,I q.no]),(⟨0,2,0⟩,.row false zac 7 0 []),(⟨0,5,0⟩,.row false zac 7 ((ds.take k).map (yqs q)).length (((ds.take k).map (yqs q)).flatMap Mvt.cells))]) ds.length (λk hk ih=>?_) 0 (Nat.zero_le _)) rfl rfl
 by_cases hlt:k<ds.length
 ·have ih:=ih hlt
  have e:(ds.take (k+1)).map (yqs q)=(ds.take k).map (yqs q)++[yqs q ds[k]]:=by
   rw[List.take_add_one,List.getElem?_eq_getElem hlt,List.map_append];rfl
  rw[e]at ih;have hx:=hmem ds[k] (List.getElem_mem hlt);have hl:((ds.take k).map (yqs q)).length=k:=by rw[List.length_map,List.length_take];omega
  generalize(ds.take k).map (yqs q)=A at*;have hfl:=zae Mvt.cells 7 Mvt.cells_length A
  repeat'((conv=>whnf);first|refine Yz ?_|refine zgp.intI k rfl hlt ?_|refine zem.mk (by simp;omega) ?_|(refine zab.to ih ?_ ?_))
  ·simp only[List.length_append,List.length_singleton];rfl
  simp only[List.length_append,List.length_singleton,List.flatMap_append];rfl
 have hk':k=ds.length:=by omega
 subst hk';rw[List.take_length]
 repeat'((conv=>whnf);first|refine Yz ?_|(refine Ret.mk ?_))
 simp
theorem z5k(q:Rqt)(h:zt3 q=0):Fc E zgv [Rqv q] (.tup [LMv (yf2 q),I 0]):=by
 refine g.fn rfl rfl ?_;have h1:=yv8 g q;rw[h]at h1;have h2:=ygs g q h
 repeat'((conv=>whnf);first|refine Yz ?_|(apply zaf.of;assumption)|(refine Ret.mk rfl))
end
section
variable{E:Oracle}(g:Good E)
include g
theorem yjw(a:List UInt8):Fc E zh6 [S a] (B false):=by
 refine g.fn rfl rfl ?_
 repeat'((conv=>whnf);first|refine Yz ?_|refine Cmp.tt rfl ?_|(refine Ret.mk rfl))
theorem yjv(a:Int):Fc E zi0 [I a] (B false):=by
 refine g.fn rfl rfl ?_
 repeat'((conv=>whnf);first|refine Yz ?_|refine Cmp.tt rfl ?_|(refine Ret.mk rfl))
end
def yl6(l:List Int)(i j:Nat):List Int:=(l.set i (l.getD j 0)).set j (l.getD i 0)
def idL(n:Nat):List Int:=(List.range n).map λ(i:Nat)=>(i:Int)
theorem z7o(n:Nat):(idL n).length=n:=by simp[idL]
theorem yd8(l:List Int)(i j:Nat):(yl6 l i j).length=l.length:=by simp[yl6]
theorem zmm(l:List Int)(i k:Nat)(v:Int)(h:i<l.length):(l.set i v).getD k 0=if i=k then v else l.getD k 0:=by
 simp only[List.getD,List.getElem?_set]
 split
 ·subst_vars;simp
 rfl
theorem ykw(l:List Int)(i j k:Nat)(hi:i<l.length)(hj:j<l.length):(yl6 l i j).getD k 0=if j=k then l.getD i 0 else if i=k then l.getD j 0 else l.getD k 0:=by
 unfold yl6;rw[zmm _ _ _ _ (by simpa using hj),zmm _ _ _ _ hi]
structure Ord(n:Nat)(l:List Int):Prop where
 len:l.length=n
 rng:∀k,k<n->0<=l.getD k 0/\l.getD k 0<n
 inj:∀i j,i<n->j<n->l.getD i 0=l.getD j 0->i=j
theorem Ord.swap{n:Nat}{l:List Int}(h:Ord n l){i j:Nat}(hi:i<n)(hj:j<n):Ord n (yl6 l i j):=by
 have hl:=h.len
 have e:∀k,(yl6 l i j).getD k 0=l.getD (if j=k then i else if i=k then j else k) 0:=λk=>by
  rw[ykw l i j k (by omega) (by omega)]
  split
  ·rfl
  split<;>rfl
 refine⟨by rw[yd8];exact hl,λk hk=>?_,λa b ha hb hab=>?_⟩
 ·rw[e];refine h.rng _ ?_
  split
  ·exact hi
  split
  ·exact hj
  exact hk
 rw[e,e]at hab;have:=h.inj _ _ (by split;exact hi;split;exact hj;exact ha) (by split;exact hi;split;exact hj;exact hb) hab;split at this<;>split at this<;>(try split at this)<;>(try split at this)<;>omega
theorem Ord.id(n:Nat):Ord n (idL n):=by
 have e:∀k,k<n->(idL n).getD k 0=k:=λk hk=>by simp[idL,List.getD,hk]
 refine⟨z7o n,λk hk=>?_,λi j hi hj h=>?_⟩
 ·rw[e k hk];omega
 rw[e i hi,e j hj]at h;omega
end Go.Proofs.YtkflcbhclegghaaGreatDoor.Co
