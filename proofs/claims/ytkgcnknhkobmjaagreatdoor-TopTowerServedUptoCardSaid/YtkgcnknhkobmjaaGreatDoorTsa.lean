/-
  TopTowerServed: what its law leans on, part 1.
-/
import Derived.Laws.RangeAny
import Derived.Lib.SplitLaws
import Derived.Test.YtkgcnknhkobmjaaGreatDoorEvX
import Derived.Test.YtkgcnknhkobmjaaGreatDoorRead
import Derived.Test.YtkgcnknhkobmjaaGreatDoorSpBase
namespace Go.Proofs.YtkgcnknhkobmjaaGreatDoor.Co
open Go Go.Evl
set_option maxHeartbeats 32000000
set_option maxRecDepth 100000
def rng (n a b:Int):Int:=if n<a\/b<n then 3 else 0
def zap:List Int->Int
 | []=>0
 | x::r=>if x=0 then zap r else x
theorem za5:∀l:List Int,zap l=0↔∀x∈l,x=0
 | []=>by simp [zap]
 | x::r=>by
  simp only [zap,List.mem_cons,forall_eq_or_imp]
  split
  ·rename_i h;rw [za5 r];exact⟨fun hr=>⟨h,hr⟩,fun hr=>hr.2⟩
  ·rename_i h;exact⟨fun hr=>absurd hr h,fun hr=>absurd hr.1 h⟩
theorem ylp (n a b:Int):0<=rng n a b/\rng n a b<=3:=by unfold rng;split<;>omega
theorem zfe {n a b:Int}:rng n a b=0↔a<=n/\n<=b:=by unfold rng;split<;>omega
section
variable {E : Oracle} (g : Good E)
include g
theorem yqr (b:Bool) (e:Int):Fc E zhe [B b,I e] (I (if b then e else 0)):=by
 refine g.fn rfl rfl ?_
 cases b
 all_goals repeat' ((conv=>whnf);first
 | refine Yz ?_
  | (refine Ret.mk rfl))
theorem ygl (n a b:Int):Fc E zd2 [I n,I a,I b] (I (rng n a b)):=by
 refine g.fn rfl rfl ?_
 repeat' ((conv=>whnf);first
 | refine Yz ?_
  | (refine Cmp.mk (fun h=> ?_) (fun h=> ?_))|(refine Rem.any (by omega) (fun r hr he=> ?_))|(refine Br.mk (fun h=> ?_) (fun h=> ?_))
  | (refine zae.of (yqr g _ _) ?_)
  | (refine Ret.mk ?_))
 all_goals (simp only [V.d.injEq,D.int.injEq,true_and,rng];simp_all)
omit g in
theorem zp7 (l:List Int) (k:Nat) (h:k<l.length):zap (l.drop k)=if l.getD k 0=0 then zap (l.drop (k+1)) else l.getD k 0:=by
 rw [List.drop_eq_getElem_cons h]
 simp [zap,List.getD,h]
theorem yly (l:List Int) (hl:l.length<=140737488355328):Fc E zco [LI l] (I (zap l)):=by
 refine g.fn rfl rfl ?_
 conv=>whnf
 refine zaf.upP g (fun k=>[(5,LI l),(6,I l.length),(7,I k)]) (fun _=>[]) (fun k=>zap l=zap (l.drop k)) l.length (fun k hk hp ih=> ?_) 0 (Nat.zero_le _) (by simp)
 by_cases hlt:k<l.length
 ·have hd:=zp7 l k hlt
  repeat' ((conv=>whnf);first
  | refine Yz ?_
   | (refine zg4.int (by omega) ?_)
   | (refine Cmp.mk (fun h=> ?_) (fun h=> ?_))|(refine Rem.any (by omega) (fun r hr he=> ?_))|(refine Br.mk (fun h=> ?_) (fun h=> ?_))
   | (refine zaf.to (ih hlt ?_) ?_ rfl)
   | (refine Ret.mk ?_))
  all_goals simp_all
 ·have:l.drop k=[]:=List.drop_eq_nil_of_le (by omega)
  repeat' ((conv=>whnf);first
  | refine Yz ?_
   | (refine Ret.mk ?_))
  simp [hp,this,zap]
theorem ygh (a b:Int):Fc E zco [.d (.list 2 [DI a,DI b])] (I (zap [a,b])):=yly g [a,b] (by simp)
theorem ypb (a b c:Int):Fc E zco [.d (.list 3 [DI a,DI b,DI c])] (I (zap [a,b,c])):=yly g [a,b,c] (by simp)
theorem z6c (n:Int):Fc E zea [I n] (I (rng n 0 99999)):=by
 refine g.fn rfl rfl ?_
 repeat' ((conv=>whnf);first
 | refine Yz ?_
  | (refine zae.of (ygl g _ _ _) ?_)
  | (refine Ret.mk rfl))
theorem zsa (n a b:Int):Fc E zcj [I n,I a,I b] (I (rng n a b)):=by
 refine g.fn rfl rfl ?_
 repeat' ((conv=>whnf);first
 | refine Yz ?_
  | (refine Cmp.mk (fun h=> ?_) (fun h=> ?_))|(refine Rem.any (by omega) (fun r hr he=> ?_))|(refine Br.mk (fun h=> ?_) (fun h=> ?_))
  | (refine Ret.mk ?_))
 all_goals (simp only [V.d.injEq,D.int.injEq,true_and,rng];simp_all)
theorem yh1 (n:Int):Fc E zih [I n] (I (rng n 0 99999)):=by
 refine g.fn rfl rfl ?_
 repeat' ((conv=>whnf);first
 | refine Yz ?_
  | (refine zae.of (zsa g _ _ _) ?_)
  | (refine Ret.mk rfl))
theorem yr3 (l:List Int) (hl:l.length<=140737488355328):Fc E zly [LI l] (I (zap l)):=by
 refine g.fn rfl rfl ?_
 conv=>whnf
 refine zaf.upP g (fun k=>[(0,LI l),(3,I k)]) (fun _=>[]) (fun k=>zap l=zap (l.drop k)) l.length (fun k hk hp ih=> ?_) 0 (Nat.zero_le _) (by simp)
 by_cases hlt:k<l.length
 ·have hd:=zp7 l k hlt
  repeat' ((conv=>whnf);first
  | refine Yz ?_
   | (refine zg4.int (by omega) ?_)
   | (refine Cmp.mk (fun h=> ?_) (fun h=> ?_))|(refine Rem.any (by omega) (fun r hr he=> ?_))|(refine Br.mk (fun h=> ?_) (fun h=> ?_))
   | (refine zaf.to (ih hlt ?_) ?_ rfl)
   | (refine Ret.mk ?_))
  all_goals simp_all
 ·have:l.drop k=[]:=List.drop_eq_nil_of_le (by omega)
  repeat' ((conv=>whnf);first
  | refine Yz ?_
   | (refine Ret.mk ?_))
  simp [hp,this,zap]
omit g in
def zht (f t d:Int):Int:=if f<0\/99999<f\/t<0\/99999<t then 3 else if t<f then 11 else if 400<t-f then 4 else rng d 1 127
omit g in
theorem zf0 {f t d:Int}:zht f t d=0↔0<=f/\f<=t/\t<=99999/\t-f<=400/\1<=d/\d<=127:=by
 unfold zht rng
 repeat' split
 all_goals omega
omit g in
theorem ypu (f t:Int):zap [rng f 0 99999,rng t 0 99999]=0↔(0<=f/\f<=99999/\0<=t/\t<=99999):=by
 simp only [zap];unfold rng
 repeat' split
 all_goals omega
omit g in
theorem ysm (f t:Int) (h:zap [rng f 0 99999,rng t 0 99999]≠0):zap [rng f 0 99999,rng t 0 99999]=3:=by
 simp only [zap] at h ⊢;unfold rng at h ⊢
 repeat' split
 all_goals (try omega)
 all_goals simp_all
theorem zj1 (f t d:Int):Fc E zb3 [Per f t d] (I (zht f t d)):=by
 refine g.fn rfl rfl ?_
 have k1:=ypu f t
 have k2:=ysm f t
 have k3:=ylp d 1 127
 repeat' ((conv=>whnf);first
 | refine Yz ?_
  | (refine zae.of (z6c g _) ?_)
  | (refine zae.of (ygh g _ _) ?_)
  | (refine zae.of (yqr g _ _) ?_)
  | (refine zae.of (ygl g _ _ _) ?_)
  | (refine zae.of (ypb g _ _ _) ?_)
  | (refine Cmp.mk (fun h=> ?_) (fun h=> ?_))|(refine Rem.any (by omega) (fun r hr he=> ?_))|(refine Br.mk (fun h=> ?_) (fun h=> ?_))
  | (refine Ret.mk ?_))
 all_goals (simp only [V.d.injEq,D.int.injEq,true_and,zht])
 all_goals first
  | (rw [if_pos (by omega)];omega)
  | (simp [zap];repeat' split;all_goals omega)
theorem zqd (f t d:Int):Fc E zef [Per f t d] (I (zht f t d)):=by
 refine g.fn rfl rfl ?_
 have k1:=@zfe f 0 99999
 have k2:=@zfe t 0 99999
 repeat' ((conv=>whnf);first
 | refine Yz ?_
  | (refine zae.of (yh1 g _) ?_)
  | (refine zae.of (zsa g _ _ _) ?_)
  | (refine Cmp.mk (fun h=> ?_) (fun h=> ?_))|(refine Rem.any (by omega) (fun r hr he=> ?_))|(refine Br.mk (fun h=> ?_) (fun h=> ?_))
  | (refine Ret.mk ?_))
 all_goals (simp only [V.d.injEq,D.int.injEq,true_and,zht])
 all_goals (repeat' split)
 all_goals first
  | rfl
  | omega
omit g in
def inM (m w:Int):Bool:=decide (m/2^w.toNat%2=1)
theorem yo1 (m w:Int) (hm:0<=m/\m<=127) (hw:0<=w/\w<=6):Fc E zou [I m,I w] (B (inM m w)):=by
 refine g.fn rfl rfl ?_
 conv=>whnf
 refine zaf.to (zaf.up g (fun k=>[(0,I (m/2^k)),(1,I w),(5,I k)]) (fun _=>[]) w.toNat (fun k hk ih=> ?_) 0 (Nat.zero_le _)) ?_ rfl
 ·have h0:0<=m/2^k:=Int.ediv_nonneg hm.1 (Int.pow_nonneg (by decide))
  have h1:m/2^k<=m:=Int.ediv_le_self _ hm.1
  have h2:m/2^k/2=m/2^(k+1):=by rw [Int.pow_succ,Int.ediv_ediv_of_nonneg (Int.pow_nonneg (by decide))]
  by_cases hlt:k<w.toNat
  ·repeat' ((conv=>whnf);first
  | refine Yz ?_
    | (refine zaf.to (ih hlt) ?_ rfl)
    | (refine Ret.mk ?_))
   simp [h2]
  ·have:k=w.toNat:=by omega
   subst this
   repeat' ((conv=>whnf);first
   | refine Yz ?_
    | (refine Cmp.mk (fun h=> ?_) (fun h=> ?_))|(refine Rem.any (by omega) (fun r hr he=> ?_))|(refine Br.mk (fun h=> ?_) (fun h=> ?_))
    | (refine Ret.mk ?_))
   all_goals simp_all [inM]
 ·simp
end
theorem ybm.at {s:List UInt8} {i:Nat} {K:UInt8->Prop} (k:Nat) (hi:i=k) (h:k<s.length) (hk:K (s.getD k 0)):ybm s i K:=by
 subst hi
 exact⟨⟨_,by simp [List.getD,h],hk⟩⟩
theorem ztw.asc {s:List UInt8} {k:Nat} {a:Int->Nat->Prop} {b:Prop} (h:k<s.length) (ha:(s.getD k 0).toNat<128) (hk:a (s.getD k 0).toNat 1):ztw s k a b:=by
 refine⟨fun _=> ?_,fun hn=>absurd h hn⟩
 have e:(s.getD k 0)=s[k]:=by simp [List.getD,h]
 have hd:=decode_ascii ⟨s.toArray⟩ k (by simpa [ByteArray.size] using h) (by rw [e] at ha;exact ha)
 rw [hd]
 rw [e] at hk
 exact hk
theorem ztw.high {s:List UInt8} {k:Nat} {a:Int->Nat->Prop} {b:Prop} (h:k<s.length) (ha:128<=(s.getD k 0).toNat) (hk:∀(c:Int) (w:Nat),128<=c->1<=w->a c w):ztw s k a b:=by
 refine⟨fun _=> ?_,fun hn=>absurd h hn⟩
 have e:(s.getD k 0)=s[k]:=by simp [List.getD,h]
 have hd:=decode_high ⟨s.toArray⟩ k (by simpa [ByteArray.size] using h) (by rw [e] at ha;exact ha)
 exact hk _ _ (by omega) hd.2
theorem ztw.end' {s:List UInt8} {k:Nat} {a:Int->Nat->Prop} {b:Prop} (h:s.length<=k) (hk:b):ztw s k a b:=⟨fun hn=>absurd hn (by omega),fun _=>hk⟩
def yc2 (k:Nat) (b:UInt8):Prop:=(65<=b.toNat/\b.toNat<=90)\/(97<=b.toNat/\b.toNat<=122)\/(0<k/\(b.toNat=95\/(48<=b.toNat/\b.toNat<=57)))
instance (k:Nat) (b:UInt8):Decidable (yc2 k b):=by unfold yc2;infer_instance
def yrt (s:List UInt8):Prop:=0<s.length/\s.length<=24/\∀i,i<s.length->yc2 i (s.getD i 0)
instance (s:List UInt8):Decidable (yrt s):=by unfold yrt;infer_instance
def zfl (s:List UInt8):Bool:=decide (yrt s)
theorem z2f {s:List UInt8} {k:Nat} (hk:k<s.length) (h:¬yc2 k (s.getD k 0)):zfl s=false:=decide_eq_false fun hn=>h (hn.2.2 k hk)
section
variable {E : Oracle} (g : Good E)
include g
theorem zqf (s:List UInt8):Fc E zb0 [S s] (B (zfl s)):=by
 refine g.fn rfl rfl ?_
 by_cases h0:0<s.length/\s.length<=24
 ·repeat' ((conv=>whnf);first
 | refine Yz ?_)
  refine zaf.to (zaf.upP g (fun _=>[(15,.it ⟨0,15,0⟩)]) (fun k=>[(⟨0,15,0⟩,.iter s k)]) (fun k=>∀i,i<k->yc2 i (s.getD i 0)) s.length (fun k hk hp ih=> ?_) 0 (Nat.zero_le _) (fun i hi=>by omega)) rfl rfl
  by_cases hlt:k<s.length
  ·by_cases ha:(s.getD k 0).toNat<128
   ·by_cases hok:yc2 k (s.getD k 0)
    ·have hp':∀i,i<k+1->yc2 i (s.getD i 0):=fun i hi=>by
      by_cases e:i=k
      ·subst e;exact hok
      ·exact hp i (by omega)
     have ih:=ih hlt hp'
     unfold yc2 at hok
     repeat' ((conv=>whnf);first
     | refine Yz ?_
      | (refine ztw.asc hlt ha ?_)
      | (refine Cmp.mk (fun h=> ?_) (fun h=> ?_))|(refine Rem.any (by omega) (fun r hr he=> ?_))|(refine Br.mk (fun h=> ?_) (fun h=> ?_))
      | (refine zaf.to ih rfl rfl)
      | (exfalso;omega))
    ·have hno:=z2f hlt hok
     unfold yc2 at hok
     rw [hno]
     repeat' ((conv=>whnf);first
     | refine Yz ?_
      | (refine ztw.asc hlt ha ?_)
      | (refine Cmp.mk (fun h=> ?_) (fun h=> ?_))|(refine Rem.any (by omega) (fun r hr he=> ?_))|(refine Br.mk (fun h=> ?_) (fun h=> ?_))
      | (refine Ret.mk rfl)
      | (exfalso;omega))
   ·have hno:zfl s=false:=z2f hlt (by unfold yc2;omega)
    rw [hno]
    repeat' ((conv=>whnf);first
    | refine Yz ?_
     | (refine ztw.high hlt (by omega) (fun c w hc hw=> ?_))
     | (refine Cmp.mk (fun h=> ?_) (fun h=> ?_))|(refine Rem.any (by omega) (fun r hr he=> ?_))|(refine Br.mk (fun h=> ?_) (fun h=> ?_))
     | (refine Ret.mk rfl)
     | (exfalso;omega))
  ·have hk':k=s.length:=by omega
   subst hk'
   have hyes:zfl s=true:=decide_eq_true ⟨h0.1,h0.2,hp⟩
   rw [hyes]
   repeat' ((conv=>whnf);first
   | refine Yz ?_
    | (refine ztw.end' (Nat.le_refl _) ?_)
    | (refine Ret.mk rfl))
 ·have hno:zfl s=false:=decide_eq_false fun hn=>h0 ⟨hn.1,hn.2.1⟩
  rw [hno]
  repeat' ((conv=>whnf);first
  | refine Yz ?_
   | (refine Cmp.mk (fun h=> ?_) (fun h=> ?_))|(refine Rem.any (by omega) (fun r hr he=> ?_))|(refine Br.mk (fun h=> ?_) (fun h=> ?_))
   | (refine Ret.mk rfl)
   | (exfalso;omega))
theorem zsz (s:List UInt8):Fc E zdy [S s] (B (zfl s)):=by
 refine g.fn rfl rfl ?_
 by_cases h0:0<s.length/\s.length<=24
 ·repeat' ((conv=>whnf);first
 | refine Yz ?_)
  refine zaf.to (zaf.upP g (fun k=>[(0,S s),(3,I k)]) (fun _=>[]) (fun k=>∀i,i<k->yc2 i (s.getD i 0)) s.length (fun k hk hp ih=> ?_) 0 (Nat.zero_le _) (fun i hi=>by omega)) rfl rfl
  by_cases hlt:k<s.length
  ·by_cases hok:yc2 k (s.getD k 0)
   ·have hp':∀i,i<k+1->yc2 i (s.getD i 0):=fun i hi=>by
     by_cases e:i=k
     ·subst e;exact hok
     ·exact hp i (by omega)
    have ih:=ih hlt hp'
    unfold yc2 at hok
    repeat' ((conv=>whnf);first
    | refine Yz ?_
     | (refine ybm.at k (by omega) hlt ?_)
     | (refine Cmp.mk (fun h=> ?_) (fun h=> ?_))|(refine Rem.any (by omega) (fun r hr he=> ?_))|(refine Br.mk (fun h=> ?_) (fun h=> ?_))
     | (refine zaf.to ih rfl rfl)
     | (exfalso;omega))
   ·have hno:=z2f hlt hok
    unfold yc2 at hok
    rw [hno]
    repeat' ((conv=>whnf);first
    | refine Yz ?_
     | (refine ybm.at k (by omega) hlt ?_)
     | (refine Cmp.mk (fun h=> ?_) (fun h=> ?_))|(refine Rem.any (by omega) (fun r hr he=> ?_))|(refine Br.mk (fun h=> ?_) (fun h=> ?_))
     | (refine Ret.mk rfl)
     | (exfalso;omega))
  ·have hk':k=s.length:=by omega
   subst hk'
   have hyes:zfl s=true:=decide_eq_true ⟨h0.1,h0.2,hp⟩
   rw [hyes]
   repeat' ((conv=>whnf);first
   | refine Yz ?_
    | (refine Ret.mk rfl))
 ·have hno:zfl s=false:=decide_eq_false fun hn=>h0 ⟨hn.1,hn.2.1⟩
  rw [hno]
  repeat' ((conv=>whnf);first
  | refine Yz ?_
   | (refine Cmp.mk (fun h=> ?_) (fun h=> ?_))|(refine Rem.any (by omega) (fun r hr he=> ?_))|(refine Br.mk (fun h=> ?_) (fun h=> ?_))
   | (refine Ret.mk rfl)
   | (exfalso;omega))
end
def dg (b:UInt8):Prop:=48<=b.toNat/\b.toNat<=57
instance (b:UInt8):Decidable (dg b):=by unfold dg;infer_instance
def yvc (s:List UInt8) (w:Nat):Prop:=s.length=w/\∀x∈s,dg x
instance (s:List UInt8) (w:Nat):Decidable (yvc s w):=by unfold yvc;infer_instance
def yvb (s:List UInt8) (w:Nat):Bool:=decide (yvc s w)
theorem yf0 {s:List UInt8} {w k:Nat} (hk:k<s.length) (h:¬dg (s.getD k 0)):yvb s w=false:=decide_eq_false fun hn=>h (hn.2 _ (by
 simp [List.getD,hk]))
theorem yos {s:List UInt8} {w:Nat} (h:s.length=w) (hd:∀i,i<s.length->dg (s.getD i 0)):yvb s w=true:=decide_eq_true ⟨h,fun x hx=>by
 obtain⟨i,hi,rfl⟩:=List.getElem_of_mem hx
 have:=hd i hi
 simpa [List.getD,hi] using this⟩
theorem ygw (b:UInt8):b.toNat<256:=b.toNat_lt
section
variable {E : Oracle} (g : Good E)
include g
theorem za7 (b:Bool) (e:Int):Fc E zav [B b,I e] (I (if b then e else 0)):=by
 refine g.fn rfl rfl ?_
 cases b<;>repeat' ((conv=>whnf);first
 | refine Yz ?_
  | (refine Ret.mk rfl))
theorem z3h (n a b:Int):Fc E zcb [I n,I a,I b] (I (rng n a b)):=by
 refine g.fn rfl rfl ?_
 have hw:∀c,Fc E zav [B c,I 3] (I (if c then 3 else 0)):=fun c=>za7 g c 3
 unfold rng
 by_cases h1:n<a
 ·rw [if_pos (.inl h1)]
  repeat' ((conv=>whnf);first
  | refine Yz ?_
   | (refine zae.of (hw _) ?_)
   | (refine Ret.mk rfl))
 ·by_cases h2:b<n
  ·rw [if_pos (.inr h2)]
   repeat' ((conv=>whnf);first
   | refine Yz ?_
    | (refine zae.of (hw _) ?_)
    | (refine Ret.mk rfl))
  ·rw [if_neg (by omega)]
   repeat' ((conv=>whnf);first
   | refine Yz ?_
    | (refine zae.of (hw _) ?_)
    | (refine Ret.mk rfl))
end
theorem yqw:∀(m:Fin 128) (w:Fin 7),IntKind.i64.wrap ((BitVec.ofInt IntKind.i64.bits ((m.val:Int).fdiv (2^(min (w.val:Int).toNat IntKind.i64.bits)))&&&BitVec.ofInt IntKind.i64.bits 1).toNat)=(m.val:Int)/2^(w.val:Int).toNat%2:=by decide+kernel
theorem zg3.of {E:Oracle} {f:Nat} {args:List V} {cx:Cx} {slot:Nat} {m:Mem} {K:V->Mem->Prop} (h:In E 0 f args [] fun v m'=>zko (Go.Evl.settle cx slot 0 m m' v) fun p=>K p.1 p.2):zg3 E f args cx slot m K:=by
 obtain⟨v,m',h1,p,h2,h3⟩:=h
 exact⟨v,m',p,h1,h2,h3⟩
section
variable {E : Oracle} (g : Good E)
include g
theorem ygj (m w:Int) (hm:0<=m/\m<=127) (hw:0<=w/\w<=6):Fc E zhq [I m,I w] (B (inM m w)):=by
 refine g.fn rfl rfl ?_
 have h:=yqw ⟨m.toNat,by omega⟩ ⟨w.toNat,by omega⟩
 simp only [Int.toNat_of_nonneg hm.1,Int.toNat_of_nonneg hw.1] at h
 unfold inM
 by_cases hc:m/2^w.toNat%2=1
 ·repeat' ((conv=>whnf);first
 | refine Yz ?_
   | (refine Cmp.tt (h.trans hc) ?_)
   | (refine Ret.mk ?_))
  simp [hc]
 ·repeat' ((conv=>whnf);first
 | refine Yz ?_
   | (refine Cmp.ff (fun e=>hc (h.symm.trans e)) ?_)
   | (refine Ret.mk ?_))
  simp [hc]
end
structure Rqt where
 (nm ca ki te pa li:List UInt8)
 (fr to da mi se si no:Int)
 deriving DecidableEq
def Rqt.cells (q:Rqt):List D:=[.str q.nm,.str q.ca,.str q.ki,.str q.te,.str q.pa,.str q.li,DI q.fr,DI q.to,DI q.da,DI q.mi,DI q.se,DI q.si,DI q.no]
structure Lnt where
 ac:List UInt8
 rq:Rqt
def Lnt.cells (l:Lnt):List D:= .str l.ac::l.rq.cells
theorem Lnt.cells_length (l:Lnt):l.cells.length=14:=rfl
theorem Rqt.cells_length (q:Rqt):q.cells.length=13:=rfl
abbrev Rqv (q:Rqt):V:= .d (.agg q.cells)
abbrev Lnv (l:Lnt):V:= .d (.agg l.cells)
def nmE (s:List UInt8):Int:=if(!zfl s)=true then 8 else 0
def ym7 (s:List UInt8):Bool:=decide (s=[])||zfl s
def opE (s:List UInt8):Int:=if(!ym7 s)=true then 8 else 0
def yhp (s:List UInt8):Bool:=decide (s=[65])||decide (s=[68])
def zgr (q:Rqt):Int:=zap [nmE q.nm,nmE q.ca,nmE q.pa,opE q.te,opE q.li,if(!yhp q.ki)=true then 13 else 0,if q.li=q.nm then 32 else 0,zht q.fr q.to q.da,rng q.mi 0 1439,rng q.se 0 999,rng q.si 1 9,rng q.no 0 99]
def yq1:List (List UInt8):=[[78],[72],[67],[82],[68]]
def yr5:List (List UInt8):=[[75],[79],[85],[88]]
def yq2 (s:List UInt8):Bool:=decide (s∈yq1)
def yvg (s:List UInt8):Bool:=decide (s∈yr5)
def ysq (s:List UInt8):Bool:=yq2 s||yvg s
abbrev REQ:List UInt8:=[82,69,81]
abbrev ANS:List UInt8:=[65,78,83]
def ys7 (s:List UInt8):List UInt8:=if yq2 s then REQ else if yvg s then ANS else []
def zrc (l:Lnt):Int:=zap [if(!ysq l.ac)=true then 13 else 0,zgr l.rq]
theorem yns (l:Lnt):zrc l=if ysq l.ac then zgr l.rq else 13:=by
 unfold zrc
 cases ysq l.ac
 ·simp [zap]
 ·simp only [zap];simp;intro h;exact h.symm
abbrev ysr:List (D×V):=[(.str [78],S REQ),(.str [72],S REQ),(.str [67],S REQ),(.str [82],S REQ),(.str [68],S REQ),(.str [75],S ANS),(.str [79],S ANS),(.str [85],S ANS),(.str [88],S ANS)]
theorem z8z (s:List UInt8):s∈yq1++yr5\/zf1 (.str s) ysr=some none/\yq2 s=false/\yvg s=false:=by
 by_cases h:s∈yq1++yr5
 ·exact .inl h
 ·refine .inr ?_
  simp only [yq1,yr5,List.mem_append,List.mem_cons,List.not_mem_nil,or_false,not_or] at h
  have e:∀t,s≠t->(s==t)=false:=fun t h=>beq_eq_false_iff_ne.2 h
  refine⟨?_,decide_eq_false (by simp [yq1,h]),decide_eq_false (by simp [yr5,h])⟩
  obtain⟨⟨h1,h2,h3,h4,h5⟩,h6,h7,h8,h9⟩:=h
  simp only [zf1,eqD,e _ h1,e _ h2,e _ h3,e _ h4,e _ h5,e _ h6,e _ h7,e _ h8,e _ h9]
section
variable {E : Oracle} (g : Good E)
include g
theorem z0p (l:List Int) (hl:l.length<=140737488355328):Fc E zax [LI l] (I (zap l)):=by
 refine g.fn rfl rfl ?_
 conv=>whnf
 refine zaf.upP g (fun k=>[(5,LI l),(6,I l.length),(7,I k)]) (fun _=>[]) (fun k=>zap l=zap (l.drop k)) l.length (fun k hk hp ih=> ?_) 0 (Nat.zero_le _) (by simp)
 by_cases hlt:k<l.length
 ·have hd:=zp7 l k hlt
  repeat' ((conv=>whnf);first
  | refine Yz ?_
   | (refine zg4.int (by omega) ?_)
   | (refine Cmp.mk (fun h=> ?_) (fun h=> ?_))|(refine Rem.any (by omega) (fun r hr he=> ?_))|(refine Br.mk (fun h=> ?_) (fun h=> ?_))
   | (refine zaf.to (ih hlt ?_) ?_ rfl)
   | (refine Ret.mk ?_))
  all_goals simp_all
 ·have:l.drop k=[]:=List.drop_eq_nil_of_le (by omega)
  repeat' ((conv=>whnf);first
  | refine Yz ?_
   | (refine Ret.mk ?_))
  simp [hp,this,zap]
theorem zcs (a b:Int):Fc E zax [.d (.list 2 [DI a,DI b])] (I (zap [a,b])):=z0p g [a,b] (by simp)
theorem zbx (a b c:Int):Fc E zax [.d (.list 3 [DI a,DI b,DI c])] (I (zap [a,b,c])):=z0p g [a,b,c] (by simp)
theorem ylz (a b c d:Int):Fc E zax [.d (.list 4 [DI a,DI b,DI c,DI d])] (I (zap [a,b,c,d])):=z0p g [a,b,c,d] (by simp)
theorem yia (a b c d e f h i j k l m:Int):Fc E zax [.d (.list 12 [DI a,DI b,DI c,DI d,DI e,DI f,DI h,DI i,DI j,DI k,DI l,DI m])] (I (zap [a,b,c,d,e,f,h,i,j,k,l,m])):=z0p g [a,b,c,d,e,f,h,i,j,k,l,m] (by simp)
theorem zsy (a b c d:Int):Fc E zly [.d (.list 4 [DI a,DI b,DI c,DI d])] (I (zap [a,b,c,d])):=yr3 g [a,b,c,d] (by simp)
theorem ydq (s:List UInt8):Fc E zee [S s] (I (nmE s)):=by
 refine g.fn rfl rfl ?_
 have h:=zqf g s
 repeat' ((conv=>whnf);first
 | refine Yz ?_
  | (apply zae.of;assumption)
  | (refine zae.of (za7 g _ _) ?_)
  | (refine Ret.mk rfl))
theorem ydo (s:List UInt8):Fc E zgz [S s] (I (opE s)):=by
 refine g.fn rfl rfl ?_
 have h:=zqf g s
 unfold opE ym7
 by_cases he:s=[]
 ·subst he
  repeat' ((conv=>whnf);first
  | refine Yz ?_
   | (refine zae.of (za7 g _ _) ?_)
   | (refine Ret.mk rfl))
 ·rw [decide_eq_false he]
  repeat' ((conv=>whnf);first
  | refine Yz ?_
   | (apply zae.of;assumption)
   | (refine Cmp.ff he ?_)
   | (refine zae.of (za7 g _ _) ?_)
   | (refine Ret.mk rfl))
theorem z59 (s:List UInt8):Fc E zii [S s] (B (ym7 s)):=by
 refine g.fn rfl rfl ?_
 have h:=zsz g s
 unfold ym7
 by_cases he:s=[]
 ·subst he
  repeat' ((conv=>whnf);first
  | refine Yz ?_
   | (refine Ret.mk rfl))
 ·rw [decide_eq_false he]
  repeat' ((conv=>whnf);first
  | refine Yz ?_
   | (apply zae.of;assumption)
   | (refine Cmp.ff he ?_)
   | (refine Ret.mk rfl))
theorem ypd (s:List UInt8):Fc E zlc [S s] (B (yhp s)):=by
 refine g.fn rfl rfl ?_
 unfold yhp
 by_cases he:s=[65]
 ·subst he
  repeat' ((conv=>whnf);first
  | refine Yz ?_
   | (refine Ret.mk rfl))
 ·rw [decide_eq_false he]
  by_cases hd:s=[68]
  ·subst hd
   repeat' ((conv=>whnf);first
   | refine Yz ?_
    | (refine Ret.mk rfl))
  ·rw [decide_eq_false hd]
   repeat' ((conv=>whnf);first
   | refine Yz ?_
    | (refine Cmp.ff he ?_)
    | (refine Cmp.ff hd ?_)
    | (refine Ret.mk rfl))
theorem zts (q:Rqt):Fc E zc7 [Rqv q] (I (zgr q)):=by
 refine g.fn rfl rfl ?_
 have h1:=ydq g
 have h2:=ydo g
 have h3:=ypd g q.ki
 have h4:=zj1 g q.fr q.to q.da
 have h5:=z3h g
 have h6:=za7 g
 unfold zgr
 by_cases hl:q.li=q.nm
 all_goals first |rw [if_pos hl]|rw [if_neg hl]
 all_goals repeat' ((conv=>whnf);first
 | refine Yz ?_
  | (refine zae.of (h1 _) ?_)
  | (refine zae.of (h2 _) ?_)
  | (refine zae.of h3 ?_)
  | (refine zae.of h4 ?_)
  | (refine zae.of (h5 _ _ _) ?_)
  | (refine zae.of (h6 _ _) ?_)
  | (refine Cmp.tt hl ?_)
  | (refine Cmp.ff hl ?_)
  | (refine zae.of (yia g _ _ _ _ _ _ _ _ _ _ _ _) ?_)
  | (refine Ret.mk rfl))
theorem z4m (q:Rqt):Fc E zh5 [Rqv q] (I (zgr q)):=by
 refine g.fn rfl rfl ?_
 have n1:=zsz g q.nm
 have n2:=zsz g q.ca
 have n3:=zsz g q.pa
 have n4:=z59 g q.te
 have n5:=z59 g q.li
 have hp:=zqd g q.fr q.to q.da
 have hr:=zsa g
 unfold zgr nmE opE
 generalize zfl q.nm=b1 at *
 generalize zfl q.ca=b2 at *
 generalize zfl q.pa=b3 at *
 generalize ym7 q.te=b4 at *
 generalize ym7 q.li=b5 at *
 generalize zht q.fr q.to q.da=cp at *
 cases b1
 ·repeat' ((conv=>whnf);first
 | refine Yz ?_
   | (apply zae.of;assumption)
   | (refine Cmp.tt (by assumption) ?_)
   | (refine Cmp.ff (by assumption) ?_)
   | (refine zae.of (hr _ _ _) ?_)
   | (refine zae.of (zsy g _ _ _ _) ?_)
   | (refine Ret.mk ?_))
  rfl
 ·
  cases b2
  ·repeat' ((conv=>whnf);first
  | refine Yz ?_
    | (apply zae.of;assumption)
    | (refine Cmp.tt (by assumption) ?_)
    | (refine Cmp.ff (by assumption) ?_)
    | (refine zae.of (hr _ _ _) ?_)
    | (refine zae.of (zsy g _ _ _ _) ?_)
    | (refine Ret.mk ?_))
   rfl
  ·
   cases b3
   ·repeat' ((conv=>whnf);first
   | refine Yz ?_
     | (apply zae.of;assumption)
     | (refine Cmp.tt (by assumption) ?_)
     | (refine Cmp.ff (by assumption) ?_)
     | (refine zae.of (hr _ _ _) ?_)
     | (refine zae.of (zsy g _ _ _ _) ?_)
     | (refine Ret.mk ?_))
    rfl
   ·
    cases b4
    ·repeat' ((conv=>whnf);first
    | refine Yz ?_
      | (apply zae.of;assumption)
      | (refine Cmp.tt (by assumption) ?_)
      | (refine Cmp.ff (by assumption) ?_)
      | (refine zae.of (hr _ _ _) ?_)
      | (refine zae.of (zsy g _ _ _ _) ?_)
      | (refine Ret.mk ?_))
     rfl
    ·
     cases b5
     ·repeat' ((conv=>whnf);first
     | refine Yz ?_
       | (apply zae.of;assumption)
       | (refine Cmp.tt (by assumption) ?_)
       | (refine Cmp.ff (by assumption) ?_)
       | (refine zae.of (hr _ _ _) ?_)
       | (refine zae.of (zsy g _ _ _ _) ?_)
       | (refine Ret.mk ?_))
      rfl
     ·
      unfold yhp
      by_cases ka:q.ki=[65]
      all_goals by_cases kd:q.ki=[68]
      all_goals by_cases hl:q.li=q.nm
      all_goals by_cases hc:cp=0
      all_goals repeat' ((conv=>whnf);first
      | refine Yz ?_
       | (apply zae.of;assumption)
       | (refine Cmp.tt (by assumption) ?_)
       | (refine Cmp.ff (by assumption) ?_)
       | (refine zae.of (hr _ _ _) ?_)
       | (refine zae.of (zsy g _ _ _ _) ?_)
       | (refine Ret.mk ?_))
      all_goals simp_all [zap]
theorem ylu:In E 0 zd3 [] [] fun v m'=>v= .mp ⟨0,1,0⟩/\m'=[(⟨0,1,0⟩,.map ysr)]:=by
 refine In.enter (f:=zd3) g.lim rfl rfl ?_
 repeat' ((conv=>whnf);first
 | refine Yz ?_
  | (refine yi1.mk ⟨_,rfl,?_⟩)
  | (exact⟨rfl,rfl⟩))
omit g in
theorem z4s {cx:Cx} {slot:Nat} {m:Mem} (hf:Go.Evl.freeK cx.lv slot m=0):Go.Evl.settle cx slot 0 m [(⟨0,1,0⟩,.map ysr)] (.mp ⟨0,1,0⟩)=some (.mp ⟨cx.lv,slot,0⟩,m++[(⟨cx.lv,slot,0⟩,.map ysr)]):=by
 unfold Go.Evl.settle
 rw [hf]
 rfl
theorem zg3.actions {cx:Cx} {slot:Nat} {m:Mem} {K:V->Mem->Prop} (hf:Go.Evl.freeK cx.lv slot m=0) (h:K (.mp ⟨cx.lv,slot,0⟩) (m++[(⟨cx.lv,slot,0⟩,.map ysr)])):zg3 E zd3 [] cx slot m K:=by
 obtain⟨v,m',h1,rfl,rfl⟩:=(ylu g).got
 exact⟨_,_,_,h1,z4s hf,h⟩
theorem yh8 (s:List UInt8):Fc E zjn [S s] (B (ysq s)):=by
 refine g.fn rfl rfl ?_
 rcases z8z s with h|⟨h,h1,h2⟩
 ·simp only [yq1,yr5,List.cons_append,List.nil_append,List.mem_cons,List.not_mem_nil,or_false] at h
  rcases h with rfl|rfl|rfl|rfl|rfl|rfl|rfl|rfl|rfl
  all_goals repeat' ((conv=>whnf);first
  | refine Yz ?_
   | (refine zg3.actions g rfl ?_)
   | (refine zpq.mk ⟨_,rfl,?_⟩)
   | (refine Ret.mk rfl))
 ·unfold ysq
  rw [h1,h2]
  repeat' ((conv=>whnf);first
  | refine Yz ?_
   | (refine zg3.actions g rfl ?_)
   | (refine zpq.mk ⟨_,h,?_⟩)
   | (refine Ret.mk rfl))
theorem ydj (l:Lnt):Fc E zir [Lnv l] (I (zrc l)):=by
 refine g.fn rfl rfl ?_
 have h1:=yh8 g l.ac
 have h2:=zts g l.rq
 repeat' ((conv=>whnf);first
 | refine Yz ?_
  | (apply zae.of;assumption)
  | (refine zae.of (za7 g _ _) ?_)
  | (refine zae.of (zcs g _ _) ?_)
  | (refine Ret.mk rfl))
end
theorem zah {α:Type} (cell:α->List D) (w:Nat) (hw:∀a,(cell a).length=w):∀l:List α,(l.flatMap cell).length=l.length*w
 | []=>by simp
 | c::r=>by rw [List.flatMap_cons,List.length_append,hw,zah cell w hw r,List.length_cons,Nat.succ_mul];omega
theorem zl2 {α:Type} (cell:α->List D) (w:Nat) (hw:∀a,(cell a).length=w):∀(l:List α) (k:Nat),(l.flatMap cell).drop (k*w)=(l.drop k).flatMap cell
 | l,0=>by simp
 | [],k+1=>by simp
 | c::r,k+1=>by
  rw [List.flatMap_cons,List.drop_succ_cons,<-zl2 cell w hw r k,Nat.succ_mul,Nat.add_comm,<-List.drop_drop]
  congr 1
  rw [List.drop_append_of_le_length (by rw [hw];exact Nat.le_refl _),List.drop_of_length_le (by rw [hw];exact Nat.le_refl _)]
  rfl
theorem z9u {α:Type} (cell:α->List D) (w:Nat) (hw:∀a,(cell a).length=w) (l:List α) (k:Nat) (h:k<l.length):win (l.flatMap cell) (k*w) w=cell l[k]:=by
 unfold win
 rw [zl2 cell w hw,List.drop_eq_getElem_cons h,List.flatMap_cons,List.take_append_of_le_length (by rw [hw];exact Nat.le_refl _),List.take_of_length_le (by rw [hw];exact Nat.le_refl _)]
theorem yj6 {α:Type} (cell:α->List D) (w:Nat) (hw:∀a,(cell a).length=w) (l:List α) (k j:Nat) (h:k<l.length) (hj:j<w):(l.flatMap cell)[k*w+j]? =(cell l[k])[j]? :=by
 rw [<-List.getElem?_drop,zl2 cell w hw,List.drop_eq_getElem_cons h,List.flatMap_cons,List.getElem?_append_left (by rw [hw];exact hj)]
theorem yhj {α:Type} (cell:α->List D) (l:List α) (k:Nat) (h:k<l.length):(l.take (k+1)).flatMap cell=(l.take k).flatMap cell++cell l[k]:=by
 rw [List.take_add_one,List.flatMap_append,List.getElem?_eq_getElem h]
 simp
theorem zal.rec {α:Type} {cell:α->List D} {w:Nat} (hw:∀a,(cell a).length=w) {l:List α} {i:Int} {K:List D->Prop} (k:Nat) (hi:i=k) (h:k<l.length) (hk:K (cell l[k])):zal (l.flatMap cell) (i.toNat*w) w K:=by
 subst hi
 rw [Int.toNat_natCast]
 have h1:=zah cell w hw l
 refine⟨?_,by rw [z9u cell w hw l k h];exact hk⟩
 have h2:(k+1)*w<=l.length*w:=Nat.mul_le_mul_right _ h
 rw [Nat.succ_mul] at h2
 omega
theorem zal.rec0 {α:Type} {cell:α->List D} {w:Nat} (hw:∀a,(cell a).length=w) {l:List α} {i:Int} {K:List D->Prop} (k:Nat) (hi:i=k) (h:k<l.length) (hk:K (cell l[k])):zal (l.flatMap cell) ((0+i.toNat)*w) w K:=by
 rw [Nat.zero_add];exact zal.rec hw k hi h hk
theorem zg4.rec {α:Type} {cell:α->List D} {w:Nat} (hw:∀a,(cell a).length=w) {l:List α} {i:Int} {j:Nat} {K:D->Prop} {d:D} (k:Nat) (hi:i=k) (h:k<l.length) (hj:(cell l[k])[j]? =some d) (hk:K d):zg4 (l.flatMap cell) (i.toNat*w+j) K:=by
 subst hi
 rw [Int.toNat_natCast]
 have hlt:j<w:=by
  have:=(List.getElem?_eq_some_iff.1 hj).1
  rwa [hw] at this
 exact⟨⟨d,by rw [yj6 cell w hw l k j h hlt];exact hj,hk⟩⟩
theorem zg4.rec0 {α:Type} {cell:α->List D} {w:Nat} (hw:∀a,(cell a).length=w) {l:List α} {i:Int} {j:Nat} {K:D->Prop} {d:D} (k:Nat) (hi:i=k) (h:k<l.length) (hj:(cell l[k])[j]? =some d) (hk:K d):zg4 (l.flatMap cell) ((0+i.toNat)*w+j) K:=by
 rw [Nat.zero_add];exact zg4.rec hw k hi h hj hk
theorem zg4.intI {l:List Int} {i:Int} {K:D->Prop} (k:Nat) (hi:i=k) (h:k<l.length) (hk:K (DI l[k])):zg4 (l.map DI) (i.toNat*1) K:=by
 subst hi
 refine⟨⟨_,?_,hk⟩⟩
 simp [h]
theorem yfz {α:Type} (f:α->List UInt8) {l:List α} {k:Nat} (h:k<l.length):(l.take (k+1)).map f=(l.take k).map f++[f l[k]]:=by
 rw [List.take_add_one,List.getElem?_eq_getElem h,List.map_append]
 rfl
theorem ybe {α:Type} (f:α->List D) (n:Nat) (hf:∀a,(f a).length=n) (l:List α) (k:Nat) (h:k<=l.length):win (l.flatMap f) 0 (k*n)=(l.take k).flatMap f:=by
 unfold win
 rw [List.drop_zero]
 have e:l.flatMap f=(l.take k).flatMap f++(l.drop k).flatMap f:=by rw [<-List.flatMap_append,List.take_append_drop]
 have hn:=zah f n hf (l.take k)
 rw [List.length_take,Nat.min_eq_left h] at hn
 rw [e,List.take_append_of_le_length (by omega),List.take_of_length_le (by omega)]
theorem ydx {α:Type} (f:α->List D) (n:Nat) (hf:∀a,(f a).length=n) (l:List α) (k:Nat) (h:k<=l.length):V.d (.list (k-0) (win (l.flatMap f) (0*n) ((k-0)*n)))= .d (.list (l.take k).length ((l.take k).flatMap f)):=by
 rw [Nat.zero_mul,Nat.sub_zero,ybe f n hf l k h,List.length_take,Nat.min_eq_left h]
theorem zal.part {α:Type} {cell:α->List D} {w:Nat} (hw:∀a,(cell a).length=w) {l:List α} {i:Int} {j n:Nat} {ds:List D} {K:List D->Prop} (k:Nat) (hi:i=k) (h:k<l.length) (hj:j+n<=w) (hd:win (cell l[k]) j n=ds) (hk:K ds):zal (l.flatMap cell) (i.toNat*w+j) n K:=by
 subst hi
 rw [Int.toNat_natCast]
 have h1:=zah cell w hw l
 have h2:(k+1)*w<=l.length*w:=Nat.mul_le_mul_right _ h
 rw [Nat.succ_mul] at h2
 refine⟨by omega,?_⟩
 have e:win (l.flatMap cell) (k*w+j) n=ds:=by
  rw [<-hd]
  unfold win
  rw [<-List.drop_drop,zl2 cell w hw,List.drop_eq_getElem_cons h,List.flatMap_cons,List.drop_append_of_le_length (by rw [hw];omega),List.take_append_of_le_length (by rw [List.length_drop,hw];omega)]
 rw [e];exact hk
def z8u:List (List UInt8)->List UInt8->Nat->Int
 | [],_,_=> -1
 | x::r,s,k=>if s=x then k else z8u r s (k+1)
theorem z7f (s:List UInt8):∀(l:List (List UInt8)) (k:Nat),0<=z8u l s k↔s∈l
 | [],k=>by simp [z8u]
 | x::r,k=>by
  unfold z8u
  split
  ·rename_i h
   simp [h]
  ·rename_i h
   rw [z7f s r]
   simp [h]
structure Lmt where
 (nm ki te:List UInt8)
 (le st fr to pf pt pd mo:Int)
 deriving Inhabited
def Lmt.cells (l:Lmt):List D:=[.str l.nm,.str l.ki,.str l.te,DI l.le,DI l.st,DI l.fr,DI l.to,DI l.pf,DI l.pt,DI l.pd,DI l.mo]
theorem Lmt.cells_length (l:Lmt):l.cells.length=11:=rfl
abbrev Lmv (l:Lmt):V:= .d (.agg l.cells)
abbrev LLm (l:List Lmt):V:= .d (.list l.length (l.flatMap Lmt.cells))
structure Mvt where
 mo:Int
 (ki te:List UInt8)
 (se si no:Int)
 nm:List UInt8
 deriving DecidableEq,Inhabited
def Mvt.cells (m:Mvt):List D:=[DI m.mo,.str m.ki,.str m.te,DI m.se,DI m.si,DI m.no,.str m.nm]
theorem Mvt.cells_length (m:Mvt):m.cells.length=7:=rfl
abbrev Mvv (m:Mvt):V:= .d (.agg m.cells)
abbrev LMv (l:List Mvt):V:= .d (.list l.length (l.flatMap Mvt.cells))
def yoh (s:List UInt8):Bool:=decide (s=[65])||decide (s=[68])||decide (s=[84])
def flE (s:List UInt8):Int:=if(!yhp s)=true then 13 else 0
def ldE (a b c:Int):Int:=zap [rng a 0 999,rng b 0 9,rng c 0 99]
def zfz (l:Lmt):Int:=zap [nmE l.nm,if(!yoh l.ki)=true then 13 else 0,opE l.te,rng l.le 1 1440,rng l.st 1 1440,rng l.fr 0 1439,rng l.to 0 1439,if l.to<l.fr then 11 else 0,zht l.pf l.pt l.pd,rng l.mo 0 999999999]
def zkl (l:List Lmt):List (List UInt8):=l.map (·.nm)
def yb4 (seen:List (List UInt8)) (l:Lmt):Int:=zap [zfz l,if l.nm∈seen then 9 else 0]
def zzz (seen:List (List UInt8)):List Lmt->Int
 | []=>0
 | l::r=>if yb4 seen l=0 then zzz (seen++[l.nm]) r else yb4 seen l
def zqm (l:List Lmt):Int:=if 32<l.length then 5 else zzz [] l
def zwk (q:Rqt):Int:=zap [nmE q.nm,flE q.ki,opE q.te,zht q.fr q.to q.da,rng q.mi 0 1439,ldE q.se q.si q.no]
section
variable {E : Oracle} (g : Good E)
include g
theorem zox (b:Bool) (e:Int):Fc E zbw [B b,I e] (I (if b then e else 0)):=by
 refine g.fn rfl rfl ?_
 cases b<;>repeat' ((conv=>whnf);first
 | refine Yz ?_
  | (refine Ret.mk rfl))
theorem zsb (n a b:Int):Fc E zbe [I n,I a,I b] (I (rng n a b)):=by
 refine g.fn rfl rfl ?_
 have hw:∀c,Fc E zbw [B c,I 3] (I (if c then 3 else 0)):=fun c=>zox g c 3
 unfold rng
 by_cases h1:n<a
 ·rw [if_pos (.inl h1)]
  repeat' ((conv=>whnf);first
  | refine Yz ?_
   | (refine zae.of (hw _) ?_)
   | (refine Ret.mk rfl))
 ·by_cases h2:b<n
  ·rw [if_pos (.inr h2)]
   repeat' ((conv=>whnf);first
   | refine Yz ?_
    | (refine zae.of (hw _) ?_)
    | (refine Ret.mk rfl))
  ·rw [if_neg (by omega)]
   repeat' ((conv=>whnf);first
   | refine Yz ?_
    | (refine zae.of (hw _) ?_)
    | (refine Ret.mk rfl))
theorem z0o (l:List Int) (hl:l.length<=140737488355328):Fc E zbv [LI l] (I (zap l)):=by
 refine g.fn rfl rfl ?_
 conv=>whnf
 refine zaf.upP g (fun k=>[(5,LI l),(6,I l.length),(7,I k)]) (fun _=>[]) (fun k=>zap l=zap (l.drop k)) l.length (fun k hk hp ih=> ?_) 0 (Nat.zero_le _) (by simp)
 by_cases hlt:k<l.length
 ·have hd:=zp7 l k hlt
  repeat' ((conv=>whnf);first
  | refine Yz ?_
   | (refine zg4.int (by omega) ?_)
   | (refine Cmp.mk (fun h=> ?_) (fun h=> ?_))|(refine Rem.any (by omega) (fun r hr he=> ?_))|(refine Br.mk (fun h=> ?_) (fun h=> ?_))
   | (refine zaf.to (ih hlt ?_) ?_ rfl)
   | (refine Ret.mk ?_))
  all_goals simp_all
 ·have:l.drop k=[]:=List.drop_eq_nil_of_le (by omega)
  repeat' ((conv=>whnf);first
  | refine Yz ?_
   | (refine Ret.mk ?_))
  simp [hp,this,zap]
theorem z3e (a b:Int):Fc E zbv [.d (.list 2 [DI a,DI b])] (I (zap [a,b])):=z0o g [a,b] (by simp)
theorem ylv (a b c:Int):Fc E zbv [.d (.list 3 [DI a,DI b,DI c])] (I (zap [a,b,c])):=z0o g [a,b,c] (by simp)
theorem ylw (a b c d e f:Int):Fc E zbv [.d (.list 6 [DI a,DI b,DI c,DI d,DI e,DI f])] (I (zap [a,b,c,d,e,f])):=z0o g [a,b,c,d,e,f] (by simp)
theorem yh7 (a b c d e f h i j k:Int):Fc E zbv [.d (.list 10 [DI a,DI b,DI c,DI d,DI e,DI f,DI h,DI i,DI j,DI k])] (I (zap [a,b,c,d,e,f,h,i,j,k])):=z0o g [a,b,c,d,e,f,h,i,j,k] (by simp)
theorem z3g (s:List UInt8):Fc E zf8 [S s] (I (opE s)):=by
 refine g.fn rfl rfl ?_
 have h:=zqf g s
 unfold opE ym7
 by_cases he:s=[]
 ·subst he
  repeat' ((conv=>whnf);first
  | refine Yz ?_
   | (refine zae.of (zox g _ _) ?_)
   | (refine Ret.mk rfl))
 ·rw [decide_eq_false he]
  repeat' ((conv=>whnf);first
  | refine Yz ?_
   | (apply zae.of;assumption)
   | (refine Cmp.ff he ?_)
   | (refine zae.of (zox g _ _) ?_)
   | (refine Ret.mk rfl))
theorem yal (s:List UInt8):Fc E zjw [S s] (B (ym7 s)):=by
 refine g.fn rfl rfl ?_
 have h:=zsz g s
 unfold ym7
 by_cases he:s=[]
 ·subst he
  repeat' ((conv=>whnf);first
  | refine Yz ?_
   | (refine Ret.mk rfl))
 ·rw [decide_eq_false he]
  repeat' ((conv=>whnf);first
  | refine Yz ?_
   | (apply zae.of;assumption)
   | (refine Cmp.ff he ?_)
   | (refine Ret.mk rfl))
theorem ypc (s:List UInt8):Fc E zkj [S s] (I (flE s)):=by
 refine g.fn rfl rfl ?_
 unfold flE yhp
 by_cases he:s=[65]
 ·subst he
  repeat' ((conv=>whnf);first
  | refine Yz ?_
   | (refine zae.of (zox g _ _) ?_)
   | (refine Ret.mk rfl))
 ·rw [decide_eq_false he]
  by_cases hd:s=[68]
  ·subst hd
   repeat' ((conv=>whnf);first
   | refine Yz ?_
    | (refine zae.of (zox g _ _) ?_)
    | (refine Ret.mk rfl))
  ·rw [decide_eq_false hd]
   repeat' ((conv=>whnf);first
   | refine Yz ?_
    | (refine Cmp.ff he ?_)
    | (refine Cmp.ff hd ?_)
    | (refine zae.of (zox g _ _) ?_)
    | (refine Ret.mk rfl))
theorem yt7 (a b c:Int):Fc E zmr [I a,I b,I c] (I (ldE a b c)):=by
 refine g.fn rfl rfl ?_
 repeat' ((conv=>whnf);first
 | refine Yz ?_
  | (refine zae.of (zsb g _ _ _) ?_)
  | (refine zae.of (ylv g _ _ _) ?_)
  | (refine Ret.mk rfl))
theorem ysc (q:Rqt):Fc E zf7 [Rqv q] (I (zwk q)):=by
 refine g.fn rfl rfl ?_
 have h:=zqf g q.nm
 repeat' ((conv=>whnf);first
 | refine Yz ?_
  | (apply zae.of;assumption)
  | (refine zae.of (zsb g _ _ _) ?_)
  | (refine zae.of (ypc g _) ?_)
  | (refine zae.of (z3g g _) ?_)
  | (refine zae.of (yt7 g _ _ _) ?_)
  | (refine zae.of (zox g _ _) ?_)
  | (refine zae.of (zj1 g _ _ _) ?_)
  | (refine zae.of (ylw g _ _ _ _ _ _) ?_)
  | (refine Ret.mk rfl))
abbrev yu7 (i:Evl.Id):V:= .agg [.fn zdt [] [.ptr i 0 0]]
abbrev ytk (a b:Evl.Id):List (D×V):=[(.str [65],yu7 a),(.str [68],yu7 b),(.str [84],.agg [.fn zjl [] []])]
theorem yse:In E 0 zgj [] [] fun v m'=>v= .mp ⟨0,2,0⟩/\m'=[(⟨0,2,0⟩,.map (ytk ⟨0,4,0⟩ ⟨0,7,0⟩)),(⟨0,4,0⟩,.cells zbl [S [65]]),(⟨0,7,0⟩,.cells zbl [S [68]])]:=by
 refine In.enter (f:=zgj) g.lim rfl rfl ?_
 repeat' ((conv=>whnf);first
 | refine Yz ?_
  | (refine In.enter (f:=zjk) g.lim rfl rfl ?_)
  | (refine⟨(.fn zdt [] [.ptr ⟨0,4,0⟩ 0 0],[(⟨0,2,0⟩,.map []),(⟨0,4,0⟩,.cells zbl [S [65]])]),rfl,?_⟩)
  | (refine⟨(.fn zdt [] [.ptr ⟨0,7,0⟩ 0 0],[(⟨0,2,0⟩,.map [(.str [65],yu7 ⟨0,4,0⟩)]),(⟨0,4,0⟩,.cells zbl [S [65]]),(⟨0,7,0⟩,.cells zbl [S [68]])]),rfl,?_⟩)
  | (refine yi1.mk ⟨_,rfl,?_⟩)
  | (exact⟨rfl,rfl⟩))
omit g in
theorem yaz {cx:Cx} {slot:Nat} {m:Mem} (hf:Go.Evl.freeK cx.lv slot m=0):Go.Evl.settle cx slot 0 m [(⟨0,2,0⟩,.map (ytk ⟨0,4,0⟩ ⟨0,7,0⟩)),(⟨0,4,0⟩,.cells zbl [S [65]]),(⟨0,7,0⟩,.cells zbl [S [68]])] (.mp ⟨0,2,0⟩)=some (.mp ⟨cx.lv,slot,0⟩,m++[(⟨cx.lv,slot,0⟩,.map (ytk ⟨cx.lv,slot,1⟩ ⟨cx.lv,slot,2⟩)),(⟨cx.lv,slot,1⟩,.cells zbl [S [65]]),(⟨cx.lv,slot,2⟩,.cells zbl [S [68]])]):=by
 unfold Go.Evl.settle
 rw [hf]
 rfl
theorem zg3.cknds {cx:Cx} {slot:Nat} {m:Mem} {K:V->Mem->Prop} (hf:Go.Evl.freeK cx.lv slot m=0) (h:K (.mp ⟨cx.lv,slot,0⟩) (m++[(⟨cx.lv,slot,0⟩,.map (ytk ⟨cx.lv,slot,1⟩ ⟨cx.lv,slot,2⟩)),(⟨cx.lv,slot,1⟩,.cells zbl [S [65]]),(⟨cx.lv,slot,2⟩,.cells zbl [S [68]])])):zg3 E zgj [] cx slot m K:=by
 obtain⟨v,m',h1,rfl,rfl⟩:=(yse g).got
 exact⟨_,_,_,h1,yaz hf,h⟩
omit g in
theorem yhd (s:List UInt8) (a b:Evl.Id):s=[65]\/s=[68]\/s=[84]\/(yoh s=false/\zf1 (.str s) (ytk a b)=some none):=by
 by_cases h1:s=[65]
 ·exact .inl h1
 by_cases h2:s=[68]
 ·exact .inr (.inl h2)
 by_cases h3:s=[84]
 ·exact .inr (.inr (.inl h3))
 refine .inr (.inr (.inr ⟨by simp [yoh,h1,h2,h3],?_⟩))
 have e:∀t:List UInt8,s≠t->eqD (.str s) (.str t)=some false:=fun t ht=>by simp [eqD,ht]
 simp only [zf1,e _ h1,e _ h2,e _ h3]
theorem ydm (l:Lmt):Fc E zek [Lmv l] (I (zfz l)):=by
 refine g.fn rfl rfl ?_
 have h:=zqf g l.nm
 have e:zfz l=zap [nmE l.nm,if(!yoh l.ki)=true then 13 else 0,opE l.te,rng l.le 1 1440,rng l.st 1 1440,rng l.fr 0 1439,rng l.to 0 1439,if decide (l.to<l.fr)=true then 11 else 0,zht l.pf l.pt l.pd,rng l.mo 0 999999999]:=by
  simp only [zfz,decide_eq_true_eq]
 rw [e]
 obtain⟨nm,ki,te,le,st,fr,to,pf,pt,pd,mo⟩:=l
 have hw:∀b,Fc E zbw [B b,I 13] (I (if b then 13 else 0)):=fun b=>zox g b 13
 by_cases hlt:to<fr
 all_goals first |rw [decide_eq_true hlt]|rw [decide_eq_false hlt]
 all_goals rcases yhd ki ⟨0,6,1⟩ ⟨0,6,2⟩ with rfl|rfl|rfl|⟨hk,hf⟩
 all_goals try rw [hk]
 all_goals repeat' ((conv=>whnf);first
 | refine Yz ?_
  | (apply zae.of;assumption)
  | (refine zg3.cknds g rfl ?_)
  | (refine zpq.mk ⟨_,rfl,?_⟩)
  | (refine zpq.mk ⟨_,hf,?_⟩)
  | (refine zae.of (zsb g _ _ _) ?_)
  | (refine zae.of (z3g g _) ?_)
  | (refine zae.of (zox g _ _) ?_)
  | (refine zae.of (zj1 g _ _ _) ?_)
  | (refine zae.of (yh7 g _ _ _ _ _ _ _ _ _ _) ?_)
  | (refine Ret.mk rfl))
theorem yn8 (l:List Lmt) (q:List UInt8) (hl:l.length<=1000000) {K:V->Mem->Prop}
  (hK:K (I (z8u (zkl l) q 0)) [(⟨0,3,0⟩,.cells zbl [S q])]):
  In E 1 zaz [LLm l,.fn zdm [] [.ptr ⟨0,3,0⟩ 0 0]] [(⟨0,3,0⟩,.cells zbl [S q])] K:=by
 generalize hA:z8u (zkl l) q 0=A at *
 refine In.enter (f:=zaz) g.lim rfl rfl ?_
 repeat' ((conv=>whnf);first
 | refine Yz ?_)
 refine zaf.to (zaf.upP g (fun k=>[(0,LLm l),(1,.fn zdm [] [.ptr ⟨0,3,0⟩ 0 0]),(7,I l.length),(8,I k)]) (fun _=>_) (fun k=>z8u (zkl (l.drop k)) q k=A) l.length (fun k hk h0 ih=> ?_) 0 (Nat.zero_le _) hA) rfl rfl
 by_cases hlt:k<l.length
 ·rw [List.drop_eq_getElem_cons hlt,zkl,List.map_cons,z8u] at h0
  have ih:=ih hlt
  by_cases hd:l[k].nm=q
  ·rw [if_pos hd.symm] at h0
   subst h0
   repeat' ((conv=>whnf);first
   | refine Yz ?_
    | (refine zal.rec Lmt.cells_length k rfl hlt ?_)
    | (refine In.enter (f:=zdm) g.lim rfl rfl ?_)
    | (refine Cmp.tt hd ?_)
    | (exact hK))
  ·rw [if_neg (Ne.symm hd)] at h0
   have ih:=ih h0
   repeat' ((conv=>whnf);first
   | refine Yz ?_
    | (refine zal.rec Lmt.cells_length k rfl hlt ?_)
    | (refine In.enter (f:=zdm) g.lim rfl rfl ?_)
    | (refine Cmp.ff hd ?_)
    | (refine zaf.to ih rfl rfl))
 ·rw [List.drop_eq_nil_of_le (by omega),zkl,List.map_nil,z8u] at h0
  subst h0
  repeat' ((conv=>whnf);first
  | refine Yz ?_
   | (exact hK))
theorem ypa (l:List Lmt) (q:List UInt8) (hl:l.length<=1000000):Fc E zlb [LLm l,S q] (I (z8u (zkl l) q 0)):=by
 refine g.fn rfl rfl ?_
 have hin:=fun {K}=>yn8 g (K:=K) l q hl
 generalize z8u (zkl l) q 0=r at *
 repeat' ((conv=>whnf);first
 | refine Yz ?_
  | (refine hin ?_)
  | (refine Ret.mk rfl))
theorem z79 (l:List Lmt) (hl:l.length<=1000000):Fc E zgu [LLm l] (I (zqm l)):=by
 refine g.fn rfl rfl ?_
 unfold zqm
 by_cases hm:32<l.length
 ·rw [if_pos hm]
  repeat' ((conv=>whnf);first
  | refine Yz ?_
   | (refine Ret.mk rfl))
 rw [if_neg hm]
 generalize hR:zzz [] l=R
 repeat' ((conv=>whnf);first
 | refine Yz ?_)
 refine zaf.to (zaf.upP g (fun k=>[(0,LLm l),(9,LLm l),(10,I l.length),(11,I k)]) (fun _=>[]) (fun k=>zzz (zkl (l.take k)) (l.drop k)=R) l.length (fun k hk h0 ih=> ?_) 0 (Nat.zero_le _) hR) rfl rfl
 by_cases hlt:k<l.length
 ·have hs:zkl (l.take (k+1))=zkl (l.take k)++[l[k].nm]:=yfz Lmt.nm hlt
  rw [List.drop_eq_getElem_cons hlt,zzz,<-hs] at h0
  have ih:=ih hlt
  have hc:=ydm g l[k]
  have hn:=ypa g (l.take k) l[k].nm (by simp;omega)
  have ht:=ydx Lmt.cells 11 Lmt.cells_length l k (by omega)
  have hm:=z7f l[k].nm (zkl (l.take k)) 0
  generalize z8u (zkl (l.take k)) l[k].nm 0=r at *
  have hf:=z3e g (zfz l[k]) (if l[k].nm∈zkl (l.take k) then 9 else 0)
  have hq:yb4 (zkl (l.take k)) l[k]=zap [zfz l[k],if l[k].nm∈zkl (l.take k) then 9 else 0]:=rfl
  rw [<-hq] at hf
  have hw:=zox g
  generalize yb4 (zkl (l.take k)) l[k]=x at *
  by_cases hr:0<=r
  all_goals first |rw [if_pos (hm.1 hr)] at hf|rw [if_neg (fun h=>hr (hm.2 h))] at hf
  all_goals by_cases hz:x=0
  all_goals first |rw [if_pos hz] at h0|rw [if_neg hz] at h0
  all_goals first |(replace ih:=ih h0)|rw [<-h0]
  all_goals repeat' ((conv=>whnf);first
  | refine Yz ?_
   | (refine zal.rec Lmt.cells_length k rfl hlt ?_)
   | (refine zff.at 0 k rfl rfl (by omega) ?_<;>(try rw [ht]))
   | (apply zae.of;assumption)
   | (refine zae.of (hw _ _) ?_)
   | (refine Cmp.ff (fun h=>h hz) ?_)
   | (refine Cmp.tt hz ?_)
   | (refine zaf.to ih rfl rfl)
   | (refine Ret.mk rfl))
 ·rw [List.drop_eq_nil_of_le (by omega),zzz] at h0
  rw [<-h0]
  repeat' ((conv=>whnf);first
  | refine Yz ?_
   | (refine Ret.mk rfl))
end
section
variable {E : Oracle} (g : Good E)
include g
theorem z3i (day:Int) (h:0<=day/\day<=1000000):Fc E zgx [I day] (I ((day+5)%7)):=by
 refine g.fn rfl rfl ?_
 repeat' ((conv=>whnf);first
 | refine Yz ?_
  | (refine Ret.mk rfl))
theorem yli (day:Int) (h:0<=day/\day<=1000000):Fc E zmx [I day] (I ((day+5)%7)):=by
 refine g.fn rfl rfl ?_
 repeat' ((conv=>whnf);first
 | refine Yz ?_
  | (refine Ret.mk rfl))
end
def zku (f d:Int):Nat->List Int
 | 0=>[]
 | k+1=>zku f d k++(if inM d ((f+k+5)%7) then [f+k] else [])
theorem zhc (f d:Int):∀k:Nat,(zku f d k).length<=k
 | 0=>Nat.le_refl _
 | k+1=>by
  have:=zhc f d k
  simp only [zku,List.length_append]
  split<;>simp<;>omega
def ytz:C:= .reg false [⟨some 6,none,.mv (.t 8)⟩] [8]
def yt0:C:= .block 1 (.seq (.reg false [
⟨some 9,none,.load none (.t 3)⟩,
⟨some 10,none,.mv (.t 6)⟩,
⟨some 11,none,.call true true (.t 9) [.t 10]⟩] [3,9,10])
(.cond (.t 11) (.reg false [
⟨some 12,none,.load none (.t 5)⟩,
⟨some 13,none,.mv (.t 6)⟩,
⟨some 14,none,.mkList 1 1 [.t 13]⟩,
⟨some 15,none,.append ⟨false,zbs,1,8⟩ (.t 12) (.t 14)⟩,
⟨none,none,.store 1 (.t 5) (.t 15)⟩] [5,6,12,13,14,15])
 .skip))
section
variable {E : Oracle} (g : Good E)
include g
theorem ydk (f t d:Int) (h:zht f t d=0):Fc E zfm [Per f t d] (.tup [LI (zku f d (t-f+1).toNat),I 0]):=by
 refine g.fn rfl rfl ?_
 have hc:=zj1 g f t d
 rw [h] at hc
 have hb:=zf0.1 h
 repeat' ((conv=>whnf);first
 | refine Yz ?_
  | (refine zae.of hc ?_)
  | (refine zg3.of (In.enter (f:=zki) g.lim rfl rfl ?_))
  | (refine⟨(.fn zeb [] [.ptr ⟨0,11,0⟩ 0 0],[(⟨0,1,0⟩,.cells zbp [I f,I t,I d]),(⟨0,11,0⟩,.cells zbp [I f,I t,I d])]),rfl,?_⟩)
  | (refine In.enter (f:=zfn) g.lim rfl rfl ?_)
  | (refine In.enter (f:=zeb) g.lim rfl rfl ?_))
 refine zaf.to (zaf.up g (fun k=>[(0,.yld ⟨1,18,0⟩),(1,.ptr ⟨0,11,0⟩ 0 0),(3,I (f+k))]) (fun k=>[(⟨0,1,0⟩,.cells zbp [I f,I t,I d]),(⟨0,11,0⟩,.cells zbp [I f,I t,I d]),
  (⟨1,3,0⟩,.cells zqs [.fn zf6 [] []]),(⟨1,4,0⟩,.row false zbs 1 0 []),(⟨1,5,0⟩,.row false zbs 1 (zku f d k).length ((zku f d k).map DI)),(⟨1,5,1⟩,.cells zyr [.ref ⟨1,5,0⟩ 0 (zku f d k).length (zku f d k).length]),
  (⟨1,18,0⟩,.loop [(3,.ptr ⟨1,3,0⟩ 0 0),(4,.ref ⟨1,4,0⟩ 0 0 0),(5,.ptr ⟨1,5,1⟩ 0 0),(7,.fn zeb [] [.ptr ⟨0,11,0⟩ 0 0])] [8] ytz yt0 1 false false none)]) (t-f+1).toNat (fun k hk ih=> ?_) 0 (Nat.zero_le _)) (by simp) rfl
 have hlen:=zhc f d k
 by_cases hlt:k<(t-f+1).toNat
 ·have hin:=ygj g d ((f+k+5)%7) (by omega) (by omega)
  by_cases hc:inM d ((f+k+5)%7)=true
  ·rw [hc] at hin
   repeat' ((conv=>whnf);first
   | refine Yz ?_
    | (refine zae.of (z3i g _ (by omega)) ?_)
    | (refine zae.of hin ?_)
    | (refine Rnd.enter g.lim ?_)
    | (refine In.enter (f:=zf6) g.lim rfl rfl ?_)
    | (refine zaf.to (ih hlt) ?_ ?_))
   ·simp;omega
   ·simp [zku,hc]
  ·rw [Bool.not_eq_true] at hc
   rw [hc] at hin
   repeat' ((conv=>whnf);first
   | refine Yz ?_
    | (refine zae.of (z3i g _ (by omega)) ?_)
    | (refine zae.of hin ?_)
    | (refine zaf.to (ih hlt) ?_ ?_))
   ·simp;omega
   ·simp [zku,hc]
 ·have hk':k=(t-f+1).toNat:=by omega
  repeat' ((conv=>whnf);first
  | refine Yz ?_
   | (refine Ret.mk ?_))
  simp [hk']
end
def yi2 (f t d day:Int):Bool:=decide (f<=day)&&(decide (day<=t)&&inM d ((day+5)%7))
section
variable {E : Oracle} (g : Good E)
include g
theorem yvi (f t d day:Int) (hd:0<=d/\d<=127) (h:0<=day/\day<=1000000):Fc E zos [Per f t d,I day] (B (yi2 f t d day)):=by
 refine g.fn rfl rfl ?_
 have hin:=ygj g d ((day+5)%7) hd (by omega)
 unfold yi2
 generalize inM d ((day+5)%7)=b at *
 by_cases h1:f<=day
 ·by_cases h2:day<=t
  all_goals repeat' ((conv=>whnf);first
  | refine Yz ?_
   | (refine zae.of (z3i g _ h) ?_)
   | (refine zae.of hin ?_)
   | (refine Ret.mk ?_))
  all_goals simp [h1,h2]
 ·repeat' ((conv=>whnf);first
 | refine Yz ?_
   | (refine Ret.mk ?_))
  simp [h1]
theorem yve (f t d day:Int) (hd:0<=d/\d<=127) (h:0<=day/\day<=1000000):Fc E zuv [Per f t d,I day] (B (yi2 f t d day)):=by
 refine g.fn rfl rfl ?_
 have hin:=yo1 g d ((day+5)%7) hd (by omega)
 unfold yi2
 generalize inM d ((day+5)%7)=b at *
 by_cases h1:f<=day
 ·by_cases h2:day<=t
  all_goals repeat' ((conv=>whnf);first
  | refine Yz ?_
   | (refine zae.of (yli g _ h) ?_)
   | (refine zae.of hin ?_)
   | (refine Ret.mk ?_))
  all_goals simp [h1,h2]
 ·repeat' ((conv=>whnf);first
 | refine Yz ?_
   | (refine Ret.mk ?_))
  simp [h1]
theorem yo6 (f t d day:Int) (h:zht f t d=0) (h2:rng day 0 99999=0):Fc E zor [Per f t d,I day] (.tup [B (yi2 f t d day),I 0]):=by
 refine g.fn rfl rfl ?_
 have hc:=zj1 g f t d
 have hc2:=z6c g day
 rw [h] at hc
 rw [h2] at hc2
 have hb:=zf0.1 h
 have hb2:=zfe.1 h2
 have hf:Fc E zco [.d (.list 2 [DI 0,DI 0])] (I 0):=ygh g 0 0
 repeat' ((conv=>whnf);first
 | refine Yz ?_
  | (refine zae.of hc ?_)
  | (refine zae.of hc2 ?_)
  | (refine zae.of hf ?_)
  | (refine zae.of (yvi g _ _ _ _ (by omega) (by omega)) ?_)
  | (refine Ret.mk rfl))
theorem yo0 (f t d:Int) (h:zht f t d=0):Fc E zkn [Per f t d] (LI (zku f d (t-f+1).toNat)):=by
 refine g.fn rfl rfl ?_
 have hb:=zf0.1 h
 repeat' ((conv=>whnf);first
 | refine Yz ?_)
 refine zaf.to (zaf.up g (fun k=>[(1,.ptr ⟨0,1,0⟩ 0 0),(3,.ref ⟨0,3,0⟩ 0 (zku f d k).length (zku f d k).length),(4,I (f+k))])
  (fun k=>[(⟨0,1,0⟩,.cells zbp [I f,I t,I d]),(⟨0,2,0⟩,.row false zbs 1 0 []),(⟨0,3,0⟩,.row false zbs 1 (zku f d k).length ((zku f d k).map DI))]) (t-f+1).toNat (fun k hk ih=> ?_) 0 (Nat.zero_le _)) (by simp [zku]) rfl
 have hlen:=zhc f d k
 by_cases hlt:k<(t-f+1).toNat
 ·have hh:=yve g f t d (f+k) (by omega) (by omega)
  have he:yi2 f t d (f+k)=inM d ((f+k+5)%7):=by
   simp only [yi2,decide_eq_true (show f<=f+(k:Int) by omega),decide_eq_true (show f+(k:Int)<=t by omega),Bool.true_and]
  rw [he] at hh
  by_cases hc:inM d ((f+k+5)%7)=true
  ·rw [hc] at hh
   repeat' ((conv=>whnf);first
   | refine Yz ?_
    | (refine zae.of hh ?_)
    | (refine zaf.to (ih hlt) ?_ ?_))
   ·simp [zku,hc];omega
   ·simp [zku,hc]
  ·rw [Bool.not_eq_true] at hc
   rw [hc] at hh
   repeat' ((conv=>whnf);first
   | refine Yz ?_
    | (refine zae.of hh ?_)
    | (refine zaf.to (ih hlt) ?_ ?_))
   ·simp [zku,hc];omega
   ·simp [zku,hc]
 ·have hk':k=(t-f+1).toNat:=by omega
  repeat' ((conv=>whnf);first
  | refine Yz ?_
   | (refine Ret.mk ?_))
  simp [hk']
end
theorem z29 (n a b:Int):rng n a b=if decide (n<a\/b<n)=true then 3 else 0:=by
 unfold rng
 simp only [decide_eq_true_eq]
def ze7 (l:Lmt):Int:=l.to/l.st-(l.fr+l.st-1)/l.st+1
def ysw (f t d n:Int):Bool:=decide (zht f t d≠0)||decide (t-f<n)
def ycb (l:Lmt):List Int:=zku l.pf l.pd (l.pt-l.pf+1).toNat
def zlo (l:Lmt):Bool:=decide (l.nm.length<=40)&&decide (l.ki.length<=40)&&decide (l.te.length<=40)&&ysw l.pf l.pt l.pd 24
def yed (l:Lmt):Int:=if zfz l=0 then ze7 l*(ycb l).length else 0
def zj2:List Lmt->Int
 | []=>0
 | l::r=>yed l+zj2 r
theorem zkf {l:Lmt}:zfz l=0↔nmE l.nm=0/\yoh l.ki=true/\opE l.te=0/\(1<=l.le/\l.le<=1440)/\(1<=l.st/\l.st<=1440)/\(0<=l.fr/\l.fr<=1439)/\(0<=l.to/\l.to<=1439)/\l.fr<=l.to/\zht l.pf l.pt l.pd=0/\(0<=l.mo/\l.mo<=999999999):=by
 unfold zfz
 rw [za5]
 simp only [List.mem_cons,List.not_mem_nil,or_false,forall_eq_or_imp,forall_eq,zfe]
 have e1:(if(!yoh l.ki)=true then(13:Int) else 0)=0↔yoh l.ki=true:=by cases yoh l.ki<;>simp
 have e2:(if l.to<l.fr then(11:Int) else 0)=0↔l.fr<=l.to:=by split<;>omega
 rw [e1,e2]
theorem zk1 {l:Lmt} (h:zfz l=0):0<=ze7 l/\ze7 l<=1440:=by
 obtain⟨_,_,_,_,h1,h2,h3,h4,_⟩:=zkf.1 h
 unfold ze7
 have a1:l.to/l.st<=l.to:=Int.ediv_le_self _ h3.1
 have a2:0<=(l.fr+l.st-1)/l.st:=Int.ediv_nonneg (by omega) (by omega)
 have a3:(l.fr+l.st-1)/l.st<=(l.to+l.st-1)/l.st:=Int.ediv_le_ediv (by omega) (by omega)
 have a4:(l.to+l.st-1)/l.st<=l.to/l.st+1:=by
  have:(l.to+l.st-1)/l.st<=(l.to+l.st*1)/l.st:=Int.ediv_le_ediv (by omega) (by omega)
  rw [Int.add_mul_ediv_left _ _ (by omega)] at this
  exact this
 omega
theorem yee (l:List Lmt) (k:Nat) (h:k<l.length):zj2 (l.take (k+1))=zj2 (l.take k)+yed l[k]:=by
 rw [List.take_add_one,List.getElem?_eq_getElem h]
 have key:∀(a b:List Lmt),zj2 (a++b)=zj2 a+zj2 b:=by
  intro a b
  induction a with
  | nil=>simp [zj2]
  | cons x a ih=>simp only [List.cons_append,zj2,ih];omega
 rw [key]
 simp [zj2]
theorem ye0 (l:Lmt) (h:ysw l.pf l.pt l.pd 24=true) (hc:zht l.pf l.pt l.pd=0):(ycb l).length<=24:=by
 unfold ysw at h
 simp only [hc,ne_eq,not_true_eq_false,decide_false,Bool.false_or,decide_eq_true_eq] at h
 have:=zhc l.pf l.pd (l.pt-l.pf+1).toNat
 unfold ycb
 omega
theorem z3m (l:Lmt) (h:zlo l=true):0<=yed l/\yed l<=34560:=by
 unfold yed
 split
 ·rename_i hc
  have h1:=zk1 hc
  unfold zlo at h
  simp only [Bool.and_eq_true] at h
  have h2:=ye0 l h.2 (zkf.1 hc).2.2.2.2.2.2.2.2.1
  constructor
  ·exact Int.mul_nonneg h1.1 (by omega)
  ·exact Int.le_trans (Int.mul_le_mul h1.2 (show ((ycb l).length:Int)<=24 by omega) (by omega) (by omega)) (by omega)
 ·omega
theorem zy6:∀(l:List Lmt),l.all zlo=true->0<=zj2 l/\zj2 l<=34560*l.length
 | [],_=>by simp [zj2]
 | x::l,h=>by
  simp only [List.all_cons,Bool.and_eq_true] at h
  have h1:=z3m x h.1
  have h2:=zy6 l h.2
  simp only [zj2,List.length_cons]
  omega
section
variable {E : Oracle} (g : Good E)
include g
theorem z21 (n a b:Int):Fc E zeg [I n,I a,I b] (B (decide (n<a\/b<n))):=by
 refine g.fn rfl rfl ?_
 by_cases h1:n<a
 ·rw [decide_eq_true (.inl h1)]
  repeat' ((conv=>whnf);first
  | refine Yz ?_
   | (refine Ret.mk rfl))
 ·by_cases h2:b<n
  ·rw [decide_eq_true (.inr h2)]
   repeat' ((conv=>whnf);first
   | refine Yz ?_
    | (refine Ret.mk rfl))
  ·rw [decide_eq_false (by omega)]
   repeat' ((conv=>whnf);first
   | refine Yz ?_
    | (refine Ret.mk rfl))
theorem ylj (l:Lmt):Fc E zg1 [Lmv l] (I (zfz l)):=by
 refine g.fn rfl rfl ?_
 have n1:=zsz g l.nm
 have n2:=yal g l.te
 have o1:=z21 g l.le 1 1440
 have o2:=z21 g l.st 1 1440
 have o3:=z21 g l.fr 0 1439
 have o4:=z21 g l.to 0 1439
 have o5:=z21 g l.mo 0 999999999
 have hp:=zqd g l.pf l.pt l.pd
 unfold zfz nmE opE yoh
 rw [z29 l.le,z29 l.st,z29 l.fr,z29 l.to,z29 l.mo]
 generalize zfl l.nm=b1 at *
 generalize ym7 l.te=b2 at *
 generalize decide (l.le<1\/1440<l.le)=c1 at *
 generalize decide (l.st<1\/1440<l.st)=c2 at *
 generalize decide (l.fr<0\/1439<l.fr)=c3 at *
 generalize decide (l.to<0\/1439<l.to)=c4 at *
 generalize decide (l.mo<0\/999999999<l.mo)=c5 at *
 generalize zht l.pf l.pt l.pd=cp at *
 repeat' ((conv=>whnf);first
 | refine Yz ?_
  | (apply zae.of;assumption)
  | (refine Cmp.mk (fun h=> ?_) (fun h=> ?_))|(refine Rem.any (by omega) (fun r hr he=> ?_))|(refine Br.mk (fun h=> ?_) (fun h=> ?_))
  | (refine Ret.mk ?_))
 all_goals simp_all [zap]
theorem ylh (l:List Lmt) (q:List UInt8) (hl:l.length<=1000000):Fc E zmy [LLm l,S q] (I (z8u (zkl l) q 0)):=by
 refine g.fn rfl rfl ?_
 generalize hA:z8u (zkl l) q 0=A
 repeat' ((conv=>whnf);first
 | refine Yz ?_)
 refine zaf.to (zaf.upP g (fun k=>[(0,LLm l),(1,S q),(5,I k)]) (fun _=>_) (fun k=>z8u (zkl (l.drop k)) q k=A) l.length (fun k hk h0 ih=> ?_) 0 (Nat.zero_le _) hA) rfl rfl
 by_cases hlt:k<l.length
 ·rw [List.drop_eq_getElem_cons hlt,zkl,List.map_cons,z8u] at h0
  have ih:=ih hlt
  by_cases hd:l[k].nm=q
  ·rw [if_pos hd.symm] at h0
   subst h0
   repeat' ((conv=>whnf);first
   | refine Yz ?_
    | (refine zg4.rec Lmt.cells_length k rfl hlt rfl ?_)
    | (refine Cmp.tt hd ?_)
    | (refine Ret.mk rfl))
  ·rw [if_neg (Ne.symm hd)] at h0
   have ih:=ih h0
   repeat' ((conv=>whnf);first
   | refine Yz ?_
    | (refine zg4.rec Lmt.cells_length k rfl hlt rfl ?_)
    | (refine Cmp.ff hd ?_)
    | (refine zaf.to ih rfl rfl))
 ·rw [List.drop_eq_nil_of_le (by omega),zkl,List.map_nil,z8u] at h0
  subst h0
  repeat' ((conv=>whnf);first
  | refine Yz ?_
   | (refine Ret.mk rfl))
theorem z7z (l:List Lmt) (hl:l.length<=1000000):Fc E ziu [LLm l] (I (zqm l)):=by
 refine g.fn rfl rfl ?_
 unfold zqm
 by_cases hm:32<l.length
 ·rw [if_pos hm]
  repeat' ((conv=>whnf);first
  | refine Yz ?_
   | (refine Ret.mk rfl))
 rw [if_neg hm]
 generalize hR:zzz [] l=R
 repeat' ((conv=>whnf);first
 | refine Yz ?_)
 refine zaf.to (zaf.upP g (fun k=>[(0,LLm l),(3,I k)]) (fun _=>[]) (fun k=>zzz (zkl (l.take k)) (l.drop k)=R) l.length (fun k hk h0 ih=> ?_) 0 (Nat.zero_le _) hR) rfl rfl
 by_cases hlt:k<l.length
 ·have hs:zkl (l.take (k+1))=zkl (l.take k)++[l[k].nm]:=yfz Lmt.nm hlt
  rw [List.drop_eq_getElem_cons hlt,zzz,<-hs] at h0
  have ih:=ih hlt
  have hc:=ylj g l[k]
  have hn:=ylh g (l.take k) l[k].nm (by simp;omega)
  have ht:=ydx Lmt.cells 11 Lmt.cells_length l k (by omega)
  have hm:=z7f l[k].nm (zkl (l.take k)) 0
  generalize z8u (zkl (l.take k)) l[k].nm 0=r at *
  have hq:yb4 (zkl (l.take k)) l[k]=if zfz l[k]=0 then if 0<=r then 9 else 0 else zfz l[k]:=by
   unfold yb4 zap zap zap
   by_cases hr:0<=r
   ·rw [if_pos (hm.1 hr),if_pos hr];rfl
   ·rw [if_neg (fun h=>hr (hm.2 h)),if_neg hr];rfl
  rw [hq] at h0
  generalize zfz l[k]=x at *
  by_cases hz:x=0
  ·rw [if_pos hz] at h0
   by_cases hr:0<=r
   ·simp only [if_pos hr] at h0
    rw [if_neg (by decide)] at h0
    rw [<-h0]
    repeat' ((conv=>whnf);first
    | refine Yz ?_
     | (refine zal.rec Lmt.cells_length k rfl hlt ?_)
     | (refine zg4.rec Lmt.cells_length k rfl hlt rfl ?_)
     | (refine zff.at 0 k rfl rfl (by omega) ?_<;>(try rw [ht]))
     | (apply zae.of;assumption)
     | (refine Cmp.ff (fun h=>h hz) ?_)
     | (refine Ret.mk rfl))
   ·simp only [if_neg hr,if_true] at h0
    replace ih:=ih h0
    repeat' ((conv=>whnf);first
    | refine Yz ?_
     | (refine zal.rec Lmt.cells_length k rfl hlt ?_)
     | (refine zg4.rec Lmt.cells_length k rfl hlt rfl ?_)
     | (refine zff.at 0 k rfl rfl (by omega) ?_<;>(try rw [ht]))
     | (apply zae.of;assumption)
     | (refine Cmp.ff (fun h=>h hz) ?_)
     | (refine zaf.to ih rfl rfl))
  ·rw [if_neg hz] at h0
   rw [if_neg hz] at h0
   rw [<-h0]
   repeat' ((conv=>whnf);first
   | refine Yz ?_
    | (refine zal.rec Lmt.cells_length k rfl hlt ?_)
    | (apply zae.of;assumption)
    | (refine Cmp.tt hz ?_)
    | (refine Ret.mk rfl))
 ·rw [List.drop_eq_nil_of_le (by omega),zzz] at h0
  rw [<-h0]
  repeat' ((conv=>whnf);first
  | refine Yz ?_
   | (refine Ret.mk rfl))
theorem yvf (f t d n:Int):Fc E zuw [Per f t d,I n] (B (ysw f t d n)):=by
 refine g.fn rfl rfl ?_
 have hp:=zqd g f t d
 unfold ysw
 by_cases hz:zht f t d=0
 ·have hb:=zf0.1 hz
  by_cases hlt:t-f<n
  ·rw [hz,decide_eq_true hlt]
   rw [hz] at hp
   repeat' ((conv=>whnf);first
   | refine Yz ?_
    | (apply zae.of;assumption)
    | (refine Ret.mk rfl))
  ·rw [hz,decide_eq_false hlt]
   rw [hz] at hp
   repeat' ((conv=>whnf);first
   | refine Yz ?_
    | (apply zae.of;assumption)
    | (refine Ret.mk rfl))
 ·rw [decide_eq_true hz]
  repeat' ((conv=>whnf);first
  | refine Yz ?_
   | (apply zae.of;assumption)
   | (refine Cmp.tt hz ?_)
   | (refine Ret.mk rfl))
theorem yo2 (l:Lmt) (h:zfz l=0):Fc E zov [Lmv l] (I (ze7 l)):=by
 refine g.fn rfl rfl ?_
 obtain⟨_,_,_,_,h1,h2,h3,h4,_⟩:=zkf.1 h
 have a1:l.to/l.st<=l.to:=Int.ediv_le_self _ h3.1
 have a2:0<=(l.fr+l.st-1)/l.st:=Int.ediv_nonneg (by omega) (by omega)
 have a3:(l.fr+l.st-1)/l.st<=l.fr+l.st-1:=Int.ediv_le_self _ (by omega)
 have a4:0<=l.to/l.st:=Int.ediv_nonneg (by omega) (by omega)
 repeat' ((conv=>whnf);first
 | refine Yz ?_
  | (refine Ret.mk rfl))
theorem z71 (l:List Lmt) (hl:l.length<=3):Fc E ziv [LLm l,I 3] (B (l.all zlo&&decide (zj2 l<=400))):=by
 refine g.fn rfl rfl ?_
 generalize hR:(l.all zlo&&decide (zj2 l<=400))=R
 repeat' ((conv=>whnf);first
 | refine Yz ?_)
 refine zaf.to (zaf.upP g (fun k=>[(0,LLm l),(5,I (zj2 (l.take k))),(6,I k)]) (fun _=>[]) (fun k=>(l.take k).all zlo=true) l.length (fun k hk h0 ih=> ?_) 0 (Nat.zero_le _) rfl) rfl rfl
 by_cases hlt:k<l.length
 ·have hs:(l.take (k+1)).all zlo=((l.take k).all zlo&&zlo l[k]):=by
   rw [List.take_add_one,List.getElem?_eq_getElem hlt,List.all_append]
   simp
  have hall:zlo l[k]=false->R=false:=fun hf=>by
   rw [<-hR]
   have:l.all zlo=false:=by
    rw [List.all_eq_false]
    exact⟨l[k],List.getElem_mem hlt,by rw [hf];decide⟩
   rw [this,Bool.false_and]
  have hsum:=yee l k hlt
  have ih:=ih hlt
  have hfw:=yvf g l[k].pf l[k].pt l[k].pd 24
  have hc:=ylj g l[k]
  have hst:=yo2 g l[k]
  have hdy:=yo0 g l[k].pf l[k].pt l[k].pd
  have hr0:=zy6 (l.take k) h0
  have hlk:(l.take k).length=k:=by rw [List.length_take];omega
  rw [hlk] at hr0
  rw [hs,h0,Bool.true_and] at ih
  have hsr:=z3m l[k]
  rw [hsum] at ih
  cases hsh:zlo l[k] with
  | false=>
   rw [hall hsh]
   clear ih hsr hst hdy hc
   unfold zlo at hsh
   simp only [Bool.and_eq_false_iff,decide_eq_false_iff_not] at hsh
   generalize ysw l[k].pf l[k].pt l[k].pd 24=b at *
   repeat' ((conv=>whnf);first
   | refine Yz ?_
    | (refine zg4.rec Lmt.cells_length k rfl hlt rfl ?_)
    | (refine zal.part Lmt.cells_length k rfl hlt (by decide) rfl ?_)
    | (apply zae.of;assumption)
    | (refine Cmp.mk (fun h=> ?_) (fun h=> ?_))|(refine Rem.any (by omega) (fun r hr he=> ?_))|(refine Br.mk (fun h=> ?_) (fun h=> ?_))
    | (refine Ret.mk rfl)
    | (exfalso;simp_all;omega)
    | fail)
  | true=>
   replace ih:=ih hsh
   have hsr:=hsr hsh
   have hsh0:=hsh
   unfold zlo at hsh
   simp only [Bool.and_eq_true,decide_eq_true_eq] at hsh
   obtain⟨⟨⟨s1,s2⟩,s3⟩,s4⟩:=hsh
   rw [s4] at hfw
   by_cases hz:zfz l[k]=0
   ·have hz2:=zkf.1 hz
    have hdl:=ye0 l[k] s4 hz2.2.2.2.2.2.2.2.2.1
    replace hst:=hst hz
    replace hdy:=hdy hz2.2.2.2.2.2.2.2.2.1
    have hsr2:=zk1 hz
    have e:yed l[k]=ze7 l[k]*(ycb l[k]).length:=if_pos hz
    rw [e] at ih hsr
    change Fc E zkn _ (LI (ycb l[k])) at hdy
    rw [hz] at hc
    generalize ze7 l[k]=x at *
    generalize ycb l[k]=ds at *
    repeat' ((conv=>whnf);first
    | refine Yz ?_
     | (refine zg4.rec Lmt.cells_length k rfl hlt rfl ?_)
     | (refine zal.part Lmt.cells_length k rfl hlt (by decide) rfl ?_)
     | (refine zal.rec Lmt.cells_length k rfl hlt ?_)
     | (apply zae.of;assumption)
     | (refine zaf.to ih rfl rfl)
     | fail)
   ·have e:yed l[k]=0:=if_neg hz
    rw [e,Int.add_zero] at ih
    repeat' ((conv=>whnf);first
    | refine Yz ?_
     | (refine zg4.rec Lmt.cells_length k rfl hlt rfl ?_)
     | (refine zal.part Lmt.cells_length k rfl hlt (by decide) rfl ?_)
     | (refine zal.rec Lmt.cells_length k rfl hlt ?_)
     | (apply zae.of;assumption)
     | (refine Cmp.ff hz ?_)
     | (refine zaf.to ih rfl rfl)
     | fail)
 ·have hk':k=l.length:=by omega
  subst hk'
  rw [List.take_length] at *
  rw [h0,Bool.true_and] at hR
  rw [<-hR]
  by_cases hle:zj2 l<=400
  ·rw [decide_eq_true hle]
   repeat' ((conv=>whnf);first
   | refine Yz ?_
    | (refine Ret.mk rfl))
  ·rw [decide_eq_false hle]
   repeat' ((conv=>whnf);first
   | refine Yz ?_
    | (refine Ret.mk rfl))
end
end Go.Proofs.YtkgcnknhkobmjaaGreatDoor.Co
