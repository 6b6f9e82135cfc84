/-
  TopTowerParts: what its law leans on, part 1.
-/
import Derived.Laws.RangeAny
import Derived.Test.YtjfnkgfhbplfaaaGreatDoorRead
import Derived.Test.YtjfnkgfhbplfaaaGreatDoorSpBase
namespace Go.Proofs.YtjfnkgfhbplfaaaGreatDoor.Co
open Go Go.Evl
set_option maxHeartbeats 32000000
set_option maxRecDepth 100000
def rng (n a b:Int):Int:=if n<a\/b<n then 3 else 0
def za7:List Int->Int
 | []=>0
 | x::r=>if x=0 then za7 r else x
theorem zbn:∀l:List Int,za7 l=0↔∀x∈l,x=0
 | []=>by simp [za7]
 | x::r=>by
  simp only [za7,List.mem_cons,forall_eq_or_imp]
  split
  ·rename_i h;rw [zbn r];exact⟨fun hr=>⟨h,hr⟩,fun hr=>hr.2⟩
  ·rename_i h;exact⟨fun hr=>absurd hr h,fun hr=>absurd hr.1 h⟩
theorem yjm (n a b:Int):0<=rng n a b/\rng n a b<=3:=by unfold rng;split<;>omega
theorem zfc {n a b:Int}:rng n a b=0↔a<=n/\n<=b:=by unfold rng;split<;>omega
section
variable {E : Oracle} (g : Good E)
include g
theorem ye0 (b:Bool) (e:Int):Fc E zfl [B b,I e] (I (if b then e else 0)):=by
 refine g.fn rfl rfl ?_
 cases b
 all_goals repeat' ((conv=>whnf);first
 | refine Yz ?_
  | (refine Ret.mk rfl))
theorem ye1 (n a b:Int):Fc E zds [I n,I a,I b] (I (rng n a b)):=by
 refine g.fn rfl rfl ?_
 repeat' ((conv=>whnf);first
 | refine Yz ?_
  | (refine Cmp.mk (fun h=> ?_) (fun h=> ?_))|(refine Rem.any (by omega) (fun r hr he=> ?_))|(refine Br.mk (fun h=> ?_) (fun h=> ?_))
  | (refine zae.of (ye0 g _ _) ?_)
  | (refine Ret.mk ?_))
 all_goals (simp only [V.d.injEq,D.int.injEq,true_and,rng];simp_all)
omit g in
theorem z26 (l:List Int) (k:Nat) (h:k<l.length):za7 (l.drop k)=if l.getD k 0=0 then za7 (l.drop (k+1)) else l.getD k 0:=by
 rw [List.drop_eq_getElem_cons h]
 simp [za7,List.getD,h]
theorem yjs (l:List Int) (hl:l.length<=140737488355328):Fc E zbp [LI l] (I (za7 l)):=by
 refine g.fn rfl rfl ?_
 conv=>whnf
 refine zad.upP g (fun k=>[(5,LI l),(6,I l.length),(7,I k)]) (fun _=>[]) (fun k=>za7 l=za7 (l.drop k)) l.length (fun k hk hp ih=> ?_) 0 (Nat.zero_le _) (by simp)
 by_cases hlt:k<l.length
 ·have hd:=z26 l k hlt
  repeat' ((conv=>whnf);first
  | refine Yz ?_
   | (refine zou.int (by omega) ?_)
   | (refine Cmp.mk (fun h=> ?_) (fun h=> ?_))|(refine Rem.any (by omega) (fun r hr he=> ?_))|(refine Br.mk (fun h=> ?_) (fun h=> ?_))
   | (refine zad.to (ih hlt ?_) ?_ rfl)
   | (refine Ret.mk ?_))
  all_goals simp_all
 ·have:l.drop k=[]:=List.drop_eq_nil_of_le (by omega)
  repeat' ((conv=>whnf);first
  | refine Yz ?_
   | (refine Ret.mk ?_))
  simp [hp,this,za7]
theorem z1t (a b:Int):Fc E zbp [.d (.list 2 [DI a,DI b])] (I (za7 [a,b])):=yjs g [a,b] (by simp)
theorem ylt (a b c:Int):Fc E zbp [.d (.list 3 [DI a,DI b,DI c])] (I (za7 [a,b,c])):=yjs g [a,b,c] (by simp)
theorem zzm (n:Int):Fc E zcs [I n] (I (rng n 0 99999)):=by
 refine g.fn rfl rfl ?_
 repeat' ((conv=>whnf);first
 | refine Yz ?_
  | (refine zae.of (ye1 g _ _ _) ?_)
  | (refine Ret.mk rfl))
theorem zz2 (n a b:Int):Fc E zg8 [I n,I a,I b] (I (rng n a b)):=by
 refine g.fn rfl rfl ?_
 repeat' ((conv=>whnf);first
 | refine Yz ?_
  | (refine Cmp.mk (fun h=> ?_) (fun h=> ?_))|(refine Rem.any (by omega) (fun r hr he=> ?_))|(refine Br.mk (fun h=> ?_) (fun h=> ?_))
  | (refine Ret.mk ?_))
 all_goals (simp only [V.d.injEq,D.int.injEq,true_and,rng];simp_all)
theorem ygb (n:Int):Fc E zi2 [I n] (I (rng n 0 99999)):=by
 refine g.fn rfl rfl ?_
 repeat' ((conv=>whnf);first
 | refine Yz ?_
  | (refine zae.of (zz2 g _ _ _) ?_)
  | (refine Ret.mk rfl))
omit g in
def ze5 (f t d:Int):Int:=if f<0\/99999<f\/t<0\/99999<t then 3 else if t<f then 11 else if 400<t-f then 4 else rng d 1 127
omit g in
theorem zay {f t d:Int}:ze5 f t d=0↔0<=f/\f<=t/\t<=99999/\t-f<=400/\1<=d/\d<=127:=by
 unfold ze5 rng
 repeat' split
 all_goals omega
omit g in
theorem yl7 (f t:Int):za7 [rng f 0 99999,rng t 0 99999]=0↔(0<=f/\f<=99999/\0<=t/\t<=99999):=by
 simp only [za7];unfold rng
 repeat' split
 all_goals omega
omit g in
theorem yoc (f t:Int) (h:za7 [rng f 0 99999,rng t 0 99999]≠0):za7 [rng f 0 99999,rng t 0 99999]=3:=by
 simp only [za7] at h ⊢;unfold rng at h ⊢
 repeat' split
 all_goals (try omega)
 all_goals simp_all
theorem zkg (f t d:Int):Fc E za5 [Per f t d] (I (ze5 f t d)):=by
 refine g.fn rfl rfl ?_
 have k1:=yl7 f t
 have k2:=yoc f t
 have k3:=yjm d 1 127
 repeat' ((conv=>whnf);first
 | refine Yz ?_
  | (refine zae.of (zzm g _) ?_)
  | (refine zae.of (z1t g _ _) ?_)
  | (refine zae.of (ye0 g _ _) ?_)
  | (refine zae.of (ye1 g _ _ _) ?_)
  | (refine zae.of (ylt g _ _ _) ?_)
  | (refine Cmp.mk (fun h=> ?_) (fun h=> ?_))|(refine Rem.any (by omega) (fun r hr he=> ?_))|(refine Br.mk (fun h=> ?_) (fun h=> ?_))
  | (refine Ret.mk ?_))
 all_goals (simp only [V.d.injEq,D.int.injEq,true_and,ze5])
 all_goals first
  | (rw [if_pos (by omega)];omega)
  | (simp [za7];repeat' split;all_goals omega)
theorem zrh (f t d:Int):Fc E zd3 [Per f t d] (I (ze5 f t d)):=by
 refine g.fn rfl rfl ?_
 have k1:=@zfc f 0 99999
 have k2:=@zfc t 0 99999
 repeat' ((conv=>whnf);first
 | refine Yz ?_
  | (refine zae.of (ygb g _) ?_)
  | (refine zae.of (zz2 g _ _ _) ?_)
  | (refine Cmp.mk (fun h=> ?_) (fun h=> ?_))|(refine Rem.any (by omega) (fun r hr he=> ?_))|(refine Br.mk (fun h=> ?_) (fun h=> ?_))
  | (refine Ret.mk ?_))
 all_goals (simp only [V.d.injEq,D.int.injEq,true_and,ze5])
 all_goals (repeat' split)
 all_goals first
  | rfl
  | omega
omit g in
def inM (m w:Int):Bool:=decide (m/2^w.toNat%2=1)
theorem yln (m w:Int) (hm:0<=m/\m<=127) (hw:0<=w/\w<=6):Fc E zpk [I m,I w] (B (inM m w)):=by
 refine g.fn rfl rfl ?_
 conv=>whnf
 refine zad.to (zad.up g (fun k=>[(0,I (m/2^k)),(1,I w),(5,I k)]) (fun _=>[]) w.toNat (fun k hk ih=> ?_) 0 (Nat.zero_le _)) ?_ rfl
 ·have h0:0<=m/2^k:=Int.ediv_nonneg hm.1 (Int.pow_nonneg (by decide))
  have h1:m/2^k<=m:=Int.ediv_le_self _ hm.1
  have h2:m/2^k/2=m/2^(k+1):=by rw [Int.pow_succ,Int.ediv_ediv_of_nonneg (Int.pow_nonneg (by decide))]
  by_cases hlt:k<w.toNat
  ·repeat' ((conv=>whnf);first
  | refine Yz ?_
    | (refine zad.to (ih hlt) ?_ rfl)
    | (refine Ret.mk ?_))
   simp [h2]
  ·have:k=w.toNat:=by omega
   subst this
   repeat' ((conv=>whnf);first
   | refine Yz ?_
    | (refine Cmp.mk (fun h=> ?_) (fun h=> ?_))|(refine Rem.any (by omega) (fun r hr he=> ?_))|(refine Br.mk (fun h=> ?_) (fun h=> ?_))
    | (refine Ret.mk ?_))
   all_goals simp_all [inM]
 ·simp
end
theorem yg8.at {s:List UInt8} {i:Nat} {K:UInt8->Prop} (k:Nat) (hi:i=k) (h:k<s.length) (hk:K (s.getD k 0)):yg8 s i K:=by
 subst hi
 exact⟨⟨_,by simp [List.getD,h],hk⟩⟩
theorem z10.asc {s:List UInt8} {k:Nat} {a:Int->Nat->Prop} {b:Prop} (h:k<s.length) (ha:(s.getD k 0).toNat<128) (hk:a (s.getD k 0).toNat 1):z10 s k a b:=by
 refine⟨fun _=> ?_,fun hn=>absurd h hn⟩
 have e:(s.getD k 0)=s[k]:=by simp [List.getD,h]
 have hd:=decode_ascii ⟨s.toArray⟩ k (by simpa [ByteArray.size] using h) (by rw [e] at ha;exact ha)
 rw [hd]
 rw [e] at hk
 exact hk
theorem z10.high {s:List UInt8} {k:Nat} {a:Int->Nat->Prop} {b:Prop} (h:k<s.length) (ha:128<=(s.getD k 0).toNat) (hk:∀(c:Int) (w:Nat),128<=c->1<=w->a c w):z10 s k a b:=by
 refine⟨fun _=> ?_,fun hn=>absurd h hn⟩
 have e:(s.getD k 0)=s[k]:=by simp [List.getD,h]
 have hd:=decode_high ⟨s.toArray⟩ k (by simpa [ByteArray.size] using h) (by rw [e] at ha;exact ha)
 exact hk _ _ (by omega) hd.2
theorem z10.end' {s:List UInt8} {k:Nat} {a:Int->Nat->Prop} {b:Prop} (h:s.length<=k) (hk:b):z10 s k a b:=⟨fun hn=>absurd hn (by omega),fun _=>hk⟩
def yb0 (k:Nat) (b:UInt8):Prop:=(65<=b.toNat/\b.toNat<=90)\/(97<=b.toNat/\b.toNat<=122)\/(0<k/\(b.toNat=95\/(48<=b.toNat/\b.toNat<=57)))
instance (k:Nat) (b:UInt8):Decidable (yb0 k b):=by unfold yb0;infer_instance
def ynj (s:List UInt8):Prop:=0<s.length/\s.length<=24/\∀i,i<s.length->yb0 i (s.getD i 0)
instance (s:List UInt8):Decidable (ynj s):=by unfold ynj;infer_instance
def zkz (s:List UInt8):Bool:=decide (ynj s)
theorem z3g {s:List UInt8} {k:Nat} (hk:k<s.length) (h:¬yb0 k (s.getD k 0)):zkz s=false:=decide_eq_false fun hn=>h (hn.2.2 k hk)
section
variable {E : Oracle} (g : Good E)
include g
theorem z1s (s:List UInt8):Fc E za8 [S s] (B (zkz s)):=by
 refine g.fn rfl rfl ?_
 by_cases h0:0<s.length/\s.length<=24
 ·repeat' ((conv=>whnf);first
 | refine Yz ?_)
  refine zad.to (zad.upP g (fun _=>[(15,.it ⟨0,15,0⟩)]) (fun k=>[(⟨0,15,0⟩,.iter s k)]) (fun k=>∀i,i<k->yb0 i (s.getD i 0)) s.length (fun k hk hp ih=> ?_) 0 (Nat.zero_le _) (fun i hi=>by omega)) rfl rfl
  by_cases hlt:k<s.length
  ·by_cases ha:(s.getD k 0).toNat<128
   ·by_cases hok:yb0 k (s.getD k 0)
    ·have hp':∀i,i<k+1->yb0 i (s.getD i 0):=fun i hi=>by
      by_cases e:i=k
      ·subst e;exact hok
      ·exact hp i (by omega)
     have ih:=ih hlt hp'
     unfold yb0 at hok
     repeat' ((conv=>whnf);first
     | refine Yz ?_
      | (refine z10.asc hlt ha ?_)
      | (refine Cmp.mk (fun h=> ?_) (fun h=> ?_))|(refine Rem.any (by omega) (fun r hr he=> ?_))|(refine Br.mk (fun h=> ?_) (fun h=> ?_))
      | (refine zad.to ih rfl rfl)
      | (exfalso;omega))
    ·have hno:=z3g hlt hok
     unfold yb0 at hok
     rw [hno]
     repeat' ((conv=>whnf);first
     | refine Yz ?_
      | (refine z10.asc hlt ha ?_)
      | (refine Cmp.mk (fun h=> ?_) (fun h=> ?_))|(refine Rem.any (by omega) (fun r hr he=> ?_))|(refine Br.mk (fun h=> ?_) (fun h=> ?_))
      | (refine Ret.mk rfl)
      | (exfalso;omega))
   ·have hno:zkz s=false:=z3g hlt (by unfold yb0;omega)
    rw [hno]
    repeat' ((conv=>whnf);first
    | refine Yz ?_
     | (refine z10.high hlt (by omega) (fun c w hc hw=> ?_))
     | (refine Cmp.mk (fun h=> ?_) (fun h=> ?_))|(refine Rem.any (by omega) (fun r hr he=> ?_))|(refine Br.mk (fun h=> ?_) (fun h=> ?_))
     | (refine Ret.mk rfl)
     | (exfalso;omega))
  ·have hk':k=s.length:=by omega
   subst hk'
   have hyes:zkz s=true:=decide_eq_true ⟨h0.1,h0.2,hp⟩
   rw [hyes]
   repeat' ((conv=>whnf);first
   | refine Yz ?_
    | (refine z10.end' (Nat.le_refl _) ?_)
    | (refine Ret.mk rfl))
 ·have hno:zkz s=false:=decide_eq_false fun hn=>h0 ⟨hn.1,hn.2.1⟩
  rw [hno]
  repeat' ((conv=>whnf);first
  | refine Yz ?_
   | (refine Cmp.mk (fun h=> ?_) (fun h=> ?_))|(refine Rem.any (by omega) (fun r hr he=> ?_))|(refine Br.mk (fun h=> ?_) (fun h=> ?_))
   | (refine Ret.mk rfl)
   | (exfalso;omega))
theorem z1p (s:List UInt8):Fc E zgv [S s] (B (zkz s)):=by
 refine g.fn rfl rfl ?_
 by_cases h0:0<s.length/\s.length<=24
 ·repeat' ((conv=>whnf);first
 | refine Yz ?_)
  refine zad.to (zad.upP g (fun k=>[(0,S s),(3,I k)]) (fun _=>[]) (fun k=>∀i,i<k->yb0 i (s.getD i 0)) s.length (fun k hk hp ih=> ?_) 0 (Nat.zero_le _) (fun i hi=>by omega)) rfl rfl
  by_cases hlt:k<s.length
  ·by_cases hok:yb0 k (s.getD k 0)
   ·have hp':∀i,i<k+1->yb0 i (s.getD i 0):=fun i hi=>by
     by_cases e:i=k
     ·subst e;exact hok
     ·exact hp i (by omega)
    have ih:=ih hlt hp'
    unfold yb0 at hok
    repeat' ((conv=>whnf);first
    | refine Yz ?_
     | (refine yg8.at k (by omega) hlt ?_)
     | (refine Cmp.mk (fun h=> ?_) (fun h=> ?_))|(refine Rem.any (by omega) (fun r hr he=> ?_))|(refine Br.mk (fun h=> ?_) (fun h=> ?_))
     | (refine zad.to ih rfl rfl)
     | (exfalso;omega))
   ·have hno:=z3g hlt hok
    unfold yb0 at hok
    rw [hno]
    repeat' ((conv=>whnf);first
    | refine Yz ?_
     | (refine yg8.at k (by omega) hlt ?_)
     | (refine Cmp.mk (fun h=> ?_) (fun h=> ?_))|(refine Rem.any (by omega) (fun r hr he=> ?_))|(refine Br.mk (fun h=> ?_) (fun h=> ?_))
     | (refine Ret.mk rfl)
     | (exfalso;omega))
  ·have hk':k=s.length:=by omega
   subst hk'
   have hyes:zkz s=true:=decide_eq_true ⟨h0.1,h0.2,hp⟩
   rw [hyes]
   repeat' ((conv=>whnf);first
   | refine Yz ?_
    | (refine Ret.mk rfl))
 ·have hno:zkz s=false:=decide_eq_false fun hn=>h0 ⟨hn.1,hn.2.1⟩
  rw [hno]
  repeat' ((conv=>whnf);first
  | refine Yz ?_
   | (refine Cmp.mk (fun h=> ?_) (fun h=> ?_))|(refine Rem.any (by omega) (fun r hr he=> ?_))|(refine Br.mk (fun h=> ?_) (fun h=> ?_))
   | (refine Ret.mk rfl)
   | (exfalso;omega))
end
theorem ymy:∀(m:Fin 128) (w:Fin 7),IntKind.i64.wrap ((BitVec.ofInt IntKind.i64.bits ((m.val:Int).fdiv (2^(min (w.val:Int).toNat IntKind.i64.bits)))&&&BitVec.ofInt IntKind.i64.bits 1).toNat)=(m.val:Int)/2^(w.val:Int).toNat%2:=by decide+kernel
theorem zgx.of {E:Oracle} {f:Nat} {args:List V} {cx:Cx} {slot:Nat} {m:Mem} {K:V->Mem->Prop} (h:In E 0 f args [] fun v m'=>ymx (Go.Evl.settle cx slot 0 m m' v) fun p=>K p.1 p.2):zgx E f args cx slot m K:=by
 obtain⟨v,m',h1,p,h2,h3⟩:=h
 exact⟨v,m',p,h1,h2,h3⟩
section
variable {E : Oracle} (g : Good E)
include g
theorem yez (m w:Int) (hm:0<=m/\m<=127) (hw:0<=w/\w<=6):Fc E zh4 [I m,I w] (B (inM m w)):=by
 refine g.fn rfl rfl ?_
 have h:=ymy ⟨m.toNat,by omega⟩ ⟨w.toNat,by omega⟩
 simp only [Int.toNat_of_nonneg hm.1,Int.toNat_of_nonneg hw.1] at h
 unfold inM
 by_cases hc:m/2^w.toNat%2=1
 ·repeat' ((conv=>whnf);first
 | refine Yz ?_
   | (refine Cmp.tt (h.trans hc) ?_)
   | (refine Ret.mk ?_))
  simp [hc]
 ·repeat' ((conv=>whnf);first
 | refine Yz ?_
   | (refine Cmp.ff (fun e=>hc (h.symm.trans e)) ?_)
   | (refine Ret.mk ?_))
  simp [hc]
end
structure Rqt where
 (nm ca ki te pa li:List UInt8)
 (fr to da mi se si no:Int)
 deriving DecidableEq
def Rqt.cells (q:Rqt):List D:=[.str q.nm,.str q.ca,.str q.ki,.str q.te,.str q.pa,.str q.li,DI q.fr,DI q.to,DI q.da,DI q.mi,DI q.se,DI q.si,DI q.no]
structure Lnt where
 ac:List UInt8
 rq:Rqt
def Lnt.cells (l:Lnt):List D:= .str l.ac::l.rq.cells
theorem Lnt.cells_length (l:Lnt):l.cells.length=14:=rfl
theorem Rqt.cells_length (q:Rqt):q.cells.length=13:=rfl
abbrev Rqv (q:Rqt):V:= .d (.agg q.cells)
def nmE (s:List UInt8):Int:=if(!zkz s)=true then 8 else 0
def yns (s:List UInt8):Bool:=decide (s=[])||zkz s
def opE (s:List UInt8):Int:=if(!yns s)=true then 8 else 0
def yk8 (s:List UInt8):Bool:=decide (s=[65])||decide (s=[68])
theorem zbd {α:Type} (cell:α->List D) (w:Nat) (hw:∀a,(cell a).length=w):∀l:List α,(l.flatMap cell).length=l.length*w
 | []=>by simp
 | c::r=>by rw [List.flatMap_cons,List.length_append,hw,zbd cell w hw r,List.length_cons,Nat.succ_mul];omega
theorem zqc {α:Type} (cell:α->List D) (w:Nat) (hw:∀a,(cell a).length=w):∀(l:List α) (k:Nat),(l.flatMap cell).drop (k*w)=(l.drop k).flatMap cell
 | l,0=>by simp
 | [],k+1=>by simp
 | c::r,k+1=>by
  rw [List.flatMap_cons,List.drop_succ_cons,<-zqc cell w hw r k,Nat.succ_mul,Nat.add_comm,<-List.drop_drop]
  congr 1
  rw [List.drop_append_of_le_length (by rw [hw];exact Nat.le_refl _),List.drop_of_length_le (by rw [hw];exact Nat.le_refl _)]
  rfl
theorem z3a {α:Type} (cell:α->List D) (w:Nat) (hw:∀a,(cell a).length=w) (l:List α) (k:Nat) (h:k<l.length):win (l.flatMap cell) (k*w) w=cell l[k]:=by
 unfold win
 rw [zqc cell w hw,List.drop_eq_getElem_cons h,List.flatMap_cons,List.take_append_of_le_length (by rw [hw];exact Nat.le_refl _),List.take_of_length_le (by rw [hw];exact Nat.le_refl _)]
theorem yh1 {α:Type} (cell:α->List D) (w:Nat) (hw:∀a,(cell a).length=w) (l:List α) (k j:Nat) (h:k<l.length) (hj:j<w):(l.flatMap cell)[k*w+j]? =(cell l[k])[j]? :=by
 rw [<-List.getElem?_drop,zqc cell w hw,List.drop_eq_getElem_cons h,List.flatMap_cons,List.getElem?_append_left (by rw [hw];exact hj)]
theorem zcz.rec {α:Type} {cell:α->List D} {w:Nat} (hw:∀a,(cell a).length=w) {l:List α} {i:Int} {K:List D->Prop} (k:Nat) (hi:i=k) (h:k<l.length) (hk:K (cell l[k])):zcz (l.flatMap cell) (i.toNat*w) w K:=by
 subst hi
 rw [Int.toNat_natCast]
 have h1:=zbd cell w hw l
 refine⟨?_,by rw [z3a cell w hw l k h];exact hk⟩
 have h2:(k+1)*w<=l.length*w:=Nat.mul_le_mul_right _ h
 rw [Nat.succ_mul] at h2
 omega
theorem zcz.rec0 {α:Type} {cell:α->List D} {w:Nat} (hw:∀a,(cell a).length=w) {l:List α} {i:Int} {K:List D->Prop} (k:Nat) (hi:i=k) (h:k<l.length) (hk:K (cell l[k])):zcz (l.flatMap cell) ((0+i.toNat)*w) w K:=by
 rw [Nat.zero_add];exact zcz.rec hw k hi h hk
theorem zou.rec {α:Type} {cell:α->List D} {w:Nat} (hw:∀a,(cell a).length=w) {l:List α} {i:Int} {j:Nat} {K:D->Prop} {d:D} (k:Nat) (hi:i=k) (h:k<l.length) (hj:(cell l[k])[j]? =some d) (hk:K d):zou (l.flatMap cell) (i.toNat*w+j) K:=by
 subst hi
 rw [Int.toNat_natCast]
 have hlt:j<w:=by
  have:=(List.getElem?_eq_some_iff.1 hj).1
  rwa [hw] at this
 exact⟨⟨d,by rw [yh1 cell w hw l k j h hlt];exact hj,hk⟩⟩
theorem zou.rec0 {α:Type} {cell:α->List D} {w:Nat} (hw:∀a,(cell a).length=w) {l:List α} {i:Int} {j:Nat} {K:D->Prop} {d:D} (k:Nat) (hi:i=k) (h:k<l.length) (hj:(cell l[k])[j]? =some d) (hk:K d):zou (l.flatMap cell) ((0+i.toNat)*w+j) K:=by
 rw [Nat.zero_add];exact zou.rec hw k hi h hj hk
theorem zou.intI {l:List Int} {i:Int} {K:D->Prop} (k:Nat) (hi:i=k) (h:k<l.length) (hk:K (DI l[k])):zou (l.map DI) (i.toNat*1) K:=by
 subst hi
 refine⟨⟨_,?_,hk⟩⟩
 simp [h]
def z9i (f:Nat->Int):Nat->Nat->Int
 | _,0=>0
 | k,n+1=>if f k=0 then z9i f (k+1) n else f k
theorem z27 (f:Nat->Int):∀(n k:Nat),z9i f k n=0↔∀i,k<=i->i<k+n->f i=0
 | 0,k=>by simp [z9i];intro i h1 h2;omega
 | n+1,k=>by
  simp only [z9i]
  split
  ·rename_i h
   rw [z27 f n (k+1)]
   constructor
   ·intro h2 i h3 h4
    by_cases e:i=k
    ·subst e;exact h
    ·exact h2 i (by omega) (by omega)
   ·intro h2 i h3 h4
    exact h2 i (by omega) (by omega)
  ·rename_i h
   constructor
   ·intro h2;exact absurd h2 h
   ·intro h2;exact absurd (h2 k (Nat.le_refl _) (by omega)) h
theorem yeg {α:Type} (f:α->List UInt8) {l:List α} {k:Nat} (h:k<l.length):(l.take (k+1)).map f=(l.take k).map f++[f l[k]]:=by
 rw [List.take_add_one,List.getElem?_eq_getElem h,List.map_append]
 rfl
theorem yat {α:Type} (f:α->List D) (n:Nat) (hf:∀a,(f a).length=n) (l:List α) (k:Nat) (h:k<=l.length):win (l.flatMap f) 0 (k*n)=(l.take k).flatMap f:=by
 unfold win
 rw [List.drop_zero]
 have e:l.flatMap f=(l.take k).flatMap f++(l.drop k).flatMap f:=by rw [<-List.flatMap_append,List.take_append_drop]
 have hn:=zbd f n hf (l.take k)
 rw [List.length_take,Nat.min_eq_left h] at hn
 rw [e,List.take_append_of_le_length (by omega),List.take_of_length_le (by omega)]
theorem yj0 {α:Type} (f:α->List D) (n:Nat) (hf:∀a,(f a).length=n) (l:List α) (k:Nat) (h:k<=l.length):V.d (.list (k-0) (win (l.flatMap f) (0*n) ((k-0)*n)))= .d (.list (l.take k).length ((l.take k).flatMap f)):=by
 rw [Nat.zero_mul,Nat.sub_zero,yat f n hf l k h,List.length_take,Nat.min_eq_left h]
theorem zcz.part {α:Type} {cell:α->List D} {w:Nat} (hw:∀a,(cell a).length=w) {l:List α} {i:Int} {j n:Nat} {ds:List D} {K:List D->Prop} (k:Nat) (hi:i=k) (h:k<l.length) (hj:j+n<=w) (hd:win (cell l[k]) j n=ds) (hk:K ds):zcz (l.flatMap cell) (i.toNat*w+j) n K:=by
 subst hi
 rw [Int.toNat_natCast]
 have h1:=zbd cell w hw l
 have h2:(k+1)*w<=l.length*w:=Nat.mul_le_mul_right _ h
 rw [Nat.succ_mul] at h2
 refine⟨by omega,?_⟩
 have e:win (l.flatMap cell) (k*w+j) n=ds:=by
  rw [<-hd]
  unfold win
  rw [<-List.drop_drop,zqc cell w hw,List.drop_eq_getElem_cons h,List.flatMap_cons,List.drop_append_of_le_length (by rw [hw];omega),List.take_append_of_le_length (by rw [List.length_drop,hw];omega)]
 rw [e];exact hk
theorem Nf {A B:Prop}:(b:Bool)->b=false->B->(match b with|true=>A|false=>B)
 | false,_,k=>k
 | true,h,_=>Bool.noConfusion h
theorem Nt {A B:Prop}:(b:Bool)->b=true->A->(match b with|true=>A|false=>B)
 | true,_,k=>k
 | false,h,_=>Bool.noConfusion h
theorem zz0 {u t:Evl.Id} {l:List Evl.Id} (h:idB u t=true):yih (u::l) t=true:=by
 unfold yih
 rw [h]
theorem zzg {u t:Evl.Id} {l:List Evl.Id} {b:Bool} (h:idB u t=false) (k:yih l t=b):yih (u::l) t=b:=by
 unfold yih
 rw [h]
 exact k
theorem yhj {a b:Nat} (h:¬a=b):Nat.beq a b=false:=by
 cases hb:Nat.beq a b with
 | false=>rfl
 | true=>exact absurd (Nat.eq_of_beq_eq_true hb) h
def z8m:List (List UInt8)->List UInt8->Nat->Int
 | [],_,_=> -1
 | x::r,s,k=>if s=x then k else z8m r s (k+1)
theorem z7e (s:List UInt8):∀(l:List (List UInt8)) (k:Nat),0<=z8m l s k↔s∈l
 | [],k=>by simp [z8m]
 | x::r,k=>by
  unfold z8m
  split
  ·rename_i h
   simp [h]
  ·rename_i h
   rw [z7e s r]
   simp [h]
structure Lmt where
 (nm ki te:List UInt8)
 (le st fr to pf pt pd mo:Int)
 deriving Inhabited
def Lmt.cells (l:Lmt):List D:=[.str l.nm,.str l.ki,.str l.te,DI l.le,DI l.st,DI l.fr,DI l.to,DI l.pf,DI l.pt,DI l.pd,DI l.mo]
theorem Lmt.cells_length (l:Lmt):l.cells.length=11:=rfl
abbrev Lmv (l:Lmt):V:= .d (.agg l.cells)
abbrev LLm (l:List Lmt):V:= .d (.list l.length (l.flatMap Lmt.cells))
structure Mvt where
 mo:Int
 (ki te:List UInt8)
 (se si no:Int)
 nm:List UInt8
 deriving DecidableEq,Inhabited
def Mvt.cells (m:Mvt):List D:=[DI m.mo,.str m.ki,.str m.te,DI m.se,DI m.si,DI m.no,.str m.nm]
theorem Mvt.cells_length (m:Mvt):m.cells.length=7:=rfl
abbrev Mvv (m:Mvt):V:= .d (.agg m.cells)
abbrev LMv (l:List Mvt):V:= .d (.list l.length (l.flatMap Mvt.cells))
def yg5 (s:List UInt8):Bool:=decide (s=[65])||decide (s=[68])||decide (s=[84])
def flE (s:List UInt8):Int:=if(!yk8 s)=true then 13 else 0
def ldE (a b c:Int):Int:=za7 [rng a 0 999,rng b 0 9,rng c 0 99]
def zi8 (l:Lmt):Int:=za7 [nmE l.nm,if(!yg5 l.ki)=true then 13 else 0,opE l.te,rng l.le 1 1440,rng l.st 1 1440,rng l.fr 0 1439,rng l.to 0 1439,if l.to<l.fr then 11 else 0,ze5 l.pf l.pt l.pd,rng l.mo 0 999999999]
def zk3 (l:List Lmt):List (List UInt8):=l.map (·.nm)
def z8x (seen:List (List UInt8)) (l:Lmt):Int:=za7 [zi8 l,if l.nm∈seen then 9 else 0]
def zy6 (seen:List (List UInt8)):List Lmt->Int
 | []=>0
 | l::r=>if z8x seen l=0 then zy6 (seen++[l.nm]) r else z8x seen l
def zko (l:List Lmt):Int:=if 32<l.length then 5 else zy6 [] l
def zq8 (m:Mvt):Int:=za7 [rng m.mo 0 143999999,flE m.ki,opE m.te,ldE m.se m.si m.no,nmE m.nm]
def z0z (last:Int) (m:Mvt):Int:=za7 [zq8 m,if m.mo<last then 11 else 0]
def zw6 (last:Int):List Mvt->Int
 | []=>0
 | m::r=>if z0z last m=0 then zw6 m.mo r else z0z last m
def zju (l:List Mvt):Int:=if 30000<l.length then 5 else zw6 0 l
def zkx (q:Rqt):Int:=za7 [nmE q.nm,flE q.ki,opE q.te,ze5 q.fr q.to q.da,rng q.mi 0 1439,ldE q.se q.si q.no]
section
variable {E : Oracle} (g : Good E)
include g
theorem zl1 (b:Bool) (e:Int):Fc E za1 [B b,I e] (I (if b then e else 0)):=by
 refine g.fn rfl rfl ?_
 cases b<;>repeat' ((conv=>whnf);first
 | refine Yz ?_
  | (refine Ret.mk rfl))
theorem zxy (n a b:Int):Fc E zat [I n,I a,I b] (I (rng n a b)):=by
 refine g.fn rfl rfl ?_
 have hw:∀c,Fc E za1 [B c,I 3] (I (if c then 3 else 0)):=fun c=>zl1 g c 3
 unfold rng
 by_cases h1:n<a
 ·rw [if_pos (.inl h1)]
  repeat' ((conv=>whnf);first
  | refine Yz ?_
   | (refine zae.of (hw _) ?_)
   | (refine Ret.mk rfl))
 ·by_cases h2:b<n
  ·rw [if_pos (.inr h2)]
   repeat' ((conv=>whnf);first
   | refine Yz ?_
    | (refine zae.of (hw _) ?_)
    | (refine Ret.mk rfl))
  ·rw [if_neg (by omega)]
   repeat' ((conv=>whnf);first
   | refine Yz ?_
    | (refine zae.of (hw _) ?_)
    | (refine Ret.mk rfl))
theorem zxx (l:List Int) (hl:l.length<=140737488355328):Fc E zak [LI l] (I (za7 l)):=by
 refine g.fn rfl rfl ?_
 conv=>whnf
 refine zad.upP g (fun k=>[(5,LI l),(6,I l.length),(7,I k)]) (fun _=>[]) (fun k=>za7 l=za7 (l.drop k)) l.length (fun k hk hp ih=> ?_) 0 (Nat.zero_le _) (by simp)
 by_cases hlt:k<l.length
 ·have hd:=z26 l k hlt
  repeat' ((conv=>whnf);first
  | refine Yz ?_
   | (refine zou.int (by omega) ?_)
   | (refine Cmp.mk (fun h=> ?_) (fun h=> ?_))|(refine Rem.any (by omega) (fun r hr he=> ?_))|(refine Br.mk (fun h=> ?_) (fun h=> ?_))
   | (refine zad.to (ih hlt ?_) ?_ rfl)
   | (refine Ret.mk ?_))
  all_goals simp_all
 ·have:l.drop k=[]:=List.drop_eq_nil_of_le (by omega)
  repeat' ((conv=>whnf);first
  | refine Yz ?_
   | (refine Ret.mk ?_))
  simp [hp,this,za7]
theorem ztk (a b:Int):Fc E zak [.d (.list 2 [DI a,DI b])] (I (za7 [a,b])):=zxx g [a,b] (by simp)
theorem yjo (a b c:Int):Fc E zak [.d (.list 3 [DI a,DI b,DI c])] (I (za7 [a,b,c])):=zxx g [a,b,c] (by simp)
theorem yjp (a b c d e:Int):Fc E zak [.d (.list 5 [DI a,DI b,DI c,DI d,DI e])] (I (za7 [a,b,c,d,e])):=zxx g [a,b,c,d,e] (by simp)
theorem yjq (a b c d e f:Int):Fc E zak [.d (.list 6 [DI a,DI b,DI c,DI d,DI e,DI f])] (I (za7 [a,b,c,d,e,f])):=zxx g [a,b,c,d,e,f] (by simp)
theorem ygg (a b c d e f h i j k:Int):Fc E zak [.d (.list 10 [DI a,DI b,DI c,DI d,DI e,DI f,DI h,DI i,DI j,DI k])] (I (za7 [a,b,c,d,e,f,h,i,j,k])):=zxx g [a,b,c,d,e,f,h,i,j,k] (by simp)
theorem zvr (s:List UInt8):Fc E zd2 [S s] (I (opE s)):=by
 refine g.fn rfl rfl ?_
 have h:=z1s g s
 unfold opE yns
 by_cases he:s=[]
 ·subst he
  repeat' ((conv=>whnf);first
  | refine Yz ?_
   | (refine zae.of (zl1 g _ _) ?_)
   | (refine Ret.mk rfl))
 ·rw [decide_eq_false he]
  repeat' ((conv=>whnf);first
  | refine Yz ?_
   | (apply zae.of;assumption)
   | (refine Cmp.ff he ?_)
   | (refine zae.of (zl1 g _ _) ?_)
   | (refine Ret.mk rfl))
theorem ztj (s:List UInt8):Fc E zer [S s] (B (yns s)):=by
 refine g.fn rfl rfl ?_
 have h:=z1p g s
 unfold yns
 by_cases he:s=[]
 ·subst he
  repeat' ((conv=>whnf);first
  | refine Yz ?_
   | (refine Ret.mk rfl))
 ·rw [decide_eq_false he]
  repeat' ((conv=>whnf);first
  | refine Yz ?_
   | (apply zae.of;assumption)
   | (refine Cmp.ff he ?_)
   | (refine Ret.mk rfl))
theorem yey (s:List UInt8):Fc E zh6 [S s] (I (flE s)):=by
 refine g.fn rfl rfl ?_
 unfold flE yk8
 by_cases he:s=[65]
 ·subst he
  repeat' ((conv=>whnf);first
  | refine Yz ?_
   | (refine zae.of (zl1 g _ _) ?_)
   | (refine Ret.mk rfl))
 ·rw [decide_eq_false he]
  by_cases hd:s=[68]
  ·subst hd
   repeat' ((conv=>whnf);first
   | refine Yz ?_
    | (refine zae.of (zl1 g _ _) ?_)
    | (refine Ret.mk rfl))
  ·rw [decide_eq_false hd]
   repeat' ((conv=>whnf);first
   | refine Yz ?_
    | (refine Cmp.ff he ?_)
    | (refine Cmp.ff hd ?_)
    | (refine zae.of (zl1 g _ _) ?_)
    | (refine Ret.mk rfl))
theorem ymt (a b c:Int):Fc E zj2 [I a,I b,I c] (I (ldE a b c)):=by
 refine g.fn rfl rfl ?_
 repeat' ((conv=>whnf);first
 | refine Yz ?_
  | (refine zae.of (zxy g _ _ _) ?_)
  | (refine zae.of (yjo g _ _ _) ?_)
  | (refine Ret.mk rfl))
theorem yn0 (m:Mvt):Fc E zfn [Mvv m] (I (zq8 m)):=by
 refine g.fn rfl rfl ?_
 have h:=z1s g m.nm
 repeat' ((conv=>whnf);first
 | refine Yz ?_
  | (apply zae.of;assumption)
  | (refine zae.of (zxy g _ _ _) ?_)
  | (refine zae.of (yey g _) ?_)
  | (refine zae.of (zvr g _) ?_)
  | (refine zae.of (ymt g _ _ _) ?_)
  | (refine zae.of (zl1 g _ _) ?_)
  | (refine zae.of (yjp g _ _ _ _ _) ?_)
  | (refine Ret.mk rfl))
theorem yjr (q:Rqt):Fc E zdk [Rqv q] (I (zkx q)):=by
 refine g.fn rfl rfl ?_
 have h:=z1s g q.nm
 repeat' ((conv=>whnf);first
 | refine Yz ?_
  | (apply zae.of;assumption)
  | (refine zae.of (zxy g _ _ _) ?_)
  | (refine zae.of (yey g _) ?_)
  | (refine zae.of (zvr g _) ?_)
  | (refine zae.of (ymt g _ _ _) ?_)
  | (refine zae.of (zl1 g _ _) ?_)
  | (refine zae.of (zkg g _ _ _) ?_)
  | (refine zae.of (yjq g _ _ _ _ _ _) ?_)
  | (refine Ret.mk rfl))
abbrev yo3 (i:Evl.Id):V:= .agg [.fn zb0 [] [.ptr i 0 0]]
abbrev ymk (a b:Evl.Id):List (D×V):=[(.str [65],yo3 a),(.str [68],yo3 b),(.str [84],.agg [.fn zep [] []])]
theorem yn1:In E 0 zeh [] [] fun v m'=>v= .mp ⟨0,2,0⟩/\m'=[(⟨0,2,0⟩,.map (ymk ⟨0,4,0⟩ ⟨0,7,0⟩)),(⟨0,4,0⟩,.cells zcc [S [65]]),(⟨0,7,0⟩,.cells zcc [S [68]])]:=by
 refine In.enter (f:=zeh) g.lim rfl rfl ?_
 repeat' ((conv=>whnf);first
 | refine Yz ?_
  | (refine In.enter (f:=zj1) g.lim rfl rfl ?_)
  | (refine⟨(.fn zb0 [] [.ptr ⟨0,4,0⟩ 0 0],[(⟨0,2,0⟩,.map []),(⟨0,4,0⟩,.cells zcc [S [65]])]),rfl,?_⟩)
  | (refine⟨(.fn zb0 [] [.ptr ⟨0,7,0⟩ 0 0],[(⟨0,2,0⟩,.map [(.str [65],yo3 ⟨0,4,0⟩)]),(⟨0,4,0⟩,.cells zcc [S [65]]),(⟨0,7,0⟩,.cells zcc [S [68]])]),rfl,?_⟩)
  | (refine yoq.mk ⟨_,rfl,?_⟩)
  | (exact⟨rfl,rfl⟩))
omit g in
theorem yaf {cx:Cx} {slot:Nat} {m:Mem} (hf:Go.Evl.freeK cx.lv slot m=0):Go.Evl.settle cx slot 0 m [(⟨0,2,0⟩,.map (ymk ⟨0,4,0⟩ ⟨0,7,0⟩)),(⟨0,4,0⟩,.cells zcc [S [65]]),(⟨0,7,0⟩,.cells zcc [S [68]])] (.mp ⟨0,2,0⟩)=some (.mp ⟨cx.lv,slot,0⟩,m++[(⟨cx.lv,slot,0⟩,.map (ymk ⟨cx.lv,slot,1⟩ ⟨cx.lv,slot,2⟩)),(⟨cx.lv,slot,1⟩,.cells zcc [S [65]]),(⟨cx.lv,slot,2⟩,.cells zcc [S [68]])]):=by
 unfold Go.Evl.settle
 rw [hf]
 rfl
theorem zgx.cknds {cx:Cx} {slot:Nat} {m:Mem} {K:V->Mem->Prop} (hf:Go.Evl.freeK cx.lv slot m=0) (h:K (.mp ⟨cx.lv,slot,0⟩) (m++[(⟨cx.lv,slot,0⟩,.map (ymk ⟨cx.lv,slot,1⟩ ⟨cx.lv,slot,2⟩)),(⟨cx.lv,slot,1⟩,.cells zcc [S [65]]),(⟨cx.lv,slot,2⟩,.cells zcc [S [68]])])):zgx E zeh [] cx slot m K:=by
 obtain⟨v,m',h1,rfl,rfl⟩:=(yn1 g).got
 exact⟨_,_,_,h1,yaf hf,h⟩
omit g in
theorem yfq (s:List UInt8) (a b:Evl.Id):s=[65]\/s=[68]\/s=[84]\/(yg5 s=false/\zg1 (.str s) (ymk a b)=some none):=by
 by_cases h1:s=[65]
 ·exact .inl h1
 by_cases h2:s=[68]
 ·exact .inr (.inl h2)
 by_cases h3:s=[84]
 ·exact .inr (.inr (.inl h3))
 refine .inr (.inr (.inr ⟨by simp [yg5,h1,h2,h3],?_⟩))
 have e:∀t:List UInt8,s≠t->eqD (.str s) (.str t)=some false:=fun t ht=>by simp [eqD,ht]
 simp only [zg1,e _ h1,e _ h2,e _ h3]
theorem ynz (l:Lmt):Fc E zd6 [Lmv l] (I (zi8 l)):=by
 refine g.fn rfl rfl ?_
 have h:=z1s g l.nm
 have e:zi8 l=za7 [nmE l.nm,if(!yg5 l.ki)=true then 13 else 0,opE l.te,rng l.le 1 1440,rng l.st 1 1440,rng l.fr 0 1439,rng l.to 0 1439,if decide (l.to<l.fr)=true then 11 else 0,ze5 l.pf l.pt l.pd,rng l.mo 0 999999999]:=by
  simp only [zi8,decide_eq_true_eq]
 rw [e]
 obtain⟨nm,ki,te,le,st,fr,to,pf,pt,pd,mo⟩:=l
 have hw:∀b,Fc E za1 [B b,I 13] (I (if b then 13 else 0)):=fun b=>zl1 g b 13
 by_cases hlt:to<fr
 all_goals first |rw [decide_eq_true hlt]|rw [decide_eq_false hlt]
 all_goals rcases yfq ki ⟨0,6,1⟩ ⟨0,6,2⟩ with rfl|rfl|rfl|⟨hk,hf⟩
 all_goals try rw [hk]
 all_goals repeat' ((conv=>whnf);first
 | refine Yz ?_
  | (apply zae.of;assumption)
  | (refine zgx.cknds g rfl ?_)
  | (refine yc4.mk ⟨_,rfl,?_⟩)
  | (refine yc4.mk ⟨_,hf,?_⟩)
  | (refine zae.of (zxy g _ _ _) ?_)
  | (refine zae.of (zvr g _) ?_)
  | (refine zae.of (zl1 g _ _) ?_)
  | (refine zae.of (zkg g _ _ _) ?_)
  | (refine zae.of (ygg g _ _ _ _ _ _ _ _ _ _) ?_)
  | (refine Ret.mk rfl))
theorem yk4 (l:List Lmt) (q:List UInt8) (hl:l.length<=1000000) {K:V->Mem->Prop}
  (hK:K (I (z8m (zk3 l) q 0)) [(⟨0,3,0⟩,.cells zcc [S q])]):
  In E 1 zam [LLm l,.fn zc7 [] [.ptr ⟨0,3,0⟩ 0 0]] [(⟨0,3,0⟩,.cells zcc [S q])] K:=by
 generalize hA:z8m (zk3 l) q 0=A at *
 refine In.enter (f:=zam) g.lim rfl rfl ?_
 repeat' ((conv=>whnf);first
 | refine Yz ?_)
 refine zad.to (zad.upP g (fun k=>[(0,LLm l),(1,.fn zc7 [] [.ptr ⟨0,3,0⟩ 0 0]),(7,I l.length),(8,I k)]) (fun _=>_) (fun k=>z8m (zk3 (l.drop k)) q k=A) l.length (fun k hk h0 ih=> ?_) 0 (Nat.zero_le _) hA) rfl rfl
 by_cases hlt:k<l.length
 ·rw [List.drop_eq_getElem_cons hlt,zk3,List.map_cons,z8m] at h0
  have ih:=ih hlt
  by_cases hd:l[k].nm=q
  ·rw [if_pos hd.symm] at h0
   subst h0
   repeat' ((conv=>whnf);first
   | refine Yz ?_
    | (refine zcz.rec Lmt.cells_length k rfl hlt ?_)
    | (refine In.enter (f:=zc7) g.lim rfl rfl ?_)
    | (refine Cmp.tt hd ?_)
    | (exact hK))
  ·rw [if_neg (Ne.symm hd)] at h0
   have ih:=ih h0
   repeat' ((conv=>whnf);first
   | refine Yz ?_
    | (refine zcz.rec Lmt.cells_length k rfl hlt ?_)
    | (refine In.enter (f:=zc7) g.lim rfl rfl ?_)
    | (refine Cmp.ff hd ?_)
    | (refine zad.to ih rfl rfl))
 ·rw [List.drop_eq_nil_of_le (by omega),zk3,List.map_nil,z8m] at h0
  subst h0
  repeat' ((conv=>whnf);first
  | refine Yz ?_
   | (exact hK))
theorem yls (l:List Lmt) (q:List UInt8) (hl:l.length<=1000000):Fc E zlt [LLm l,S q] (I (z8m (zk3 l) q 0)):=by
 refine g.fn rfl rfl ?_
 have hin:=fun {K}=>yk4 g (K:=K) l q hl
 generalize z8m (zk3 l) q 0=r at *
 repeat' ((conv=>whnf);first
 | refine Yz ?_
  | (refine hin ?_)
  | (refine Ret.mk rfl))
theorem z73 (l:List Lmt) (hl:l.length<=1000000):Fc E zd5 [LLm l] (I (zko l)):=by
 refine g.fn rfl rfl ?_
 unfold zko
 by_cases hm:32<l.length
 ·rw [if_pos hm]
  repeat' ((conv=>whnf);first
  | refine Yz ?_
   | (refine Ret.mk rfl))
 rw [if_neg hm]
 generalize hR:zy6 [] l=R
 repeat' ((conv=>whnf);first
 | refine Yz ?_)
 refine zad.to (zad.upP g (fun k=>[(0,LLm l),(9,LLm l),(10,I l.length),(11,I k)]) (fun _=>[]) (fun k=>zy6 (zk3 (l.take k)) (l.drop k)=R) l.length (fun k hk h0 ih=> ?_) 0 (Nat.zero_le _) hR) rfl rfl
 by_cases hlt:k<l.length
 ·have hs:zk3 (l.take (k+1))=zk3 (l.take k)++[l[k].nm]:=yeg Lmt.nm hlt
  rw [List.drop_eq_getElem_cons hlt,zy6,<-hs] at h0
  have ih:=ih hlt
  have hc:=ynz g l[k]
  have hn:=yls g (l.take k) l[k].nm (by simp;omega)
  have ht:=yj0 Lmt.cells 11 Lmt.cells_length l k (by omega)
  have hm:=z7e l[k].nm (zk3 (l.take k)) 0
  generalize z8m (zk3 (l.take k)) l[k].nm 0=r at *
  have hf:=ztk g (zi8 l[k]) (if l[k].nm∈zk3 (l.take k) then 9 else 0)
  have hq:z8x (zk3 (l.take k)) l[k]=za7 [zi8 l[k],if l[k].nm∈zk3 (l.take k) then 9 else 0]:=rfl
  rw [<-hq] at hf
  have hw:=zl1 g
  generalize z8x (zk3 (l.take k)) l[k]=x at *
  by_cases hr:0<=r
  all_goals first |rw [if_pos (hm.1 hr)] at hf|rw [if_neg (fun h=>hr (hm.2 h))] at hf
  all_goals by_cases hz:x=0
  all_goals first |rw [if_pos hz] at h0|rw [if_neg hz] at h0
  all_goals first |(replace ih:=ih h0)|rw [<-h0]
  all_goals repeat' ((conv=>whnf);first
  | refine Yz ?_
   | (refine zcz.rec Lmt.cells_length k rfl hlt ?_)
   | (refine zpq.at 0 k rfl rfl (by omega) ?_<;>(try rw [ht]))
   | (apply zae.of;assumption)
   | (refine zae.of (hw _ _) ?_)
   | (refine Cmp.ff (fun h=>h hz) ?_)
   | (refine Cmp.tt hz ?_)
   | (refine zad.to ih rfl rfl)
   | (refine Ret.mk rfl))
 ·rw [List.drop_eq_nil_of_le (by omega),zy6] at h0
  rw [<-h0]
  repeat' ((conv=>whnf);first
  | refine Yz ?_
   | (refine Ret.mk rfl))
theorem z04 (l:List Mvt) (hl:l.length<=1000000):Fc E ze4 [LMv l] (I (zju l)):=by
 refine g.fn rfl rfl ?_
 unfold zju
 by_cases hm:30000<l.length
 ·rw [if_pos hm]
  repeat' ((conv=>whnf);first
  | refine Yz ?_
   | (refine Ret.mk rfl))
 rw [if_neg hm]
 generalize hR:zw6 0 l=R
 repeat' ((conv=>whnf);first
 | refine Yz ?_)
 refine zad.to (zad.upP g (fun k=>[(0,LMv l),(9,LMv l),(10,I l.length),(11,I k)]) (fun _=>[]) (fun k=>zw6 (if k=0 then 0 else(l.getD (k-1) default).mo) (l.drop k)=R) l.length (fun k hk h0 ih=> ?_) 0 (Nat.zero_le _) hR) rfl rfl
 by_cases hlt:k<l.length
 ·rw [List.drop_eq_getElem_cons hlt,zw6] at h0
  have ih:=ih hlt
  have e1:l.getD (k+1-1) default=l[k]:=by simp [hlt]
  rw [if_neg (by omega),e1] at ih
  have hc:=yn0 g l[k]
  have hw:=zl1 g
  cases k with
  | zero=>
   have hf:=ztk g (zq8 l[0]) 0
   have hq:z0z 0 l[0]=za7 [zq8 l[0],0]:=by
    unfold z0z
    by_cases hb:l[0].mo<0
    ·rw [if_pos hb]
     have:zq8 l[0]=3:=by unfold zq8;rw [za7,show rng l[0].mo 0 143999999=3 from by unfold rng;rw [if_pos (.inl hb)]];rfl
     rw [this];rfl
    ·rw [if_neg hb]
   simp only [if_true] at h0
   rw [hq] at h0
   generalize za7 [zq8 l[0],0]=x at *
   by_cases hz:x=0
   all_goals first |rw [if_pos hz] at h0|rw [if_neg hz] at h0
   all_goals first |(replace ih:=ih h0)|rw [<-h0]
   all_goals repeat' ((conv=>whnf);first
   | refine Yz ?_
    | (refine zcz.rec Mvt.cells_length 0 rfl hlt ?_)
    | (apply zae.of;assumption)
    | (refine zae.of (hw _ _) ?_)
    | (refine Cmp.ff (fun h=>h hz) ?_)
    | (refine Cmp.tt hz ?_)
    | (refine zad.to ih rfl rfl)
    | (refine Ret.mk rfl))
  | succ j=>
   have hj:j<l.length:=by omega
   have e2:l.getD (j+1-1) default=l[j]:=by simp [hj]
   have e3:(if j+1=0 then(0:Int) else(l.getD (j+1-1) default).mo)=l[j].mo:=by rw [if_neg (by omega),e2]
   rw [e3] at h0
   have hf:=ztk g (zq8 l[j+1]) (if l[j+1].mo<l[j].mo then 11 else 0)
   have hq:z0z l[j].mo l[j+1]=za7 [zq8 l[j+1],if l[j+1].mo<l[j].mo then 11 else 0]:=rfl
   rw [<-hq] at hf
   generalize z0z l[j].mo l[j+1]=x at *
   by_cases hr:l[j+1].mo<l[j].mo
   all_goals first |rw [if_pos hr] at hf|rw [if_neg hr] at hf
   all_goals by_cases hz:x=0
   all_goals first |rw [if_pos hz] at h0|rw [if_neg hz] at h0
   all_goals first |(replace ih:=ih h0)|rw [<-h0]
   all_goals repeat' ((conv=>whnf);first
   | refine Yz ?_
    | (refine zcz.rec Mvt.cells_length (j+1) rfl hlt ?_)
    | (refine zou.rec Mvt.cells_length j (by omega) hj rfl ?_)
    | (apply zae.of;assumption)
    | (refine zae.of (hw _ _) ?_)
    | (refine Cmp.ff (fun h=>h hz) ?_)
    | (refine Cmp.tt hz ?_)
    | (refine zad.to ih rfl rfl)
    | (refine Ret.mk rfl))
 ·rw [List.drop_eq_nil_of_le (by omega),zw6] at h0
  rw [<-h0]
  repeat' ((conv=>whnf);first
  | refine Yz ?_
   | (refine Ret.mk rfl))
theorem zz4 (l:List Lmt) (m:List Mvt) (hl:l.length<=1000000) (hm:m.length<=1000000):Fc E zcl [LLm l,LMv m] (I (za7 [zko l,zju m])):=by
 refine g.fn rfl rfl ?_
 repeat' ((conv=>whnf);first
 | refine Yz ?_
  | (refine zae.of (z73 g l hl) ?_)
  | (refine zae.of (z04 g m hm) ?_)
  | (refine zae.of (ztk g _ _) ?_)
  | (refine Ret.mk rfl))
end
section
variable {E : Oracle} (g : Good E)
include g
theorem zxz (day:Int) (h:0<=day/\day<=1000000):Fc E zeo [I day] (I ((day+5)%7)):=by
 refine g.fn rfl rfl ?_
 repeat' ((conv=>whnf);first
 | refine Yz ?_
  | (refine Ret.mk rfl))
theorem yje (day:Int) (h:0<=day/\day<=1000000):Fc E zng [I day] (I ((day+5)%7)):=by
 refine g.fn rfl rfl ?_
 repeat' ((conv=>whnf);first
 | refine Yz ?_
  | (refine Ret.mk rfl))
end
def zdq (f d:Int):Nat->List Int
 | 0=>[]
 | k+1=>zdq f d k++(if inM d ((f+k+5)%7) then [f+k] else [])
theorem zdm (f d:Int):∀k:Nat,(zdq f d k).length<=k
 | 0=>Nat.le_refl _
 | k+1=>by
  have:=zdm f d k
  simp only [zdq,List.length_append]
  split<;>simp<;>omega
def ypi:C:= .reg false [⟨some 6,none,.mv (.t 8)⟩] [8]
def ypj:C:= .block 1 (.seq (.reg false [
⟨some 9,none,.load none (.t 3)⟩,
⟨some 10,none,.mv (.t 6)⟩,
⟨some 11,none,.call true true (.t 9) [.t 10]⟩] [3,9,10])
(.cond (.t 11) (.reg false [
⟨some 12,none,.load none (.t 5)⟩,
⟨some 13,none,.mv (.t 6)⟩,
⟨some 14,none,.mkList 1 1 [.t 13]⟩,
⟨some 15,none,.append ⟨false,za4,1,8⟩ (.t 12) (.t 14)⟩,
⟨none,none,.store 1 (.t 5) (.t 15)⟩] [5,6,12,13,14,15])
 .skip))
section
variable {E : Oracle} (g : Good E)
include g
theorem zvq (f t d:Int) (h:ze5 f t d=0):Fc E zbs [Per f t d] (.tup [LI (zdq f d (t-f+1).toNat),I 0]):=by
 refine g.fn rfl rfl ?_
 have hc:=zkg g f t d
 rw [h] at hc
 have hb:=zay.1 h
 repeat' ((conv=>whnf);first
 | refine Yz ?_
  | (refine zae.of hc ?_)
  | (refine zgx.of (In.enter (f:=zk1) g.lim rfl rfl ?_))
  | (refine⟨(.fn zd1 [] [.ptr ⟨0,11,0⟩ 0 0],[(⟨0,1,0⟩,.cells zag [I f,I t,I d]),(⟨0,11,0⟩,.cells zag [I f,I t,I d])]),rfl,?_⟩)
  | (refine In.enter (f:=zfj) g.lim rfl rfl ?_)
  | (refine In.enter (f:=zd1) g.lim rfl rfl ?_))
 refine zad.to (zad.up g (fun k=>[(0,.yld ⟨1,18,0⟩),(1,.ptr ⟨0,11,0⟩ 0 0),(3,I (f+k))]) (fun k=>[(⟨0,1,0⟩,.cells zag [I f,I t,I d]),(⟨0,11,0⟩,.cells zag [I f,I t,I d]),
  (⟨1,3,0⟩,.cells zi4 [.fn zf8 [] []]),(⟨1,4,0⟩,.row false za4 1 0 []),(⟨1,5,0⟩,.row false za4 1 (zdq f d k).length ((zdq f d k).map DI)),(⟨1,5,1⟩,.cells z8j [.ref ⟨1,5,0⟩ 0 (zdq f d k).length (zdq f d k).length]),
  (⟨1,18,0⟩,.loop [(3,.ptr ⟨1,3,0⟩ 0 0),(4,.ref ⟨1,4,0⟩ 0 0 0),(5,.ptr ⟨1,5,1⟩ 0 0),(7,.fn zd1 [] [.ptr ⟨0,11,0⟩ 0 0])] [8] ypi ypj 1 false false none)]) (t-f+1).toNat (fun k hk ih=> ?_) 0 (Nat.zero_le _)) (by simp) rfl
 have hlen:=zdm f d k
 by_cases hlt:k<(t-f+1).toNat
 ·have hin:=yez g d ((f+k+5)%7) (by omega) (by omega)
  by_cases hc:inM d ((f+k+5)%7)=true
  ·rw [hc] at hin
   repeat' ((conv=>whnf);first
   | refine Yz ?_
    | (refine zae.of (zxz g _ (by omega)) ?_)
    | (refine zae.of hin ?_)
    | (refine Rnd.enter g.lim ?_)
    | (refine In.enter (f:=zf8) g.lim rfl rfl ?_)
    | (refine zad.to (ih hlt) ?_ ?_))
   ·simp;omega
   ·simp [zdq,hc]
  ·rw [Bool.not_eq_true] at hc
   rw [hc] at hin
   repeat' ((conv=>whnf);first
   | refine Yz ?_
    | (refine zae.of (zxz g _ (by omega)) ?_)
    | (refine zae.of hin ?_)
    | (refine zad.to (ih hlt) ?_ ?_))
   ·simp;omega
   ·simp [zdq,hc]
 ·have hk':k=(t-f+1).toNat:=by omega
  repeat' ((conv=>whnf);first
  | refine Yz ?_
   | (refine Ret.mk ?_))
  simp [hk']
end
def yg3 (f t d day:Int):Bool:=decide (f<=day)&&(decide (day<=t)&&inM d ((day+5)%7))
section
variable {E : Oracle} (g : Good E)
include g
theorem yqo (f t d day:Int) (hd:0<=d/\d<=127) (h:0<=day/\day<=1000000):Fc E zph [Per f t d,I day] (B (yg3 f t d day)):=by
 refine g.fn rfl rfl ?_
 have hin:=yez g d ((day+5)%7) hd (by omega)
 unfold yg3
 generalize inM d ((day+5)%7)=b at *
 by_cases h1:f<=day
 ·by_cases h2:day<=t
  all_goals repeat' ((conv=>whnf);first
  | refine Yz ?_
   | (refine zae.of (zxz g _ h) ?_)
   | (refine zae.of hin ?_)
   | (refine Ret.mk ?_))
  all_goals simp [h1,h2]
 ·repeat' ((conv=>whnf);first
 | refine Yz ?_
   | (refine Ret.mk ?_))
  simp [h1]
theorem yqn (f t d day:Int) (hd:0<=d/\d<=127) (h:0<=day/\day<=1000000):Fc E zvn [Per f t d,I day] (B (yg3 f t d day)):=by
 refine g.fn rfl rfl ?_
 have hin:=yln g d ((day+5)%7) hd (by omega)
 unfold yg3
 generalize inM d ((day+5)%7)=b at *
 by_cases h1:f<=day
 ·by_cases h2:day<=t
  all_goals repeat' ((conv=>whnf);first
  | refine Yz ?_
   | (refine zae.of (yje g _ h) ?_)
   | (refine zae.of hin ?_)
   | (refine Ret.mk ?_))
  all_goals simp [h1,h2]
 ·repeat' ((conv=>whnf);first
 | refine Yz ?_
   | (refine Ret.mk ?_))
  simp [h1]
theorem ylr (f t d day:Int) (h:ze5 f t d=0) (h2:rng day 0 99999=0):Fc E zpg [Per f t d,I day] (.tup [B (yg3 f t d day),I 0]):=by
 refine g.fn rfl rfl ?_
 have hc:=zkg g f t d
 have hc2:=zzm g day
 rw [h] at hc
 rw [h2] at hc2
 have hb:=zay.1 h
 have hb2:=zfc.1 h2
 have hf:Fc E zbp [.d (.list 2 [DI 0,DI 0])] (I 0):=z1t g 0 0
 repeat' ((conv=>whnf);first
 | refine Yz ?_
  | (refine zae.of hc ?_)
  | (refine zae.of hc2 ?_)
  | (refine zae.of hf ?_)
  | (refine zae.of (yqo g _ _ _ _ (by omega) (by omega)) ?_)
  | (refine Ret.mk rfl))
theorem ylm (f t d:Int) (h:ze5 f t d=0):Fc E zk7 [Per f t d] (LI (zdq f d (t-f+1).toNat)):=by
 refine g.fn rfl rfl ?_
 have hb:=zay.1 h
 repeat' ((conv=>whnf);first
 | refine Yz ?_)
 refine zad.to (zad.up g (fun k=>[(1,.ptr ⟨0,1,0⟩ 0 0),(3,.ref ⟨0,3,0⟩ 0 (zdq f d k).length (zdq f d k).length),(4,I (f+k))])
  (fun k=>[(⟨0,1,0⟩,.cells zag [I f,I t,I d]),(⟨0,2,0⟩,.row false za4 1 0 []),(⟨0,3,0⟩,.row false za4 1 (zdq f d k).length ((zdq f d k).map DI))]) (t-f+1).toNat (fun k hk ih=> ?_) 0 (Nat.zero_le _)) (by simp [zdq]) rfl
 have hlen:=zdm f d k
 by_cases hlt:k<(t-f+1).toNat
 ·have hh:=yqn g f t d (f+k) (by omega) (by omega)
  have he:yg3 f t d (f+k)=inM d ((f+k+5)%7):=by
   simp only [yg3,decide_eq_true (show f<=f+(k:Int) by omega),decide_eq_true (show f+(k:Int)<=t by omega),Bool.true_and]
  rw [he] at hh
  by_cases hc:inM d ((f+k+5)%7)=true
  ·rw [hc] at hh
   repeat' ((conv=>whnf);first
   | refine Yz ?_
    | (refine zae.of hh ?_)
    | (refine zad.to (ih hlt) ?_ ?_))
   ·simp [zdq,hc];omega
   ·simp [zdq,hc]
  ·rw [Bool.not_eq_true] at hc
   rw [hc] at hh
   repeat' ((conv=>whnf);first
   | refine Yz ?_
    | (refine zae.of hh ?_)
    | (refine zad.to (ih hlt) ?_ ?_))
   ·simp [zdq,hc];omega
   ·simp [zdq,hc]
 ·have hk':k=(t-f+1).toNat:=by omega
  repeat' ((conv=>whnf);first
  | refine Yz ?_
   | (refine Ret.mk ?_))
  simp [hk']
end
end Go.Proofs.YtjfnkgfhbplfaaaGreatDoor.Co
