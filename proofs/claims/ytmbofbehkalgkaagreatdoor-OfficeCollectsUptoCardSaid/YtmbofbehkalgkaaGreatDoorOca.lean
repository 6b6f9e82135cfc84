/-
  OfficeCollects: what its law leans on, part 1.
-/
import Derived.Laws.RangeAny
import Derived.Lib.SplitLaws
import Derived.Test.YtmbofbehkalgkaaGreatDoorAwR
import Derived.Test.YtmbofbehkalgkaaGreatDoorEvX
import Derived.Test.YtmbofbehkalgkaaGreatDoorEvY
import Derived.Test.YtmbofbehkalgkaaGreatDoorRead
import Derived.Test.YtmbofbehkalgkaaGreatDoorSpBase
namespace Go.Proofs.YtmbofbehkalgkaaGreatDoor.Co
open Go Go.Evl
set_option maxHeartbeats 32000000
set_option maxRecDepth 100000
def rng (n a b:Int):Int:=if n<a\/b<n then 3 else 0
def zbi:List Int->Int
 | []=>0
 | x::r=>if x=0 then zbi r else x
theorem zcu:∀l:List Int,zbi l=0↔∀x∈l,x=0
 | []=>by simp [zbi]
 | x::r=>by
  simp only [zbi,List.mem_cons,forall_eq_or_imp]
  split
  ·rename_i h;rw [zcu r];exact⟨fun hr=>⟨h,hr⟩,fun hr=>hr.2⟩
  ·rename_i h;exact⟨fun hr=>absurd hr h,fun hr=>absurd hr.1 h⟩
theorem ztb {n a b:Int}:rng n a b=0↔a<=n/\n<=b:=by unfold rng;split<;>omega
section
variable {E : Oracle} (g : Good E)
include g
omit g in
theorem z6n (l:List Int) (k:Nat) (h:k<l.length):zbi (l.drop k)=if l.getD k 0=0 then zbi (l.drop (k+1)) else l.getD k 0:=by
 rw [List.drop_eq_getElem_cons h]
 simp [zbi,List.getD,h]
end
theorem z50.at {s:List UInt8} {i:Nat} {K:UInt8->Prop} (k:Nat) (hi:i=k) (h:k<s.length) (hk:K (s.getD k 0)):z50 s i K:=by
 subst hi
 exact⟨⟨_,by simp [List.getD,h],hk⟩⟩
theorem zq2.asc {s:List UInt8} {k:Nat} {a:Int->Nat->Prop} {b:Prop} (h:k<s.length) (ha:(s.getD k 0).toNat<128) (hk:a (s.getD k 0).toNat 1):zq2 s k a b:=by
 refine⟨fun _=> ?_,fun hn=>absurd h hn⟩
 have e:(s.getD k 0)=s[k]:=by simp [List.getD,h]
 have hd:=decode_ascii ⟨s.toArray⟩ k (by simpa [ByteArray.size] using h) (by rw [e] at ha;exact ha)
 rw [hd]
 rw [e] at hk
 exact hk
theorem zq2.high {s:List UInt8} {k:Nat} {a:Int->Nat->Prop} {b:Prop} (h:k<s.length) (ha:128<=(s.getD k 0).toNat) (hk:∀(c:Int) (w:Nat),128<=c->1<=w->a c w):zq2 s k a b:=by
 refine⟨fun _=> ?_,fun hn=>absurd h hn⟩
 have e:(s.getD k 0)=s[k]:=by simp [List.getD,h]
 have hd:=decode_high ⟨s.toArray⟩ k (by simpa [ByteArray.size] using h) (by rw [e] at ha;exact ha)
 exact hk _ _ (by omega) hd.2
theorem zq2.end' {s:List UInt8} {k:Nat} {a:Int->Nat->Prop} {b:Prop} (h:s.length<=k) (hk:b):zq2 s k a b:=⟨fun hn=>absurd hn (by omega),fun _=>hk⟩
def z64 (k:Nat) (b:UInt8):Prop:=(65<=b.toNat/\b.toNat<=90)\/(97<=b.toNat/\b.toNat<=122)\/(0<k/\(b.toNat=95\/(48<=b.toNat/\b.toNat<=57)))
instance (k:Nat) (b:UInt8):Decidable (z64 k b):=by unfold z64;infer_instance
def yiv (s:List UInt8):Prop:=0<s.length/\s.length<=24/\∀i,i<s.length->z64 i (s.getD i 0)
instance (s:List UInt8):Decidable (yiv s):=by unfold yiv;infer_instance
def zdy (s:List UInt8):Bool:=decide (yiv s)
theorem zxx {s:List UInt8} {k:Nat} (hk:k<s.length) (h:¬z64 k (s.getD k 0)):zdy s=false:=decide_eq_false fun hn=>h (hn.2.2 k hk)
section
variable {E : Oracle} (g : Good E)
include g
theorem ygo (s:List UInt8):Fc E zjo [S s] (B (zdy s)):=by
 refine g.fn rfl rfl ?_
 by_cases h0:0<s.length/\s.length<=24
 ·repeat' ((conv=>whnf);first
 | refine Yz ?_)
  refine zal.to (zal.upP g (fun _=>[(15,.it ⟨0,15,0⟩)]) (fun k=>[(⟨0,15,0⟩,.iter s k)]) (fun k=>∀i,i<k->z64 i (s.getD i 0)) s.length (fun k hk hp ih=> ?_) 0 (Nat.zero_le _) (fun i hi=>by omega)) rfl rfl
  by_cases hlt:k<s.length
  ·by_cases ha:(s.getD k 0).toNat<128
   ·by_cases hok:z64 k (s.getD k 0)
    ·have hp':∀i,i<k+1->z64 i (s.getD i 0):=fun i hi=>by
      by_cases e:i=k
      ·subst e;exact hok
      ·exact hp i (by omega)
     have ih:=ih hlt hp'
     unfold z64 at hok
     repeat' ((conv=>whnf);first
     | refine Yz ?_
      | (refine zq2.asc hlt ha ?_)
      | (refine Cmp.mk (fun h=> ?_) (fun h=> ?_))|(refine Rem.any (by omega) (fun r hr he=> ?_))|(refine Br.mk (fun h=> ?_) (fun h=> ?_))
      | (refine zal.to ih rfl rfl)
      | (exfalso;omega))
    ·have hno:=zxx hlt hok
     unfold z64 at hok
     rw [hno]
     repeat' ((conv=>whnf);first
     | refine Yz ?_
      | (refine zq2.asc hlt ha ?_)
      | (refine Cmp.mk (fun h=> ?_) (fun h=> ?_))|(refine Rem.any (by omega) (fun r hr he=> ?_))|(refine Br.mk (fun h=> ?_) (fun h=> ?_))
      | (refine Ret.mk rfl)
      | (exfalso;omega))
   ·have hno:zdy s=false:=zxx hlt (by unfold z64;omega)
    rw [hno]
    repeat' ((conv=>whnf);first
    | refine Yz ?_
     | (refine zq2.high hlt (by omega) (fun c w hc hw=> ?_))
     | (refine Cmp.mk (fun h=> ?_) (fun h=> ?_))|(refine Rem.any (by omega) (fun r hr he=> ?_))|(refine Br.mk (fun h=> ?_) (fun h=> ?_))
     | (refine Ret.mk rfl)
     | (exfalso;omega))
  ·have hk':k=s.length:=by omega
   subst hk'
   have hyes:zdy s=true:=decide_eq_true ⟨h0.1,h0.2,hp⟩
   rw [hyes]
   repeat' ((conv=>whnf);first
   | refine Yz ?_
    | (refine zq2.end' (Nat.le_refl _) ?_)
    | (refine Ret.mk rfl))
 ·have hno:zdy s=false:=decide_eq_false fun hn=>h0 ⟨hn.1,hn.2.1⟩
  rw [hno]
  repeat' ((conv=>whnf);first
  | refine Yz ?_
   | (refine Cmp.mk (fun h=> ?_) (fun h=> ?_))|(refine Rem.any (by omega) (fun r hr he=> ?_))|(refine Br.mk (fun h=> ?_) (fun h=> ?_))
   | (refine Ret.mk rfl)
   | (exfalso;omega))
theorem ygj (s:List UInt8):Fc E zmr [S s] (B (zdy s)):=by
 refine g.fn rfl rfl ?_
 by_cases h0:0<s.length/\s.length<=24
 ·repeat' ((conv=>whnf);first
 | refine Yz ?_)
  refine zal.to (zal.upP g (fun k=>[(0,S s),(3,I k)]) (fun _=>[]) (fun k=>∀i,i<k->z64 i (s.getD i 0)) s.length (fun k hk hp ih=> ?_) 0 (Nat.zero_le _) (fun i hi=>by omega)) rfl rfl
  by_cases hlt:k<s.length
  ·by_cases hok:z64 k (s.getD k 0)
   ·have hp':∀i,i<k+1->z64 i (s.getD i 0):=fun i hi=>by
     by_cases e:i=k
     ·subst e;exact hok
     ·exact hp i (by omega)
    have ih:=ih hlt hp'
    unfold z64 at hok
    repeat' ((conv=>whnf);first
    | refine Yz ?_
     | (refine z50.at k (by omega) hlt ?_)
     | (refine Cmp.mk (fun h=> ?_) (fun h=> ?_))|(refine Rem.any (by omega) (fun r hr he=> ?_))|(refine Br.mk (fun h=> ?_) (fun h=> ?_))
     | (refine zal.to ih rfl rfl)
     | (exfalso;omega))
   ·have hno:=zxx hlt hok
    unfold z64 at hok
    rw [hno]
    repeat' ((conv=>whnf);first
    | refine Yz ?_
     | (refine z50.at k (by omega) hlt ?_)
     | (refine Cmp.mk (fun h=> ?_) (fun h=> ?_))|(refine Rem.any (by omega) (fun r hr he=> ?_))|(refine Br.mk (fun h=> ?_) (fun h=> ?_))
     | (refine Ret.mk rfl)
     | (exfalso;omega))
  ·have hk':k=s.length:=by omega
   subst hk'
   have hyes:zdy s=true:=decide_eq_true ⟨h0.1,h0.2,hp⟩
   rw [hyes]
   repeat' ((conv=>whnf);first
   | refine Yz ?_
    | (refine Ret.mk rfl))
 ·have hno:zdy s=false:=decide_eq_false fun hn=>h0 ⟨hn.1,hn.2.1⟩
  rw [hno]
  repeat' ((conv=>whnf);first
  | refine Yz ?_
   | (refine Cmp.mk (fun h=> ?_) (fun h=> ?_))|(refine Rem.any (by omega) (fun r hr he=> ?_))|(refine Br.mk (fun h=> ?_) (fun h=> ?_))
   | (refine Ret.mk rfl)
   | (exfalso;omega))
end
structure Evt where
 nu:Int
 ki:List UInt8
 ns:List (List UInt8)
 vs:List Int
 tx:List UInt8
 deriving DecidableEq
abbrev Ws (l:List (List UInt8)):V:= .d (.list l.length (l.map D.str))
def Evt.cells (e:Evt):List D:=[DI e.nu,.str e.ki,.list e.ns.length (e.ns.map D.str),.list e.vs.length (e.vs.map DI),.str e.tx]
abbrev Evv (e:Evt):V:= .d (.agg e.cells)
abbrev zqx:List UInt8:=[101,110,116,101,114]
abbrev zvq:List UInt8:=[114,117,108,101]
abbrev zdc:List UInt8:=[102,111,108,108,111,119]
abbrev zd0:List UInt8:=[114,101,118,101,114,115,101]
abbrev zc2:List UInt8:=[99,111,109,112,108,97,105,110]
abbrev zgo:List UInt8:=[100,101,99,105,100,101]
def ya0 (k:List UInt8):Nat:=if k=zqx then 2 else if k=zvq then 2 else if k=zdc then 3 else if k=zd0 then 1 else if k=zc2 then 2 else if k=zgo then 1 else 0
def yc5 (k:List UInt8):Nat:=if k=zqx then 4 else if k=zvq then 4 else if k=zdc then 4 else if k=zd0 then 1 else if k=zc2 then 1 else if k=zgo then 2 else 0
def zzz (k:List UInt8):Bool:=decide (k=zqx)||decide (k=zvq)||decide (k=zdc)||decide (k=zd0)||decide (k=zc2)||decide (k=zgo)
theorem zz3 (k:List UInt8):k=zqx\/k=zvq\/k=zdc\/k=zd0\/k=zc2\/k=zgo\/
  (k≠zqx/\k≠zvq/\k≠zdc/\k≠zd0/\k≠zc2/\k≠zgo):=by
 by_cases h1:k=zqx
 ·exact .inl h1
 by_cases h2:k=zvq
 ·exact .inr (.inl h2)
 by_cases h3:k=zdc
 ·exact .inr (.inr (.inl h3))
 by_cases h4:k=zd0
 ·exact .inr (.inr (.inr (.inl h4)))
 by_cases h5:k=zc2
 ·exact .inr (.inr (.inr (.inr (.inl h5))))
 by_cases h6:k=zgo
 ·exact .inr (.inr (.inr (.inr (.inr (.inl h6)))))
 exact .inr (.inr (.inr (.inr (.inr (.inr ⟨h1,h2,h3,h4,h5,h6⟩)))))
def zp3 (l:List (List UInt8)):Bool:=l.any fun s=> !zdy s
def yka (n:Int):Bool:=decide (n<0\/999999999<n)
def far (l:List Int):Bool:=l.any yka
def yb8 (e:Evt):Int:=
 zbi [rng e.nu 1 1000,if !zzz e.ki then 13 else 0,if e.ns.length≠ya0 e.ki\/e.vs.length≠yc5 e.ki then 2 else 0,if zp3 e.ns then 8 else 0,if far e.vs then 3 else 0,if e.tx≠[] then 1 else 0]
def z6r {α:Type} (p:α->Bool) (l:List α):Int:=match l.findIdx? p with
 | some i=>i
 | none=> -1
theorem zrs {α:Type} {p:α->Bool} {l:List α} {k:Nat} (hk:k<l.length) (h:p l[k]=true) (hn:∀j,(hj:j<k)->p (l[j]'(by omega))=false):z6r p l=k:=by
 have:l.findIdx? p=some k:=List.findIdx?_eq_some_iff_getElem.2 ⟨hk,h,fun j hj=>by simp [hn j hj]⟩
 simp [z6r,this]
theorem zpa {α:Type} {p:α->Bool} {l:List α} (hn:∀j,(hj:j<l.length)->p l[j]=false):z6r p l= -1:=by
 have:l.findIdx? p=none:=List.findIdx?_eq_none_iff.2 fun x hx=>by
  obtain⟨j,hj,rfl⟩:=List.mem_iff_getElem.1 hx
  exact hn j hj
 simp [z6r,this]
theorem z1x {α:Type} (p:α->Bool) (l:List α):decide (0<=z6r p l)=l.any p:=by
 unfold z6r
 cases h:l.findIdx? p with
 | none=>
  have h2:l.any p=false:=by
   rw [List.any_eq_false]
   intro x hx
   have:=List.findIdx?_eq_none_iff.1 h x hx
   simp [this]
  rw [h2];rfl
 | some i=>
  obtain⟨hi,hp,_⟩:=List.findIdx?_eq_some_iff_getElem.1 h
  have h2:l.any p=true:=List.any_eq_true.2 ⟨l[i],List.getElem_mem hi,hp⟩
  rw [h2];simp
theorem ziz.ws {l:List (List UInt8)} {i:Int} {K:D->Prop} (k:Nat) (hi:i=k) (h:k<l.length) (hk:K (.str l[k])):ziz (l.map D.str) (i.toNat*1) K:=by
 subst hi
 exact⟨⟨_,by simp [h],hk⟩⟩
theorem ziz.iw {l:List Int} {i:Int} {K:D->Prop} (k:Nat) (hi:i=k) (h:k<l.length) (hk:K (DI l[k])):ziz (l.map DI) (i.toNat*1) K:=by
 subst hi
 exact⟨⟨_,by simp [h],hk⟩⟩
section
variable {E : Oracle} (g : Good E)
include g
theorem zpm (b:Bool) (e:Int):Fc E zak [B b,I e] (I (if b then e else 0)):=by
 refine g.fn rfl rfl ?_
 cases b
 all_goals repeat' ((conv=>whnf);first
 | refine Yz ?_
  | (refine Ret.mk rfl))
theorem ztf (n a b:Int):Fc E ze2 [I n,I a,I b] (I (rng n a b)):=by
 refine g.fn rfl rfl ?_
 repeat' ((conv=>whnf);first
 | refine Yz ?_
  | (refine Cmp.mk (fun h=> ?_) (fun h=> ?_))|(refine Rem.any (by omega) (fun r hr he=> ?_))|(refine Br.mk (fun h=> ?_) (fun h=> ?_))
  | (refine za1.of (zpm g _ _) ?_)
  | (refine Ret.mk ?_))
 all_goals (simp only [V.d.injEq,D.int.injEq,true_and,rng];simp_all)
theorem zqb (l:List Int) (hl:l.length<=140737488355328):Fc E zay [LI l] (I (zbi l)):=by
 refine g.fn rfl rfl ?_
 conv=>whnf
 refine zal.upP g (fun k=>[(5,LI l),(6,I l.length),(7,I k)]) (fun _=>[]) (fun k=>zbi l=zbi (l.drop k)) l.length (fun k hk hp ih=> ?_) 0 (Nat.zero_le _) (by simp)
 by_cases hlt:k<l.length
 ·have hd:=z6n l k hlt
  repeat' ((conv=>whnf);first
  | refine Yz ?_
   | (refine ziz.int (by omega) ?_)
   | (refine Cmp.mk (fun h=> ?_) (fun h=> ?_))|(refine Rem.any (by omega) (fun r hr he=> ?_))|(refine Br.mk (fun h=> ?_) (fun h=> ?_))
   | (refine zal.to (ih hlt ?_) ?_ rfl)
   | (refine Ret.mk ?_))
  all_goals simp_all
 ·have:l.drop k=[]:=List.drop_eq_nil_of_le (by omega)
  repeat' ((conv=>whnf);first
  | refine Yz ?_
   | (refine Ret.mk ?_))
  simp [hp,this,zbi]
theorem yaa (s:List UInt8):Fc E zcr [S s] (I (if !zdy s then 8 else 0)):=by
 refine g.fn rfl rfl ?_
 have h:=ygo g s
 repeat' ((conv=>whnf);first
 | refine Yz ?_
  | (apply za1.of;assumption)
  | (refine za1.of (zpm g _ _) ?_)
  | (refine Ret.mk rfl))
theorem z44 {f:Nat} {p:List UInt8->Bool} {l:List (List UInt8)} (hl:l.length<=1000000) (hf:∀x∈l,Fc E f [S x] (B (p x))):Fc E zcy [Ws l,.d (.fn f)] (I (z6r p l)):=by
 refine g.fn rfl rfl ?_
 conv=>whnf
 refine zal.upP g (fun k=>[(0,Ws l),(1,.d (.fn f)),(7,I l.length),(8,I k)]) (fun _=>[]) (fun k=>∀j,(hj:j<k)->(hj':j<l.length)->p l[j]=false) l.length (fun k hk hp ih=> ?_) 0 (Nat.zero_le _) (fun j hj=>by omega)
 by_cases hlt:k<l.length
 ·have hx:=hf l[k] (List.getElem_mem hlt)
  cases hb:p l[k] with
  | true=>
   rw [hb] at hx
   have hi:=zrs (p:=p) hlt hb fun j hj=>hp j hj (by omega)
   rw [hi]
   repeat' ((conv=>whnf);first
   | refine Yz ?_
    | (refine ziz.ws k rfl hlt ?_)
    | (apply za1.of;assumption)
    | (refine Ret.mk rfl))
  | false=>
   rw [hb] at hx
   have ih:=ih hlt fun j hj hj'=>by
    by_cases e:j=k
    ·subst e;exact hb
    ·exact hp j (by omega) hj'
   repeat' ((conv=>whnf);first
   | refine Yz ?_
    | (refine ziz.ws k rfl hlt ?_)
    | (apply za1.of;assumption)
    | (refine zal.to ih rfl rfl))
 ·have hi:=zpa (p:=p) (l:=l) fun j hj=>hp j (by omega) hj
  rw [hi]
  repeat' ((conv=>whnf);first
  | refine Yz ?_
   | (refine Ret.mk rfl))
theorem zyi {f:Nat} {p:List UInt8->Bool} {l:List (List UInt8)} (hl:l.length<=1000000) (hf:∀x∈l,Fc E f [S x] (B (p x))):Fc E zcd [Ws l,.d (.fn f)] (B (l.any p)):=by
 refine g.fn rfl rfl ?_
 have h:=z44 g hl hf
 rw [<-z1x]
 repeat' ((conv=>whnf);first
 | refine Yz ?_
  | (apply za1.of;assumption)
  | (refine Cmp.mk (fun h=> ?_) (fun h=> ?_))|(refine Rem.any (by omega) (fun r hr he=> ?_))|(refine Br.mk (fun h=> ?_) (fun h=> ?_))
  | (refine Ret.mk ?_))
 all_goals simp_all
theorem z43 {f:Nat} {p:Int->Bool} {l:List Int} (hl:l.length<=1000000) (hf:∀x∈l,Fc E f [I x] (B (p x))):Fc E zdz [LI l,.d (.fn f)] (I (z6r p l)):=by
 refine g.fn rfl rfl ?_
 conv=>whnf
 refine zal.upP g (fun k=>[(0,LI l),(1,.d (.fn f)),(7,I l.length),(8,I k)]) (fun _=>[]) (fun k=>∀j,(hj:j<k)->(hj':j<l.length)->p l[j]=false) l.length (fun k hk hp ih=> ?_) 0 (Nat.zero_le _) (fun j hj=>by omega)
 by_cases hlt:k<l.length
 ·have hx:=hf l[k] (List.getElem_mem hlt)
  cases hb:p l[k] with
  | true=>
   rw [hb] at hx
   have hi:=zrs (p:=p) hlt hb fun j hj=>hp j hj (by omega)
   rw [hi]
   repeat' ((conv=>whnf);first
   | refine Yz ?_
    | (refine ziz.iw k rfl hlt ?_)
    | (apply za1.of;assumption)
    | (refine Ret.mk rfl))
  | false=>
   rw [hb] at hx
   have ih:=ih hlt fun j hj hj'=>by
    by_cases e:j=k
    ·subst e;exact hb
    ·exact hp j (by omega) hj'
   repeat' ((conv=>whnf);first
   | refine Yz ?_
    | (refine ziz.iw k rfl hlt ?_)
    | (apply za1.of;assumption)
    | (refine zal.to ih rfl rfl))
 ·have hi:=zpa (p:=p) (l:=l) fun j hj=>hp j (by omega) hj
  rw [hi]
  repeat' ((conv=>whnf);first
  | refine Yz ?_
   | (refine Ret.mk rfl))
theorem zyh {f:Nat} {p:Int->Bool} {l:List Int} (hl:l.length<=1000000) (hf:∀x∈l,Fc E f [I x] (B (p x))):Fc E zdg [LI l,.d (.fn f)] (B (l.any p)):=by
 refine g.fn rfl rfl ?_
 have h:=z43 g hl hf
 rw [<-z1x]
 repeat' ((conv=>whnf);first
 | refine Yz ?_
  | (apply za1.of;assumption)
  | (refine Cmp.mk (fun h=> ?_) (fun h=> ?_))|(refine Rem.any (by omega) (fun r hr he=> ?_))|(refine Br.mk (fun h=> ?_) (fun h=> ?_))
  | (refine Ret.mk ?_))
 all_goals simp_all
theorem yma (s:List UInt8):Fc E zei [S s] (B (!zdy s)):=by
 refine g.fn rfl rfl ?_
 have h:=yaa g s
 cases hb:zdy s
 all_goals
  rw [hb] at h
  repeat' ((conv=>whnf);first
  | refine Yz ?_
   | (apply za1.of;assumption)
   | (refine Ret.mk rfl))
theorem ymb (n:Int):Fc E zej [I n] (B (yka n)):=by
 refine g.fn rfl rfl ?_
 have h:=ztf g n 0 999999999
 by_cases hb:n<0\/999999999<n
 all_goals
  simp only [rng,hb,if_true,if_false] at h
  simp only [yka,hb,decide_true,decide_false]
  repeat' ((conv=>whnf);first
  | refine Yz ?_
   | (apply za1.of;assumption)
   | (refine Ret.mk rfl))
abbrev kdM:List (D×V):=[(.str zqx,.agg [.d (DI 2),.d (DI 4),.fn zat [] [],.fn zau [] []]),
 (.str zvq,.agg [.d (DI 2),.d (DI 4),.fn zat [] [],.fn zau [] []]),
 (.str zdc,.agg [.d (DI 3),.d (DI 4),.fn zat [] [],.fn zau [] []]),
 (.str zd0,.agg [.d (DI 1),.d (DI 1),.fn za9 [] [],.fn zhq [] []]),
 (.str zc2,.agg [.d (DI 2),.d (DI 1),.fn za4 [] [],.fn zb0 [] []]),
 (.str zgo,.agg [.d (DI 1),.d (DI 2),.fn za7 [] [],.fn zbr [] []])]
omit g in
theorem yil {k:List UInt8} (h:k≠zqx/\k≠zvq/\k≠zdc/\k≠zd0/\k≠zc2/\k≠zgo):zgy (.str k) kdM=some none:=by
 have e:∀t,k≠t->(k==t)=false:=fun t h=>beq_eq_false_iff_ne.2 h
 obtain⟨h1,h2,h3,h4,h5,h6⟩:=h
 simp only [zgy,eqD,e _ h1,e _ h2,e _ h3,e _ h4,e _ h5,e _ h6]
theorem zgs.kinds {cx:Cx} {slot:Nat} {m:Mem} {K:V->Mem->Prop} (hf:Go.Evl.freeK cx.lv slot m=0) (k:K (.mp ⟨cx.lv,slot,0⟩) (m++[(⟨cx.lv,slot,0⟩,.map kdM)])):zgs E zer [] cx slot m K:=by
 refine⟨.mp ⟨0,1,0⟩,[(⟨0,1,0⟩,.map kdM)],(.mp ⟨cx.lv,slot,0⟩,m++[(⟨cx.lv,slot,0⟩,.map kdM)]),g.lim.of_iter 1000 _ _ (by kernel_rfl),?_,k⟩
 unfold Evl.settle
 rw [hf]
 rfl
theorem z42 (e:Evt) (hn:e.ns.length<=1000000) (hv:e.vs.length<=1000000):Fc E zc7 [Evv e] (I (yb8 e)):=by
 obtain⟨nu,ki,ns,vs,tx⟩:=e
 change Fc E zc7 [.d (.agg [DI nu,.str ki,.list ns.length (ns.map D.str),.list vs.length (vs.map DI),.str tx])] _
 dsimp only at hn hv
 refine g.fn rfl rfl ?_
 have h1:=zyi g (f:=zei) (p:=fun s=> !zdy s) hn fun x _=>yma g x
 have h2:=zyh g (f:=zej) (p:=yka) hv fun x _=>ymb g x
 have h3:=ztf g nu 1 1000
 have hlast:∀a b c d e f:Int,Fc E zay [.d (.list 6 [DI a,DI b,DI c,DI d,DI e,DI f])] (I (zbi [a,b,c,d,e,f])):=fun a b c d e f=>zqb g [a,b,c,d,e,f] (by simp)
 rcases zz3 ki with rfl|rfl|rfl|rfl|rfl|rfl|hk
 all_goals
  first
  | (have hfind:=yil hk)
  | (have hfind:True:=trivial)
  repeat' ((conv=>whnf);first
  | refine Yz ?_
   | (refine zgs.kinds g rfl ?_)
   | (refine zuy.mk ⟨_,rfl,?_⟩)
   | (refine zuy.mk ⟨_,hfind,?_⟩)
   | (apply za1.of;assumption)
   | (refine za1.of (zpm g _ _) ?_)
   | (refine za1.of (hlast _ _ _ _ _ _) ?_)
   | (refine Cmp.mk (fun h=> ?_) (fun h=> ?_))|(refine Rem.any (by omega) (fun r hr he=> ?_))|(refine Br.mk (fun h=> ?_) (fun h=> ?_))
   | (refine Ret.mk ?_))
  all_goals try norm_cast at *
  all_goals (simp_all [yb8,zzz,ya0,yc5,zp3,far];done)
theorem zyc (n a b:Int):Fc E zgq [I n,I a,I b] (B (decide (n<a\/b<n))):=by
 refine g.fn rfl rfl ?_
 repeat' ((conv=>whnf);first
 | refine Yz ?_
  | (refine Cmp.mk (fun h=> ?_) (fun h=> ?_))|(refine Rem.any (by omega) (fun r hr he=> ?_))|(refine Br.mk (fun h=> ?_) (fun h=> ?_))
  | (refine Ret.mk ?_))
 all_goals simp_all
end
theorem zgs.of {E:Oracle} {f:Nat} {args:List V} {cx:Cx} {slot:Nat} {m:Mem} {K:V->Mem->Prop} (h:In E 0 f args [] fun v m'=>ztq (Go.Evl.settle cx slot 0 m m' v) fun p=>K p.1 p.2):zgs E f args cx slot m K:=by
 obtain⟨v,m',h1,p,h2,h3⟩:=h
 exact⟨v,m',p,h1,h2,h3⟩
structure Rqt where
 (nm ca ki te pa li:List UInt8)
 (fr to da mi se si no:Int)
 deriving DecidableEq
def Rqt.cells (q:Rqt):List D:=[.str q.nm,.str q.ca,.str q.ki,.str q.te,.str q.pa,.str q.li,DI q.fr,DI q.to,DI q.da,DI q.mi,DI q.se,DI q.si,DI q.no]
structure Lnt where
 ac:List UInt8
 rq:Rqt
def Lnt.cells (l:Lnt):List D:= .str l.ac::l.rq.cells
end Go.Proofs.YtmbofbehkalgkaaGreatDoor.Co
namespace Go.Evl
open Go Go.Lib
end Go.Evl
namespace Go.Proofs.YtmbofbehkalgkaaGreatDoor.Co
open Go Go.Evl
set_option maxHeartbeats 32000000
set_option maxRecDepth 100000
theorem z0s:∀l:List (List UInt8),Evl.strsOf (l.map D.str)=some l
 | []=>rfl
 | x::r=>by simp only [List.map_cons,Evl.strsOf,z0s r,Option.map_some]
section
variable {E : Oracle} (g : Good E)
include g
theorem yjg {f:Nat} {p:UInt8->Bool} {s:List UInt8} (h1:∀b:UInt8,b.toNat<128->Fc E f [.d (.int .i32 b.toNat)] (B (p b))) (h2:∀c:Int,128<=c->Fc E f [.d (.int .i32 c)] (B true)) (h3:∀b:UInt8,128<=b.toNat->p b=true):
  Fc E zhx [S s,.d (.fn f),B true] (I (z6r p s)):=by
 refine g.fn rfl rfl ?_
 repeat' ((conv=>whnf);first
 | refine Yz ?_)
 refine zal.to (zal.upP g (fun _=>[(1,.d (.fn f)),(2,B true),(10,.it ⟨0,10,0⟩)]) (fun k=>[(⟨0,10,0⟩,.iter s k)]) (fun k=>∀j,(hj:j<k)->(hj':j<s.length)->p s[j]=false) s.length (fun k hk hp ih=> ?_) 0 (Nat.zero_le _) (fun j hj=>by omega)) rfl rfl
 by_cases hlt:k<s.length
 ·have eg:s.getD k 0=s[k]:=by simp [List.getD,hlt]
  by_cases ha:(s.getD k 0).toNat<128
  ·have hx:=h1 (s.getD k 0) ha
   cases hb:p s[k] with
   | true=>
    rw [eg,hb] at hx
    rw [eg] at ha
    have hi:=zrs (p:=p) hlt hb fun j hj=>hp j hj (by omega)
    rw [hi]
    repeat' ((conv=>whnf);first
    | refine Yz ?_
     | (refine zq2.asc hlt (by rw [eg];exact ha) ?_;rw [eg])
     | (apply za1.of;assumption)
     | (refine Ret.mk rfl))
   | false=>
    rw [eg,hb] at hx
    rw [eg] at ha
    have ih:=ih hlt fun j hj hj'=>by
     by_cases e:j=k
     ·subst e;exact hb
     ·exact hp j (by omega) hj'
    repeat' ((conv=>whnf);first
    | refine Yz ?_
     | (refine zq2.asc hlt (by rw [eg];exact ha) ?_;rw [eg])
     | (apply za1.of;assumption)
     | (refine zal.to ih rfl rfl))
  ·have hb:p s[k]=true:=by rw [<-eg];exact h3 _ (by omega)
   have hi:=zrs (p:=p) hlt hb fun j hj=>hp j hj (by omega)
   rw [hi]
   repeat' ((conv=>whnf);first
   | refine Yz ?_
    | (refine zq2.high hlt (by omega) (fun c w hc hw=> ?_);have hx:=h2 c hc)
    | (apply za1.of;assumption)
    | (refine Ret.mk rfl))
 ·obtain rfl:k=s.length:=by omega
  have hi:=zpa (p:=p) (l:=s) fun j hj=>hp j hj hj
  rw [hi]
  repeat' ((conv=>whnf);first
  | refine Yz ?_
   | (refine zq2.end' (Nat.le_refl _) ?_)
   | (refine Ret.mk rfl))
theorem yeo {f:Nat} {p:UInt8->Bool} {s:List UInt8} (h1:∀b:UInt8,b.toNat<128->Fc E f [.d (.int .i32 b.toNat)] (B (p b))) (h2:∀c:Int,128<=c->Fc E f [.d (.int .i32 c)] (B true)) (h3:∀b:UInt8,128<=b.toNat->p b=true):
  Fc E zc6 [S s,.d (.fn f)] (B (s.any p)):=by
 have h:=yjg g (s:=s) h1 h2 h3
 have hi:Fc E zhw [S s,.d (.fn f)] (I (z6r p s)):=by
  refine g.fn rfl rfl ?_
  repeat' ((conv=>whnf);first
  | refine Yz ?_
   | (apply za1.of;assumption)
   | (refine Ret.mk rfl))
 refine g.fn rfl rfl ?_
 rw [<-z1x]
 repeat' ((conv=>whnf);first
 | refine Yz ?_
  | (apply za1.of;assumption)
  | (refine Cmp.mk (fun h=> ?_) (fun h=> ?_))|(refine Rem.any (by omega) (fun r hr he=> ?_))|(refine Br.mk (fun h=> ?_) (fun h=> ?_))
  | (refine Ret.mk ?_))
 all_goals simp_all
end
theorem ybp {cx:Cx} {slot lo:Nat} {old m:Mem} {o:Evl.Id} {v:V} (hi:Go.Evl.ids v=[o]) (hr:Go.Evl.ren [] v=v) (h:o.lv<lo):Go.Evl.settle cx slot lo old m v=some (v,old):=by
 have hn:¬lo<=o.lv:=by omega
 have hr':Go.Evl.reach lo m 64 (Go.Evl.ids v) []=[]:=by
  rw [hi]
  simp [Go.Evl.reach,hn]
 unfold Go.Evl.settle
 simp only [hr']
 rw [if_pos (by rw [hi];simp [Go.Evl.within,Go.Evl.movable,Go.Evl.onceB,h])]
 simp [Go.Evl.number,hr,Go.Evl.moved]
theorem ztq.low {cx:Cx} {slot lo:Nat} {old m:Mem} {o:Evl.Id} {v:V} {K:V×Mem->Prop} (hi:Go.Evl.ids v=[o]) (hr:Go.Evl.ren [] v=v) (h:o.lv<lo) (k:K (v,old)):ztq (Go.Evl.settle cx slot lo old m v) K:=⟨_,ybp hi hr h,k⟩
theorem zar {α:Type} (cell:α->List D) (w:Nat) (hw:∀a,(cell a).length=w):∀l:List α,(l.flatMap cell).length=l.length*w
 | []=>by simp
 | c::r=>by rw [List.flatMap_cons,List.length_append,hw,zar cell w hw r,List.length_cons,Nat.succ_mul];omega
theorem zun {α:Type} (cell:α->List D) (w:Nat) (hw:∀a,(cell a).length=w):∀(l:List α) (k:Nat),(l.flatMap cell).drop (k*w)=(l.drop k).flatMap cell
 | l,0=>by simp
 | [],k+1=>by simp
 | c::r,k+1=>by
  rw [List.flatMap_cons,List.drop_succ_cons,<-zun cell w hw r k,Nat.succ_mul,Nat.add_comm,<-List.drop_drop]
  congr 1
  rw [List.drop_append_of_le_length (by rw [hw];exact Nat.le_refl _),List.drop_of_length_le (by rw [hw];exact Nat.le_refl _)]
  rfl
theorem zj4 {α:Type} (cell:α->List D) (w:Nat) (hw:∀a,(cell a).length=w) (l:List α) (k:Nat) (h:k<l.length):win (l.flatMap cell) (k*w) w=cell l[k]:=by
 unfold win
 rw [zun cell w hw,List.drop_eq_getElem_cons h,List.flatMap_cons,List.take_append_of_le_length (by rw [hw];exact Nat.le_refl _),List.take_of_length_le (by rw [hw];exact Nat.le_refl _)]
theorem yc4 {α:Type} (cell:α->List D) (w:Nat) (hw:∀a,(cell a).length=w) (l:List α) (k j:Nat) (h:k<l.length) (hj:j<w):(l.flatMap cell)[k*w+j]? =(cell l[k])[j]? :=by
 rw [<-List.getElem?_drop,zun cell w hw,List.drop_eq_getElem_cons h,List.flatMap_cons,List.getElem?_append_left (by rw [hw];exact hj)]
theorem zgd.rec {α:Type} {cell:α->List D} {w:Nat} (hw:∀a,(cell a).length=w) {l:List α} {i:Int} {K:List D->Prop} (k:Nat) (hi:i=k) (h:k<l.length) (hk:K (cell l[k])):zgd (l.flatMap cell) (i.toNat*w) w K:=by
 subst hi
 rw [Int.toNat_natCast]
 have h1:=zar cell w hw l
 refine⟨?_,by rw [zj4 cell w hw l k h];exact hk⟩
 have h2:(k+1)*w<=l.length*w:=Nat.mul_le_mul_right _ h
 rw [Nat.succ_mul] at h2
 omega
theorem zgd.rec0 {α:Type} {cell:α->List D} {w:Nat} (hw:∀a,(cell a).length=w) {l:List α} {i:Int} {K:List D->Prop} (k:Nat) (hi:i=k) (h:k<l.length) (hk:K (cell l[k])):zgd (l.flatMap cell) ((0+i.toNat)*w) w K:=by
 rw [Nat.zero_add];exact zgd.rec hw k hi h hk
theorem ziz.rec {α:Type} {cell:α->List D} {w:Nat} (hw:∀a,(cell a).length=w) {l:List α} {i:Int} {j:Nat} {K:D->Prop} {d:D} (k:Nat) (hi:i=k) (h:k<l.length) (hj:(cell l[k])[j]? =some d) (hk:K d):ziz (l.flatMap cell) (i.toNat*w+j) K:=by
 subst hi
 rw [Int.toNat_natCast]
 have hlt:j<w:=by
  have:=(List.getElem?_eq_some_iff.1 hj).1
  rwa [hw] at this
 exact⟨⟨d,by rw [yc4 cell w hw l k j h hlt];exact hj,hk⟩⟩
theorem ziz.rec0 {α:Type} {cell:α->List D} {w:Nat} (hw:∀a,(cell a).length=w) {l:List α} {i:Int} {j:Nat} {K:D->Prop} {d:D} (k:Nat) (hi:i=k) (h:k<l.length) (hj:(cell l[k])[j]? =some d) (hk:K d):ziz (l.flatMap cell) ((0+i.toNat)*w+j) K:=by
 rw [Nat.zero_add];exact ziz.rec hw k hi h hj hk
theorem ziz.intI {l:List Int} {i:Int} {K:D->Prop} (k:Nat) (hi:i=k) (h:k<l.length) (hk:K (DI l[k])):ziz (l.map DI) (i.toNat*1) K:=by
 subst hi
 refine⟨⟨_,?_,hk⟩⟩
 simp [h]
abbrev LE (l:List Evt):V:= .d (.list l.length (l.flatMap Evt.cells))
theorem evw (e:Evt):e.cells.length=5:=rfl
mutual
theorem ztg:∀d:D,ziw d d=true
 | .int k a=>by simp [ziw]
 | .bool a=>by simp [ziw]
 | .str a=>by simp [ziw]
 | .nil=>rfl
 | .list n a=>by simp [ziw,zia a]
 | .agg a=>by simp [ziw,zia a]
 | .nilp=>rfl
 | .nilf=>rfl
 | .nili=>rfl
 | .ifc a=>by simp [ziw]
 | .nilm=>rfl
 | .fn a=>by simp [ziw]
theorem zia:∀l:List D,zjd l l=true
 | []=>rfl
 | x::r=>by simp [zjd,ztg x,zia r]
end
mutual
theorem zpw:∀v:V,zmn v v=true
 | .d a=>ztg a
 | .agg a=>by simp [zmn,zlg a]
 | .tup a=>by simp [zmn,zlg a]
 | .ref o a b c=>by simp [zmn]
 | .ptr o a b=>by simp [zmn]
 | .lptr a n=>by simp [zmn,zia a]
 | .cl n a=>by simp [zmn,zia a]
 | .fn f a b=>by simp [zmn,zlg a,zlg b]
 | .yld o=>by simp [zmn]
 | .mp o=>by simp [zmn]
 | .it o=>by simp [zmn]
 | .skip=>rfl
 | .undef=>rfl
theorem zlg:∀l:List V,zuk l l=true
 | []=>rfl
 | x::r=>by simp [zuk,zpw x,zlg r]
end
def z9x:Mem->Bool
 | []=>true
 | (_,o)::r=>(match o with
  | .cells .. =>true
  | .row .. =>true
  | _=>false)&&z9x r
def yfo (m1:Mem):Mem->Prop
 | []=>True
 | (i,o)::r=>Evl.look m1 i=some o/\yfo m1 r
theorem z9f (m1:Mem):∀m:Mem,z9x m=true->yfo m1 m->z4e m1 m=true
 | [],_,_=>rfl
 | (i,o)::r,h,hk=>by
  obtain⟨h1,h2⟩:=hk
  simp only [z9x,Bool.and_eq_true] at h
  have ih:=z9f m1 r h.2 h2
  unfold z4e
  rw [h1,ih,Bool.and_true]
  cases o<;>simp at h
  ·simp [z7i,zlg]
  ·simp [z7i,zia]
structure Qs (E:Oracle) (f:Nat) (as0:List V) (m0:Mem) (r:V):Prop where
 got:In E 1 f as0 m0 fun v m1=>v=r/\yfo m1 m0
theorem zmx.of {E:Oracle} {f:Nat} {first caps args as0:List V} {m m0:Mem} {r r':V} {K:V->Prop} (is:List Evl.Id) (his:reach 0 m 64 (idsL (first ++args++caps)) []=is)
  (hc:(within is 0 (idsL (first ++args++caps))&&movable is 0 m)=true) (has:renL (number ⟨0,0⟩ 0 0 is) (first ++args++caps)=as0) (hm:moved (number ⟨0,0⟩ 0 0 is) m (number ⟨0,0⟩ 0 0 is)=m0)
  (hq:Qs E f as0 m0 r) (hp:z9x m0=true) (hid:(ids r).all (fun i=>((number ⟨0,0⟩ 0 0 is).map (·.2)).elem i)=true) (hr:ren (znm (number ⟨0,0⟩ 0 0 is)) r=r') (hk:K r'):zmx E (.fn f first caps) args m K:=by
 obtain⟨v,m1,h1,rfl,h3⟩:=hq.got
 refine⟨r',?_,hk⟩
 simp only [zsl,his,hc,if_true,has,hm,h1]
 rw [z9f m1 m0 hp h3,hid,hr]
 rfl
structure Ent where
 nm:List UInt8
 kd:List UInt8
 sr:List UInt8
 bs:List UInt8
 kn:Int
 fr:Int
 to:Int
 mi:Int
structure Rmv where
 en:List UInt8
 kn:Int
structure Cpl where
 nm:List UInt8
 en:List UInt8
 kn:Int
 cl:Bool
 up:Bool
structure Rgs where
 kn:Int
 es:List Ent
 rs:List Rmv
 cs:List Cpl
def Ent.cells (e:Ent):List D:=[.str e.nm,.str e.kd,.str e.sr,.str e.bs,DI e.kn,DI e.fr,DI e.to,DI e.mi]
def Rmv.cells (r:Rmv):List D:=[.str r.en,DI r.kn]
def Cpl.cells (c:Cpl):List D:=[.str c.nm,.str c.en,DI c.kn,.bool c.cl,.bool c.up]
abbrev ylo (e:Ent):V:= .d (.agg e.cells)
theorem z8w (e:Ent):e.cells.length=8:=rfl
theorem ylk (e:Rmv):e.cells.length=2:=rfl
theorem yb9 (e:Cpl):e.cells.length=5:=rfl
abbrev mR (t:Nat) (ev:List Evt) (r:Rgs):Mem:=[(⟨0,0,0⟩,.cells t [.ref ⟨0,0,1⟩ 0 ev.length ev.length,I r.kn,.ref ⟨0,0,2⟩ 0 r.es.length r.es.length,.ref ⟨0,0,3⟩ 0 r.rs.length r.rs.length,.ref ⟨0,0,4⟩ 0 r.cs.length r.cs.length]),
 (⟨0,0,1⟩,.row false zae 5 ev.length (ev.flatMap Evt.cells)),(⟨0,0,2⟩,.row false zac 8 r.es.length (r.es.flatMap Ent.cells)),(⟨0,0,3⟩,.row false zaj 2 r.rs.length (r.rs.flatMap Rmv.cells)),(⟨0,0,4⟩,.row true zad 5 r.cs.length (r.cs.flatMap Cpl.cells))]
abbrev isR:List Evl.Id:=[⟨0,0,0⟩,⟨0,0,1⟩,⟨0,0,2⟩,⟨0,0,3⟩,⟨0,0,4⟩]
def zto (es:List Ent) (nm:List UInt8):Int:=z6r (fun x=>decide (x.nm=nm)) es
def z6g (cs:List Cpl) (nm:List UInt8):Int:=z6r (fun x=>decide (x.nm=nm)) cs
theorem zzx {α:Type} (p:α->Bool) (l:List α):(z6r p l= -1/\∀j,(hj:j<l.length)->p l[j]=false)\/∃k,∃hk:k<l.length,z6r p l=k/\p l[k]=true/\∀j,(hj:j<k)->p (l[j]'(by omega))=false:=by
 unfold z6r
 cases h:l.findIdx? p with
 | none=>
  refine .inl ⟨rfl,fun j hj=> ?_⟩
  have:=List.findIdx?_eq_none_iff.1 h l[j] (List.getElem_mem hj)
  simpa using this
 | some i=>
  obtain⟨hi,hp,hn⟩:=List.findIdx?_eq_some_iff_getElem.1 h
  refine .inr ⟨i,hi,rfl,hp,fun j hj=> ?_⟩
  have:=hn j hj
  simpa using this
abbrev ycy (r:Rgs) (i:Int):V:=if 0<=i then .ptr ⟨0,0,2⟩ ((0+i.toNat)*8) r.es.length else .d .nilp
abbrev yhg (r:Rgs) (i:Int):V:=if 0<=i then .ptr ⟨0,0,4⟩ ((0+i.toNat)*5) r.cs.length else .d .nilp
section
variable {E : Oracle} (g : Good E)
include g
theorem z2k (t:Nat) (ev:List Evt) (r:Rgs) (nm:List UInt8) (hl:r.es.length<=1000000):Qs E zbj [.ptr ⟨0,0,0⟩ 1 0,S nm] (mR t ev r) (ycy r (zto r.es nm)):=by
 refine⟨?_⟩
 refine In.enter (f:=zbj) g.lim rfl rfl ?_
 have hml:(r.es.flatMap Ent.cells).length=r.es.length*8:=zar Ent.cells 8 z8w r.es
 repeat' ((conv=>whnf);first
 | refine Yz ?_
  | (refine In.enter (f:=zax) g.lim rfl rfl ?_)
  | fail)
 refine zal.to (zal.upP g (fun k=>[(0,.ref ⟨0,0,2⟩ 0 r.es.length r.es.length),(1,.fn zcc [] [.ptr ⟨1,3,0⟩ 0 0]),(7,I r.es.length),(8,I k)]) (fun _=>mR t ev r++[(⟨1,3,0⟩,.cells zag [S nm])]) (fun k=>∀j,(hj:j<k)->(hj':j<r.es.length)->decide (r.es[j].nm=nm)=false) r.es.length (fun k hk hp ih=> ?_) 0 (Nat.zero_le _) (fun j h _=>absurd h (Nat.not_lt_zero _))) rfl rfl
 by_cases hlt:k<r.es.length
 ·have hwin:win (r.es.flatMap Ent.cells) ((0+((k:Nat):Int).toNat)*8) 8=r.es[k].cells:=by
   rw [Nat.zero_add,Int.toNat_natCast]
   exact zj4 Ent.cells 8 z8w r.es k hlt
  by_cases he:r.es[k].nm=nm
  ·have hi:zto r.es nm=k:=zrs (p:=fun x:Ent=>decide (x.nm=nm)) hlt (decide_eq_true he) fun j hj=>hp j hj (by omega)
   rw [hi,ycy,if_pos (by omega)]
   repeat' ((conv=>whnf);first
   | refine Yz ?_
    | (rw [hwin];refine In.enter (f:=zcc) g.lim rfl rfl ?_)
    | (refine Cmp.tt he ?_)
    | (exact⟨rfl,rfl,rfl,rfl,rfl,rfl,trivial⟩)
    | fail)
  ·have ih:=ih hlt fun j hj hj'=>by
    by_cases e:j=k
    ·subst e;exact decide_eq_false he
    ·exact hp j (by omega) hj'
   repeat' ((conv=>whnf);first
   | refine Yz ?_
    | (rw [hwin];refine In.enter (f:=zcc) g.lim rfl rfl ?_)
    | (refine Cmp.ff he ?_)
    | (refine zal.to ih rfl rfl)
    | fail)
 ·obtain rfl:k=r.es.length:=by omega
  have hi:zto r.es nm= -1:=zpa (p:=fun x:Ent=>decide (x.nm=nm)) fun j hj=>hp j hj hj
  rw [hi,ycy,if_neg (by decide)]
  repeat' ((conv=>whnf);first
  | refine Yz ?_
   | (exact⟨rfl,rfl,rfl,rfl,rfl,rfl,trivial⟩)
   | fail)
theorem zrx (t:Nat) (ev:List Evt) (r:Rgs) (nm:List UInt8) (hl:r.cs.length<=1000000):Qs E zbo [.ptr ⟨0,0,0⟩ 1 0,S nm] (mR t ev r) (yhg r (z6g r.cs nm)):=by
 refine⟨?_⟩
 refine In.enter (f:=zbo) g.lim rfl rfl ?_
 have hml:(r.cs.flatMap Cpl.cells).length=r.cs.length*5:=zar Cpl.cells 5 yb9 r.cs
 repeat' ((conv=>whnf);first
 | refine Yz ?_
  | (refine In.enter (f:=zbd) g.lim rfl rfl ?_)
  | fail)
 refine zal.to (zal.upP g (fun k=>[(0,.ref ⟨0,0,4⟩ 0 r.cs.length r.cs.length),(1,.fn zbs [] [.ptr ⟨1,3,0⟩ 0 0]),(7,I r.cs.length),(8,I k)]) (fun _=>mR t ev r++[(⟨1,3,0⟩,.cells zag [S nm])]) (fun k=>∀j,(hj:j<k)->(hj':j<r.cs.length)->decide (r.cs[j].nm=nm)=false) r.cs.length (fun k hk hp ih=> ?_) 0 (Nat.zero_le _) (fun j h _=>absurd h (Nat.not_lt_zero _))) rfl rfl
 by_cases hlt:k<r.cs.length
 ·have hwin:win (r.cs.flatMap Cpl.cells) ((0+((k:Nat):Int).toNat)*5) 5=r.cs[k].cells:=by
   rw [Nat.zero_add,Int.toNat_natCast]
   exact zj4 Cpl.cells 5 yb9 r.cs k hlt
  by_cases he:r.cs[k].nm=nm
  ·have hi:z6g r.cs nm=k:=zrs (p:=fun x:Cpl=>decide (x.nm=nm)) hlt (decide_eq_true he) fun j hj=>hp j hj (by omega)
   rw [hi,yhg,if_pos (by omega)]
   repeat' ((conv=>whnf);first
   | refine Yz ?_
    | (rw [hwin];refine In.enter (f:=zbs) g.lim rfl rfl ?_)
    | (refine Cmp.tt he ?_)
    | (exact⟨rfl,rfl,rfl,rfl,rfl,rfl,trivial⟩)
    | fail)
  ·have ih:=ih hlt fun j hj hj'=>by
    by_cases e:j=k
    ·subst e;exact decide_eq_false he
    ·exact hp j (by omega) hj'
   repeat' ((conv=>whnf);first
   | refine Yz ?_
    | (rw [hwin];refine In.enter (f:=zbs) g.lim rfl rfl ?_)
    | (refine Cmp.ff he ?_)
    | (refine zal.to ih rfl rfl)
    | fail)
 ·obtain rfl:k=r.cs.length:=by omega
  have hi:z6g r.cs nm= -1:=zpa (p:=fun x:Cpl=>decide (x.nm=nm)) fun j hj=>hp j hj hj
  rw [hi,yhg,if_neg (by decide)]
  repeat' ((conv=>whnf);first
  | refine Yz ?_
   | (exact⟨rfl,rfl,rfl,rfl,rfl,rfl,trivial⟩)
   | fail)
end
inductive Ch (es:List Ent):Nat->List Ent->Prop
 | stop (k:Nat) (hk:k<es.length) (h:zto es es[k].bs= -1):Ch es k [es[k]]
 | step (k j:Nat) (tl:List Ent) (hk:k<es.length) (h:zto es es[k].bs=j) (ht:Ch es j tl):Ch es k (es[k]::tl)
def yfk (rs:List Rmv) (nm:List UInt8) (kn:Int):Bool:=rs.any fun z=>decide (z.en=nm/\z.kn<=kn)
abbrev mC (t:Nat) (ev:List Evt) (r:Rgs) (x:Ent) (kn:Int):Mem:=mR t ev r++[(⟨1,3,0⟩,.cells zcb [.ptr ⟨0,0,0⟩ 1 0]),(⟨1,4,0⟩,.cells zac [S x.nm,S x.kd,S x.sr,S x.bs,I x.kn,I x.fr,I x.to,I x.mi]),(⟨1,5,0⟩,.cells zcl [I kn])]
section
variable {E : Oracle} (g : Good E)
include g
theorem zzy (t:Nat) (ev:List Evt) (r:Rgs) (x y:Ent) (kn:Int) (hl:r.rs.length<=1000000) {slot:Nat} {K:V->Mem->Prop} (hK:K (B (yfk r.rs y.nm kn)) (mC t ev r x kn)):
  In E 4 zb3 [ylo y,.ptr ⟨1,3,0⟩ 0 0,.ptr ⟨1,5,0⟩ 0 0] (mC t ev r x kn) fun v m'=>z57 ⟨3,4⟩ slot true v m' K:=by
 refine In.enter (f:=zb3) g.lim rfl rfl ?_
 have hml:(r.rs.flatMap Rmv.cells).length=r.rs.length*2:=zar Rmv.cells 2 ylk r.rs
 repeat' ((conv=>whnf);first
 | refine Yz ?_
  | (refine In.enter (f:=zbe) g.lim rfl rfl ?_)
  | (refine In.enter (f:=zbh) g.lim rfl rfl ?_)
  | fail)
 refine zal.to (zal.upP g (fun k=>[(0,.ref ⟨0,0,3⟩ 0 r.rs.length r.rs.length),(1,.fn zbl [] [.ptr ⟨4,3,0⟩ 0 0,.ptr ⟨1,5,0⟩ 0 0]),(7,I r.rs.length),(8,I k)]) (fun _=>mC t ev r x kn++[(⟨4,3,0⟩,.cells zac [S y.nm,S y.kd,S y.sr,S y.bs,I y.kn,I y.fr,I y.to,I y.mi])])
  (fun k=>∀j,(hj:j<r.rs.length)->j<k->¬(r.rs[j].en=y.nm/\r.rs[j].kn<=kn)) r.rs.length (fun k hk hp ih=> ?_) 0 (Nat.zero_le _) (fun j _ h=>absurd h (Nat.not_lt_zero _))) rfl rfl
 by_cases hlt:k<r.rs.length
 ·have hwin:win (r.rs.flatMap Rmv.cells) ((0+((k:Nat):Int).toNat)*2) 2=r.rs[k].cells:=by
   rw [Nat.zero_add,Int.toNat_natCast]
   exact zj4 Rmv.cells 2 ylk r.rs k hlt
  by_cases he:r.rs[k].en=y.nm
  ·by_cases hn:r.rs[k].kn<=kn
   ·have hb:yfk r.rs y.nm kn=true:=List.any_eq_true.2 ⟨_,List.getElem_mem hlt,decide_eq_true ⟨he,hn⟩⟩
    rw [hb] at hK
    repeat' ((conv=>whnf);first
    | refine Yz ?_
     | (rw [hwin];refine In.enter (f:=zbl) g.lim rfl rfl ?_)
     | (refine Cmp.tt he ?_)
     | (exact hK)
     | fail)
   ·have ih:=ih hlt fun j hj hjk=>by
     by_cases e:j=k
     ·subst e;exact fun h=>hn h.2
     ·exact hp j hj (by omega)
    repeat' ((conv=>whnf);first
    | refine Yz ?_
     | (rw [hwin];refine In.enter (f:=zbl) g.lim rfl rfl ?_)
     | (refine Cmp.tt he ?_)
     | (refine zal.to ih rfl rfl)
     | fail)
  ·have ih:=ih hlt fun j hj hjk=>by
    by_cases e:j=k
    ·subst e;exact fun h=>he h.1
    ·exact hp j hj (by omega)
   repeat' ((conv=>whnf);first
   | refine Yz ?_
    | (rw [hwin];refine In.enter (f:=zbl) g.lim rfl rfl ?_)
    | (refine Cmp.ff he ?_)
    | (refine zal.to ih rfl rfl)
    | fail)
 ·obtain rfl:k=r.rs.length:=by omega
  have hb:yfk r.rs y.nm kn=false:=by
   unfold yfk
   rw [List.any_eq_false]
   intro z hz
   obtain⟨j,hj,rfl⟩:=List.mem_iff_getElem.1 hz
   simpa using hp j hj hj
  rw [hb] at hK
  repeat' ((conv=>whnf);first
  | refine Yz ?_
   | (exact hK)
   | fail)
theorem ygh (t:Nat) (ev:List Evt) (r:Rgs) (kn:Int) (hr:r.rs.length<=1000000) (hl:r.es.length<=1000000) (k:Nat) (hk:k<r.es.length) (c:List Ent) (hc:Ch r.es k c) (hcl:c.length<=1000000):
  Qs E zbp [.ptr ⟨0,0,0⟩ 1 0,ylo r.es[k],I kn] (mR t ev r) (B (decide (r.es[k].kn<=kn)&& !c.any fun y=>yfk r.rs y.nm kn)):=by
 refine⟨?_⟩
 generalize hx:r.es[k]=x at *
 have hml:(r.es.flatMap Ent.cells).length=r.es.length*8:=zar Ent.cells 8 z8w r.es
 refine In.enter (f:=zbp) g.lim rfl rfl ?_
 repeat' ((conv=>whnf);first
 | refine Yz ?_
  | (refine In.enter (f:=zdp) g.lim rfl rfl ?_)
  | fail)
 refine zal.to (zal.by (σ:=List Ent×Ent×Nat×List Ent) g (fun u=>(∃hk:u.2.2.1<r.es.length,r.es[u.2.2.1]=u.2.1)/\Ch r.es u.2.2.1 u.2.2.2/\∃pre,u.1=pre++[u.2.1]/\pre++u.2.2.2=c)
  (fun u=>[(0,.ptr ⟨0,0,0⟩ 1 0),(5,.ref ⟨2,8,0⟩ 0 u.1.length u.1.length)])
  (fun u=>mC t ev r x kn++[(⟨2,3,0⟩,.cells zac [S x.nm,S x.kd,S x.sr,S x.bs,I x.kn,I x.fr,I x.to,I x.mi]),(⟨2,4,0⟩,.row false zac 8 0 []),(⟨2,8,0⟩,.row false zac 8 u.1.length (u.1.flatMap Ent.cells))])
  (fun u=>u.2.2.2.length) ?_ ([x],x,k,c) ⟨⟨hk,hx⟩,hc,[],rfl,rfl⟩) rfl rfl
 clear hc hx
 rintro⟨out,y,k,tl⟩ ⟨⟨hk,hy⟩,hc,pre,h1,h2⟩ ih
 dsimp only at hk hy hc h1 h2 ih ⊢
 have hol:out.length=pre.length+1:=by rw [h1];simp
 have hlast:out[pre.length]'(by omega)=y:=by simp [h1]
 have hq:=z2k g t ev r y.bs hl
 have hcl2:pre.length+tl.length<=1000000:=by rw [<-List.length_append,h2];exact hcl
 have hmo:(out.flatMap Ent.cells).length=out.length*8:=zar Ent.cells 8 z8w out
 cases hc with
 | stop k hk' h=>
  rw [hy] at h h2
  rw [h,ycy,if_neg (by decide)] at hq
  obtain rfl:out=c:=h1.trans h2
  repeat' ((conv=>whnf);first
  | refine Yz ?_
   | (refine ziz.rec0 z8w pre.length (by omega) (by omega) rfl ?_;rw [hlast])
   | (refine zmx.of (r':= .d .nilp) isR rfl rfl rfl rfl hq rfl rfl rfl ?_)
   | (rw [if_pos ⟨rfl,rfl⟩];refine In.enter (f:=za3) g.lim rfl rfl ?_)
   | (refine In.enter (f:=zax) g.lim rfl rfl ?_)
   | fail)
  refine zal.to (zal.upP g (fun k=>[(0,.d (.list out.length (out.flatMap Ent.cells))),(1,.fn zb3 [] [.ptr ⟨1,3,0⟩ 0 0,.ptr ⟨1,5,0⟩ 0 0]),(7,I out.length),(8,I k)]) (fun _=>mC t ev r x kn)
   (fun k=>∀j,(hj:j<out.length)->j<k->yfk r.rs out[j].nm kn=false) out.length (fun m hm hp ihm=> ?_) 0 (Nat.zero_le _) (fun j _ h=>absurd h (Nat.not_lt_zero _))) rfl rfl
  by_cases hlt:m<out.length
  ·have hwin:win (out.flatMap Ent.cells) (((m:Nat):Int).toNat*8) 8=out[m].cells:=by
    rw [Int.toNat_natCast]
    exact zj4 Ent.cells 8 z8w out m hlt
   cases hb:yfk r.rs out[m].nm kn with
   | true=>
    have ha:(out.any fun y=>yfk r.rs y.nm kn)=true:=List.any_eq_true.2 ⟨_,List.getElem_mem hlt,hb⟩
    rw [ha,Bool.not_true,Bool.and_false]
    by_cases hkn:x.kn<=kn
    all_goals repeat' ((conv=>whnf);first
    | refine Yz ?_
     | (rw [hwin];refine zzy g t ev r x out[m] kn hr (slot:=16) ?_;rw [hb])
     | (exact⟨rfl,rfl,rfl,rfl,rfl,rfl,trivial⟩)
     | fail)
   | false=>
    have ihm:=ihm hlt fun j hj hjm=>by
     by_cases e:j=m
     ·subst e;exact hb
     ·exact hp j hj (by omega)
    repeat' ((conv=>whnf);first
    | refine Yz ?_
     | (rw [hwin];refine zzy g t ev r x out[m] kn hr (slot:=16) ?_;rw [hb])
     | (refine zal.to ihm rfl rfl)
     | fail)
  ·obtain rfl:m=out.length:=by omega
   have ha:(out.any fun y=>yfk r.rs y.nm kn)=false:=by
    rw [List.any_eq_false]
    intro z hz
    obtain⟨j,hj,rfl⟩:=List.mem_iff_getElem.1 hz
    rw [hp j hj hj];decide
   rw [ha,Bool.not_false,Bool.and_true]
   by_cases hkn:x.kn<=kn
   ·rw [decide_eq_true hkn]
    repeat' ((conv=>whnf);first
    | refine Yz ?_
     | (exact⟨rfl,rfl,rfl,rfl,rfl,rfl,trivial⟩)
     | fail)
   ·rw [decide_eq_false hkn]
    repeat' ((conv=>whnf);first
    | refine Yz ?_
     | (exact⟨rfl,rfl,rfl,rfl,rfl,rfl,trivial⟩)
     | fail)
 | step k j tl hk' h ht=>
  rw [hy] at h h2
  rw [h,ycy,if_pos (by omega)] at hq
  obtain⟨hj,hj'⟩:∃hj:j<r.es.length,True:=by
   cases ht with
   | stop _ hj _=>exact⟨hj,trivial⟩
   | step _ _ _ hj _ _=>exact⟨hj,trivial⟩
  have hwin:win (r.es.flatMap Ent.cells) ((0+((j:Nat):Int).toNat)*8) 8=r.es[j].cells:=by
   rw [Nat.zero_add,Int.toNat_natCast]
   exact zj4 Ent.cells 8 z8w r.es j hj
  simp only [List.length_cons] at hcl2
  have ih:=ih (out++[r.es[j]],r.es[j],j,tl) ⟨⟨hj,rfl⟩,ht,out,rfl,by rw [h1,List.append_assoc];exact h2⟩ (by simp)
  simp only [List.length_append,List.length_cons,List.length_nil,List.flatMap_append,List.flatMap_cons,List.flatMap_nil] at ih
  repeat' ((conv=>whnf);first
  | refine Yz ?_
   | (refine ziz.rec0 z8w pre.length (by omega) (by omega) rfl ?_;rw [hlast])
   | (refine zmx.of (r':= .ptr ⟨0,0,2⟩ ((0+((j:Nat):Int).toNat)*8) r.es.length) isR rfl rfl rfl rfl hq rfl rfl rfl ?_)
   | (rw [hwin])
   | (refine zju.mk ⟨rfl,rfl,rfl,rfl,rfl,rfl,by dsimp only;omega,by omega⟩ ?_)
   | (refine zal.to ih rfl rfl)
   | fail)
end
def chF:Nat->List Ent->Ent->List Ent
 | 0,_,x=>[x]
 | n+1,es,x=>if h:0<=zto es x.bs/\(zto es x.bs).toNat<es.length then x::chF n es es[(zto es x.bs).toNat] else [x]
def yj2 (es:List Ent):Prop:=∀k,(hk:k<es.length)->zto es es[k].bs<k
theorem zh6 (es:List Ent) (nm:List UInt8):(zto es nm= -1/\∀j,(hj:j<es.length)->es[j].nm≠nm)\/∃k,∃hk:k<es.length,zto es nm=k/\es[k].nm=nm/\∀j,(hj:j<k)->(es[j]'(by omega)).nm≠nm:=by
 rcases zzx (fun x:Ent=>decide (x.nm=nm)) es with⟨h1,h2⟩|⟨k,hk,h1,h2,h3⟩
 ·exact .inl ⟨h1,fun j hj=>of_decide_eq_false (h2 j hj)⟩
 ·exact .inr ⟨k,hk,h1,of_decide_eq_true h2,fun j hj=>of_decide_eq_false (h3 j hj)⟩
theorem zzm (cs:List Cpl) (nm:List UInt8):z6g cs nm= -1\/∃k,∃hk:k<cs.length,z6g cs nm=k/\cs[k].nm=nm:=by
 rcases zzx (fun x:Cpl=>decide (x.nm=nm)) cs with⟨h1,_⟩|⟨k,hk,h1,h2,_⟩
 ·exact .inl h1
 ·exact .inr ⟨k,hk,h1,of_decide_eq_true h2⟩
theorem yhf {es:List Ent} (hb:yj2 es):∀(n k:Nat),k<=n->(hk:k<es.length)->Ch es k (chF n es es[k])
 | 0,k,hn,hk=>by
  obtain rfl:k=0:=by omega
  have h:=hb 0 hk
  rcases zh6 es es[0].bs with⟨h1,_⟩|⟨j,_,h1,_⟩
  ·exact .stop 0 hk h1
  ·omega
 | n+1,k,hn,hk=>by
  have h:=hb k hk
  rcases zh6 es es[k].bs with⟨h1,_⟩|⟨j,hj,h1,_⟩
  ·unfold chF
   rw [dif_neg (by omega)]
   exact .stop k hk h1
  ·have e:(zto es es[k].bs).toNat=j:=by omega
   unfold chF
   rw [dif_pos ⟨by omega,by omega⟩]
   simp only [e]
   exact .step k j _ hk h1 (yhf hb n j (by omega) hj)
theorem ycs (es:List Ent):∀(n:Nat) (x:Ent),(chF n es x).length<=n+1
 | 0,x=>by simp [chF]
 | n+1,x=>by
  unfold chF
  split
  ·have:=ycs es n es[(zto es x.bs).toNat]
   simp only [List.length_cons];omega
  ·simp
def yjv (r:Rgs) (x:Ent) (kn:Int):Bool:=decide (x.kn<=kn)&& !(chF r.es.length r.es x).any fun y=>yfk r.rs y.nm kn
structure OkR (r:Rgs):Prop where
 bs:∀k,(hk:k<r.es.length)->r.es[k].bs=[]\/∃j:Nat,j<k/\zto r.es r.es[k].bs=j
 nm:∀x∈r.es,x.nm≠[]
 asc:r.es.Pairwise fun a b=>a.kn<=b.kn
 top:∀x∈r.es,x.kn<=r.kn
 mi:∀x∈r.es,0<=x.mi/\x.mi<=1440
 es:r.es.length<=256
 rs:r.rs.length<=1000
 cs:r.cs.length<=64
theorem yib {es:List Ent} (h:∀x∈es,x.nm≠[]):zto es []= -1:=by
 rcases zh6 es [] with⟨h1,_⟩|⟨j,hj,_,h2,_⟩
 ·exact h1
 ·exact absurd h2 (h _ (List.getElem_mem hj))
theorem OkR.bases {r:Rgs} (h:OkR r):yj2 r.es:=by
 intro k hk
 rcases h.bs k hk with e|⟨j,hj,e⟩
 ·rw [e,yib h.nm];omega
 ·omega
theorem OkR.le {r:Rgs} (h:OkR r) {i j:Nat} (hij:i<=j) (hj:j<r.es.length):(r.es[i]'(by omega)).kn<=r.es[j].kn:=by
 by_cases e:i=j
 ·subst e;exact Int.le_refl _
 ·exact List.pairwise_iff_getElem.1 h.asc i j (by omega) hj (by omega)
def ylf:Ent:=⟨[],[],[],[],0,0,0,0⟩
def yjw:Cpl:=⟨[],[],0,false,false⟩
def zs5 (r:Rgs) (nm:List UInt8) (kn:Int):Int:=if zto r.es nm<0 then 10 else if yjv r (r.es.getD (zto r.es nm).toNat ylf) kn then 0 else 20
theorem z4s {r:Rgs} {nm:List UInt8} (h:zto r.es nm= -1) (kn:Int):zs5 r nm kn=10:=by
 unfold zs5
 rw [h,if_pos (by decide)]
theorem z4t {r:Rgs} {nm:List UInt8} {k:Nat} (hk:k<r.es.length) (h:zto r.es nm=k) (kn:Int):zs5 r nm kn=if yjv r r.es[k] kn then 0 else 20:=by
 unfold zs5
 rw [h,if_neg (by omega),Int.toNat_natCast]
 have:r.es.getD k ylf=r.es[k]:=by simp [List.getD,hk]
 rw [this]
def ylh (r:Rgs) (nm:List UInt8):Int:=zbi [if 0<=zto r.es nm then 9 else 0,if 256<=r.es.length then 5 else 0]
def zwi (r:Rgs) (fol:Bool) (nm b:List UInt8) (kn f t m:Int):Int:=
 if ylh r nm≠0 then ylh r nm
 else if fol=true/\zs5 r b kn≠0 then zs5 r b kn
 else zbi [if 99999<f\/99999<t\/1440<m then 3 else 0,if t<f then 11 else 0]
def ycl (r:Rgs) (nm:List UInt8) (kn:Int):Int:=if zto r.es nm<0 then 10 else zbi [if(r.es.getD (zto r.es nm).toNat ylf).kd=zvq then 0 else 13,zs5 r nm kn]
def z8g (r:Rgs) (nm en:List UInt8) (kn:Int):Int:=zbi [if 0<=z6g r.cs nm then 9 else 0,if 64<=r.cs.length then 5 else 0,zs5 r en kn]
def z28 (r:Rgs) (nm:List UInt8) (v:Int):Int:=if z6g r.cs nm<0 then 10 else zbi [if(r.cs.getD (z6g r.cs nm).toNat yjw).cl then 20 else 0,if 1<v then 3 else 0]
def nmN (e:Evt) (i:Nat):List UInt8:=e.ns.getD i []
def vlN (e:Evt) (i:Nat):Int:=e.vs.getD i 0
def yde (k:List UInt8):Bool:=decide (k=zqx)||decide (k=zvq)||decide (k=zdc)
def yat (r:Rgs) (e:Evt):Int:=
 if yde e.ki then zwi r (decide (e.ki=zdc)) (nmN e 0) (nmN e 2) (vlN e 0) (vlN e 1) (vlN e 2) (vlN e 3)
 else if e.ki=zd0 then ycl r (nmN e 0) (vlN e 0)
 else if e.ki=zc2 then z8g r (nmN e 0) (nmN e 1) (vlN e 0)
 else z28 r (nmN e 0) (vlN e 1)
def yhx (r:Rgs) (n:Nat) (e:Evt):Int:=zbi [if e.nu=n+1 then 0 else 11,if vlN e 0<r.kn then 19 else 0,if 99999<vlN e 0 then 3 else 0]
def yfq (r:Rgs) (n:Nat) (e:Evt):Int:=if yhx r n e≠0 then yhx r n e else yat r e
def yfy (e:Evt):Ent:=⟨nmN e 0,e.ki,nmN e 1,if e.ki=zdc then nmN e 2 else [],vlN e 0,vlN e 1,vlN e 2,vlN e 3⟩
def z54 (r:Rgs) (e:Evt):Rgs:=
 if yde e.ki then {r with kn:=vlN e 0,es:=r.es++[yfy e]}
 else if e.ki=zd0 then {r with kn:=vlN e 0,rs:=r.rs++[⟨nmN e 0,vlN e 0⟩]}
 else if e.ki=zc2 then {r with kn:=vlN e 0,cs:=r.cs++[⟨nmN e 0,nmN e 1,vlN e 0,false,false⟩]}
 else
  let c:=r.cs.getD (z6g r.cs (nmN e 0)).toNat yjw
  {r with kn:=vlN e 0,cs:=r.cs.set (z6g r.cs (nmN e 0)).toNat {c with cl:=true,up:=decide (vlN e 1=1)},rs:=if vlN e 1=1 then r.rs++[⟨c.en,vlN e 0⟩] else r.rs}
def zrz (r:Rgs) (n:Nat) (e:Evt):Int:=if yb8 e≠0 then yb8 e else yfq r n e
def rg0:Rgs:=⟨0,[],[],[]⟩
def zmt:Rgs->Nat->List Evt->Rgs×Nat×Int
 | r,_,[]=>(r,0,0)
 | r,n,e::l=>if zrz r n e≠0 then(rg0,n+1,zrz r n e) else zmt (z54 r e) (n+1) l
theorem yct {e:Evt} (h:yb8 e=0):zzz e.ki=true/\e.ns.length=ya0 e.ki/\e.vs.length=yc5 e.ki/\(∀s∈e.ns,zdy s=true)/\(∀v∈e.vs,0<=v/\v<=999999999)/\e.tx=[]/\1<=e.nu/\e.nu<=1000:=by
 unfold yb8 at h
 rw [zcu] at h
 have h1:=h (rng e.nu 1 1000) (by simp)
 have h2:=h (if !zzz e.ki then 13 else 0) (by simp)
 have h3:=h (if e.ns.length≠ya0 e.ki\/e.vs.length≠yc5 e.ki then 2 else 0) (by simp)
 have h4:=h (if zp3 e.ns then 8 else 0) (by simp)
 have h5:=h (if far e.vs then 3 else 0) (by simp)
 have h6:=h (if e.tx≠[] then 1 else 0) (by simp)
 refine⟨?_,?_,?_,?_,?_,?_,?_⟩
 ·cases hk:zzz e.ki
  ·rw [hk] at h2;simp at h2
  ·rfl
 ·exact Decidable.byContradiction fun hn=>by rw [if_pos (.inl hn)] at h3;omega
 ·exact Decidable.byContradiction fun hn=>by rw [if_pos (.inr hn)] at h3;omega
 ·intro s hs
  have:zp3 e.ns=false:=by cases hh:zp3 e.ns with|false=>rfl|true=>rw [hh] at h4;simp at h4
  unfold zp3 at this
  rw [List.any_eq_false] at this
  have:=this s hs
  simpa using this
 ·intro v hv
  have:far e.vs=false:=by cases hh:far e.vs with|false=>rfl|true=>rw [hh] at h5;simp at h5
  unfold far at this
  rw [List.any_eq_false] at this
  have:=this v hv
  simp only [yka,decide_eq_true_eq] at this
  omega
 ·exact Decidable.byContradiction fun hn=>by rw [if_pos hn] at h6;omega
 ·unfold rng at h1
  split at h1
  ·omega
  ·omega
theorem yha {r:Rgs} {n:Nat} {e:Evt} (h:yfq r n e=0):e.nu=n+1/\r.kn<=vlN e 0/\vlN e 0<=99999/\yat r e=0:=by
 unfold yfq at h
 split at h
 ·rename_i h1;exact absurd h h1
 ·rename_i h1
  have h1:=Decidable.byContradiction h1
  rw [yhx,zcu] at h1
  have a:=h1 (if e.nu=n+1 then 0 else 11) (by simp)
  have b:=h1 (if vlN e 0<r.kn then 19 else 0) (by simp)
  have c:=h1 (if 99999<vlN e 0 then 3 else 0) (by simp)
  refine⟨?_,?_,?_,h⟩
  ·exact Decidable.byContradiction fun hn=>by rw [if_neg hn] at a;omega
  ·exact Int.not_lt.1 fun hn=>by rw [if_pos hn] at b;omega
  ·exact Int.not_lt.1 fun hn=>by rw [if_pos hn] at c;omega
theorem ye8 {r:Rgs} {n:Nat} {e:Evt} (h:zrz r n e=0):yb8 e=0/\yfq r n e=0:=by
 unfold zrz at h
 split at h
 ·rename_i h1;exact absurd h h1
 ·rename_i h1;exact⟨Decidable.byContradiction h1,h⟩
theorem z29 {r:Rgs} {fol:Bool} {nm b:List UInt8} {kn f t m:Int} (h:zwi r fol nm b kn f t m=0):
  zto r.es nm= -1/\r.es.length<256/\(fol=true->zs5 r b kn=0)/\f<=99999/\t<=99999/\m<=1440/\f<=t:=by
 unfold zwi at h
 split at h
 ·rename_i h1;exact absurd h h1
 ·rename_i h1
  have h1:=Decidable.byContradiction h1
  rw [ylh,zcu] at h1
  have a:=h1 (if 0<=zto r.es nm then 9 else 0) (by simp)
  have b':=h1 (if 256<=r.es.length then 5 else 0) (by simp)
  split at h
  ·rename_i h2;exact absurd h h2.2
  ·rename_i h2
   rw [zcu] at h
   have c:=h (if 99999<f\/99999<t\/1440<m then 3 else 0) (by simp)
   have d:=h (if t<f then 11 else 0) (by simp)
   refine⟨?_,?_,?_,?_⟩
   ·rcases zh6 r.es nm with⟨e,_⟩|⟨k,_,e,_⟩
    ·exact e
    ·rw [if_pos (by omega)] at a;omega
   ·exact Nat.lt_of_not_le fun hn=>by rw [if_pos hn] at b';omega
   ·intro hf;exact Decidable.byContradiction fun hn=>h2 ⟨hf,hn⟩
   ·by_cases hc:99999<f\/99999<t\/1440<m
    ·rw [if_pos hc] at c;omega
    ·by_cases hd:t<f
     ·rw [if_pos hd] at d;omega
     ·omega
theorem z8v {es:List Ent} {x:Ent} {nm:List UInt8} {k:Nat} (h:zto es nm=k):zto (es++[x]) nm=k:=by
 rcases zh6 es nm with⟨e,_⟩|⟨j,hj,e,h2,h3⟩
 ·omega
 ·obtain rfl:j=k:=by omega
  refine zrs (p:=fun x:Ent=>decide (x.nm=nm)) (by rw [List.length_append];omega) ?_ ?_
  ·rw [List.getElem_append_left hj];exact decide_eq_true h2
  ·intro i hi
   rw [List.getElem_append_left (by omega)]
   exact decide_eq_false (h3 i hi)
theorem yiw {s:List UInt8} (h:zdy s=true):s≠[]:=by
 rintro rfl
 exact absurd (of_decide_eq_true h).1 (by decide)
theorem ykn {e:Evt} (h:∀s∈e.ns,zdy s=true) {i:Nat} (hi:i<e.ns.length):zdy (nmN e i)=true:=by
 unfold nmN
 rw [List.getD_eq_getElem?_getD,List.getElem?_eq_getElem hi]
 exact h _ (List.getElem_mem hi)
theorem yk7 {e:Evt} (h:∀v∈e.vs,0<=v/\v<=999999999) (i:Nat):0<=vlN e i/\vlN e i<=999999999:=by
 unfold vlN
 rw [List.getD_eq_getElem?_getD]
 by_cases hi:i<e.vs.length
 ·rw [List.getElem?_eq_getElem hi];exact h _ (List.getElem_mem hi)
 ·rw [List.getElem?_eq_none (by omega)];exact⟨Int.le_refl _,by decide⟩
theorem ya5 {k:List UInt8} (h:yde k=true):yc5 k=4/\2<=ya0 k/\(k=zdc->ya0 k=3):=by
 simp only [yde,Bool.or_eq_true,decide_eq_true_eq] at h
 rcases h with(rfl|rfl)|rfl<;>decide
theorem yi5 {r:Rgs} {b:List UInt8} {kn:Int} (h:zs5 r b kn=0):∃j,∃hj:j<r.es.length,zto r.es b=(j:Nat)/\yjv r r.es[j] kn=true:=by
 rcases zh6 r.es b with⟨e,_⟩|⟨j,hj,e,_⟩
 ·rw [z4s e] at h;omega
 ·rw [z4t hj e] at h
  refine⟨j,hj,e,?_⟩
  cases hc:yjv r r.es[j] kn with
  | true=>rfl
  | false=>rw [hc] at h;simp at h
theorem ykq {r:Rgs} (ho:OkR r) {n:Nat} {e:Evt} (h:zrz r n e=0) (hr:r.rs.length<1000):OkR (z54 r e):=by
 obtain⟨h1,h2⟩:=ye8 h
 obtain⟨a1,a2,a3,a4,a5,_⟩:=yct h1
 obtain⟨b1,b2,b3,b4⟩:=yha h2
 unfold yat at b4
 unfold z54
 split at b4
 ·rename_i hk
  rw [if_pos hk]
  obtain⟨f1,f2,f3⟩:=ya5 hk
  obtain⟨c1,c2,c3,c4,c5,c6,c7⟩:=z29 b4
  have hkn:(yfy e).kn=vlN e 0:=rfl
  refine⟨?_,?_,?_,?_,?_,?_,ho.rs,ho.cs⟩
  ·intro k hk'
   dsimp only at hk' ⊢
   rw [List.length_append,List.length_singleton] at hk'
   by_cases hl:k<r.es.length
   ·rw [List.getElem_append_left hl]
    rcases ho.bs k hl with e1|⟨j,hj,e1⟩
    ·exact .inl e1
    ·exact .inr ⟨j,hj,z8v e1⟩
   ·obtain rfl:k=r.es.length:=by omega
    simp only [List.getElem_concat_length]
    by_cases hf:e.ki=zdc
    ·right
     obtain⟨j,hj,e1,_⟩:=yi5 (c3 (decide_eq_true hf))
     refine⟨j,hj,?_⟩
     have:(yfy e).bs=nmN e 2:=if_pos hf
     rw [this]
     exact z8v e1
    ·exact .inl (if_neg hf)
  ·intro x hx
   rcases List.mem_append.1 hx with hx|hx
   ·exact ho.nm x hx
   ·rw [List.mem_singleton] at hx;subst hx
    exact yiw (ykn a4 (by omega))
  ·rw [List.pairwise_append]
   refine⟨ho.asc,List.pairwise_singleton _ _,fun a ha b hb=> ?_⟩
   rw [List.mem_singleton] at hb;subst hb
   have:=ho.top a ha
   omega
  ·intro x hx
   rcases List.mem_append.1 hx with hx|hx
   ·have:=ho.top x hx
    dsimp only
    omega
   ·rw [List.mem_singleton] at hx;subst hx
    exact Int.le_refl _
  ·intro x hx
   rcases List.mem_append.1 hx with hx|hx
   ·exact ho.mi x hx
   ·rw [List.mem_singleton] at hx;subst hx
    exact⟨(yk7 a5 3).1,c6⟩
  ·dsimp only
   rw [List.length_append,List.length_singleton];omega
 ·rename_i hk
  rw [if_neg hk]
  have htop:∀x∈r.es,x.kn<=vlN e 0:=fun x hx=>Int.le_trans (ho.top x hx) b2
  split at b4
  ·rename_i hk2
   rw [if_pos hk2]
   exact⟨ho.bs,ho.nm,ho.asc,htop,ho.mi,ho.es,by dsimp only;rw [List.length_append,List.length_singleton];omega,ho.cs⟩
  ·rename_i hk2
   rw [if_neg hk2]
   split at b4
   ·rename_i hk3
    rw [if_pos hk3]
    refine⟨ho.bs,ho.nm,ho.asc,htop,ho.mi,ho.es,ho.rs,?_⟩
    dsimp only
    rw [List.length_append,List.length_singleton]
    unfold z8g at b4
    rw [zcu] at b4
    have:=b4 (if 64<=r.cs.length then 5 else 0) (by simp)
    by_cases hc:64<=r.cs.length
    ·rw [if_pos hc] at this;omega
    ·omega
   ·rename_i hk3
    rw [if_neg hk3]
    refine⟨ho.bs,ho.nm,ho.asc,htop,ho.mi,ho.es,?_,?_⟩
    ·dsimp only
     split
     ·rw [List.length_append,List.length_singleton];omega
     ·exact ho.rs
    ·dsimp only
     rw [List.length_set];exact ho.cs
theorem yj6 (r:Rgs) (e:Evt):(z54 r e).rs.length<=r.rs.length+1:=by
 unfold z54
 split
 ·simp
 ·split
  ·simp
  ·split
   ·simp
   ·dsimp only
    split<;>simp
theorem ykr:OkR rg0:=⟨fun k hk=>absurd hk (Nat.not_lt_zero _),by simp [rg0],List.Pairwise.nil,by simp [rg0],by simp [rg0],by simp [rg0],by simp [rg0],by simp [rg0]⟩
theorem ybh (r:Rgs) (n:Nat) (e:Evt) (l:List Evt):zmt r n (e::l)=if zrz r n e≠0 then(rg0,n+1,zrz r n e) else zmt (z54 r e) (n+1) l:=rfl
end Go.Proofs.YtmbofbehkalgkaaGreatDoor.Co
