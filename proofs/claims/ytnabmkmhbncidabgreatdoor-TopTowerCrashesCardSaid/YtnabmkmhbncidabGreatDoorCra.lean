/-
  TopTowerCrashes: what its law leans on, part 1.
-/
import Derived.Laws.RangeAny
import Derived.Lib.SplitLaws
import Derived.Test.YtnabmkmhbncidabGreatDoorEvX
import Derived.Test.YtnabmkmhbncidabGreatDoorEvY
import Derived.Test.YtnabmkmhbncidabGreatDoorEvZ
import Derived.Test.YtnabmkmhbncidabGreatDoorRead
import Derived.Test.YtnabmkmhbncidabGreatDoorSpBase
namespace Go.Proofs.YtnabmkmhbncidabGreatDoor.Co
open Go Go.Evl
set_option maxHeartbeats 32000000
set_option maxRecDepth 100000
def rng (n a b:Int):Int:=if n<a\/b<n then 3 else 0
def zb5:List Int->Int
 | []=>0
 | x::r=>if x=0 then zb5 r else x
theorem zit:∀l:List Int,zb5 l=0↔∀x∈l,x=0
 | []=>by simp [zb5]
 | x::r=>by
  simp only [zb5,List.mem_cons,forall_eq_or_imp]
  split
  ·rename_i h;rw [zit r];exact⟨fun hr=>⟨h,hr⟩,fun hr=>hr.2⟩
  ·rename_i h;exact⟨fun hr=>absurd hr h,fun hr=>absurd hr.1 h⟩
section
variable {E : Oracle} (g : Good E)
include g
omit g in
theorem ydy (l:List Int) (k:Nat) (h:k<l.length):zb5 (l.drop k)=if l.getD k 0=0 then zb5 (l.drop (k+1)) else l.getD k 0:=by
 rw [List.drop_eq_getElem_cons h]
 simp [zb5,List.getD,h]
end
theorem zva.at {s:List UInt8} {i:Nat} {K:UInt8->Prop} (k:Nat) (hi:i=k) (h:k<s.length) (hk:K (s.getD k 0)):zva s i K:=by
 subst hi
 exact⟨⟨_,by simp [List.getD,h],hk⟩⟩
theorem zwb.asc {s:List UInt8} {k:Nat} {a:Int->Nat->Prop} {b:Prop} (h:k<s.length) (ha:(s.getD k 0).toNat<128) (hk:a (s.getD k 0).toNat 1):zwb s k a b:=by
 refine⟨fun _=> ?_,fun hn=>absurd h hn⟩
 have e:(s.getD k 0)=s[k]:=by simp [List.getD,h]
 have hd:=decode_ascii ⟨s.toArray⟩ k (by simpa [ByteArray.size] using h) (by rw [e] at ha;exact ha)
 rw [hd]
 rw [e] at hk
 exact hk
theorem zwb.high {s:List UInt8} {k:Nat} {a:Int->Nat->Prop} {b:Prop} (h:k<s.length) (ha:128<=(s.getD k 0).toNat) (hk:∀(c:Int) (w:Nat),128<=c->1<=w->a c w):zwb s k a b:=by
 refine⟨fun _=> ?_,fun hn=>absurd h hn⟩
 have e:(s.getD k 0)=s[k]:=by simp [List.getD,h]
 have hd:=decode_high ⟨s.toArray⟩ k (by simpa [ByteArray.size] using h) (by rw [e] at ha;exact ha)
 exact hk _ _ (by omega) hd.2
theorem zwb.end' {s:List UInt8} {k:Nat} {a:Int->Nat->Prop} {b:Prop} (h:s.length<=k) (hk:b):zwb s k a b:=⟨fun hn=>absurd hn (by omega),fun _=>hk⟩
def ydb (k:Nat) (b:UInt8):Prop:=(65<=b.toNat/\b.toNat<=90)\/(97<=b.toNat/\b.toNat<=122)\/(0<k/\(b.toNat=95\/(48<=b.toNat/\b.toNat<=57)))
instance (k:Nat) (b:UInt8):Decidable (ydb k b):=by unfold ydb;infer_instance
def yrz (s:List UInt8):Prop:=0<s.length/\s.length<=24/\∀i,i<s.length->ydb i (s.getD i 0)
instance (s:List UInt8):Decidable (yrz s):=by unfold yrz;infer_instance
def zcj (s:List UInt8):Bool:=decide (yrz s)
theorem z3u {s:List UInt8} {k:Nat} (hk:k<s.length) (h:¬ydb k (s.getD k 0)):zcj s=false:=decide_eq_false fun hn=>h (hn.2.2 k hk)
section
variable {E : Oracle} (g : Good E)
include g
theorem ypk (s:List UInt8):Fc E zdh [S s] (B (zcj s)):=by
 refine g.fn rfl rfl ?_
 by_cases h0:0<s.length/\s.length<=24
 ·repeat' ((conv=>whnf);first
 | refine Yz ?_)
  refine zak.to (zak.upP g (fun _=>[(15,.it ⟨0,15,0⟩)]) (fun k=>[(⟨0,15,0⟩,.iter s k)]) (fun k=>∀i,i<k->ydb i (s.getD i 0)) s.length (fun k hk hp ih=> ?_) 0 (Nat.zero_le _) (fun i hi=>by omega)) rfl rfl
  by_cases hlt:k<s.length
  ·by_cases ha:(s.getD k 0).toNat<128
   ·by_cases hok:ydb k (s.getD k 0)
    ·have hp':∀i,i<k+1->ydb i (s.getD i 0):=fun i hi=>by
      by_cases e:i=k
      ·subst e;exact hok
      ·exact hp i (by omega)
     have ih:=ih hlt hp'
     unfold ydb at hok
     repeat' ((conv=>whnf);first
     | refine Yz ?_
      | (refine zwb.asc hlt ha ?_)
      | (refine Cmp.mk (fun h=> ?_) (fun h=> ?_))|(refine Rem.any (by omega) (fun r hr he=> ?_))|(refine Br.mk (fun h=> ?_) (fun h=> ?_))
      | (refine zak.to ih rfl rfl)
      | (exfalso;omega))
    ·have hno:=z3u hlt hok
     unfold ydb at hok
     rw [hno]
     repeat' ((conv=>whnf);first
     | refine Yz ?_
      | (refine zwb.asc hlt ha ?_)
      | (refine Cmp.mk (fun h=> ?_) (fun h=> ?_))|(refine Rem.any (by omega) (fun r hr he=> ?_))|(refine Br.mk (fun h=> ?_) (fun h=> ?_))
      | (refine Ret.mk rfl)
      | (exfalso;omega))
   ·have hno:zcj s=false:=z3u hlt (by unfold ydb;omega)
    rw [hno]
    repeat' ((conv=>whnf);first
    | refine Yz ?_
     | (refine zwb.high hlt (by omega) (fun c w hc hw=> ?_))
     | (refine Cmp.mk (fun h=> ?_) (fun h=> ?_))|(refine Rem.any (by omega) (fun r hr he=> ?_))|(refine Br.mk (fun h=> ?_) (fun h=> ?_))
     | (refine Ret.mk rfl)
     | (exfalso;omega))
  ·have hk':k=s.length:=by omega
   subst hk'
   have hyes:zcj s=true:=decide_eq_true ⟨h0.1,h0.2,hp⟩
   rw [hyes]
   repeat' ((conv=>whnf);first
   | refine Yz ?_
    | (refine zwb.end' (Nat.le_refl _) ?_)
    | (refine Ret.mk rfl))
 ·have hno:zcj s=false:=decide_eq_false fun hn=>h0 ⟨hn.1,hn.2.1⟩
  rw [hno]
  repeat' ((conv=>whnf);first
  | refine Yz ?_
   | (refine Cmp.mk (fun h=> ?_) (fun h=> ?_))|(refine Rem.any (by omega) (fun r hr he=> ?_))|(refine Br.mk (fun h=> ?_) (fun h=> ?_))
   | (refine Ret.mk rfl)
   | (exfalso;omega))
theorem ypb (s:List UInt8):Fc E zq2 [S s] (B (zcj s)):=by
 refine g.fn rfl rfl ?_
 by_cases h0:0<s.length/\s.length<=24
 ·repeat' ((conv=>whnf);first
 | refine Yz ?_)
  refine zak.to (zak.upP g (fun k=>[(0,S s),(3,I k)]) (fun _=>[]) (fun k=>∀i,i<k->ydb i (s.getD i 0)) s.length (fun k hk hp ih=> ?_) 0 (Nat.zero_le _) (fun i hi=>by omega)) rfl rfl
  by_cases hlt:k<s.length
  ·by_cases hok:ydb k (s.getD k 0)
   ·have hp':∀i,i<k+1->ydb i (s.getD i 0):=fun i hi=>by
     by_cases e:i=k
     ·subst e;exact hok
     ·exact hp i (by omega)
    have ih:=ih hlt hp'
    unfold ydb at hok
    repeat' ((conv=>whnf);first
    | refine Yz ?_
     | (refine zva.at k (by omega) hlt ?_)
     | (refine Cmp.mk (fun h=> ?_) (fun h=> ?_))|(refine Rem.any (by omega) (fun r hr he=> ?_))|(refine Br.mk (fun h=> ?_) (fun h=> ?_))
     | (refine zak.to ih rfl rfl)
     | (exfalso;omega))
   ·have hno:=z3u hlt hok
    unfold ydb at hok
    rw [hno]
    repeat' ((conv=>whnf);first
    | refine Yz ?_
     | (refine zva.at k (by omega) hlt ?_)
     | (refine Cmp.mk (fun h=> ?_) (fun h=> ?_))|(refine Rem.any (by omega) (fun r hr he=> ?_))|(refine Br.mk (fun h=> ?_) (fun h=> ?_))
     | (refine Ret.mk rfl)
     | (exfalso;omega))
  ·have hk':k=s.length:=by omega
   subst hk'
   have hyes:zcj s=true:=decide_eq_true ⟨h0.1,h0.2,hp⟩
   rw [hyes]
   repeat' ((conv=>whnf);first
   | refine Yz ?_
    | (refine Ret.mk rfl))
 ·have hno:zcj s=false:=decide_eq_false fun hn=>h0 ⟨hn.1,hn.2.1⟩
  rw [hno]
  repeat' ((conv=>whnf);first
  | refine Yz ?_
   | (refine Cmp.mk (fun h=> ?_) (fun h=> ?_))|(refine Rem.any (by omega) (fun r hr he=> ?_))|(refine Br.mk (fun h=> ?_) (fun h=> ?_))
   | (refine Ret.mk rfl)
   | (exfalso;omega))
end
structure Evt where
 nu:Int
 ki:List UInt8
 ns:List (List UInt8)
 vs:List Int
 tx:List UInt8
 deriving DecidableEq
abbrev Ws (l:List (List UInt8)):V:= .d (.list l.length (l.map D.str))
def Evt.cells (e:Evt):List D:=[DI e.nu,.str e.ki,.list e.ns.length (e.ns.map D.str),.list e.vs.length (e.vs.map DI),.str e.tx]
abbrev Evv (e:Evt):V:= .d (.agg e.cells)
abbrev zv3:List UInt8:=[101,110,116,101,114]
abbrev zz6:List UInt8:=[114,117,108,101]
abbrev zby:List UInt8:=[102,111,108,108,111,119]
abbrev zdo:List UInt8:=[114,101,118,101,114,115,101]
abbrev zcn:List UInt8:=[99,111,109,112,108,97,105,110]
abbrev zez:List UInt8:=[100,101,99,105,100,101]
def zea (k:List UInt8):Nat:=if k=zv3 then 2 else if k=zz6 then 2 else if k=zby then 3 else if k=zdo then 1 else if k=zcn then 2 else if k=zez then 1 else 0
def zmo (k:List UInt8):Nat:=if k=zv3 then 4 else if k=zz6 then 4 else if k=zby then 4 else if k=zdo then 1 else if k=zcn then 1 else if k=zez then 2 else 0
def zfs (k:List UInt8):Bool:=decide (k=zv3)||decide (k=zz6)||decide (k=zby)||decide (k=zdo)||decide (k=zcn)||decide (k=zez)
theorem zks (k:List UInt8):k=zv3\/k=zz6\/k=zby\/k=zdo\/k=zcn\/k=zez\/
  (k≠zv3/\k≠zz6/\k≠zby/\k≠zdo/\k≠zcn/\k≠zez):=by
 by_cases h1:k=zv3
 ·exact .inl h1
 by_cases h2:k=zz6
 ·exact .inr (.inl h2)
 by_cases h3:k=zby
 ·exact .inr (.inr (.inl h3))
 by_cases h4:k=zdo
 ·exact .inr (.inr (.inr (.inl h4)))
 by_cases h5:k=zcn
 ·exact .inr (.inr (.inr (.inr (.inl h5))))
 by_cases h6:k=zez
 ·exact .inr (.inr (.inr (.inr (.inr (.inl h6)))))
 exact .inr (.inr (.inr (.inr (.inr (.inr ⟨h1,h2,h3,h4,h5,h6⟩)))))
def zqc (l:List (List UInt8)):Bool:=l.any fun s=> !zcj s
def yoh (n:Int):Bool:=decide (n<0\/999999999<n)
def far (l:List Int):Bool:=l.any yoh
def zml (e:Evt):Int:=
 zb5 [rng e.nu 1 1000,if !zfs e.ki then 13 else 0,if e.ns.length≠zea e.ki\/e.vs.length≠zmo e.ki then 2 else 0,if zqc e.ns then 8 else 0,if far e.vs then 3 else 0,if e.tx≠[] then 1 else 0]
def yd2 {α:Type} (p:α->Bool) (l:List α):Int:=match l.findIdx? p with
 | some i=>i
 | none=> -1
theorem zow {α:Type} {p:α->Bool} {l:List α} {k:Nat} (hk:k<l.length) (h:p l[k]=true) (hn:∀j,(hj:j<k)->p (l[j]'(by omega))=false):yd2 p l=k:=by
 have:l.findIdx? p=some k:=List.findIdx?_eq_some_iff_getElem.2 ⟨hk,h,fun j hj=>by simp [hn j hj]⟩
 simp [yd2,this]
theorem zmq {α:Type} {p:α->Bool} {l:List α} (hn:∀j,(hj:j<l.length)->p l[j]=false):yd2 p l= -1:=by
 have:l.findIdx? p=none:=List.findIdx?_eq_none_iff.2 fun x hx=>by
  obtain⟨j,hj,rfl⟩:=List.mem_iff_getElem.1 hx
  exact hn j hj
 simp [yd2,this]
theorem z81 {α:Type} (p:α->Bool) (l:List α):decide (0<=yd2 p l)=l.any p:=by
 unfold yd2
 cases h:l.findIdx? p with
 | none=>
  have h2:l.any p=false:=by
   rw [List.any_eq_false]
   intro x hx
   have:=List.findIdx?_eq_none_iff.1 h x hx
   simp [this]
  rw [h2];rfl
 | some i=>
  obtain⟨hi,hp,_⟩:=List.findIdx?_eq_some_iff_getElem.1 h
  have h2:l.any p=true:=List.any_eq_true.2 ⟨l[i],List.getElem_mem hi,hp⟩
  rw [h2];simp
theorem zgw.ws {l:List (List UInt8)} {i:Int} {K:D->Prop} (k:Nat) (hi:i=k) (h:k<l.length) (hk:K (.str l[k])):zgw (l.map D.str) (i.toNat*1) K:=by
 subst hi
 exact⟨⟨_,by simp [h],hk⟩⟩
theorem zgw.iw {l:List Int} {i:Int} {K:D->Prop} (k:Nat) (hi:i=k) (h:k<l.length) (hk:K (DI l[k])):zgw (l.map DI) (i.toNat*1) K:=by
 subst hi
 exact⟨⟨_,by simp [h],hk⟩⟩
section
variable {E : Oracle} (g : Good E)
include g
theorem zup (b:Bool) (e:Int):Fc E zao [B b,I e] (I (if b then e else 0)):=by
 refine g.fn rfl rfl ?_
 cases b
 all_goals repeat' ((conv=>whnf);first
 | refine Yz ?_
  | (refine Ret.mk rfl))
theorem z4o (n a b:Int):Fc E zix [I n,I a,I b] (I (rng n a b)):=by
 refine g.fn rfl rfl ?_
 repeat' ((conv=>whnf);first
 | refine Yz ?_
  | (refine Cmp.mk (fun h=> ?_) (fun h=> ?_))|(refine Rem.any (by omega) (fun r hr he=> ?_))|(refine Br.mk (fun h=> ?_) (fun h=> ?_))
  | (refine zai.of (zup g _ _) ?_)
  | (refine Ret.mk ?_))
 all_goals (simp only [V.d.injEq,D.int.injEq,true_and,rng];simp_all)
theorem z9s (l:List Int) (hl:l.length<=140737488355328):Fc E zbi [LI l] (I (zb5 l)):=by
 refine g.fn rfl rfl ?_
 conv=>whnf
 refine zak.upP g (fun k=>[(5,LI l),(6,I l.length),(7,I k)]) (fun _=>[]) (fun k=>zb5 l=zb5 (l.drop k)) l.length (fun k hk hp ih=> ?_) 0 (Nat.zero_le _) (by simp)
 by_cases hlt:k<l.length
 ·have hd:=ydy l k hlt
  repeat' ((conv=>whnf);first
  | refine Yz ?_
   | (refine zgw.int (by omega) ?_)
   | (refine Cmp.mk (fun h=> ?_) (fun h=> ?_))|(refine Rem.any (by omega) (fun r hr he=> ?_))|(refine Br.mk (fun h=> ?_) (fun h=> ?_))
   | (refine zak.to (ih hlt ?_) ?_ rfl)
   | (refine Ret.mk ?_))
  all_goals simp_all
 ·have:l.drop k=[]:=List.drop_eq_nil_of_le (by omega)
  repeat' ((conv=>whnf);first
  | refine Yz ?_
   | (refine Ret.mk ?_))
  simp [hp,this,zb5]
theorem z9t (s:List UInt8):Fc E zj7 [S s] (I (if !zcj s then 8 else 0)):=by
 refine g.fn rfl rfl ?_
 have h:=ypk g s
 repeat' ((conv=>whnf);first
 | refine Yz ?_
  | (apply zai.of;assumption)
  | (refine zai.of (zup g _ _) ?_)
  | (refine Ret.mk rfl))
theorem ych {f:Nat} {p:List UInt8->Bool} {l:List (List UInt8)} (hl:l.length<=1000000) (hf:∀x∈l,Fc E f [S x] (B (p x))):Fc E zdt [Ws l,.d (.fn f)] (I (yd2 p l)):=by
 refine g.fn rfl rfl ?_
 conv=>whnf
 refine zak.upP g (fun k=>[(0,Ws l),(1,.d (.fn f)),(7,I l.length),(8,I k)]) (fun _=>[]) (fun k=>∀j,(hj:j<k)->(hj':j<l.length)->p l[j]=false) l.length (fun k hk hp ih=> ?_) 0 (Nat.zero_le _) (fun j hj=>by omega)
 by_cases hlt:k<l.length
 ·have hx:=hf l[k] (List.getElem_mem hlt)
  cases hb:p l[k] with
  | true=>
   rw [hb] at hx
   have hi:=zow (p:=p) hlt hb fun j hj=>hp j hj (by omega)
   rw [hi]
   repeat' ((conv=>whnf);first
   | refine Yz ?_
    | (refine zgw.ws k rfl hlt ?_)
    | (apply zai.of;assumption)
    | (refine Ret.mk rfl))
  | false=>
   rw [hb] at hx
   have ih:=ih hlt fun j hj hj'=>by
    by_cases e:j=k
    ·subst e;exact hb
    ·exact hp j (by omega) hj'
   repeat' ((conv=>whnf);first
   | refine Yz ?_
    | (refine zgw.ws k rfl hlt ?_)
    | (apply zai.of;assumption)
    | (refine zak.to ih rfl rfl))
 ·have hi:=zmq (p:=p) (l:=l) fun j hj=>hp j (by omega) hj
  rw [hi]
  repeat' ((conv=>whnf);first
  | refine Yz ?_
   | (refine Ret.mk rfl))
theorem z4m {f:Nat} {p:List UInt8->Bool} {l:List (List UInt8)} (hl:l.length<=1000000) (hf:∀x∈l,Fc E f [S x] (B (p x))):Fc E zc9 [Ws l,.d (.fn f)] (B (l.any p)):=by
 refine g.fn rfl rfl ?_
 have h:=ych g hl hf
 rw [<-z81]
 repeat' ((conv=>whnf);first
 | refine Yz ?_
  | (apply zai.of;assumption)
  | (refine Cmp.mk (fun h=> ?_) (fun h=> ?_))|(refine Rem.any (by omega) (fun r hr he=> ?_))|(refine Br.mk (fun h=> ?_) (fun h=> ?_))
  | (refine Ret.mk ?_))
 all_goals simp_all
theorem ycg {f:Nat} {p:Int->Bool} {l:List Int} (hl:l.length<=1000000) (hf:∀x∈l,Fc E f [I x] (B (p x))):Fc E zfm [LI l,.d (.fn f)] (I (yd2 p l)):=by
 refine g.fn rfl rfl ?_
 conv=>whnf
 refine zak.upP g (fun k=>[(0,LI l),(1,.d (.fn f)),(7,I l.length),(8,I k)]) (fun _=>[]) (fun k=>∀j,(hj:j<k)->(hj':j<l.length)->p l[j]=false) l.length (fun k hk hp ih=> ?_) 0 (Nat.zero_le _) (fun j hj=>by omega)
 by_cases hlt:k<l.length
 ·have hx:=hf l[k] (List.getElem_mem hlt)
  cases hb:p l[k] with
  | true=>
   rw [hb] at hx
   have hi:=zow (p:=p) hlt hb fun j hj=>hp j hj (by omega)
   rw [hi]
   repeat' ((conv=>whnf);first
   | refine Yz ?_
    | (refine zgw.iw k rfl hlt ?_)
    | (apply zai.of;assumption)
    | (refine Ret.mk rfl))
  | false=>
   rw [hb] at hx
   have ih:=ih hlt fun j hj hj'=>by
    by_cases e:j=k
    ·subst e;exact hb
    ·exact hp j (by omega) hj'
   repeat' ((conv=>whnf);first
   | refine Yz ?_
    | (refine zgw.iw k rfl hlt ?_)
    | (apply zai.of;assumption)
    | (refine zak.to ih rfl rfl))
 ·have hi:=zmq (p:=p) (l:=l) fun j hj=>hp j (by omega) hj
  rw [hi]
  repeat' ((conv=>whnf);first
  | refine Yz ?_
   | (refine Ret.mk rfl))
theorem z4l {f:Nat} {p:Int->Bool} {l:List Int} (hl:l.length<=1000000) (hf:∀x∈l,Fc E f [I x] (B (p x))):Fc E zee [LI l,.d (.fn f)] (B (l.any p)):=by
 refine g.fn rfl rfl ?_
 have h:=ycg g hl hf
 rw [<-z81]
 repeat' ((conv=>whnf);first
 | refine Yz ?_
  | (apply zai.of;assumption)
  | (refine Cmp.mk (fun h=> ?_) (fun h=> ?_))|(refine Rem.any (by omega) (fun r hr he=> ?_))|(refine Br.mk (fun h=> ?_) (fun h=> ?_))
  | (refine Ret.mk ?_))
 all_goals simp_all
theorem yvt (s:List UInt8):Fc E zf7 [S s] (B (!zcj s)):=by
 refine g.fn rfl rfl ?_
 have h:=z9t g s
 cases hb:zcj s
 all_goals
  rw [hb] at h
  repeat' ((conv=>whnf);first
  | refine Yz ?_
   | (apply zai.of;assumption)
   | (refine Ret.mk rfl))
theorem yvu (n:Int):Fc E zf8 [I n] (B (yoh n)):=by
 refine g.fn rfl rfl ?_
 have h:=z4o g n 0 999999999
 by_cases hb:n<0\/999999999<n
 all_goals
  simp only [rng,hb,if_true,if_false] at h
  simp only [yoh,hb,decide_true,decide_false]
  repeat' ((conv=>whnf);first
  | refine Yz ?_
   | (apply zai.of;assumption)
   | (refine Ret.mk rfl))
abbrev kdM:List (D×V):=[(.str zv3,.agg [.d (DI 2),.d (DI 4),.fn zat [] [],.fn zan [] []]),
 (.str zz6,.agg [.d (DI 2),.d (DI 4),.fn zat [] [],.fn zan [] []]),
 (.str zby,.agg [.d (DI 3),.d (DI 4),.fn zat [] [],.fn zan [] []]),
 (.str zdo,.agg [.d (DI 1),.d (DI 1),.fn zba [] [],.fn zhy [] []]),
 (.str zcn,.agg [.d (DI 2),.d (DI 1),.fn zay [] [],.fn zb2 [] []]),
 (.str zez,.agg [.d (DI 1),.d (DI 2),.fn za1 [] [],.fn za2 [] []])]
omit g in
theorem yk4 {k:List UInt8} (h:k≠zv3/\k≠zz6/\k≠zby/\k≠zdo/\k≠zcn/\k≠zez):zkj (.str k) kdM=some none:=by
 have e:∀t,k≠t->(k==t)=false:=fun t h=>beq_eq_false_iff_ne.2 h
 obtain⟨h1,h2,h3,h4,h5,h6⟩:=h
 simp only [zkj,eqD,e _ h1,e _ h2,e _ h3,e _ h4,e _ h5,e _ h6]
theorem zcb.kinds {cx:Cx} {slot:Nat} {m:Mem} {K:V->Mem->Prop} (hf:Go.Evl.freeK cx.lv slot m=0) (k:K (.mp ⟨cx.lv,slot,0⟩) (m++[(⟨cx.lv,slot,0⟩,.map kdM)])):zcb E zgm [] cx slot m K:=by
 refine⟨.mp ⟨0,1,0⟩,[(⟨0,1,0⟩,.map kdM)],(.mp ⟨cx.lv,slot,0⟩,m++[(⟨cx.lv,slot,0⟩,.map kdM)]),g.lim.of_iter 1000 _ _ (by kernel_rfl),?_,k⟩
 unfold Evl.settle
 rw [hf]
 rfl
theorem zuo (e:Evt) (hn:e.ns.length<=1000000) (hv:e.vs.length<=1000000):Fc E zdf [Evv e] (I (zml e)):=by
 obtain⟨nu,ki,ns,vs,tx⟩:=e
 change Fc E zdf [.d (.agg [DI nu,.str ki,.list ns.length (ns.map D.str),.list vs.length (vs.map DI),.str tx])] _
 dsimp only at hn hv
 refine g.fn rfl rfl ?_
 have h1:=z4m g (f:=zf7) (p:=fun s=> !zcj s) hn fun x _=>yvt g x
 have h2:=z4l g (f:=zf8) (p:=yoh) hv fun x _=>yvu g x
 have h3:=z4o g nu 1 1000
 have hlast:∀a b c d e f:Int,Fc E zbi [.d (.list 6 [DI a,DI b,DI c,DI d,DI e,DI f])] (I (zb5 [a,b,c,d,e,f])):=fun a b c d e f=>z9s g [a,b,c,d,e,f] (by simp)
 rcases zks ki with rfl|rfl|rfl|rfl|rfl|rfl|hk
 all_goals
  first
  | (have hfind:=yk4 hk)
  | (have hfind:True:=trivial)
  repeat' ((conv=>whnf);first
  | refine Yz ?_
   | (refine zcb.kinds g rfl ?_)
   | (refine zrz.mk ⟨_,rfl,?_⟩)
   | (refine zrz.mk ⟨_,hfind,?_⟩)
   | (apply zai.of;assumption)
   | (refine zai.of (zup g _ _) ?_)
   | (refine zai.of (hlast _ _ _ _ _ _) ?_)
   | (refine Cmp.mk (fun h=> ?_) (fun h=> ?_))|(refine Rem.any (by omega) (fun r hr he=> ?_))|(refine Br.mk (fun h=> ?_) (fun h=> ?_))
   | (refine Ret.mk ?_))
  all_goals try norm_cast at *
  all_goals (simp_all [zml,zfs,zea,zmo,zqc,far];done)
theorem yb7 (n a b:Int):Fc E ziz [I n,I a,I b] (B (decide (n<a\/b<n))):=by
 refine g.fn rfl rfl ?_
 repeat' ((conv=>whnf);first
 | refine Yz ?_
  | (refine Cmp.mk (fun h=> ?_) (fun h=> ?_))|(refine Rem.any (by omega) (fun r hr he=> ?_))|(refine Br.mk (fun h=> ?_) (fun h=> ?_))
  | (refine Ret.mk ?_))
 all_goals simp_all
abbrev Frm (k:List UInt8):V:= .d (.agg [DI (zea k),DI (zmo k),.bool (zfs k)])
theorem yt9 (k:List UInt8):Fc E zqb [S k] (Frm k):=by
 refine g.fn rfl rfl ?_
 rcases zks k with rfl|rfl|rfl|rfl|rfl|rfl|⟨h1,h2,h3,h4,h5,h6⟩
 all_goals
  repeat' ((conv=>whnf);first
  | refine Yz ?_
   | (refine Cmp.ff (by assumption) ?_)
   | (refine Ret.mk ?_))
 all_goals first |rfl|simp [zea,zmo,zfs,h1,h2,h3,h4,h5,h6]
theorem yb6 (e:Evt) (hn:e.ns.length<=1000000) (hv:e.vs.length<=1000000):Fc E zic [Evv e] (I (zml e)):=by
 obtain⟨nu,ki,ns,vs,tx⟩:=e
 change Fc E zic [.d (.agg [DI nu,.str ki,.list ns.length (ns.map D.str),.list vs.length (vs.map DI),.str tx])] _
 dsimp only at hn hv
 refine g.fn rfl rfl ?_
 have h1:=yb7 g nu 1 1000
 have h2:Fc E zqb [S ki] (.d (.agg [DI (zea ki),DI (zmo ki),.bool (zfs ki)])):=yt9 g ki
 by_cases hnu:nu<1\/1000<nu
 ·rw [decide_eq_true hnu] at h1
  have hr:rng nu 1 1000=3:=if_pos hnu
  repeat' ((conv=>whnf);first
  | refine Yz ?_
   | (apply zai.of;assumption)
   | (refine Ret.mk ?_))
  simp [zml,zb5,hr]
 rw [decide_eq_false hnu] at h1
 have hr:rng nu 1 1000=0:=if_neg hnu
 cases hk:zfs ki with
 | false=>
  rw [hk] at h2
  repeat' ((conv=>whnf);first
  | refine Yz ?_
   | (apply zai.of;assumption)
   | (refine Ret.mk ?_))
  simp [zml,zb5,hr,hk]
 | true=>
  rw [hk] at h2
  by_cases hc:ns.length=zea ki/\vs.length=zmo ki
  ·obtain⟨hcn,hcv⟩:=hc
   repeat' ((conv=>whnf);first
   | refine Yz ?_
    | (apply zai.of;assumption))
   refine zak.to (zak.upP g (fun k=>[(1,.ptr ⟨0,1,0⟩ 0 0),(3,.ptr ⟨0,3,0⟩ 0 0),(4,I k)]) (fun _=>_) (fun k=>∀j,(hj:j<k)->(hj':j<ns.length)->zcj ns[j]=true) ns.length (fun k hkl hp ih=> ?_) 0 (Nat.zero_le _) (fun j hj=>by omega)) rfl rfl
   by_cases hlt:k<ns.length
   ·have hx:=ypb g ns[k]
    cases hb:zcj ns[k] with
    | true=>
     rw [hb] at hx
     have ih:=ih hlt fun j hj hj'=>by
      by_cases e:j=k
      ·subst e;exact hb
      ·exact hp j (by omega) hj'
     repeat' ((conv=>whnf);first
     | refine Yz ?_
      | (refine zgw.ws k rfl hlt ?_)
      | (apply zai.of;assumption)
      | (refine zak.to ih rfl rfl))
    | false=>
     rw [hb] at hx
     have hnl:zqc ns=true:=List.any_eq_true.2 ⟨ns[k],List.getElem_mem hlt,by simp [hb]⟩
     repeat' ((conv=>whnf);first
     | refine Yz ?_
      | (refine zgw.ws k rfl hlt ?_)
      | (apply zai.of;assumption)
      | (refine Ret.mk ?_))
     simp [zml,zb5,hr,hk,hcn,hcv,hnl]
   ·have hnl:zqc ns=false:=by
     refine List.any_eq_false.2 fun x hx=> ?_
     obtain⟨j,hj,rfl⟩:=List.mem_iff_getElem.1 hx
     simp [hp j (by omega) hj]
    repeat' ((conv=>whnf);first
    | refine Yz ?_)
    refine zak.to (zak.upP g (fun k=>[(1,.ptr ⟨0,1,0⟩ 0 0),(3,.ptr ⟨0,3,0⟩ 0 0),(5,I k)]) (fun _=>_) (fun k=>∀j,(hj:j<k)->(hj':j<vs.length)->yoh vs[j]=false) vs.length (fun k hk2 hp2 ih2=> ?_) 0 (Nat.zero_le _) (fun j hj=>by omega)) rfl rfl
    by_cases hlt2:k<vs.length
    ·have hx:=yb7 g vs[k] 0 999999999
     change Fc E ziz _ (B (yoh vs[k])) at hx
     cases hb:yoh vs[k] with
     | false=>
      rw [hb] at hx
      have ih2:=ih2 hlt2 fun j hj hj'=>by
       by_cases e:j=k
       ·subst e;exact hb
       ·exact hp2 j (by omega) hj'
      repeat' ((conv=>whnf);first
      | refine Yz ?_
       | (refine zgw.iw k rfl hlt2 ?_)
       | (apply zai.of;assumption)
       | (refine zak.to ih2 rfl rfl))
     | true=>
      rw [hb] at hx
      have hfr:far vs=true:=List.any_eq_true.2 ⟨vs[k],List.getElem_mem hlt2,hb⟩
      repeat' ((conv=>whnf);first
      | refine Yz ?_
       | (refine zgw.iw k rfl hlt2 ?_)
       | (apply zai.of;assumption)
       | (refine Ret.mk ?_))
      simp [zml,zb5,hr,hk,hcn,hcv,hnl,hfr]
    ·have hfr:far vs=false:=by
      refine List.any_eq_false.2 fun x hx=> ?_
      obtain⟨j,hj,rfl⟩:=List.mem_iff_getElem.1 hx
      simp [hp2 j (by omega) hj]
     by_cases htx:tx=[]
     ·subst htx
      repeat' ((conv=>whnf);first
      | refine Yz ?_
       | (refine Ret.mk ?_))
      simp [zml,zb5,hr,hk,hcn,hcv,hnl,hfr]
     ·repeat' ((conv=>whnf);first
     | refine Yz ?_
       | (refine Cmp.tt htx ?_)
       | (refine Cmp.ff htx ?_)
       | (refine Ret.mk ?_))
      simp [zml,zb5,hr,hk,hcn,hcv,hnl,hfr,htx]
  ·have hc2:ns.length≠zea ki\/vs.length≠zmo ki:=by omega
   repeat' ((conv=>whnf);first
   | refine Yz ?_
    | (apply zai.of;assumption)
    | (refine Cmp.mk (fun h=> ?_) (fun h=> ?_))|(refine Rem.any (by omega) (fun r hr he=> ?_))|(refine Br.mk (fun h=> ?_) (fun h=> ?_))
    | (refine Ret.mk ?_))
   all_goals try norm_cast at *
   all_goals (simp_all [zml,zb5];done)
end
def dig (n:Int):UInt8:=UInt8.ofNat (48+n.toNat)
def z1z:Nat->Int->List UInt8
 | 0,_=>[]
 | k+1,n=>z1z k (n/10)++[dig (n%10)]
theorem z1a:∀(k:Nat) (n:Int),(z1z k n).length=k
 | 0,_=>rfl
 | k+1,n=>by simp [z1z,z1a k]
section
variable {E : Oracle} (g : Good E)
include g
theorem z7k (n:Int) (h:0<=n/\n<=9223372036854775807):Fc E n_strconv_Itoa [I n] (S (zau 20 n.toNat)):=
 Fc.extern g.lim (x:=itoaX) rfl (v:=S (zau 20 n.toNat)) (m':=[]) (by simp only [itoaX];rw [if_pos h]) rfl
theorem ye1 (n:Int) (h:0<=n/\n<=9):Fc E zn0 [I n] (S [dig n]):=by
 refine g.fn rfl rfl ?_
 have hc:n=0\/n=1\/n=2\/n=3\/n=4\/n=5\/n=6\/n=7\/n=8\/n=9:=by omega
 rcases hc with rfl|rfl|rfl|rfl|rfl|rfl|rfl|rfl|rfl|rfl
 all_goals repeat' ((conv=>whnf);first
 | refine Yz ?_
  | (refine zc2.mk (by decide) ?_)
  | (refine Ret.mk rfl))
end
theorem z7u:∀k:Nat,z1z k 0=List.replicate k 48
 | 0=>rfl
 | k+1=>by
  have:z1z (k+1) 0=z1z k 0++[48]:=rfl
  rw [this,z7u k,<-List.replicate_succ']
theorem yc7:∀(w f u:Nat),1<=w->w<=f->u<10^w->(zau f u).length<=w/\List.replicate (w-(zau f u).length) 48++zau f u=z1z w u
 | 0,_,_,h,_,_=>absurd h (by omega)
 | _+1,0,_,_,h,_=>absurd h (by omega)
 | w+1,f+1,u,_,hf,hu=>by
  simp only [zau]
  split
  ·rename_i hlt
   refine⟨by simp,?_⟩
   have e1:(u:Int)/10=0:=by omega
   have e2:(u:Int)%10=u:=by omega
   simp only [z1z,e1,e2,z7u]
   simp [dig]
  ·rename_i hge
   have hw:1<=w:=by
    rcases Nat.eq_zero_or_pos w with h|h
    ·subst h;simp at hu;omega
    ·exact h
   rw [Nat.pow_succ] at hu
   obtain⟨h1,h2⟩:=yc7 w f (u/10) hw (by omega) (by omega)
   refine⟨by simp;omega,?_⟩
   have e1:(u:Int)/10=((u/10:Nat):Int):=by omega
   have e2:((u:Int)%10).toNat=u%10:=by omega
   simp only [z1z,e1]
   rw [<-h2]
   simp [dig,e2]
theorem z91 (b:UInt8):b.toNat<256:=b.toNat_lt
section
variable {E : Oracle} (g : Good E)
include g
omit g in
theorem z4i:∀k:Nat,Lib.repeatL [48] k=List.replicate k (48:UInt8)
 | 0=>rfl
 | k+1=>by
  rw [List.replicate_succ,<-z4i k]
  rfl
theorem yqq:∀(f:Nat) (n:Int),f<=16->0<=n/\n<(10^(f+1):Nat)->Fc E zmv [I n] (S (zau (f+1) n.toNat))
 | 0,n,_,h=>by
  refine g.fn rfl rfl ?_
  have hd:=ye1 g n (by omega)
  repeat' ((conv=>whnf);first
  | refine Yz ?_
   | (apply zai.of;assumption)
   | (refine Ret.mk ?_))
  simp only [zau]
  rw [if_pos (by omega)]
  rfl
 | f+1,n,hf,h=>by
  refine g.fn rfl rfl ?_
  rw [Nat.pow_succ] at h
  have hp:10^(f+1)<=10^17:=Nat.pow_le_pow_right (by omega) (by omega)
  by_cases hl:n<10
  ·have hd:=ye1 g n (by omega)
   repeat' ((conv=>whnf);first
   | refine Yz ?_
    | (apply zai.of;assumption)
    | (refine Ret.mk ?_))
   rw [zau,if_pos (by omega)]
   rfl
  ·have hd:=ye1 g (n%10) (by omega)
   have ih:=yqq f (n/10) (by omega) (by omega)
   have hlen:∀(k u:Nat),(zau k u).length<=k:=fun k=>by
    induction k with
    | zero=>intro u;simp [zau]
    | succ k ih=>
     intro u
     simp only [zau]
     split
     ·simp
     ·have:=ih (u/10);simp;omega
   have hl2:=hlen (f+1) (n/10).toNat
   repeat' ((conv=>whnf);first
   | refine Yz ?_
    | (apply zai.of;assumption)
    | (refine zcp.mk (by simp only [zrm,List.length_cons,List.length_nil];omega) ?_)
    | (refine Ret.mk ?_))
   have e1:(n/10).toNat=n.toNat/10:=by omega
   have e2:(n%10).toNat=n.toNat%10:=by omega
   show S (zau (f+1) (n/10).toNat++[dig (n%10)])=S (if n.toNat<10 then _ else zau (f+1) (n.toNat/10)++[UInt8.ofNat (48+n.toNat%10)])
   rw [if_neg (by omega),dig,e1,e2]
end
def zfy (n:Int):List UInt8:=zau 20 n.toNat
theorem zw0:∀(k u:Nat),(zau k u).length<=k
 | 0,_=>Nat.le_refl 0
 | k+1,u=>by
  unfold zau
  split
  ·simp
  ·have:=zw0 k (u/10)
   simp only [List.length_append,List.length_cons,List.length_nil]
   omega
theorem yf8 (n:Int):(zfy n).length<=20:=zw0 20 _
theorem z0t:∀(f k u:Nat),u<10^(f+1)->u<10^(k+1)->zau (f+1) u=zau (k+1) u
 | f,k,u,h1,h2=>by
  rw [zau,zau]
  split
  ·rfl
  ·rename_i hu
   cases f with
   | zero=>simp at h1;omega
   | succ f=>
    cases k with
    | zero=>simp at h2;omega
    | succ k=>
     rw [z0t f k (u/10) (by rw [Nat.pow_succ] at h1;omega) (by rw [Nat.pow_succ] at h2;omega)]
def yit (s:List UInt8):Option Nat:=if s.length=0\/9<s.length\/(1<s.length/\s.head? =some 48) then none else Lib.decFrom 0 s
theorem ykd (c:UInt8):∀(s:List UInt8) (a:Nat),Lib.decFrom a (s++[c])=(Lib.decFrom a s).bind fun m=>(Lib.digitVal c).map fun d=>m*10+d
 | [],a=>by
  simp only [List.nil_append,Lib.decFrom]
  cases Lib.digitVal c<;>rfl
 | x::r,a=>by
  simp only [List.cons_append,Lib.decFrom]
  cases Lib.digitVal x with
  | none=>rfl
  | some d=>exact ykd c r _
theorem yth:∀(s:List UInt8) (a n:Nat),Lib.decFrom a s=some n->a<=n
 | [],a,n,h=>by simp only [Lib.decFrom,Option.some.injEq] at h;omega
 | x::r,a,n,h=>by
  simp only [Lib.decFrom] at h
  cases hd:Lib.digitVal x with
  | none=>rw [hd] at h;cases h
  | some d=>
   rw [hd] at h
   have:=yth r _ n h
   omega
theorem yrh {c:UInt8} {d:Nat} (h:Lib.digitVal c=some d):d<=9/\c=UInt8.ofNat (48+d)/\c.toNat=48+d:=by
 unfold Lib.digitVal at h
 split at h
 ·rename_i hc
  simp only [Option.some.injEq] at h
  have e:48+d=c.toNat:=by omega
  refine⟨by omega,?_,e.symm⟩
  rw [e]
  exact(UInt8.ofNat_toNat).symm
 ·cases h
theorem z8k {d:Nat} (h:d<=9):Lib.digitVal (UInt8.ofNat (48+d))=some d:=by
 have:d=0\/d=1\/d=2\/d=3\/d=4\/d=5\/d=6\/d=7\/d=8\/d=9:=by omega
 rcases this with rfl|rfl|rfl|rfl|rfl|rfl|rfl|rfl|rfl|rfl<;>rfl
theorem ya4:∀(f:Nat) (s:List UInt8) (n:Nat),Lib.decFrom 0 s=some n->s≠[]->(s.length=1\/s.head? ≠some 48)->s.length<=f->zau f n=s
 | 0,s,n,_,h0,_,hl=>absurd (List.length_eq_zero_iff.1 (by omega)) h0
 | f+1,s,n,h,h0,hz,hl=>by
  obtain⟨x,c,rfl⟩:∃x c,s=x++[c]:=⟨s.dropLast,s.getLast h0,(List.dropLast_concat_getLast h0).symm⟩
  rw [ykd] at h
  cases hx:Lib.decFrom 0 x with
  | none=>rw [hx] at h;cases h
  | some m=>
   cases hd:Lib.digitVal c with
   | none=>rw [hx,hd] at h;cases h
   | some d=>
    rw [hx,hd] at h
    simp only [Option.bind_some,Option.map_some,Option.some.injEq] at h
    obtain⟨h9,hc,_⟩:=yrh hd
    by_cases he:x=[]
    ·subst he
     simp only [Lib.decFrom,Option.some.injEq] at hx
     unfold zau
     rw [if_pos (by omega),hc]
     simp only [List.nil_append]
     congr 2
     omega
    ·have hh:x.head? ≠some 48:=by
      rcases hz with hz|hz
      ·have:=List.length_pos_iff.2 he
       rw [List.length_append,List.length_singleton] at hz
       omega
      ·cases x with
       | nil=>exact absurd rfl he
       | cons y q=>simpa using hz
     have hm:1<=m:=by
      cases x with
      | nil=>exact absurd rfl he
      | cons y q=>
       simp only [Lib.decFrom] at hx
       cases hy:Lib.digitVal y with
       | none=>rw [hy] at hx;cases hx
       | some e=>
        rw [hy] at hx
        have h1:=yth q _ m hx
        obtain⟨_,h2,_⟩:=yrh hy
        have:e≠0:=fun e0=>hh (by subst e0;rw [h2];rfl)
        omega
     have hl':x.length<=f:=by rw [List.length_append,List.length_singleton] at hl;omega
     have ih:=ya4 f x m hx he (.inr hh) hl'
     unfold zau
     rw [if_neg (by omega),show n/10=m by omega,ih,hc]
     congr 3
     omega
theorem ya1:∀(f n:Nat),n<10^(f+1)->Lib.decFrom 0 (zau (f+1) n)=some n
 | 0,n,h=>by
  have h:n<10:=by simpa using h
  unfold zau
  rw [if_pos h]
  simp only [Lib.decFrom,z8k (show n<=9 by omega)]
  simp
 | f+1,n,h=>by
  unfold zau
  by_cases h10:n<10
  ·rw [if_pos h10]
   simp only [Lib.decFrom,z8k (show n<=9 by omega)]
   simp
  ·rw [if_neg h10,ykd,ya1 f (n/10) (by rw [Nat.pow_succ] at h;omega),z8k (by omega)]
   simp only [Option.bind_some,Option.map_some,Option.some.injEq]
   omega
theorem zuv:∀(f n:Nat),zau (f+1) n≠[]
 | f,n=>by
  unfold zau
  split<;>simp
theorem z0r:∀(f n:Nat),n<10^(f+1)->(zau (f+1) n).length=1\/(zau (f+1) n).head? ≠some 48
 | 0,n,h=>by
  have h:n<10:=by simpa using h
  unfold zau
  rw [if_pos h]
  exact .inl rfl
 | f+1,n,h=>by
  unfold zau
  by_cases h10:n<10
  ·rw [if_pos h10];exact .inl rfl
  ·rw [if_neg h10]
   refine .inr ?_
   have hne:=zuv f (n/10)
   rcases z0r f (n/10) (by rw [Nat.pow_succ] at h;omega) with ih|ih
   ·cases f with
    | zero=>
     unfold zau
     rw [Nat.pow_succ] at h
     have:n/10<10:=by omega
     rw [if_pos this]
     have h1:1<=n/10:=by omega
     generalize n/10=m at *
     have:m=1\/m=2\/m=3\/m=4\/m=5\/m=6\/m=7\/m=8\/m=9:=by omega
     rcases this with rfl|rfl|rfl|rfl|rfl|rfl|rfl|rfl|rfl<;>simp
    | succ f=>
     unfold zau at ih ⊢
     by_cases hm:n/10<10
     ·rw [if_pos hm]
      have h1:1<=n/10:=by omega
      generalize n/10=m at *
      have:m=1\/m=2\/m=3\/m=4\/m=5\/m=6\/m=7\/m=8\/m=9:=by omega
      rcases this with rfl|rfl|rfl|rfl|rfl|rfl|rfl|rfl|rfl<;>simp
     ·rw [if_neg hm] at ih
      have:=List.length_pos_iff.2 (zuv f (n/10/10))
      rw [List.length_append,List.length_singleton] at ih
      omega
   ·cases hq:zau (f+1) (n/10) with
    | nil=>exact absurd hq hne
    | cons y q=>rw [hq] at ih;simpa using ih
theorem yr3 {s:List UInt8} {n:Nat} (h:yit s=some n):n<=999999999:=by
 unfold yit at h
 split at h
 ·cases h
 ·rename_i hn
  have h1:=Lib.decFrom_lt s 0 n h
  have h2:10^s.length<=10^9:=Nat.pow_le_pow_right (by decide) (by omega)
  simp only [Nat.zero_add,Nat.one_mul] at h1
  have:(10:Nat)^9=1000000000:=by decide
  omega
theorem ylk {s:List UInt8} {n:Nat} (h:yit s=some n):zfy n=s:=by
 unfold yit at h
 split at h
 ·cases h
 ·rename_i hn
  unfold zfy
  rw [Int.toNat_natCast]
  refine ya4 20 s n h (fun e=>hn (.inl (by rw [e];rfl))) ?_ (by omega)
  by_cases h1:s.length=1
  ·exact .inl h1
  ·exact .inr fun e=>hn (.inr (.inr ⟨by omega,e⟩))
theorem z0s {f n:Nat} (h:n<10^(f+1)):(zau 20 n).length<=f+1:=by
 have key:∀(f g n:Nat),n<10^(f+1)->f<=g->(zau (g+1) n).length<=f+1:=by
  intro f
  induction f with
  | zero=>
   intro g n h _
   have h:n<10:=by simpa using h
   unfold zau
   rw [if_pos h]
   exact Nat.le_refl _
  | succ f ih=>
   intro g n h hg
   unfold zau
   split
   ·simp
   ·obtain⟨g',rfl⟩:∃g',g=g'+1:=⟨g-1,by omega⟩
    have:=ih g' (n/10) (by rw [Nat.pow_succ] at h;omega) (by omega)
    rw [List.length_append,List.length_singleton]
    omega
 by_cases hf:f<=19
 ·exact key f 19 n h hf
 ·have:=zw0 20 n
  omega
theorem z33 {n:Int} (h:0<=n/\n<=999999999):yit (zfy n)=some n.toNat:=by
 unfold zfy yit
 have hn:n.toNat<10^(8+1):=by
  have:(10:Nat)^9=1000000000:=by decide
  omega
 have h20:n.toNat<10^(19+1):=Nat.lt_of_lt_of_le hn (by decide)
 have h1:=z0s hn
 have h2:=zuv 19 n.toNat
 have h3:=z0r 19 n.toNat h20
 have h4:0<(zau 20 n.toNat).length:=List.length_pos_iff.2 h2
 rw [if_neg,ya1 19 _ h20]
 rintro(h|h|⟨h,h'⟩)
 ·omega
 ·omega
 ·rcases h3 with h3|h3
  ·have h3:(zau 20 n.toNat).length=1:=h3
   omega
  ·exact h3 h'
def yny (s:List UInt8):Int×Bool:=
 match Lib.atoiAll s with
 | .ok n=>(n,decide (0<=n)&&decide (n<=999999999)&&decide (zfy n=s))
 | .syntax=>(0,false)
 | .range=>(Lib.atoiSat s,false)
theorem yq7 {s:List UInt8} {n:Nat} (h0:s≠[]) (h:Lib.decFrom 0 s=some n):Lib.atoi s=some (n:Int):=by
 cases s with
 | nil=>exact absurd rfl h0
 | cons c r=>
  have hd:∃d,Lib.digitVal c=some d:=by
   cases hv:Lib.digitVal c with
   | none=>rw [Lib.decFrom,hv] at h;cases h
   | some d=>exact⟨d,rfl⟩
  obtain⟨d,hd⟩:=hd
  have hc:=(yrh hd).2.2
  have e1:(c==45)=false:=beq_eq_false_iff_ne.2 fun e=>by
   have:c.toNat=45:=by rw [e];rfl
   omega
  have e2:(c==43)=false:=beq_eq_false_iff_ne.2 fun e=>by
   have:c.toNat=43:=by rw [e];rfl
   omega
  simp only [Lib.atoi,e1,e2,Lib.decNat,List.isEmpty_cons,h]
  simp
theorem yol (s:List UInt8):yit s=if(yny s).2=true then some (yny s).1.toNat else none:=by
 cases hb:(yny s).2
 ·rw [if_neg (by decide)]
  cases hn:yit s with
  | none=>rfl
  | some m=>
   exfalso
   have hm:=yr3 hn
   have ht:=ylk hn
   unfold yit at hn
   split at hn
   ·cases hn
   ·rename_i hc
    have hl:s.length<=9:=by omega
    have h0:s≠[]:=fun e=>hc (.inl (by rw [e];rfl))
    have ha:Lib.atoiAll s= .ok (m:Int):=by rw [Lib.atoiAll_short s (by omega),yq7 h0 hn];rfl
    unfold yny at hb
    rw [ha] at hb
    simp only [Bool.and_eq_false_iff,decide_eq_false_iff_not] at hb
    rcases hb with(hb|hb)|hb
    ·omega
    ·omega
    ·exact hb ht
 ·rw [if_pos rfl]
  unfold yny at hb ⊢
  cases hv:Lib.atoiAll s with
  | ok n=>
   rw [hv] at hb
   simp only [Bool.and_eq_true,decide_eq_true_eq] at hb
   obtain⟨⟨h1,h2⟩,h3⟩:=hb
   have:=z33 ⟨h1,h2⟩
   rw [h3] at this
   exact this
  | «syntax»=>rw [hv] at hb;cases hb
  | range=>rw [hv] at hb;cases hb
def ysq (x:Int):List UInt8->Int
 | []=>x
 | b::r=>ysq ((281*x+b.toNat)%9999943) r
def yc3 (s:List UInt8):Int:=ysq 1 s
def yp4 (s:List UInt8):List UInt8:=z1z 7 (yc3 s)
theorem yp3 (a b:List UInt8):∀x,ysq x (a++b)=ysq (ysq x a) b:=by
 induction a with
 | nil=>intro x;rfl
 | cons c r ih=>intro x;exact ih _
theorem yp5 {s:List UInt8} {k:Nat} (h:k<s.length):yc3 (s.take (k+1))=(281*yc3 (s.take k)+(s.getD k 0).toNat)%9999943:=by
 have e:s.getD k 0=s[k]:=by simp [List.getD,h]
 rw [e,List.take_add_one,List.getElem?_eq_getElem h,Option.toList_some]
 unfold yc3
 rw [yp3];rfl
theorem yqy (s:List UInt8):0<=yc3 s/\yc3 s<9999943:=by
 have key:∀(s:List UInt8) (x:Int),0<=x/\x<9999943->0<=ysq x s/\ysq x s<9999943:=by
  intro s
  induction s with
  | nil=>intro x h;exact h
  | cons b r ih=>
   intro x h
   have:=z91 b
   exact ih _ (by omega)
 exact key s 1 (by omega)
theorem z2h (s:List UInt8):(yp4 s).length=7:=z1a 7 _
theorem ysr (s:List UInt8):(zau 20 (yc3 s).toNat).length<=7/\List.replicate (7-(zau 20 (yc3 s).toNat).length) 48++zau 20 (yc3 s).toNat=yp4 s:=by
 have h:=yqy s
 have h7:(10:Nat)^7=10000000:=by decide
 obtain⟨h1,h2⟩:=yc7 7 20 (yc3 s).toNat (by omega) (by omega) (by omega)
 rw [Int.toNat_of_nonneg h.1] at h2
 exact⟨h1,h2⟩
def z04 (s:List UInt8):Bool:=decide (s.length=7)&&s.all fun b=>decide (48<=b.toNat/\b.toNat<=57)
section
variable {E : Oracle} (g : Good E)
include g
theorem yt0 (n:Int) (h:0<=n/\n<=999999999):Fc E n_strconv_Itoa [I n] (S (zfy n)):=z7k g n (by omega)
theorem yvs (n:Int) (h:0<=n/\n<=999999999):Fc E zmv [I n] (S (zfy n)):=by
 have p1:(10^(9+1):Nat)=10000000000:=by decide
 have p2:(10^(19+1):Nat)=100000000000000000000:=by decide
 have h1:=yqq g 9 n (by decide) (by omega)
 rw [z0t 9 19 n.toNat (by omega) (by omega)] at h1
 exact h1
theorem z2b (n:Int) (h:0<=n/\n<=999999999):Fc E zf9 [I n] (S (zfy n)):=by
 refine g.fn rfl rfl ?_
 have h1:=yvs g n h
 repeat' ((conv=>whnf);first
 | refine Yz ?_
  | (apply zai.of;assumption)
  | (refine Ret.mk rfl))
theorem yuh (s:List UInt8) (hs:s.length<=1000000):Fc E zqa [S s] (S (yp4 s)):=by
 refine g.fn rfl rfl ?_
 repeat' ((conv=>whnf);first
 | refine Yz ?_)
 refine zak.to (zak.up g (fun k=>[(0,S s),(3,I (yc3 (s.take k))),(7,I s.length),(8,I k)]) (fun _=>[]) s.length (fun k hk ih=> ?_) 0 (Nat.zero_le _)) rfl rfl
 have hb:=yqy (s.take k)
 by_cases hlt:k<s.length
 ·have ih:=ih hlt
  have hu:=z91 (s.getD k 0)
  rw [yp5 hlt] at ih
  repeat' ((conv=>whnf);first
  | refine Yz ?_
   | (refine zva.at k (by omega) hlt ?_)
   | (refine zak.to ih rfl rfl))
 ·obtain rfl:k=s.length:=by omega
  rw [List.take_length] at hb ⊢
  obtain⟨h1,h2⟩:=ysr s
  have hi:=z7k g (yc3 s) (by omega)
  have hr:Fc E n_strings_Repeat [S [48],I (7-((zau 20 (yc3 s).toNat).length:Int))] (S (List.replicate (7-(zau 20 (yc3 s).toNat).length) 48)):=by
   have e:(7-((zau 20 (yc3 s).toNat).length:Int))=((7-(zau 20 (yc3 s).toNat).length:Nat):Int):=by omega
   rw [e]
   refine Fc.extern g.lim (x:=repeatX) rfl (v:=S (List.replicate (7-(zau 20 (yc3 s).toNat).length) 48)) (m':=[]) ?_ rfl
   simp only [repeatX]
   rw [if_pos ⟨by omega,by omega,by simp⟩,Int.toNat_natCast,z4i]
  repeat' ((conv=>whnf);first
  | refine Yz ?_
   | (apply zai.of;assumption)
   | (refine zcp.mk (by simp only [zrm,List.length_replicate];omega) ?_)
   | (refine Ret.mk ?_))
  rw [h2]
end
theorem zcb.of {E:Oracle} {f:Nat} {args:List V} {cx:Cx} {slot:Nat} {m:Mem} {K:V->Mem->Prop} (h:In E 0 f args [] fun v m'=>ztt (Go.Evl.settle cx slot 0 m m' v) fun p=>K p.1 p.2):zcb E f args cx slot m K:=by
 obtain⟨v,m',h1,p,h2,h3⟩:=h
 exact⟨v,m',p,h1,h2,h3⟩
structure Rqt where
 (nm ca ki te pa li:List UInt8)
 (fr to da mi se si no:Int)
 deriving DecidableEq
def Rqt.cells (q:Rqt):List D:=[.str q.nm,.str q.ca,.str q.ki,.str q.te,.str q.pa,.str q.li,DI q.fr,DI q.to,DI q.da,DI q.mi,DI q.se,DI q.si,DI q.no]
structure Lnt where
 ac:List UInt8
 rq:Rqt
def Lnt.cells (l:Lnt):List D:= .str l.ac::l.rq.cells
end Go.Proofs.YtnabmkmhbncidabGreatDoor.Co
namespace Go.Evl
open Go Go.Lib
def parts (b:UInt8):List UInt8->List (List UInt8)
 | []=>[[]]
 | x::r=>if x=b then []::parts b r else
  match parts b r with
  | []=>[[x]]
  | p::q=>(x::p)::q
theorem yhd (b:UInt8) (s:List UInt8):parts b s≠[]:=by
 cases s with
 | nil=>simp [parts]
 | cons x r=>
  unfold parts
  split
  ·simp
  ·split<;>simp
theorem z4b (b:UInt8):∀s:List UInt8,(parts b s).length<=s.length+1
 | []=>by simp [parts]
 | x::r=>by
  have ih:=z4b b r
  rw [parts]
  split
  ·simp;omega
  ·split
   ·simp
   ·rename_i h;rw [h] at ih;simp only [List.length_cons] at ih ⊢;omega
theorem z07 (b:UInt8):∀s:List UInt8,splitK [b] 0 (count s [b]) s=parts b s
 | []=>by
  have:count ([]:List UInt8) [b]=0:=count_miss (by rw [index_one];rfl)
  rw [this];rfl
 | x::r=>by
  have ih:=z07 b r
  unfold parts
  by_cases h:x=b
  ·subst h
   have hi:index (x::r) [x]=((0:Nat):Int):=by rw [index_one];simp [indexByte]
   have hc:=count_hit (by simp) hi
   simp only [List.length_cons,List.length_nil,Nat.zero_add,List.drop_succ_cons,List.drop_zero] at hc
   rw [hc,Nat.add_comm 1,if_pos rfl,<-ih]
   simp only [splitK,hi,List.length_cons,List.length_nil]
   rfl
  ·rw [count_cons_ne x b r h,if_neg h,<-ih]
   have hx:(x==b)=false:=by simpa using h
   generalize count r [b]=k
   cases k with
   | zero=>rfl
   | succ k=>
    have hr:index (x::r) [b]=if indexByte r b== -1 then -1 else indexByte r b+1:=by rw [index_one];simp [indexByte,hx]
    have hq:index r [b]=indexByte r b:=index_one r b
    simp only [splitK,hr,hq]
    have hge:=indexByte_ge r b
    by_cases hm:indexByte r b= -1
    ·simp [hm]
    ·obtain⟨i,hi⟩:∃i:Nat,indexByte r b=i:=⟨(indexByte r b).toNat,by omega⟩
     rw [hi]
     have e1:(((i:Nat):Int)== -1)=false:=by simp
     have e2:(((i:Nat):Int)+1== -1)=false:=by simp;omega
     have e3:(((i:Nat):Int)+1).toNat=i+1:=by omega
     simp only [e1,e2,e3,Bool.false_eq_true,if_false,Int.toNat_natCast,Nat.add_zero,List.take_succ_cons,List.length_cons,List.length_nil,Nat.zero_add,List.drop_succ_cons]
theorem yc0 (s:List UInt8) (b:UInt8):ycz s [b]=parts b s:=by
 unfold ycz
 rw [splitB_data]
 exact z07 b s
def zjj (b:UInt8):List (List UInt8)->List UInt8
 | []=>[]
 | [x]=>x
 | x::y::r=>x++b::zjj b (y::r)
theorem z3v (b:UInt8):∀l:List (List UInt8),Lib.join l [b]=zjj b l
 | []=>rfl
 | [x]=>Lib.join_one x [b]
 | x::y::r=>by
  have ih:=z3v b (y::r)
  simp only [Lib.join,List.intercalate] at ih ⊢
  simp only [List.intersperse_cons_cons,List.flatten_cons,ih,zjj]
  simp
theorem zoa (b:UInt8):∀w:List UInt8,b∉w->parts b w=[w]
 | [],_=>rfl
 | x::r,h=>by
  have hx:¬x=b:=fun e=>h (by simp [e])
  have hr:b∉r:=fun e=>h (by simp [e])
  unfold parts
  rw [if_neg hx,zoa b r hr]
theorem zg8 (b:UInt8) (s:List UInt8):∀w:List UInt8,b∉w->parts b (w++b::s)=w::parts b s
 | [],_=>by simp [parts]
 | x::r,h=>by
  have hx:¬x=b:=fun e=>h (by simp [e])
  have hr:b∉r:=fun e=>h (by simp [e])
  rw [List.cons_append,parts,if_neg hx,zg8 b s r hr]
theorem z02 (b:UInt8):∀l:List (List UInt8),l≠[]->(∀w∈l,b∉w)->parts b (zjj b l)=l
 | [],h,_=>absurd rfl h
 | [x],_,h=>zoa b x (h x (by simp))
 | x::y::r,_,h=>by
  rw [zjj,zg8 b _ x (h x (by simp)),z02 b (y::r) (by simp) fun w hw=>h w (by simp at hw ⊢;exact .inr hw)]
end Go.Evl
namespace Go.Proofs.YtnabmkmhbncidabGreatDoor.Co
open Go Go.Evl
set_option maxHeartbeats 32000000
set_option maxRecDepth 100000
abbrev LS (l:List (List UInt8)):V:= .d (.list l.length (l.map D.str))
theorem zu8:∀l:List (List UInt8),Evl.strsOf (l.map D.str)=some l
 | []=>rfl
 | x::r=>by simp only [List.map_cons,Evl.strsOf,zu8 r,Option.map_some]
section
variable {E : Oracle} (g : Good E)
include g
theorem ymr (s:List UInt8) (hs:s.length<=1000000):Fc E n_strings_Split [S s,S [32]] (LS (parts 32 s)):=by
 refine Fc.extern g.lim (x:=splitX) rfl (v:=LS (parts 32 s)) (m':=[]) ?_ rfl
 simp only [splitX,yc0]
 rw [if_pos ⟨hs,by simp⟩]
theorem yqw (l:List (List UInt8)) (_hn:l≠[]) (hl:l.length<=1000000) (hj:(zjj 32 l).length<=1000000):Fc E n_strings_Join [.d (.list l.length (l.map D.str)),S [32]] (S (zjj 32 l)):=by
 refine Fc.extern g.lim (x:=joinX) rfl (v:=S (zjj 32 l)) (m':=[]) ?_ rfl
 simp only [joinX,zu8,z3v]
 rw [if_pos ⟨trivial,hj,hl⟩]
end
section
variable {E : Oracle} (g : Good E)
include g
theorem ysk {f:Nat} {p:UInt8->Bool} {s:List UInt8} (h1:∀b:UInt8,b.toNat<128->Fc E f [.d (.int .i32 b.toNat)] (B (p b))) (h2:∀c:Int,128<=c->Fc E f [.d (.int .i32 c)] (B true)) (h3:∀b:UInt8,128<=b.toNat->p b=true):
  Fc E zkq [S s,.d (.fn f),B true] (I (yd2 p s)):=by
 refine g.fn rfl rfl ?_
 repeat' ((conv=>whnf);first
 | refine Yz ?_)
 refine zak.to (zak.upP g (fun _=>[(1,.d (.fn f)),(2,B true),(10,.it ⟨0,10,0⟩)]) (fun k=>[(⟨0,10,0⟩,.iter s k)]) (fun k=>∀j,(hj:j<k)->(hj':j<s.length)->p s[j]=false) s.length (fun k hk hp ih=> ?_) 0 (Nat.zero_le _) (fun j hj=>by omega)) rfl rfl
 by_cases hlt:k<s.length
 ·have eg:s.getD k 0=s[k]:=by simp [List.getD,hlt]
  by_cases ha:(s.getD k 0).toNat<128
  ·have hx:=h1 (s.getD k 0) ha
   cases hb:p s[k] with
   | true=>
    rw [eg,hb] at hx
    rw [eg] at ha
    have hi:=zow (p:=p) hlt hb fun j hj=>hp j hj (by omega)
    rw [hi]
    repeat' ((conv=>whnf);first
    | refine Yz ?_
     | (refine zwb.asc hlt (by rw [eg];exact ha) ?_;rw [eg])
     | (apply zai.of;assumption)
     | (refine Ret.mk rfl))
   | false=>
    rw [eg,hb] at hx
    rw [eg] at ha
    have ih:=ih hlt fun j hj hj'=>by
     by_cases e:j=k
     ·subst e;exact hb
     ·exact hp j (by omega) hj'
    repeat' ((conv=>whnf);first
    | refine Yz ?_
     | (refine zwb.asc hlt (by rw [eg];exact ha) ?_;rw [eg])
     | (apply zai.of;assumption)
     | (refine zak.to ih rfl rfl))
  ·have hb:p s[k]=true:=by rw [<-eg];exact h3 _ (by omega)
   have hi:=zow (p:=p) hlt hb fun j hj=>hp j hj (by omega)
   rw [hi]
   repeat' ((conv=>whnf);first
   | refine Yz ?_
    | (refine zwb.high hlt (by omega) (fun c w hc hw=> ?_);have hx:=h2 c hc)
    | (apply zai.of;assumption)
    | (refine Ret.mk rfl))
 ·obtain rfl:k=s.length:=by omega
  have hi:=zmq (p:=p) (l:=s) fun j hj=>hp j hj hj
  rw [hi]
  repeat' ((conv=>whnf);first
  | refine Yz ?_
   | (refine zwb.end' (Nat.le_refl _) ?_)
   | (refine Ret.mk rfl))
theorem yms {f:Nat} {p:UInt8->Bool} {s:List UInt8} (h1:∀b:UInt8,b.toNat<128->Fc E f [.d (.int .i32 b.toNat)] (B (p b))) (h2:∀c:Int,128<=c->Fc E f [.d (.int .i32 c)] (B true)) (h3:∀b:UInt8,128<=b.toNat->p b=true):
  Fc E zh9 [S s,.d (.fn f)] (B (s.any p)):=by
 have h:=ysk g (s:=s) h1 h2 h3
 have hi:Fc E zkp [S s,.d (.fn f)] (I (yd2 p s)):=by
  refine g.fn rfl rfl ?_
  repeat' ((conv=>whnf);first
  | refine Yz ?_
   | (apply zai.of;assumption)
   | (refine Ret.mk rfl))
 refine g.fn rfl rfl ?_
 rw [<-z81]
 repeat' ((conv=>whnf);first
 | refine Yz ?_
  | (apply zai.of;assumption)
  | (refine Cmp.mk (fun h=> ?_) (fun h=> ?_))|(refine Rem.any (by omega) (fun r hr he=> ?_))|(refine Br.mk (fun h=> ?_) (fun h=> ?_))
  | (refine Ret.mk ?_))
 all_goals simp_all
theorem yqx (c:Int):Fc E zja [.d (.int .i32 c)] (B (decide (c<48\/57<c))):=by
 refine g.fn rfl rfl ?_
 repeat' ((conv=>whnf);first
 | refine Yz ?_
  | (refine Cmp.mk (fun h=> ?_) (fun h=> ?_))|(refine Rem.any (by omega) (fun r hr he=> ?_))|(refine Br.mk (fun h=> ?_) (fun h=> ?_))
  | (refine Ret.mk ?_))
 all_goals simp_all
theorem ymt (s:List UInt8):Fc E zo6 [S s] (B (z04 s)):=by
 refine g.fn rfl rfl ?_
 have h:=yms g (f:=zja) (s:=s) (p:=fun b=> !decide (48<=b.toNat/\b.toNat<=57))
  (fun b hb=>by
   have:=yqx g b.toNat
   have e:decide ((b.toNat:Int)<48\/57<(b.toNat:Int))= !decide (48<=b.toNat/\b.toNat<=57):=by
    rw [<-decide_not]
    exact decide_eq_decide.2 (by omega)
   rw [e] at this
   exact this)
  (fun c hc=>by
   have:=yqx g c
   rw [decide_eq_true (by omega)] at this
   exact this)
  (fun b hb=>by simp;omega)
 have e:(s.any fun b=> !decide (48<=b.toNat/\b.toNat<=57))= !(s.all fun b=>decide (48<=b.toNat/\b.toNat<=57)):=by
  rw [List.not_all_eq_any_not]
 rw [e] at h
 unfold z04
 by_cases h7:s.length=7
 ·rw [decide_eq_true h7,Bool.true_and]
  cases hb:s.all fun b=>decide (48<=b.toNat/\b.toNat<=57)
  all_goals
   rw [hb] at h
   repeat' ((conv=>whnf);first
   | refine Yz ?_
    | (apply zai.of;assumption)
    | (refine Ret.mk rfl))
 ·rw [decide_eq_false h7,Bool.false_and]
  repeat' ((conv=>whnf);first
  | refine Yz ?_
   | (refine Ret.mk rfl))
end
def ya2 (s:List UInt8):Int×Bool:=
 match Lib.atoiAll s with
 | .ok n=>(n,decide (s.length<=9)&&decide (0<=n)&&decide (zfy n=s))
 | .syntax=>(0,false)
 | .range=>(Lib.atoiSat s,false)
theorem yke {s:List UInt8} {m:Nat} (h:Lib.decFrom 0 s=some m) (hs:s.length<=9):m<=999999999:=by
 have h1:=Lib.decFrom_lt _ 0 m h
 have h3:=Nat.pow_le_pow_right (n:=10) (by decide) hs
 have e:(10:Nat)^9=1000000000:=by decide
 omega
theorem yj4 {s:List UInt8} {n:Int} (h:Lib.atoiAll s= .ok n) (hs:s.length<=9):n<=999999999:=by
 rw [Lib.atoiAll_short s (by omega)] at h
 cases ha:Lib.atoi s with
 | none=>rw [ha] at h;cases h
 | some k=>
  rw [ha] at h
  have hk:k=n:=by cases h;rfl
  subst hk
  obtain⟨b0,r,rfl,hc⟩:=Lib.atoi_cases ha
  simp only [List.length_cons] at hs
  rcases hc with⟨_,m,_,hm,rfl⟩|⟨_,m,_,hm,rfl⟩|⟨_,_,m,hm,rfl⟩
  ·have:=yke hm (by omega);omega
  ·have:=yke hm (by omega);omega
  ·have:=yke hm (by simp only [List.length_cons];omega);omega
theorem yod (s:List UInt8):yit s=if(ya2 s).2=true then some (ya2 s).1.toNat else none:=by
 have h:=yol s
 rw [h]
 have e:(ya2 s).2=(yny s).2/\((yny s).2=true->(ya2 s).1=(yny s).1):=by
  unfold ya2 yny
  cases hv:Lib.atoiAll s with
  | ok n=>
   refine⟨?_,fun _=>rfl⟩
   dsimp only
   by_cases h3:zfy n=s
   ·by_cases h1:0<=n
    ·by_cases h2:s.length<=9
     ·have:=yj4 hv h2
      simp [h1,h2,this]
     ·have p9:(10:Nat)^(8+1)=1000000000:=by decide
      have h4:¬n<=999999999:=fun h4=>h2 (by
       rw [<-h3]
       exact z0s (f:=8) (by omega))
      simp [h2,h4]
    ·simp [h1]
   ·simp [h3]
  | «syntax»=>exact⟨rfl,fun h=>by cases h⟩
  | range=>exact⟨rfl,fun h=>by cases h⟩
 rw [e.1]
 cases hb:(yny s).2 with
 | false=>rfl
 | true=>rw [if_pos rfl,if_pos rfl,e.2 hb]
section
variable {E : Oracle} (g : Good E)
include g
theorem zyx (s:List UInt8) (hs:s.length<=1000000):Fc E zhx [S s] (.tup [I (ya2 s).1,B (ya2 s).2]):=by
 refine g.fn rfl rfl ?_
 unfold ya2
 cases hv:Lib.atoiAll s with
 | ok n=>
  have hx:atoiX [S s] []=some (.tup [I n,.d .nili],[]):=by simp only [atoiX,hv];rw [if_pos hs]
  dsimp only
  by_cases h2:s.length<=9
  ·by_cases h1:0<=n
   ·by_cases h4:n<=9223372036854775807
    ·have hd:Fc E n_strconv_Itoa [I n] (S (zfy n)):=z7k g n ⟨h1,h4⟩
     rw [decide_eq_true h1,decide_eq_true h2]
     by_cases h3:zfy n=s
     ·rw [decide_eq_true h3]
      repeat' ((conv=>whnf);first
      | refine Yz ?_
       | (refine zcb.ext g rfl hx rfl ?_)
       | (apply zai.of;assumption)
       | (refine Cmp.tt h3 ?_)
       | (exact Ret.mk rfl)
       | fail)
     ·rw [decide_eq_false h3]
      repeat' ((conv=>whnf);first
      | refine Yz ?_
       | (refine zcb.ext g rfl hx rfl ?_)
       | (apply zai.of;assumption)
       | (refine Cmp.ff h3 ?_)
       | (exact Ret.mk rfl)
       | fail)
    ·exact absurd (yj4 hv h2) (by omega)
   ·rw [decide_eq_false h1,decide_eq_true h2]
    repeat' ((conv=>whnf);first
    | refine Yz ?_
     | (refine zcb.ext g rfl hx rfl ?_)
     | (exact Ret.mk rfl)
     | fail)
  ·rw [decide_eq_false h2]
   repeat' ((conv=>whnf);first
   | refine Yz ?_
    | (refine zcb.ext g rfl hx rfl ?_)
    | (exact Ret.mk rfl)
    | fail)
 | «syntax»=>
  have hx:atoiX [S s] []=some (.tup [I 0,.d (.ifc true)],[]):=by simp only [atoiX,hv];rw [if_pos hs]
  dsimp only
  repeat' ((conv=>whnf);first
  | refine Yz ?_
   | (refine zcb.ext g rfl hx rfl ?_)
   | (exact Ret.mk rfl)
   | fail)
 | range=>
  have hx:atoiX [S s] []=some (.tup [I (Lib.atoiSat s),.d (.ifc true)],[]):=by simp only [atoiX,hv];rw [if_pos hs]
  dsimp only
  repeat' ((conv=>whnf);first
  | refine Yz ?_
   | (refine zcb.ext g rfl hx rfl ?_)
   | (exact Ret.mk rfl)
   | fail)
theorem ymu (l:List Int) (hl:l.length<=1000000) (hr:∀x∈l,0<=x/\x<=999999999):Fc E zfz [LI l,.d (.fn n_strconv_Itoa)] (Ws (l.map zfy)):=by
 refine g.fn rfl rfl ?_
 repeat' ((conv=>whnf);first
 | refine Yz ?_)
 refine zak.to (zak.up g (fun k=>[(1,.d (.fn n_strconv_Itoa)),(5,.ref ⟨0,5,0⟩ 0 k k),(8,LI l),(9,I l.length),(10,I k)])
  (fun k=>[(⟨0,4,0⟩,.row false zab 1 0 []),(⟨0,5,0⟩,.row false zab 1 k (((l.take k).map zfy).map D.str))]) l.length (fun k hk ih=> ?_) 0 (Nat.zero_le _)) rfl rfl
 have hml:(((l.take k).map zfy).map D.str).length=k:=by simp;omega
 by_cases hlt:k<l.length
 ·have ih:=ih hlt
  have hx:=yt0 g l[k] (hr _ (List.getElem_mem hlt))
  rw [List.take_add_one,List.getElem?_eq_getElem hlt,Option.toList_some] at ih
  simp only [List.map_append,List.map_cons,List.map_nil] at ih
  repeat' ((conv=>whnf);first
  | refine Yz ?_
   | (refine zgw.iw k rfl hlt ?_)
   | (apply zai.of;assumption)
   | (refine zcp.mk (by simp only [List.length_cons,List.length_nil];omega) ?_)
   | (refine zak.to ih rfl rfl))
 ·obtain rfl:k=l.length:=by omega
  rw [List.take_length]
  repeat' ((conv=>whnf);first
  | refine Yz ?_
   | (refine Ret.mk ?_))
  rw [if_pos ⟨rfl,rfl⟩]
  simp
end
def zrj (s:List UInt8):Bool:=(yit s).isSome
def z5j (s:List UInt8):Int:=((yit s).getD 0:Nat)
def noE:Evt:=⟨0,[],[],[],[]⟩
def ydc (k:List UInt8) (r:List (List UInt8)):Bool:=zfs k&&decide (r.length=zea k+zmo k)&& !decide ([]∈r)&&(r.drop (zea k)).all zrj
def evW (k:List UInt8) (r:List (List UInt8)):Evt:=⟨0,k,r.take (zea k),(r.drop (zea k)).map z5j,[]⟩
def zxb (s:List UInt8):Option Evt:=match parts 32 s with
 | []=>none
 | k::r=>if ydc k r=true then some (evW k r) else none
abbrev ywb (o:Option Evt):V:= .tup [Evv (o.getD noE),B o.isSome]
theorem yrr {s:List UInt8} {n:Nat} (h:yit s=some n):zrj s=true/\z5j s=n:=by
 unfold zrj z5j
 rw [h]
 exact⟨rfl,rfl⟩
theorem zmr (s:List UInt8):(ya2 s).2=zrj s/\(zrj s=true->(ya2 s).1=z5j s):=by
 have h:=yod s
 unfold zrj z5j
 cases hb:(ya2 s).2 with
 | false=>rw [hb,if_neg (by decide)] at h;rw [h];exact⟨rfl,fun h=>by cases h⟩
 | true=>
  rw [hb,if_pos rfl] at h
  rw [h]
  refine⟨rfl,fun _=> ?_⟩
  have:0<=(ya2 s).1:=by
   unfold ya2 at hb ⊢
   cases hv:Lib.atoiAll s with
   | ok n=>
    rw [hv] at hb
    simp only [Bool.and_eq_true,decide_eq_true_eq] at hb
    exact hb.1.2
   | «syntax»=>rw [hv] at hb;cases hb
   | range=>rw [hv] at hb;cases hb
  simp only [Option.getD_some]
  omega
theorem z3m (k:List UInt8):zea k<=3/\zmo k<=4:=by
 rcases zks k with rfl|rfl|rfl|rfl|rfl|rfl|⟨h1,h2,h3,h4,h5,h6⟩
 all_goals (try (exact⟨by decide,by decide⟩))
 unfold zea zmo
 rw [if_neg h1,if_neg h2,if_neg h3,if_neg h4,if_neg h5,if_neg h6,if_neg h1,if_neg h2,if_neg h3,if_neg h4,if_neg h5,if_neg h6]
 omega
theorem z9j (b:UInt8):∀(s p:List UInt8),p∈parts b s->p.length<=s.length
 | [],p,h=>by
  simp only [parts,List.mem_singleton] at h
  subst h;exact Nat.le_refl 0
 | x::r,p,h=>by
  have ih:=z9j b r
  unfold parts at h
  split at h
  ·rcases List.mem_cons.1 h with rfl|h
   ·simp
   ·have:=ih p h
    simp only [List.length_cons];omega
  ·cases hp:parts b r with
   | nil=>rw [hp] at h;simp only [List.mem_singleton] at h;subst h;simp
   | cons q t=>
    rw [hp] at h ih
    rcases List.mem_cons.1 h with rfl|h
    ·have:=ih q (by simp)
     simp only [List.length_cons];omega
    ·have:=ih p (List.mem_cons_of_mem _ h)
     simp only [List.length_cons];omega
theorem yt4 {k:List UInt8} {r:List (List UInt8)} (h:[]∈r):ydc k r=false:=by
 unfold ydc
 rw [decide_eq_true h,Bool.not_true,Bool.and_false,Bool.false_and]
theorem yt3 {k:List UInt8} {r:List (List UInt8)} (j:Nat) (hj:j<r.length) (hk:zea k<=j) (h:zrj r[j]=false):ydc k r=false:=by
 unfold ydc
 have:((r.drop (zea k)).all zrj)=false:=by
  rw [List.all_eq_false]
  exact⟨r[j],List.mem_drop_iff_getElem.2 ⟨j-zea k,by omega,by congr 1;omega⟩,by rw [h];decide⟩
 rw [this,Bool.and_false]
def ynx:List (List UInt8)->List UInt8->Nat->Int
 | [],_,_=> -1
 | x::r,s,k=>if s=x then k else ynx r s (k+1)
theorem ygo (s:List UInt8):∀(l:List (List UInt8)) (k:Nat),0<=ynx l s k↔s∈l
 | [],k=>by simp [ynx]
 | x::r,k=>by
  unfold ynx
  split
  ·rename_i h
   simp [h]
  ·rename_i h
   rw [ygo s r]
   simp [h]
theorem ykw (l:List (List UInt8)) (s:List UInt8) (k:Nat) (h:k<l.length):ynx (l.drop k) s k=if s=l[k] then(k:Int) else ynx (l.drop (k+1)) s (k+1):=by
 rw [List.drop_eq_getElem_cons h]
 rfl
section
variable {E : Oracle} (g : Good E)
include g
theorem ypj (l:List (List UInt8)) (s:List UInt8) (hl:l.length<=140737488355328):Fc E zel [.d (.list l.length (l.map D.str)),S s] (I (ynx l s 0)):=by
 refine g.fn rfl rfl ?_
 conv=>whnf
 refine zak.upP g (fun k=>[(0,.d (.list l.length (l.map D.str))),(1,S s),(7,I l.length),(8,I k)]) (fun _=>[]) (fun k=>ynx l s 0=ynx (l.drop k) s k) l.length (fun k hk hp ih=> ?_) 0 (Nat.zero_le _) (by simp)
 by_cases hlt:k<l.length
 ·have hd:=ykw l s k hlt
  have hg:(l.map D.str)[((k:Int)).toNat*1]? =some (.str l[k]):=by simp [hlt]
  by_cases he:s=l[k]
  ·rw [hp,hd,if_pos he]
   repeat' ((conv=>whnf);first
   | refine Yz ?_
    | (refine zgw.now hg ?_)
    | (refine Cmp.tt he ?_)
    | (refine Ret.mk rfl))
  ·have ih:=ih hlt (by rw [hp,hd,if_neg he])
   repeat' ((conv=>whnf);first
   | refine Yz ?_
    | (refine zgw.now hg ?_)
    | (refine Cmp.ff he ?_)
    | (refine zak.to ih rfl rfl))
 ·have:l.drop k=[]:=List.drop_eq_nil_of_le (by omega)
  rw [hp,this]
  repeat' ((conv=>whnf);first
  | refine Yz ?_
   | (refine Ret.mk rfl))
theorem z4n (l:List (List UInt8)) (s:List UInt8) (hl:l.length<=140737488355328):Fc E zcm [.d (.list l.length (l.map D.str)),S s] (B (decide (s∈l))):=by
 refine g.fn rfl rfl ?_
 have h:=ypj g l s hl
 have hm:=ygo s l 0
 generalize ynx l s 0=r at *
 by_cases hr:0<=r
 ·rw [decide_eq_true (hm.1 hr)]
  repeat' ((conv=>whnf);first
  | refine Yz ?_
   | (apply zai.of;assumption)
   | (refine Ret.mk rfl))
 ·rw [decide_eq_false fun h=>hr (hm.2 h)]
  repeat' ((conv=>whnf);first
  | refine Yz ?_
   | (apply zai.of;assumption)
   | (refine Ret.mk rfl))
end
theorem yk5 {k:List UInt8} (h:zfs k=true):∃a b:Nat,zkj (.str k) kdM=some (some (.agg [.d (DI (zea k)),.d (DI (zmo k)),.fn a [] [],.fn b [] []])):=by
 rcases zks k with rfl|rfl|rfl|rfl|rfl|rfl|⟨h1,h2,h3,h4,h5,h6⟩
 ·exact⟨_,_,rfl⟩
 ·exact⟨_,_,rfl⟩
 ·exact⟨_,_,rfl⟩
 ·exact⟨_,_,rfl⟩
 ·exact⟨_,_,rfl⟩
 ·exact⟨_,_,rfl⟩
 ·exfalso
  unfold zfs at h
  simp only [Bool.or_eq_true,decide_eq_true_eq] at h
  rcases h with((((h|h)|h)|h)|h)|h
  ·exact h1 h
  ·exact h2 h
  ·exact h3 h
  ·exact h4 h
  ·exact h5 h
  ·exact h6 h
theorem ytq {k:List UInt8} (h:zfs k=false):zkj (.str k) kdM=some none:=by
 unfold zfs at h
 simp only [Bool.or_eq_false_iff,decide_eq_false_iff_not] at h
 exact yk4 ⟨h.1.1.1.1.1,h.1.1.1.1.2,h.1.1.1.2,h.1.1.2,h.1.2,h.2⟩
theorem yv2 (w:List UInt8) (r:List (List UInt8)):win ((w::r).map D.str) (1*1) (((w::r).length-1)*1)=r.map D.str:=by
 unfold win
 rw [List.map_cons,Nat.mul_one,List.drop_one,List.tail_cons,List.take_of_length_le (by simp)]
section
variable {E : Oracle} (g : Good E)
include g
theorem zw6 {lv t:Nat} {m:Mem} (w:List UInt8) (r:List (List UInt8)) (hr:r.length<=1000000) (h:Evl.look m ⟨0,16,0⟩=some (.cells t [LS (w::r)])) {K:V->Mem->Prop} (hK:K (S w) (Evl.upd m ⟨0,16,0⟩ (.cells t [LS r]))):In E lv zdx [.ptr ⟨0,16,0⟩ 0 0] m K:=by
 refine In.enter (f:=zdx) g.lim rfl rfl ?_
 have hkl:(w::r).length=r.length+1:=rfl
 repeat' ((conv=>whnf);first
 | refine Yz ?_
  | (rw [zdl,h])
  | (rw [zen])
  | (refine zgw.ws 0 rfl (by omega) ?_)
  | (refine zcp.mk (by simp only [List.length_cons];omega) ?_)
  | (refine zc2.at 1 (w::r).length rfl rfl (by simp) ?_<;>(try dsimp only)<;>(rw [yv2]))
  | (exact hK))
theorem ye2 (s:List UInt8) (hs:s.length<=1000000):Fc E zgn [S s] (ywb (zxb s)):=by
 refine g.fn rfl rfl ?_
 have hsp:=ymr g s hs
 have hl:=z4b 32 s
 unfold zxb
 obtain⟨k,r,hp⟩:∃k r,parts 32 s=k::r:=by
  cases h:parts 32 s with
  | nil=>exact absurd h (yhd 32 s)
  | cons k r=>exact⟨k,r,rfl⟩
 have hpl:∀w∈r,w.length<=1000000:=fun w hw=>by
  have:=z9j 32 s w (by rw [hp];exact List.mem_cons_of_mem _ hw)
  omega
 rw [hp] at hsp hl ⊢
 simp only [List.length_cons] at hl
 dsimp only
 have hkl:(k::r).length=r.length+1:=rfl
 have hct:=z4n g (k::r) [] (by omega)
 have ⟨hf1,hf2⟩:=z3m k
 cases hk:zfs k with
 | false=>
  have hok:ydc k r=false:=by
   unfold ydc
   rw [hk];rfl
  rw [hok]
  have hfind:=ytq hk
  repeat' ((conv=>whnf);first
  | refine Yz ?_
   | (apply zai.of;assumption)
   | (refine zw6 g k r (by omega) rfl ?_)
   | (refine zcb.kinds g rfl ?_)
   | (refine zrz.mk ⟨_,hfind,?_⟩)
   | (refine Ret.mk ?_)
   | fail)
  rfl
 | true=>
  obtain⟨fa,fb,hfind⟩:=yk5 hk
  by_cases hn:r.length=zea k+zmo k
  ·by_cases he:[]∈k::r
   ·have her:[]∈r:=by
     rcases List.mem_cons.1 he with e|h
     ·rw [<-e] at hk;cases hk
     ·exact h
    rw [decide_eq_true he] at hct
    rw [yt4 her]
    repeat' ((conv=>whnf);first
    | refine Yz ?_
     | (apply zai.of;assumption)
     | (refine zw6 g k r (by omega) rfl ?_)
     | (refine zcb.kinds g rfl ?_)
     | (refine zrz.mk ⟨_,hfind,?_⟩)
     | (refine Ret.mk rfl)
     | fail)
   ·rw [decide_eq_false he] at hct
    have hner:∀j,(hj:j<r.length)->r[j]≠[]:=fun j hj e=>he (List.mem_cons_of_mem _ (by rw [<-e];exact List.getElem_mem hj))
    repeat' ((conv=>whnf);first
    | refine Yz ?_
     | (apply zai.of;assumption)
     | (refine zw6 g k r (by omega) rfl ?_)
     | (refine zcb.kinds g rfl ?_)
     | (refine zrz.mk ⟨_,hfind,?_⟩)
     | fail)
    refine zak.to (zak.by (σ:=Nat×List (List UInt8)×List (List UInt8)) g (fun x=>x.1<=zea k/\x.2.1=r.take x.1/\x.2.2=r.drop x.1)
     (fun x=>[(2,.ptr ⟨0,2,2⟩ 0 0),(6,.fn zdx [.ptr ⟨0,16,0⟩ 0 0] []),(7,.ptr ⟨0,7,2⟩ 0 0),(8,.ptr ⟨0,8,0⟩ 0 0),(48,I (zea k)),(49,I x.1)])
     (fun x=>[(⟨0,2,0⟩,.row false zab 1 0 []),(⟨0,2,1⟩,.row false zci 1 0 []),(⟨0,2,2⟩,.cells zad [I 0,S [],.ref ⟨0,2,0⟩ 0 0 0,.ref ⟨0,2,1⟩ 0 0 0,S []]),(⟨0,16,0⟩,.cells zni [LS x.2.2]),
      (⟨0,21,0⟩,.row false zab 1 x.2.1.length (x.2.1.map D.str)),(⟨0,21,1⟩,.row false zci 1 0 []),(⟨0,7,0⟩,.row false zab 1 0 []),(⟨0,7,1⟩,.row false zci 1 0 []),
      (⟨0,7,2⟩,.cells zad [I 0,S k,.ref ⟨0,21,0⟩ 0 x.2.1.length x.2.1.length,.ref ⟨0,21,1⟩ 0 0 0,S []]),(⟨0,23,0⟩,.map kdM),(⟨0,8,0⟩,.cells zj9 [I (zea k),I (zmo k),.fn fa [] [],.fn fb [] []])])
     (fun x=>zea k-x.1) ?_ (0,[],r) ⟨Nat.zero_le _,rfl,rfl⟩) rfl rfl
    rintro⟨j,ns,rest⟩ ⟨h1,h2,h3⟩ ih
    simp only at h1 h2 h3 ih
    dsimp only
    have hnl:ns.length=j:=by rw [h2,List.length_take];omega
    have hm1:(ns.map D.str).length=ns.length:=List.length_map _
    by_cases hlt:j<zea k
    ·have hjr:j<r.length:=by omega
     rw [List.drop_eq_getElem_cons hjr] at h3
     have ih:=ih (j+1,ns++[r[j]],r.drop (j+1)) ⟨by dsimp only;omega,by
      dsimp only
      rw [h2,List.take_add_one,List.getElem?_eq_getElem hjr];rfl,rfl⟩ (by dsimp only;omega)
     simp only [List.length_append,List.length_cons,List.length_nil,List.map_append,List.map_cons,List.map_nil] at ih
     have hdl:(r.drop (j+1)).length<=1000000:=by rw [List.length_drop];omega
     generalize r.drop (j+1)=tl at *
     generalize r[j]=w at *
     subst h3
     repeat' ((conv=>whnf);first
     | refine Yz ?_
      | (refine zw6 g w tl hdl rfl ?_)
      | (refine Chk.mk (by simp [z86,yoo,z4q,ymv,zll,Evl.look]) ?_)
      | (refine zcp.mk (by simp only [List.length_cons,List.length_nil];omega) ?_)
      | (refine zak.to ih rfl rfl))
    ·obtain rfl:j=zea k:=by omega
     repeat' ((conv=>whnf);first
     | refine Yz ?_
      | fail)
     have hdl:(r.drop (zea k)).length=zmo k:=by rw [List.length_drop];omega
     refine zak.to (zak.by (σ:=Nat×List Int×List (List UInt8)) g (fun x=>x.1<=zmo k/\x.2.1=((r.drop (zea k)).take x.1).map z5j/\x.2.2=(r.drop (zea k)).drop x.1/\∀j,(hj:j<(r.drop (zea k)).length)->j<x.1->zrj (r.drop (zea k))[j]=true)
      (fun x=>[(2,.ptr ⟨0,2,2⟩ 0 0),(6,.fn zdx [.ptr ⟨0,16,0⟩ 0 0] []),(7,.ptr ⟨0,7,2⟩ 0 0),(60,I (zmo k)),(61,I x.1)])
      (fun x=>[(⟨0,2,0⟩,.row false zab 1 0 []),(⟨0,2,1⟩,.row false zci 1 0 []),(⟨0,2,2⟩,.cells zad [I 0,S [],.ref ⟨0,2,0⟩ 0 0 0,.ref ⟨0,2,1⟩ 0 0 0,S []]),(⟨0,16,0⟩,.cells zni [LS x.2.2]),
       (⟨0,21,0⟩,.row false zab 1 ns.length (ns.map D.str)),(⟨0,21,1⟩,.row false zci 1 x.2.1.length (x.2.1.map DI)),(⟨0,7,0⟩,.row false zab 1 0 []),(⟨0,7,1⟩,.row false zci 1 0 []),
       (⟨0,7,2⟩,.cells zad [I 0,S k,.ref ⟨0,21,0⟩ 0 ns.length ns.length,.ref ⟨0,21,1⟩ 0 x.2.1.length x.2.1.length,S []]),(⟨0,23,0⟩,.map kdM),(⟨0,8,0⟩,.cells zj9 [I (zea k),I (zmo k),.fn fa [] [],.fn fb [] []])])
      (fun x=>zmo k-x.1) ?_ (0,[],rest) ⟨Nat.zero_le _,rfl,h3,fun j _ h=>absurd h (Nat.not_lt_zero _)⟩) rfl rfl
     clear ih h3
     rintro⟨j,vs,rest⟩ ⟨h1,h3,h4,h5⟩ ih
     simp only at h1 h3 h4 h5 ih
     dsimp only
     have hvl:vs.length=j:=by rw [h3,List.length_map,List.length_take];omega
     have hm2:(vs.map DI).length=vs.length:=List.length_map _
     by_cases hlt:j<zmo k
     ·have hjr:j<(r.drop (zea k)).length:=by omega
      have hwl:((r.drop (zea k))[j]).length<=1000000:=hpl _ (List.mem_of_mem_drop (List.getElem_mem hjr))
      have hdec:=zyx g (r.drop (zea k))[j] hwl
      obtain⟨hd1,hd2⟩:=zmr (r.drop (zea k))[j]
      rw [hd1] at hdec
      have hdl':((r.drop (zea k)).drop (j+1)).length<=1000000:=by rw [List.length_drop];omega
      rw [List.drop_eq_getElem_cons hjr] at h4
      cases hi:zrj (r.drop (zea k))[j] with
      | false=>
       have hok:ydc k r=false:=by
        refine yt3 (zea k+j) (by omega) (by omega) ?_
        rw [<-hi]
        congr 1
        exact(List.getElem_drop ..).symm
       rw [hok]
       rw [hi] at hdec
       generalize (r.drop (zea k)).drop (j+1)=tl at *
       generalize (r.drop (zea k))[j]=w at *
       subst h4
       repeat' ((conv=>whnf);first
       | refine Yz ?_
        | (refine zw6 g w tl hdl' rfl ?_)
        | (apply zai.of;assumption)
        | (refine Ret.mk rfl)
        | fail)
      | true=>
       have ih:=ih (j+1,vs++[z5j (r.drop (zea k))[j]],(r.drop (zea k)).drop (j+1)) ⟨by dsimp only;omega,by
        dsimp only
        rw [h3,List.take_add_one,List.getElem?_eq_getElem hjr]
        simp,rfl,fun i hi' hj=>by
        by_cases e:i=j
        ·subst e;exact hi
        ·exact h5 i hi' (by dsimp only at hj;omega)⟩ (by dsimp only;omega)
       simp only [List.length_append,List.length_cons,List.length_nil,List.map_append,List.map_cons,List.map_nil] at ih
       rw [hi,hd2 hi] at hdec
       generalize (r.drop (zea k)).drop (j+1)=tl at *
       generalize (r.drop (zea k))[j]=w at *
       subst h4
       repeat' ((conv=>whnf);first
       | refine Yz ?_
        | (refine zw6 g w tl hdl' rfl ?_)
        | (apply zai.of;assumption)
        | (refine zcp.mk (by simp only [List.length_cons,List.length_nil];omega) ?_)
        | (refine zak.to ih rfl rfl)
        | fail)
     ·obtain rfl:j=zmo k:=by omega
      have hok:ydc k r=true:=by
       unfold ydc
       have e2:((r.drop (zea k)).all zrj)=true:=by
        rw [List.all_eq_true]
        intro x hx
        obtain⟨i,hi,rfl⟩:=List.mem_iff_getElem.1 hx
        exact h5 i hi (by omega)
       have e1:¬ []∈r:=fun h=>he (List.mem_cons_of_mem _ h)
       rw [hk,decide_eq_true hn,decide_eq_false e1,e2];rfl
      have ev:vs=(r.drop (zea k)).map z5j:=by rw [h3,List.take_of_length_le (by omega)]
      rw [if_pos hok]
      repeat' ((conv=>whnf);first
      | refine Yz ?_
       | (refine zcp.mk ⟨rfl,Nat.le_refl _⟩ ?_)
       | (refine Ret.mk ?_))
      rw [if_pos ⟨rfl,rfl⟩,if_pos ⟨rfl,rfl⟩,h2,ev]
      rfl
  ·have hok:ydc k r=false:=by
    unfold ydc
    rw [decide_eq_false hn,Bool.and_false,Bool.false_and,Bool.false_and]
   rw [hok]
   repeat' ((conv=>whnf);first
   | refine Yz ?_
    | (apply zai.of;assumption)
    | (refine zw6 g k r (by omega) rfl ?_)
    | (refine zcb.kinds g rfl ?_)
    | (refine zrz.mk ⟨_,hfind,?_⟩)
    | (refine Cmp.mk (fun h=> ?_) (fun h=> ?_))|(refine Rem.any (by omega) (fun r hr he=> ?_))|(refine Br.mk (fun h=> ?_) (fun h=> ?_))
    | (refine Ret.mk rfl)
    | (exfalso;omega)
    | fail)
end
def pcs:List UInt8->List (List UInt8)
 | []=>[]
 | c::r=>if c=10 then [10]::pcs r else
  match pcs r with
  | []=>[[c]]
  | p::q=>(c::p)::q
theorem yew:pcs []=[]:=rfl
theorem yl3:∀(a r:List UInt8),(10:UInt8)∉a->pcs (a++10::r)=(a++[10])::pcs r
 | [],r,_=>by simp [pcs]
 | c::a,r,h=>by
  have hc:¬c=10:=fun e=>h (by simp [e])
  have h':(10:UInt8)∉a:=fun hm=>h (by simp [hm])
  simp only [List.cons_append,pcs,if_neg hc,yl3 a r h']
theorem yev:∀(a:List UInt8),a≠[]->(10:UInt8)∉a->pcs a=[a]
 | [],h,_=>absurd rfl h
 | [c],_,h=>by
  have hc:¬c=10:=fun e=>h (by simp [e])
  simp only [pcs,if_neg hc]
 | c::d::a,_,h=>by
  have hc:¬c=10:=fun e=>h (by simp [e])
  have h':(10:UInt8)∉d::a:=fun hm=>h (List.mem_cons_of_mem _ hm)
  have:=yev (d::a) (by simp) h'
  rw [pcs,if_neg hc,this]
theorem ygv:∀s:List UInt8,(10:UInt8)∈s->∃a r,s=a++10::r/\(10:UInt8)∉a
 | [],h=>absurd h List.not_mem_nil
 | c::s,h=>by
  by_cases e:c=10
  ·exact⟨[],s,by rw [e];rfl,List.not_mem_nil⟩
  ·obtain⟨a,r,h1,h2⟩:=ygv s ((List.mem_cons.1 h).resolve_left fun x=>e x.symm)
   exact⟨c::a,r,by rw [h1];rfl,fun hm=>(List.mem_cons.1 hm).elim (fun x=>e x.symm) h2⟩
theorem yl2 (s:List UInt8) (h:s≠[]):((10:UInt8)∉s/\pcs s=[s])\/∃a r,(10:UInt8)∉a/\s=a++10::r/\pcs s=(a++[10])::pcs r:=by
 by_cases hm:(10:UInt8)∈s
 ·obtain⟨a,r,e,ha⟩:=ygv s hm
  exact .inr ⟨a,r,ha,e,by rw [e];exact yl3 a r ha⟩
 ·exact .inl ⟨hm,yev s h hm⟩
def zm1 (p:List UInt8):Bool:=decide (p.getLast? =some 10)
def ydq (p:List UInt8):List UInt8:=if zm1 p then p.dropLast else p
theorem z2j (a:List UInt8):zm1 (a++[10])=true/\ydq (a++[10])=a:=by
 have h:zm1 (a++[10])=true:=by simp [zm1]
 refine⟨h,?_⟩
 unfold ydq
 rw [if_pos h]
 simp
theorem yp7 {p:List UInt8} (h:zm1 p=true):p=ydq p++[10]:=by
 unfold ydq
 rw [if_pos h]
 unfold zm1 at h
 have h:=of_decide_eq_true h
 obtain⟨ys,e⟩:=List.getLast?_eq_some_iff.1 h
 rw [e];simp
theorem yng (s:List UInt8):Lib.hasSuffix s [10]=zm1 s:=by
 unfold Lib.hasSuffix zm1
 rw [Bool.eq_iff_iff,List.isSuffixOf_iff_suffix,decide_eq_true_eq,List.getLast?_eq_some_iff]
 exact⟨fun⟨t,e⟩=>⟨t,e.symm⟩,fun⟨t,e⟩=>⟨t,e.symm⟩⟩
theorem yoe {p:List UInt8} (h:zm1 p=true):1<=p.length/\ydq p=p.take (p.length-1):=by
 have e:=yp7 h
 constructor
 ·rw [e];simp
 ·unfold ydq
  rw [if_pos h,List.dropLast_eq_take]
theorem z0y:∀(a r:List UInt8),(10:UInt8)∉a->Lib.indexByte (a++10::r) 10=a.length
 | [],_,_=>rfl
 | c::a,r,h=>by
  have hc:(c==10)=false:=beq_eq_false_iff_ne.2 fun e=>h (by simp [e])
  have ih:=z0y a r fun hm=>h (by simp [hm])
  simp only [List.cons_append,Lib.indexByte,hc,ih,List.length_cons]
  rw [if_neg (by decide),if_neg (by simp)]
  omega
theorem z0z:∀(a:List UInt8),(10:UInt8)∉a->Lib.indexByte a 10= -1
 | [],_=>rfl
 | c::a,h=>by
  have hc:(c==10)=false:=beq_eq_false_iff_ne.2 fun e=>h (by simp [e])
  have ih:=z0z a fun hm=>h (by simp [hm])
  simp only [Lib.indexByte,hc,ih]
  rfl
theorem z95 (a r:List UInt8):win (a++10::r) 0 (a.length+1-0)=a++[10]:=by
 unfold win
 rw [List.drop_zero,Nat.sub_zero,show a++10::r=(a++[10])++r by simp,List.take_append_of_le_length (by simp),List.take_of_length_le (by simp)]
theorem z96 (a r:List UInt8):win (a++10::r) (a.length+1) ((a++10::r).length-(a.length+1))=r:=by
 unfold win
 rw [show a++10::r=(a++[10])++r by simp,List.drop_left' (by simp),List.take_of_length_le (by simp;omega)]
theorem yfq (s:List UInt8):win s 0 (s.length-0)=s:=by simp [win]
section
variable {E : Oracle} (g : Good E)
include g
theorem yci (s:List UInt8):Fc E zko [S s,.d (.int .u8 10)] (I (Lib.indexByte s 10)):=by
 have h0:Fc E n_internal_stringslite_IndexByte [S s,.d (.int .u8 10)] (I (Lib.indexByte s 10)):=Fc.extern g.lim (x:=indexByteX) rfl (v:=I (Lib.indexByte s 10)) (m':=[]) rfl rfl
 refine g.fn rfl rfl ?_
 repeat' ((conv=>whnf);first
 | refine Yz ?_
  | (apply zai.of;assumption)
  | (refine Ret.mk rfl))
theorem ymo (p:List UInt8) (hs:p.length<=1000000):Fc E zkn [S p,S [10]] (.tup [S (ydq p),B (zm1 p)]):=by
 have h0:Fc E n_internal_stringslite_HasSuffix [S p,S [10]] (B (zm1 p)):=Fc.extern g.lim (x:=suffixX) rfl (v:=B (zm1 p)) (m':=[]) (by simp only [suffixX];rw [if_pos hs,yng]) rfl
 have h1:Fc E zdy [S p,S [10]] (.tup [S (ydq p),B (zm1 p)]):=by
  refine g.fn rfl rfl ?_
  cases hw:zm1 p
  ·rw [hw] at h0
   have e:ydq p=p:=by unfold ydq;rw [hw];rfl
   rw [e]
   repeat' ((conv=>whnf);first
   | refine Yz ?_
    | (apply zai.of;assumption)
    | (refine Ret.mk rfl))
  ·rw [hw] at h0
   obtain⟨hl,e⟩:=yoe hw
   have h10:(([10]:List UInt8).length:Int)=1:=rfl
   rw [e]
   repeat' ((conv=>whnf);first
   | refine Yz ?_
    | (apply zai.of;assumption)
    | (refine zc2.mk (by omega) ?_)
    | (refine Ret.mk ?_))
   simp [win]
 refine g.fn rfl rfl ?_
 repeat' ((conv=>whnf);first
 | refine Yz ?_
  | (apply zai.of;assumption)
  | (refine Ret.mk rfl))
end
def yc4 (t:List UInt8):Option Evt:=
 match parts 32 t with
 | h::_::_=>if zrj h=true then
   match zxb (t.drop (h.length+1)) with
   | some e=>if zml {e with nu:=z5j h}=0 then some {e with nu:=z5j h} else none
   | none=>none
  else none
 | _=>none
def yv9:Option Evt->Evt×Int
 | none=>(noE,25)
 | some e=>(e,0)
def z7i (s:List UInt8):Evt×Int:=
 if s.length<8\/s.getD (s.length-8) 0≠35\/z04 (s.drop (s.length-7))=false then(noE,25)
 else if s.drop (s.length-7)≠yp4 (s.take (s.length-8)) then(noE,27)
 else yv9 (yc4 (s.take (s.length-8)))
theorem yix {s:List UInt8} (h:s.length<8):z7i s=(noE,25):=by
 unfold z7i
 rw [if_pos (.inl h)]
theorem yhl {t c:List UInt8} {x:UInt8} (h:c.length=7):z7i (t++x::c)=if x≠35\/z04 c=false then(noE,25) else if c≠yp4 t then(noE,27) else yv9 (yc4 t):=by
 have hl:(t++x::c).length=t.length+8:=by rw [List.length_append,List.length_cons];omega
 have h1:(t++x::c).drop ((t++x::c).length-7)=c:=by
  rw [hl,show t.length+8-7=t.length+1 by omega,show t++x::c=(t++[x])++c by simp,List.drop_left' (by simp)]
 have h2:(t++x::c).take ((t++x::c).length-8)=t:=by
  rw [hl,show t.length+8-8=t.length by omega,List.take_left' rfl]
 have h3:(t++x::c).getD ((t++x::c).length-8) 0=x:=by
  rw [hl,show t.length+8-8=t.length by omega]
  simp [List.getD]
 unfold z7i
 rw [h1,h2,h3]
 have h8:¬(t++x::c).length<8:=by omega
 by_cases hc:x≠35\/z04 c=false
 ·rw [if_pos hc,if_pos (.inr hc)]
 ·rw [if_neg hc,if_neg (fun h=>h.elim h8 hc)]
theorem ytg {s:List UInt8} (h:8<=s.length):∃t x c,s=t++x::c/\c.length=7:=by
 have hlt:s.length-8<s.length:=by omega
 refine⟨s.take (s.length-8),s[s.length-8],s.drop (s.length-8+1),?_,by rw [List.length_drop];omega⟩
 rw [<-List.drop_eq_getElem_cons hlt,List.take_append_drop]
theorem zyf (b:UInt8):∀(a r:List UInt8),b∉a->Lib.indexByte (a++b::r) b=a.length
 | [],_,_=>by simp [Lib.indexByte]
 | c::a,r,h=>by
  have hc:(c==b)=false:=beq_eq_false_iff_ne.2 fun e=>h (by simp [e])
  have ih:=zyf b a r fun hm=>h (by simp [hm])
  simp only [List.cons_append,Lib.indexByte,hc,ih,List.length_cons]
  rw [if_neg (by decide),if_neg (by simp)]
  omega
theorem zyg (b:UInt8):∀(a:List UInt8),b∉a->Lib.indexByte a b= -1
 | [],_=>rfl
 | c::a,h=>by
  have hc:(c==b)=false:=beq_eq_false_iff_ne.2 fun e=>h (by simp [e])
  have ih:=zyg b a fun hm=>h (by simp [hm])
  simp only [Lib.indexByte,hc,ih]
  rfl
theorem z59 (b:UInt8):∀s:List UInt8,b∈s->∃a r,s=a++b::r/\b∉a
 | [],h=>absurd h List.not_mem_nil
 | c::s,h=>by
  by_cases e:c=b
  ·exact⟨[],s,by rw [e];rfl,List.not_mem_nil⟩
  ·obtain⟨a,r,h1,h2⟩:=z59 b s ((List.mem_cons.1 h).resolve_left fun x=>e x.symm)
   exact⟨c::a,r,by rw [h1];rfl,fun hm=>(List.mem_cons.1 hm).elim (fun x=>e x.symm) h2⟩
theorem yjk (t:List UInt8):((32:UInt8)∉t/\parts 32 t=[t]/\yc4 t=none)\/∃h r,(32:UInt8)∉h/\t=h++32::r/\parts 32 t=h::parts 32 r/\
  yc4 t=if zrj h=true then(match zxb r with
   | some e=>if zml {e with nu:=z5j h}=0 then some {e with nu:=z5j h} else none
   | none=>none) else none:=by
 by_cases hm:(32:UInt8)∈t
 ·obtain⟨a,r,rfl,ha⟩:=z59 32 t hm
  have hp:=zg8 32 r a ha
  refine .inr ⟨a,r,ha,rfl,hp,?_⟩
  have hd:(a++32::r).drop (a.length+1)=r:=by
   rw [show a++32::r=(a++[32])++r by simp,List.drop_left' (by simp)]
  unfold yc4
  rw [hp]
  cases hr:parts 32 r with
  | nil=>exact absurd hr (yhd 32 r)
  | cons y q=>dsimp only;rw [hd]
 ·have hp:=zoa 32 t hm
  refine .inl ⟨hm,hp,?_⟩
  unfold yc4
  rw [hp]
theorem z5x {a r:List UInt8} {b:UInt8}:win (a++b::r) 0 (a.length-0)=a:=by
 unfold win
 rw [List.drop_zero,Nat.sub_zero,List.take_left' rfl]
theorem z5y {a r:List UInt8} {b:UInt8}:win (a++b::r) (a.length+1) ((a++b::r).length-(a.length+1))=r:=by
 unfold win
 rw [show a++b::r=(a++[b])++r by simp,List.drop_left' (by simp),List.take_of_length_le (by simp;omega)]
theorem zsn {a r:List UInt8} {b:UInt8}:(a++b::r).getD a.length 0=b:=by simp [List.getD]
section
variable {E : Oracle} (g : Good E)
include g
theorem ycf (s:List UInt8):Fc E ze0 [S s,S [32]] (I (Lib.indexByte s 32)):=by
 have h0:Fc E n_internal_stringslite_IndexByte [S s,.d (.int .u8 32)] (I (Lib.indexByte s 32)):=Fc.extern g.lim (x:=indexByteX) rfl (v:=I (Lib.indexByte s 32)) (m':=[]) rfl rfl
 have h1:(([32]:List UInt8).length:Int)=1:=rfl
 refine g.fn rfl rfl ?_
 by_cases he:[32]=s
 ·subst he
  repeat' ((conv=>whnf);first
  | refine Yz ?_
   | (refine Cmp.tt rfl ?_)
   | (refine Ret.mk rfl))
 ·repeat' ((conv=>whnf);first
 | refine Yz ?_
   | (refine zva.at 0 (by omega) (by decide) ?_)
   | (refine Cmp.ff he ?_)
   | (apply zai.of;assumption)
   | (refine Ret.mk rfl))
theorem yce (s:List UInt8) (h:(32:UInt8)∉s):Fc E zjb [S s,S [32]] (.tup [S s,S [],B false]):=by
 have h0:=ycf g s
 rw [zyg 32 s h] at h0
 have h1:Fc E zd2 [S s,S [32]] (.tup [S s,S [],B false]):=by
  refine g.fn rfl rfl ?_
  repeat' ((conv=>whnf);first
  | refine Yz ?_
   | (apply zai.of;assumption)
   | (refine Ret.mk rfl))
 refine g.fn rfl rfl ?_
 repeat' ((conv=>whnf);first
 | refine Yz ?_
  | (apply zai.of;assumption)
  | (refine Ret.mk rfl))
theorem yhz (a r:List UInt8) (h:(32:UInt8)∉a) (hl:(a++32::r).length<=1000000):Fc E zjb [S (a++32::r),S [32]] (.tup [S a,S r,B true]):=by
 have h0:=ycf g (a++32::r)
 rw [zyf 32 a r h] at h0
 have h10:(([32]:List UInt8).length:Int)=1:=rfl
 have hlen:(a++32::r).length=a.length+(r.length+1):=by simp
 have h1:Fc E zd2 [S (a++32::r),S [32]] (.tup [S a,S r,B true]):=by
  refine g.fn rfl rfl ?_
  repeat' ((conv=>whnf);first
  | refine Yz ?_
   | (apply zai.of;assumption)
   | (refine zc2.at 0 a.length (by omega) (by omega) (by omega) ?_<;>(try dsimp only)<;>(rw [z5x]))
   | (refine zc2.at (a.length+1) (a++32::r).length (by omega) (by omega) (by omega) ?_<;>(try dsimp only)<;>(rw [z5y]))
   | (refine Ret.mk rfl))
 refine g.fn rfl rfl ?_
 repeat' ((conv=>whnf);first
 | refine Yz ?_
  | (apply zai.of;assumption)
  | (refine Ret.mk rfl))
end
theorem ysb {s:List UInt8} {e:Evt} (h:zxb s=some e):e.ns.length<=3/\e.vs.length<=4/\e.tx=[]:=by
 unfold zxb at h
 split at h
 ·cases h
 ·rename_i k r _
  split at h
  ·obtain rfl:=Option.some.inj h
   rename_i hok
   unfold ydc at hok
   simp only [Bool.and_eq_true,decide_eq_true_eq] at hok
   have ⟨h1,h2⟩:=z3m k
   obtain⟨⟨⟨_,hl⟩,_⟩,_⟩:=hok
   refine⟨?_,?_,rfl⟩
   ·show (r.take (zea k)).length<=3
    rw [List.length_take];omega
   ·show ((r.drop (zea k)).map z5j).length<=4
    rw [List.length_map,List.length_drop];omega
  ·cases h
def ydd (s:List UInt8) (b:Int):Int:=if(z7i s).2≠0 then(z7i s).2 else if(z7i s).1.nu≠b+1 then 11 else 0
abbrev yq2 (e:Evt) (x:Int):V:= .tup [Evv e,I x]
theorem zum {s:List UInt8} {x:Int} (h:z7i s=(noE,x)) (hx:x≠0) (b:Int):yq2 (z7i s).1 (ydd s b)=yq2 noE x:=by
 unfold ydd
 rw [h]
 simp only
 rw [if_pos hx]
theorem yuc {s:List UInt8} {e:Evt} (h:z7i s=(e,0)) {b:Int} (hb:e.nu=b+1):yq2 (z7i s).1 (ydd s b)=yq2 e 0:=by
 unfold ydd
 rw [h]
 simp only
 rw [if_neg (by decide),if_neg (fun h=>h hb)]
theorem yub {s:List UInt8} {e:Evt} (h:z7i s=(e,0)) {b:Int} (hb:e.nu≠b+1):yq2 (z7i s).1 (ydd s b)=yq2 e 11:=by
 unfold ydd
 rw [h]
 simp only
 rw [if_neg (by decide),if_pos hb]
section
variable {E : Oracle} (g : Good E)
include g
theorem yi3 (s:List UInt8) (hs:s.length<=1000000) (b:Int) (hb:0<=b/\b<=1000000):Fc E zl8 [S s,I b] (yq2 (z7i s).1 (ydd s b)):=by
 refine g.fn rfl rfl ?_
 by_cases h8:s.length<8
 ·rw [zum (yix h8) (by decide) b]
  repeat' ((conv=>whnf);first
  | refine Yz ?_
   | (refine Ret.mk rfl))
 ·obtain⟨t,x,c,rfl,h7⟩:=ytg (Nat.le_of_not_lt h8)
  have hlen:(t++x::c).length=t.length+8:=by rw [List.length_append,List.length_cons];omega
  have hE:=yhl (t:=t) (x:=x) h7
  have hdg:=ymt g c
  have hsm:=yuh g t (by omega)
  have hxu:=z91 x
  by_cases hx:x=35
  ·have hxt:x.toNat=35:=by rw [hx];rfl
   cases h7b:z04 c with
   | false=>
    rw [if_pos (.inr h7b)] at hE
    rw [zum hE (by decide) b]
    rw [h7b] at hdg
    repeat' ((conv=>whnf);first
    | refine Yz ?_
     | (apply zai.of;assumption)
     | (refine zva.at t.length (by omega) (by omega) ?_;rw [zsn])
     | (refine zc2.at 0 t.length (by omega) (by omega) (by omega) ?_<;>(try dsimp only)<;>(rw [z5x]))
     | (refine zc2.at (t.length+1) (t++x::c).length (by omega) (by omega) (by omega) ?_<;>(try dsimp only)<;>(rw [z5y]))
     | (refine Ret.mk rfl)
     | fail)
   | true=>
    rw [if_neg (by rw [h7b];simp [hx])] at hE
    rw [h7b] at hdg
    by_cases hc:c=yp4 t
    ·rw [if_neg (fun h=>h hc)] at hE
     rcases yjk t with⟨hn,hp,ht⟩|⟨h,r,hn,hth,hp,ht⟩
     ·rw [ht] at hE
      rw [zum hE (by decide) b]
      have hcut:=yce g t hn
      have hin:=zyx g t (by omega)
      have hpa:=ye2 g [] (by decide)
      repeat' ((conv=>whnf);first
      | refine Yz ?_
       | (apply zai.of;assumption)
       | (refine zva.at t.length (by omega) (by omega) ?_;rw [zsn])
       | (refine zc2.at 0 t.length (by omega) (by omega) (by omega) ?_<;>(try dsimp only)<;>(rw [z5x]))
       | (refine zc2.at (t.length+1) (t++x::c).length (by omega) (by omega) (by omega) ?_<;>(try dsimp only)<;>(rw [z5y]))
       | (refine Cmp.tt hc ?_)
       | (refine Cmp.tt hc.symm ?_)
       | (refine Ret.mk rfl)
       | fail)
     ·have hl2:t.length=h.length+(r.length+1):=by rw [hth,List.length_append,List.length_cons]
      have hcut:=yhz g h r hn (by rw [<-hth];omega)
      rw [<-hth] at hcut
      have hin:=zyx g h (by omega)
      have hpa:=ye2 g r (by omega)
      obtain⟨hd1,hd2⟩:=zmr h
      rw [hd1] at hin
      cases hi:zrj h with
      | false=>
       rw [hi,if_neg (by decide)] at ht
       rw [ht] at hE
       rw [zum hE (by decide) b]
       rw [hi] at hin
       repeat' ((conv=>whnf);first
       | refine Yz ?_
        | (apply zai.of;assumption)
        | (refine zva.at t.length (by omega) (by omega) ?_;rw [zsn])
        | (refine zc2.at 0 t.length (by omega) (by omega) (by omega) ?_<;>(try dsimp only)<;>(rw [z5x]))
        | (refine zc2.at (t.length+1) (t++x::c).length (by omega) (by omega) (by omega) ?_<;>(try dsimp only)<;>(rw [z5y]))
        | (refine Cmp.tt hc ?_)
        | (refine Cmp.tt hc.symm ?_)
        | (refine zcp.mk ⟨rfl,by decide⟩ ?_)
        | (refine Ret.mk rfl)
        | fail)
      | true=>
       rw [hi,if_pos rfl] at ht
       rw [hi,hd2 hi] at hin
       cases hr:zxb r with
       | none=>
        rw [hr] at ht hpa
        rw [ht] at hE
        rw [zum hE (by decide) b]
        repeat' ((conv=>whnf);first
        | refine Yz ?_
         | (apply zai.of;assumption)
         | (refine zva.at t.length (by omega) (by omega) ?_;rw [zsn])
         | (refine zc2.at 0 t.length (by omega) (by omega) (by omega) ?_<;>(try dsimp only)<;>(rw [z5x]))
         | (refine zc2.at (t.length+1) (t++x::c).length (by omega) (by omega) (by omega) ?_<;>(try dsimp only)<;>(rw [z5y]))
         | (refine Cmp.tt hc ?_)
         | (refine Cmp.tt hc.symm ?_)
         | (refine zcp.mk ⟨rfl,by decide⟩ ?_)
         | (refine Ret.mk rfl)
         | fail)
       | some e=>
        rw [hr] at ht hpa
        dsimp only at ht
        obtain⟨e1,e2,e3⟩:=ysb hr
        obtain⟨nu,ki,ns,vs,tx⟩:=e
        dsimp only at ht e1 e2 e3
        have hce:=zuo g ⟨z5j h,ki,ns,vs,tx⟩ (by dsimp only;omega) (by dsimp only;omega)
        by_cases hz:zml ⟨z5j h,ki,ns,vs,tx⟩=0
        ·rw [if_pos hz] at ht
         rw [ht] at hE
         rw [hz] at hce
         by_cases hnb:z5j h=b+1
         ·rw [yuc hE hnb]
          have hwh:Fc E zao [B false,I 11] (I 0):=zup g false 11
          repeat' ((conv=>whnf);first
          | refine Yz ?_
           | (apply zai.of;assumption)
           | (refine zva.at t.length (by omega) (by omega) ?_;rw [zsn])
           | (refine zc2.at 0 t.length (by omega) (by omega) (by omega) ?_<;>(try dsimp only)<;>(rw [z5x]))
           | (refine zc2.at (t.length+1) (t++x::c).length (by omega) (by omega) (by omega) ?_<;>(try dsimp only)<;>(rw [z5y]))
           | (refine Cmp.tt hc ?_)
           | (refine Cmp.tt hc.symm ?_)
           | (refine zcp.mk ⟨rfl,by decide⟩ ?_)
           | (refine Ret.mk rfl)
           | fail)
         ·rw [yub hE hnb]
          have hwh:Fc E zao [B true,I 11] (I 11):=zup g true 11
          repeat' ((conv=>whnf);first
          | refine Yz ?_
           | (apply zai.of;assumption)
           | (refine zva.at t.length (by omega) (by omega) ?_;rw [zsn])
           | (refine zc2.at 0 t.length (by omega) (by omega) (by omega) ?_<;>(try dsimp only)<;>(rw [z5x]))
           | (refine zc2.at (t.length+1) (t++x::c).length (by omega) (by omega) (by omega) ?_<;>(try dsimp only)<;>(rw [z5y]))
           | (refine Cmp.tt hc ?_)
           | (refine Cmp.tt hc.symm ?_)
           | (refine zcp.mk ⟨rfl,by decide⟩ ?_)
           | (refine Ret.mk rfl)
           | fail)
        ·rw [if_neg hz] at ht
         rw [ht] at hE
         rw [zum hE (by decide) b]
         repeat' ((conv=>whnf);first
         | refine Yz ?_
          | (apply zai.of;assumption)
          | (refine zva.at t.length (by omega) (by omega) ?_;rw [zsn])
          | (refine zc2.at 0 t.length (by omega) (by omega) (by omega) ?_<;>(try dsimp only)<;>(rw [z5x]))
          | (refine zc2.at (t.length+1) (t++x::c).length (by omega) (by omega) (by omega) ?_<;>(try dsimp only)<;>(rw [z5y]))
          | (refine Cmp.tt hc ?_)
          | (refine Cmp.tt hc.symm ?_)
          | (refine zcp.mk ⟨rfl,by decide⟩ ?_)
          | (refine Cmp.ff hz ?_)
          | (refine Ret.mk rfl)
          | fail)
    ·rw [if_pos hc] at hE
     rw [zum hE (by decide) b]
     repeat' ((conv=>whnf);first
     | refine Yz ?_
      | (apply zai.of;assumption)
      | (refine zva.at t.length (by omega) (by omega) ?_;rw [zsn])
      | (refine zc2.at 0 t.length (by omega) (by omega) (by omega) ?_<;>(try dsimp only)<;>(rw [z5x]))
      | (refine zc2.at (t.length+1) (t++x::c).length (by omega) (by omega) (by omega) ?_<;>(try dsimp only)<;>(rw [z5y]))
      | (refine Cmp.ff hc ?_)
      | (refine Cmp.ff (fun h=>hc h.symm) ?_)
      | (refine Ret.mk rfl)
      | fail)
  ·rw [if_pos (.inl hx)] at hE
   rw [zum hE (by decide) b]
   have hxn:x.toNat≠35:=fun e=>hx (UInt8.toNat_inj.1 e)
   repeat' ((conv=>whnf);first
   | refine Yz ?_
    | (apply zai.of;assumption)
    | (refine zva.at t.length (by omega) (by omega) ?_;rw [zsn])
    | (refine zc2.at 0 t.length (by omega) (by omega) (by omega) ?_<;>(try dsimp only)<;>(rw [z5x]))
    | (refine zc2.at (t.length+1) (t++x::c).length (by omega) (by omega) (by omega) ?_<;>(try dsimp only)<;>(rw [z5y]))
    | (refine Cmp.ff (by omega) ?_)
    | (refine Ret.mk rfl)
    | fail)
end
theorem yi6 {cx:Cx} {slot lo:Nat} {old m:Mem} {o:Evl.Id} {v:V} (hi:Go.Evl.ids v=[o]) (hr:Go.Evl.ren [] v=v) (h:o.lv<lo):Go.Evl.settle cx slot lo old m v=some (v,old):=by
 have hn:¬lo<=o.lv:=by omega
 have hr':Go.Evl.reach lo m 64 (Go.Evl.ids v) []=[]:=by
  rw [hi]
  simp [Go.Evl.reach,hn]
 unfold Go.Evl.settle
 simp only [hr']
 rw [if_pos (by rw [hi];simp [Go.Evl.within,Go.Evl.movable,Go.Evl.onceB,h])]
 simp [Go.Evl.number,hr,Go.Evl.moved]
theorem ye5 {cx:Cx} {slot lo:Nat} {old m:Mem} {o:Evl.Id} {v v':V} {wr:Bool} {t sz n:Nat} {xs:List D} (hi:Go.Evl.ids v=[o]) (hlo:lo<=o.lv) (hl:Evl.look m o=some (.row wr t sz n xs)) (hr:Go.Evl.ren [(o,⟨cx.lv,slot,Go.Evl.freeK cx.lv slot old⟩)] v=v'):
  Go.Evl.settle cx slot lo old m v=some (v',old++[(⟨cx.lv,slot,Go.Evl.freeK cx.lv slot old⟩,.row wr t sz n xs)]):=by
 have hr':Go.Evl.reach lo m 64 (Go.Evl.ids v) []=[o]:=by
  rw [hi]
  simp [Go.Evl.reach,hlo,hl,Go.Evl.idsO]
 unfold Go.Evl.settle
 simp only [hr']
 rw [if_pos (by rw [hi];simp [Go.Evl.within,Go.Evl.movable,Go.Evl.onceB,hl,hlo,Go.Evl.idsO,Go.Evl.isLoop])]
 simp [Go.Evl.number,hr,Go.Evl.moved,hl,Go.Evl.renO]
theorem ztt.low {cx:Cx} {slot lo:Nat} {old m:Mem} {o:Evl.Id} {v:V} {K:V×Mem->Prop} (hi:Go.Evl.ids v=[o]) (hr:Go.Evl.ren [] v=v) (h:o.lv<lo) (k:K (v,old)):ztt (Go.Evl.settle cx slot lo old m v) K:=⟨_,yi6 hi hr h,k⟩
theorem ztt.nrow {cx:Cx} {slot lo:Nat} {old m:Mem} {o:Evl.Id} {v v':V} {wr:Bool} {t sz n:Nat} {xs:List D} {K:V×Mem->Prop} (c:Nat) (hi:Go.Evl.ids v=[o]) (hlo:lo<=o.lv) (hl:Evl.look m o=some (.row wr t sz n xs)) (hf:Go.Evl.freeK cx.lv slot old=c) (hr:Go.Evl.ren [(o,⟨cx.lv,slot,c⟩)] v=v')
  (k:K (v',old++[(⟨cx.lv,slot,c⟩,.row wr t sz n xs)])):ztt (Go.Evl.settle cx slot lo old m v) K:=⟨_,ye5 (v':=v') hi hlo hl (by rw [hf];exact hr),by rw [hf];exact k⟩
theorem z4c {α:Type} (p ys ds:List α):patch (p++ys) p.length ds=(p++ds)++ys.drop ds.length:=by
 unfold patch
 rw [List.take_left' rfl,List.drop_append,List.drop_of_length_le (by omega),show p.length+ds.length-p.length=ds.length by omega,List.nil_append]
theorem ygj {α:Type} (z:α):∀n:Nat,(List.replicate n [z]).flatten=List.replicate n z
 | 0=>rfl
 | n+1=>by rw [List.replicate_succ,List.flatten_cons,ygj z n,List.replicate_succ];rfl
theorem yt5 (x z:D) (a b:List D) (n:Nat) (hn:n=1+a.length+b.length):patch (patch (patch (List.replicate n [z]).flatten 0 [x]) 1 a) (1+a.length) b=x::a++b:=by
 have h1:=z4c [] (List.replicate n z) [x]
 rw [List.nil_append,List.nil_append,List.drop_replicate] at h1
 have h2:=z4c [x] (List.replicate (n-[x].length) z) a
 rw [List.drop_replicate] at h2
 have h3:=z4c ([x]++a) (List.replicate (n-[x].length-a.length) z) b
 rw [List.drop_replicate] at h3
 have e3:([x]++a).length=1+a.length:=by simp;omega
 have e0:n-[x].length-a.length-b.length=0:=by simp;omega
 rw [e3,e0] at h3
 have e1:([]:List D).length=0:=rfl
 have e2:([x]:List D).length=1:=rfl
 rw [e1] at h1
 rw [ygj,h1]
 rw [e2] at h2 h3 ⊢
 rw [h2,h3]
 simp
def zmf (e:Evt):List UInt8:=zjj 32 (e.ki::e.ns++e.vs.map zfy)
def zy3 (e:Evt):List UInt8:=zfy e.nu++32::zmf e
def zms (e:Evt):List UInt8:=zy3 e++35::yp4 (zy3 e)
def zpf (l:List Evt):List UInt8:=l.flatMap fun e=>zms e++[10]
structure PrE (e:Evt):Prop where
 nu:0<=e.nu/\e.nu<=999999999
 ns:1<=e.ns.length/\e.ns.length<=1000
 vs:1<=e.vs.length/\e.vs.length<=1000
 va:∀x∈e.vs,0<=x/\x<=999999999
 ln:(zy3 e).length<=1000000
theorem z3w (k:List UInt8):∀l:List (List UInt8),zjj 32 (k::l)=k++l.flatMap fun x=>32::x
 | []=>by simp [zjj]
 | y::r=>by
  rw [zjj,z3w y r,List.flatMap_cons]
  simp
theorem zy4 (e:Evt):(zmf e).length<=(zy3 e).length/\(zy3 e).length=(zfy e.nu).length+(zmf e).length+1:=by
 unfold zy3
 rw [List.length_append,List.length_cons]
 omega
theorem yov (e:Evt):(zms e).length=(zy3 e).length+8:=by
 unfold zms
 rw [List.length_append,List.length_cons,z2h]
section
variable {E : Oracle} (g : Good E)
include g
theorem ymn (k:List UInt8) (ns vs:List (List UInt8)) (hn:1<=ns.length/\ns.length<=1000000) (hv:1<=vs.length/\vs.length<=1000000):
  Fc E zed [.d (.list 3 [.list 1 [.str k],.list ns.length (ns.map D.str),.list vs.length (vs.map D.str)])] (Ws (k::ns++vs)):=by
 refine g.fn rfl rfl ?_
 repeat' ((conv=>whnf);first
 | refine Yz ?_
  | (refine zgw.now rfl ?_)
  | (refine zak.step g.lim ?_)
  | (refine In.enter (f:=ze3) g.lim rfl rfl ?_)
  | (refine zc2.mk (by omega) ?_)
  | (refine zcp.mk (by simp only [List.length_cons,List.length_nil,List.length_map];omega) ?_)
  | (refine ztt.nrow 0 rfl (Nat.le_refl _) rfl rfl rfl ?_)
  | (refine Ret.mk ?_)
  | fail)
 have hN:(0+((1:Nat):Int)+(ns.length:Int)+(vs.length:Int)-(((0:Nat):Int)-((0:Nat):Int))).toNat=1+ns.length+vs.length:=by omega
 have hp:=yt5 (.str k) (.str []) (ns.map D.str) (vs.map D.str) (1+ns.length+vs.length) (by simp)
 rw [hN]
 simp only [Int.toNat_natCast,Int.toNat_zero,Nat.sub_zero,Nat.zero_add,Nat.mul_one]
 rw [if_pos ⟨trivial,trivial⟩]
 rw [List.length_map] at hp
 rw [hp]
 simp
 omega
theorem yug (e:Evt) (h:PrE e):Fc E zle [Evv e] (S (zmf e)):=by
 obtain⟨h1,h2,h3,h4,h5⟩:=h
 have hb:=zy4 e
 obtain⟨nu,ki,ns,vs,tx⟩:=e
 change Fc E zle [.d (.agg [DI nu,.str ki,.list ns.length (ns.map D.str),.list vs.length (vs.map DI),.str tx])] _
 dsimp only at h1 h2 h3 h4 h5 hb
 refine g.fn rfl rfl ?_
 have hm:=ymu g vs (by omega) h4
 have hl:(vs.map zfy).length=vs.length:=List.length_map _
 have hc:=ymn g ki ns (vs.map zfy) (by omega) (by omega)
 have hj:=yqw g (ki::ns++vs.map zfy) (by simp) (by simp;omega) (by show (zmf ⟨nu,ki,ns,vs,tx⟩).length<=_;omega)
 unfold zmf
 repeat' ((conv=>whnf);first
 | refine Yz ?_
  | (apply zai.of;assumption)
  | (refine Ret.mk rfl)
  | fail)
end
theorem zae {α:Type} (cell:α->List D) (w:Nat) (hw:∀a,(cell a).length=w):∀l:List α,(l.flatMap cell).length=l.length*w
 | []=>by simp
 | c::r=>by rw [List.flatMap_cons,List.length_append,hw,zae cell w hw r,List.length_cons,Nat.succ_mul];omega
theorem zz4 {α:Type} (cell:α->List D) (w:Nat) (hw:∀a,(cell a).length=w):∀(l:List α) (k:Nat),(l.flatMap cell).drop (k*w)=(l.drop k).flatMap cell
 | l,0=>by simp
 | [],k+1=>by simp
 | c::r,k+1=>by
  rw [List.flatMap_cons,List.drop_succ_cons,<-zz4 cell w hw r k,Nat.succ_mul,Nat.add_comm,<-List.drop_drop]
  congr 1
  rw [List.drop_append_of_le_length (by rw [hw];exact Nat.le_refl _),List.drop_of_length_le (by rw [hw];exact Nat.le_refl _)]
  rfl
theorem zbx {α:Type} (cell:α->List D) (w:Nat) (hw:∀a,(cell a).length=w) (l:List α) (k:Nat) (h:k<l.length):win (l.flatMap cell) (k*w) w=cell l[k]:=by
 unfold win
 rw [zz4 cell w hw,List.drop_eq_getElem_cons h,List.flatMap_cons,List.take_append_of_le_length (by rw [hw];exact Nat.le_refl _),List.take_of_length_le (by rw [hw];exact Nat.le_refl _)]
theorem yko {α:Type} (cell:α->List D) (w:Nat) (hw:∀a,(cell a).length=w) (l:List α) (k j:Nat) (h:k<l.length) (hj:j<w):(l.flatMap cell)[k*w+j]? =(cell l[k])[j]? :=by
 rw [<-List.getElem?_drop,zz4 cell w hw,List.drop_eq_getElem_cons h,List.flatMap_cons,List.getElem?_append_left (by rw [hw];exact hj)]
theorem z7x.rec {α:Type} {cell:α->List D} {w:Nat} (hw:∀a,(cell a).length=w) {l:List α} {i:Int} {K:List D->Prop} (k:Nat) (hi:i=k) (h:k<l.length) (hk:K (cell l[k])):z7x (l.flatMap cell) (i.toNat*w) w K:=by
 subst hi
 rw [Int.toNat_natCast]
 have h1:=zae cell w hw l
 refine⟨?_,by rw [zbx cell w hw l k h];exact hk⟩
 have h2:(k+1)*w<=l.length*w:=Nat.mul_le_mul_right _ h
 rw [Nat.succ_mul] at h2
 omega
theorem z7x.rec0 {α:Type} {cell:α->List D} {w:Nat} (hw:∀a,(cell a).length=w) {l:List α} {i:Int} {K:List D->Prop} (k:Nat) (hi:i=k) (h:k<l.length) (hk:K (cell l[k])):z7x (l.flatMap cell) ((0+i.toNat)*w) w K:=by
 rw [Nat.zero_add];exact z7x.rec hw k hi h hk
theorem zgw.rec {α:Type} {cell:α->List D} {w:Nat} (hw:∀a,(cell a).length=w) {l:List α} {i:Int} {j:Nat} {K:D->Prop} {d:D} (k:Nat) (hi:i=k) (h:k<l.length) (hj:(cell l[k])[j]? =some d) (hk:K d):zgw (l.flatMap cell) (i.toNat*w+j) K:=by
 subst hi
 rw [Int.toNat_natCast]
 have hlt:j<w:=by
  have:=(List.getElem?_eq_some_iff.1 hj).1
  rwa [hw] at this
 exact⟨⟨d,by rw [yko cell w hw l k j h hlt];exact hj,hk⟩⟩
theorem zgw.rec0 {α:Type} {cell:α->List D} {w:Nat} (hw:∀a,(cell a).length=w) {l:List α} {i:Int} {j:Nat} {K:D->Prop} {d:D} (k:Nat) (hi:i=k) (h:k<l.length) (hj:(cell l[k])[j]? =some d) (hk:K d):zgw (l.flatMap cell) ((0+i.toNat)*w+j) K:=by
 rw [Nat.zero_add];exact zgw.rec hw k hi h hj hk
def zpc (l:List (List UInt8)):List UInt8:=l.flatMap fun x=>32::x
theorem z7t {l:List (List UInt8)} {k:Nat} (h:k<l.length):zpc (l.take (k+1))=zpc (l.take k)++32::l[k]:=by
 unfold zpc
 rw [List.take_add_one,List.getElem?_eq_getElem h,List.flatMap_append]
 simp
theorem z2i (l:List (List UInt8)) (k:Nat):(zpc (l.take k)).length<=(zpc l).length:=by
 unfold zpc
 conv=>rhs;rw [<-List.take_append_drop k l]
 rw [List.flatMap_append,List.length_append]
 omega
theorem yni (a b:List (List UInt8)):zpc (a++b)=zpc a++zpc b:=by
 unfold zpc
 rw [List.flatMap_append]
theorem yh8 (e:Evt):zy3 e=((zfy e.nu++[32])++e.ki)++zpc e.ns++zpc (e.vs.map zfy):=by
 unfold zy3 zmf
 rw [List.cons_append,z3w]
 show _++32::(e.ki++zpc (e.ns++e.vs.map zfy))=_
 rw [yni]
 simp
section
variable {E : Oracle} (g : Good E)
include g
theorem yt8 (e:Evt) (h:PrE e):Fc E zmw [Evv e] (S (zy3 e)):=by
 obtain⟨h1,h2,h3,h4,h5⟩:=h
 have ht:=yh8 e
 rw [ht] at h5 ⊢
 obtain⟨nu,ki,ns,vs,tx⟩:=e
 change Fc E zmw [.d (.agg [DI nu,.str ki,.list ns.length (ns.map D.str),.list vs.length (vs.map DI),.str tx])] _
 dsimp only at h1 h2 h3 h4 h5
 dsimp only
 have hd:=z2b g nu h1
 refine g.fn rfl rfl ?_
 generalize zfy nu=n0 at *
 generalize hp:(n0++[32])++ki=p at *
 have hpl:(n0++[32]).length+ki.length=p.length:=by rw [<-hp];simp;omega
 simp only [List.length_append] at h5
 have hpl2:n0.length+1+ki.length=p.length:=by rw [<-hpl];simp
 repeat' ((conv=>whnf);first
 | refine Yz ?_
  | (apply zai.of;assumption)
  | (refine zcp.mk (by simp only [zrm,List.length_append,List.length_cons,List.length_nil];omega) ?_;try rw [hp])
  | fail)
 refine zak.to (zak.up g (fun k=>[(1,.ptr ⟨0,1,0⟩ 0 0),(3,S (p++zpc (ns.take k))),(4,I k)]) (fun _=>[(⟨0,1,0⟩,.cells zad [I nu,S ki,Ws ns,LI vs,S tx])]) ns.length (fun k hk ih=> ?_) 0 (Nat.zero_le _)) (by simp [zpc]) rfl
 have hle:=z2i ns k
 by_cases hlt:k<ns.length
 ·have ih:=ih hlt
  have hle2:=z2i ns (k+1)
  rw [z7t hlt] at ih hle2
  simp only [List.length_append,List.length_cons] at hle2
  repeat' ((conv=>whnf);first
  | refine Yz ?_
   | (refine zgw.ws k rfl hlt ?_)
   | (refine zcp.mk (by simp only [zrm,List.length_append,List.length_cons,List.length_nil];omega) ?_)
   | (refine zak.to ih (by simp) rfl)
   | fail)
 ·obtain rfl:k=ns.length:=by omega
  rw [List.take_length]
  repeat' ((conv=>whnf);first
  | refine Yz ?_
   | fail)
  generalize hq:p++zpc ns=q at *
  have hql:p.length+(zpc ns).length=q.length:=by rw [<-hq,List.length_append]
  have hvl:(vs.map zfy).length=vs.length:=List.length_map _
  refine zak.to (zak.up g (fun k=>[(1,.ptr ⟨0,1,0⟩ 0 0),(3,S (q++zpc ((vs.map zfy).take k))),(5,I k)]) (fun _=>[(⟨0,1,0⟩,.cells zad [I nu,S ki,Ws ns,LI vs,S tx])]) vs.length (fun k hk ih=> ?_) 0 (Nat.zero_le _)) (by simp [zpc]) rfl
  have hle:=z2i (vs.map zfy) k
  by_cases hlt:k<vs.length
  ·have ih:=ih hlt
   have hle2:=z2i (vs.map zfy) (k+1)
   have hdk:=z2b g vs[k] (h4 _ (List.getElem_mem hlt))
   rw [z7t (by omega),List.getElem_map] at ih hle2
   simp only [List.length_append,List.length_cons] at hle2
   repeat' ((conv=>whnf);first
   | refine Yz ?_
    | (refine zgw.iw k rfl hlt ?_)
    | (apply zai.of;assumption)
    | (refine zcp.mk (by simp only [zrm,List.length_append,List.length_cons,List.length_nil];omega) ?_)
    | (refine zak.to ih (by simp) rfl)
    | fail)
  ·obtain rfl:k=vs.length:=by omega
   rw [<-hvl,List.take_length,hvl]
   repeat' ((conv=>whnf);first
   | refine Yz ?_
    | (refine Ret.mk rfl)
    | fail)
end
abbrev LE (l:List Evt):V:= .d (.list l.length (l.flatMap Evt.cells))
theorem evw (e:Evt):e.cells.length=5:=rfl
theorem yrv (l:List Evt) (k:Nat):(zpf (l.take k)).length<=(zpf l).length:=by
 unfold zpf
 conv=>rhs;rw [<-List.take_append_drop k l]
 rw [List.flatMap_append,List.length_append]
 omega
def zta (e:Evt):Bool:=decide (e.ki.length<=60)&&decide (e.ns.length<=6)&&decide (e.vs.length<=8)&&decide (e.tx.length<=60)&&e.ns.all fun x=>decide (x.length<=60)
theorem yps (l:List Evt) (k:Nat) (h:k<l.length) (hs:zta l[k]=false):l.all zta=false:=by
 rw [List.all_eq_false]
 exact⟨l[k],List.getElem_mem h,by rw [hs];decide⟩
section
variable {E : Oracle} (g : Good E)
include g
theorem z9n (l:List Evt) (n:Int) (hn:n<=1000) (hl:l.length<=9223372036854775807) (hb:∀e∈l,e.ns.length<=9223372036854775807/\e.vs.length<=9223372036854775807/\e.ki.length<=9223372036854775807/\e.tx.length<=9223372036854775807/\∀x∈e.ns,x.length<=9223372036854775807):
  Fc E zkm [LE l,I n] (B (decide ((l.length:Int)<=n)&&l.all zta)):=by
 refine g.fn rfl rfl ?_
 by_cases h0:n<l.length
 ·rw [decide_eq_false (by omega),Bool.false_and]
  repeat' ((conv=>whnf);first
  | refine Yz ?_
   | (refine Ret.mk rfl)
   | fail)
 rw [decide_eq_true (by omega),Bool.true_and]
 repeat' ((conv=>whnf);first
 | refine Yz ?_
  | fail)
 refine zak.to (zak.upP g (fun k=>[(0,LE l),(5,I k)]) (fun _=>[]) (fun k=>∀j,(hj:j<l.length)->j<k->zta l[j]=true) l.length (fun k hk hp ih=> ?_) 0 (Nat.zero_le _) (fun j _ h=>absurd h (Nat.not_lt_zero _))) rfl rfl
 by_cases hlt:k<l.length
 ·obtain⟨b1,b2,b3,b4,b5⟩:=hb _ (List.getElem_mem hlt)
  have hnot:zta l[k]=false->l.all zta=false:=yps l k hlt
  have ih1:zta l[k]=true->_:=fun hs=>ih hlt fun j hj hjk=>by
   by_cases e:j=k
   ·subst e;exact hs
   ·exact hp j hj (by omega)
  have hsb:zta l[k]=(decide (l[k].ki.length<=60)&&decide (l[k].ns.length<=6)&&decide (l[k].vs.length<=8)&&decide (l[k].tx.length<=60)&&l[k].ns.all fun x=>decide (x.length<=60)):=rfl
  rw [hsb] at hnot ih1
  by_cases h1:l[k].ki.length<=60
  ·by_cases h2:l[k].ns.length<=6
   ·by_cases h3:l[k].vs.length<=8
    ·by_cases h4:l[k].tx.length<=60
     ·rw [decide_eq_true h1,decide_eq_true h2,decide_eq_true h3,decide_eq_true h4] at hnot ih1
      simp only [Bool.true_and] at hnot ih1
      repeat' ((conv=>whnf);first
      | refine Yz ?_
       | (refine zgw.rec evw k rfl hlt rfl ?_)
       | fail)
      refine zak.to (zak.upP g (fun j=>[(0,LE l),(5,I k),(6,I j)]) (fun _=>[]) (fun j=>∀i,(hi:i<l[k].ns.length)->i<j->l[k].ns[i].length<=60) l[k].ns.length (fun j hj hq ihj=> ?_) 0 (Nat.zero_le _) (fun i _ h=>absurd h (Nat.not_lt_zero _))) rfl rfl
      by_cases hjt:j<l[k].ns.length
      ·have b6:=b5 _ (List.getElem_mem hjt)
       by_cases hx:l[k].ns[j].length<=60
       ·have ihj:=ihj hjt fun i hi hij=>by
         by_cases e:i=j
         ·subst e;exact hx
         ·exact hq i hi (by omega)
        repeat' ((conv=>whnf);first
        | refine Yz ?_
         | (refine zgw.rec evw k rfl hlt rfl ?_)
         | (refine zgw.ws j rfl hjt ?_)
         | (refine zak.to ihj rfl rfl)
         | fail)
       ·rw [hnot (by rw [List.all_eq_false];exact⟨l[k].ns[j],List.getElem_mem hjt,by simpa using hx⟩)]
        repeat' ((conv=>whnf);first
        | refine Yz ?_
         | (refine zgw.rec evw k rfl hlt rfl ?_)
         | (refine zgw.ws j rfl hjt ?_)
         | (refine Ret.mk rfl)
         | fail)
      ·obtain rfl:j=l[k].ns.length:=by omega
       have ih:=ih1 (by
        rw [List.all_eq_true]
        intro x hx
        obtain⟨i,hi,rfl⟩:=List.mem_iff_getElem.1 hx
        simpa using hq i hi hi)
       repeat' ((conv=>whnf);first
       | refine Yz ?_
        | (refine zgw.rec evw k rfl hlt rfl ?_)
        | (refine zak.to ih rfl rfl)
        | fail)
     ·rw [decide_eq_false h4] at hnot
      rw [hnot (by simp)]
      repeat' ((conv=>whnf);first
      | refine Yz ?_
       | (refine zgw.rec evw k rfl hlt rfl ?_)
       | (refine Ret.mk rfl)
       | fail)
    ·rw [decide_eq_false h3] at hnot
     rw [hnot (by simp)]
     repeat' ((conv=>whnf);first
     | refine Yz ?_
      | (refine zgw.rec evw k rfl hlt rfl ?_)
      | (refine Ret.mk rfl)
      | fail)
   ·rw [decide_eq_false h2] at hnot
    rw [hnot (by simp)]
    repeat' ((conv=>whnf);first
    | refine Yz ?_
     | (refine zgw.rec evw k rfl hlt rfl ?_)
     | (refine Ret.mk rfl)
     | fail)
  ·rw [decide_eq_false h1] at hnot
   rw [hnot (by simp)]
   repeat' ((conv=>whnf);first
   | refine Yz ?_
    | (refine zgw.rec evw k rfl hlt rfl ?_)
    | (refine Ret.mk rfl)
    | fail)
 ·obtain rfl:k=l.length:=by omega
  have:l.all zta=true:=by
   rw [List.all_eq_true]
   intro x hx
   obtain⟨i,hi,rfl⟩:=List.mem_iff_getElem.1 hx
   exact hp i hi hi
  rw [this]
  repeat' ((conv=>whnf);first
  | refine Yz ?_
   | (refine Ret.mk rfl)
   | fail)
end
mutual
theorem z4p:∀d:D,zll d d=true
 | .int k a=>by simp [zll]
 | .bool a=>by simp [zll]
 | .str a=>by simp [zll]
 | .nil=>rfl
 | .list n a=>by simp [zll,zma a]
 | .agg a=>by simp [zll,zma a]
 | .nilp=>rfl
 | .nilf=>rfl
 | .nili=>rfl
 | .ifc a=>by simp [zll]
 | .nilm=>rfl
 | .fn a=>by simp [zll]
theorem zma:∀l:List D,zmx l l=true
 | []=>rfl
 | x::r=>by simp [zmx,z4p x,zma r]
end
mutual
theorem z11:∀v:V,zub v v=true
 | .d a=>z4p a
 | .agg a=>by simp [zub,zou a]
 | .tup a=>by simp [zub,zou a]
 | .ref o a b c=>by simp [zub]
 | .ptr o a b=>by simp [zub]
 | .lptr a n=>by simp [zub,zma a]
 | .fn f a b=>by simp [zub,zou a,zou b]
 | .yld o=>by simp [zub]
 | .mp o=>by simp [zub]
 | .it o=>by simp [zub]
 | .skip=>rfl
 | .undef=>rfl
theorem zou:∀l:List V,zz1 l l=true
 | []=>rfl
 | x::r=>by simp [zz1,z11 x,zou r]
end
def yhh:Mem->Bool
 | []=>true
 | (_,o)::r=>(match o with
  | .cells .. =>true
  | .row .. =>true
  | _=>false)&&yhh r
def z7w (m1:Mem):Mem->Prop
 | []=>True
 | (i,o)::r=>Evl.look m1 i=some o/\z7w m1 r
theorem ygt (m1:Mem):∀m:Mem,yhh m=true->z7w m1 m->ybk m1 m=true
 | [],_,_=>rfl
 | (i,o)::r,h,hk=>by
  obtain⟨h1,h2⟩:=hk
  simp only [yhh,Bool.and_eq_true] at h
  have ih:=ygt m1 r h.2 h2
  unfold ybk
  rw [h1,ih,Bool.and_true]
  cases o<;>simp at h
  ·simp [ye3,zou]
  ·simp [ye3,zma]
structure Qs (E:Oracle) (f:Nat) (as0:List V) (m0:Mem) (r:V):Prop where
 got:In E 1 f as0 m0 fun v m1=>v=r/\z7w m1 m0
theorem zlp.of {E:Oracle} {f:Nat} {first caps args as0:List V} {m m0:Mem} {r r':V} {K:V->Prop} (is:List Evl.Id) (his:reach 0 m 64 (idsL (first ++args++caps)) []=is)
  (hc:(within is 0 (idsL (first ++args++caps))&&movable is 0 m)=true) (has:renL (number ⟨0,0⟩ 0 0 is) (first ++args++caps)=as0) (hm:moved (number ⟨0,0⟩ 0 0 is) m (number ⟨0,0⟩ 0 0 is)=m0)
  (hq:Qs E f as0 m0 r) (hp:yhh m0=true) (hid:(ids r).all (fun i=>((number ⟨0,0⟩ 0 0 is).map (·.2)).elem i)=true) (hr:ren (zpj (number ⟨0,0⟩ 0 0 is)) r=r') (hk:K r'):zlp E (.fn f first caps) args m K:=by
 obtain⟨v,m1,h1,rfl,h3⟩:=hq.got
 refine⟨r',?_,hk⟩
 simp only [zx6,his,hc,if_true,has,hm,h1]
 rw [ygt m1 m0 hp h3,hid,hr]
 rfl
structure Ent where
 nm:List UInt8
 kd:List UInt8
 sr:List UInt8
 bs:List UInt8
 kn:Int
 fr:Int
 to:Int
 mi:Int
structure Rmv where
 en:List UInt8
 kn:Int
structure Cpl where
 nm:List UInt8
 en:List UInt8
 kn:Int
 cl:Bool
 up:Bool
structure Rgs where
 kn:Int
 es:List Ent
 rs:List Rmv
 cs:List Cpl
def Ent.cells (e:Ent):List D:=[.str e.nm,.str e.kd,.str e.sr,.str e.bs,DI e.kn,DI e.fr,DI e.to,DI e.mi]
def Rmv.cells (r:Rmv):List D:=[.str r.en,DI r.kn]
def Cpl.cells (c:Cpl):List D:=[.str c.nm,.str c.en,DI c.kn,.bool c.cl,.bool c.up]
abbrev yuv (e:Ent):V:= .d (.agg e.cells)
theorem zot (e:Ent):e.cells.length=8:=rfl
theorem yml (e:Rmv):e.cells.length=2:=rfl
theorem zs4 (e:Cpl):e.cells.length=5:=rfl
abbrev Rgv (r:Rgs):V:= .d (.agg [DI r.kn,.list r.es.length (r.es.flatMap Ent.cells),.list r.rs.length (r.rs.flatMap Rmv.cells),.list r.cs.length (r.cs.flatMap Cpl.cells)])
abbrev mR (t:Nat) (ev:List Evt) (r:Rgs):Mem:=[(⟨0,0,0⟩,.cells t [.ref ⟨0,0,1⟩ 0 ev.length ev.length,I r.kn,.ref ⟨0,0,2⟩ 0 r.es.length r.es.length,.ref ⟨0,0,3⟩ 0 r.rs.length r.rs.length,.ref ⟨0,0,4⟩ 0 r.cs.length r.cs.length]),
 (⟨0,0,1⟩,.row false zad 5 ev.length (ev.flatMap Evt.cells)),(⟨0,0,2⟩,.row false zac 8 r.es.length (r.es.flatMap Ent.cells)),(⟨0,0,3⟩,.row false za8 2 r.rs.length (r.rs.flatMap Rmv.cells)),(⟨0,0,4⟩,.row true zaj 5 r.cs.length (r.cs.flatMap Cpl.cells))]
abbrev isR:List Evl.Id:=[⟨0,0,0⟩,⟨0,0,1⟩,⟨0,0,2⟩,⟨0,0,3⟩,⟨0,0,4⟩]
def zpz (es:List Ent) (nm:List UInt8):Int:=yd2 (fun x=>decide (x.nm=nm)) es
def zwz (cs:List Cpl) (nm:List UInt8):Int:=yd2 (fun x=>decide (x.nm=nm)) cs
theorem z6q {α:Type} (p:α->Bool) (l:List α):(yd2 p l= -1/\∀j,(hj:j<l.length)->p l[j]=false)\/∃k,∃hk:k<l.length,yd2 p l=k/\p l[k]=true/\∀j,(hj:j<k)->p (l[j]'(by omega))=false:=by
 unfold yd2
 cases h:l.findIdx? p with
 | none=>
  refine .inl ⟨rfl,fun j hj=> ?_⟩
  have:=List.findIdx?_eq_none_iff.1 h l[j] (List.getElem_mem hj)
  simpa using this
 | some i=>
  obtain⟨hi,hp,hn⟩:=List.findIdx?_eq_some_iff_getElem.1 h
  refine .inr ⟨i,hi,rfl,hp,fun j hj=> ?_⟩
  have:=hn j hj
  simpa using this
abbrev ydr (r:Rgs) (i:Int):V:=if 0<=i then .ptr ⟨0,0,2⟩ ((0+i.toNat)*8) r.es.length else .d .nilp
abbrev yoc (r:Rgs) (i:Int):V:=if 0<=i then .ptr ⟨0,0,4⟩ ((0+i.toNat)*5) r.cs.length else .d .nilp
section
variable {E : Oracle} (g : Good E)
include g
theorem z0e (t:Nat) (ev:List Evt) (r:Rgs) (nm:List UInt8) (hl:r.es.length<=1000000):Qs E zbn [.ptr ⟨0,0,0⟩ 1 0,S nm] (mR t ev r) (ydr r (zpz r.es nm)):=by
 refine⟨?_⟩
 refine In.enter (f:=zbn) g.lim rfl rfl ?_
 have hml:(r.es.flatMap Ent.cells).length=r.es.length*8:=zae Ent.cells 8 zot r.es
 repeat' ((conv=>whnf);first
 | refine Yz ?_
  | (refine In.enter (f:=zar) g.lim rfl rfl ?_)
  | fail)
 refine zak.to (zak.upP g (fun k=>[(0,.ref ⟨0,0,2⟩ 0 r.es.length r.es.length),(1,.fn zc7 [] [.ptr ⟨1,3,0⟩ 0 0]),(7,I r.es.length),(8,I k)]) (fun _=>mR t ev r++[(⟨1,3,0⟩,.cells zab [S nm])]) (fun k=>∀j,(hj:j<k)->(hj':j<r.es.length)->decide (r.es[j].nm=nm)=false) r.es.length (fun k hk hp ih=> ?_) 0 (Nat.zero_le _) (fun j h _=>absurd h (Nat.not_lt_zero _))) rfl rfl
 by_cases hlt:k<r.es.length
 ·have hwin:win (r.es.flatMap Ent.cells) ((0+((k:Nat):Int).toNat)*8) 8=r.es[k].cells:=by
   rw [Nat.zero_add,Int.toNat_natCast]
   exact zbx Ent.cells 8 zot r.es k hlt
  by_cases he:r.es[k].nm=nm
  ·have hi:zpz r.es nm=k:=zow (p:=fun x:Ent=>decide (x.nm=nm)) hlt (decide_eq_true he) fun j hj=>hp j hj (by omega)
   rw [hi,ydr,if_pos (by omega)]
   repeat' ((conv=>whnf);first
   | refine Yz ?_
    | (rw [hwin];refine In.enter (f:=zc7) g.lim rfl rfl ?_)
    | (refine Cmp.tt he ?_)
    | (exact⟨rfl,rfl,rfl,rfl,rfl,rfl,trivial⟩)
    | fail)
  ·have ih:=ih hlt fun j hj hj'=>by
    by_cases e:j=k
    ·subst e;exact decide_eq_false he
    ·exact hp j (by omega) hj'
   repeat' ((conv=>whnf);first
   | refine Yz ?_
    | (rw [hwin];refine In.enter (f:=zc7) g.lim rfl rfl ?_)
    | (refine Cmp.ff he ?_)
    | (refine zak.to ih rfl rfl)
    | fail)
 ·obtain rfl:k=r.es.length:=by omega
  have hi:zpz r.es nm= -1:=zmq (p:=fun x:Ent=>decide (x.nm=nm)) fun j hj=>hp j hj hj
  rw [hi,ydr,if_neg (by decide)]
  repeat' ((conv=>whnf);first
  | refine Yz ?_
   | (exact⟨rfl,rfl,rfl,rfl,rfl,rfl,trivial⟩)
   | fail)
theorem zsv (t:Nat) (ev:List Evt) (r:Rgs) (nm:List UInt8) (hl:r.cs.length<=1000000):Qs E zb0 [.ptr ⟨0,0,0⟩ 1 0,S nm] (mR t ev r) (yoc r (zwz r.cs nm)):=by
 refine⟨?_⟩
 refine In.enter (f:=zb0) g.lim rfl rfl ?_
 have hml:(r.cs.flatMap Cpl.cells).length=r.cs.length*5:=zae Cpl.cells 5 zs4 r.cs
 repeat' ((conv=>whnf);first
 | refine Yz ?_
  | (refine In.enter (f:=zbb) g.lim rfl rfl ?_)
  | fail)
 refine zak.to (zak.upP g (fun k=>[(0,.ref ⟨0,0,4⟩ 0 r.cs.length r.cs.length),(1,.fn zb9 [] [.ptr ⟨1,3,0⟩ 0 0]),(7,I r.cs.length),(8,I k)]) (fun _=>mR t ev r++[(⟨1,3,0⟩,.cells zab [S nm])]) (fun k=>∀j,(hj:j<k)->(hj':j<r.cs.length)->decide (r.cs[j].nm=nm)=false) r.cs.length (fun k hk hp ih=> ?_) 0 (Nat.zero_le _) (fun j h _=>absurd h (Nat.not_lt_zero _))) rfl rfl
 by_cases hlt:k<r.cs.length
 ·have hwin:win (r.cs.flatMap Cpl.cells) ((0+((k:Nat):Int).toNat)*5) 5=r.cs[k].cells:=by
   rw [Nat.zero_add,Int.toNat_natCast]
   exact zbx Cpl.cells 5 zs4 r.cs k hlt
  by_cases he:r.cs[k].nm=nm
  ·have hi:zwz r.cs nm=k:=zow (p:=fun x:Cpl=>decide (x.nm=nm)) hlt (decide_eq_true he) fun j hj=>hp j hj (by omega)
   rw [hi,yoc,if_pos (by omega)]
   repeat' ((conv=>whnf);first
   | refine Yz ?_
    | (rw [hwin];refine In.enter (f:=zb9) g.lim rfl rfl ?_)
    | (refine Cmp.tt he ?_)
    | (exact⟨rfl,rfl,rfl,rfl,rfl,rfl,trivial⟩)
    | fail)
  ·have ih:=ih hlt fun j hj hj'=>by
    by_cases e:j=k
    ·subst e;exact decide_eq_false he
    ·exact hp j (by omega) hj'
   repeat' ((conv=>whnf);first
   | refine Yz ?_
    | (rw [hwin];refine In.enter (f:=zb9) g.lim rfl rfl ?_)
    | (refine Cmp.ff he ?_)
    | (refine zak.to ih rfl rfl)
    | fail)
 ·obtain rfl:k=r.cs.length:=by omega
  have hi:zwz r.cs nm= -1:=zmq (p:=fun x:Cpl=>decide (x.nm=nm)) fun j hj=>hp j hj hj
  rw [hi,yoc,if_neg (by decide)]
  repeat' ((conv=>whnf);first
  | refine Yz ?_
   | (exact⟨rfl,rfl,rfl,rfl,rfl,rfl,trivial⟩)
   | fail)
end
inductive Ch (es:List Ent):Nat->List Ent->Prop
 | stop (k:Nat) (hk:k<es.length) (h:zpz es es[k].bs= -1):Ch es k [es[k]]
 | step (k j:Nat) (tl:List Ent) (hk:k<es.length) (h:zpz es es[k].bs=j) (ht:Ch es j tl):Ch es k (es[k]::tl)
def z4h (rs:List Rmv) (nm:List UInt8) (kn:Int):Bool:=rs.any fun z=>decide (z.en=nm/\z.kn<=kn)
abbrev mC (t:Nat) (ev:List Evt) (r:Rgs) (x:Ent) (kn:Int):Mem:=mR t ev r++[(⟨1,3,0⟩,.cells za9 [.ptr ⟨0,0,0⟩ 1 0]),(⟨1,4,0⟩,.cells zac [S x.nm,S x.kd,S x.sr,S x.bs,I x.kn,I x.fr,I x.to,I x.mi]),(⟨1,5,0⟩,.cells zci [I kn])]
section
variable {E : Oracle} (g : Good E)
include g
theorem z6r (t:Nat) (ev:List Evt) (r:Rgs) (x y:Ent) (kn:Int) (hl:r.rs.length<=1000000) {slot:Nat} {K:V->Mem->Prop} (hK:K (B (z4h r.rs y.nm kn)) (mC t ev r x kn)):
  In E 4 zcw [yuv y,.ptr ⟨1,3,0⟩ 0 0,.ptr ⟨1,5,0⟩ 0 0] (mC t ev r x kn) fun v m'=>zzc ⟨3,4⟩ slot true v m' K:=by
 refine In.enter (f:=zcw) g.lim rfl rfl ?_
 have hml:(r.rs.flatMap Rmv.cells).length=r.rs.length*2:=zae Rmv.cells 2 yml r.rs
 repeat' ((conv=>whnf);first
 | refine Yz ?_
  | (refine In.enter (f:=zbd) g.lim rfl rfl ?_)
  | (refine In.enter (f:=zbk) g.lim rfl rfl ?_)
  | fail)
 refine zak.to (zak.upP g (fun k=>[(0,.ref ⟨0,0,3⟩ 0 r.rs.length r.rs.length),(1,.fn zbq [] [.ptr ⟨4,3,0⟩ 0 0,.ptr ⟨1,5,0⟩ 0 0]),(7,I r.rs.length),(8,I k)]) (fun _=>mC t ev r x kn++[(⟨4,3,0⟩,.cells zac [S y.nm,S y.kd,S y.sr,S y.bs,I y.kn,I y.fr,I y.to,I y.mi])])
  (fun k=>∀j,(hj:j<r.rs.length)->j<k->¬(r.rs[j].en=y.nm/\r.rs[j].kn<=kn)) r.rs.length (fun k hk hp ih=> ?_) 0 (Nat.zero_le _) (fun j _ h=>absurd h (Nat.not_lt_zero _))) rfl rfl
 by_cases hlt:k<r.rs.length
 ·have hwin:win (r.rs.flatMap Rmv.cells) ((0+((k:Nat):Int).toNat)*2) 2=r.rs[k].cells:=by
   rw [Nat.zero_add,Int.toNat_natCast]
   exact zbx Rmv.cells 2 yml r.rs k hlt
  by_cases he:r.rs[k].en=y.nm
  ·by_cases hn:r.rs[k].kn<=kn
   ·have hb:z4h r.rs y.nm kn=true:=List.any_eq_true.2 ⟨_,List.getElem_mem hlt,decide_eq_true ⟨he,hn⟩⟩
    rw [hb] at hK
    repeat' ((conv=>whnf);first
    | refine Yz ?_
     | (rw [hwin];refine In.enter (f:=zbq) g.lim rfl rfl ?_)
     | (refine Cmp.tt he ?_)
     | (exact hK)
     | fail)
   ·have ih:=ih hlt fun j hj hjk=>by
     by_cases e:j=k
     ·subst e;exact fun h=>hn h.2
     ·exact hp j hj (by omega)
    repeat' ((conv=>whnf);first
    | refine Yz ?_
     | (rw [hwin];refine In.enter (f:=zbq) g.lim rfl rfl ?_)
     | (refine Cmp.tt he ?_)
     | (refine zak.to ih rfl rfl)
     | fail)
  ·have ih:=ih hlt fun j hj hjk=>by
    by_cases e:j=k
    ·subst e;exact fun h=>he h.1
    ·exact hp j hj (by omega)
   repeat' ((conv=>whnf);first
   | refine Yz ?_
    | (rw [hwin];refine In.enter (f:=zbq) g.lim rfl rfl ?_)
    | (refine Cmp.ff he ?_)
    | (refine zak.to ih rfl rfl)
    | fail)
 ·obtain rfl:k=r.rs.length:=by omega
  have hb:z4h r.rs y.nm kn=false:=by
   unfold z4h
   rw [List.any_eq_false]
   intro z hz
   obtain⟨j,hj,rfl⟩:=List.mem_iff_getElem.1 hz
   simpa using hp j hj hj
  rw [hb] at hK
  repeat' ((conv=>whnf);first
  | refine Yz ?_
   | (exact hK)
   | fail)
theorem yo9 (t:Nat) (ev:List Evt) (r:Rgs) (kn:Int) (hr:r.rs.length<=1000000) (hl:r.es.length<=1000000) (k:Nat) (hk:k<r.es.length) (c:List Ent) (hc:Ch r.es k c) (hcl:c.length<=1000000):
  Qs E zb1 [.ptr ⟨0,0,0⟩ 1 0,yuv r.es[k],I kn] (mR t ev r) (B (decide (r.es[k].kn<=kn)&& !c.any fun y=>z4h r.rs y.nm kn)):=by
 refine⟨?_⟩
 generalize hx:r.es[k]=x at *
 have hml:(r.es.flatMap Ent.cells).length=r.es.length*8:=zae Ent.cells 8 zot r.es
 refine In.enter (f:=zb1) g.lim rfl rfl ?_
 repeat' ((conv=>whnf);first
 | refine Yz ?_
  | (refine In.enter (f:=zdq) g.lim rfl rfl ?_)
  | fail)
 refine zak.to (zak.by (σ:=List Ent×Ent×Nat×List Ent) g (fun u=>(∃hk:u.2.2.1<r.es.length,r.es[u.2.2.1]=u.2.1)/\Ch r.es u.2.2.1 u.2.2.2/\∃pre,u.1=pre++[u.2.1]/\pre++u.2.2.2=c)
  (fun u=>[(0,.ptr ⟨0,0,0⟩ 1 0),(5,.ref ⟨2,8,0⟩ 0 u.1.length u.1.length)])
  (fun u=>mC t ev r x kn++[(⟨2,3,0⟩,.cells zac [S x.nm,S x.kd,S x.sr,S x.bs,I x.kn,I x.fr,I x.to,I x.mi]),(⟨2,4,0⟩,.row false zac 8 0 []),(⟨2,8,0⟩,.row false zac 8 u.1.length (u.1.flatMap Ent.cells))])
  (fun u=>u.2.2.2.length) ?_ ([x],x,k,c) ⟨⟨hk,hx⟩,hc,[],rfl,rfl⟩) rfl rfl
 clear hc hx
 rintro⟨out,y,k,tl⟩ ⟨⟨hk,hy⟩,hc,pre,h1,h2⟩ ih
 dsimp only at hk hy hc h1 h2 ih ⊢
 have hol:out.length=pre.length+1:=by rw [h1];simp
 have hlast:out[pre.length]'(by omega)=y:=by simp [h1]
 have hq:=z0e g t ev r y.bs hl
 have hcl2:pre.length+tl.length<=1000000:=by rw [<-List.length_append,h2];exact hcl
 have hmo:(out.flatMap Ent.cells).length=out.length*8:=zae Ent.cells 8 zot out
 cases hc with
 | stop k hk' h=>
  rw [hy] at h h2
  rw [h,ydr,if_neg (by decide)] at hq
  obtain rfl:out=c:=h1.trans h2
  repeat' ((conv=>whnf);first
  | refine Yz ?_
   | (refine zgw.rec0 zot pre.length (by omega) (by omega) rfl ?_;rw [hlast])
   | (refine zlp.of (r':= .d .nilp) isR rfl rfl rfl rfl hq rfl rfl rfl ?_)
   | (rw [if_pos ⟨rfl,rfl⟩];refine In.enter (f:=zas) g.lim rfl rfl ?_)
   | (refine In.enter (f:=zar) g.lim rfl rfl ?_)
   | fail)
  refine zak.to (zak.upP g (fun k=>[(0,.d (.list out.length (out.flatMap Ent.cells))),(1,.fn zcw [] [.ptr ⟨1,3,0⟩ 0 0,.ptr ⟨1,5,0⟩ 0 0]),(7,I out.length),(8,I k)]) (fun _=>mC t ev r x kn)
   (fun k=>∀j,(hj:j<out.length)->j<k->z4h r.rs out[j].nm kn=false) out.length (fun m hm hp ihm=> ?_) 0 (Nat.zero_le _) (fun j _ h=>absurd h (Nat.not_lt_zero _))) rfl rfl
  by_cases hlt:m<out.length
  ·have hwin:win (out.flatMap Ent.cells) (((m:Nat):Int).toNat*8) 8=out[m].cells:=by
    rw [Int.toNat_natCast]
    exact zbx Ent.cells 8 zot out m hlt
   cases hb:z4h r.rs out[m].nm kn with
   | true=>
    have ha:(out.any fun y=>z4h r.rs y.nm kn)=true:=List.any_eq_true.2 ⟨_,List.getElem_mem hlt,hb⟩
    rw [ha,Bool.not_true,Bool.and_false]
    by_cases hkn:x.kn<=kn
    all_goals repeat' ((conv=>whnf);first
    | refine Yz ?_
     | (rw [hwin];refine z6r g t ev r x out[m] kn hr (slot:=16) ?_;rw [hb])
     | (exact⟨rfl,rfl,rfl,rfl,rfl,rfl,trivial⟩)
     | fail)
   | false=>
    have ihm:=ihm hlt fun j hj hjm=>by
     by_cases e:j=m
     ·subst e;exact hb
     ·exact hp j hj (by omega)
    repeat' ((conv=>whnf);first
    | refine Yz ?_
     | (rw [hwin];refine z6r g t ev r x out[m] kn hr (slot:=16) ?_;rw [hb])
     | (refine zak.to ihm rfl rfl)
     | fail)
  ·obtain rfl:m=out.length:=by omega
   have ha:(out.any fun y=>z4h r.rs y.nm kn)=false:=by
    rw [List.any_eq_false]
    intro z hz
    obtain⟨j,hj,rfl⟩:=List.mem_iff_getElem.1 hz
    rw [hp j hj hj];decide
   rw [ha,Bool.not_false,Bool.and_true]
   by_cases hkn:x.kn<=kn
   ·rw [decide_eq_true hkn]
    repeat' ((conv=>whnf);first
    | refine Yz ?_
     | (exact⟨rfl,rfl,rfl,rfl,rfl,rfl,trivial⟩)
     | fail)
   ·rw [decide_eq_false hkn]
    repeat' ((conv=>whnf);first
    | refine Yz ?_
     | (exact⟨rfl,rfl,rfl,rfl,rfl,rfl,trivial⟩)
     | fail)
 | step k j tl hk' h ht=>
  rw [hy] at h h2
  rw [h,ydr,if_pos (by omega)] at hq
  obtain⟨hj,hj'⟩:∃hj:j<r.es.length,True:=by
   cases ht with
   | stop _ hj _=>exact⟨hj,trivial⟩
   | step _ _ _ hj _ _=>exact⟨hj,trivial⟩
  have hwin:win (r.es.flatMap Ent.cells) ((0+((j:Nat):Int).toNat)*8) 8=r.es[j].cells:=by
   rw [Nat.zero_add,Int.toNat_natCast]
   exact zbx Ent.cells 8 zot r.es j hj
  simp only [List.length_cons] at hcl2
  have ih:=ih (out++[r.es[j]],r.es[j],j,tl) ⟨⟨hj,rfl⟩,ht,out,rfl,by rw [h1,List.append_assoc];exact h2⟩ (by simp)
  simp only [List.length_append,List.length_cons,List.length_nil,List.flatMap_append,List.flatMap_cons,List.flatMap_nil] at ih
  repeat' ((conv=>whnf);first
  | refine Yz ?_
   | (refine zgw.rec0 zot pre.length (by omega) (by omega) rfl ?_;rw [hlast])
   | (refine zlp.of (r':= .ptr ⟨0,0,2⟩ ((0+((j:Nat):Int).toNat)*8) r.es.length) isR rfl rfl rfl rfl hq rfl rfl rfl ?_)
   | (rw [hwin])
   | (refine zcp.mk ⟨rfl,rfl,rfl,rfl,rfl,rfl,by dsimp only;omega,by omega⟩ ?_)
   | (refine zak.to ih rfl rfl)
   | fail)
end
def chF:Nat->List Ent->Ent->List Ent
 | 0,_,x=>[x]
 | n+1,es,x=>if h:0<=zpz es x.bs/\(zpz es x.bs).toNat<es.length then x::chF n es es[(zpz es x.bs).toNat] else [x]
def ys9 (es:List Ent):Prop:=∀k,(hk:k<es.length)->zpz es es[k].bs<k
theorem zf0 (es:List Ent) (nm:List UInt8):(zpz es nm= -1/\∀j,(hj:j<es.length)->es[j].nm≠nm)\/∃k,∃hk:k<es.length,zpz es nm=k/\es[k].nm=nm/\∀j,(hj:j<k)->(es[j]'(by omega)).nm≠nm:=by
 rcases z6q (fun x:Ent=>decide (x.nm=nm)) es with⟨h1,h2⟩|⟨k,hk,h1,h2,h3⟩
 ·exact .inl ⟨h1,fun j hj=>of_decide_eq_false (h2 j hj)⟩
 ·exact .inr ⟨k,hk,h1,of_decide_eq_true h2,fun j hj=>of_decide_eq_false (h3 j hj)⟩
theorem zn7 (cs:List Cpl) (nm:List UInt8):zwz cs nm= -1\/∃k,∃hk:k<cs.length,zwz cs nm=k/\cs[k].nm=nm:=by
 rcases z6q (fun x:Cpl=>decide (x.nm=nm)) cs with⟨h1,_⟩|⟨k,hk,h1,h2,_⟩
 ·exact .inl h1
 ·exact .inr ⟨k,hk,h1,of_decide_eq_true h2⟩
theorem z6c {es:List Ent} (hb:ys9 es):∀(n k:Nat),k<=n->(hk:k<es.length)->Ch es k (chF n es es[k])
 | 0,k,hn,hk=>by
  obtain rfl:k=0:=by omega
  have h:=hb 0 hk
  rcases zf0 es es[0].bs with⟨h1,_⟩|⟨j,_,h1,_⟩
  ·exact .stop 0 hk h1
  ·omega
 | n+1,k,hn,hk=>by
  have h:=hb k hk
  rcases zf0 es es[k].bs with⟨h1,_⟩|⟨j,hj,h1,_⟩
  ·unfold chF
   rw [dif_neg (by omega)]
   exact .stop k hk h1
  ·have e:(zpz es es[k].bs).toNat=j:=by omega
   unfold chF
   rw [dif_pos ⟨by omega,by omega⟩]
   simp only [e]
   exact .step k j _ hk h1 (z6c hb n j (by omega) hj)
theorem ydn (es:List Ent):∀(n:Nat) (x:Ent),(chF n es x).length<=n+1
 | 0,x=>by simp [chF]
 | n+1,x=>by
  unfold chF
  split
  ·have:=ydn es n es[(zpz es x.bs).toNat]
   simp only [List.length_cons];omega
  ·simp
theorem Ch.det {es:List Ent} {k:Nat} {a b:List Ent} (ha:Ch es k a) (hb:Ch es k b):a=b:=by
 induction ha generalizing b with
 | stop k hk h=>
  cases hb with
  | stop _ _ _=>rfl
  | step _ j _ _ h' _=>rw [h] at h';omega
 | step k j tl hk h ht ih=>
  cases hb with
  | stop _ _ h'=>rw [h] at h';omega
  | step _ j' tl' _ h' ht'=>
   rw [h] at h'
   obtain rfl:j=j':=by omega
   rw [ih ht']
def z0q (r:Rgs) (x:Ent) (kn:Int):Bool:=decide (x.kn<=kn)&& !(chF r.es.length r.es x).any fun y=>z4h r.rs y.nm kn
structure OkR (r:Rgs):Prop where
 bs:∀k,(hk:k<r.es.length)->r.es[k].bs=[]\/∃j:Nat,j<k/\zpz r.es r.es[k].bs=j
 nm:∀x∈r.es,x.nm≠[]
 asc:r.es.Pairwise fun a b=>a.kn<=b.kn
 top:∀x∈r.es,x.kn<=r.kn
 mi:∀x∈r.es,0<=x.mi/\x.mi<=1440
 es:r.es.length<=256
 rs:r.rs.length<=1000
 cs:r.cs.length<=64
theorem yds {es:List Ent} (h:∀x∈es,x.nm≠[]):zpz es []= -1:=by
 rcases zf0 es [] with⟨h1,_⟩|⟨j,hj,_,h2,_⟩
 ·exact h1
 ·exact absurd h2 (h _ (List.getElem_mem hj))
theorem OkR.bases {r:Rgs} (h:OkR r):ys9 r.es:=by
 intro k hk
 rcases h.bs k hk with e|⟨j,hj,e⟩
 ·rw [e,yds h.nm];omega
 ·omega
theorem OkR.le {r:Rgs} (h:OkR r) {i j:Nat} (hij:i<=j) (hj:j<r.es.length):(r.es[i]'(by omega)).kn<=r.es[j].kn:=by
 by_cases e:i=j
 ·subst e;exact Int.le_refl _
 ·exact List.pairwise_iff_getElem.1 h.asc i j (by omega) hj (by omega)
theorem z8j {r:Rgs} (ho:OkR r) {k:Nat} (hk:k<r.es.length) (h:r.es[k].bs=[]) (kn:Int):z0q r r.es[k] kn=(decide (r.es[k].kn<=kn)&& !z4h r.rs r.es[k].nm kn):=by
 have h1:=z6c ho.bases r.es.length k (by omega) hk
 have h2:Ch r.es k [r.es[k]]:= .stop k hk (by rw [h];exact yds ho.nm)
 unfold z0q
 rw [h1.det h2]
 simp
theorem z8i {r:Rgs} (ho:OkR r) {k j:Nat} (hk:k<r.es.length) (hj:j<k) (h:zpz r.es r.es[k].bs=j) (kn:Int):z0q r r.es[k] kn=(decide (r.es[k].kn<=kn)&& !z4h r.rs r.es[k].nm kn&&z0q r (r.es[j]'(by omega)) kn):=by
 have hjl:j<r.es.length:=by omega
 have h1:=z6c ho.bases r.es.length k (by omega) hk
 have h3:=z6c ho.bases r.es.length j (by omega) hjl
 have h2:Ch r.es k (r.es[k]::chF r.es.length r.es r.es[j]):= .step k j _ hk h h3
 unfold z0q
 rw [h1.det h2]
 have:=ho.le (Nat.le_of_lt hj) hk
 simp only [List.any_cons,Bool.not_or]
 by_cases hkn:r.es[k].kn<=kn
 ·have e:decide (r.es[j].kn<=kn)=true:=decide_eq_true (by omega)
  rw [decide_eq_true hkn,e]
  simp
 ·rw [decide_eq_false hkn]
  simp
def yti:Ent:=⟨[],[],[],[],0,0,0,0⟩
def yf7:Cpl:=⟨[],[],0,false,false⟩
def zyp (r:Rgs) (nm:List UInt8) (kn:Int):Int:=if zpz r.es nm<0 then 10 else if z0q r (r.es.getD (zpz r.es nm).toNat yti) kn then 0 else 20
theorem zyq {r:Rgs} {nm:List UInt8} (h:zpz r.es nm= -1) (kn:Int):zyp r nm kn=10:=by
 unfold zyp
 rw [h,if_pos (by decide)]
theorem zuk {r:Rgs} {nm:List UInt8} {k:Nat} (hk:k<r.es.length) (h:zpz r.es nm=k) (kn:Int):zyp r nm kn=if z0q r r.es[k] kn then 0 else 20:=by
 unfold zyp
 rw [h,if_neg (by omega),Int.toNat_natCast]
 have:r.es.getD k yti=r.es[k]:=by simp [List.getD,hk]
 rw [this]
def ytx (r:Rgs) (nm:List UInt8):Int:=zb5 [if 0<=zpz r.es nm then 9 else 0,if 256<=r.es.length then 5 else 0]
def ztu (r:Rgs) (fol:Bool) (nm b:List UInt8) (kn f t m:Int):Int:=
 if ytx r nm≠0 then ytx r nm
 else if fol=true/\zyp r b kn≠0 then zyp r b kn
 else zb5 [if 99999<f\/99999<t\/1440<m then 3 else 0,if t<f then 11 else 0]
def yaf (r:Rgs) (nm:List UInt8) (kn:Int):Int:=if zpz r.es nm<0 then 10 else zb5 [if(r.es.getD (zpz r.es nm).toNat yti).kd=zz6 then 0 else 13,zyp r nm kn]
def z55 (r:Rgs) (nm en:List UInt8) (kn:Int):Int:=zb5 [if 0<=zwz r.cs nm then 9 else 0,if 64<=r.cs.length then 5 else 0,zyp r en kn]
def zs1 (r:Rgs) (nm:List UInt8) (v:Int):Int:=if zwz r.cs nm<0 then 10 else zb5 [if(r.cs.getD (zwz r.cs nm).toNat yf7).cl then 20 else 0,if 1<v then 3 else 0]
def nmN (e:Evt) (i:Nat):List UInt8:=e.ns.getD i []
def vlN (e:Evt) (i:Nat):Int:=e.vs.getD i 0
def yk1 (k:List UInt8):Bool:=decide (k=zv3)||decide (k=zz6)||decide (k=zby)
def z41 (r:Rgs) (e:Evt):Int:=
 if yk1 e.ki then ztu r (decide (e.ki=zby)) (nmN e 0) (nmN e 2) (vlN e 0) (vlN e 1) (vlN e 2) (vlN e 3)
 else if e.ki=zdo then yaf r (nmN e 0) (vlN e 0)
 else if e.ki=zcn then z55 r (nmN e 0) (nmN e 1) (vlN e 0)
 else zs1 r (nmN e 0) (vlN e 1)
def yqe (r:Rgs) (n:Nat) (e:Evt):Int:=zb5 [if e.nu=n+1 then 0 else 11,if vlN e 0<r.kn then 19 else 0,if 99999<vlN e 0 then 3 else 0]
def yac (r:Rgs) (n:Nat) (e:Evt):Int:=if yqe r n e≠0 then yqe r n e else z41 r e
def z8m (e:Evt):Ent:=⟨nmN e 0,e.ki,nmN e 1,if e.ki=zby then nmN e 2 else [],vlN e 0,vlN e 1,vlN e 2,vlN e 3⟩
def zq5 (r:Rgs) (e:Evt):Rgs:=
 if yk1 e.ki then {r with kn:=vlN e 0,es:=r.es++[z8m e]}
 else if e.ki=zdo then {r with kn:=vlN e 0,rs:=r.rs++[⟨nmN e 0,vlN e 0⟩]}
 else if e.ki=zcn then {r with kn:=vlN e 0,cs:=r.cs++[⟨nmN e 0,nmN e 1,vlN e 0,false,false⟩]}
 else
  let c:=r.cs.getD (zwz r.cs (nmN e 0)).toNat yf7
  {r with kn:=vlN e 0,cs:=r.cs.set (zwz r.cs (nmN e 0)).toNat {c with cl:=true,up:=decide (vlN e 1=1)},rs:=if vlN e 1=1 then r.rs++[⟨c.en,vlN e 0⟩] else r.rs}
def zia (r:Rgs) (n:Nat) (e:Evt):Int:=if zml e≠0 then zml e else yac r n e
def rg0:Rgs:=⟨0,[],[],[]⟩
def zdb:Rgs->Nat->List Evt->Rgs×Nat×Int
 | r,_,[]=>(r,0,0)
 | r,n,e::l=>if zia r n e≠0 then(rg0,n+1,zia r n e) else zdb (zq5 r e) (n+1) l
theorem zs3 {e:Evt} (h:zml e=0):zfs e.ki=true/\e.ns.length=zea e.ki/\e.vs.length=zmo e.ki/\(∀s∈e.ns,zcj s=true)/\(∀v∈e.vs,0<=v/\v<=999999999)/\e.tx=[]/\1<=e.nu/\e.nu<=1000:=by
 unfold zml at h
 rw [zit] at h
 have h1:=h (rng e.nu 1 1000) (by simp)
 have h2:=h (if !zfs e.ki then 13 else 0) (by simp)
 have h3:=h (if e.ns.length≠zea e.ki\/e.vs.length≠zmo e.ki then 2 else 0) (by simp)
 have h4:=h (if zqc e.ns then 8 else 0) (by simp)
 have h5:=h (if far e.vs then 3 else 0) (by simp)
 have h6:=h (if e.tx≠[] then 1 else 0) (by simp)
 refine⟨?_,?_,?_,?_,?_,?_,?_⟩
 ·cases hk:zfs e.ki
  ·rw [hk] at h2;simp at h2
  ·rfl
 ·exact Decidable.byContradiction fun hn=>by rw [if_pos (.inl hn)] at h3;omega
 ·exact Decidable.byContradiction fun hn=>by rw [if_pos (.inr hn)] at h3;omega
 ·intro s hs
  have:zqc e.ns=false:=by cases hh:zqc e.ns with|false=>rfl|true=>rw [hh] at h4;simp at h4
  unfold zqc at this
  rw [List.any_eq_false] at this
  have:=this s hs
  simpa using this
 ·intro v hv
  have:far e.vs=false:=by cases hh:far e.vs with|false=>rfl|true=>rw [hh] at h5;simp at h5
  unfold far at this
  rw [List.any_eq_false] at this
  have:=this v hv
  simp only [yoh,decide_eq_true_eq] at this
  omega
 ·exact Decidable.byContradiction fun hn=>by rw [if_pos hn] at h6;omega
 ·unfold rng at h1
  split at h1
  ·omega
  ·omega
theorem z0p {r:Rgs} {n:Nat} {e:Evt} (h:yac r n e=0):e.nu=n+1/\r.kn<=vlN e 0/\vlN e 0<=99999/\z41 r e=0:=by
 unfold yac at h
 split at h
 ·rename_i h1;exact absurd h h1
 ·rename_i h1
  have h1:=Decidable.byContradiction h1
  rw [yqe,zit] at h1
  have a:=h1 (if e.nu=n+1 then 0 else 11) (by simp)
  have b:=h1 (if vlN e 0<r.kn then 19 else 0) (by simp)
  have c:=h1 (if 99999<vlN e 0 then 3 else 0) (by simp)
  refine⟨?_,?_,?_,h⟩
  ·exact Decidable.byContradiction fun hn=>by rw [if_neg hn] at a;omega
  ·exact Int.not_lt.1 fun hn=>by rw [if_pos hn] at b;omega
  ·exact Int.not_lt.1 fun hn=>by rw [if_pos hn] at c;omega
theorem zur {r:Rgs} {n:Nat} {e:Evt} (h:zia r n e=0):zml e=0/\yac r n e=0:=by
 unfold zia at h
 split at h
 ·rename_i h1;exact absurd h h1
 ·rename_i h1;exact⟨Decidable.byContradiction h1,h⟩
theorem z2n {r:Rgs} {fol:Bool} {nm b:List UInt8} {kn f t m:Int} (h:ztu r fol nm b kn f t m=0):
  zpz r.es nm= -1/\r.es.length<256/\(fol=true->zyp r b kn=0)/\f<=99999/\t<=99999/\m<=1440/\f<=t:=by
 unfold ztu at h
 split at h
 ·rename_i h1;exact absurd h h1
 ·rename_i h1
  have h1:=Decidable.byContradiction h1
  rw [ytx,zit] at h1
  have a:=h1 (if 0<=zpz r.es nm then 9 else 0) (by simp)
  have b':=h1 (if 256<=r.es.length then 5 else 0) (by simp)
  split at h
  ·rename_i h2;exact absurd h h2.2
  ·rename_i h2
   rw [zit] at h
   have c:=h (if 99999<f\/99999<t\/1440<m then 3 else 0) (by simp)
   have d:=h (if t<f then 11 else 0) (by simp)
   refine⟨?_,?_,?_,?_⟩
   ·rcases zf0 r.es nm with⟨e,_⟩|⟨k,_,e,_⟩
    ·exact e
    ·rw [if_pos (by omega)] at a;omega
   ·exact Nat.lt_of_not_le fun hn=>by rw [if_pos hn] at b';omega
   ·intro hf;exact Decidable.byContradiction fun hn=>h2 ⟨hf,hn⟩
   ·by_cases hc:99999<f\/99999<t\/1440<m
    ·rw [if_pos hc] at c;omega
    ·by_cases hd:t<f
     ·rw [if_pos hd] at d;omega
     ·omega
theorem ygc {es:List Ent} {x:Ent} {nm:List UInt8} {k:Nat} (h:zpz es nm=k):zpz (es++[x]) nm=k:=by
 rcases zf0 es nm with⟨e,_⟩|⟨j,hj,e,h2,h3⟩
 ·omega
 ·obtain rfl:j=k:=by omega
  refine zow (p:=fun x:Ent=>decide (x.nm=nm)) (by rw [List.length_append];omega) ?_ ?_
  ·rw [List.getElem_append_left hj];exact decide_eq_true h2
  ·intro i hi
   rw [List.getElem_append_left (by omega)]
   exact decide_eq_false (h3 i hi)
theorem ylh {s:List UInt8} (h:zcj s=true):s≠[]:=by
 rintro rfl
 exact absurd (of_decide_eq_true h).1 (by decide)
theorem yg9 {e:Evt} (h:∀s∈e.ns,zcj s=true) {i:Nat} (hi:i<e.ns.length):zcj (nmN e i)=true:=by
 unfold nmN
 rw [List.getD_eq_getElem?_getD,List.getElem?_eq_getElem hi]
 exact h _ (List.getElem_mem hi)
theorem yus {e:Evt} (h:∀v∈e.vs,0<=v/\v<=999999999) (i:Nat):0<=vlN e i/\vlN e i<=999999999:=by
 unfold vlN
 rw [List.getD_eq_getElem?_getD]
 by_cases hi:i<e.vs.length
 ·rw [List.getElem?_eq_getElem hi];exact h _ (List.getElem_mem hi)
 ·rw [List.getElem?_eq_none (by omega)];exact⟨Int.le_refl _,by decide⟩
theorem z6t {k:List UInt8} (h:yk1 k=true):zmo k=4/\2<=zea k/\(k=zby->zea k=3):=by
 simp only [yk1,Bool.or_eq_true,decide_eq_true_eq] at h
 rcases h with(rfl|rfl)|rfl<;>decide
theorem yr9 {r:Rgs} {b:List UInt8} {kn:Int} (h:zyp r b kn=0):∃j,∃hj:j<r.es.length,zpz r.es b=(j:Nat)/\z0q r r.es[j] kn=true:=by
 rcases zf0 r.es b with⟨e,_⟩|⟨j,hj,e,_⟩
 ·rw [zyq e] at h;omega
 ·rw [zuk hj e] at h
  refine⟨j,hj,e,?_⟩
  cases hc:z0q r r.es[j] kn with
  | true=>rfl
  | false=>rw [hc] at h;simp at h
theorem ylw {r:Rgs} (ho:OkR r) {n:Nat} {e:Evt} (h:zia r n e=0) (hr:r.rs.length<1000):OkR (zq5 r e):=by
 obtain⟨h1,h2⟩:=zur h
 obtain⟨a1,a2,a3,a4,a5,_⟩:=zs3 h1
 obtain⟨b1,b2,b3,b4⟩:=z0p h2
 unfold z41 at b4
 unfold zq5
 split at b4
 ·rename_i hk
  rw [if_pos hk]
  obtain⟨f1,f2,f3⟩:=z6t hk
  obtain⟨c1,c2,c3,c4,c5,c6,c7⟩:=z2n b4
  have hkn:(z8m e).kn=vlN e 0:=rfl
  refine⟨?_,?_,?_,?_,?_,?_,ho.rs,ho.cs⟩
  ·intro k hk'
   dsimp only at hk' ⊢
   rw [List.length_append,List.length_singleton] at hk'
   by_cases hl:k<r.es.length
   ·rw [List.getElem_append_left hl]
    rcases ho.bs k hl with e1|⟨j,hj,e1⟩
    ·exact .inl e1
    ·exact .inr ⟨j,hj,ygc e1⟩
   ·obtain rfl:k=r.es.length:=by omega
    simp only [List.getElem_concat_length]
    by_cases hf:e.ki=zby
    ·right
     obtain⟨j,hj,e1,_⟩:=yr9 (c3 (decide_eq_true hf))
     refine⟨j,hj,?_⟩
     have:(z8m e).bs=nmN e 2:=if_pos hf
     rw [this]
     exact ygc e1
    ·exact .inl (if_neg hf)
  ·intro x hx
   rcases List.mem_append.1 hx with hx|hx
   ·exact ho.nm x hx
   ·rw [List.mem_singleton] at hx;subst hx
    exact ylh (yg9 a4 (by omega))
  ·rw [List.pairwise_append]
   refine⟨ho.asc,List.pairwise_singleton _ _,fun a ha b hb=> ?_⟩
   rw [List.mem_singleton] at hb;subst hb
   have:=ho.top a ha
   omega
  ·intro x hx
   rcases List.mem_append.1 hx with hx|hx
   ·have:=ho.top x hx
    dsimp only
    omega
   ·rw [List.mem_singleton] at hx;subst hx
    exact Int.le_refl _
  ·intro x hx
   rcases List.mem_append.1 hx with hx|hx
   ·exact ho.mi x hx
   ·rw [List.mem_singleton] at hx;subst hx
    exact⟨(yus a5 3).1,c6⟩
  ·dsimp only
   rw [List.length_append,List.length_singleton];omega
 ·rename_i hk
  rw [if_neg hk]
  have htop:∀x∈r.es,x.kn<=vlN e 0:=fun x hx=>Int.le_trans (ho.top x hx) b2
  split at b4
  ·rename_i hk2
   rw [if_pos hk2]
   exact⟨ho.bs,ho.nm,ho.asc,htop,ho.mi,ho.es,by dsimp only;rw [List.length_append,List.length_singleton];omega,ho.cs⟩
  ·rename_i hk2
   rw [if_neg hk2]
   split at b4
   ·rename_i hk3
    rw [if_pos hk3]
    refine⟨ho.bs,ho.nm,ho.asc,htop,ho.mi,ho.es,ho.rs,?_⟩
    dsimp only
    rw [List.length_append,List.length_singleton]
    unfold z55 at b4
    rw [zit] at b4
    have:=b4 (if 64<=r.cs.length then 5 else 0) (by simp)
    by_cases hc:64<=r.cs.length
    ·rw [if_pos hc] at this;omega
    ·omega
   ·rename_i hk3
    rw [if_neg hk3]
    refine⟨ho.bs,ho.nm,ho.asc,htop,ho.mi,ho.es,?_,?_⟩
    ·dsimp only
     split
     ·rw [List.length_append,List.length_singleton];omega
     ·exact ho.rs
    ·dsimp only
     rw [List.length_set];exact ho.cs
theorem yfw (r:Rgs) (e:Evt):(zq5 r e).rs.length<=r.rs.length+1:=by
 unfold zq5
 split
 ·simp
 ·split
  ·simp
  ·split
   ·simp
   ·dsimp only
    split<;>simp
theorem ylx:OkR rg0:=⟨fun k hk=>absurd hk (Nat.not_lt_zero _),by simp [rg0],List.Pairwise.nil,by simp [rg0],by simp [rg0],by simp [rg0],by simp [rg0],by simp [rg0]⟩
theorem yhs:∀(l:List Evt) (r:Rgs) (n:Nat),OkR r->r.rs.length<=n->n+l.length<=1000->(zdb r n l).2.2=0->OkR (zdb r n l).1
 | [],r,n,ho,_,_,_=>ho
 | e::l,r,n,ho,hr,hl,h=>by
  rw [List.length_cons] at hl
  unfold zdb at h ⊢
  split at h
  ·rename_i h1;exact absurd h h1
  ·rename_i h1
   rw [if_neg h1]
   have:=yfw r e
   exact yhs l (zq5 r e) (n+1) (ylw ho (Decidable.byContradiction h1) (by omega)) (by omega) (by omega) h
theorem zej (r:Rgs) (n:Nat) (e:Evt) (l:List Evt):zdb r n (e::l)=if zia r n e≠0 then(rg0,n+1,zia r n e) else zdb (zq5 r e) (n+1) l:=rfl
theorem zun:∀(l:List Evt) (r:Rgs) (n:Nat) (m:List Evt),zdb r n (l++m)=if(zdb r n l).2.2≠0 then zdb r n l else zdb (zdb r n l).1 (n+l.length) m
 | [],r,n,m=>by simp [zdb]
 | e::l,r,n,m=>by
  rw [List.cons_append,zej,zej]
  by_cases h:zia r n e≠0
  ·rw [if_pos h,if_pos h]
   exact(if_pos h).symm
  ·rw [if_neg h,if_neg h,zun l,List.length_cons,show n+(l.length+1)=n+1+l.length by omega]
section
variable {E : Oracle} (g : Good E)
include g
theorem ysd (t:Nat) (ev:List Evt) (r:Rgs) (ho:OkR r) (kn:Int) (k:Nat) (hk:k<r.es.length):Qs E zb1 [.ptr ⟨0,0,0⟩ 1 0,yuv r.es[k],I kn] (mR t ev r) (B (z0q r r.es[k] kn)):=by
 have h1:=ydn r.es r.es.length r.es[k]
 have h2:=ho.es
 exact yo9 g t ev r kn (by have:=ho.rs;omega) (by omega) k hk _ (z6c ho.bases r.es.length k (by omega) hk) (by omega)
theorem yl7 (t:Nat) (ev:List Evt) (r:Rgs) (ho:OkR r) (nm:List UInt8) (kn:Int):Qs E zc5 [.ptr ⟨0,0,0⟩ 1 0,S nm,I kn] (mR t ev r) (I (zyp r nm kn)):=by
 refine⟨?_⟩
 have hes:=ho.es
 have hml:(r.es.flatMap Ent.cells).length=r.es.length*8:=zae Ent.cells 8 zot r.es
 have hq:=z0e g t ev r nm (by omega)
 refine In.enter (f:=zc5) g.lim rfl rfl ?_
 rcases zf0 r.es nm with⟨h,_⟩|⟨k,hk,h,hnm,_⟩
 ·rw [zyq h]
  rw [h,ydr,if_neg (by decide)] at hq
  repeat' ((conv=>whnf);first
  | refine Yz ?_
   | (refine zlp.of (r':= .d .nilp) isR rfl rfl rfl rfl hq rfl rfl rfl ?_)
   | (exact⟨rfl,rfl,rfl,rfl,rfl,rfl,trivial⟩)
   | fail)
 ·rw [zuk hk h]
  rw [h,ydr,if_pos (by omega)] at hq
  have hc:=ysd g t ev r ho kn k hk
  have hwin:win (r.es.flatMap Ent.cells) ((0+((k:Nat):Int).toNat)*8) 8=r.es[k].cells:=by
   rw [Nat.zero_add,Int.toNat_natCast]
   exact zbx Ent.cells 8 zot r.es k hk
  cases hb:z0q r r.es[k] kn with
  | true=>
   rw [hb] at hc
   have hw:Fc E zao [B false,I 20] (I 0):=zup g false 20
   repeat' ((conv=>whnf);first
   | refine Yz ?_
    | (refine zlp.of (r':= .ptr ⟨0,0,2⟩ ((0+((k:Nat):Int).toNat)*8) r.es.length) isR rfl rfl rfl rfl hq rfl rfl rfl ?_)
    | (rw [hwin];refine zlp.of (r':=B true) isR rfl rfl rfl rfl hc rfl rfl rfl ?_)
    | (apply zai.of;assumption)
    | (exact⟨rfl,rfl,rfl,rfl,rfl,rfl,trivial⟩)
    | fail)
  | false=>
   rw [hb] at hc
   have hw:Fc E zao [B true,I 20] (I 20):=zup g true 20
   repeat' ((conv=>whnf);first
   | refine Yz ?_
    | (refine zlp.of (r':= .ptr ⟨0,0,2⟩ ((0+((k:Nat):Int).toNat)*8) r.es.length) isR rfl rfl rfl rfl hq rfl rfl rfl ?_)
    | (rw [hwin];refine zlp.of (r':=B false) isR rfl rfl rfl rfl hc rfl rfl rfl ?_)
    | (apply zai.of;assumption)
    | (exact⟨rfl,rfl,rfl,rfl,rfl,rfl,trivial⟩)
    | fail)
theorem zg1 (b:Bool) (e:Int):Fc E zao [B b,I e] (I (if b then e else 0)):=zup g b e
theorem ze4 (a b:Int):Fc E zbi [.d (.list 2 [DI a,DI b])] (I (zb5 [a,b])):=z9s g [a,b] (by simp)
theorem zmd (a b c:Int):Fc E zbi [.d (.list 3 [DI a,DI b,DI c])] (I (zb5 [a,b,c])):=z9s g [a,b,c] (by simp)
theorem ye0 (t:Nat) (ev:List Evt) (r:Rgs) (ho:OkR r) (nu:Int) (ki:List UInt8) (a s:List UInt8) (more:List (List UInt8)) (b:List UInt8) (kn f u m:Int) (tx:List UInt8) (hb:ki=zby->more=[b]):
  Qs E zat [.ptr ⟨0,0,0⟩ 1 0,Evv ⟨nu,ki,a::s::more,[kn,f,u,m],tx⟩] (mR t ev r) (I (ztu r (decide (ki=zby)) a b kn f u m)):=by
 refine⟨?_⟩
 have hes:=ho.es
 have hq:=z0e g t ev r a (by omega)
 have hov:=yl7 g t ev r ho b kn
 change In E 1 zat [.ptr ⟨0,0,0⟩ 1 0,.d (.agg [DI nu,.str ki,.list (more.length+1+1) (.str a:: .str s::more.map D.str),.list 4 [DI kn,DI f,DI u,DI m],.str tx])] (mR t ev r) _
 refine In.enter (f:=zat) g.lim rfl rfl ?_
 unfold ztu ytx
 generalize hA:zpz r.es a=i at *
 have hlist:more.map D.str=more.map D.str:=rfl
 by_cases hi:0<=i
 ·rw [if_pos hi,show zb5 [9,if 256<=r.es.length then 5 else 0]=9 from rfl,if_pos (by decide)]
  rw [ydr,if_pos hi] at hq
  by_cases h256:256<=r.es.length
  all_goals
   repeat' ((conv=>whnf);first
   | refine Yz ?_
    | (refine zlp.of (r':= .ptr ⟨0,0,2⟩ ((0+i.toNat)*8) r.es.length) isR rfl rfl rfl rfl hq rfl rfl rfl ?_)
    | (refine zai.of (zg1 g _ _) ?_)
    | (refine zai.of (ze4 g _ _) ?_)
    | (exact⟨rfl,rfl,rfl,rfl,rfl,rfl,trivial⟩)
   | fail)
 ·rw [if_neg hi]
  rw [ydr,if_neg hi] at hq
  by_cases h256:256<=r.es.length
  ·rw [if_pos h256,show zb5 [0,5]=5 from rfl,if_pos (by decide)]
   repeat' ((conv=>whnf);first
   | refine Yz ?_
    | (refine zlp.of (r':= .d .nilp) isR rfl rfl rfl rfl hq rfl rfl rfl ?_)
    | (refine zai.of (zg1 g _ _) ?_)
    | (refine zai.of (ze4 g _ _) ?_)
    | (exact⟨rfl,rfl,rfl,rfl,rfl,rfl,trivial⟩)
   | fail)
  ·rw [if_neg h256,show zb5 [0,0]=0 from rfl,if_neg (by decide)]
   by_cases hf:ki=zby
   ·obtain rfl:=hb hf
    rw [decide_eq_true hf]
    generalize zyp r b kn=o at *
    by_cases ho0:o=0
    ·rw [if_neg (fun h=>h.2 ho0)]
     by_cases c1:99999<f
     all_goals by_cases c2:99999<u
     all_goals by_cases c3:1440<m
     all_goals by_cases c4:u<f
     all_goals
      repeat' ((conv=>whnf);first
      | refine Yz ?_
       | (refine zlp.of (r':= .d .nilp) isR rfl rfl rfl rfl hq rfl rfl rfl ?_)
       | (refine zlp.of (r':=I o) isR rfl rfl rfl rfl hov rfl rfl rfl ?_)
       | (refine Cmp.tt hf ?_)
       | (refine zai.of (zg1 g _ _) ?_)
       | (refine zai.of (ze4 g _ _) ?_)
       | (exact⟨rfl,rfl,rfl,rfl,rfl,rfl,trivial⟩)
      | (refine⟨?_,rfl,rfl,rfl,rfl,rfl,trivial⟩)
      | (exfalso;omega)
      | fail)
     all_goals simp [c1,c2,c3,c4,zb5]
    ·rw [if_pos ⟨rfl,ho0⟩]
     repeat' ((conv=>whnf);first
     | refine Yz ?_
      | (refine zlp.of (r':= .d .nilp) isR rfl rfl rfl rfl hq rfl rfl rfl ?_)
      | (refine zlp.of (r':=I o) isR rfl rfl rfl rfl hov rfl rfl rfl ?_)
      | (refine Cmp.tt hf ?_)
      | (refine Cmp.ff ho0 ?_)
      | (refine zai.of (zg1 g _ _) ?_)
      | (refine zai.of (ze4 g _ _) ?_)
      | (exact⟨rfl,rfl,rfl,rfl,rfl,rfl,trivial⟩)
     | fail)
   ·rw [decide_eq_false hf,if_neg (fun h=>by cases h.1)]
    by_cases c1:99999<f
    all_goals by_cases c2:99999<u
    all_goals by_cases c3:1440<m
    all_goals by_cases c4:u<f
    all_goals
     repeat' ((conv=>whnf);first
     | refine Yz ?_
      | (refine zlp.of (r':= .d .nilp) isR rfl rfl rfl rfl hq rfl rfl rfl ?_)
      | (refine Cmp.ff hf ?_)
      | (refine zai.of (zg1 g _ _) ?_)
      | (refine zai.of (ze4 g _ _) ?_)
      | (exact⟨rfl,rfl,rfl,rfl,rfl,rfl,trivial⟩)
     | (refine⟨?_,rfl,rfl,rfl,rfl,rfl,trivial⟩)
     | (exfalso;omega)
     | fail)
    all_goals simp [c1,c2,c3,c4,zb5]
end
section
variable {E : Oracle} (g : Good E)
include g
theorem z9l (t:Nat) (ev:List Evt) (r:Rgs) (ho:OkR r) (nu:Int) (ki a:List UInt8) (kn:Int) (tx:List UInt8):
  Qs E zba [.ptr ⟨0,0,0⟩ 1 0,Evv ⟨nu,ki,[a],[kn],tx⟩] (mR t ev r) (I (yaf r a kn)):=by
 refine⟨?_⟩
 have hes:=ho.es
 have hml:(r.es.flatMap Ent.cells).length=r.es.length*8:=zae Ent.cells 8 zot r.es
 have hq:=z0e g t ev r a (by omega)
 have hov:=yl7 g t ev r ho a kn
 change In E 1 zba [.ptr ⟨0,0,0⟩ 1 0,.d (.agg [DI nu,.str ki,.list 1 [.str a],.list 1 [DI kn],.str tx])] (mR t ev r) _
 refine In.enter (f:=zba) g.lim rfl rfl ?_
 unfold yaf
 rcases zf0 r.es a with⟨h,_⟩|⟨k,hk,h,hnm,_⟩
 ·rw [h,if_pos (by decide)]
  rw [h,ydr,if_neg (by decide)] at hq
  repeat' ((conv=>whnf);first
  | refine Yz ?_
   | (refine zlp.of (r':= .d .nilp) isR rfl rfl rfl rfl hq rfl rfl rfl ?_)
   | (exact⟨rfl,rfl,rfl,rfl,rfl,rfl,trivial⟩)
   | fail)
 ·have hgd:r.es.getD k yti=r.es[k]:=by simp [List.getD,hk]
  rw [h,if_neg (by omega),Int.toNat_natCast,hgd]
  rw [h,ydr,if_pos (by omega)] at hq
  generalize zyp r a kn=o at *
  by_cases hkd:r.es[k].kd=zz6
  ·rw [if_pos hkd]
   repeat' ((conv=>whnf);first
   | refine Yz ?_
    | (refine zlp.of (r':= .ptr ⟨0,0,2⟩ ((0+((k:Nat):Int).toNat)*8) r.es.length) isR rfl rfl rfl rfl hq rfl rfl rfl ?_)
    | (refine zgw.rec0 zot k rfl hk rfl ?_)
    | (refine Cmp.ff (fun h=>h hkd) ?_)
    | (refine Cmp.tt hkd ?_)
    | (rw [hnm];refine zlp.of (r':=I o) isR rfl rfl rfl rfl hov rfl rfl rfl ?_)
    | (refine zai.of (zg1 g _ _) ?_)
    | (refine zai.of (ze4 g _ _) ?_)
    | (exact⟨rfl,rfl,rfl,rfl,rfl,rfl,trivial⟩)
    | fail)
  ·rw [if_neg hkd]
   repeat' ((conv=>whnf);first
   | refine Yz ?_
    | (refine zlp.of (r':= .ptr ⟨0,0,2⟩ ((0+((k:Nat):Int).toNat)*8) r.es.length) isR rfl rfl rfl rfl hq rfl rfl rfl ?_)
    | (refine zgw.rec0 zot k rfl hk rfl ?_)
    | (refine Cmp.ff hkd ?_)
    | (refine Cmp.tt hkd ?_)
    | (rw [hnm];refine zlp.of (r':=I o) isR rfl rfl rfl rfl hov rfl rfl rfl ?_)
    | (refine zai.of (zg1 g _ _) ?_)
    | (refine zai.of (ze4 g _ _) ?_)
    | (exact⟨rfl,rfl,rfl,rfl,rfl,rfl,trivial⟩)
    | fail)
theorem z4e (t:Nat) (ev:List Evt) (r:Rgs) (ho:OkR r) (nu:Int) (ki a en:List UInt8) (kn:Int) (tx:List UInt8):
  Qs E zay [.ptr ⟨0,0,0⟩ 1 0,Evv ⟨nu,ki,[a,en],[kn],tx⟩] (mR t ev r) (I (z55 r a en kn)):=by
 refine⟨?_⟩
 have hcs:=ho.cs
 have hq:=zsv g t ev r a (by omega)
 have hov:=yl7 g t ev r ho en kn
 change In E 1 zay [.ptr ⟨0,0,0⟩ 1 0,.d (.agg [DI nu,.str ki,.list 2 [.str a,.str en],.list 1 [DI kn],.str tx])] (mR t ev r) _
 refine In.enter (f:=zay) g.lim rfl rfl ?_
 unfold z55
 generalize zyp r en kn=o at *
 generalize zwz r.cs a=i at *
 by_cases hi:0<=i
 ·rw [if_pos hi]
  rw [yoc,if_pos hi] at hq
  by_cases h64:64<=r.cs.length
  ·rw [if_pos h64]
   repeat' ((conv=>whnf);first
   | refine Yz ?_
    | (refine zlp.of (r':= .ptr ⟨0,0,4⟩ ((0+i.toNat)*5) r.cs.length) isR rfl rfl rfl rfl hq rfl rfl rfl ?_)
    | (refine zlp.of (r':=I o) isR rfl rfl rfl rfl hov rfl rfl rfl ?_)
    | (refine zai.of (zg1 g _ _) ?_)
    | (refine zai.of (zmd g _ _ _) ?_)
    | (exact⟨rfl,rfl,rfl,rfl,rfl,rfl,trivial⟩)
    | fail)
  ·rw [if_neg h64]
   repeat' ((conv=>whnf);first
   | refine Yz ?_
    | (refine zlp.of (r':= .ptr ⟨0,0,4⟩ ((0+i.toNat)*5) r.cs.length) isR rfl rfl rfl rfl hq rfl rfl rfl ?_)
    | (refine zlp.of (r':=I o) isR rfl rfl rfl rfl hov rfl rfl rfl ?_)
    | (refine zai.of (zg1 g _ _) ?_)
    | (refine zai.of (zmd g _ _ _) ?_)
    | (exact⟨rfl,rfl,rfl,rfl,rfl,rfl,trivial⟩)
    | fail)
 ·rw [if_neg hi]
  rw [yoc,if_neg hi] at hq
  by_cases h64:64<=r.cs.length
  ·rw [if_pos h64]
   repeat' ((conv=>whnf);first
   | refine Yz ?_
    | (refine zlp.of (r':= .d .nilp) isR rfl rfl rfl rfl hq rfl rfl rfl ?_)
    | (refine zlp.of (r':=I o) isR rfl rfl rfl rfl hov rfl rfl rfl ?_)
    | (refine zai.of (zg1 g _ _) ?_)
    | (refine zai.of (zmd g _ _ _) ?_)
    | (exact⟨rfl,rfl,rfl,rfl,rfl,rfl,trivial⟩)
    | fail)
  ·rw [if_neg h64]
   repeat' ((conv=>whnf);first
   | refine Yz ?_
    | (refine zlp.of (r':= .d .nilp) isR rfl rfl rfl rfl hq rfl rfl rfl ?_)
    | (refine zlp.of (r':=I o) isR rfl rfl rfl rfl hov rfl rfl rfl ?_)
    | (refine zai.of (zg1 g _ _) ?_)
    | (refine zai.of (zmd g _ _ _) ?_)
    | (exact⟨rfl,rfl,rfl,rfl,rfl,rfl,trivial⟩)
    | fail)
theorem z5q (t:Nat) (ev:List Evt) (r:Rgs) (ho:OkR r) (nu:Int) (ki a:List UInt8) (kn v:Int) (tx:List UInt8):
  Qs E za1 [.ptr ⟨0,0,0⟩ 1 0,Evv ⟨nu,ki,[a],[kn,v],tx⟩] (mR t ev r) (I (zs1 r a v)):=by
 refine⟨?_⟩
 have hcs:=ho.cs
 have hml:(r.cs.flatMap Cpl.cells).length=r.cs.length*5:=zae Cpl.cells 5 zs4 r.cs
 have hq:=zsv g t ev r a (by omega)
 change In E 1 za1 [.ptr ⟨0,0,0⟩ 1 0,.d (.agg [DI nu,.str ki,.list 1 [.str a],.list 2 [DI kn,DI v],.str tx])] (mR t ev r) _
 refine In.enter (f:=za1) g.lim rfl rfl ?_
 unfold zs1
 rcases zn7 r.cs a with h|⟨k,hk,h,hnm⟩
 ·rw [h,if_pos (by decide)]
  rw [h,yoc,if_neg (by decide)] at hq
  repeat' ((conv=>whnf);first
  | refine Yz ?_
   | (refine zlp.of (r':= .d .nilp) isR rfl rfl rfl rfl hq rfl rfl rfl ?_)
   | (exact⟨rfl,rfl,rfl,rfl,rfl,rfl,trivial⟩)
   | fail)
 ·have hgd:r.cs.getD k yf7=r.cs[k]:=by simp [List.getD,hk]
  rw [h,if_neg (by omega),Int.toNat_natCast,hgd]
  rw [h,yoc,if_pos (by omega)] at hq
  by_cases hv:1<v
  ·rw [if_pos hv]
   repeat' ((conv=>whnf);first
   | refine Yz ?_
    | (refine zlp.of (r':= .ptr ⟨0,0,4⟩ ((0+((k:Nat):Int).toNat)*5) r.cs.length) isR rfl rfl rfl rfl hq rfl rfl rfl ?_)
    | (refine zgw.rec0 zs4 k rfl hk rfl ?_)
    | (refine zai.of (zg1 g _ _) ?_)
    | (refine zai.of (ze4 g _ _) ?_)
    | (exact⟨rfl,rfl,rfl,rfl,rfl,rfl,trivial⟩)
    | fail)
  ·rw [if_neg hv]
   repeat' ((conv=>whnf);first
   | refine Yz ?_
    | (refine zlp.of (r':= .ptr ⟨0,0,4⟩ ((0+((k:Nat):Int).toNat)*5) r.cs.length) isR rfl rfl rfl rfl hq rfl rfl rfl ?_)
    | (refine zgw.rec0 zs4 k rfl hk rfl ?_)
    | (refine zai.of (zg1 g _ _) ?_)
    | (refine zai.of (ze4 g _ _) ?_)
    | (exact⟨rfl,rfl,rfl,rfl,rfl,rfl,trivial⟩)
    | fail)
end
abbrev mH (ev:List Evt) (r:Rgs):Mem:=[(⟨0,12,0⟩,.row false zad 5 ev.length (ev.flatMap Evt.cells)),(⟨0,12,1⟩,.row false zac 8 r.es.length (r.es.flatMap Ent.cells)),(⟨0,12,2⟩,.row false za8 2 r.rs.length (r.rs.flatMap Rmv.cells)),(⟨0,12,3⟩,.row true zaj 5 r.cs.length (r.cs.flatMap Cpl.cells)),
 (⟨0,13,0⟩,.cells zg4 [.ref ⟨0,12,0⟩ 0 ev.length ev.length,I r.kn,.ref ⟨0,12,1⟩ 0 r.es.length r.es.length,.ref ⟨0,12,2⟩ 0 r.rs.length r.rs.length,.ref ⟨0,12,3⟩ 0 r.cs.length r.cs.length])]
abbrev isH:List Evl.Id:=[⟨0,13,0⟩,⟨0,12,0⟩,⟨0,12,1⟩,⟨0,12,2⟩,⟨0,12,3⟩]
theorem zrh {e:Evt} (h:zml e=0):
  (∃nu ki a s more kn f u m,e=⟨nu,ki,a::s::more,[kn,f,u,m],[]⟩/\yk1 ki=true/\(ki=zby->∃b,more=[b])/\(ki=zv3\/ki=zz6\/ki=zby))\/
  (∃nu a kn,e=⟨nu,zdo,[a],[kn],[]⟩)\/(∃nu a en kn,e=⟨nu,zcn,[a,en],[kn],[]⟩)\/(∃nu a kn v,e=⟨nu,zez,[a],[kn,v],[]⟩):=by
 obtain⟨h1,h2,h3,_,_,h6,_,_⟩:=zs3 h
 obtain⟨nu,ki,ns,vs,tx⟩:=e
 dsimp only at h1 h2 h3 h6
 subst h6
 have l1:∀ {α:Type} (l:List α),l.length=1->∃a,l=[a]:=fun l hl=>List.length_eq_one_iff.1 hl
 have l2:∀ {α:Type} (l:List α),l.length=2->∃a b,l=[a,b]:=fun l hl=>by
  rcases l with _|⟨a,_|⟨b,_|⟨_,_⟩⟩⟩<;>simp at hl
  exact⟨a,b,rfl⟩
 have l4:∀(l:List Int),l.length=4->∃a b c d,l=[a,b,c,d]:=fun l hl=>by
  rcases l with _|⟨a,_|⟨b,_|⟨c,_|⟨d,_|⟨_,_⟩⟩⟩⟩⟩<;>simp at hl
  exact⟨a,b,c,d,rfl⟩
 rcases zks ki with rfl|rfl|rfl|rfl|rfl|rfl|⟨k1,k2,k3,k4,k5,k6⟩
 ·obtain⟨a,b,rfl⟩:=l2 ns h2
  obtain⟨c,d,e,f,rfl⟩:=l4 vs h3
  exact .inl ⟨nu,_,a,b,[],c,d,e,f,rfl,by decide,fun h=>absurd h (by decide),.inl rfl⟩
 ·obtain⟨a,b,rfl⟩:=l2 ns h2
  obtain⟨c,d,e,f,rfl⟩:=l4 vs h3
  exact .inl ⟨nu,_,a,b,[],c,d,e,f,rfl,by decide,fun h=>absurd h (by decide),.inr (.inl rfl)⟩
 ·obtain⟨a,b,x,rfl⟩:∃a b x,ns=[a,b,x]:=by
   have h2:ns.length=3:=h2
   rcases ns with _|⟨a,_|⟨b,_|⟨c,_|⟨_,_⟩⟩⟩⟩<;>simp at h2
   exact⟨a,b,c,rfl⟩
  obtain⟨c,d,e,f,rfl⟩:=l4 vs h3
  exact .inl ⟨nu,_,a,b,[x],c,d,e,f,rfl,by decide,fun _=>⟨x,rfl⟩,.inr (.inr rfl)⟩
 ·obtain⟨a,rfl⟩:=l1 ns h2
  obtain⟨c,rfl⟩:=l1 vs h3
  exact .inr (.inl ⟨nu,a,c,rfl⟩)
 ·obtain⟨a,b,rfl⟩:=l2 ns h2
  obtain⟨c,rfl⟩:=l1 vs h3
  exact .inr (.inr (.inl ⟨nu,a,b,c,rfl⟩))
 ·obtain⟨a,rfl⟩:=l1 ns h2
  obtain⟨c,d,rfl⟩:=l2 vs h3
  exact .inr (.inr (.inr ⟨nu,a,c,d,rfl⟩))
 ·simp [zfs,k1,k2,k3,k4,k5,k6] at h1
section
variable {E : Oracle} (g : Good E)
include g
omit g in
theorem yq3 {r:Rgs} {n:Nat} {e:Evt} (h:yqe r n e=0):e.nu=n+1/\¬vlN e 0<r.kn/\¬ 99999<vlN e 0:=by
 rw [yqe,zit] at h
 have a:=h (if e.nu=n+1 then 0 else 11) (by simp)
 have b:=h (if vlN e 0<r.kn then 19 else 0) (by simp)
 have c:=h (if 99999<vlN e 0 then 3 else 0) (by simp)
 refine⟨?_,?_,?_⟩
 ·exact Decidable.byContradiction fun hn=>by rw [if_neg hn] at a;omega
 ·intro hn;rw [if_pos hn] at b;omega
 ·intro hn;rw [if_pos hn] at c;omega
theorem yb5 (t:Nat) (ev:List Evt) (r:Rgs) (ho:OkR r) (e:Evt) (hc:zml e=0) (hev:ev.length<=1000000):
  Qs E zap [.ptr ⟨0,0,0⟩ 0 0,Evv e] (mR t ev r) (I (yac r ev.length e)):=by
 refine⟨?_⟩
 unfold yac
 by_cases hF:yqe r ev.length e=0
 ·rw [if_neg (fun h=>h hF)]
  obtain⟨c1,c2,c3⟩:=yq3 hF
  clear hF
  rcases zrh hc with⟨nu,ki,a,s,more,kn,f,u,m,rfl,hent,hfol,hki⟩|⟨nu,a,kn,rfl⟩|⟨nu,a,en,kn,rfl⟩|⟨nu,a,kn,v,rfl⟩
  ·change nu=_ at c1
   change ¬kn<_ at c2
   change ¬_<kn at c3
   obtain⟨b,hb⟩:∃b,ki=zby->more=[b]:=by
    by_cases h:ki=zby
    ·obtain⟨b,hb⟩:=hfol h
     exact⟨b,fun _=>hb⟩
    ·exact⟨[],fun h'=>absurd h' h⟩
   have hask:z41 r ⟨nu,ki,a::s::more,[kn,f,u,m],[]⟩=ztu r (decide (ki=zby)) a b kn f u m:=by
    rw [z41,if_pos hent]
    by_cases h:ki=zby
    ·rw [hb h];rfl
    ·unfold ztu
     rw [decide_eq_false h]
     simp only [Bool.false_eq_true,false_and,if_false]
     rfl
   have hq:=ye0 g t ev r ho nu ki a s more b kn f u m [] hb
   rw [<-hask] at hq
   generalize z41 r ⟨nu,ki,a::s::more,[kn,f,u,m],[]⟩=o at *
   have e1:Evv ⟨nu,ki,a::s::more,[kn,f,u,m],[]⟩= .d (.agg [DI nu,.str ki,.list (more.length+1+1) (.str a:: .str s::more.map D.str),.list 4 [DI kn,DI f,DI u,DI m],.str []]):=rfl
   rw [e1] at hq ⊢
   clear hfol hask hent hb
   rcases hki with rfl|rfl|rfl
   all_goals
    refine In.enter (f:=zap) g.lim rfl rfl ?_
    repeat' ((conv=>whnf);first
    | refine Yz ?_
     | (refine Cmp.ff (fun h=>h c1) ?_)
     | (refine zai.of (zg1 g _ _) ?_)
     | (refine zai.of (zmd g _ _ _) ?_)
     | (refine zcb.kinds g rfl ?_)
     | (refine zrz.mk ⟨_,rfl,?_⟩)
     | (refine zlp.of (r':=I o) isR rfl rfl rfl rfl hq rfl rfl rfl ?_)
     | (exact⟨rfl,rfl,rfl,rfl,rfl,rfl,trivial⟩)
     | fail)
  ·change nu=_ at c1
   change ¬kn<_ at c2
   change ¬_<kn at c3
   have hq:=z9l g t ev r ho nu zdo a kn []
   change Qs E zba [.ptr ⟨0,0,0⟩ 1 0,.d (.agg [DI nu,.str zdo,.list 1 [.str a],.list 1 [DI kn],.str []])] (mR t ev r) (I (z41 r ⟨nu,zdo,[a],[kn],[]⟩)) at hq
   generalize z41 r ⟨nu,zdo,[a],[kn],[]⟩=o at *
   change In E 1 zap [.ptr ⟨0,0,0⟩ 0 0,.d (.agg [DI nu,.str zdo,.list 1 [.str a],.list 1 [DI kn],.str []])] (mR t ev r) _
   refine In.enter (f:=zap) g.lim rfl rfl ?_
   repeat' ((conv=>whnf);first
   | refine Yz ?_
    | (refine Cmp.ff (fun h=>h c1) ?_)
    | (refine zai.of (zg1 g _ _) ?_)
    | (refine zai.of (zmd g _ _ _) ?_)
    | (refine zcb.kinds g rfl ?_)
    | (refine zrz.mk ⟨_,rfl,?_⟩)
    | (refine zlp.of (r':=I o) isR rfl rfl rfl rfl hq rfl rfl rfl ?_)
    | (exact⟨rfl,rfl,rfl,rfl,rfl,rfl,trivial⟩)
    | fail)
  ·change nu=_ at c1
   change ¬kn<_ at c2
   change ¬_<kn at c3
   have hq:=z4e g t ev r ho nu zcn a en kn []
   change Qs E zay [.ptr ⟨0,0,0⟩ 1 0,.d (.agg [DI nu,.str zcn,.list 2 [.str a,.str en],.list 1 [DI kn],.str []])] (mR t ev r) (I (z41 r ⟨nu,zcn,[a,en],[kn],[]⟩)) at hq
   generalize z41 r ⟨nu,zcn,[a,en],[kn],[]⟩=o at *
   change In E 1 zap [.ptr ⟨0,0,0⟩ 0 0,.d (.agg [DI nu,.str zcn,.list 2 [.str a,.str en],.list 1 [DI kn],.str []])] (mR t ev r) _
   refine In.enter (f:=zap) g.lim rfl rfl ?_
   repeat' ((conv=>whnf);first
   | refine Yz ?_
    | (refine Cmp.ff (fun h=>h c1) ?_)
    | (refine zai.of (zg1 g _ _) ?_)
    | (refine zai.of (zmd g _ _ _) ?_)
    | (refine zcb.kinds g rfl ?_)
    | (refine zrz.mk ⟨_,rfl,?_⟩)
    | (refine zlp.of (r':=I o) isR rfl rfl rfl rfl hq rfl rfl rfl ?_)
    | (exact⟨rfl,rfl,rfl,rfl,rfl,rfl,trivial⟩)
    | fail)
  ·change nu=_ at c1
   change ¬kn<_ at c2
   change ¬_<kn at c3
   have hq:=z5q g t ev r ho nu zez a kn v []
   change Qs E za1 [.ptr ⟨0,0,0⟩ 1 0,.d (.agg [DI nu,.str zez,.list 1 [.str a],.list 2 [DI kn,DI v],.str []])] (mR t ev r) (I (z41 r ⟨nu,zez,[a],[kn,v],[]⟩)) at hq
   generalize z41 r ⟨nu,zez,[a],[kn,v],[]⟩=o at *
   change In E 1 zap [.ptr ⟨0,0,0⟩ 0 0,.d (.agg [DI nu,.str zez,.list 1 [.str a],.list 2 [DI kn,DI v],.str []])] (mR t ev r) _
   refine In.enter (f:=zap) g.lim rfl rfl ?_
   repeat' ((conv=>whnf);first
   | refine Yz ?_
    | (refine Cmp.ff (fun h=>h c1) ?_)
    | (refine zai.of (zg1 g _ _) ?_)
    | (refine zai.of (zmd g _ _ _) ?_)
    | (refine zcb.kinds g rfl ?_)
    | (refine zrz.mk ⟨_,rfl,?_⟩)
    | (refine zlp.of (r':=I o) isR rfl rfl rfl rfl hq rfl rfl rfl ?_)
    | (exact⟨rfl,rfl,rfl,rfl,rfl,rfl,trivial⟩)
    | fail)
 ·rw [if_pos hF]
  obtain⟨nu,ki,ns,vs,tx⟩:=e
  obtain⟨kn,vr,rfl⟩:∃kn vr,vs=kn::vr:=by
   rcases zrh hc with⟨nu,ki,a,s,more,kn,f,u,m,h,_⟩|⟨nu,a,kn,h⟩|⟨nu,a,en,kn,h⟩|⟨nu,a,kn,v,h⟩
   all_goals
    simp only [Evt.mk.injEq] at h
    exact⟨_,_,h.2.2.2.1⟩
  unfold yqe at hF ⊢
  change zb5 [if nu=ev.length+1 then 0 else 11,if kn<r.kn then 19 else 0,if 99999<kn then 3 else 0]≠0 at hF
  change In E 1 zap [.ptr ⟨0,0,0⟩ 0 0,.d (.agg [DI nu,.str ki,.list ns.length (ns.map D.str),.list (vr.length+1) (DI kn::vr.map DI),.str tx])] (mR t ev r) (fun v m1=>v=I (zb5 [if nu=ev.length+1 then 0 else 11,if kn<r.kn then 19 else 0,if 99999<kn then 3 else 0])/\z7w m1 (mR t ev r))
  by_cases c1:nu=ev.length+1
  all_goals by_cases c2:kn<r.kn
  all_goals by_cases c3:99999<kn
  all_goals simp only [c1,c2,c3,if_true,if_false] at hF ⊢
  all_goals try (exact absurd rfl hF)
  all_goals refine In.enter (f:=zap) g.lim rfl rfl ?_
  all_goals repeat' ((conv=>whnf);first
  | refine Yz ?_
   | (refine Cmp.tt c1 ?_)
   | (refine Cmp.ff (fun h=>h rfl) ?_)
   | (refine zai.of (zg1 g _ _) ?_)
   | (refine zai.of (zmd g _ _ _) ?_)
   | (exact⟨rfl,rfl,rfl,rfl,rfl,rfl,trivial⟩)
   | fail)
end
theorem zuw {α:Type} (cell:α->List D) (w:Nat) (hw:∀a,(cell a).length=w) (l:List α) (k j:Nat) (hk:k<l.length) (hj:j<w) (d:D) (x:α) (hx:cell x=patch (cell l[k]) j [d]):patch (l.flatMap cell) (k*w+j) [d]=(l.set k x).flatMap cell:=by
 have h1:l=l.take k++l[k]::l.drop (k+1):=by rw [<-List.drop_eq_getElem_cons hk,List.take_append_drop]
 have h2:l.set k x=l.take k++x::l.drop (k+1):=by
  rw [List.set_eq_take_append_cons_drop,if_pos hk]
 rw [h2,List.flatMap_append,List.flatMap_cons,hx]
 have h3:l.flatMap cell=(l.take k).flatMap cell++(cell l[k]++(l.drop (k+1)).flatMap cell):=by
  rw [<-List.flatMap_cons,<-List.flatMap_append]
  exact congrArg (List.flatMap cell) h1
 rw [h3]
 have h4:((l.take k).flatMap cell).length=k*w:=by
  rw [zae cell w hw,List.length_take,Nat.min_eq_left (by omega)]
 have h5:=hw l[k]
 generalize (l.take k).flatMap cell=A at *
 generalize (l.drop (k+1)).flatMap cell=C at *
 generalize cell l[k]=B at *
 unfold patch
 rw [<-h4,List.take_append,List.take_of_length_le (by omega),Nat.add_sub_cancel_left,List.take_append_of_le_length (by omega)]
 rw [List.drop_append,List.drop_of_length_le (by simp;omega),List.length_singleton,Nat.add_assoc,Nat.add_sub_cancel_left,List.drop_append_of_le_length (by omega)]
 simp
section
variable {E : Oracle} (g : Good E)
include g
theorem zn3 (l:List (List UInt8)) (hl:l≠[]) (hb:l.length<=1000000):Fc E zdc [Ws l] (Ws l):=by
 obtain⟨x,r,rfl⟩:=List.exists_cons_of_ne_nil hl
 rw [List.length_cons] at hb
 change Fc E _ [.d (.list (r.length+1) (.str x::r.map D.str))] (.d (.list (r.length+1) (.str x::r.map D.str)))
 refine g.fn rfl rfl ?_
 repeat' ((conv=>whnf);first
 | refine Yz ?_
  | (refine zcp.mk ⟨rfl,rfl,rfl,rfl,rfl,by simp,by omega,by omega⟩ ?_)
  | (refine Chk.mk rfl ?_)
  | fail)
 all_goals try (refine Ret.mk ?_;simp)
theorem zn2 (l:List Int) (hl:l≠[]) (hb:l.length<=1000000):Fc E ze1 [LI l] (LI l):=by
 obtain⟨x,r,rfl⟩:=List.exists_cons_of_ne_nil hl
 rw [List.length_cons] at hb
 change Fc E _ [.d (.list (r.length+1) (DI x::r.map DI))] (.d (.list (r.length+1) (DI x::r.map DI)))
 refine g.fn rfl rfl ?_
 repeat' ((conv=>whnf);first
 | refine Yz ?_
  | (refine zcp.mk ⟨rfl,rfl,rfl,rfl,rfl,by simp,by omega,by omega⟩ ?_)
  | (refine Chk.mk rfl ?_)
  | fail)
 all_goals try (refine Ret.mk ?_;simp)
abbrev bxE (e:Evt):Evl.Id×Ob:=(⟨0,7,0⟩,.cells zad [I e.nu,S e.ki,.d (.list e.ns.length (e.ns.map D.str)),.d (.list e.vs.length (e.vs.map DI)),S e.tx])
theorem ytm (ev:List Evt) (r:Rgs) (ho:OkR r) (hrs:r.rs.length<1000) (e:Evt) (hs:zia r ev.length e=0) (hev:ev.length<=1000) {slot:Nat} {K:V->Mem->Prop} (hK:K (.tup []) (mH (ev++[e]) (zq5 r e)++[bxE e])):
  In E 1 zaf [.ptr ⟨0,13,0⟩ 0 0,Evv e] (mH ev r++[bxE e]) fun v m'=>zzc ⟨0,1⟩ slot true v m' K:=by
 obtain⟨hc,ha⟩:=zur hs
 obtain⟨_,_,_,hask⟩:=z0p ha
 have hes:=ho.es
 have hcs:=ho.cs
 have hme:(ev.flatMap Evt.cells).length=ev.length*5:=zae Evt.cells 5 evw ev
 rcases zrh hc with⟨nu,ki,a,s,more,kn,f,u,m,rfl,hent,hfol,hki⟩|⟨nu,a,kn,rfl⟩|⟨nu,a,en,kn,rfl⟩|⟨nu,a,kn,v,rfl⟩
 ·have hc1:=zn3 g (a::s::more) (by simp) (by
   have h:=(zs3 hc).2.1
   dsimp only at h
   rw [h]
   rcases hki with rfl|rfl|rfl
   ·decide
   ·decide
   ·decide)
  have hc2:=zn2 g [kn,f,u,m] (by simp) (by simp)
  rw [z41,if_pos hent] at hask
  obtain⟨_,hl,_⟩:=z2n hask
  have hml:(r.es.flatMap Ent.cells).length=r.es.length*8:=zae Ent.cells 8 zot r.es
  clear hs hc ha hask
  by_cases hf:ki=zby
  ·obtain⟨b,rfl⟩:=hfol hf
   subst hf
   have haft:zq5 r ⟨nu,zby,[a,s,b],[kn,f,u,m],[]⟩=⟨kn,r.es++[⟨a,zby,s,b,kn,f,u,m⟩],r.rs,r.cs⟩:=rfl
   rw [haft] at hK
   simp only [List.length_append,List.length_cons,List.length_nil,List.flatMap_append,List.flatMap_cons,List.flatMap_nil,mH,bxE] at hK
   change Fc E _ [.d (.list 3 [.str a,.str s,.str b])] (.d (.list 3 [.str a,.str s,.str b])) at hc1
   change Fc E _ [.d (.list 4 [DI kn,DI f,DI u,DI m])] (.d (.list 4 [DI kn,DI f,DI u,DI m])) at hc2
   change In E 1 zaf [.ptr ⟨0,13,0⟩ 0 0,.d (.agg [DI nu,.str zby,.list 3 [.str a,.str s,.str b],.list 4 [DI kn,DI f,DI u,DI m],.str []])] _ _
   refine In.enter (f:=zaf) g.lim rfl rfl ?_
   repeat' ((conv=>whnf);first
   | refine Yz ?_
    | (apply zai.of;assumption)
    | (refine zcp.mk ⟨rfl,rfl,rfl,rfl,rfl,rfl,by dsimp only;omega,by dsimp only;omega⟩ ?_)
    | (refine zcb.kinds g rfl ?_)
    | (refine zrz.mk ⟨_,rfl,?_⟩)
    | (refine In.enter (f:=zan) g.lim rfl rfl ?_)
    | (exact hK)
    | fail)
  ·have haft:zq5 r ⟨nu,ki,a::s::more,[kn,f,u,m],[]⟩=⟨kn,r.es++[⟨a,ki,s,[],kn,f,u,m⟩],r.rs,r.cs⟩:=by
    rw [zq5,if_pos hent,z8m,if_neg hf]
    rfl
   rw [haft] at hK
   simp only [List.length_append,List.length_cons,List.length_nil,List.flatMap_append,List.flatMap_cons,List.flatMap_nil,mH,bxE] at hK
   change Fc E _ [.d (.list (more.length+1+1) (.str a:: .str s::more.map D.str))] (.d (.list (more.length+1+1) (.str a:: .str s::more.map D.str))) at hc1
   change Fc E _ [.d (.list 4 [DI kn,DI f,DI u,DI m])] (.d (.list 4 [DI kn,DI f,DI u,DI m])) at hc2
   change In E 1 zaf [.ptr ⟨0,13,0⟩ 0 0,.d (.agg [DI nu,.str ki,.list (more.length+1+1) (.str a:: .str s::more.map D.str),.list 4 [DI kn,DI f,DI u,DI m],.str []])] _ _
   rcases hki with rfl|rfl|rfl
   ·refine In.enter (f:=zaf) g.lim rfl rfl ?_
    repeat' ((conv=>whnf);first
    | refine Yz ?_
     | (apply zai.of;assumption)
     | (refine zcp.mk ⟨rfl,rfl,rfl,rfl,rfl,rfl,by dsimp only;omega,by dsimp only;omega⟩ ?_)
     | (refine zcb.kinds g rfl ?_)
     | (refine zrz.mk ⟨_,rfl,?_⟩)
     | (refine In.enter (f:=zan) g.lim rfl rfl ?_)
     | (exact hK)
     | fail)
   ·refine In.enter (f:=zaf) g.lim rfl rfl ?_
    repeat' ((conv=>whnf);first
    | refine Yz ?_
     | (apply zai.of;assumption)
     | (refine zcp.mk ⟨rfl,rfl,rfl,rfl,rfl,rfl,by dsimp only;omega,by dsimp only;omega⟩ ?_)
     | (refine zcb.kinds g rfl ?_)
     | (refine zrz.mk ⟨_,rfl,?_⟩)
     | (refine In.enter (f:=zan) g.lim rfl rfl ?_)
     | (exact hK)
     | fail)
   ·exact absurd rfl hf
 ·have hc1:=zn3 g [a] (by simp) (by simp)
  have hc2:=zn2 g [kn] (by simp) (by simp)
  have hml:(r.rs.flatMap Rmv.cells).length=r.rs.length*2:=zae Rmv.cells 2 yml r.rs
  clear hs hc ha hask
  have haft:zq5 r ⟨nu,zdo,[a],[kn],[]⟩=⟨kn,r.es,r.rs++[⟨a,kn⟩],r.cs⟩:=rfl
  rw [haft] at hK
  simp only [List.length_append,List.length_cons,List.length_nil,List.flatMap_append,List.flatMap_cons,List.flatMap_nil,mH,bxE] at hK
  change Fc E _ [.d (.list 1 [.str a])] (.d (.list 1 [.str a])) at hc1
  change Fc E _ [.d (.list 1 [DI kn])] (.d (.list 1 [DI kn])) at hc2
  change In E 1 zaf [.ptr ⟨0,13,0⟩ 0 0,.d (.agg [DI nu,.str zdo,.list 1 [.str a],.list 1 [DI kn],.str []])] _ _
  refine In.enter (f:=zaf) g.lim rfl rfl ?_
  repeat' ((conv=>whnf);first
  | refine Yz ?_
   | (apply zai.of;assumption)
   | (refine zcp.mk ⟨rfl,rfl,rfl,rfl,rfl,rfl,by dsimp only;omega,by dsimp only;omega⟩ ?_)
   | (refine zcb.kinds g rfl ?_)
   | (refine zrz.mk ⟨_,rfl,?_⟩)
   | (refine In.enter (f:=zhy) g.lim rfl rfl ?_)
   | (refine In.enter (f:=za7) g.lim rfl rfl ?_)
   | (exact hK)
   | fail)
 ·have hc1:=zn3 g [a,en] (by simp) (by simp)
  have hc2:=zn2 g [kn] (by simp) (by simp)
  have hml:(r.cs.flatMap Cpl.cells).length=r.cs.length*5:=zae Cpl.cells 5 zs4 r.cs
  clear hs hc ha hask
  have haft:zq5 r ⟨nu,zcn,[a,en],[kn],[]⟩=⟨kn,r.es,r.rs,r.cs++[⟨a,en,kn,false,false⟩]⟩:=rfl
  rw [haft] at hK
  simp only [List.length_append,List.length_cons,List.length_nil,List.flatMap_append,List.flatMap_cons,List.flatMap_nil,mH,bxE] at hK
  change Fc E _ [.d (.list 2 [.str a,.str en])] (.d (.list 2 [.str a,.str en])) at hc1
  change Fc E _ [.d (.list 1 [DI kn])] (.d (.list 1 [DI kn])) at hc2
  change In E 1 zaf [.ptr ⟨0,13,0⟩ 0 0,.d (.agg [DI nu,.str zcn,.list 2 [.str a,.str en],.list 1 [DI kn],.str []])] _ _
  refine In.enter (f:=zaf) g.lim rfl rfl ?_
  repeat' ((conv=>whnf);first
  | refine Yz ?_
   | (apply zai.of;assumption)
   | (refine zcp.mk ⟨rfl,rfl,rfl,rfl,rfl,rfl,by dsimp only;omega,by dsimp only;omega⟩ ?_)
   | (refine zcb.kinds g rfl ?_)
   | (refine zrz.mk ⟨_,rfl,?_⟩)
   | (refine In.enter (f:=zb2) g.lim rfl rfl ?_)
   | (exact hK)
   | fail)
 ·have hc1:=zn3 g [a] (by simp) (by simp)
  have hc2:=zn2 g [kn,v] (by simp) (by simp)
  have hml:(r.rs.flatMap Rmv.cells).length=r.rs.length*2:=zae Rmv.cells 2 yml r.rs
  have hmc:(r.cs.flatMap Cpl.cells).length=r.cs.length*5:=zae Cpl.cells 5 zs4 r.cs
  change zs1 r a v=0 at hask
  rcases zn7 r.cs a with h|⟨k,hk,h,hnm⟩
  ·rw [zs1,h,if_pos (by decide)] at hask
   omega
  have hgd:r.cs.getD k yf7=r.cs[k]:=by simp [List.getD,hk]
  have haft:zq5 r ⟨nu,zez,[a],[kn,v],[]⟩=⟨kn,r.es,if v=1 then r.rs++[⟨r.cs[k].en,kn⟩] else r.rs,r.cs.set k {r.cs[k] with cl:=true,up:=decide (v=1)}⟩:=by
   change (Rgs.mk kn r.es (if v=1 then r.rs++[⟨(r.cs.getD (zwz r.cs a).toNat yf7).en,kn⟩] else r.rs) (r.cs.set (zwz r.cs a).toNat {r.cs.getD (zwz r.cs a).toNat yf7 with cl:=true,up:=decide (v=1)}))=_
   rw [h,Int.toNat_natCast,hgd]
  rw [haft] at hK
  have hq:=zsv g zg4 (ev++[⟨nu,zez,[a],[kn,v],[]⟩]) ⟨kn,r.es,r.rs,r.cs⟩ a (by dsimp only;omega)
  rw [show zwz (Rgs.mk kn r.es r.rs r.cs).cs a=k from h,yoc,if_pos (by omega)] at hq
  simp only [List.length_append,List.length_cons,List.length_nil,List.flatMap_append,List.flatMap_cons,List.flatMap_nil,mR] at hq
  clear hs hc ha hask haft
  have hp1:patch (r.cs.flatMap Cpl.cells) ((0+((k:Nat):Int).toNat)*5+3) [.bool true]=(r.cs.set k {r.cs[k] with cl:=true}).flatMap Cpl.cells:=by
   rw [Nat.zero_add,Int.toNat_natCast]
   exact zuw Cpl.cells 5 zs4 r.cs k 3 hk (by decide) _ _ rfl
  have hm1:((r.cs.set k {r.cs[k] with cl:=true}).flatMap Cpl.cells).length=r.cs.length*5:=by rw [zae Cpl.cells 5 zs4,List.length_set]
  have hk1:k<(r.cs.set k {r.cs[k] with cl:=true}).length:=by rw [List.length_set];exact hk
  have hp2:∀b,patch ((r.cs.set k {r.cs[k] with cl:=true}).flatMap Cpl.cells) ((0+((k:Nat):Int).toNat)*5+4) [.bool b]=(r.cs.set k {r.cs[k] with cl:=true,up:=b}).flatMap Cpl.cells:=by
   intro b
   rw [Nat.zero_add,Int.toNat_natCast]
   have:=zuw Cpl.cells 5 zs4 (r.cs.set k {r.cs[k] with cl:=true}) k 4 hk1 (by decide) (.bool b) {r.cs[k] with cl:=true,up:=b} (by rw [List.getElem_set_self];rfl)
   rw [this,List.set_set]
  have hp3:∀b,k<(r.cs.set k {r.cs[k] with cl:=true,up:=b}).length:=fun b=>by rw [List.length_set];exact hk
  have hp4:∀b,(r.cs.set k {r.cs[k] with cl:=true,up:=b})[k]'(hp3 b)={r.cs[k] with cl:=true,up:=b}:=fun b=>List.getElem_set_self _
  change Fc E _ [.d (.list 1 [.str a])] (.d (.list 1 [.str a])) at hc1
  change Fc E _ [.d (.list 2 [DI kn,DI v])] (.d (.list 2 [DI kn,DI v])) at hc2
  change In E 1 zaf [.ptr ⟨0,13,0⟩ 0 0,.d (.agg [DI nu,.str zez,.list 1 [.str a],.list 2 [DI kn,DI v],.str []])] _ _
  by_cases hv:v=1
  ·rw [if_pos hv,decide_eq_true hv] at hK
   simp only [List.length_append,List.length_cons,List.length_nil,List.flatMap_append,List.flatMap_cons,List.flatMap_nil,List.length_set,mH,bxE] at hK
   refine In.enter (f:=zaf) g.lim rfl rfl ?_
   repeat' ((conv=>whnf);first
   | refine Yz ?_
    | (apply zai.of;assumption)
    | (refine zcp.mk ⟨rfl,rfl,rfl,rfl,rfl,rfl,by dsimp only;omega,by dsimp only;omega⟩ ?_)
    | (refine zcb.kinds g rfl ?_)
    | (refine zrz.mk ⟨_,rfl,?_⟩)
    | (refine Cmp.tt hv ?_)
    | (refine In.enter (f:=za2) g.lim rfl rfl ?_)
    | (refine zlp.of (r':= .ptr ⟨0,12,3⟩ ((0+((k:Nat):Int).toNat)*5) r.cs.length) isH rfl rfl rfl rfl hq rfl rfl rfl ?_)
    | (refine zcp.mk ⟨rfl,by omega,rfl⟩ ?_;first |rw [hp1]|rw [hp2])
    | (refine zgw.rec0 zs4 k rfl (hp3 true) (by rw [hp4];rfl) ?_)
    | (refine In.enter (f:=za7) g.lim rfl rfl ?_)
    | (exact hK)
    | fail)
  ·rw [if_neg hv,decide_eq_false hv] at hK
   simp only [List.length_append,List.length_cons,List.length_nil,List.flatMap_append,List.flatMap_cons,List.flatMap_nil,List.length_set,mH,bxE] at hK
   refine In.enter (f:=zaf) g.lim rfl rfl ?_
   repeat' ((conv=>whnf);first
   | refine Yz ?_
    | (apply zai.of;assumption)
    | (refine zcp.mk ⟨rfl,rfl,rfl,rfl,rfl,rfl,by dsimp only;omega,by dsimp only;omega⟩ ?_)
    | (refine zcb.kinds g rfl ?_)
    | (refine zrz.mk ⟨_,rfl,?_⟩)
    | (refine Cmp.ff hv ?_)
    | (refine In.enter (f:=za2) g.lim rfl rfl ?_)
    | (refine zlp.of (r':= .ptr ⟨0,12,3⟩ ((0+((k:Nat):Int).toNat)*5) r.cs.length) isH rfl rfl rfl rfl hq rfl rfl rfl ?_)
    | (refine zcp.mk ⟨rfl,by omega,rfl⟩ ?_;first |rw [hp1]|rw [hp2])
    | (refine zgw.rec0 zs4 k rfl (hp3 false) (by rw [hp4];rfl) ?_)
    | (refine In.enter (f:=za7) g.lim rfl rfl ?_)
    | (exact hK)
    | fail)
end
abbrev mS (lv sl:Nat) (ev:List Evt) (r:Rgs):Mem:=[(⟨lv,sl,0⟩,.cells zg4 [.ref ⟨lv,sl,1⟩ 0 ev.length ev.length,I r.kn,.ref ⟨lv,sl,2⟩ 0 r.es.length r.es.length,.ref ⟨lv,sl,3⟩ 0 r.rs.length r.rs.length,.ref ⟨lv,sl,4⟩ 0 r.cs.length r.cs.length]),
 (⟨lv,sl,1⟩,.row false zad 5 ev.length (ev.flatMap Evt.cells)),(⟨lv,sl,2⟩,.row false zac 8 r.es.length (r.es.flatMap Ent.cells)),(⟨lv,sl,3⟩,.row false za8 2 r.rs.length (r.rs.flatMap Rmv.cells)),(⟨lv,sl,4⟩,.row true zaj 5 r.cs.length (r.cs.flatMap Cpl.cells))]
theorem yhp {r:Rgs} {l:List Evt} {k:Nat} (hk:k<l.length):zdb r k (l.drop k)=if zia r k l[k]≠0 then(rg0,k+1,zia r k l[k]) else zdb (zq5 r l[k]) (k+1) (l.drop (k+1)):=by
 rw [List.drop_eq_getElem_cons hk,zej]
section
variable {E : Oracle} (g : Good E)
include g
theorem ybd (l:List Evt) (hl:l.length<=1000) (hb:∀e∈l,e.ns.length<=1000000/\e.vs.length<=1000000):
  In E 0 zec [LE l] [] fun v m'=>((zdb rg0 0 l).2.2=0->v= .tup [.ptr ⟨0,13,0⟩ 0 0,I 0,I 0]/\m'=mH l (zdb rg0 0 l).1)/\((zdb rg0 0 l).2.2≠0->v= .tup [.d .nilp,I (zdb rg0 0 l).2.1,I (zdb rg0 0 l).2.2]):=by
 refine In.enter (f:=zec) g.lim rfl rfl ?_
 have hml:(l.flatMap Evt.cells).length=l.length*5:=zae Evt.cells 5 evw l
 generalize hR:zdb rg0 0 l=R
 repeat' ((conv=>whnf);first
 | refine Yz ?_
  | fail)
 refine zak.to (zak.by (σ:=List Evt×Rgs) g (fun u=>u.1=l.take u.1.length/\u.1.length<=l.length/\OkR u.2/\u.2.rs.length<=u.1.length/\zdb u.2 u.1.length (l.drop u.1.length)=R)
  (fun u=>[(5,.ptr ⟨0,13,0⟩ 0 0),(14,LE l),(15,I l.length),(16,I u.1.length)]) (fun u=>mH u.1 u.2) (fun u=>l.length-u.1.length) ?_ ([],rg0) ⟨rfl,Nat.zero_le _,ylx,Nat.le_refl _,hR⟩) rfl rfl
 clear hR
 rintro⟨ev,r⟩ ⟨h1,h2,ho,h3,hR⟩ ih
 dsimp only at h1 h2 ho h3 hR ih ⊢
 by_cases hlt:ev.length<l.length
 ·rw [yhp hlt] at hR
  have hwin:win (l.flatMap Evt.cells) (((ev.length:Nat):Int).toNat*5) 5=l[ev.length].cells:=by
   rw [Int.toNat_natCast]
   exact zbx Evt.cells 5 evw l ev.length hlt
  obtain⟨hb1,hb2⟩:=hb _ (List.getElem_mem hlt)
  have ih:=fun hz:zia r ev.length l[ev.length]=0=>ih (ev++[l[ev.length]],zq5 r l[ev.length]) ⟨by
   rw [List.length_append,List.length_singleton,List.take_succ_eq_append_getElem hlt,<-h1],by
   rw [List.length_append,List.length_singleton];omega,ylw ho hz (by omega),by
   have:=yfw r l[ev.length]
   dsimp only
   rw [List.length_append,List.length_singleton];omega,by
   rw [if_neg (fun h=>h hz)] at hR
   rw [List.length_append,List.length_singleton];exact hR⟩ (by rw [List.length_append,List.length_singleton];omega)
  simp only [List.length_append,List.length_cons,List.length_nil] at ih
  generalize l[ev.length]=e at *
  have hce:=zuo g e hb1 hb2
  by_cases hc:zml e=0
  ·rw [hc] at hce
   have hq:=yb5 g zg4 ev r ho e hc (by omega)
   have hst:zia r ev.length e=yac r ev.length e:=by rw [zia,if_neg (fun h=>h hc)]
   by_cases ha:yac r ev.length e=0
   ·rw [ha] at hq hst
    have ih:=ih hst
    repeat' ((conv=>whnf);first
    | refine Yz ?_
     | (rw [hwin])
     | (apply zai.of;assumption)
     | (refine zlp.of (r':=I 0) isH rfl rfl rfl rfl hq rfl rfl rfl ?_)
     | (refine ytm g ev r ho (by omega) e hst (by omega) (slot:=35) ?_)
     | (refine zak.to ih rfl rfl)
     | fail)
   ·rw [hst,if_pos ha] at hR
    generalize yac r ev.length e=x at *
    subst hR
    repeat' ((conv=>whnf);first
    | refine Yz ?_
     | (rw [hwin])
     | (apply zai.of;assumption)
     | (refine zlp.of (r':=I x) isH rfl rfl rfl rfl hq rfl rfl rfl ?_)
     | (refine Cmp.ff ha ?_)
     | (exact⟨fun h=>absurd h ha,fun _=>rfl⟩)
     | fail)
  ·have hst:zia r ev.length e=zml e:=by rw [zia,if_pos hc]
   rw [hst,if_pos hc] at hR
   generalize zml e=x at *
   subst hR
   repeat' ((conv=>whnf);first
   | refine Yz ?_
    | (rw [hwin])
    | (apply zai.of;assumption)
    | (refine Cmp.ff hc ?_)
    | (exact⟨fun h=>absurd h hc,fun _=>rfl⟩)
    | fail)
 ·have e1:ev=l:=by rw [h1,List.take_of_length_le (by omega)]
  subst e1
  rw [List.drop_of_length_le (by omega)] at hR
  subst hR
  repeat' ((conv=>whnf);first
  | refine Yz ?_
   | (exact⟨fun _=>⟨rfl,rfl⟩,fun h=>absurd rfl h⟩)
   | fail)
theorem zcb.replay {l:List Evt} (hl:l.length<=1000) (hb:∀e∈l,e.ns.length<=1000000/\e.vs.length<=1000000) {cx:Cx} {slot:Nat} {m:Mem} {K:V->Mem->Prop} (hf:Go.Evl.freeK cx.lv slot m=0) (hz:(zdb rg0 0 l).2.2=0)
  (k:K (.tup [.ptr ⟨cx.lv,slot,0⟩ 0 0,I 0,I 0]) (m++mS cx.lv slot l (zdb rg0 0 l).1)):zcb E zec [LE l] cx slot m K:=by
 obtain⟨v,m',h1,h2,_⟩:=(ybd g l hl hb).got
 obtain⟨rfl,rfl⟩:=h2 hz
 refine⟨_,_,(_,m++mS cx.lv slot l (zdb rg0 0 l).1),h1,?_,k⟩
 unfold Evl.settle
 rw [hf]
 rfl
theorem zcb.replayNo {l:List Evt} (hl:l.length<=1000) (hb:∀e∈l,e.ns.length<=1000000/\e.vs.length<=1000000) {cx:Cx} {slot:Nat} {m:Mem} {K:V->Mem->Prop} (hz:(zdb rg0 0 l).2.2≠0)
  (k:K (.tup [.d .nilp,I (zdb rg0 0 l).2.1,I (zdb rg0 0 l).2.2]) (m++[])):zcb E zec [LE l] cx slot m K:=by
 obtain⟨v,m',h1,_,h2⟩:=(ybd g l hl hb).got
 obtain rfl:=h2 hz
 exact⟨_,_,(_,m++[]),h1,rfl,k⟩
end
def yim (r:Rgs) (s:List UInt8) (kn d:Int) (x:Ent):Bool:=decide (x.sr=s)&&decide (x.fr<=d)&&decide (d<=x.to)&&z0q r x kn
def z5l (r:Rgs) (s:List UInt8) (kn d:Int):Int:=r.es.foldl (fun o x=>if yim r s kn d x then x.mi else o) 1440
theorem zyb {α:Type} (p:α->Bool) (f:α->Int):∀(l:List α) (a:Int),(∀x∈l,p x=false)->l.foldl (fun o x=>if p x then f x else o) a=a
 | [],a,_=>rfl
 | x::l,a,h=>by
  rw [List.foldl_cons,h x (by simp)]
  exact zyb p f l a fun y hy=>h y (by simp [hy])
theorem yoi {α:Type} (p:α->Bool) (f:α->Int) (l:List α) (a:Int) {k:Nat} (hk:k<l.length) (h:p l[k]=true) (hn:∀j,(hj:j<l.length)->k<j->p l[j]=false):l.foldl (fun o x=>if p x then f x else o) a=f l[k]:=by
 have h1:l=l.take k++l[k]::l.drop (k+1):=by rw [<-List.drop_eq_getElem_cons hk,List.take_append_drop]
 have h2:∀x∈l.drop (k+1),p x=false:=fun x hx=>by
  obtain⟨j,hj,rfl⟩:=List.mem_iff_getElem.1 hx
  rw [List.length_drop] at hj
  rw [List.getElem_drop]
  exact hn _ (by omega) (by omega)
 have h3:(l.take k++l[k]::l.drop (k+1)).foldl (fun o x=>if p x then f x else o) a=f l[k]:=by
  rw [List.foldl_append,List.foldl_cons,zyb p f _ _ h2,h]
  rfl
 rw [<-h1] at h3
 exact h3
theorem yoz {r:Rgs} {s:List UInt8} {kn d:Int} {k:Nat} (hk:k<r.es.length) (h:yim r s kn d r.es[k]=true) (hn:∀j,(hj:j<r.es.length)->k<j->yim r s kn d r.es[j]=false):z5l r s kn d=r.es[k].mi:=yoi _ _ _ _ hk h hn
theorem ybs {r:Rgs} {s:List UInt8} {kn d:Int} (hn:∀j,(hj:j<r.es.length)->yim r s kn d r.es[j]=false):z5l r s kn d=1440:=zyb _ _ _ _ fun x hx=>by
 obtain⟨j,hj,rfl⟩:=List.mem_iff_getElem.1 hx
 exact hn j hj
section
variable {E : Oracle} (g : Good E)
include g
theorem zcb.backward {n:Nat} {cs:List D} {cx:Cx} {slot:Nat} {m:Mem} {K:V->Mem->Prop} (hf:Go.Evl.freeK cx.lv slot m=0)
  (k:K (.fn zaq [] [.ptr ⟨cx.lv,slot,0⟩ 0 0]) (m++[(⟨cx.lv,slot,0⟩,.cells zkc [.d (.list n cs)])])):zcb E zax [.d (.list n cs)] cx slot m K:=by
 have h:In E 0 zax [.d (.list n cs)] [] fun v m'=>v= .fn zaq [] [.ptr ⟨0,1,0⟩ 0 0]/\m'=[(⟨0,1,0⟩,.cells zkc [.d (.list n cs)])]:=by
  refine In.enter (f:=zax) g.lim rfl rfl ?_
  repeat' ((conv=>whnf);first
  | refine Yz ?_
   | (exact⟨rfl,rfl⟩)
   | fail)
 obtain⟨v,m',h1,rfl,rfl⟩:=h.got
 refine⟨_,_,(_,_),h1,?_,k⟩
 unfold Evl.settle
 rw [hf]
 rfl
theorem yhj (t:Nat) (ev:List Evt) (r:Rgs) (ho:OkR r) (s:List UInt8) (kn d:Int):Qs E zdi [.ptr ⟨0,0,0⟩ 1 0,S s,I kn,I d] (mR t ev r) (I (z5l r s kn d)):=by
 refine⟨?_⟩
 have hes:=ho.es
 have hml:(r.es.flatMap Ent.cells).length=r.es.length*8:=zae Ent.cells 8 zot r.es
 refine In.enter (f:=zdi) g.lim rfl rfl ?_
 repeat' ((conv=>whnf);first
 | refine Yz ?_
  | (rw [if_pos ⟨rfl,rfl⟩];refine zcb.backward g rfl ?_)
  | (refine zcb.backward g rfl ?_)
  | (refine In.enter (f:=zaq) g.lim rfl rfl ?_)
  | fail)
 refine zak.to (zak.by (σ:=Nat) g (fun n=>n<=r.es.length/\∀j,(hj:j<r.es.length)->n<=j->yim r s kn d r.es[j]=false)
  (fun n=>[(0,.yld ⟨1,43,0⟩),(1,.ptr ⟨1,15,0⟩ 0 0),(3,I ((n:Int)-1))])
  (fun _=>mR t ev r++[(⟨1,4,0⟩,.cells za9 [.ptr ⟨0,0,0⟩ 1 0]),(⟨1,5,0⟩,.cells zab [S s]),(⟨1,6,0⟩,.cells zci [I kn]),(⟨1,7,0⟩,.cells zci [I d]),(⟨1,8,0⟩,.cells zci [I 0]),(⟨1,15,0⟩,.cells zkc [.d (.list r.es.length (r.es.flatMap Ent.cells))]),
   (⟨1,43,0⟩,.loop [(4,.ptr ⟨1,4,0⟩ 0 0),(5,.ptr ⟨1,5,0⟩ 0 0),(6,.ptr ⟨1,6,0⟩ 0 0),(7,.ptr ⟨1,7,0⟩ 0 0),(8,.ptr ⟨1,8,0⟩ 0 0),(15,.fn zaq [] [.ptr ⟨1,15,0⟩ 0 0])] [16,17] zjh zji 1 false false none)])
  (fun n=>n) ?_ r.es.length ⟨Nat.le_refl _,fun j hj h=>absurd hj (by omega)⟩) rfl rfl
 rintro n ⟨h1,h2⟩ ih
 dsimp only at ih ⊢
 rcases Nat.eq_zero_or_pos n with rfl|hn
 ·rw [ybs fun j hj=>h2 j hj (Nat.zero_le _)]
  repeat' ((conv=>whnf);first
  | refine Yz ?_
   | (exact⟨rfl,rfl,rfl,rfl,rfl,rfl,trivial⟩)
   | fail)
 ·obtain⟨k,rfl⟩:∃k,n=k+1:=⟨n-1,by omega⟩
  have hk:k<r.es.length:=by omega
  have e1:((k+1:Nat):Int)-1=k:=by omega
  have hwin:win (r.es.flatMap Ent.cells) (((k:Nat):Int).toNat*8) 8=r.es[k].cells:=by
   rw [Int.toNat_natCast]
   exact zbx Ent.cells 8 zot r.es k hk
  have hq:=ysd g t ev r ho kn k hk
  have ih:=fun h:yim r s kn d r.es[k]=false=>ih k ⟨by omega,fun j hj hkj=>by
   by_cases e:j=k
   ·subst e;exact h
   ·exact h2 j hj (by omega)⟩ (by omega)
  rw [e1]
  have hhit:yim r s kn d r.es[k]=(decide (r.es[k].sr=s)&&decide (r.es[k].fr<=d)&&decide (d<=r.es[k].to)&&z0q r r.es[k] kn):=rfl
  by_cases hs:r.es[k].sr=s
  ·by_cases hf:r.es[k].fr<=d
   ·by_cases ht:d<=r.es[k].to
    ·cases hc:z0q r r.es[k] kn with
     | true=>
      rw [hc] at hq
      rw [yoz hk (by rw [hhit,decide_eq_true hs,decide_eq_true hf,decide_eq_true ht,hc];rfl) fun j hj hjk=>h2 j hj (by omega)]
      repeat' ((conv=>whnf);first
      | refine Yz ?_
       | (rw [hwin])
       | (refine Rnd.enter g.lim ?_)
       | (refine Cmp.tt hs ?_)
       | (refine zlp.of (r':=B true) isR rfl rfl rfl rfl hq rfl rfl rfl ?_)
       | (exact⟨rfl,rfl,rfl,rfl,rfl,rfl,trivial⟩)
       | fail)
     | false=>
      rw [hc] at hq
      have ih:=ih (by rw [hhit,hc,Bool.and_false])
      repeat' ((conv=>whnf);first
      | refine Yz ?_
       | (rw [hwin])
       | (refine Rnd.enter g.lim ?_)
       | (refine Cmp.tt hs ?_)
       | (refine zlp.of (r':=B false) isR rfl rfl rfl rfl hq rfl rfl rfl ?_)
       | (refine zak.to ih rfl rfl)
       | fail)
    ·have ih:=ih (by rw [hhit,decide_eq_false ht,Bool.and_false,Bool.false_and])
     repeat' ((conv=>whnf);first
     | refine Yz ?_
      | (rw [hwin])
      | (refine Rnd.enter g.lim ?_)
      | (refine Cmp.tt hs ?_)
      | (refine zak.to ih rfl rfl)
      | fail)
   ·have ih:=ih (by rw [hhit,decide_eq_false hf,Bool.and_false,Bool.false_and,Bool.false_and])
    repeat' ((conv=>whnf);first
    | refine Yz ?_
     | (rw [hwin])
     | (refine Rnd.enter g.lim ?_)
     | (refine Cmp.tt hs ?_)
     | (refine zak.to ih rfl rfl)
     | fail)
  ·have ih:=ih (by rw [hhit,decide_eq_false hs,Bool.false_and,Bool.false_and,Bool.false_and])
   repeat' ((conv=>whnf);first
   | refine Yz ?_
    | (rw [hwin])
    | (refine Rnd.enter g.lim ?_)
    | (refine Cmp.ff hs ?_)
    | (refine zak.to ih rfl rfl)
    | fail)
end
abbrev rgL (l:List Evt):Rgs:=(zdb rg0 0 l).1
abbrev erL (l:List Evt):Int:=(zdb rg0 0 l).2.2
structure yuy where
 kn:Int
 mi:Int
def yuy.cells (t:yuy):List D:=[DI t.kn,DI t.mi]
theorem ycc:∀(l:List Evt) (r:Rgs) (n:Nat),(zdb r n l).2.2=0->∀e∈l,zml e=0
 | [],_,_,_,e,he=>absurd he (by simp)
 | x::l,r,n,h,e,he=>by
  rw [zej] at h
  by_cases hs:zia r n x≠0
  ·rw [if_pos hs] at h;exact absurd h hs
  ·rw [if_neg hs] at h
   rcases List.mem_cons.1 he with rfl|he
   ·exact(zur (Decidable.byContradiction hs)).1
   ·exact ycc l _ _ h e he
theorem z7j {l:List Evt} (hl:l.length<=1000) (h:erL l=0):OkR (rgL l):=yhs l rg0 0 ylx (Nat.le_refl _) (by omega) h
section
variable {E : Oracle} (g : Good E)
include g
theorem ycj (n:Int):Fc E zd6 [I n] (I (rng n 0 99999)):=by
 refine g.fn rfl rfl ?_
 have h:=z4o g n 0 99999
 repeat' ((conv=>whnf);first
 | refine Yz ?_
  | (apply zai.of;assumption)
  | (refine Ret.mk rfl)
  | fail)
end
def yf6 (r:Rgs) (kn:Int):List (List UInt8):=(r.es.filter fun x=>z0q r x kn).map Ent.nm
theorem zki {α:Type} (p:α->Bool) (l:List α) (k:Nat) (h:k<l.length):(l.take (k+1)).filter p=(l.take k).filter p++if p l[k] then [l[k]] else []:=by
 rw [List.take_succ_eq_append_getElem h,List.filter_append]
 cases hp:p l[k]<;>simp [hp]
structure Us (E:Oracle) (f:Nat) (as0:List V) (m0:Mem) (r:V) (m2:Mem):Prop where
 got:In E 1 f as0 m0 fun v m1=>v=r/\z7w m1 m2
theorem z6v (m1:Mem):∀(m:Mem) (i:Evl.Id) (o:Ob),z7w m1 m->Evl.look m i=some o->Evl.look m1 i=some o
 | [],_,_,_,h=>by simp [Evl.look] at h
 | (j,x)::r,i,o,⟨h1,h2⟩,h=>by
  simp only [Evl.look] at h
  split at h
  ·rename_i e
   subst e
   obtain rfl:=Option.some.inj h
   exact h1
  ·exact z6v m1 r i o h2 h
theorem zzb {σ:List (Evl.Id×Evl.Id)} {m1 m2:Mem} (hk:z7w m1 m2):∀(l:List (Evl.Id×Evl.Id)) (m m':Mem),zwi σ m2 l m=some m'->zwi σ m1 l m=some m'
 | [],_,_,h=>h
 | (a,b)::r,m,m',h=>by
  simp only [zwi] at h ⊢
  cases hl:Evl.look m2 b with
  | none=>rw [hl] at h;cases h
  | some o=>
   rw [hl] at h
   rw [z6v m1 m2 b o hk hl]
   dsimp only at h ⊢
   split at h
   ·rename_i hc
    rw [if_pos hc]
    exact zzb hk r _ m' h
   ·cases h
theorem zpg.of {E:Oracle} {f:Nat} {first caps args as0:List V} {m m0 m2 m':Mem} {r r':V} {K:V->Mem->Prop} (is:List Evl.Id) (his:reach 0 m 64 (idsL ((first ++args++caps).map (zy6 m))) []=is)
  (hc:(within is 0 (idsL ((first ++args++caps).map (zy6 m)))&&movable is 0 m)=true) (has:renL (number ⟨0,0⟩ 0 0 is) ((first ++args++caps).map (zy6 m))=as0) (hm:moved (number ⟨0,0⟩ 0 0 is) m (number ⟨0,0⟩ 0 0 is)=m0)
  (hq:Us E f as0 m0 r m2) (hb:zwi (number ⟨0,0⟩ 0 0 is) m2 (number ⟨0,0⟩ 0 0 is) m=some m') (hid:(ids r).all (fun i=>((number ⟨0,0⟩ 0 0 is).map (·.2)).elem i)=true) (hr:ren (zpj (number ⟨0,0⟩ 0 0 is)) r=r') (hk:K r' m'):zpg E false (.fn f first caps) args m K:=by
 obtain⟨v,m1,h1,rfl,h3⟩:=hq.got
 refine⟨r',m',?_,hk⟩
 simp only [zv0,his,hc,if_true,has,hm,h1]
 rw [if_neg (by decide),hid,zzb h3 _ _ _ hb,<-hr]
 rfl
structure Ui (E:Oracle) (f:Nat) (as0:List V) (m0:Mem) (r:V) (m2:Mem):Prop where
 got:In E 1 f as0 m0 fun v m1=>zzc ⟨0,1⟩ 0 true v m1 fun v' m'=>v'=r/\z7w m' m2
theorem zpg.ofI {E:Oracle} {f:Nat} {first caps args as0:List V} {m m0 m2 m':Mem} {r r':V} {K:V->Mem->Prop} (is:List Evl.Id) (his:reach 0 m 64 (idsL ((first ++args++caps).map (zy6 m))) []=is)
  (hc:(within is 0 (idsL ((first ++args++caps).map (zy6 m)))&&movable is 0 m)=true) (has:renL (number ⟨0,0⟩ 0 0 is) ((first ++args++caps).map (zy6 m))=as0) (hm:moved (number ⟨0,0⟩ 0 0 is) m (number ⟨0,0⟩ 0 0 is)=m0)
  (hq:Ui E f as0 m0 r m2) (hlow:zjv 1 (zps m0)=true) (hb:zwi (number ⟨0,0⟩ 0 0 is) m2 (number ⟨0,0⟩ 0 0 is) m=some m') (hid:(ids r).all (fun i=>((number ⟨0,0⟩ 0 0 is).map (·.2)).elem i)=true) (hr:ren (zpj (number ⟨0,0⟩ 0 0 is)) r=r') (hk:K r' m'):zpg E true (.fn f first caps) args m K:=by
 obtain⟨v,m1,h1,h2⟩:=hq.got
 obtain⟨⟨v',mm⟩,h5,h6,h3⟩:=z78 h2
 dsimp only at h5 h6 h3
 split at h5
 case isFalse=>cases h5
 rename_i h4
 subst h6
 refine⟨r',m',?_,hk⟩
 simp only [zv0,his,hc,if_true,has,hm,h1]
 rw [hlow,show zjv 1 (idsAll (zew 1 m1))=true from h4]
 simp only [Bool.and_self,if_true]
 rw [show zpu ⟨0,1⟩ 0 1 true (zew 1 m1) m1 v=some (v',mm) from h5]
 dsimp only
 rw [hid,zzb h3 _ _ _ hb,<-hr]
 rfl
section
variable {E : Oracle} (g : Good E)
include g
theorem yrq (t:Nat) (ev:List Evt) (r:Rgs) (ho:OkR r) (hrs:r.rs.length<1000) (e:Evt) (hs:zia r ev.length e=0) (hev:ev.length<=1000) {K:V->Mem->Prop} (hK:∀m1,z7w m1 (mR t (ev++[e]) (zq5 r e))->K (.tup []) m1):
  In E 1 zaf [.ptr ⟨0,0,0⟩ 0 0,Evv e] (mR t ev r) K:=by
 obtain⟨hc,ha⟩:=zur hs
 obtain⟨_,_,_,hask⟩:=z0p ha
 have hes:=ho.es
 have hcs:=ho.cs
 have hme:(ev.flatMap Evt.cells).length=ev.length*5:=zae Evt.cells 5 evw ev
 rcases zrh hc with⟨nu,ki,a,s,more,kn,f,u,m,rfl,hent,hfol,hki⟩|⟨nu,a,kn,rfl⟩|⟨nu,a,en,kn,rfl⟩|⟨nu,a,kn,v,rfl⟩
 ·have hc1:=zn3 g (a::s::more) (by simp) (by
   have h:=(zs3 hc).2.1
   dsimp only at h
   rw [h]
   rcases hki with rfl|rfl|rfl
   ·decide
   ·decide
   ·decide)
  have hc2:=zn2 g [kn,f,u,m] (by simp) (by simp)
  rw [z41,if_pos hent] at hask
  obtain⟨_,hl,_⟩:=z2n hask
  have hml:(r.es.flatMap Ent.cells).length=r.es.length*8:=zae Ent.cells 8 zot r.es
  clear hs hc ha hask
  by_cases hf:ki=zby
  ·obtain⟨b,rfl⟩:=hfol hf
   subst hf
   have haft:zq5 r ⟨nu,zby,[a,s,b],[kn,f,u,m],[]⟩=⟨kn,r.es++[⟨a,zby,s,b,kn,f,u,m⟩],r.rs,r.cs⟩:=rfl
   rw [haft] at hK
   simp only [List.length_append,List.length_cons,List.length_nil,List.flatMap_append,List.flatMap_cons,List.flatMap_nil,mR] at hK
   change Fc E _ [.d (.list 3 [.str a,.str s,.str b])] (.d (.list 3 [.str a,.str s,.str b])) at hc1
   change Fc E _ [.d (.list 4 [DI kn,DI f,DI u,DI m])] (.d (.list 4 [DI kn,DI f,DI u,DI m])) at hc2
   change In E 1 zaf [.ptr ⟨0,0,0⟩ 0 0,.d (.agg [DI nu,.str zby,.list 3 [.str a,.str s,.str b],.list 4 [DI kn,DI f,DI u,DI m],.str []])] _ _
   refine In.enter (f:=zaf) g.lim rfl rfl ?_
   repeat' ((conv=>whnf);first
   | refine Yz ?_
    | (apply zai.of;assumption)
    | (refine zcp.mk ⟨rfl,rfl,rfl,rfl,rfl,rfl,by dsimp only;omega,by dsimp only;omega⟩ ?_)
    | (refine zcb.kinds g rfl ?_)
    | (refine zrz.mk ⟨_,rfl,?_⟩)
    | (refine In.enter (f:=zan) g.lim rfl rfl ?_)
    | (exact hK _ ⟨rfl,rfl,rfl,rfl,rfl,trivial⟩)
    | fail)
  ·have haft:zq5 r ⟨nu,ki,a::s::more,[kn,f,u,m],[]⟩=⟨kn,r.es++[⟨a,ki,s,[],kn,f,u,m⟩],r.rs,r.cs⟩:=by
    rw [zq5,if_pos hent,z8m,if_neg hf]
    rfl
   rw [haft] at hK
   simp only [List.length_append,List.length_cons,List.length_nil,List.flatMap_append,List.flatMap_cons,List.flatMap_nil,mR] at hK
   change Fc E _ [.d (.list (more.length+1+1) (.str a:: .str s::more.map D.str))] (.d (.list (more.length+1+1) (.str a:: .str s::more.map D.str))) at hc1
   change Fc E _ [.d (.list 4 [DI kn,DI f,DI u,DI m])] (.d (.list 4 [DI kn,DI f,DI u,DI m])) at hc2
   change In E 1 zaf [.ptr ⟨0,0,0⟩ 0 0,.d (.agg [DI nu,.str ki,.list (more.length+1+1) (.str a:: .str s::more.map D.str),.list 4 [DI kn,DI f,DI u,DI m],.str []])] _ _
   rcases hki with rfl|rfl|rfl
   ·refine In.enter (f:=zaf) g.lim rfl rfl ?_
    repeat' ((conv=>whnf);first
    | refine Yz ?_
     | (apply zai.of;assumption)
     | (refine zcp.mk ⟨rfl,rfl,rfl,rfl,rfl,rfl,by dsimp only;omega,by dsimp only;omega⟩ ?_)
     | (refine zcb.kinds g rfl ?_)
     | (refine zrz.mk ⟨_,rfl,?_⟩)
     | (refine In.enter (f:=zan) g.lim rfl rfl ?_)
     | (exact hK _ ⟨rfl,rfl,rfl,rfl,rfl,trivial⟩)
     | fail)
   ·refine In.enter (f:=zaf) g.lim rfl rfl ?_
    repeat' ((conv=>whnf);first
    | refine Yz ?_
     | (apply zai.of;assumption)
     | (refine zcp.mk ⟨rfl,rfl,rfl,rfl,rfl,rfl,by dsimp only;omega,by dsimp only;omega⟩ ?_)
     | (refine zcb.kinds g rfl ?_)
     | (refine zrz.mk ⟨_,rfl,?_⟩)
     | (refine In.enter (f:=zan) g.lim rfl rfl ?_)
     | (exact hK _ ⟨rfl,rfl,rfl,rfl,rfl,trivial⟩)
     | fail)
   ·exact absurd rfl hf
 ·have hc1:=zn3 g [a] (by simp) (by simp)
  have hc2:=zn2 g [kn] (by simp) (by simp)
  have hml:(r.rs.flatMap Rmv.cells).length=r.rs.length*2:=zae Rmv.cells 2 yml r.rs
  clear hs hc ha hask
  have haft:zq5 r ⟨nu,zdo,[a],[kn],[]⟩=⟨kn,r.es,r.rs++[⟨a,kn⟩],r.cs⟩:=rfl
  rw [haft] at hK
  simp only [List.length_append,List.length_cons,List.length_nil,List.flatMap_append,List.flatMap_cons,List.flatMap_nil,mR] at hK
  change Fc E _ [.d (.list 1 [.str a])] (.d (.list 1 [.str a])) at hc1
  change Fc E _ [.d (.list 1 [DI kn])] (.d (.list 1 [DI kn])) at hc2
  change In E 1 zaf [.ptr ⟨0,0,0⟩ 0 0,.d (.agg [DI nu,.str zdo,.list 1 [.str a],.list 1 [DI kn],.str []])] _ _
  refine In.enter (f:=zaf) g.lim rfl rfl ?_
  repeat' ((conv=>whnf);first
  | refine Yz ?_
   | (apply zai.of;assumption)
   | (refine zcp.mk ⟨rfl,rfl,rfl,rfl,rfl,rfl,by dsimp only;omega,by dsimp only;omega⟩ ?_)
   | (refine zcb.kinds g rfl ?_)
   | (refine zrz.mk ⟨_,rfl,?_⟩)
   | (refine In.enter (f:=zhy) g.lim rfl rfl ?_)
   | (refine In.enter (f:=za7) g.lim rfl rfl ?_)
   | (exact hK _ ⟨rfl,rfl,rfl,rfl,rfl,trivial⟩)
   | fail)
 ·have hc1:=zn3 g [a,en] (by simp) (by simp)
  have hc2:=zn2 g [kn] (by simp) (by simp)
  have hml:(r.cs.flatMap Cpl.cells).length=r.cs.length*5:=zae Cpl.cells 5 zs4 r.cs
  clear hs hc ha hask
  have haft:zq5 r ⟨nu,zcn,[a,en],[kn],[]⟩=⟨kn,r.es,r.rs,r.cs++[⟨a,en,kn,false,false⟩]⟩:=rfl
  rw [haft] at hK
  simp only [List.length_append,List.length_cons,List.length_nil,List.flatMap_append,List.flatMap_cons,List.flatMap_nil,mR] at hK
  change Fc E _ [.d (.list 2 [.str a,.str en])] (.d (.list 2 [.str a,.str en])) at hc1
  change Fc E _ [.d (.list 1 [DI kn])] (.d (.list 1 [DI kn])) at hc2
  change In E 1 zaf [.ptr ⟨0,0,0⟩ 0 0,.d (.agg [DI nu,.str zcn,.list 2 [.str a,.str en],.list 1 [DI kn],.str []])] _ _
  refine In.enter (f:=zaf) g.lim rfl rfl ?_
  repeat' ((conv=>whnf);first
  | refine Yz ?_
   | (apply zai.of;assumption)
   | (refine zcp.mk ⟨rfl,rfl,rfl,rfl,rfl,rfl,by dsimp only;omega,by dsimp only;omega⟩ ?_)
   | (refine zcb.kinds g rfl ?_)
   | (refine zrz.mk ⟨_,rfl,?_⟩)
   | (refine In.enter (f:=zb2) g.lim rfl rfl ?_)
   | (exact hK _ ⟨rfl,rfl,rfl,rfl,rfl,trivial⟩)
   | fail)
 ·have hc1:=zn3 g [a] (by simp) (by simp)
  have hc2:=zn2 g [kn,v] (by simp) (by simp)
  have hml:(r.rs.flatMap Rmv.cells).length=r.rs.length*2:=zae Rmv.cells 2 yml r.rs
  have hmc:(r.cs.flatMap Cpl.cells).length=r.cs.length*5:=zae Cpl.cells 5 zs4 r.cs
  change zs1 r a v=0 at hask
  rcases zn7 r.cs a with h|⟨k,hk,h,hnm⟩
  ·rw [zs1,h,if_pos (by decide)] at hask
   omega
  have hgd:r.cs.getD k yf7=r.cs[k]:=by simp [List.getD,hk]
  have haft:zq5 r ⟨nu,zez,[a],[kn,v],[]⟩=⟨kn,r.es,if v=1 then r.rs++[⟨r.cs[k].en,kn⟩] else r.rs,r.cs.set k {r.cs[k] with cl:=true,up:=decide (v=1)}⟩:=by
   change (Rgs.mk kn r.es (if v=1 then r.rs++[⟨(r.cs.getD (zwz r.cs a).toNat yf7).en,kn⟩] else r.rs) (r.cs.set (zwz r.cs a).toNat {r.cs.getD (zwz r.cs a).toNat yf7 with cl:=true,up:=decide (v=1)}))=_
   rw [h,Int.toNat_natCast,hgd]
  rw [haft] at hK
  have hq:=zsv g t (ev++[⟨nu,zez,[a],[kn,v],[]⟩]) ⟨kn,r.es,r.rs,r.cs⟩ a (by dsimp only;omega)
  rw [show zwz (Rgs.mk kn r.es r.rs r.cs).cs a=k from h,yoc,if_pos (by omega)] at hq
  simp only [List.length_append,List.length_cons,List.length_nil,List.flatMap_append,List.flatMap_cons,List.flatMap_nil,mR] at hq
  clear hs hc ha hask haft
  have hp1:patch (r.cs.flatMap Cpl.cells) ((0+((k:Nat):Int).toNat)*5+3) [.bool true]=(r.cs.set k {r.cs[k] with cl:=true}).flatMap Cpl.cells:=by
   rw [Nat.zero_add,Int.toNat_natCast]
   exact zuw Cpl.cells 5 zs4 r.cs k 3 hk (by decide) _ _ rfl
  have hm1:((r.cs.set k {r.cs[k] with cl:=true}).flatMap Cpl.cells).length=r.cs.length*5:=by rw [zae Cpl.cells 5 zs4,List.length_set]
  have hk1:k<(r.cs.set k {r.cs[k] with cl:=true}).length:=by rw [List.length_set];exact hk
  have hp2:∀b,patch ((r.cs.set k {r.cs[k] with cl:=true}).flatMap Cpl.cells) ((0+((k:Nat):Int).toNat)*5+4) [.bool b]=(r.cs.set k {r.cs[k] with cl:=true,up:=b}).flatMap Cpl.cells:=by
   intro b
   rw [Nat.zero_add,Int.toNat_natCast]
   have:=zuw Cpl.cells 5 zs4 (r.cs.set k {r.cs[k] with cl:=true}) k 4 hk1 (by decide) (.bool b) {r.cs[k] with cl:=true,up:=b} (by rw [List.getElem_set_self];rfl)
   rw [this,List.set_set]
  have hp3:∀b,k<(r.cs.set k {r.cs[k] with cl:=true,up:=b}).length:=fun b=>by rw [List.length_set];exact hk
  have hp4:∀b,(r.cs.set k {r.cs[k] with cl:=true,up:=b})[k]'(hp3 b)={r.cs[k] with cl:=true,up:=b}:=fun b=>List.getElem_set_self _
  change Fc E _ [.d (.list 1 [.str a])] (.d (.list 1 [.str a])) at hc1
  change Fc E _ [.d (.list 2 [DI kn,DI v])] (.d (.list 2 [DI kn,DI v])) at hc2
  change In E 1 zaf [.ptr ⟨0,0,0⟩ 0 0,.d (.agg [DI nu,.str zez,.list 1 [.str a],.list 2 [DI kn,DI v],.str []])] _ _
  by_cases hv:v=1
  ·rw [if_pos hv,decide_eq_true hv] at hK
   simp only [List.length_append,List.length_cons,List.length_nil,List.flatMap_append,List.flatMap_cons,List.flatMap_nil,List.length_set,mR] at hK
   refine In.enter (f:=zaf) g.lim rfl rfl ?_
   repeat' ((conv=>whnf);first
   | refine Yz ?_
    | (apply zai.of;assumption)
    | (refine zcp.mk ⟨rfl,rfl,rfl,rfl,rfl,rfl,by dsimp only;omega,by dsimp only;omega⟩ ?_)
    | (refine zcb.kinds g rfl ?_)
    | (refine zrz.mk ⟨_,rfl,?_⟩)
    | (refine Cmp.tt hv ?_)
    | (refine In.enter (f:=za2) g.lim rfl rfl ?_)
    | (refine zlp.of (r':= .ptr ⟨0,0,4⟩ ((0+((k:Nat):Int).toNat)*5) r.cs.length) isR rfl rfl rfl rfl hq rfl rfl rfl ?_)
    | (refine zcp.mk ⟨rfl,by omega,rfl⟩ ?_;first |rw [hp1]|rw [hp2])
    | (refine zgw.rec0 zs4 k rfl (hp3 true) (by rw [hp4];rfl) ?_)
    | (refine In.enter (f:=za7) g.lim rfl rfl ?_)
    | (exact hK _ ⟨rfl,rfl,rfl,rfl,rfl,trivial⟩)
    | fail)
  ·rw [if_neg hv,decide_eq_false hv] at hK
   simp only [List.length_append,List.length_cons,List.length_nil,List.flatMap_append,List.flatMap_cons,List.flatMap_nil,List.length_set,mR] at hK
   refine In.enter (f:=zaf) g.lim rfl rfl ?_
   repeat' ((conv=>whnf);first
   | refine Yz ?_
    | (apply zai.of;assumption)
    | (refine zcp.mk ⟨rfl,rfl,rfl,rfl,rfl,rfl,by dsimp only;omega,by dsimp only;omega⟩ ?_)
    | (refine zcb.kinds g rfl ?_)
    | (refine zrz.mk ⟨_,rfl,?_⟩)
    | (refine Cmp.ff hv ?_)
    | (refine In.enter (f:=za2) g.lim rfl rfl ?_)
    | (refine zlp.of (r':= .ptr ⟨0,0,4⟩ ((0+((k:Nat):Int).toNat)*5) r.cs.length) isR rfl rfl rfl rfl hq rfl rfl rfl ?_)
    | (refine zcp.mk ⟨rfl,by omega,rfl⟩ ?_;first |rw [hp1]|rw [hp2])
    | (refine zgw.rec0 zs4 k rfl (hp3 false) (by rw [hp4];rfl) ?_)
    | (refine In.enter (f:=za7) g.lim rfl rfl ?_)
    | (exact hK _ ⟨rfl,rfl,rfl,rfl,rfl,trivial⟩)
    | fail)
theorem yvy (t:Nat) (ev:List Evt) (r:Rgs) (ho:OkR r) (hrs:r.rs.length<1000) (e:Evt) (hs:zia r ev.length e=0) (hev:ev.length<=1000):Us E zaf [.ptr ⟨0,0,0⟩ 0 0,Evv e] (mR t ev r) (.tup []) (mR t (ev++[e]) (zq5 r e)):=
 ⟨yrq g t ev r ho hrs e hs hev fun _ h=>⟨rfl,h⟩⟩
end
end Go.Proofs.YtnabmkmhbncidabGreatDoor.Co
