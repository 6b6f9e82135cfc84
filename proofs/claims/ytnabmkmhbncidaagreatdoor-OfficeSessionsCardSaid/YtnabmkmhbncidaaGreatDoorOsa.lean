/-
  OfficeSessions: what its law leans on, part 1.
-/
import Derived.Laws.RangeAny
import Derived.Lib.SplitLaws
import Derived.Test.YtnabmkmhbncidaaGreatDoorAwR
import Derived.Test.YtnabmkmhbncidaaGreatDoorEvX
import Derived.Test.YtnabmkmhbncidaaGreatDoorEvY
import Derived.Test.YtnabmkmhbncidaaGreatDoorRead
import Derived.Test.YtnabmkmhbncidaaGreatDoorSpBase
namespace Go.Proofs.YtnabmkmhbncidaaGreatDoor.Co
open Go Go.Evl
set_option maxHeartbeats 32000000
set_option maxRecDepth 100000
def rng (n a b:Int):Int:=if n<a\/b<n then 3 else 0
def zar:List Int->Int
 | []=>0
 | x::r=>if x=0 then zar r else x
theorem zhn:∀l:List Int,zar l=0↔∀x∈l,x=0
 | []=>by simp [zar]
 | x::r=>by
  simp only [zar,List.mem_cons,forall_eq_or_imp]
  split
  ·rename_i h;rw [zhn r];exact⟨fun hr=>⟨h,hr⟩,fun hr=>hr.2⟩
  ·rename_i h;exact⟨fun hr=>absurd hr h,fun hr=>absurd hr.1 h⟩
section
variable {E : Oracle} (g : Good E)
include g
omit g in
theorem z0p (l:List Int) (k:Nat) (h:k<l.length):zar (l.drop k)=if l.getD k 0=0 then zar (l.drop (k+1)) else l.getD k 0:=by
 rw [List.drop_eq_getElem_cons h]
 simp [zar,List.getD,h]
end
theorem zg2.at {s:List UInt8} {i:Nat} {K:UInt8->Prop} (k:Nat) (hi:i=k) (h:k<s.length) (hk:K (s.getD k 0)):zg2 s i K:=by
 subst hi
 exact⟨⟨_,by simp [List.getD,h],hk⟩⟩
theorem zsr.asc {s:List UInt8} {k:Nat} {a:Int->Nat->Prop} {b:Prop} (h:k<s.length) (ha:(s.getD k 0).toNat<128) (hk:a (s.getD k 0).toNat 1):zsr s k a b:=by
 refine⟨fun _=> ?_,fun hn=>absurd h hn⟩
 have e:(s.getD k 0)=s[k]:=by simp [List.getD,h]
 have hd:=decode_ascii ⟨s.toArray⟩ k (by simpa [ByteArray.size] using h) (by rw [e] at ha;exact ha)
 rw [hd]
 rw [e] at hk
 exact hk
theorem zsr.high {s:List UInt8} {k:Nat} {a:Int->Nat->Prop} {b:Prop} (h:k<s.length) (ha:128<=(s.getD k 0).toNat) (hk:∀(c:Int) (w:Nat),128<=c->1<=w->a c w):zsr s k a b:=by
 refine⟨fun _=> ?_,fun hn=>absurd h hn⟩
 have e:(s.getD k 0)=s[k]:=by simp [List.getD,h]
 have hd:=decode_high ⟨s.toArray⟩ k (by simpa [ByteArray.size] using h) (by rw [e] at ha;exact ha)
 exact hk _ _ (by omega) hd.2
theorem zsr.end' {s:List UInt8} {k:Nat} {a:Int->Nat->Prop} {b:Prop} (h:s.length<=k) (hk:b):zsr s k a b:=⟨fun hn=>absurd hn (by omega),fun _=>hk⟩
def yba (k:Nat) (b:UInt8):Prop:=(65<=b.toNat/\b.toNat<=90)\/(97<=b.toNat/\b.toNat<=122)\/(0<k/\(b.toNat=95\/(48<=b.toNat/\b.toNat<=57)))
instance (k:Nat) (b:UInt8):Decidable (yba k b):=by unfold yba;infer_instance
def yn8 (s:List UInt8):Prop:=0<s.length/\s.length<=24/\∀i,i<s.length->yba i (s.getD i 0)
instance (s:List UInt8):Decidable (yn8 s):=by unfold yn8;infer_instance
def zbi (s:List UInt8):Bool:=decide (yn8 s)
theorem z0y {s:List UInt8} {k:Nat} (hk:k<s.length) (h:¬yba k (s.getD k 0)):zbi s=false:=decide_eq_false fun hn=>h (hn.2.2 k hk)
section
variable {E : Oracle} (g : Good E)
include g
theorem ylz (s:List UInt8):Fc E zko [S s] (B (zbi s)):=by
 refine g.fn rfl rfl ?_
 by_cases h0:0<s.length/\s.length<=24
 ·repeat' ((conv=>whnf);first
 | refine Yz ?_)
  refine zak.to (zak.upP g (fun _=>[(15,.it ⟨0,15,0⟩)]) (fun k=>[(⟨0,15,0⟩,.iter s k)]) (fun k=>∀i,i<k->yba i (s.getD i 0)) s.length (fun k hk hp ih=> ?_) 0 (Nat.zero_le _) (fun i hi=>by omega)) rfl rfl
  by_cases hlt:k<s.length
  ·by_cases ha:(s.getD k 0).toNat<128
   ·by_cases hok:yba k (s.getD k 0)
    ·have hp':∀i,i<k+1->yba i (s.getD i 0):=fun i hi=>by
      by_cases e:i=k
      ·subst e;exact hok
      ·exact hp i (by omega)
     have ih:=ih hlt hp'
     unfold yba at hok
     repeat' ((conv=>whnf);first
     | refine Yz ?_
      | (refine zsr.asc hlt ha ?_)
      | (refine Cmp.mk (fun h=> ?_) (fun h=> ?_))|(refine Rem.any (by omega) (fun r hr he=> ?_))|(refine Br.mk (fun h=> ?_) (fun h=> ?_))
      | (refine zak.to ih rfl rfl)
      | (exfalso;omega))
    ·have hno:=z0y hlt hok
     unfold yba at hok
     rw [hno]
     repeat' ((conv=>whnf);first
     | refine Yz ?_
      | (refine zsr.asc hlt ha ?_)
      | (refine Cmp.mk (fun h=> ?_) (fun h=> ?_))|(refine Rem.any (by omega) (fun r hr he=> ?_))|(refine Br.mk (fun h=> ?_) (fun h=> ?_))
      | (refine Ret.mk rfl)
      | (exfalso;omega))
   ·have hno:zbi s=false:=z0y hlt (by unfold yba;omega)
    rw [hno]
    repeat' ((conv=>whnf);first
    | refine Yz ?_
     | (refine zsr.high hlt (by omega) (fun c w hc hw=> ?_))
     | (refine Cmp.mk (fun h=> ?_) (fun h=> ?_))|(refine Rem.any (by omega) (fun r hr he=> ?_))|(refine Br.mk (fun h=> ?_) (fun h=> ?_))
     | (refine Ret.mk rfl)
     | (exfalso;omega))
  ·have hk':k=s.length:=by omega
   subst hk'
   have hyes:zbi s=true:=decide_eq_true ⟨h0.1,h0.2,hp⟩
   rw [hyes]
   repeat' ((conv=>whnf);first
   | refine Yz ?_
    | (refine zsr.end' (Nat.le_refl _) ?_)
    | (refine Ret.mk rfl))
 ·have hno:zbi s=false:=decide_eq_false fun hn=>h0 ⟨hn.1,hn.2.1⟩
  rw [hno]
  repeat' ((conv=>whnf);first
  | refine Yz ?_
   | (refine Cmp.mk (fun h=> ?_) (fun h=> ?_))|(refine Rem.any (by omega) (fun r hr he=> ?_))|(refine Br.mk (fun h=> ?_) (fun h=> ?_))
   | (refine Ret.mk rfl)
   | (exfalso;omega))
theorem z6s (s:List UInt8):Fc E zio [S s] (B (zbi s)):=by
 refine g.fn rfl rfl ?_
 by_cases h0:0<s.length/\s.length<=24
 ·repeat' ((conv=>whnf);first
 | refine Yz ?_)
  refine zak.to (zak.upP g (fun k=>[(0,S s),(3,I k)]) (fun _=>[]) (fun k=>∀i,i<k->yba i (s.getD i 0)) s.length (fun k hk hp ih=> ?_) 0 (Nat.zero_le _) (fun i hi=>by omega)) rfl rfl
  by_cases hlt:k<s.length
  ·by_cases hok:yba k (s.getD k 0)
   ·have hp':∀i,i<k+1->yba i (s.getD i 0):=fun i hi=>by
     by_cases e:i=k
     ·subst e;exact hok
     ·exact hp i (by omega)
    have ih:=ih hlt hp'
    unfold yba at hok
    repeat' ((conv=>whnf);first
    | refine Yz ?_
     | (refine zg2.at k (by omega) hlt ?_)
     | (refine Cmp.mk (fun h=> ?_) (fun h=> ?_))|(refine Rem.any (by omega) (fun r hr he=> ?_))|(refine Br.mk (fun h=> ?_) (fun h=> ?_))
     | (refine zak.to ih rfl rfl)
     | (exfalso;omega))
   ·have hno:=z0y hlt hok
    unfold yba at hok
    rw [hno]
    repeat' ((conv=>whnf);first
    | refine Yz ?_
     | (refine zg2.at k (by omega) hlt ?_)
     | (refine Cmp.mk (fun h=> ?_) (fun h=> ?_))|(refine Rem.any (by omega) (fun r hr he=> ?_))|(refine Br.mk (fun h=> ?_) (fun h=> ?_))
     | (refine Ret.mk rfl)
     | (exfalso;omega))
  ·have hk':k=s.length:=by omega
   subst hk'
   have hyes:zbi s=true:=decide_eq_true ⟨h0.1,h0.2,hp⟩
   rw [hyes]
   repeat' ((conv=>whnf);first
   | refine Yz ?_
    | (refine Ret.mk rfl))
 ·have hno:zbi s=false:=decide_eq_false fun hn=>h0 ⟨hn.1,hn.2.1⟩
  rw [hno]
  repeat' ((conv=>whnf);first
  | refine Yz ?_
   | (refine Cmp.mk (fun h=> ?_) (fun h=> ?_))|(refine Rem.any (by omega) (fun r hr he=> ?_))|(refine Br.mk (fun h=> ?_) (fun h=> ?_))
   | (refine Ret.mk rfl)
   | (exfalso;omega))
end
structure Evt where
 nu:Int
 ki:List UInt8
 ns:List (List UInt8)
 vs:List Int
 tx:List UInt8
 deriving DecidableEq
abbrev Ws (l:List (List UInt8)):V:= .d (.list l.length (l.map D.str))
def Evt.cells (e:Evt):List D:=[DI e.nu,.str e.ki,.list e.ns.length (e.ns.map D.str),.list e.vs.length (e.vs.map DI),.str e.tx]
abbrev Evv (e:Evt):V:= .d (.agg e.cells)
abbrev zsn:List UInt8:=[101,110,116,101,114]
abbrev zwv:List UInt8:=[114,117,108,101]
abbrev zb3:List UInt8:=[102,111,108,108,111,119]
abbrev zdk:List UInt8:=[114,101,118,101,114,115,101]
abbrev zco:List UInt8:=[99,111,109,112,108,97,105,110]
abbrev zeo:List UInt8:=[100,101,99,105,100,101]
def zca (k:List UInt8):Nat:=if k=zsn then 2 else if k=zwv then 2 else if k=zb3 then 3 else if k=zdk then 1 else if k=zco then 2 else if k=zeo then 1 else 0
def zjn (k:List UInt8):Nat:=if k=zsn then 4 else if k=zwv then 4 else if k=zb3 then 4 else if k=zdk then 1 else if k=zco then 1 else if k=zeo then 2 else 0
def zet (k:List UInt8):Bool:=decide (k=zsn)||decide (k=zwv)||decide (k=zb3)||decide (k=zdk)||decide (k=zco)||decide (k=zeo)
theorem zkm (k:List UInt8):k=zsn\/k=zwv\/k=zb3\/k=zdk\/k=zco\/k=zeo\/
  (k≠zsn/\k≠zwv/\k≠zb3/\k≠zdk/\k≠zco/\k≠zeo):=by
 by_cases h1:k=zsn
 ·exact .inl h1
 by_cases h2:k=zwv
 ·exact .inr (.inl h2)
 by_cases h3:k=zb3
 ·exact .inr (.inr (.inl h3))
 by_cases h4:k=zdk
 ·exact .inr (.inr (.inr (.inl h4)))
 by_cases h5:k=zco
 ·exact .inr (.inr (.inr (.inr (.inl h5))))
 by_cases h6:k=zeo
 ·exact .inr (.inr (.inr (.inr (.inr (.inl h6)))))
 exact .inr (.inr (.inr (.inr (.inr (.inr ⟨h1,h2,h3,h4,h5,h6⟩)))))
def znv (l:List (List UInt8)):Bool:=l.any fun s=> !zbi s
def ykz (n:Int):Bool:=decide (n<0\/999999999<n)
def far (l:List Int):Bool:=l.any ykz
def zi8 (e:Evt):Int:=
 zar [rng e.nu 1 1000,if !zet e.ki then 13 else 0,if e.ns.length≠zca e.ki\/e.vs.length≠zjn e.ki then 2 else 0,if znv e.ns then 8 else 0,if far e.vs then 3 else 0,if e.tx≠[] then 1 else 0]
def yaw {α:Type} (p:α->Bool) (l:List α):Int:=match l.findIdx? p with
 | some i=>i
 | none=> -1
theorem zn9 {α:Type} {p:α->Bool} {l:List α} {k:Nat} (hk:k<l.length) (h:p l[k]=true) (hn:∀j,(hj:j<k)->p (l[j]'(by omega))=false):yaw p l=k:=by
 have:l.findIdx? p=some k:=List.findIdx?_eq_some_iff_getElem.2 ⟨hk,h,fun j hj=>by simp [hn j hj]⟩
 simp [yaw,this]
theorem zlb {α:Type} {p:α->Bool} {l:List α} (hn:∀j,(hj:j<l.length)->p l[j]=false):yaw p l= -1:=by
 have:l.findIdx? p=none:=List.findIdx?_eq_none_iff.2 fun x hx=>by
  obtain⟨j,hj,rfl⟩:=List.mem_iff_getElem.1 hx
  exact hn j hj
 simp [yaw,this]
theorem z58 {α:Type} (p:α->Bool) (l:List α):decide (0<=yaw p l)=l.any p:=by
 unfold yaw
 cases h:l.findIdx? p with
 | none=>
  have h2:l.any p=false:=by
   rw [List.any_eq_false]
   intro x hx
   have:=List.findIdx?_eq_none_iff.1 h x hx
   simp [this]
  rw [h2];rfl
 | some i=>
  obtain⟨hi,hp,_⟩:=List.findIdx?_eq_some_iff_getElem.1 h
  have h2:l.any p=true:=List.any_eq_true.2 ⟨l[i],List.getElem_mem hi,hp⟩
  rw [h2];simp
theorem zfa.ws {l:List (List UInt8)} {i:Int} {K:D->Prop} (k:Nat) (hi:i=k) (h:k<l.length) (hk:K (.str l[k])):zfa (l.map D.str) (i.toNat*1) K:=by
 subst hi
 exact⟨⟨_,by simp [h],hk⟩⟩
theorem zfa.iw {l:List Int} {i:Int} {K:D->Prop} (k:Nat) (hi:i=k) (h:k<l.length) (hk:K (DI l[k])):zfa (l.map DI) (i.toNat*1) K:=by
 subst hi
 exact⟨⟨_,by simp [h],hk⟩⟩
section
variable {E : Oracle} (g : Good E)
include g
theorem zrc (b:Bool) (e:Int):Fc E zan [B b,I e] (I (if b then e else 0)):=by
 refine g.fn rfl rfl ?_
 cases b
 all_goals repeat' ((conv=>whnf);first
 | refine Yz ?_
  | (refine Ret.mk rfl))
theorem z1t (n a b:Int):Fc E zgc [I n,I a,I b] (I (rng n a b)):=by
 refine g.fn rfl rfl ?_
 repeat' ((conv=>whnf);first
 | refine Yz ?_
  | (refine Cmp.mk (fun h=> ?_) (fun h=> ?_))|(refine Rem.any (by omega) (fun r hr he=> ?_))|(refine Br.mk (fun h=> ?_) (fun h=> ?_))
  | (refine zah.of (zrc g _ _) ?_)
  | (refine Ret.mk ?_))
 all_goals (simp only [V.d.injEq,D.int.injEq,true_and,rng];simp_all)
theorem zy0 (l:List Int) (hl:l.length<=140737488355328):Fc E za2 [LI l] (I (zar l)):=by
 refine g.fn rfl rfl ?_
 conv=>whnf
 refine zak.upP g (fun k=>[(5,LI l),(6,I l.length),(7,I k)]) (fun _=>[]) (fun k=>zar l=zar (l.drop k)) l.length (fun k hk hp ih=> ?_) 0 (Nat.zero_le _) (by simp)
 by_cases hlt:k<l.length
 ·have hd:=z0p l k hlt
  repeat' ((conv=>whnf);first
  | refine Yz ?_
   | (refine zfa.int (by omega) ?_)
   | (refine Cmp.mk (fun h=> ?_) (fun h=> ?_))|(refine Rem.any (by omega) (fun r hr he=> ?_))|(refine Br.mk (fun h=> ?_) (fun h=> ?_))
   | (refine zak.to (ih hlt ?_) ?_ rfl)
   | (refine Ret.mk ?_))
  all_goals simp_all
 ·have:l.drop k=[]:=List.drop_eq_nil_of_le (by omega)
  repeat' ((conv=>whnf);first
  | refine Yz ?_
   | (refine Ret.mk ?_))
  simp [hp,this,zar]
theorem z6z (s:List UInt8):Fc E zdi [S s] (I (if !zbi s then 8 else 0)):=by
 refine g.fn rfl rfl ?_
 have h:=ylz g s
 repeat' ((conv=>whnf);first
 | refine Yz ?_
  | (apply zah.of;assumption)
  | (refine zah.of (zrc g _ _) ?_)
  | (refine Ret.mk rfl))
theorem z9h {f:Nat} {p:List UInt8->Bool} {l:List (List UInt8)} (hl:l.length<=1000000) (hf:∀x∈l,Fc E f [S x] (B (p x))):Fc E zdq [Ws l,.d (.fn f)] (I (yaw p l)):=by
 refine g.fn rfl rfl ?_
 conv=>whnf
 refine zak.upP g (fun k=>[(0,Ws l),(1,.d (.fn f)),(7,I l.length),(8,I k)]) (fun _=>[]) (fun k=>∀j,(hj:j<k)->(hj':j<l.length)->p l[j]=false) l.length (fun k hk hp ih=> ?_) 0 (Nat.zero_le _) (fun j hj=>by omega)
 by_cases hlt:k<l.length
 ·have hx:=hf l[k] (List.getElem_mem hlt)
  cases hb:p l[k] with
  | true=>
   rw [hb] at hx
   have hi:=zn9 (p:=p) hlt hb fun j hj=>hp j hj (by omega)
   rw [hi]
   repeat' ((conv=>whnf);first
   | refine Yz ?_
    | (refine zfa.ws k rfl hlt ?_)
    | (apply zah.of;assumption)
    | (refine Ret.mk rfl))
  | false=>
   rw [hb] at hx
   have ih:=ih hlt fun j hj hj'=>by
    by_cases e:j=k
    ·subst e;exact hb
    ·exact hp j (by omega) hj'
   repeat' ((conv=>whnf);first
   | refine Yz ?_
    | (refine zfa.ws k rfl hlt ?_)
    | (apply zah.of;assumption)
    | (refine zak.to ih rfl rfl))
 ·have hi:=zlb (p:=p) (l:=l) fun j hj=>hp j (by omega) hj
  rw [hi]
  repeat' ((conv=>whnf);first
  | refine Yz ?_
   | (refine Ret.mk rfl))
theorem z1r {f:Nat} {p:List UInt8->Bool} {l:List (List UInt8)} (hl:l.length<=1000000) (hf:∀x∈l,Fc E f [S x] (B (p x))):Fc E zc4 [Ws l,.d (.fn f)] (B (l.any p)):=by
 refine g.fn rfl rfl ?_
 have h:=z9h g hl hf
 rw [<-z58]
 repeat' ((conv=>whnf);first
 | refine Yz ?_
  | (apply zah.of;assumption)
  | (refine Cmp.mk (fun h=> ?_) (fun h=> ?_))|(refine Rem.any (by omega) (fun r hr he=> ?_))|(refine Br.mk (fun h=> ?_) (fun h=> ?_))
  | (refine Ret.mk ?_))
 all_goals simp_all
theorem z9g {f:Nat} {p:Int->Bool} {l:List Int} (hl:l.length<=1000000) (hf:∀x∈l,Fc E f [I x] (B (p x))):Fc E ze8 [LI l,.d (.fn f)] (I (yaw p l)):=by
 refine g.fn rfl rfl ?_
 conv=>whnf
 refine zak.upP g (fun k=>[(0,LI l),(1,.d (.fn f)),(7,I l.length),(8,I k)]) (fun _=>[]) (fun k=>∀j,(hj:j<k)->(hj':j<l.length)->p l[j]=false) l.length (fun k hk hp ih=> ?_) 0 (Nat.zero_le _) (fun j hj=>by omega)
 by_cases hlt:k<l.length
 ·have hx:=hf l[k] (List.getElem_mem hlt)
  cases hb:p l[k] with
  | true=>
   rw [hb] at hx
   have hi:=zn9 (p:=p) hlt hb fun j hj=>hp j hj (by omega)
   rw [hi]
   repeat' ((conv=>whnf);first
   | refine Yz ?_
    | (refine zfa.iw k rfl hlt ?_)
    | (apply zah.of;assumption)
    | (refine Ret.mk rfl))
  | false=>
   rw [hb] at hx
   have ih:=ih hlt fun j hj hj'=>by
    by_cases e:j=k
    ·subst e;exact hb
    ·exact hp j (by omega) hj'
   repeat' ((conv=>whnf);first
   | refine Yz ?_
    | (refine zfa.iw k rfl hlt ?_)
    | (apply zah.of;assumption)
    | (refine zak.to ih rfl rfl))
 ·have hi:=zlb (p:=p) (l:=l) fun j hj=>hp j (by omega) hj
  rw [hi]
  repeat' ((conv=>whnf);first
  | refine Yz ?_
   | (refine Ret.mk rfl))
theorem z1q {f:Nat} {p:Int->Bool} {l:List Int} (hl:l.length<=1000000) (hf:∀x∈l,Fc E f [I x] (B (p x))):Fc E zd9 [LI l,.d (.fn f)] (B (l.any p)):=by
 refine g.fn rfl rfl ?_
 have h:=z9g g hl hf
 rw [<-z58]
 repeat' ((conv=>whnf);first
 | refine Yz ?_
  | (apply zah.of;assumption)
  | (refine Cmp.mk (fun h=> ?_) (fun h=> ?_))|(refine Rem.any (by omega) (fun r hr he=> ?_))|(refine Br.mk (fun h=> ?_) (fun h=> ?_))
  | (refine Ret.mk ?_))
 all_goals simp_all
theorem yr7 (s:List UInt8):Fc E zfu [S s] (B (!zbi s)):=by
 refine g.fn rfl rfl ?_
 have h:=z6z g s
 cases hb:zbi s
 all_goals
  rw [hb] at h
  repeat' ((conv=>whnf);first
  | refine Yz ?_
   | (apply zah.of;assumption)
   | (refine Ret.mk rfl))
theorem yr8 (n:Int):Fc E zfv [I n] (B (ykz n)):=by
 refine g.fn rfl rfl ?_
 have h:=z1t g n 0 999999999
 by_cases hb:n<0\/999999999<n
 all_goals
  simp only [rng,hb,if_true,if_false] at h
  simp only [ykz,hb,decide_true,decide_false]
  repeat' ((conv=>whnf);first
  | refine Yz ?_
   | (apply zah.of;assumption)
   | (refine Ret.mk rfl))
abbrev kdM:List (D×V):=[(.str zsn,.agg [.d (DI 2),.d (DI 4),.fn zay [] [],.fn zap [] []]),
 (.str zwv,.agg [.d (DI 2),.d (DI 4),.fn zay [] [],.fn zap [] []]),
 (.str zb3,.agg [.d (DI 3),.d (DI 4),.fn zay [] [],.fn zap [] []]),
 (.str zdk,.agg [.d (DI 1),.d (DI 1),.fn zbc [] [],.fn zg1 [] []]),
 (.str zco,.agg [.d (DI 2),.d (DI 1),.fn za4 [] [],.fn zb6 [] []]),
 (.str zeo,.agg [.d (DI 1),.d (DI 2),.fn za6 [] [],.fn za7 [] []])]
omit g in
theorem yhb {k:List UInt8} (h:k≠zsn/\k≠zwv/\k≠zb3/\k≠zdk/\k≠zco/\k≠zeo):zpf (.str k) kdM=some none:=by
 have e:∀t,k≠t->(k==t)=false:=fun t h=>beq_eq_false_iff_ne.2 h
 obtain⟨h1,h2,h3,h4,h5,h6⟩:=h
 simp only [zpf,eqD,e _ h1,e _ h2,e _ h3,e _ h4,e _ h5,e _ h6]
theorem zb8.kinds {cx:Cx} {slot:Nat} {m:Mem} {K:V->Mem->Prop} (hf:Go.Evl.freeK cx.lv slot m=0) (k:K (.mp ⟨cx.lv,slot,0⟩) (m++[(⟨cx.lv,slot,0⟩,.map kdM)])):zb8 E zf0 [] cx slot m K:=by
 refine⟨.mp ⟨0,1,0⟩,[(⟨0,1,0⟩,.map kdM)],(.mp ⟨cx.lv,slot,0⟩,m++[(⟨cx.lv,slot,0⟩,.map kdM)]),g.lim.of_iter 1000 _ _ (by kernel_rfl),?_,k⟩
 unfold Evl.settle
 rw [hf]
 rfl
theorem zrb (e:Evt) (hn:e.ns.length<=1000000) (hv:e.vs.length<=1000000):Fc E zc9 [Evv e] (I (zi8 e)):=by
 obtain⟨nu,ki,ns,vs,tx⟩:=e
 change Fc E zc9 [.d (.agg [DI nu,.str ki,.list ns.length (ns.map D.str),.list vs.length (vs.map DI),.str tx])] _
 dsimp only at hn hv
 refine g.fn rfl rfl ?_
 have h1:=z1r g (f:=zfu) (p:=fun s=> !zbi s) hn fun x _=>yr7 g x
 have h2:=z1q g (f:=zfv) (p:=ykz) hv fun x _=>yr8 g x
 have h3:=z1t g nu 1 1000
 have hlast:∀a b c d e f:Int,Fc E za2 [.d (.list 6 [DI a,DI b,DI c,DI d,DI e,DI f])] (I (zar [a,b,c,d,e,f])):=fun a b c d e f=>zy0 g [a,b,c,d,e,f] (by simp)
 rcases zkm ki with rfl|rfl|rfl|rfl|rfl|rfl|hk
 all_goals
  first
  | (have hfind:=yhb hk)
  | (have hfind:True:=trivial)
  repeat' ((conv=>whnf);first
  | refine Yz ?_
   | (refine zb8.kinds g rfl ?_)
   | (refine zht.mk ⟨_,rfl,?_⟩)
   | (refine zht.mk ⟨_,hfind,?_⟩)
   | (apply zah.of;assumption)
   | (refine zah.of (zrc g _ _) ?_)
   | (refine zah.of (hlast _ _ _ _ _ _) ?_)
   | (refine Cmp.mk (fun h=> ?_) (fun h=> ?_))|(refine Rem.any (by omega) (fun r hr he=> ?_))|(refine Br.mk (fun h=> ?_) (fun h=> ?_))
   | (refine Ret.mk ?_))
  all_goals try norm_cast at *
  all_goals (simp_all [zi8,zet,zca,zjn,znv,far];done)
theorem z1j (n a b:Int):Fc E zgd [I n,I a,I b] (B (decide (n<a\/b<n))):=by
 refine g.fn rfl rfl ?_
 repeat' ((conv=>whnf);first
 | refine Yz ?_
  | (refine Cmp.mk (fun h=> ?_) (fun h=> ?_))|(refine Rem.any (by omega) (fun r hr he=> ?_))|(refine Br.mk (fun h=> ?_) (fun h=> ?_))
  | (refine Ret.mk ?_))
 all_goals simp_all
abbrev Frm (k:List UInt8):V:= .d (.agg [DI (zca k),DI (zjn k),.bool (zet k)])
theorem yil (k:List UInt8):Fc E zja [S k] (Frm k):=by
 refine g.fn rfl rfl ?_
 rcases zkm k with rfl|rfl|rfl|rfl|rfl|rfl|⟨h1,h2,h3,h4,h5,h6⟩
 all_goals
  repeat' ((conv=>whnf);first
  | refine Yz ?_
   | (refine Cmp.ff (by assumption) ?_)
   | (refine Ret.mk ?_))
 all_goals first |rfl|simp [zca,zjn,zet,h1,h2,h3,h4,h5,h6]
theorem zq9 (e:Evt) (hn:e.ns.length<=1000000) (hv:e.vs.length<=1000000):Fc E zeb [Evv e] (I (zi8 e)):=by
 obtain⟨nu,ki,ns,vs,tx⟩:=e
 change Fc E zeb [.d (.agg [DI nu,.str ki,.list ns.length (ns.map D.str),.list vs.length (vs.map DI),.str tx])] _
 dsimp only at hn hv
 refine g.fn rfl rfl ?_
 have h1:=z1j g nu 1 1000
 have h2:Fc E zja [S ki] (.d (.agg [DI (zca ki),DI (zjn ki),.bool (zet ki)])):=yil g ki
 by_cases hnu:nu<1\/1000<nu
 ·rw [decide_eq_true hnu] at h1
  have hr:rng nu 1 1000=3:=if_pos hnu
  repeat' ((conv=>whnf);first
  | refine Yz ?_
   | (apply zah.of;assumption)
   | (refine Ret.mk ?_))
  simp [zi8,zar,hr]
 rw [decide_eq_false hnu] at h1
 have hr:rng nu 1 1000=0:=if_neg hnu
 cases hk:zet ki with
 | false=>
  rw [hk] at h2
  repeat' ((conv=>whnf);first
  | refine Yz ?_
   | (apply zah.of;assumption)
   | (refine Ret.mk ?_))
  simp [zi8,zar,hr,hk]
 | true=>
  rw [hk] at h2
  by_cases hc:ns.length=zca ki/\vs.length=zjn ki
  ·obtain⟨hcn,hcv⟩:=hc
   repeat' ((conv=>whnf);first
   | refine Yz ?_
    | (apply zah.of;assumption))
   refine zak.to (zak.upP g (fun k=>[(1,.ptr ⟨0,1,0⟩ 0 0),(3,.ptr ⟨0,3,0⟩ 0 0),(4,I k)]) (fun _=>_) (fun k=>∀j,(hj:j<k)->(hj':j<ns.length)->zbi ns[j]=true) ns.length (fun k hkl hp ih=> ?_) 0 (Nat.zero_le _) (fun j hj=>by omega)) rfl rfl
   by_cases hlt:k<ns.length
   ·have hx:=z6s g ns[k]
    cases hb:zbi ns[k] with
    | true=>
     rw [hb] at hx
     have ih:=ih hlt fun j hj hj'=>by
      by_cases e:j=k
      ·subst e;exact hb
      ·exact hp j (by omega) hj'
     repeat' ((conv=>whnf);first
     | refine Yz ?_
      | (refine zfa.ws k rfl hlt ?_)
      | (apply zah.of;assumption)
      | (refine zak.to ih rfl rfl))
    | false=>
     rw [hb] at hx
     have hnl:znv ns=true:=List.any_eq_true.2 ⟨ns[k],List.getElem_mem hlt,by simp [hb]⟩
     repeat' ((conv=>whnf);first
     | refine Yz ?_
      | (refine zfa.ws k rfl hlt ?_)
      | (apply zah.of;assumption)
      | (refine Ret.mk ?_))
     simp [zi8,zar,hr,hk,hcn,hcv,hnl]
   ·have hnl:znv ns=false:=by
     refine List.any_eq_false.2 fun x hx=> ?_
     obtain⟨j,hj,rfl⟩:=List.mem_iff_getElem.1 hx
     simp [hp j (by omega) hj]
    repeat' ((conv=>whnf);first
    | refine Yz ?_)
    refine zak.to (zak.upP g (fun k=>[(1,.ptr ⟨0,1,0⟩ 0 0),(3,.ptr ⟨0,3,0⟩ 0 0),(5,I k)]) (fun _=>_) (fun k=>∀j,(hj:j<k)->(hj':j<vs.length)->ykz vs[j]=false) vs.length (fun k hk2 hp2 ih2=> ?_) 0 (Nat.zero_le _) (fun j hj=>by omega)) rfl rfl
    by_cases hlt2:k<vs.length
    ·have hx:=z1j g vs[k] 0 999999999
     change Fc E zgd _ (B (ykz vs[k])) at hx
     cases hb:ykz vs[k] with
     | false=>
      rw [hb] at hx
      have ih2:=ih2 hlt2 fun j hj hj'=>by
       by_cases e:j=k
       ·subst e;exact hb
       ·exact hp2 j (by omega) hj'
      repeat' ((conv=>whnf);first
      | refine Yz ?_
       | (refine zfa.iw k rfl hlt2 ?_)
       | (apply zah.of;assumption)
       | (refine zak.to ih2 rfl rfl))
     | true=>
      rw [hb] at hx
      have hfr:far vs=true:=List.any_eq_true.2 ⟨vs[k],List.getElem_mem hlt2,hb⟩
      repeat' ((conv=>whnf);first
      | refine Yz ?_
       | (refine zfa.iw k rfl hlt2 ?_)
       | (apply zah.of;assumption)
       | (refine Ret.mk ?_))
      simp [zi8,zar,hr,hk,hcn,hcv,hnl,hfr]
    ·have hfr:far vs=false:=by
      refine List.any_eq_false.2 fun x hx=> ?_
      obtain⟨j,hj,rfl⟩:=List.mem_iff_getElem.1 hx
      simp [hp2 j (by omega) hj]
     by_cases htx:tx=[]
     ·subst htx
      repeat' ((conv=>whnf);first
      | refine Yz ?_
       | (refine Ret.mk ?_))
      simp [zi8,zar,hr,hk,hcn,hcv,hnl,hfr]
     ·repeat' ((conv=>whnf);first
     | refine Yz ?_
       | (refine Cmp.tt htx ?_)
       | (refine Cmp.ff htx ?_)
       | (refine Ret.mk ?_))
      simp [zi8,zar,hr,hk,hcn,hcv,hnl,hfr,htx]
  ·have hc2:ns.length≠zca ki\/vs.length≠zjn ki:=by omega
   repeat' ((conv=>whnf);first
   | refine Yz ?_
    | (apply zah.of;assumption)
    | (refine Cmp.mk (fun h=> ?_) (fun h=> ?_))|(refine Rem.any (by omega) (fun r hr he=> ?_))|(refine Br.mk (fun h=> ?_) (fun h=> ?_))
    | (refine Ret.mk ?_))
   all_goals try norm_cast at *
   all_goals (simp_all [zi8,zar];done)
end
def dig (n:Int):UInt8:=UInt8.ofNat (48+n.toNat)
def z29:Nat->Int->List UInt8
 | 0,_=>[]
 | k+1,n=>z29 k (n/10)++[dig (n%10)]
theorem zxs:∀(k:Nat) (n:Int),(z29 k n).length=k
 | 0,_=>rfl
 | k+1,n=>by simp [z29,zxs k]
theorem Wr.keep8 {x:Int} {K:Int->Prop} (h:0<=x/\x<=255) (k:K x):Wr .u8 x K:=⟨by
 have:IntKind.u8.wrap x=x:=by
  have hb:IntKind.u8.wrap x=x%256:=by simp [IntKind.wrap,IntKind.signed,IntKind.bits]
  rw [hb];omega
 rw [this];exact k⟩
section
variable {E : Oracle} (g : Good E)
include g
theorem z4m (n:Int) (h:0<=n/\n<=9223372036854775807):Fc E n_strconv_Itoa [I n] (S (zav 20 n.toNat)):=
 Fc.extern g.lim (x:=itoaX) rfl (v:=S (zav 20 n.toNat)) (m':=[]) (by simp only [itoaX];rw [if_pos h]) rfl
theorem ybq (n:Int) (h:0<=n/\n<=9):Fc E zme [I n] (S [dig n]):=by
 refine g.fn rfl rfl ?_
 have hc:n=0\/n=1\/n=2\/n=3\/n=4\/n=5\/n=6\/n=7\/n=8\/n=9:=by omega
 rcases hc with rfl|rfl|rfl|rfl|rfl|rfl|rfl|rfl|rfl|rfl
 all_goals repeat' ((conv=>whnf);first
 | refine Yz ?_
  | (refine za9.mk (by decide) ?_)
  | (refine Ret.mk rfl))
end
theorem z4v:∀k:Nat,z29 k 0=List.replicate k 48
 | 0=>rfl
 | k+1=>by
  have:z29 (k+1) 0=z29 k 0++[48]:=rfl
  rw [this,z4v k,<-List.replicate_succ']
theorem z93:∀(w f u:Nat),1<=w->w<=f->u<10^w->(zav f u).length<=w/\List.replicate (w-(zav f u).length) 48++zav f u=z29 w u
 | 0,_,_,h,_,_=>absurd h (by omega)
 | _+1,0,_,_,h,_=>absurd h (by omega)
 | w+1,f+1,u,_,hf,hu=>by
  simp only [zav]
  split
  ·rename_i hlt
   refine⟨by simp,?_⟩
   have e1:(u:Int)/10=0:=by omega
   have e2:(u:Int)%10=u:=by omega
   simp only [z29,e1,e2,z4v]
   simp [dig]
  ·rename_i hge
   have hw:1<=w:=by
    rcases Nat.eq_zero_or_pos w with h|h
    ·subst h;simp at hu;omega
    ·exact h
   rw [Nat.pow_succ] at hu
   obtain⟨h1,h2⟩:=z93 w f (u/10) hw (by omega) (by omega)
   refine⟨by simp;omega,?_⟩
   have e1:(u:Int)/10=((u/10:Nat):Int):=by omega
   have e2:((u:Int)%10).toNat=u%10:=by omega
   simp only [z29,e1]
   rw [<-h2]
   simp [dig,e2]
theorem zmk (b:UInt8):b.toNat<256:=b.toNat_lt
section
variable {E : Oracle} (g : Good E)
include g
omit g in
theorem z1o:∀k:Nat,Lib.repeatL [48] k=List.replicate k (48:UInt8)
 | 0=>rfl
 | k+1=>by
  rw [List.replicate_succ,<-z1o k]
  rfl
theorem ym8:∀(f:Nat) (n:Int),f<=16->0<=n/\n<(10^(f+1):Nat)->Fc E zle [I n] (S (zav (f+1) n.toNat))
 | 0,n,_,h=>by
  refine g.fn rfl rfl ?_
  have hd:=ybq g n (by omega)
  repeat' ((conv=>whnf);first
  | refine Yz ?_
   | (apply zah.of;assumption)
   | (refine Ret.mk ?_))
  simp only [zav]
  rw [if_pos (by omega)]
  rfl
 | f+1,n,hf,h=>by
  refine g.fn rfl rfl ?_
  rw [Nat.pow_succ] at h
  have hp:10^(f+1)<=10^17:=Nat.pow_le_pow_right (by omega) (by omega)
  by_cases hl:n<10
  ·have hd:=ybq g n (by omega)
   repeat' ((conv=>whnf);first
   | refine Yz ?_
    | (apply zah.of;assumption)
    | (refine Ret.mk ?_))
   rw [zav,if_pos (by omega)]
   rfl
  ·have hd:=ybq g (n%10) (by omega)
   have ih:=ym8 f (n/10) (by omega) (by omega)
   have hlen:∀(k u:Nat),(zav k u).length<=k:=fun k=>by
    induction k with
    | zero=>intro u;simp [zav]
    | succ k ih=>
     intro u
     simp only [zav]
     split
     ·simp
     ·have:=ih (u/10);simp;omega
   have hl2:=hlen (f+1) (n/10).toNat
   repeat' ((conv=>whnf);first
   | refine Yz ?_
    | (apply zah.of;assumption)
    | (refine zbd.mk (by simp only [zmy,List.length_cons,List.length_nil];omega) ?_)
    | (refine Ret.mk ?_))
   have e1:(n/10).toNat=n.toNat/10:=by omega
   have e2:(n%10).toNat=n.toNat%10:=by omega
   show S (zav (f+1) (n/10).toNat++[dig (n%10)])=S (if n.toNat<10 then _ else zav (f+1) (n.toNat/10)++[UInt8.ofNat (48+n.toNat%10)])
   rw [if_neg (by omega),dig,e1,e2]
end
def zjm (n:Int):List UInt8:=zav 20 n.toNat
theorem zti:∀(k u:Nat),(zav k u).length<=k
 | 0,_=>Nat.le_refl 0
 | k+1,u=>by
  unfold zav
  split
  ·simp
  ·have:=zti k (u/10)
   simp only [List.length_append,List.length_cons,List.length_nil]
   omega
theorem ycu (n:Int):(zjm n).length<=20:=zti 20 _
theorem zxd:∀(f k u:Nat),u<10^(f+1)->u<10^(k+1)->zav (f+1) u=zav (k+1) u
 | f,k,u,h1,h2=>by
  rw [zav,zav]
  split
  ·rfl
  ·rename_i hu
   cases f with
   | zero=>simp at h1;omega
   | succ f=>
    cases k with
    | zero=>simp at h2;omega
    | succ k=>
     rw [zxd f k (u/10) (by rw [Nat.pow_succ] at h1;omega) (by rw [Nat.pow_succ] at h2;omega)]
def z08 (s:List UInt8):Option Nat:=if s.length=0\/9<s.length\/(1<s.length/\s.head? =some 48) then none else Lib.decFrom 0 s
theorem ygn (c:UInt8):∀(s:List UInt8) (a:Nat),Lib.decFrom a (s++[c])=(Lib.decFrom a s).bind fun m=>(Lib.digitVal c).map fun d=>m*10+d
 | [],a=>by
  simp only [List.nil_append,Lib.decFrom]
  cases Lib.digitVal c<;>rfl
 | x::r,a=>by
  simp only [List.cons_append,Lib.decFrom]
  cases Lib.digitVal x with
  | none=>rfl
  | some d=>exact ygn c r _
theorem ypt:∀(s:List UInt8) (a n:Nat),Lib.decFrom a s=some n->a<=n
 | [],a,n,h=>by simp only [Lib.decFrom,Option.some.injEq] at h;omega
 | x::r,a,n,h=>by
  simp only [Lib.decFrom] at h
  cases hd:Lib.digitVal x with
  | none=>rw [hd] at h;cases h
  | some d=>
   rw [hd] at h
   have:=ypt r _ n h
   omega
theorem ykw {c:UInt8} {d:Nat} (h:Lib.digitVal c=some d):d<=9/\c=UInt8.ofNat (48+d)/\c.toNat=48+d:=by
 unfold Lib.digitVal at h
 split at h
 ·rename_i hc
  simp only [Option.some.injEq] at h
  have e:48+d=c.toNat:=by omega
  refine⟨by omega,?_,e.symm⟩
  rw [e]
  exact(UInt8.ofNat_toNat).symm
 ·cases h
theorem z5u {d:Nat} (h:d<=9):Lib.digitVal (UInt8.ofNat (48+d))=some d:=by
 have:d=0\/d=1\/d=2\/d=3\/d=4\/d=5\/d=6\/d=7\/d=8\/d=9:=by omega
 rcases this with rfl|rfl|rfl|rfl|rfl|rfl|rfl|rfl|rfl|rfl<;>rfl
theorem z8d:∀(f:Nat) (s:List UInt8) (n:Nat),Lib.decFrom 0 s=some n->s≠[]->(s.length=1\/s.head? ≠some 48)->s.length<=f->zav f n=s
 | 0,s,n,_,h0,_,hl=>absurd (List.length_eq_zero_iff.1 (by omega)) h0
 | f+1,s,n,h,h0,hz,hl=>by
  obtain⟨x,c,rfl⟩:∃x c,s=x++[c]:=⟨s.dropLast,s.getLast h0,(List.dropLast_concat_getLast h0).symm⟩
  rw [ygn] at h
  cases hx:Lib.decFrom 0 x with
  | none=>rw [hx] at h;cases h
  | some m=>
   cases hd:Lib.digitVal c with
   | none=>rw [hx,hd] at h;cases h
   | some d=>
    rw [hx,hd] at h
    simp only [Option.bind_some,Option.map_some,Option.some.injEq] at h
    obtain⟨h9,hc,_⟩:=ykw hd
    by_cases he:x=[]
    ·subst he
     simp only [Lib.decFrom,Option.some.injEq] at hx
     unfold zav
     rw [if_pos (by omega),hc]
     simp only [List.nil_append]
     congr 2
     omega
    ·have hh:x.head? ≠some 48:=by
      rcases hz with hz|hz
      ·have:=List.length_pos_iff.2 he
       rw [List.length_append,List.length_singleton] at hz
       omega
      ·cases x with
       | nil=>exact absurd rfl he
       | cons y q=>simpa using hz
     have hm:1<=m:=by
      cases x with
      | nil=>exact absurd rfl he
      | cons y q=>
       simp only [Lib.decFrom] at hx
       cases hy:Lib.digitVal y with
       | none=>rw [hy] at hx;cases hx
       | some e=>
        rw [hy] at hx
        have h1:=ypt q _ m hx
        obtain⟨_,h2,_⟩:=ykw hy
        have:e≠0:=fun e0=>hh (by subst e0;rw [h2];rfl)
        omega
     have hl':x.length<=f:=by rw [List.length_append,List.length_singleton] at hl;omega
     have ih:=z8d f x m hx he (.inr hh) hl'
     unfold zav
     rw [if_neg (by omega),show n/10=m by omega,ih,hc]
     congr 3
     omega
theorem z8b:∀(f n:Nat),n<10^(f+1)->Lib.decFrom 0 (zav (f+1) n)=some n
 | 0,n,h=>by
  have h:n<10:=by simpa using h
  unfold zav
  rw [if_pos h]
  simp only [Lib.decFrom,z5u (show n<=9 by omega)]
  simp
 | f+1,n,h=>by
  unfold zav
  by_cases h10:n<10
  ·rw [if_pos h10]
   simp only [Lib.decFrom,z5u (show n<=9 by omega)]
   simp
  ·rw [if_neg h10,ygn,z8b f (n/10) (by rw [Nat.pow_succ] at h;omega),z5u (by omega)]
   simp only [Option.bind_some,Option.map_some,Option.some.injEq]
   omega
theorem zwq:∀(f n:Nat),zav (f+1) n≠[]
 | f,n=>by
  unfold zav
  split<;>simp
theorem zxb:∀(f n:Nat),n<10^(f+1)->(zav (f+1) n).length=1\/(zav (f+1) n).head? ≠some 48
 | 0,n,h=>by
  have h:n<10:=by simpa using h
  unfold zav
  rw [if_pos h]
  exact .inl rfl
 | f+1,n,h=>by
  unfold zav
  by_cases h10:n<10
  ·rw [if_pos h10];exact .inl rfl
  ·rw [if_neg h10]
   refine .inr ?_
   have hne:=zwq f (n/10)
   rcases zxb f (n/10) (by rw [Nat.pow_succ] at h;omega) with ih|ih
   ·cases f with
    | zero=>
     unfold zav
     rw [Nat.pow_succ] at h
     have:n/10<10:=by omega
     rw [if_pos this]
     have h1:1<=n/10:=by omega
     generalize n/10=m at *
     have:m=1\/m=2\/m=3\/m=4\/m=5\/m=6\/m=7\/m=8\/m=9:=by omega
     rcases this with rfl|rfl|rfl|rfl|rfl|rfl|rfl|rfl|rfl<;>simp
    | succ f=>
     unfold zav at ih ⊢
     by_cases hm:n/10<10
     ·rw [if_pos hm]
      have h1:1<=n/10:=by omega
      generalize n/10=m at *
      have:m=1\/m=2\/m=3\/m=4\/m=5\/m=6\/m=7\/m=8\/m=9:=by omega
      rcases this with rfl|rfl|rfl|rfl|rfl|rfl|rfl|rfl|rfl<;>simp
     ·rw [if_neg hm] at ih
      have:=List.length_pos_iff.2 (zwq f (n/10/10))
      rw [List.length_append,List.length_singleton] at ih
      omega
   ·cases hq:zav (f+1) (n/10) with
    | nil=>exact absurd hq hne
    | cons y q=>rw [hq] at ih;simpa using ih
theorem yhu {s:List UInt8} {n:Nat} (h:z08 s=some n):n<=999999999:=by
 unfold z08 at h
 split at h
 ·cases h
 ·rename_i hn
  have h1:=Lib.decFrom_lt s 0 n h
  have h2:10^s.length<=10^9:=Nat.pow_le_pow_right (by decide) (by omega)
  simp only [Nat.zero_add,Nat.one_mul] at h1
  have:(10:Nat)^9=1000000000:=by decide
  omega
theorem z8z {s:List UInt8} {n:Nat} (h:z08 s=some n):zjm n=s:=by
 unfold z08 at h
 split at h
 ·cases h
 ·rename_i hn
  unfold zjm
  rw [Int.toNat_natCast]
  refine z8d 20 s n h (fun e=>hn (.inl (by rw [e];rfl))) ?_ (by omega)
  by_cases h1:s.length=1
  ·exact .inl h1
  ·exact .inr fun e=>hn (.inr (.inr ⟨by omega,e⟩))
theorem zxc {f n:Nat} (h:n<10^(f+1)):(zav 20 n).length<=f+1:=by
 have key:∀(f g n:Nat),n<10^(f+1)->f<=g->(zav (g+1) n).length<=f+1:=by
  intro f
  induction f with
  | zero=>
   intro g n h _
   have h:n<10:=by simpa using h
   unfold zav
   rw [if_pos h]
   exact Nat.le_refl _
  | succ f ih=>
   intro g n h hg
   unfold zav
   split
   ·simp
   ·obtain⟨g',rfl⟩:∃g',g=g'+1:=⟨g-1,by omega⟩
    have:=ih g' (n/10) (by rw [Nat.pow_succ] at h;omega) (by omega)
    rw [List.length_append,List.length_singleton]
    omega
 by_cases hf:f<=19
 ·exact key f 19 n h hf
 ·have:=zti 20 n
  omega
theorem ya7 {n:Int} (h:0<=n/\n<=999999999):z08 (zjm n)=some n.toNat:=by
 unfold zjm z08
 have hn:n.toNat<10^(8+1):=by
  have:(10:Nat)^9=1000000000:=by decide
  omega
 have h20:n.toNat<10^(19+1):=Nat.lt_of_lt_of_le hn (by decide)
 have h1:=zxc hn
 have h2:=zwq 19 n.toNat
 have h3:=zxb 19 n.toNat h20
 have h4:0<(zav 20 n.toNat).length:=List.length_pos_iff.2 h2
 rw [if_neg,z8b 19 _ h20]
 rintro(h|h|⟨h,h'⟩)
 ·omega
 ·omega
 ·rcases h3 with h3|h3
  ·have h3:(zav 20 n.toNat).length=1:=h3
   omega
  ·exact h3 h'
def ykf (s:List UInt8):Int×Bool:=
 match Lib.atoiAll s with
 | .ok n=>(n,decide (0<=n)&&decide (n<=999999999)&&decide (zjm n=s))
 | .syntax=>(0,false)
 | .range=>(Lib.atoiSat s,false)
theorem ynj {s:List UInt8} {n:Nat} (h0:s≠[]) (h:Lib.decFrom 0 s=some n):Lib.atoi s=some (n:Int):=by
 cases s with
 | nil=>exact absurd rfl h0
 | cons c r=>
  have hd:∃d,Lib.digitVal c=some d:=by
   cases hv:Lib.digitVal c with
   | none=>rw [Lib.decFrom,hv] at h;cases h
   | some d=>exact⟨d,rfl⟩
  obtain⟨d,hd⟩:=hd
  have hc:=(ykw hd).2.2
  have e1:(c==45)=false:=beq_eq_false_iff_ne.2 fun e=>by
   have:c.toNat=45:=by rw [e];rfl
   omega
  have e2:(c==43)=false:=beq_eq_false_iff_ne.2 fun e=>by
   have:c.toNat=43:=by rw [e];rfl
   omega
  simp only [Lib.atoi,e1,e2,Lib.decNat,List.isEmpty_cons,h]
  simp
theorem yk4 (s:List UInt8):z08 s=if(ykf s).2=true then some (ykf s).1.toNat else none:=by
 cases hb:(ykf s).2
 ·rw [if_neg (by decide)]
  cases hn:z08 s with
  | none=>rfl
  | some m=>
   exfalso
   have hm:=yhu hn
   have ht:=z8z hn
   unfold z08 at hn
   split at hn
   ·cases hn
   ·rename_i hc
    have hl:s.length<=9:=by omega
    have h0:s≠[]:=fun e=>hc (.inl (by rw [e];rfl))
    have ha:Lib.atoiAll s= .ok (m:Int):=by rw [Lib.atoiAll_short s (by omega),ynj h0 hn];rfl
    unfold ykf at hb
    rw [ha] at hb
    simp only [Bool.and_eq_false_iff,decide_eq_false_iff_not] at hb
    rcases hb with(hb|hb)|hb
    ·omega
    ·omega
    ·exact hb ht
 ·rw [if_pos rfl]
  unfold ykf at hb ⊢
  cases hv:Lib.atoiAll s with
  | ok n=>
   rw [hv] at hb
   simp only [Bool.and_eq_true,decide_eq_true_eq] at hb
   obtain⟨⟨h1,h2⟩,h3⟩:=hb
   have:=ya7 ⟨h1,h2⟩
   rw [h3] at this
   exact this
  | «syntax»=>rw [hv] at hb;cases hb
  | range=>rw [hv] at hb;cases hb
def yo1 (x:Int):List UInt8->Int
 | []=>x
 | b::r=>yo1 ((281*x+b.toNat)%9999943) r
def zw6 (s:List UInt8):Int:=yo1 1 s
def yjv (s:List UInt8):List UInt8:=z29 7 (zw6 s)
theorem ymf (a b:List UInt8):∀x,yo1 x (a++b)=yo1 (yo1 x a) b:=by
 induction a with
 | nil=>intro x;rfl
 | cons c r ih=>intro x;exact ih _
theorem yei {s:List UInt8} {k:Nat} (h:k<s.length):zw6 (s.take (k+1))=(281*zw6 (s.take k)+(s.getD k 0).toNat)%9999943:=by
 have e:s.getD k 0=s[k]:=by simp [List.getD,h]
 rw [e,List.take_add_one,List.getElem?_eq_getElem h,Option.toList_some]
 unfold zw6
 rw [ymf];rfl
theorem yjw (s:List UInt8):0<=zw6 s/\zw6 s<9999943:=by
 have key:∀(s:List UInt8) (x:Int),0<=x/\x<9999943->0<=yo1 x s/\yo1 x s<9999943:=by
  intro s
  induction s with
  | nil=>intro x h;exact h
  | cons b r ih=>
   intro x h
   have:=zmk b
   exact ih _ (by omega)
 exact key s 1 (by omega)
theorem zy3 (s:List UInt8):(yjv s).length=7:=zxs 7 _
theorem yjx (s:List UInt8):(zav 20 (zw6 s).toNat).length<=7/\List.replicate (7-(zav 20 (zw6 s).toNat).length) 48++zav 20 (zw6 s).toNat=yjv s:=by
 have h:=yjw s
 have h7:(10:Nat)^7=10000000:=by decide
 obtain⟨h1,h2⟩:=z93 7 20 (zw6 s).toNat (by omega) (by omega) (by omega)
 rw [Int.toNat_of_nonneg h.1] at h2
 exact⟨h1,h2⟩
def zrd (s:List UInt8):Bool:=decide (s.length=7)&&s.all fun b=>decide (48<=b.toNat/\b.toNat<=57)
section
variable {E : Oracle} (g : Good E)
include g
theorem yqc (n:Int) (h:0<=n/\n<=999999999):Fc E n_strconv_Itoa [I n] (S (zjm n)):=z4m g n (by omega)
theorem yr5 (n:Int) (h:0<=n/\n<=999999999):Fc E zle [I n] (S (zjm n)):=by
 have p1:(10^(9+1):Nat)=10000000000:=by decide
 have p2:(10^(19+1):Nat)=100000000000000000000:=by decide
 have h1:=ym8 g 9 n (by decide) (by omega)
 rw [zxd 9 19 n.toNat (by omega) (by omega)] at h1
 exact h1
theorem zrq (n:Int) (h:0<=n/\n<=999999999):Fc E zfw [I n] (S (zjm n)):=by
 refine g.fn rfl rfl ?_
 have h1:=yr5 g n h
 repeat' ((conv=>whnf);first
 | refine Yz ?_
  | (apply zah.of;assumption)
  | (refine Ret.mk rfl))
theorem yqr (s:List UInt8) (hs:s.length<=1000000):Fc E znt [S s] (S (yjv s)):=by
 refine g.fn rfl rfl ?_
 repeat' ((conv=>whnf);first
 | refine Yz ?_)
 refine zak.to (zak.up g (fun k=>[(0,S s),(3,I (zw6 (s.take k))),(7,I s.length),(8,I k)]) (fun _=>[]) s.length (fun k hk ih=> ?_) 0 (Nat.zero_le _)) rfl rfl
 have hb:=yjw (s.take k)
 by_cases hlt:k<s.length
 ·have ih:=ih hlt
  have hu:=zmk (s.getD k 0)
  rw [yei hlt] at ih
  repeat' ((conv=>whnf);first
  | refine Yz ?_
   | (refine zg2.at k (by omega) hlt ?_)
   | (refine zak.to ih rfl rfl))
 ·obtain rfl:k=s.length:=by omega
  rw [List.take_length] at hb ⊢
  obtain⟨h1,h2⟩:=yjx s
  have hi:=z4m g (zw6 s) (by omega)
  have hr:Fc E n_strings_Repeat [S [48],I (7-((zav 20 (zw6 s).toNat).length:Int))] (S (List.replicate (7-(zav 20 (zw6 s).toNat).length) 48)):=by
   have e:(7-((zav 20 (zw6 s).toNat).length:Int))=((7-(zav 20 (zw6 s).toNat).length:Nat):Int):=by omega
   rw [e]
   refine Fc.extern g.lim (x:=repeatX) rfl (v:=S (List.replicate (7-(zav 20 (zw6 s).toNat).length) 48)) (m':=[]) ?_ rfl
   simp only [repeatX]
   rw [if_pos ⟨by omega,by omega,by simp⟩,Int.toNat_natCast,z1o]
  repeat' ((conv=>whnf);first
  | refine Yz ?_
   | (apply zah.of;assumption)
   | (refine zbd.mk (by simp only [zmy,List.length_replicate];omega) ?_)
   | (refine Ret.mk ?_))
  rw [h2]
theorem yqj (s:List UInt8) (hs:s.length<=1000000):Fc E zku [S s] (S (yjv s)):=by
 refine g.fn rfl rfl ?_
 repeat' ((conv=>whnf);first
 | refine Yz ?_)
 refine zak.to (zak.up g (fun k=>[(0,S s),(3,I (zw6 (s.take k))),(4,I k)]) (fun _=>[]) s.length (fun k hk ih=> ?_) 0 (Nat.zero_le _)) rfl rfl
 have hb:=yjw (s.take k)
 by_cases hlt:k<s.length
 ·have ih:=ih hlt
  have hu:=zmk (s.getD k 0)
  rw [yei hlt] at ih
  repeat' ((conv=>whnf);first
  | refine Yz ?_
   | (refine zg2.at k (by omega) hlt ?_)
   | (refine zak.to ih rfl rfl))
 ·obtain rfl:k=s.length:=by omega
  rw [List.take_length] at hb ⊢
  obtain⟨h1,h2⟩:=yjx s
  have hi:Fc E zfw [I (zw6 s)] (S (zav 20 (zw6 s).toNat)):=zrq g (zw6 s) (by omega)
  repeat' ((conv=>whnf);first
  | refine Yz ?_
   | (apply zah.of;assumption))
  refine zak.to (zak.up g (fun k=>[(5,S (List.replicate k 48++zav 20 (zw6 s).toNat))]) (fun _=>[]) (7-(zav 20 (zw6 s).toNat).length) (fun k hk ih=> ?_) 0 (Nat.zero_le _)) rfl rfl
  have hl:(List.replicate k (48:UInt8)++zav 20 (zw6 s).toNat).length=k+(zav 20 (zw6 s).toNat).length:=by simp
  by_cases hlt:k<7-(zav 20 (zw6 s).toNat).length
  ·have ih:=ih hlt
   repeat' ((conv=>whnf);first
   | refine Yz ?_
    | (refine zbd.mk (by simp only [zmy,List.length_append,List.length_replicate,List.length_cons,List.length_nil];omega) ?_)
    | (refine zak.to ih rfl rfl))
  ·obtain rfl:k=7-(zav 20 (zw6 s).toNat).length:=by omega
   rw [h2] at hl ⊢
   have h7:=zy3 s
   repeat' ((conv=>whnf);first
   | refine Yz ?_
    | (refine Ret.mk rfl))
end
theorem zb8.of {E:Oracle} {f:Nat} {args:List V} {cx:Cx} {slot:Nat} {m:Mem} {K:V->Mem->Prop} (h:In E 0 f args [] fun v m'=>zrv (Go.Evl.settle cx slot 0 m m' v) fun p=>K p.1 p.2):zb8 E f args cx slot m K:=by
 obtain⟨v,m',h1,p,h2,h3⟩:=h
 exact⟨v,m',p,h1,h2,h3⟩
structure Rqt where
 (nm ca ki te pa li:List UInt8)
 (fr to da mi se si no:Int)
 deriving DecidableEq
def Rqt.cells (q:Rqt):List D:=[.str q.nm,.str q.ca,.str q.ki,.str q.te,.str q.pa,.str q.li,DI q.fr,DI q.to,DI q.da,DI q.mi,DI q.se,DI q.si,DI q.no]
structure Lnt where
 ac:List UInt8
 rq:Rqt
def Lnt.cells (l:Lnt):List D:= .str l.ac::l.rq.cells
section
variable {E : Oracle} (g : Good E)
include g
theorem yim (l:List (List UInt8)) (s:List UInt8) (hl:l.length<=140737488355328):Fc E zm5 [.d (.list l.length (l.map D.str)),S s] (B (decide (s∈l))):=by
 refine g.fn rfl rfl ?_
 conv=>whnf
 refine zak.upP g (fun k=>[(0,.d (.list l.length (l.map D.str))),(1,S s),(5,I k)]) (fun _=>[]) (fun k=>∀i,i<k->∀x,l[i]? =some x->x≠s) l.length (fun k hk hp ih=> ?_) 0 (Nat.zero_le _) (fun i hi=>absurd hi (Nat.not_lt_zero _))
 by_cases hlt:k<l.length
 ·have hg:(l.map D.str)[((k:Int)).toNat*1]? =some (.str l[k]):=by simp [hlt]
  by_cases he:l[k]=s
  ·rw [decide_eq_true (by rw [<-he];exact List.getElem_mem hlt)]
   repeat' ((conv=>whnf);first
   | refine Yz ?_
    | (refine zfa.now hg ?_)
    | (refine Cmp.tt he ?_)
    | (refine Ret.mk rfl))
  ·have ih:=ih hlt fun i hi x hx=>by
    by_cases e:i=k
    ·subst e
     rw [List.getElem?_eq_getElem hlt] at hx
     rw [<-Option.some.inj hx];exact he
    ·exact hp i (by omega) x hx
   repeat' ((conv=>whnf);first
   | refine Yz ?_
    | (refine zfa.now hg ?_)
    | (refine Cmp.ff he ?_)
    | (refine zak.to ih rfl rfl))
 ·have hno:s∉l:=fun hm=>by
   obtain⟨i,hi,e⟩:=List.getElem_of_mem hm
   exact hp i (by omega) s (by rw [List.getElem?_eq_getElem hi,e]) rfl
  rw [decide_eq_false hno]
  repeat' ((conv=>whnf);first
  | refine Yz ?_
   | (refine Ret.mk rfl))
end
end Go.Proofs.YtnabmkmhbncidaaGreatDoor.Co
namespace Go.Evl
open Go Go.Lib
def parts (b:UInt8):List UInt8->List (List UInt8)
 | []=>[[]]
 | x::r=>if x=b then []::parts b r else
  match parts b r with
  | []=>[[x]]
  | p::q=>(x::p)::q
theorem znz (b:UInt8) (s:List UInt8):parts b s≠[]:=by
 cases s with
 | nil=>simp [parts]
 | cons x r=>
  unfold parts
  split
  ·simp
  ·split<;>simp
theorem zjy (b:UInt8):∀s:List UInt8,(parts b s).length<=s.length+1
 | []=>by simp [parts]
 | x::r=>by
  have ih:=zjy b r
  rw [parts]
  split
  ·simp;omega
  ·split
   ·simp
   ·rename_i h;rw [h] at ih;simp only [List.length_cons] at ih ⊢;omega
theorem zxp (b:UInt8):∀s:List UInt8,splitK [b] 0 (count s [b]) s=parts b s
 | []=>by
  have:count ([]:List UInt8) [b]=0:=count_miss (by rw [index_one];rfl)
  rw [this];rfl
 | x::r=>by
  have ih:=zxp b r
  unfold parts
  by_cases h:x=b
  ·subst h
   have hi:index (x::r) [x]=((0:Nat):Int):=by rw [index_one];simp [indexByte]
   have hc:=count_hit (by simp) hi
   simp only [List.length_cons,List.length_nil,Nat.zero_add,List.drop_succ_cons,List.drop_zero] at hc
   rw [hc,Nat.add_comm 1,if_pos rfl,<-ih]
   simp only [splitK,hi,List.length_cons,List.length_nil]
   rfl
  ·rw [count_cons_ne x b r h,if_neg h,<-ih]
   have hx:(x==b)=false:=by simpa using h
   generalize count r [b]=k
   cases k with
   | zero=>rfl
   | succ k=>
    have hr:index (x::r) [b]=if indexByte r b== -1 then -1 else indexByte r b+1:=by rw [index_one];simp [indexByte,hx]
    have hq:index r [b]=indexByte r b:=index_one r b
    simp only [splitK,hr,hq]
    have hge:=indexByte_ge r b
    by_cases hm:indexByte r b= -1
    ·simp [hm]
    ·obtain⟨i,hi⟩:∃i:Nat,indexByte r b=i:=⟨(indexByte r b).toNat,by omega⟩
     rw [hi]
     have e1:(((i:Nat):Int)== -1)=false:=by simp
     have e2:(((i:Nat):Int)+1== -1)=false:=by simp;omega
     have e3:(((i:Nat):Int)+1).toNat=i+1:=by omega
     simp only [e1,e2,e3,Bool.false_eq_true,if_false,Int.toNat_natCast,Nat.add_zero,List.take_succ_cons,List.length_cons,List.length_nil,Nat.zero_add,List.drop_succ_cons]
theorem z9y (s:List UInt8) (b:UInt8):z9x s [b]=parts b s:=by
 unfold z9x
 rw [splitB_data]
 exact zxp b s
def zga (b:UInt8):List (List UInt8)->List UInt8
 | []=>[]
 | [x]=>x
 | x::y::r=>x++b::zga b (y::r)
theorem z00 (b:UInt8):∀l:List (List UInt8),Lib.join l [b]=zga b l
 | []=>rfl
 | [x]=>Lib.join_one x [b]
 | x::y::r=>by
  have ih:=z00 b (y::r)
  simp only [Lib.join,List.intercalate] at ih ⊢
  simp only [List.intersperse_cons_cons,List.flatten_cons,ih,zga]
  simp
theorem ya0 (b x:UInt8) (p:List UInt8) (q:List (List UInt8)):zga b ((x::p)::q)=x::zga b (p::q):=by
 cases q<;>rfl
theorem zxj (b:UInt8):∀s:List UInt8,zga b (parts b s)=s
 | []=>rfl
 | x::r=>by
  have ih:=zxj b r
  unfold parts
  by_cases h:x=b
  ·rw [if_pos h]
   cases hp:parts b r with
   | nil=>exact absurd hp (znz b r)
   | cons p q=>rw [zga,<-hp,ih,h];rfl
  ·rw [if_neg h]
   cases hp:parts b r with
   | nil=>exact absurd hp (znz b r)
   | cons p q=>
    rw [hp] at ih
    rw [ya0,ih]
theorem zrp (b:UInt8):∀w:List UInt8,b∉w->parts b w=[w]
 | [],_=>rfl
 | x::r,h=>by
  have hx:¬x=b:=fun e=>h (by simp [e])
  have hr:b∉r:=fun e=>h (by simp [e])
  unfold parts
  rw [if_neg hx,zrp b r hr]
theorem zny (b:UInt8) (s:List UInt8):∀w:List UInt8,b∉w->parts b (w++b::s)=w::parts b s
 | [],_=>by simp [parts]
 | x::r,h=>by
  have hx:¬x=b:=fun e=>h (by simp [e])
  have hr:b∉r:=fun e=>h (by simp [e])
  rw [List.cons_append,parts,if_neg hx,zny b s r hr]
end Go.Evl
namespace Go.Proofs.YtnabmkmhbncidaaGreatDoor.Co
open Go Go.Evl
set_option maxHeartbeats 32000000
set_option maxRecDepth 100000
abbrev LS (l:List (List UInt8)):V:= .d (.list l.length (l.map D.str))
theorem z0j {s:List UInt8} {f i:Nat} (h:f<=i):s.drop f=win s f (i-f)++s.drop i:=by
 unfold win
 have:=(List.take_append_drop (i-f) (s.drop f)).symm
 rwa [List.drop_drop,Nat.add_sub_cancel' h] at this
theorem yhp {s:List UInt8} {b:UInt8} {f i:Nat} (h:b∈win s f (i-f)):∃j,f<=j/\j<i/\j<s.length/\s.getD j 0=b:=by
 unfold win at h
 obtain⟨k,hk,rfl⟩:=List.getElem_of_mem h
 simp only [List.length_take,List.length_drop] at hk
 refine⟨f+k,by omega,by omega,by omega,?_⟩
 simp [List.getD,show f+k<s.length by omega]
theorem zrt:∀l:List (List UInt8),Evl.strsOf (l.map D.str)=some l
 | []=>rfl
 | x::r=>by simp only [List.map_cons,Evl.strsOf,zrt r,Option.map_some]
section
variable {E : Oracle} (g : Good E)
include g
theorem zpx (s:List UInt8) (hs:s.length<=1000000):Fc E n_strings_Split [S s,S [32]] (LS (parts 32 s)):=by
 refine Fc.extern g.lim (x:=splitX) rfl (v:=LS (parts 32 s)) (m':=[]) ?_ rfl
 simp only [splitX,z9y]
 rw [if_pos ⟨hs,by simp⟩]
theorem yi6 (l:List (List UInt8)) (_hn:l≠[]) (hl:l.length<=1000000) (hj:(zga 32 l).length<=1000000):Fc E n_strings_Join [.d (.list l.length (l.map D.str)),S [32]] (S (zga 32 l)):=by
 refine Fc.extern g.lim (x:=joinX) rfl (v:=S (zga 32 l)) (m':=[]) ?_ rfl
 simp only [joinX,zrt,z00]
 rw [if_pos ⟨trivial,hj,hl⟩]
end
section
variable {E : Oracle} (g : Good E)
include g
theorem yow {f:Nat} {p:UInt8->Bool} {s:List UInt8} (h1:∀b:UInt8,b.toNat<128->Fc E f [.d (.int .i32 b.toNat)] (B (p b))) (h2:∀c:Int,128<=c->Fc E f [.d (.int .i32 c)] (B true)) (h3:∀b:UInt8,128<=b.toNat->p b=true):
  Fc E zi6 [S s,.d (.fn f),B true] (I (yaw p s)):=by
 refine g.fn rfl rfl ?_
 repeat' ((conv=>whnf);first
 | refine Yz ?_)
 refine zak.to (zak.upP g (fun _=>[(1,.d (.fn f)),(2,B true),(10,.it ⟨0,10,0⟩)]) (fun k=>[(⟨0,10,0⟩,.iter s k)]) (fun k=>∀j,(hj:j<k)->(hj':j<s.length)->p s[j]=false) s.length (fun k hk hp ih=> ?_) 0 (Nat.zero_le _) (fun j hj=>by omega)) rfl rfl
 by_cases hlt:k<s.length
 ·have eg:s.getD k 0=s[k]:=by simp [List.getD,hlt]
  by_cases ha:(s.getD k 0).toNat<128
  ·have hx:=h1 (s.getD k 0) ha
   cases hb:p s[k] with
   | true=>
    rw [eg,hb] at hx
    rw [eg] at ha
    have hi:=zn9 (p:=p) hlt hb fun j hj=>hp j hj (by omega)
    rw [hi]
    repeat' ((conv=>whnf);first
    | refine Yz ?_
     | (refine zsr.asc hlt (by rw [eg];exact ha) ?_;rw [eg])
     | (apply zah.of;assumption)
     | (refine Ret.mk rfl))
   | false=>
    rw [eg,hb] at hx
    rw [eg] at ha
    have ih:=ih hlt fun j hj hj'=>by
     by_cases e:j=k
     ·subst e;exact hb
     ·exact hp j (by omega) hj'
    repeat' ((conv=>whnf);first
    | refine Yz ?_
     | (refine zsr.asc hlt (by rw [eg];exact ha) ?_;rw [eg])
     | (apply zah.of;assumption)
     | (refine zak.to ih rfl rfl))
  ·have hb:p s[k]=true:=by rw [<-eg];exact h3 _ (by omega)
   have hi:=zn9 (p:=p) hlt hb fun j hj=>hp j hj (by omega)
   rw [hi]
   repeat' ((conv=>whnf);first
   | refine Yz ?_
    | (refine zsr.high hlt (by omega) (fun c w hc hw=> ?_);have hx:=h2 c hc)
    | (apply zah.of;assumption)
    | (refine Ret.mk rfl))
 ·obtain rfl:k=s.length:=by omega
  have hi:=zlb (p:=p) (l:=s) fun j hj=>hp j hj hj
  rw [hi]
  repeat' ((conv=>whnf);first
  | refine Yz ?_
   | (refine zsr.end' (Nat.le_refl _) ?_)
   | (refine Ret.mk rfl))
theorem yi8 {f:Nat} {p:UInt8->Bool} {s:List UInt8} (h1:∀b:UInt8,b.toNat<128->Fc E f [.d (.int .i32 b.toNat)] (B (p b))) (h2:∀c:Int,128<=c->Fc E f [.d (.int .i32 c)] (B true)) (h3:∀b:UInt8,128<=b.toNat->p b=true):
  Fc E zfe [S s,.d (.fn f)] (B (s.any p)):=by
 have h:=yow g (s:=s) h1 h2 h3
 have hi:Fc E zi5 [S s,.d (.fn f)] (I (yaw p s)):=by
  refine g.fn rfl rfl ?_
  repeat' ((conv=>whnf);first
  | refine Yz ?_
   | (apply zah.of;assumption)
   | (refine Ret.mk rfl))
 refine g.fn rfl rfl ?_
 rw [<-z58]
 repeat' ((conv=>whnf);first
 | refine Yz ?_
  | (apply zah.of;assumption)
  | (refine Cmp.mk (fun h=> ?_) (fun h=> ?_))|(refine Rem.any (by omega) (fun r hr he=> ?_))|(refine Br.mk (fun h=> ?_) (fun h=> ?_))
  | (refine Ret.mk ?_))
 all_goals simp_all
theorem yne (c:Int):Fc E zhz [.d (.int .i32 c)] (B (decide (c<48\/57<c))):=by
 refine g.fn rfl rfl ?_
 repeat' ((conv=>whnf);first
 | refine Yz ?_
  | (refine Cmp.mk (fun h=> ?_) (fun h=> ?_))|(refine Rem.any (by omega) (fun r hr he=> ?_))|(refine Br.mk (fun h=> ?_) (fun h=> ?_))
  | (refine Ret.mk ?_))
 all_goals simp_all
theorem yi9 (s:List UInt8):Fc E zm4 [S s] (B (zrd s)):=by
 refine g.fn rfl rfl ?_
 have h:=yi8 g (f:=zhz) (s:=s) (p:=fun b=> !decide (48<=b.toNat/\b.toNat<=57))
  (fun b hb=>by
   have:=yne g b.toNat
   have e:decide ((b.toNat:Int)<48\/57<(b.toNat:Int))= !decide (48<=b.toNat/\b.toNat<=57):=by
    rw [<-decide_not]
    exact decide_eq_decide.2 (by omega)
   rw [e] at this
   exact this)
  (fun c hc=>by
   have:=yne g c
   rw [decide_eq_true (by omega)] at this
   exact this)
  (fun b hb=>by simp;omega)
 have e:(s.any fun b=> !decide (48<=b.toNat/\b.toNat<=57))= !(s.all fun b=>decide (48<=b.toNat/\b.toNat<=57)):=by
  rw [List.not_all_eq_any_not]
 rw [e] at h
 unfold zrd
 by_cases h7:s.length=7
 ·rw [decide_eq_true h7,Bool.true_and]
  cases hb:s.all fun b=>decide (48<=b.toNat/\b.toNat<=57)
  all_goals
   rw [hb] at h
   repeat' ((conv=>whnf);first
   | refine Yz ?_
    | (apply zah.of;assumption)
    | (refine Ret.mk rfl))
 ·rw [decide_eq_false h7,Bool.false_and]
  repeat' ((conv=>whnf);first
  | refine Yz ?_
   | (refine Ret.mk rfl))
theorem yip (s:List UInt8) (hs:s.length<=1000000):Fc E zod [S s] (B (zrd s)):=by
 refine g.fn rfl rfl ?_
 repeat' ((conv=>whnf);first
 | refine Yz ?_)
 refine zak.to (zak.upP g (fun k=>[(0,S s),(3,I k)]) (fun _=>[]) (fun k=>∀j,(hj:j<k)->(hj':j<s.length)->48<=s[j].toNat/\s[j].toNat<=57) s.length (fun k hk hp ih=> ?_) 0 (Nat.zero_le _) (fun j hj=>by omega)) rfl rfl
 by_cases hlt:k<s.length
 ·have eg:s.getD k 0=s[k]:=by simp [List.getD,hlt]
  have hb:=zmk (s.getD k 0)
  by_cases hd:48<=(s.getD k 0).toNat/\(s.getD k 0).toNat<=57
  ·have ih:=ih hlt fun j hj hj'=>by
    by_cases e:j=k
    ·subst e;rw [<-eg];exact hd
    ·exact hp j (by omega) hj'
   repeat' ((conv=>whnf);first
   | refine Yz ?_
    | (refine zg2.at k (by omega) hlt ?_)
    | (refine zak.to ih rfl rfl))
  ·have hno:zrd s=false:=by
    unfold zrd
    have:(s.all fun b=>decide (48<=b.toNat/\b.toNat<=57))=false:=by
     rw [List.all_eq_false]
     exact⟨s[k],List.getElem_mem hlt,by rw [<-eg];simpa using hd⟩
    rw [this,Bool.and_false]
   rw [hno]
   repeat' ((conv=>whnf);first
   | refine Yz ?_
    | (refine zg2.at k (by omega) hlt ?_)
    | (refine Cmp.mk (fun h=> ?_) (fun h=> ?_))|(refine Rem.any (by omega) (fun r hr he=> ?_))|(refine Br.mk (fun h=> ?_) (fun h=> ?_))
    | (refine Ret.mk rfl)
    | (exfalso;omega))
 ·have hall:(s.all fun b=>decide (48<=b.toNat/\b.toNat<=57))=true:=by
   rw [List.all_eq_true]
   intro x hx
   obtain⟨j,hj,rfl⟩:=List.mem_iff_getElem.1 hx
   simpa using hp j (by omega) hj
  unfold zrd
  rw [hall,Bool.and_true]
  by_cases h7:s.length=7
  ·rw [decide_eq_true h7]
   repeat' ((conv=>whnf);first
   | refine Yz ?_
    | (refine Ret.mk rfl))
  ·rw [decide_eq_false h7]
   repeat' ((conv=>whnf);first
   | refine Yz ?_
    | (refine Ret.mk rfl))
end
def z8c (s:List UInt8):Int×Bool:=
 match Lib.atoiAll s with
 | .ok n=>(n,decide (s.length<=9)&&decide (0<=n)&&decide (zjm n=s))
 | .syntax=>(0,false)
 | .range=>(Lib.atoiSat s,false)
theorem ygo {s:List UInt8} {m:Nat} (h:Lib.decFrom 0 s=some m) (hs:s.length<=9):m<=999999999:=by
 have h1:=Lib.decFrom_lt _ 0 m h
 have h3:=Nat.pow_le_pow_right (n:=10) (by decide) hs
 have e:(10:Nat)^9=1000000000:=by decide
 omega
theorem yge {s:List UInt8} {n:Int} (h:Lib.atoiAll s= .ok n) (hs:s.length<=9):n<=999999999:=by
 rw [Lib.atoiAll_short s (by omega)] at h
 cases ha:Lib.atoi s with
 | none=>rw [ha] at h;cases h
 | some k=>
  rw [ha] at h
  have hk:k=n:=by cases h;rfl
  subst hk
  obtain⟨b0,r,rfl,hc⟩:=Lib.atoi_cases ha
  simp only [List.length_cons] at hs
  rcases hc with⟨_,m,_,hm,rfl⟩|⟨_,m,_,hm,rfl⟩|⟨_,_,m,hm,rfl⟩
  ·have:=ygo hm (by omega);omega
  ·have:=ygo hm (by omega);omega
  ·have:=ygo hm (by simp only [List.length_cons];omega);omega
theorem ykt (s:List UInt8):z08 s=if(z8c s).2=true then some (z8c s).1.toNat else none:=by
 have h:=yk4 s
 rw [h]
 have e:(z8c s).2=(ykf s).2/\((ykf s).2=true->(z8c s).1=(ykf s).1):=by
  unfold z8c ykf
  cases hv:Lib.atoiAll s with
  | ok n=>
   refine⟨?_,fun _=>rfl⟩
   dsimp only
   by_cases h3:zjm n=s
   ·by_cases h1:0<=n
    ·by_cases h2:s.length<=9
     ·have:=yge hv h2
      simp [h1,h2,this]
     ·have p9:(10:Nat)^(8+1)=1000000000:=by decide
      have h4:¬n<=999999999:=fun h4=>h2 (by
       rw [<-h3]
       exact zxc (f:=8) (by omega))
      simp [h2,h4]
    ·simp [h1]
   ·simp [h3]
  | «syntax»=>exact⟨rfl,fun h=>by cases h⟩
  | range=>exact⟨rfl,fun h=>by cases h⟩
 rw [e.1]
 cases hb:(ykf s).2 with
 | false=>rfl
 | true=>rw [if_pos rfl,if_pos rfl,e.2 hb]
section
variable {E : Oracle} (g : Good E)
include g
theorem z1k (s:List UInt8) (hs:s.length<=1000000):Fc E zmg [S s] (LS (parts 32 s)):=by
 refine g.fn rfl rfl ?_
 repeat' ((conv=>whnf);first
 | refine Yz ?_)
 refine zak.to (zak.by (σ:=Nat×List (List UInt8)×Nat) g
  (fun x=>x.1<=s.length+1/\x.2.1.length<=x.1/\(x.1<=s.length->x.2.2<=x.1/\parts 32 s=x.2.1++parts 32 (s.drop x.2.2)/\∀j,x.2.2<=j->j<x.1->s.getD j 0≠32)/\(x.1=s.length+1->parts 32 s=x.2.1))
  (fun x=>[(0,S s),(3,.ref ⟨0,3,0⟩ 0 x.2.1.length x.2.1.length),(4,I x.2.2),(5,I x.1)])
  (fun x=>[(⟨0,2,0⟩,.row false zab 1 0 []),(⟨0,3,0⟩,.row false zab 1 x.2.1.length (x.2.1.map D.str))])
  (fun x=>s.length+1-x.1) ?_ (0,[],0) ⟨by omega,by simp,fun _=>⟨by simp,by simp,fun j _ h=>absurd h (Nat.not_lt_zero _)⟩,fun h=>by simp at h⟩) rfl rfl
 rintro⟨i,dn,f⟩ ⟨h1,h2,h3,h4⟩ ih
 simp only at h1 h2 h3 h4 ih
 dsimp only
 have hml:(dn.map D.str).length=dn.length:=List.length_map _
 by_cases hi:i<=s.length
 ·obtain⟨hf,hp,hn⟩:=h3 hi
  clear h3 h4
  have hnw:(32:UInt8)∉win s f (i-f):=fun hm=>by
   obtain⟨j,j1,j2,_,j4⟩:=yhp hm
   exact hn j j1 j2 j4
  have hd:=z0j (s:=s) hf
  by_cases he:i=s.length
  ·have hlast:parts 32 s=dn++[win s f (i-f)]:=by
    rw [hp,hd,List.drop_eq_nil_of_le (by omega),List.append_nil,zrp 32 _ hnw]
   have ih:=ih (i+1,dn++[win s f (i-f)],i+1) ⟨by simp only;omega,by simp only [List.length_append,List.length_cons,List.length_nil];omega,fun h=>by simp only at h;omega,fun _=>hlast⟩ (by simp only;omega)
   simp only [List.length_append,List.length_cons,List.length_nil,List.map_append,List.map_cons,List.map_nil] at ih
   repeat' ((conv=>whnf);first
   | refine Yz ?_
    | (refine za9.mk (by omega) ?_)
    | (refine zbd.mk (by simp only [List.length_cons,List.length_nil];omega) ?_)
    | (refine zak.to ih rfl rfl))
  ·have hlt:i<s.length:=by omega
   have hb:=s.getD i 0|>.toNat_lt
   by_cases hc:s.getD i 0=32
   ·have hcons:s.drop i=32::s.drop (i+1):=by
     rw [List.drop_eq_getElem_cons hlt]
     have:s[i]=32:=by simpa [List.getD,hlt] using hc
     rw [this]
    have hnext:parts 32 s=(dn++[win s f (i-f)])++parts 32 (s.drop (i+1)):=by
     rw [hp,hd,hcons,zny 32 _ _ hnw]
     simp
    have hc':(s.getD i 0).toNat=32:=by rw [hc];rfl
    have ih:=ih (i+1,dn++[win s f (i-f)],i+1) ⟨by simp only;omega,by simp only [List.length_append,List.length_cons,List.length_nil];omega,fun _=>⟨by simp only;omega,hnext,fun j j1 j2=>by simp only at j1 j2;omega⟩,fun h=>by simp only at h;omega⟩ (by simp only;omega)
    simp only [List.length_append,List.length_cons,List.length_nil,List.map_append,List.map_cons,List.map_nil] at ih
    repeat' ((conv=>whnf);first
    | refine Yz ?_
     | (refine zg2.at i (by omega) hlt ?_)
     | (refine za9.mk (by omega) ?_)
     | (refine zbd.mk (by simp only [List.length_cons,List.length_nil];omega) ?_)
     | (refine zak.to ih rfl rfl))
   ·have hc':(s.getD i 0).toNat≠32:=fun e=>hc (UInt8.toNat_inj.1 e)
    have ih:=ih (i+1,dn,f) ⟨by simp only;omega,by simp only;omega,fun _=>⟨by simp only;omega,hp,fun j j1 j2=>by
     simp only at j2
     by_cases e:j=i
     ·subst e;exact hc
     ·exact hn j j1 (by omega)⟩,fun h=>by simp only at h;omega⟩ (by simp only;omega)
    simp only at ih
    repeat' ((conv=>whnf);first
    | refine Yz ?_
     | (refine zg2.at i (by omega) hlt ?_)
     | (refine zak.to ih rfl rfl))
 ·have hi':i=s.length+1:=by omega
  rw [h4 hi']
  repeat' ((conv=>whnf);first
  | refine Yz ?_
   | (refine Ret.mk ?_))
  rw [if_pos ⟨rfl,rfl⟩]
theorem zvj (s:List UInt8) (hs:s.length<=1000000):Fc E zg0 [S s] (.tup [I (z8c s).1,B (z8c s).2]):=by
 refine g.fn rfl rfl ?_
 unfold z8c
 cases hv:Lib.atoiAll s with
 | ok n=>
  have hx:atoiX [S s] []=some (.tup [I n,.d .nili],[]):=by simp only [atoiX,hv];rw [if_pos hs]
  dsimp only
  by_cases h2:s.length<=9
  ·by_cases h1:0<=n
   ·by_cases h4:n<=9223372036854775807
    ·have hd:Fc E n_strconv_Itoa [I n] (S (zjm n)):=z4m g n ⟨h1,h4⟩
     rw [decide_eq_true h1,decide_eq_true h2]
     by_cases h3:zjm n=s
     ·rw [decide_eq_true h3]
      repeat' ((conv=>whnf);first
      | refine Yz ?_
       | (refine zb8.ext g rfl hx rfl ?_)
       | (apply zah.of;assumption)
       | (refine Cmp.tt h3 ?_)
       | (exact Ret.mk rfl)
       | fail)
     ·rw [decide_eq_false h3]
      repeat' ((conv=>whnf);first
      | refine Yz ?_
       | (refine zb8.ext g rfl hx rfl ?_)
       | (apply zah.of;assumption)
       | (refine Cmp.ff h3 ?_)
       | (exact Ret.mk rfl)
       | fail)
    ·exact absurd (yge hv h2) (by omega)
   ·rw [decide_eq_false h1,decide_eq_true h2]
    repeat' ((conv=>whnf);first
    | refine Yz ?_
     | (refine zb8.ext g rfl hx rfl ?_)
     | (exact Ret.mk rfl)
     | fail)
  ·rw [decide_eq_false h2]
   repeat' ((conv=>whnf);first
   | refine Yz ?_
    | (refine zb8.ext g rfl hx rfl ?_)
    | (exact Ret.mk rfl)
    | fail)
 | «syntax»=>
  have hx:atoiX [S s] []=some (.tup [I 0,.d (.ifc true)],[]):=by simp only [atoiX,hv];rw [if_pos hs]
  dsimp only
  repeat' ((conv=>whnf);first
  | refine Yz ?_
   | (refine zb8.ext g rfl hx rfl ?_)
   | (exact Ret.mk rfl)
   | fail)
 | range=>
  have hx:atoiX [S s] []=some (.tup [I (Lib.atoiSat s),.d (.ifc true)],[]):=by simp only [atoiX,hv];rw [if_pos hs]
  dsimp only
  repeat' ((conv=>whnf);first
  | refine Yz ?_
   | (refine zb8.ext g rfl hx rfl ?_)
   | (exact Ret.mk rfl)
   | fail)
theorem yja (l:List Int) (hl:l.length<=1000000) (hr:∀x∈l,0<=x/\x<=999999999):Fc E zfo [LI l,.d (.fn n_strconv_Itoa)] (Ws (l.map zjm)):=by
 refine g.fn rfl rfl ?_
 repeat' ((conv=>whnf);first
 | refine Yz ?_)
 refine zak.to (zak.up g (fun k=>[(1,.d (.fn n_strconv_Itoa)),(5,.ref ⟨0,5,0⟩ 0 k k),(8,LI l),(9,I l.length),(10,I k)])
  (fun k=>[(⟨0,4,0⟩,.row false zab 1 0 []),(⟨0,5,0⟩,.row false zab 1 k (((l.take k).map zjm).map D.str))]) l.length (fun k hk ih=> ?_) 0 (Nat.zero_le _)) rfl rfl
 have hml:(((l.take k).map zjm).map D.str).length=k:=by simp;omega
 by_cases hlt:k<l.length
 ·have ih:=ih hlt
  have hx:=yqc g l[k] (hr _ (List.getElem_mem hlt))
  rw [List.take_add_one,List.getElem?_eq_getElem hlt,Option.toList_some] at ih
  simp only [List.map_append,List.map_cons,List.map_nil] at ih
  repeat' ((conv=>whnf);first
  | refine Yz ?_
   | (refine zfa.iw k rfl hlt ?_)
   | (apply zah.of;assumption)
   | (refine zbd.mk (by simp only [List.length_cons,List.length_nil];omega) ?_)
   | (refine zak.to ih rfl rfl))
 ·obtain rfl:k=l.length:=by omega
  rw [List.take_length]
  repeat' ((conv=>whnf);first
  | refine Yz ?_
   | (refine Ret.mk ?_))
  rw [if_pos ⟨rfl,rfl⟩]
  simp
end
def zgz (s:List UInt8):Bool:=(z08 s).isSome
def zna (s:List UInt8):Int:=((z08 s).getD 0:Nat)
def noE:Evt:=⟨0,[],[],[],[]⟩
def z13 (k:List UInt8) (r:List (List UInt8)):Bool:=zet k&&decide (r.length=zca k+zjn k)&& !decide ([]∈r)&&(r.drop (zca k)).all zgz
def evW (k:List UInt8) (r:List (List UInt8)):Evt:=⟨0,k,r.take (zca k),(r.drop (zca k)).map zna,[]⟩
def zps (s:List UInt8):Option Evt:=match parts 32 s with
 | []=>none
 | k::r=>if z13 k r=true then some (evW k r) else none
abbrev ysl (o:Option Evt):V:= .tup [Evv (o.getD noE),B o.isSome]
theorem yg8 (s:List UInt8):0<=zna s/\zna s<=999999999:=by
 unfold zna
 cases h:z08 s with
 | none=>exact⟨Int.le_refl 0,by decide⟩
 | some n=>
  have:=yhu h
  simp only [Option.getD_some]
  omega
theorem ze4 (s:List UInt8):(z8c s).2=zgz s/\(zgz s=true->(z8c s).1=zna s):=by
 have h:=ykt s
 unfold zgz zna
 cases hb:(z8c s).2 with
 | false=>rw [hb,if_neg (by decide)] at h;rw [h];exact⟨rfl,fun h=>by cases h⟩
 | true=>
  rw [hb,if_pos rfl] at h
  rw [h]
  refine⟨rfl,fun _=> ?_⟩
  have:0<=(z8c s).1:=by
   unfold z8c at hb ⊢
   cases hv:Lib.atoiAll s with
   | ok n=>
    rw [hv] at hb
    simp only [Bool.and_eq_true,decide_eq_true_eq] at hb
    exact hb.1.2
   | «syntax»=>rw [hv] at hb;cases hb
   | range=>rw [hv] at hb;cases hb
  simp only [Option.getD_some]
  omega
theorem ztm (k:List UInt8):zca k<=3/\zjn k<=4:=by
 rcases zkm k with rfl|rfl|rfl|rfl|rfl|rfl|⟨h1,h2,h3,h4,h5,h6⟩
 all_goals (try (exact⟨by decide,by decide⟩))
 unfold zca zjn
 rw [if_neg h1,if_neg h2,if_neg h3,if_neg h4,if_neg h5,if_neg h6,if_neg h1,if_neg h2,if_neg h3,if_neg h4,if_neg h5,if_neg h6]
 omega
theorem z6o (b:UInt8):∀(s p:List UInt8),p∈parts b s->p.length<=s.length
 | [],p,h=>by
  simp only [parts,List.mem_singleton] at h
  subst h;exact Nat.le_refl 0
 | x::r,p,h=>by
  have ih:=z6o b r
  unfold parts at h
  split at h
  ·rcases List.mem_cons.1 h with rfl|h
   ·simp
   ·have:=ih p h
    simp only [List.length_cons];omega
  ·cases hp:parts b r with
   | nil=>rw [hp] at h;simp only [List.mem_singleton] at h;subst h;simp
   | cons q t=>
    rw [hp] at h ih
    rcases List.mem_cons.1 h with rfl|h
    ·have:=ih q (by simp)
     simp only [List.length_cons];omega
    ·have:=ih p (List.mem_cons_of_mem _ h)
     simp only [List.length_cons];omega
abbrev z4x (s:List UInt8):V:= .tup [I (zna s),B (zgz s)]
theorem yrd {s:List UInt8} (h:z08 s=none):z4x s= .tup [I 0,B false]:=by
 simp only [z4x,zna,zgz,h];rfl
theorem ytd {s:List UInt8} {n:Nat} (h:z08 s=some n):z4x s= .tup [I n,B true]:=by
 simp only [z4x,zna,zgz,h];rfl
section
variable {E : Oracle} (g : Good E)
include g
theorem zlg (s:List UInt8):Fc E zhq [S s] (z4x s):=by
 refine g.fn rfl rfl ?_
 have hb0:=zmk (s.getD 0 0)
 by_cases h0:s.length=0
 ·rw [yrd (by unfold z08;rw [if_pos (.inl h0)])]
  repeat' ((conv=>whnf);first
  | refine Yz ?_
   | (refine Ret.mk rfl))
 ·by_cases h9:9<s.length
  ·rw [yrd (by unfold z08;rw [if_pos (.inr (.inl h9))])]
   repeat' ((conv=>whnf);first
   | refine Yz ?_
    | (refine Ret.mk rfl))
  ·by_cases hz:1<s.length/\(s.getD 0 0).toNat=48
   ·have hz':1<s.length/\s.head? =some 48:=by
     refine⟨hz.1,?_⟩
     cases s with
     | nil=>exact absurd rfl h0
     | cons a r=>
      have:a.toNat=48:=hz.2
      simp only [List.head?_cons,Option.some.injEq]
      exact UInt8.toNat_inj.1 this
    rw [yrd (by unfold z08;rw [if_pos (.inr (.inr hz'))])]
    obtain⟨hz1,hz2⟩:=hz
    repeat' ((conv=>whnf);first
    | refine Yz ?_
     | (refine zg2.at 0 (by omega) (by omega) ?_)
     | (refine Ret.mk rfl))
   ·have hN:z08 s=Lib.decFrom 0 s:=by
     unfold z08
     rw [if_neg]
     rintro(h|h|⟨h,h'⟩)
     ·exact h0 h
     ·exact h9 h
     ·refine hz ⟨h,?_⟩
      cases s with
      | nil=>exact absurd rfl h0
      | cons a r=>
       simp only [List.head?_cons,Option.some.injEq] at h'
       subst h';rfl
    have hlen:10^s.length<=10^9:=Nat.pow_le_pow_right (by decide) (by omega)
    have h9':(10:Nat)^9=1000000000:=by decide
    repeat' ((conv=>whnf);first
    | refine Yz ?_
     | (refine zg2.at 0 (by omega) (by omega) ?_)
     | (refine Cmp.mk (fun h=> ?_) (fun h=> ?_))|(refine Rem.any (by omega) (fun r hr he=> ?_))|(refine Br.mk (fun h=> ?_) (fun h=> ?_))
     | (exfalso;omega))
    all_goals
     refine zak.to (zak.by (σ:=Nat×Nat) g (fun x=>x.1<=s.length/\Lib.decFrom 0 (s.take x.1)=some x.2) (fun x=>[(0,S s),(4,I x.2),(5,I x.1)]) (fun _=>[]) (fun x=>s.length-x.1) ?_ (0,0) ⟨Nat.zero_le _,rfl⟩) rfl rfl
     rintro⟨k,m⟩ ⟨hk,hm⟩ ih
     dsimp only at hk hm ih ⊢
     have hml:m<1000000000:=by
      have h1:=Lib.decFrom_lt _ _ _ hm
      have h2:10^(s.take k).length<=10^9:=Nat.pow_le_pow_right (by decide) (by rw [List.length_take];omega)
      simp only [Nat.zero_add,Nat.one_mul] at h1
      omega
     have hb:=zmk (s.getD k 0)
     by_cases hlt:k<s.length
     ·have eg:s.getD k 0=s[k]:=by simp [List.getD,hlt]
      by_cases hd:48<=(s.getD k 0).toNat/\(s.getD k 0).toNat<=57
      ·have dv:Lib.digitVal s[k]=some ((s.getD k 0).toNat-48):=by
        unfold Lib.digitVal
        rw [<-eg,if_pos hd]
       have hs:=Lib.decFrom_take s k 0 m s[k] _ hm (List.getElem?_eq_getElem hlt) dv
       have ih:=ih (k+1,m*10+((s.getD k 0).toNat-48)) ⟨by dsimp only;omega,hs⟩ (by dsimp only;omega)
       dsimp only at ih
       have e:((m*10+((s.getD k 0).toNat-48):Nat):Int)=10*(m:Int)+(((s.getD k 0).toNat:Int)-48):=by omega
       rw [e] at ih
       repeat' ((conv=>whnf);first
       | refine Yz ?_
        | (refine zg2.at k (by omega) hlt ?_)
        | (refine Wr.keep8 (by omega) ?_)
        | (refine Cmp.mk (fun h=> ?_) (fun h=> ?_))|(refine Rem.any (by omega) (fun r hr he=> ?_))|(refine Br.mk (fun h=> ?_) (fun h=> ?_))
        | (refine zak.to ih rfl rfl)
        | (exfalso;omega))
      ·have hno:z08 s=none:=by
        rw [hN]
        cases hv:Lib.decFrom 0 s with
        | none=>rfl
        | some n=>
         exfalso
         obtain⟨d,hd'⟩:=Lib.digit_of_decFrom s 0 n hv k s[k] (List.getElem?_eq_getElem hlt)
         have:=ykw hd'
         rw [eg] at hd
         omega
       rw [yrd hno]
       repeat' ((conv=>whnf);first
       | refine Yz ?_
        | (refine zg2.at k (by omega) hlt ?_)
        | (refine Cmp.mk (fun h=> ?_) (fun h=> ?_))|(refine Rem.any (by omega) (fun r hr he=> ?_))|(refine Br.mk (fun h=> ?_) (fun h=> ?_))
        | (refine Ret.mk rfl)
        | (exfalso;omega))
     ·obtain rfl:k=s.length:=by omega
      rw [List.take_length] at hm
      rw [ytd (hN.trans hm)]
      repeat' ((conv=>whnf);first
      | refine Yz ?_
       | (refine Ret.mk rfl))
end
theorem ytc {s:List UInt8} (h:zgz s=false):zna s=0:=by
 unfold zgz at h
 unfold zna
 cases hn:z08 s with
 | none=>rfl
 | some n=>rw [hn] at h;cases h
theorem ym3 {k:List UInt8} {r:List (List UInt8)} (h:[]∈r):z13 k r=false:=by
 unfold z13
 rw [decide_eq_true h,Bool.not_true,Bool.and_false,Bool.false_and]
theorem ym2 {k:List UInt8} {r:List (List UInt8)} (j:Nat) (hj:j<r.length) (hk:zca k<=j) (h:zgz r[j]=false):z13 k r=false:=by
 unfold z13
 have:((r.drop (zca k)).all zgz)=false:=by
  rw [List.all_eq_false]
  exact⟨r[j],List.mem_drop_iff_getElem.2 ⟨j-zca k,by omega,by congr 1;omega⟩,by rw [h];decide⟩
 rw [this,Bool.and_false]
section
variable {E : Oracle} (g : Good E)
include g
theorem yd1 (s:List UInt8) (hs:s.length<=1000000):Fc E zf2 [S s] (ysl (zps s)):=by
 refine g.fn rfl rfl ?_
 have hsp:=z1k g s hs
 have hl:=zjy 32 s
 unfold zps
 obtain⟨k,r,hp⟩:∃k r,parts 32 s=k::r:=by
  cases h:parts 32 s with
  | nil=>exact absurd h (znz 32 s)
  | cons k r=>exact⟨k,r,rfl⟩
 rw [hp] at hsp hl ⊢
 simp only [List.length_cons] at hl
 dsimp only
 have hkl:(k::r).length=r.length+1:=rfl
 have hf:=yil g k
 have ⟨hf1,hf2⟩:=ztm k
 by_cases hk:zet k=true
 ·by_cases hn:r.length=zca k+zjn k
  ·unfold Frm at hf
   rw [hk] at hf
   repeat' ((conv=>whnf);first
   | refine Yz ?_
    | (apply zah.of;assumption)
    | fail)
   refine zak.to (zak.by (σ:=Nat×List (List UInt8)×List Int) g
    (fun x=>x.1<=r.length/\x.2.1=r.take (min x.1 (zca k))/\x.2.2=((r.drop (zca k)).take (x.1-zca k)).map zna/\(∀j,(hj:j<r.length)->j<x.1->r[j]≠[]/\(zca k<=j->zgz r[j]=true)))
    (fun x=>[(2,.ptr ⟨0,2,2⟩ 0 0),(4,LS (k::r)),(5,.ptr ⟨0,5,0⟩ 0 0),(6,.ptr ⟨0,6,2⟩ 0 0),(7,I (x.1+1:Nat))])
    (fun x=>[(⟨0,2,0⟩,.row false zab 1 0 []),(⟨0,2,1⟩,.row false zbq 1 0 []),(⟨0,2,2⟩,.cells zac [I 0,S [],.ref ⟨0,2,0⟩ 0 0 0,.ref ⟨0,2,1⟩ 0 0 0,S []]),
     (⟨0,5,0⟩,.cells zff [I (zca k),I (zjn k),B true]),
     (⟨0,34,0⟩,.row false zab 1 x.2.1.length (x.2.1.map D.str)),(⟨0,34,1⟩,.row false zbq 1 x.2.2.length (x.2.2.map DI)),(⟨0,6,0⟩,.row false zab 1 0 []),(⟨0,6,1⟩,.row false zbq 1 0 []),
     (⟨0,6,2⟩,.cells zac [I 0,S k,.ref ⟨0,34,0⟩ 0 x.2.1.length x.2.1.length,.ref ⟨0,34,1⟩ 0 x.2.2.length x.2.2.length,S []])])
    (fun x=>r.length-x.1) ?_ (0,[],[]) ⟨Nat.zero_le _,by simp,by simp,fun j _ h=>absurd h (Nat.not_lt_zero _)⟩) rfl rfl
   rintro⟨j,ns,vs⟩ ⟨h1,h2,h3,h4⟩ ih
   simp only at h1 h2 h3 h4 ih
   dsimp only
   have hnl:ns.length=min j (zca k):=by rw [h2,List.length_take];omega
   have hvl:vs.length=j-zca k:=by rw [h3,List.length_map,List.length_take,List.length_drop];omega
   have hm1:(ns.map D.str).length=ns.length:=List.length_map _
   have hm2:(vs.map DI).length=vs.length:=List.length_map _
   by_cases hlt:j<r.length
   ·have hat:(k::r)[j+1]'(by rw [hkl];omega)=r[j]:=rfl
    have hint:=zlg g r[j]
    by_cases he:r[j]=[]
    ·have hok:=ym3 (k:=k) (r:=r) (by rw [<-he];exact List.getElem_mem hlt)
     rw [hok]
     repeat' ((conv=>whnf);first
     | refine Yz ?_
      | (refine zfa.ws (j+1) (by omega) (by omega) ?_;rw [hat])
      | (refine Cmp.tt he ?_)
      | (refine Ret.mk ?_))
     rfl
    ·by_cases hjn:j<zca k
     ·have ih:=ih (j+1,ns++[r[j]],vs) ⟨by dsimp only;omega,by
       dsimp only
       rw [h2,Nat.min_eq_left (by omega),Nat.min_eq_left (by omega),List.take_add_one,List.getElem?_eq_getElem hlt];rfl,by
       dsimp only
       rw [h3,show j+1-zca k=j-zca k by omega],fun i hi hj=>by
       by_cases e:i=j
       ·subst e;exact⟨he,fun h=>by omega⟩
       ·exact h4 i hi (by dsimp only at hj;omega)⟩ (by dsimp only;omega)
      simp only [List.length_append,List.length_cons,List.length_nil,List.map_append,List.map_cons,List.map_nil] at ih
      repeat' ((conv=>whnf);first
      | refine Yz ?_
       | (refine zfa.ws (j+1) (by omega) (by omega) ?_;rw [hat])
       | (refine Cmp.ff he ?_)
       | (refine zbd.mk (by simp only [List.length_cons,List.length_nil];omega) ?_)
       | (refine zak.to ih rfl rfl))
     ·cases hi:zgz r[j] with
      | false=>
       rw [ym2 (k:=k) j hlt (by omega) hi]
       have hi0:=ytc hi
       unfold z4x at hint
       rw [hi,hi0] at hint
       repeat' ((conv=>whnf);first
       | refine Yz ?_
        | (refine zfa.ws (j+1) (by omega) (by omega) ?_;rw [hat])
        | (refine Cmp.ff he ?_)
        | (apply zah.of;assumption)
        | (refine Ret.mk ?_))
       rfl
      | true=>
       have ih:=ih (j+1,ns,vs++[zna r[j]]) ⟨by dsimp only;omega,by
        dsimp only
        rw [h2,Nat.min_eq_right (by omega),Nat.min_eq_right (by omega)],by
        dsimp only
        rw [h3,show j+1-zca k=(j-zca k)+1 by omega,List.take_add_one,List.getElem?_drop,show zca k+(j-zca k)=j by omega,List.getElem?_eq_getElem hlt]
        simp,fun i hi' hj=>by
        by_cases e:i=j
        ·subst e;exact⟨he,fun _=>hi⟩
        ·exact h4 i hi' (by dsimp only at hj;omega)⟩ (by dsimp only;omega)
       simp only [List.length_append,List.length_cons,List.length_nil,List.map_append,List.map_cons,List.map_nil] at ih
       unfold z4x at hint
       rw [hi] at hint
       repeat' ((conv=>whnf);first
       | refine Yz ?_
        | (refine zfa.ws (j+1) (by omega) (by omega) ?_;rw [hat])
        | (refine Cmp.ff he ?_)
        | (apply zah.of;assumption)
        | (refine zbd.mk (by simp only [List.length_cons,List.length_nil];omega) ?_)
        | (refine zak.to ih rfl rfl))
   ·obtain rfl:j=r.length:=by omega
    have hok:z13 k r=true:=by
     unfold z13
     have e1:¬ []∈r:=fun h=>by
      obtain⟨i,hi,e⟩:=List.mem_iff_getElem.1 h
      exact(h4 i hi hi).1 e
     have e2:((r.drop (zca k)).all zgz)=true:=by
      rw [List.all_eq_true]
      intro x hx
      obtain⟨i,hi,rfl⟩:=List.mem_drop_iff_getElem.1 hx
      exact(h4 (zca k+i) (by omega) (by omega)).2 (by omega)
     rw [hk,decide_eq_true hn,decide_eq_false e1,e2];rfl
    have en:ns=r.take (zca k):=by rw [h2,Nat.min_eq_right (by omega)]
    have ev:vs=(r.drop (zca k)).map zna:=by rw [h3,List.take_of_length_le (by rw [List.length_drop];omega)]
    rw [if_pos hok]
    repeat' ((conv=>whnf);first
    | refine Yz ?_
     | (refine zbd.mk ⟨rfl,Nat.le_refl _⟩ ?_)
     | (refine Ret.mk ?_))
    rw [if_pos ⟨rfl,rfl⟩,if_pos ⟨rfl,rfl⟩,en,ev]
    rfl
  ·have hok:z13 k r=false:=by
    unfold z13
    rw [decide_eq_false hn,Bool.and_false,Bool.false_and,Bool.false_and]
   rw [hok]
   unfold Frm at hf
   rw [hk] at hf
   repeat' ((conv=>whnf);first
   | refine Yz ?_
    | (apply zah.of;assumption)
    | (refine Cmp.mk (fun h=> ?_) (fun h=> ?_))|(refine Rem.any (by omega) (fun r hr he=> ?_))|(refine Br.mk (fun h=> ?_) (fun h=> ?_))
    | (refine Ret.mk ?_)
    | (exfalso;omega))
   all_goals rfl
 ·have hok:z13 k r=false:=by
   unfold z13
   rw [Bool.eq_false_iff.2 hk];rfl
  rw [hok]
  unfold Frm at hf
  rw [Bool.eq_false_iff.2 hk] at hf
  repeat' ((conv=>whnf);first
  | refine Yz ?_
   | (apply zah.of;assumption)
   | (refine Ret.mk ?_))
  all_goals rfl
end
def yke:List (List UInt8)->List UInt8->Nat->Int
 | [],_,_=> -1
 | x::r,s,k=>if s=x then k else yke r s (k+1)
theorem yc8 (s:List UInt8):∀(l:List (List UInt8)) (k:Nat),0<=yke l s k↔s∈l
 | [],k=>by simp [yke]
 | x::r,k=>by
  unfold yke
  split
  ·rename_i h
   simp [h]
  ·rename_i h
   rw [yc8 s r]
   simp [h]
theorem yg5 (l:List (List UInt8)) (s:List UInt8) (k:Nat) (h:k<l.length):yke (l.drop k) s k=if s=l[k] then(k:Int) else yke (l.drop (k+1)) s (k+1):=by
 rw [List.drop_eq_getElem_cons h]
 rfl
section
variable {E : Oracle} (g : Good E)
include g
theorem yly (l:List (List UInt8)) (s:List UInt8) (hl:l.length<=140737488355328):Fc E zef [.d (.list l.length (l.map D.str)),S s] (I (yke l s 0)):=by
 refine g.fn rfl rfl ?_
 conv=>whnf
 refine zak.upP g (fun k=>[(0,.d (.list l.length (l.map D.str))),(1,S s),(7,I l.length),(8,I k)]) (fun _=>[]) (fun k=>yke l s 0=yke (l.drop k) s k) l.length (fun k hk hp ih=> ?_) 0 (Nat.zero_le _) (by simp)
 by_cases hlt:k<l.length
 ·have hd:=yg5 l s k hlt
  have hg:(l.map D.str)[((k:Int)).toNat*1]? =some (.str l[k]):=by simp [hlt]
  by_cases he:s=l[k]
  ·rw [hp,hd,if_pos he]
   repeat' ((conv=>whnf);first
   | refine Yz ?_
    | (refine zfa.now hg ?_)
    | (refine Cmp.tt he ?_)
    | (refine Ret.mk rfl))
  ·have ih:=ih hlt (by rw [hp,hd,if_neg he])
   repeat' ((conv=>whnf);first
   | refine Yz ?_
    | (refine zfa.now hg ?_)
    | (refine Cmp.ff he ?_)
    | (refine zak.to ih rfl rfl))
 ·have:l.drop k=[]:=List.drop_eq_nil_of_le (by omega)
  rw [hp,this]
  repeat' ((conv=>whnf);first
  | refine Yz ?_
   | (refine Ret.mk rfl))
theorem z1s (l:List (List UInt8)) (s:List UInt8) (hl:l.length<=140737488355328):Fc E zcn [.d (.list l.length (l.map D.str)),S s] (B (decide (s∈l))):=by
 refine g.fn rfl rfl ?_
 have h:=yly g l s hl
 have hm:=yc8 s l 0
 generalize yke l s 0=r at *
 by_cases hr:0<=r
 ·rw [decide_eq_true (hm.1 hr)]
  repeat' ((conv=>whnf);first
  | refine Yz ?_
   | (apply zah.of;assumption)
   | (refine Ret.mk rfl))
 ·rw [decide_eq_false fun h=>hr (hm.2 h)]
  repeat' ((conv=>whnf);first
  | refine Yz ?_
   | (apply zah.of;assumption)
   | (refine Ret.mk rfl))
end
theorem yhc {k:List UInt8} (h:zet k=true):∃a b:Nat,zpf (.str k) kdM=some (some (.agg [.d (DI (zca k)),.d (DI (zjn k)),.fn a [] [],.fn b [] []])):=by
 rcases zkm k with rfl|rfl|rfl|rfl|rfl|rfl|⟨h1,h2,h3,h4,h5,h6⟩
 ·exact⟨_,_,rfl⟩
 ·exact⟨_,_,rfl⟩
 ·exact⟨_,_,rfl⟩
 ·exact⟨_,_,rfl⟩
 ·exact⟨_,_,rfl⟩
 ·exact⟨_,_,rfl⟩
 ·exfalso
  unfold zet at h
  simp only [Bool.or_eq_true,decide_eq_true_eq] at h
  rcases h with((((h|h)|h)|h)|h)|h
  ·exact h1 h
  ·exact h2 h
  ·exact h3 h
  ·exact h4 h
  ·exact h5 h
  ·exact h6 h
theorem yp3 {k:List UInt8} (h:zet k=false):zpf (.str k) kdM=some none:=by
 unfold zet at h
 simp only [Bool.or_eq_false_iff,decide_eq_false_iff_not] at h
 exact yhb ⟨h.1.1.1.1.1,h.1.1.1.1.2,h.1.1.1.2,h.1.1.2,h.1.2,h.2⟩
theorem ysi (w:List UInt8) (r:List (List UInt8)):win ((w::r).map D.str) (1*1) (((w::r).length-1)*1)=r.map D.str:=by
 unfold win
 rw [List.map_cons,Nat.mul_one,List.drop_one,List.tail_cons,List.take_of_length_le (by simp)]
section
variable {E : Oracle} (g : Good E)
include g
theorem ztp {lv t:Nat} {m:Mem} (w:List UInt8) (r:List (List UInt8)) (hr:r.length<=1000000) (h:Evl.look m ⟨0,16,0⟩=some (.cells t [LS (w::r)])) {K:V->Mem->Prop} (hK:K (S w) (Evl.upd m ⟨0,16,0⟩ (.cells t [LS r]))):In E lv zds [.ptr ⟨0,16,0⟩ 0 0] m K:=by
 refine In.enter (f:=zds) g.lim rfl rfl ?_
 have hkl:(w::r).length=r.length+1:=rfl
 repeat' ((conv=>whnf);first
 | refine Yz ?_
  | (rw [zdl,h])
  | (rw [ze9])
  | (refine zfa.ws 0 rfl (by omega) ?_)
  | (refine zbd.mk (by simp only [List.length_cons];omega) ?_)
  | (refine za9.at 1 (w::r).length rfl rfl (by simp) ?_<;>(try dsimp only)<;>(rw [ysi]))
  | (exact hK))
theorem ybs (s:List UInt8) (hs:s.length<=1000000):Fc E zf1 [S s] (ysl (zps s)):=by
 refine g.fn rfl rfl ?_
 have hsp:=zpx g s hs
 have hl:=zjy 32 s
 unfold zps
 obtain⟨k,r,hp⟩:∃k r,parts 32 s=k::r:=by
  cases h:parts 32 s with
  | nil=>exact absurd h (znz 32 s)
  | cons k r=>exact⟨k,r,rfl⟩
 have hpl:∀w∈r,w.length<=1000000:=fun w hw=>by
  have:=z6o 32 s w (by rw [hp];exact List.mem_cons_of_mem _ hw)
  omega
 rw [hp] at hsp hl ⊢
 simp only [List.length_cons] at hl
 dsimp only
 have hkl:(k::r).length=r.length+1:=rfl
 have hct:=z1s g (k::r) [] (by omega)
 have ⟨hf1,hf2⟩:=ztm k
 cases hk:zet k with
 | false=>
  have hok:z13 k r=false:=by
   unfold z13
   rw [hk];rfl
  rw [hok]
  have hfind:=yp3 hk
  repeat' ((conv=>whnf);first
  | refine Yz ?_
   | (apply zah.of;assumption)
   | (refine ztp g k r (by omega) rfl ?_)
   | (refine zb8.kinds g rfl ?_)
   | (refine zht.mk ⟨_,hfind,?_⟩)
   | (refine Ret.mk ?_)
   | fail)
  rfl
 | true=>
  obtain⟨fa,fb,hfind⟩:=yhc hk
  by_cases hn:r.length=zca k+zjn k
  ·by_cases he:[]∈k::r
   ·have her:[]∈r:=by
     rcases List.mem_cons.1 he with e|h
     ·rw [<-e] at hk;cases hk
     ·exact h
    rw [decide_eq_true he] at hct
    rw [ym3 her]
    repeat' ((conv=>whnf);first
    | refine Yz ?_
     | (apply zah.of;assumption)
     | (refine ztp g k r (by omega) rfl ?_)
     | (refine zb8.kinds g rfl ?_)
     | (refine zht.mk ⟨_,hfind,?_⟩)
     | (refine Ret.mk rfl)
     | fail)
   ·rw [decide_eq_false he] at hct
    have hner:∀j,(hj:j<r.length)->r[j]≠[]:=fun j hj e=>he (List.mem_cons_of_mem _ (by rw [<-e];exact List.getElem_mem hj))
    repeat' ((conv=>whnf);first
    | refine Yz ?_
     | (apply zah.of;assumption)
     | (refine ztp g k r (by omega) rfl ?_)
     | (refine zb8.kinds g rfl ?_)
     | (refine zht.mk ⟨_,hfind,?_⟩)
     | fail)
    refine zak.to (zak.by (σ:=Nat×List (List UInt8)×List (List UInt8)) g (fun x=>x.1<=zca k/\x.2.1=r.take x.1/\x.2.2=r.drop x.1)
     (fun x=>[(2,.ptr ⟨0,2,2⟩ 0 0),(6,.fn zds [.ptr ⟨0,16,0⟩ 0 0] []),(7,.ptr ⟨0,7,2⟩ 0 0),(8,.ptr ⟨0,8,0⟩ 0 0),(48,I (zca k)),(49,I x.1)])
     (fun x=>[(⟨0,2,0⟩,.row false zab 1 0 []),(⟨0,2,1⟩,.row false zbq 1 0 []),(⟨0,2,2⟩,.cells zac [I 0,S [],.ref ⟨0,2,0⟩ 0 0 0,.ref ⟨0,2,1⟩ 0 0 0,S []]),(⟨0,16,0⟩,.cells zl0 [LS x.2.2]),
      (⟨0,21,0⟩,.row false zab 1 x.2.1.length (x.2.1.map D.str)),(⟨0,21,1⟩,.row false zbq 1 0 []),(⟨0,7,0⟩,.row false zab 1 0 []),(⟨0,7,1⟩,.row false zbq 1 0 []),
      (⟨0,7,2⟩,.cells zac [I 0,S k,.ref ⟨0,21,0⟩ 0 x.2.1.length x.2.1.length,.ref ⟨0,21,1⟩ 0 0 0,S []]),(⟨0,23,0⟩,.map kdM),(⟨0,8,0⟩,.cells zit [I (zca k),I (zjn k),.fn fa [] [],.fn fb [] []])])
     (fun x=>zca k-x.1) ?_ (0,[],r) ⟨Nat.zero_le _,rfl,rfl⟩) rfl rfl
    rintro⟨j,ns,rest⟩ ⟨h1,h2,h3⟩ ih
    simp only at h1 h2 h3 ih
    dsimp only
    have hnl:ns.length=j:=by rw [h2,List.length_take];omega
    have hm1:(ns.map D.str).length=ns.length:=List.length_map _
    by_cases hlt:j<zca k
    ·have hjr:j<r.length:=by omega
     rw [List.drop_eq_getElem_cons hjr] at h3
     have ih:=ih (j+1,ns++[r[j]],r.drop (j+1)) ⟨by dsimp only;omega,by
      dsimp only
      rw [h2,List.take_add_one,List.getElem?_eq_getElem hjr];rfl,rfl⟩ (by dsimp only;omega)
     simp only [List.length_append,List.length_cons,List.length_nil,List.map_append,List.map_cons,List.map_nil] at ih
     have hdl:(r.drop (j+1)).length<=1000000:=by rw [List.length_drop];omega
     generalize r.drop (j+1)=tl at *
     generalize r[j]=w at *
     subst h3
     repeat' ((conv=>whnf);first
     | refine Yz ?_
      | (refine ztp g w tl hdl rfl ?_)
      | (refine Chk.mk (by simp [z8s,yn1,z4n,yl3,zkw,Evl.look]) ?_)
      | (refine zbd.mk (by simp only [List.length_cons,List.length_nil];omega) ?_)
      | (refine zak.to ih rfl rfl))
    ·obtain rfl:j=zca k:=by omega
     repeat' ((conv=>whnf);first
     | refine Yz ?_
      | fail)
     have hdl:(r.drop (zca k)).length=zjn k:=by rw [List.length_drop];omega
     refine zak.to (zak.by (σ:=Nat×List Int×List (List UInt8)) g (fun x=>x.1<=zjn k/\x.2.1=((r.drop (zca k)).take x.1).map zna/\x.2.2=(r.drop (zca k)).drop x.1/\∀j,(hj:j<(r.drop (zca k)).length)->j<x.1->zgz (r.drop (zca k))[j]=true)
      (fun x=>[(2,.ptr ⟨0,2,2⟩ 0 0),(6,.fn zds [.ptr ⟨0,16,0⟩ 0 0] []),(7,.ptr ⟨0,7,2⟩ 0 0),(60,I (zjn k)),(61,I x.1)])
      (fun x=>[(⟨0,2,0⟩,.row false zab 1 0 []),(⟨0,2,1⟩,.row false zbq 1 0 []),(⟨0,2,2⟩,.cells zac [I 0,S [],.ref ⟨0,2,0⟩ 0 0 0,.ref ⟨0,2,1⟩ 0 0 0,S []]),(⟨0,16,0⟩,.cells zl0 [LS x.2.2]),
       (⟨0,21,0⟩,.row false zab 1 ns.length (ns.map D.str)),(⟨0,21,1⟩,.row false zbq 1 x.2.1.length (x.2.1.map DI)),(⟨0,7,0⟩,.row false zab 1 0 []),(⟨0,7,1⟩,.row false zbq 1 0 []),
       (⟨0,7,2⟩,.cells zac [I 0,S k,.ref ⟨0,21,0⟩ 0 ns.length ns.length,.ref ⟨0,21,1⟩ 0 x.2.1.length x.2.1.length,S []]),(⟨0,23,0⟩,.map kdM),(⟨0,8,0⟩,.cells zit [I (zca k),I (zjn k),.fn fa [] [],.fn fb [] []])])
      (fun x=>zjn k-x.1) ?_ (0,[],rest) ⟨Nat.zero_le _,rfl,h3,fun j _ h=>absurd h (Nat.not_lt_zero _)⟩) rfl rfl
     clear ih h3
     rintro⟨j,vs,rest⟩ ⟨h1,h3,h4,h5⟩ ih
     simp only at h1 h3 h4 h5 ih
     dsimp only
     have hvl:vs.length=j:=by rw [h3,List.length_map,List.length_take];omega
     have hm2:(vs.map DI).length=vs.length:=List.length_map _
     by_cases hlt:j<zjn k
     ·have hjr:j<(r.drop (zca k)).length:=by omega
      have hwl:((r.drop (zca k))[j]).length<=1000000:=hpl _ (List.mem_of_mem_drop (List.getElem_mem hjr))
      have hdec:=zvj g (r.drop (zca k))[j] hwl
      obtain⟨hd1,hd2⟩:=ze4 (r.drop (zca k))[j]
      rw [hd1] at hdec
      have hdl':((r.drop (zca k)).drop (j+1)).length<=1000000:=by rw [List.length_drop];omega
      rw [List.drop_eq_getElem_cons hjr] at h4
      cases hi:zgz (r.drop (zca k))[j] with
      | false=>
       have hok:z13 k r=false:=by
        refine ym2 (zca k+j) (by omega) (by omega) ?_
        rw [<-hi]
        congr 1
        exact(List.getElem_drop ..).symm
       rw [hok]
       rw [hi] at hdec
       generalize (r.drop (zca k)).drop (j+1)=tl at *
       generalize (r.drop (zca k))[j]=w at *
       subst h4
       repeat' ((conv=>whnf);first
       | refine Yz ?_
        | (refine ztp g w tl hdl' rfl ?_)
        | (apply zah.of;assumption)
        | (refine Ret.mk rfl)
        | fail)
      | true=>
       have ih:=ih (j+1,vs++[zna (r.drop (zca k))[j]],(r.drop (zca k)).drop (j+1)) ⟨by dsimp only;omega,by
        dsimp only
        rw [h3,List.take_add_one,List.getElem?_eq_getElem hjr]
        simp,rfl,fun i hi' hj=>by
        by_cases e:i=j
        ·subst e;exact hi
        ·exact h5 i hi' (by dsimp only at hj;omega)⟩ (by dsimp only;omega)
       simp only [List.length_append,List.length_cons,List.length_nil,List.map_append,List.map_cons,List.map_nil] at ih
       rw [hi,hd2 hi] at hdec
       generalize (r.drop (zca k)).drop (j+1)=tl at *
       generalize (r.drop (zca k))[j]=w at *
       subst h4
       repeat' ((conv=>whnf);first
       | refine Yz ?_
        | (refine ztp g w tl hdl' rfl ?_)
        | (apply zah.of;assumption)
        | (refine zbd.mk (by simp only [List.length_cons,List.length_nil];omega) ?_)
        | (refine zak.to ih rfl rfl)
        | fail)
     ·obtain rfl:j=zjn k:=by omega
      have hok:z13 k r=true:=by
       unfold z13
       have e2:((r.drop (zca k)).all zgz)=true:=by
        rw [List.all_eq_true]
        intro x hx
        obtain⟨i,hi,rfl⟩:=List.mem_iff_getElem.1 hx
        exact h5 i hi (by omega)
       have e1:¬ []∈r:=fun h=>he (List.mem_cons_of_mem _ h)
       rw [hk,decide_eq_true hn,decide_eq_false e1,e2];rfl
      have ev:vs=(r.drop (zca k)).map zna:=by rw [h3,List.take_of_length_le (by omega)]
      rw [if_pos hok]
      repeat' ((conv=>whnf);first
      | refine Yz ?_
       | (refine zbd.mk ⟨rfl,Nat.le_refl _⟩ ?_)
       | (refine Ret.mk ?_))
      rw [if_pos ⟨rfl,rfl⟩,if_pos ⟨rfl,rfl⟩,h2,ev]
      rfl
  ·have hok:z13 k r=false:=by
    unfold z13
    rw [decide_eq_false hn,Bool.and_false,Bool.false_and,Bool.false_and]
   rw [hok]
   repeat' ((conv=>whnf);first
   | refine Yz ?_
    | (apply zah.of;assumption)
    | (refine ztp g k r (by omega) rfl ?_)
    | (refine zb8.kinds g rfl ?_)
    | (refine zht.mk ⟨_,hfind,?_⟩)
    | (refine Cmp.mk (fun h=> ?_) (fun h=> ?_))|(refine Rem.any (by omega) (fun r hr he=> ?_))|(refine Br.mk (fun h=> ?_) (fun h=> ?_))
    | (refine Ret.mk rfl)
    | (exfalso;omega)
    | fail)
end
def pcs:List UInt8->List (List UInt8)
 | []=>[]
 | c::r=>if c=10 then [10]::pcs r else
  match pcs r with
  | []=>[[c]]
  | p::q=>(c::p)::q
theorem z6p:pcs []=[]:=rfl
theorem yie:∀(a r:List UInt8),(10:UInt8)∉a->pcs (a++10::r)=(a++[10])::pcs r
 | [],r,_=>by simp [pcs]
 | c::a,r,h=>by
  have hc:¬c=10:=fun e=>h (by simp [e])
  have h':(10:UInt8)∉a:=fun hm=>h (by simp [hm])
  simp only [List.cons_append,pcs,if_neg hc,yie a r h']
theorem ybk:∀(a:List UInt8),a≠[]->(10:UInt8)∉a->pcs a=[a]
 | [],h,_=>absurd rfl h
 | [c],_,h=>by
  have hc:¬c=10:=fun e=>h (by simp [e])
  simp only [pcs,if_neg hc]
 | c::d::a,_,h=>by
  have hc:¬c=10:=fun e=>h (by simp [e])
  have h':(10:UInt8)∉d::a:=fun hm=>h (List.mem_cons_of_mem _ hm)
  have:=ybk (d::a) (by simp) h'
  rw [pcs,if_neg hc,this]
theorem ydg:∀s:List UInt8,(10:UInt8)∈s->∃a r,s=a++10::r/\(10:UInt8)∉a
 | [],h=>absurd h List.not_mem_nil
 | c::s,h=>by
  by_cases e:c=10
  ·exact⟨[],s,by rw [e];rfl,List.not_mem_nil⟩
  ·obtain⟨a,r,h1,h2⟩:=ydg s ((List.mem_cons.1 h).resolve_left fun x=>e x.symm)
   exact⟨c::a,r,by rw [h1];rfl,fun hm=>(List.mem_cons.1 hm).elim (fun x=>e x.symm) h2⟩
theorem z1g (s:List UInt8) (h:s≠[]):((10:UInt8)∉s/\pcs s=[s])\/∃a r,(10:UInt8)∉a/\s=a++10::r/\pcs s=(a++[10])::pcs r:=by
 by_cases hm:(10:UInt8)∈s
 ·obtain⟨a,r,e,ha⟩:=ydg s hm
  exact .inr ⟨a,r,ha,e,by rw [e];exact yie a r ha⟩
 ·exact .inl ⟨hm,ybk s h hm⟩
def zll (p:List UInt8):Bool:=decide (p.getLast? =some 10)
def yal (p:List UInt8):List UInt8:=if zll p then p.dropLast else p
theorem zy6 (a:List UInt8):zll (a++[10])=true/\yal (a++[10])=a:=by
 have h:zll (a++[10])=true:=by simp [zll]
 refine⟨h,?_⟩
 unfold yal
 rw [if_pos h]
 simp
theorem ymi {p:List UInt8} (h:zll p=true):p=yal p++[10]:=by
 unfold yal
 rw [if_pos h]
 unfold zll at h
 have h:=of_decide_eq_true h
 obtain⟨ys,e⟩:=List.getLast?_eq_some_iff.1 h
 rw [e];simp
theorem yju (s:List UInt8):Lib.hasSuffix s [10]=zll s:=by
 unfold Lib.hasSuffix zll
 rw [Bool.eq_iff_iff,List.isSuffixOf_iff_suffix,decide_eq_true_eq,List.getLast?_eq_some_iff]
 exact⟨fun⟨t,e⟩=>⟨t,e.symm⟩,fun⟨t,e⟩=>⟨t,e.symm⟩⟩
theorem ykx {p:List UInt8} (h:zll p=true):1<=p.length/\yal p=p.take (p.length-1):=by
 have e:=ymi h
 constructor
 ·rw [e];simp
 ·unfold yal
  rw [if_pos h,List.dropLast_eq_take]
theorem zxh:∀(a r:List UInt8),(10:UInt8)∉a->Lib.indexByte (a++10::r) 10=a.length
 | [],_,_=>rfl
 | c::a,r,h=>by
  have hc:(c==10)=false:=beq_eq_false_iff_ne.2 fun e=>h (by simp [e])
  have ih:=zxh a r fun hm=>h (by simp [hm])
  simp only [List.cons_append,Lib.indexByte,hc,ih,List.length_cons]
  rw [if_neg (by decide),if_neg (by simp)]
  omega
theorem zxi:∀(a:List UInt8),(10:UInt8)∉a->Lib.indexByte a 10= -1
 | [],_=>rfl
 | c::a,h=>by
  have hc:(c==10)=false:=beq_eq_false_iff_ne.2 fun e=>h (by simp [e])
  have ih:=zxi a fun hm=>h (by simp [hm])
  simp only [Lib.indexByte,hc,ih]
  rfl
theorem z7c (a r:List UInt8):win (a++10::r) 0 (a.length+1-0)=a++[10]:=by
 unfold win
 rw [List.drop_zero,Nat.sub_zero,show a++10::r=(a++[10])++r by simp,List.take_append_of_le_length (by simp),List.take_of_length_le (by simp)]
theorem z7d (a r:List UInt8):win (a++10::r) (a.length+1) ((a++10::r).length-(a.length+1))=r:=by
 unfold win
 rw [show a++10::r=(a++[10])++r by simp,List.drop_left' (by simp),List.take_of_length_le (by simp;omega)]
theorem yce (s:List UInt8):win s 0 (s.length-0)=s:=by simp [win]
section
variable {E : Oracle} (g : Good E)
include g
theorem z9i (s:List UInt8):Fc E zi4 [S s,.d (.int .u8 10)] (I (Lib.indexByte s 10)):=by
 have h0:Fc E n_internal_stringslite_IndexByte [S s,.d (.int .u8 10)] (I (Lib.indexByte s 10)):=Fc.extern g.lim (x:=indexByteX) rfl (v:=I (Lib.indexByte s 10)) (m':=[]) rfl rfl
 refine g.fn rfl rfl ?_
 repeat' ((conv=>whnf);first
 | refine Yz ?_
  | (apply zah.of;assumption)
  | (refine Ret.mk rfl))
theorem yi4 (p:List UInt8) (hs:p.length<=1000000):Fc E zi3 [S p,S [10]] (.tup [S (yal p),B (zll p)]):=by
 have h0:Fc E n_internal_stringslite_HasSuffix [S p,S [10]] (B (zll p)):=Fc.extern g.lim (x:=suffixX) rfl (v:=B (zll p)) (m':=[]) (by simp only [suffixX];rw [if_pos hs,yju]) rfl
 have h1:Fc E zdw [S p,S [10]] (.tup [S (yal p),B (zll p)]):=by
  refine g.fn rfl rfl ?_
  cases hw:zll p
  ·rw [hw] at h0
   have e:yal p=p:=by unfold yal;rw [hw];rfl
   rw [e]
   repeat' ((conv=>whnf);first
   | refine Yz ?_
    | (apply zah.of;assumption)
    | (refine Ret.mk rfl))
  ·rw [hw] at h0
   obtain⟨hl,e⟩:=ykx hw
   have h10:(([10]:List UInt8).length:Int)=1:=rfl
   rw [e]
   repeat' ((conv=>whnf);first
   | refine Yz ?_
    | (apply zah.of;assumption)
    | (refine za9.mk (by omega) ?_)
    | (refine Ret.mk ?_))
   simp [win]
 refine g.fn rfl rfl ?_
 repeat' ((conv=>whnf);first
 | refine Yz ?_
  | (apply zah.of;assumption)
  | (refine Ret.mk rfl))
end
def z91 (t:List UInt8):Option Evt:=
 match parts 32 t with
 | h::_::_=>if zgz h=true then
   match zps (t.drop (h.length+1)) with
   | some e=>if zi8 {e with nu:=zna h}=0 then some {e with nu:=zna h} else none
   | none=>none
  else none
 | _=>none
def yss:Option Evt->Evt×Int
 | none=>(noE,25)
 | some e=>(e,0)
def ztw (s:List UInt8):Evt×Int:=
 if s.length<8\/s.getD (s.length-8) 0≠35\/zrd (s.drop (s.length-7))=false then(noE,25)
 else if s.drop (s.length-7)≠yjv (s.take (s.length-8)) then(noE,27)
 else yss (z91 (s.take (s.length-8)))
theorem zrr {s:List UInt8} (h:s.length<8):ztw s=(noE,25):=by
 unfold ztw
 rw [if_pos (.inl h)]
theorem z6w {t c:List UInt8} {x:UInt8} (h:c.length=7):ztw (t++x::c)=if x≠35\/zrd c=false then(noE,25) else if c≠yjv t then(noE,27) else yss (z91 t):=by
 have hl:(t++x::c).length=t.length+8:=by rw [List.length_append,List.length_cons];omega
 have h1:(t++x::c).drop ((t++x::c).length-7)=c:=by
  rw [hl,show t.length+8-7=t.length+1 by omega,show t++x::c=(t++[x])++c by simp,List.drop_left' (by simp)]
 have h2:(t++x::c).take ((t++x::c).length-8)=t:=by
  rw [hl,show t.length+8-8=t.length by omega,List.take_left' rfl]
 have h3:(t++x::c).getD ((t++x::c).length-8) 0=x:=by
  rw [hl,show t.length+8-8=t.length by omega]
  simp [List.getD]
 unfold ztw
 rw [h1,h2,h3]
 have h8:¬(t++x::c).length<8:=by omega
 by_cases hc:x≠35\/zrd c=false
 ·rw [if_pos hc,if_pos (.inr hc)]
 ·rw [if_neg hc,if_neg (fun h=>h.elim h8 hc)]
theorem ygm {s:List UInt8} (h:8<=s.length):∃t x c,s=t++x::c/\c.length=7:=by
 have hlt:s.length-8<s.length:=by omega
 refine⟨s.take (s.length-8),s[s.length-8],s.drop (s.length-8+1),?_,by rw [List.length_drop];omega⟩
 rw [<-List.drop_eq_getElem_cons hlt,List.take_append_drop]
theorem zux (b:UInt8):∀(a r:List UInt8),b∉a->Lib.indexByte (a++b::r) b=a.length
 | [],_,_=>by simp [Lib.indexByte]
 | c::a,r,h=>by
  have hc:(c==b)=false:=beq_eq_false_iff_ne.2 fun e=>h (by simp [e])
  have ih:=zux b a r fun hm=>h (by simp [hm])
  simp only [List.cons_append,Lib.indexByte,hc,ih,List.length_cons]
  rw [if_neg (by decide),if_neg (by simp)]
  omega
theorem zuy (b:UInt8):∀(a:List UInt8),b∉a->Lib.indexByte a b= -1
 | [],_=>rfl
 | c::a,h=>by
  have hc:(c==b)=false:=beq_eq_false_iff_ne.2 fun e=>h (by simp [e])
  have ih:=zuy b a fun hm=>h (by simp [hm])
  simp only [Lib.indexByte,hc,ih]
  rfl
theorem z3h (b:UInt8):∀s:List UInt8,b∈s->∃a r,s=a++b::r/\b∉a
 | [],h=>absurd h List.not_mem_nil
 | c::s,h=>by
  by_cases e:c=b
  ·exact⟨[],s,by rw [e];rfl,List.not_mem_nil⟩
  ·obtain⟨a,r,h1,h2⟩:=z3h b s ((List.mem_cons.1 h).resolve_left fun x=>e x.symm)
   exact⟨c::a,r,by rw [h1];rfl,fun hm=>(List.mem_cons.1 hm).elim (fun x=>e x.symm) h2⟩
theorem zw7 (t:List UInt8):((32:UInt8)∉t/\parts 32 t=[t]/\z91 t=none)\/∃h r,(32:UInt8)∉h/\t=h++32::r/\parts 32 t=h::parts 32 r/\
  z91 t=if zgz h=true then(match zps r with
   | some e=>if zi8 {e with nu:=zna h}=0 then some {e with nu:=zna h} else none
   | none=>none) else none:=by
 by_cases hm:(32:UInt8)∈t
 ·obtain⟨a,r,rfl,ha⟩:=z3h 32 t hm
  have hp:=zny 32 r a ha
  refine .inr ⟨a,r,ha,rfl,hp,?_⟩
  have hd:(a++32::r).drop (a.length+1)=r:=by
   rw [show a++32::r=(a++[32])++r by simp,List.drop_left' (by simp)]
  unfold z91
  rw [hp]
  cases hr:parts 32 r with
  | nil=>exact absurd hr (znz 32 r)
  | cons y q=>dsimp only;rw [hd]
 ·have hp:=zrp 32 t hm
  refine .inl ⟨hm,hp,?_⟩
  unfold z91
  rw [hp]
theorem zqn {a r:List UInt8} {b:UInt8}:win (a++b::r) 0 (a.length-0)=a:=by
 unfold win
 rw [List.drop_zero,Nat.sub_zero,List.take_left' rfl]
theorem zp0 {a r:List UInt8} {b:UInt8}:win (a++b::r) (a.length+1) ((a++b::r).length-(a.length+1))=r:=by
 unfold win
 rw [show a++b::r=(a++[b])++r by simp,List.drop_left' (by simp),List.take_of_length_le (by simp;omega)]
theorem zhp {a r:List UInt8} {b:UInt8}:(a++b::r).getD a.length 0=b:=by simp [List.getD]
section
variable {E : Oracle} (g : Good E)
include g
theorem z9f (s:List UInt8):Fc E zep [S s,S [32]] (I (Lib.indexByte s 32)):=by
 have h0:Fc E n_internal_stringslite_IndexByte [S s,.d (.int .u8 32)] (I (Lib.indexByte s 32)):=Fc.extern g.lim (x:=indexByteX) rfl (v:=I (Lib.indexByte s 32)) (m':=[]) rfl rfl
 have h1:(([32]:List UInt8).length:Int)=1:=rfl
 refine g.fn rfl rfl ?_
 by_cases he:[32]=s
 ·subst he
  repeat' ((conv=>whnf);first
  | refine Yz ?_
   | (refine Cmp.tt rfl ?_)
   | (refine Ret.mk rfl))
 ·repeat' ((conv=>whnf);first
 | refine Yz ?_
   | (refine zg2.at 0 (by omega) (by decide) ?_)
   | (refine Cmp.ff he ?_)
   | (apply zah.of;assumption)
   | (refine Ret.mk rfl))
theorem z9e (s:List UInt8) (h:(32:UInt8)∉s):Fc E zh1 [S s,S [32]] (.tup [S s,S [],B false]):=by
 have h0:=z9f g s
 rw [zuy 32 s h] at h0
 have h1:Fc E zdy [S s,S [32]] (.tup [S s,S [],B false]):=by
  refine g.fn rfl rfl ?_
  repeat' ((conv=>whnf);first
  | refine Yz ?_
   | (apply zah.of;assumption)
   | (refine Ret.mk rfl))
 refine g.fn rfl rfl ?_
 repeat' ((conv=>whnf);first
 | refine Yz ?_
  | (apply zah.of;assumption)
  | (refine Ret.mk rfl))
theorem yed (a r:List UInt8) (h:(32:UInt8)∉a) (hl:(a++32::r).length<=1000000):Fc E zh1 [S (a++32::r),S [32]] (.tup [S a,S r,B true]):=by
 have h0:=z9f g (a++32::r)
 rw [zux 32 a r h] at h0
 have h10:(([32]:List UInt8).length:Int)=1:=rfl
 have hlen:(a++32::r).length=a.length+(r.length+1):=by simp
 have h1:Fc E zdy [S (a++32::r),S [32]] (.tup [S a,S r,B true]):=by
  refine g.fn rfl rfl ?_
  repeat' ((conv=>whnf);first
  | refine Yz ?_
   | (apply zah.of;assumption)
   | (refine za9.at 0 a.length (by omega) (by omega) (by omega) ?_<;>(try dsimp only)<;>(rw [zqn]))
   | (refine za9.at (a.length+1) (a++32::r).length (by omega) (by omega) (by omega) ?_<;>(try dsimp only)<;>(rw [zp0]))
   | (refine Ret.mk rfl))
 refine g.fn rfl rfl ?_
 repeat' ((conv=>whnf);first
 | refine Yz ?_
  | (apply zah.of;assumption)
  | (refine Ret.mk rfl))
end
theorem yib {s:List UInt8} {e:Evt} (h:zps s=some e):e.ns.length<=3/\e.vs.length<=4/\e.tx=[]:=by
 unfold zps at h
 split at h
 ·cases h
 ·rename_i k r _
  split at h
  ·obtain rfl:=Option.some.inj h
   rename_i hok
   unfold z13 at hok
   simp only [Bool.and_eq_true,decide_eq_true_eq] at hok
   have ⟨h1,h2⟩:=ztm k
   obtain⟨⟨⟨_,hl⟩,_⟩,_⟩:=hok
   refine⟨?_,?_,rfl⟩
   ·show (r.take (zca k)).length<=3
    rw [List.length_take];omega
   ·show ((r.drop (zca k)).map zna).length<=4
    rw [List.length_map,List.length_drop];omega
  ·cases h
def z6v (s:List UInt8) (b:Int):Int:=if(ztw s).2≠0 then(ztw s).2 else if(ztw s).1.nu≠b+1 then 11 else 0
abbrev ymq (e:Evt) (x:Int):V:= .tup [Evv e,I x]
theorem zra {s:List UInt8} {x:Int} (h:ztw s=(noE,x)) (hx:x≠0) (b:Int):ymq (ztw s).1 (z6v s b)=ymq noE x:=by
 unfold z6v
 rw [h]
 simp only
 rw [if_pos hx]
theorem yqm {s:List UInt8} {e:Evt} (h:ztw s=(e,0)) {b:Int} (hb:e.nu=b+1):ymq (ztw s).1 (z6v s b)=ymq e 0:=by
 unfold z6v
 rw [h]
 simp only
 rw [if_neg (by decide),if_neg (fun h=>h hb)]
theorem yql {s:List UInt8} {e:Evt} (h:ztw s=(e,0)) {b:Int} (hb:e.nu≠b+1):ymq (ztw s).1 (z6v s b)=ymq e 11:=by
 unfold z6v
 rw [h]
 simp only
 rw [if_neg (by decide),if_pos hb]
theorem yml {t h r:List UInt8} (e:t=h++32::r):win t (h.length+1) (t.length-(h.length+1))=r:=by
 rw [e];exact zp0
section
variable {E : Oracle} (g : Good E)
include g
theorem yfh (s:List UInt8) (hs:s.length<=1000000) (b:Int) (hb:0<=b/\b<=1000000):Fc E zkr [S s,I b] (ymq (ztw s).1 (z6v s b)):=by
 refine g.fn rfl rfl ?_
 by_cases h8:s.length<8
 ·rw [zra (zrr h8) (by decide) b]
  repeat' ((conv=>whnf);first
  | refine Yz ?_
   | (refine Ret.mk rfl))
 ·obtain⟨t,x,c,rfl,h7⟩:=ygm (Nat.le_of_not_lt h8)
  have hlen:(t++x::c).length=t.length+8:=by rw [List.length_append,List.length_cons];omega
  have hE:=z6w (t:=t) (x:=x) h7
  have hdg:=yi9 g c
  have hsm:=yqr g t (by omega)
  have hxu:=zmk x
  by_cases hx:x=35
  ·have hxt:x.toNat=35:=by rw [hx];rfl
   cases h7b:zrd c with
   | false=>
    rw [if_pos (.inr h7b)] at hE
    rw [zra hE (by decide) b]
    rw [h7b] at hdg
    repeat' ((conv=>whnf);first
    | refine Yz ?_
     | (apply zah.of;assumption)
     | (refine zg2.at t.length (by omega) (by omega) ?_;rw [zhp])
     | (refine za9.at 0 t.length (by omega) (by omega) (by omega) ?_<;>(try dsimp only)<;>(rw [zqn]))
     | (refine za9.at (t.length+1) (t++x::c).length (by omega) (by omega) (by omega) ?_<;>(try dsimp only)<;>(rw [zp0]))
     | (refine Ret.mk rfl)
     | fail)
   | true=>
    rw [if_neg (by rw [h7b];simp [hx])] at hE
    rw [h7b] at hdg
    by_cases hc:c=yjv t
    ·rw [if_neg (fun h=>h hc)] at hE
     rcases zw7 t with⟨hn,hp,ht⟩|⟨h,r,hn,hth,hp,ht⟩
     ·rw [ht] at hE
      rw [zra hE (by decide) b]
      have hcut:=z9e g t hn
      have hin:=zvj g t (by omega)
      have hpa:=ybs g [] (by decide)
      repeat' ((conv=>whnf);first
      | refine Yz ?_
       | (apply zah.of;assumption)
       | (refine zg2.at t.length (by omega) (by omega) ?_;rw [zhp])
       | (refine za9.at 0 t.length (by omega) (by omega) (by omega) ?_<;>(try dsimp only)<;>(rw [zqn]))
       | (refine za9.at (t.length+1) (t++x::c).length (by omega) (by omega) (by omega) ?_<;>(try dsimp only)<;>(rw [zp0]))
       | (refine Cmp.tt hc ?_)
       | (refine Cmp.tt hc.symm ?_)
       | (refine Ret.mk rfl)
       | fail)
     ·have hl2:t.length=h.length+(r.length+1):=by rw [hth,List.length_append,List.length_cons]
      have hcut:=yed g h r hn (by rw [<-hth];omega)
      rw [<-hth] at hcut
      have hin:=zvj g h (by omega)
      have hpa:=ybs g r (by omega)
      obtain⟨hd1,hd2⟩:=ze4 h
      rw [hd1] at hin
      cases hi:zgz h with
      | false=>
       rw [hi,if_neg (by decide)] at ht
       rw [ht] at hE
       rw [zra hE (by decide) b]
       rw [hi] at hin
       repeat' ((conv=>whnf);first
       | refine Yz ?_
        | (apply zah.of;assumption)
        | (refine zg2.at t.length (by omega) (by omega) ?_;rw [zhp])
        | (refine za9.at 0 t.length (by omega) (by omega) (by omega) ?_<;>(try dsimp only)<;>(rw [zqn]))
        | (refine za9.at (t.length+1) (t++x::c).length (by omega) (by omega) (by omega) ?_<;>(try dsimp only)<;>(rw [zp0]))
        | (refine Cmp.tt hc ?_)
        | (refine Cmp.tt hc.symm ?_)
        | (refine zbd.mk ⟨rfl,by decide⟩ ?_)
        | (refine Ret.mk rfl)
        | fail)
      | true=>
       rw [hi,if_pos rfl] at ht
       rw [hi,hd2 hi] at hin
       cases hr:zps r with
       | none=>
        rw [hr] at ht hpa
        rw [ht] at hE
        rw [zra hE (by decide) b]
        repeat' ((conv=>whnf);first
        | refine Yz ?_
         | (apply zah.of;assumption)
         | (refine zg2.at t.length (by omega) (by omega) ?_;rw [zhp])
         | (refine za9.at 0 t.length (by omega) (by omega) (by omega) ?_<;>(try dsimp only)<;>(rw [zqn]))
         | (refine za9.at (t.length+1) (t++x::c).length (by omega) (by omega) (by omega) ?_<;>(try dsimp only)<;>(rw [zp0]))
         | (refine Cmp.tt hc ?_)
         | (refine Cmp.tt hc.symm ?_)
         | (refine zbd.mk ⟨rfl,by decide⟩ ?_)
         | (refine Ret.mk rfl)
         | fail)
       | some e=>
        rw [hr] at ht hpa
        dsimp only at ht
        obtain⟨e1,e2,e3⟩:=yib hr
        obtain⟨nu,ki,ns,vs,tx⟩:=e
        dsimp only at ht e1 e2 e3
        have hce:=zrb g ⟨zna h,ki,ns,vs,tx⟩ (by dsimp only;omega) (by dsimp only;omega)
        by_cases hz:zi8 ⟨zna h,ki,ns,vs,tx⟩=0
        ·rw [if_pos hz] at ht
         rw [ht] at hE
         rw [hz] at hce
         by_cases hnb:zna h=b+1
         ·rw [yqm hE hnb]
          have hwh:Fc E zan [B false,I 11] (I 0):=zrc g false 11
          repeat' ((conv=>whnf);first
          | refine Yz ?_
           | (apply zah.of;assumption)
           | (refine zg2.at t.length (by omega) (by omega) ?_;rw [zhp])
           | (refine za9.at 0 t.length (by omega) (by omega) (by omega) ?_<;>(try dsimp only)<;>(rw [zqn]))
           | (refine za9.at (t.length+1) (t++x::c).length (by omega) (by omega) (by omega) ?_<;>(try dsimp only)<;>(rw [zp0]))
           | (refine Cmp.tt hc ?_)
           | (refine Cmp.tt hc.symm ?_)
           | (refine zbd.mk ⟨rfl,by decide⟩ ?_)
           | (refine Ret.mk rfl)
           | fail)
         ·rw [yql hE hnb]
          have hwh:Fc E zan [B true,I 11] (I 11):=zrc g true 11
          repeat' ((conv=>whnf);first
          | refine Yz ?_
           | (apply zah.of;assumption)
           | (refine zg2.at t.length (by omega) (by omega) ?_;rw [zhp])
           | (refine za9.at 0 t.length (by omega) (by omega) (by omega) ?_<;>(try dsimp only)<;>(rw [zqn]))
           | (refine za9.at (t.length+1) (t++x::c).length (by omega) (by omega) (by omega) ?_<;>(try dsimp only)<;>(rw [zp0]))
           | (refine Cmp.tt hc ?_)
           | (refine Cmp.tt hc.symm ?_)
           | (refine zbd.mk ⟨rfl,by decide⟩ ?_)
           | (refine Ret.mk rfl)
           | fail)
        ·rw [if_neg hz] at ht
         rw [ht] at hE
         rw [zra hE (by decide) b]
         repeat' ((conv=>whnf);first
         | refine Yz ?_
          | (apply zah.of;assumption)
          | (refine zg2.at t.length (by omega) (by omega) ?_;rw [zhp])
          | (refine za9.at 0 t.length (by omega) (by omega) (by omega) ?_<;>(try dsimp only)<;>(rw [zqn]))
          | (refine za9.at (t.length+1) (t++x::c).length (by omega) (by omega) (by omega) ?_<;>(try dsimp only)<;>(rw [zp0]))
          | (refine Cmp.tt hc ?_)
          | (refine Cmp.tt hc.symm ?_)
          | (refine zbd.mk ⟨rfl,by decide⟩ ?_)
          | (refine Cmp.ff hz ?_)
          | (refine Ret.mk rfl)
          | fail)
    ·rw [if_pos hc] at hE
     rw [zra hE (by decide) b]
     repeat' ((conv=>whnf);first
     | refine Yz ?_
      | (apply zah.of;assumption)
      | (refine zg2.at t.length (by omega) (by omega) ?_;rw [zhp])
      | (refine za9.at 0 t.length (by omega) (by omega) (by omega) ?_<;>(try dsimp only)<;>(rw [zqn]))
      | (refine za9.at (t.length+1) (t++x::c).length (by omega) (by omega) (by omega) ?_<;>(try dsimp only)<;>(rw [zp0]))
      | (refine Cmp.ff hc ?_)
      | (refine Cmp.ff (fun h=>hc h.symm) ?_)
      | (refine Ret.mk rfl)
      | fail)
  ·rw [if_pos (.inl hx)] at hE
   rw [zra hE (by decide) b]
   have hxn:x.toNat≠35:=fun e=>hx (UInt8.toNat_inj.1 e)
   repeat' ((conv=>whnf);first
   | refine Yz ?_
    | (apply zah.of;assumption)
    | (refine zg2.at t.length (by omega) (by omega) ?_;rw [zhp])
    | (refine za9.at 0 t.length (by omega) (by omega) (by omega) ?_<;>(try dsimp only)<;>(rw [zqn]))
    | (refine za9.at (t.length+1) (t++x::c).length (by omega) (by omega) (by omega) ?_<;>(try dsimp only)<;>(rw [zp0]))
    | (refine Cmp.ff (by omega) ?_)
    | (refine Ret.mk rfl)
    | fail)
end
section
variable {E : Oracle} (g : Good E)
include g
theorem ylr (s:List UInt8) (hs:s.length<=1000000):Fc E zoe [S s] (ymq (ztw s).1 (ztw s).2):=by
 refine g.fn rfl rfl ?_
 by_cases h8:s.length<8
 ·rw [zrr h8]
  repeat' ((conv=>whnf);first
  | refine Yz ?_
   | (refine Ret.mk rfl))
 ·obtain⟨t,x,c,rfl,h7⟩:=ygm (Nat.le_of_not_lt h8)
  have hlen:(t++x::c).length=t.length+8:=by rw [List.length_append,List.length_cons];omega
  have hE:=z6w (t:=t) (x:=x) h7
  have hdg:=yip g c (by omega)
  have hsm:=yqj g t (by omega)
  have hxu:=zmk x
  by_cases hx:x=35
  ·have hxt:x.toNat=35:=by rw [hx];rfl
   cases h7b:zrd c with
   | false=>
    rw [if_pos (.inr h7b)] at hE
    rw [hE]
    rw [h7b] at hdg
    repeat' ((conv=>whnf);first
    | refine Yz ?_
     | (apply zah.of;assumption)
     | (refine zg2.at t.length (by omega) (by omega) ?_;rw [zhp])
     | (refine za9.at 0 t.length (by omega) (by omega) (by omega) ?_<;>(try dsimp only)<;>(rw [zqn]))
     | (refine za9.at (t.length+1) (t++x::c).length (by omega) (by omega) (by omega) ?_<;>(try dsimp only)<;>(rw [zp0]))
     | (refine Ret.mk rfl)
     | fail)
   | true=>
    rw [if_neg (by rw [h7b];simp [hx])] at hE
    rw [h7b] at hdg
    by_cases hc:c=yjv t
    ·rw [if_neg (fun h=>h hc)] at hE
     rcases zw7 t with⟨hn,hp,ht⟩|⟨h,r,hn,hth,hp,ht⟩
     ·rw [ht] at hE
      rw [hE]
      have hsp:=z1k g t (by omega)
      rw [hp] at hsp
      have hin:=zlg g t
      unfold z4x at hin
      have hl1:([t]:List (List UInt8)).length=1:=rfl
      cases hit:zgz t
      all_goals
       rw [hit] at hin
       repeat' ((conv=>whnf);first
       | refine Yz ?_
        | (apply zah.of;assumption)
        | (refine zg2.at t.length (by omega) (by omega) ?_;rw [zhp])
        | (refine za9.at 0 t.length (by omega) (by omega) (by omega) ?_<;>(try dsimp only)<;>(rw [zqn]))
        | (refine za9.at (t.length+1) (t++x::c).length (by omega) (by omega) (by omega) ?_<;>(try dsimp only)<;>(rw [zp0]))
        | (refine Cmp.tt hc ?_)
        | (refine Cmp.tt hc.symm ?_)
        | (refine Ret.mk rfl)
        | fail)
     ·have hl2:t.length=h.length+(r.length+1):=by rw [hth,List.length_append,List.length_cons]
      have hsp:=z1k g t (by omega)
      rw [hp] at hsp
      have hin:=zlg g h
      unfold z4x at hin
      have hpa:=yd1 g r (by omega)
      have hpl:1<=(parts 32 r).length:=List.length_pos_iff.2 (znz 32 r)
      have hkl:(h::parts 32 r).length=(parts 32 r).length+1:=rfl
      cases hi:zgz h with
      | false=>
       rw [hi,if_neg (by decide)] at ht
       rw [ht] at hE
       rw [hE]
       rw [hi] at hin
       repeat' ((conv=>whnf);first
       | refine Yz ?_
        | (apply zah.of;assumption)
        | (refine zg2.at t.length (by omega) (by omega) ?_;rw [zhp])
        | (refine za9.at 0 t.length (by omega) (by omega) (by omega) ?_<;>(try dsimp only)<;>(rw [zqn]))
        | (refine za9.at (t.length+1) (t++x::c).length (by omega) (by omega) (by omega) ?_<;>(try dsimp only)<;>(rw [zp0]))
        | (refine Cmp.tt hc ?_)
        | (refine Cmp.tt hc.symm ?_)
        | (refine za9.at (h.length+1) t.length (by omega) (by omega) (by omega) ?_<;>(try dsimp only)<;>(rw [yml hth]))
        | (refine zbd.mk ⟨rfl,by decide⟩ ?_)
        | (refine Ret.mk rfl)
        | fail)
      | true=>
       rw [hi,if_pos rfl] at ht
       rw [hi] at hin
       cases hr:zps r with
       | none=>
        rw [hr] at ht hpa
        rw [ht] at hE
        rw [hE]
        repeat' ((conv=>whnf);first
        | refine Yz ?_
         | (apply zah.of;assumption)
         | (refine zg2.at t.length (by omega) (by omega) ?_;rw [zhp])
         | (refine za9.at 0 t.length (by omega) (by omega) (by omega) ?_<;>(try dsimp only)<;>(rw [zqn]))
         | (refine za9.at (t.length+1) (t++x::c).length (by omega) (by omega) (by omega) ?_<;>(try dsimp only)<;>(rw [zp0]))
         | (refine Cmp.tt hc ?_)
         | (refine Cmp.tt hc.symm ?_)
         | (refine za9.at (h.length+1) t.length (by omega) (by omega) (by omega) ?_<;>(try dsimp only)<;>(rw [yml hth]))
         | (refine zbd.mk ⟨rfl,by decide⟩ ?_)
         | (refine Ret.mk rfl)
         | fail)
       | some e=>
        rw [hr] at ht hpa
        dsimp only at ht
        obtain⟨e1,e2,e3⟩:=yib hr
        obtain⟨nu,ki,ns,vs,tx⟩:=e
        dsimp only at ht e1 e2 e3
        have hce:=zq9 g ⟨zna h,ki,ns,vs,tx⟩ (by dsimp only;omega) (by dsimp only;omega)
        by_cases hz:zi8 ⟨zna h,ki,ns,vs,tx⟩=0
        ·rw [if_pos hz] at ht
         rw [ht] at hE
         rw [hz] at hce
         rw [hE]
         repeat' ((conv=>whnf);first
         | refine Yz ?_
          | (apply zah.of;assumption)
          | (refine zg2.at t.length (by omega) (by omega) ?_;rw [zhp])
          | (refine za9.at 0 t.length (by omega) (by omega) (by omega) ?_<;>(try dsimp only)<;>(rw [zqn]))
          | (refine za9.at (t.length+1) (t++x::c).length (by omega) (by omega) (by omega) ?_<;>(try dsimp only)<;>(rw [zp0]))
          | (refine Cmp.tt hc ?_)
          | (refine Cmp.tt hc.symm ?_)
          | (refine za9.at (h.length+1) t.length (by omega) (by omega) (by omega) ?_<;>(try dsimp only)<;>(rw [yml hth]))
          | (refine zbd.mk ⟨rfl,by decide⟩ ?_)
          | (refine Ret.mk rfl)
          | fail)
        ·rw [if_neg hz] at ht
         rw [ht] at hE
         rw [hE]
         repeat' ((conv=>whnf);first
         | refine Yz ?_
          | (apply zah.of;assumption)
          | (refine zg2.at t.length (by omega) (by omega) ?_;rw [zhp])
          | (refine za9.at 0 t.length (by omega) (by omega) (by omega) ?_<;>(try dsimp only)<;>(rw [zqn]))
          | (refine za9.at (t.length+1) (t++x::c).length (by omega) (by omega) (by omega) ?_<;>(try dsimp only)<;>(rw [zp0]))
          | (refine Cmp.tt hc ?_)
          | (refine Cmp.tt hc.symm ?_)
          | (refine za9.at (h.length+1) t.length (by omega) (by omega) (by omega) ?_<;>(try dsimp only)<;>(rw [yml hth]))
          | (refine zbd.mk ⟨rfl,by decide⟩ ?_)
          | (refine Cmp.ff hz ?_)
          | (refine Ret.mk rfl)
          | fail)
    ·rw [if_pos hc] at hE
     rw [hE]
     repeat' ((conv=>whnf);first
     | refine Yz ?_
      | (apply zah.of;assumption)
      | (refine zg2.at t.length (by omega) (by omega) ?_;rw [zhp])
      | (refine za9.at 0 t.length (by omega) (by omega) (by omega) ?_<;>(try dsimp only)<;>(rw [zqn]))
      | (refine za9.at (t.length+1) (t++x::c).length (by omega) (by omega) (by omega) ?_<;>(try dsimp only)<;>(rw [zp0]))
      | (refine Cmp.ff hc ?_)
      | (refine Cmp.ff (fun h=>hc h.symm) ?_)
      | (refine Ret.mk rfl)
      | fail)
  ·rw [if_pos (.inl hx)] at hE
   rw [hE]
   have hxn:x.toNat≠35:=fun e=>hx (UInt8.toNat_inj.1 e)
   repeat' ((conv=>whnf);first
   | refine Yz ?_
    | (apply zah.of;assumption)
    | (refine zg2.at t.length (by omega) (by omega) ?_;rw [zhp])
    | (refine za9.at 0 t.length (by omega) (by omega) (by omega) ?_<;>(try dsimp only)<;>(rw [zqn]))
    | (refine za9.at (t.length+1) (t++x::c).length (by omega) (by omega) (by omega) ?_<;>(try dsimp only)<;>(rw [zp0]))
    | (refine Cmp.ff (by omega) ?_)
    | (refine Ret.mk rfl)
    | fail)
end
theorem yfj {cx:Cx} {slot lo:Nat} {old m:Mem} {o:Evl.Id} {v:V} (hi:Go.Evl.ids v=[o]) (hr:Go.Evl.ren [] v=v) (h:o.lv<lo):Go.Evl.settle cx slot lo old m v=some (v,old):=by
 have hn:¬lo<=o.lv:=by omega
 have hr':Go.Evl.reach lo m 64 (Go.Evl.ids v) []=[]:=by
  rw [hi]
  simp [Go.Evl.reach,hn]
 unfold Go.Evl.settle
 simp only [hr']
 rw [if_pos (by rw [hi];simp [Go.Evl.within,Go.Evl.movable,Go.Evl.onceB,h])]
 simp [Go.Evl.number,hr,Go.Evl.moved]
theorem ybv {cx:Cx} {slot lo:Nat} {old m:Mem} {o:Evl.Id} {v v':V} {wr:Bool} {t sz n:Nat} {xs:List D} (hi:Go.Evl.ids v=[o]) (hlo:lo<=o.lv) (hl:Evl.look m o=some (.row wr t sz n xs)) (hr:Go.Evl.ren [(o,⟨cx.lv,slot,Go.Evl.freeK cx.lv slot old⟩)] v=v'):
  Go.Evl.settle cx slot lo old m v=some (v',old++[(⟨cx.lv,slot,Go.Evl.freeK cx.lv slot old⟩,.row wr t sz n xs)]):=by
 have hr':Go.Evl.reach lo m 64 (Go.Evl.ids v) []=[o]:=by
  rw [hi]
  simp [Go.Evl.reach,hlo,hl,Go.Evl.idsO]
 unfold Go.Evl.settle
 simp only [hr']
 rw [if_pos (by rw [hi];simp [Go.Evl.within,Go.Evl.movable,Go.Evl.onceB,hl,hlo,Go.Evl.idsO,Go.Evl.isLoop])]
 simp [Go.Evl.number,hr,Go.Evl.moved,hl,Go.Evl.renO]
theorem zrv.low {cx:Cx} {slot lo:Nat} {old m:Mem} {o:Evl.Id} {v:V} {K:V×Mem->Prop} (hi:Go.Evl.ids v=[o]) (hr:Go.Evl.ren [] v=v) (h:o.lv<lo) (k:K (v,old)):zrv (Go.Evl.settle cx slot lo old m v) K:=⟨_,yfj hi hr h,k⟩
theorem zrv.nrow {cx:Cx} {slot lo:Nat} {old m:Mem} {o:Evl.Id} {v v':V} {wr:Bool} {t sz n:Nat} {xs:List D} {K:V×Mem->Prop} (c:Nat) (hi:Go.Evl.ids v=[o]) (hlo:lo<=o.lv) (hl:Evl.look m o=some (.row wr t sz n xs)) (hf:Go.Evl.freeK cx.lv slot old=c) (hr:Go.Evl.ren [(o,⟨cx.lv,slot,c⟩)] v=v')
  (k:K (v',old++[(⟨cx.lv,slot,c⟩,.row wr t sz n xs)])):zrv (Go.Evl.settle cx slot lo old m v) K:=⟨_,ybv (v':=v') hi hlo hl (by rw [hf];exact hr),by rw [hf];exact k⟩
theorem z1f {α:Type} (p ys ds:List α):patch (p++ys) p.length ds=(p++ds)++ys.drop ds.length:=by
 unfold patch
 rw [List.take_left' rfl,List.drop_append,List.drop_of_length_le (by omega),show p.length+ds.length-p.length=ds.length by omega,List.nil_append]
theorem yc3 {α:Type} (z:α):∀n:Nat,(List.replicate n [z]).flatten=List.replicate n z
 | 0=>rfl
 | n+1=>by rw [List.replicate_succ,List.flatten_cons,yc3 z n,List.replicate_succ];rfl
theorem yqe (x z:D) (a b:List D) (n:Nat) (hn:n=1+a.length+b.length):patch (patch (patch (List.replicate n [z]).flatten 0 [x]) 1 a) (1+a.length) b=x::a++b:=by
 have h1:=z1f [] (List.replicate n z) [x]
 rw [List.nil_append,List.nil_append,List.drop_replicate] at h1
 have h2:=z1f [x] (List.replicate (n-[x].length) z) a
 rw [List.drop_replicate] at h2
 have h3:=z1f ([x]++a) (List.replicate (n-[x].length-a.length) z) b
 rw [List.drop_replicate] at h3
 have e3:([x]++a).length=1+a.length:=by simp;omega
 have e0:n-[x].length-a.length-b.length=0:=by simp;omega
 rw [e3,e0] at h3
 have e1:([]:List D).length=0:=rfl
 have e2:([x]:List D).length=1:=rfl
 rw [e1] at h1
 rw [yc3,h1]
 rw [e2] at h2 h3 ⊢
 rw [h2,h3]
 simp
def zx5 (e:Evt):List UInt8:=zga 32 (e.ki::e.ns++e.vs.map zjm)
def zxq (e:Evt):List UInt8:=zjm e.nu++32::zx5 e
def zyh (e:Evt):List UInt8:=zxq e++35::yjv (zxq e)
def zww (l:List Evt):List UInt8:=l.flatMap fun e=>zyh e++[10]
structure PrE (e:Evt):Prop where
 nu:0<=e.nu/\e.nu<=999999999
 ns:1<=e.ns.length/\e.ns.length<=1000
 vs:1<=e.vs.length/\e.vs.length<=1000
 va:∀x∈e.vs,0<=x/\x<=999999999
 ln:(zxq e).length<=1000000
theorem z01 (k:List UInt8):∀l:List (List UInt8),zga 32 (k::l)=k++l.flatMap fun x=>32::x
 | []=>by simp [zga]
 | y::r=>by
  rw [zga,z01 y r,List.flatMap_cons]
  simp
theorem yen (e:Evt):(zx5 e).length<=(zxq e).length/\(zxq e).length=(zjm e.nu).length+(zx5 e).length+1:=by
 unfold zxq
 rw [List.length_append,List.length_cons]
 omega
theorem ylc (e:Evt):(zyh e).length=(zxq e).length+8:=by
 unfold zyh
 rw [List.length_append,List.length_cons,zy3]
section
variable {E : Oracle} (g : Good E)
include g
theorem yi3 (k:List UInt8) (ns vs:List (List UInt8)) (hn:1<=ns.length/\ns.length<=1000000) (hv:1<=vs.length/\vs.length<=1000000):
  Fc E zd8 [.d (.list 3 [.list 1 [.str k],.list ns.length (ns.map D.str),.list vs.length (vs.map D.str)])] (Ws (k::ns++vs)):=by
 refine g.fn rfl rfl ?_
 repeat' ((conv=>whnf);first
 | refine Yz ?_
  | (refine zfa.now rfl ?_)
  | (refine zak.step g.lim ?_)
  | (refine In.enter (f:=zes) g.lim rfl rfl ?_)
  | (refine za9.mk (by omega) ?_)
  | (refine zbd.mk (by simp only [List.length_cons,List.length_nil,List.length_map];omega) ?_)
  | (refine zrv.nrow 0 rfl (Nat.le_refl _) rfl rfl rfl ?_)
  | (refine Ret.mk ?_)
  | fail)
 have hN:(0+((1:Nat):Int)+(ns.length:Int)+(vs.length:Int)-(((0:Nat):Int)-((0:Nat):Int))).toNat=1+ns.length+vs.length:=by omega
 have hp:=yqe (.str k) (.str []) (ns.map D.str) (vs.map D.str) (1+ns.length+vs.length) (by simp)
 rw [hN]
 simp only [Int.toNat_natCast,Int.toNat_zero,Nat.sub_zero,Nat.zero_add,Nat.mul_one]
 rw [if_pos ⟨trivial,trivial⟩]
 rw [List.length_map] at hp
 rw [hp]
 simp
 omega
theorem yqq (e:Evt) (h:PrE e):Fc E zjr [Evv e] (S (zx5 e)):=by
 obtain⟨h1,h2,h3,h4,h5⟩:=h
 have hb:=yen e
 obtain⟨nu,ki,ns,vs,tx⟩:=e
 change Fc E zjr [.d (.agg [DI nu,.str ki,.list ns.length (ns.map D.str),.list vs.length (vs.map DI),.str tx])] _
 dsimp only at h1 h2 h3 h4 h5 hb
 refine g.fn rfl rfl ?_
 have hm:=yja g vs (by omega) h4
 have hl:(vs.map zjm).length=vs.length:=List.length_map _
 have hc:=yi3 g ki ns (vs.map zjm) (by omega) (by omega)
 have hj:=yi6 g (ki::ns++vs.map zjm) (by simp) (by simp;omega) (by show (zx5 ⟨nu,ki,ns,vs,tx⟩).length<=_;omega)
 unfold zx5
 repeat' ((conv=>whnf);first
 | refine Yz ?_
  | (apply zah.of;assumption)
  | (refine Ret.mk rfl)
  | fail)
end
theorem zag {α:Type} (cell:α->List D) (w:Nat) (hw:∀a,(cell a).length=w):∀l:List α,(l.flatMap cell).length=l.length*w
 | []=>by simp
 | c::r=>by rw [List.flatMap_cons,List.length_append,hw,zag cell w hw r,List.length_cons,Nat.succ_mul];omega
theorem zwt {α:Type} (cell:α->List D) (w:Nat) (hw:∀a,(cell a).length=w):∀(l:List α) (k:Nat),(l.flatMap cell).drop (k*w)=(l.drop k).flatMap cell
 | l,0=>by simp
 | [],k+1=>by simp
 | c::r,k+1=>by
  rw [List.flatMap_cons,List.drop_succ_cons,<-zwt cell w hw r k,Nat.succ_mul,Nat.add_comm,<-List.drop_drop]
  congr 1
  rw [List.drop_append_of_le_length (by rw [hw];exact Nat.le_refl _),List.drop_of_length_le (by rw [hw];exact Nat.le_refl _)]
  rfl
theorem zb9 {α:Type} (cell:α->List D) (w:Nat) (hw:∀a,(cell a).length=w) (l:List α) (k:Nat) (h:k<l.length):win (l.flatMap cell) (k*w) w=cell l[k]:=by
 unfold win
 rw [zwt cell w hw,List.drop_eq_getElem_cons h,List.flatMap_cons,List.take_append_of_le_length (by rw [hw];exact Nat.le_refl _),List.take_of_length_le (by rw [hw];exact Nat.le_refl _)]
theorem ygx {α:Type} (cell:α->List D) (w:Nat) (hw:∀a,(cell a).length=w) (l:List α) (k j:Nat) (h:k<l.length) (hj:j<w):(l.flatMap cell)[k*w+j]? =(cell l[k])[j]? :=by
 rw [<-List.getElem?_drop,zwt cell w hw,List.drop_eq_getElem_cons h,List.flatMap_cons,List.getElem?_append_left (by rw [hw];exact hj)]
theorem z14.rec {α:Type} {cell:α->List D} {w:Nat} (hw:∀a,(cell a).length=w) {l:List α} {i:Int} {K:List D->Prop} (k:Nat) (hi:i=k) (h:k<l.length) (hk:K (cell l[k])):z14 (l.flatMap cell) (i.toNat*w) w K:=by
 subst hi
 rw [Int.toNat_natCast]
 have h1:=zag cell w hw l
 refine⟨?_,by rw [zb9 cell w hw l k h];exact hk⟩
 have h2:(k+1)*w<=l.length*w:=Nat.mul_le_mul_right _ h
 rw [Nat.succ_mul] at h2
 omega
theorem z14.rec0 {α:Type} {cell:α->List D} {w:Nat} (hw:∀a,(cell a).length=w) {l:List α} {i:Int} {K:List D->Prop} (k:Nat) (hi:i=k) (h:k<l.length) (hk:K (cell l[k])):z14 (l.flatMap cell) ((0+i.toNat)*w) w K:=by
 rw [Nat.zero_add];exact z14.rec hw k hi h hk
theorem zfa.rec {α:Type} {cell:α->List D} {w:Nat} (hw:∀a,(cell a).length=w) {l:List α} {i:Int} {j:Nat} {K:D->Prop} {d:D} (k:Nat) (hi:i=k) (h:k<l.length) (hj:(cell l[k])[j]? =some d) (hk:K d):zfa (l.flatMap cell) (i.toNat*w+j) K:=by
 subst hi
 rw [Int.toNat_natCast]
 have hlt:j<w:=by
  have:=(List.getElem?_eq_some_iff.1 hj).1
  rwa [hw] at this
 exact⟨⟨d,by rw [ygx cell w hw l k j h hlt];exact hj,hk⟩⟩
theorem zfa.rec0 {α:Type} {cell:α->List D} {w:Nat} (hw:∀a,(cell a).length=w) {l:List α} {i:Int} {j:Nat} {K:D->Prop} {d:D} (k:Nat) (hi:i=k) (h:k<l.length) (hj:(cell l[k])[j]? =some d) (hk:K d):zfa (l.flatMap cell) ((0+i.toNat)*w+j) K:=by
 rw [Nat.zero_add];exact zfa.rec hw k hi h hj hk
def zm9 (l:List (List UInt8)):List UInt8:=l.flatMap fun x=>32::x
theorem z4u {l:List (List UInt8)} {k:Nat} (h:k<l.length):zm9 (l.take (k+1))=zm9 (l.take k)++32::l[k]:=by
 unfold zm9
 rw [List.take_add_one,List.getElem?_eq_getElem h,List.flatMap_append]
 simp
theorem zy4 (l:List (List UInt8)) (k:Nat):(zm9 (l.take k)).length<=(zm9 l).length:=by
 unfold zm9
 conv=>rhs;rw [<-List.take_append_drop k l]
 rw [List.flatMap_append,List.length_append]
 omega
theorem yjy (a b:List (List UInt8)):zm9 (a++b)=zm9 a++zm9 b:=by
 unfold zm9
 rw [List.flatMap_append]
theorem yeo (e:Evt):zxq e=((zjm e.nu++[32])++e.ki)++zm9 e.ns++zm9 (e.vs.map zjm):=by
 unfold zxq zx5
 rw [List.cons_append,z01]
 show _++32::(e.ki++zm9 (e.ns++e.vs.map zjm))=_
 rw [yjy]
 simp
section
variable {E : Oracle} (g : Good E)
include g
theorem yqi (e:Evt) (h:PrE e):Fc E zlf [Evv e] (S (zxq e)):=by
 obtain⟨h1,h2,h3,h4,h5⟩:=h
 have ht:=yeo e
 rw [ht] at h5 ⊢
 obtain⟨nu,ki,ns,vs,tx⟩:=e
 change Fc E zlf [.d (.agg [DI nu,.str ki,.list ns.length (ns.map D.str),.list vs.length (vs.map DI),.str tx])] _
 dsimp only at h1 h2 h3 h4 h5
 dsimp only
 have hd:=zrq g nu h1
 refine g.fn rfl rfl ?_
 generalize zjm nu=n0 at *
 generalize hp:(n0++[32])++ki=p at *
 have hpl:(n0++[32]).length+ki.length=p.length:=by rw [<-hp];simp;omega
 simp only [List.length_append] at h5
 have hpl2:n0.length+1+ki.length=p.length:=by rw [<-hpl];simp
 repeat' ((conv=>whnf);first
 | refine Yz ?_
  | (apply zah.of;assumption)
  | (refine zbd.mk (by simp only [zmy,List.length_append,List.length_cons,List.length_nil];omega) ?_;try rw [hp])
  | fail)
 refine zak.to (zak.up g (fun k=>[(1,.ptr ⟨0,1,0⟩ 0 0),(3,S (p++zm9 (ns.take k))),(4,I k)]) (fun _=>[(⟨0,1,0⟩,.cells zac [I nu,S ki,Ws ns,LI vs,S tx])]) ns.length (fun k hk ih=> ?_) 0 (Nat.zero_le _)) (by simp [zm9]) rfl
 have hle:=zy4 ns k
 by_cases hlt:k<ns.length
 ·have ih:=ih hlt
  have hle2:=zy4 ns (k+1)
  rw [z4u hlt] at ih hle2
  simp only [List.length_append,List.length_cons] at hle2
  repeat' ((conv=>whnf);first
  | refine Yz ?_
   | (refine zfa.ws k rfl hlt ?_)
   | (refine zbd.mk (by simp only [zmy,List.length_append,List.length_cons,List.length_nil];omega) ?_)
   | (refine zak.to ih (by simp) rfl)
   | fail)
 ·obtain rfl:k=ns.length:=by omega
  rw [List.take_length]
  repeat' ((conv=>whnf);first
  | refine Yz ?_
   | fail)
  generalize hq:p++zm9 ns=q at *
  have hql:p.length+(zm9 ns).length=q.length:=by rw [<-hq,List.length_append]
  have hvl:(vs.map zjm).length=vs.length:=List.length_map _
  refine zak.to (zak.up g (fun k=>[(1,.ptr ⟨0,1,0⟩ 0 0),(3,S (q++zm9 ((vs.map zjm).take k))),(5,I k)]) (fun _=>[(⟨0,1,0⟩,.cells zac [I nu,S ki,Ws ns,LI vs,S tx])]) vs.length (fun k hk ih=> ?_) 0 (Nat.zero_le _)) (by simp [zm9]) rfl
  have hle:=zy4 (vs.map zjm) k
  by_cases hlt:k<vs.length
  ·have ih:=ih hlt
   have hle2:=zy4 (vs.map zjm) (k+1)
   have hdk:=zrq g vs[k] (h4 _ (List.getElem_mem hlt))
   rw [z4u (by omega),List.getElem_map] at ih hle2
   simp only [List.length_append,List.length_cons] at hle2
   repeat' ((conv=>whnf);first
   | refine Yz ?_
    | (refine zfa.iw k rfl hlt ?_)
    | (apply zah.of;assumption)
    | (refine zbd.mk (by simp only [zmy,List.length_append,List.length_cons,List.length_nil];omega) ?_)
    | (refine zak.to ih (by simp) rfl)
    | fail)
  ·obtain rfl:k=vs.length:=by omega
   rw [<-hvl,List.take_length,hvl]
   repeat' ((conv=>whnf);first
   | refine Yz ?_
    | (refine Ret.mk rfl)
    | fail)
end
abbrev LE (l:List Evt):V:= .d (.list l.length (l.flatMap Evt.cells))
theorem evw (e:Evt):e.cells.length=5:=rfl
theorem yhj {l:List Evt} {k:Nat} (h:k<l.length):zww (l.take (k+1))=zww (l.take k)++(zyh l[k]++[10]):=by
 unfold zww
 rw [List.take_add_one,List.getElem?_eq_getElem h,List.flatMap_append]
 simp
theorem yhi (l:List Evt) (k:Nat):(zww (l.take k)).length<=(zww l).length:=by
 unfold zww
 conv=>rhs;rw [<-List.take_append_drop k l]
 rw [List.flatMap_append,List.length_append]
 omega
section
variable {E : Oracle} (g : Good E)
include g
theorem yr6 (l:List Evt) (hl:l.length<=1000000) (h:∀e∈l,PrE e) (hln:(zww l).length<=1000000):Fc E ztt [LE l] (S (zww l)):=by
 refine g.fn rfl rfl ?_
 repeat' ((conv=>whnf);first
 | refine Yz ?_
  | fail)
 refine zak.to (zak.up g (fun k=>[(0,LE l),(3,S (zww (l.take k))),(4,I k)]) (fun _=>[]) l.length (fun k hk ih=> ?_) 0 (Nat.zero_le _)) rfl rfl
 have hle:=yhi l k
 by_cases hlt:k<l.length
 ·have ih:=ih hlt
  have hle2:=yhi l (k+1)
  have hpe:=h _ (List.getElem_mem hlt)
  have hb:=yqi g l[k] hpe
  have hs:=yqj g (zxq l[k]) hpe.ln
  have hsl:=zy3 (zxq l[k])
  rw [yhj hlt] at ih hle2
  unfold zyh at ih hle2
  simp only [List.length_append,List.length_cons,List.length_nil] at hle2
  repeat' ((conv=>whnf);first
  | refine Yz ?_
   | (refine z14.rec evw k rfl hlt ?_)
   | (apply zah.of;assumption)
   | (refine zbd.mk (by simp only [zmy,List.length_append,List.length_cons,List.length_nil];omega) ?_)
   | (refine zak.to ih (by simp) rfl)
   | fail)
 ·obtain rfl:k=l.length:=by omega
  rw [List.take_length]
  repeat' ((conv=>whnf);first
  | refine Yz ?_
   | (refine Ret.mk rfl)
   | fail)
end
mutual
theorem z1u:∀d:D,zkw d d=true
 | .int k a=>by simp [zkw]
 | .bool a=>by simp [zkw]
 | .str a=>by simp [zkw]
 | .nil=>rfl
 | .list n a=>by simp [zkw,zkx a]
 | .agg a=>by simp [zkw,zkx a]
 | .nilp=>rfl
 | .nilf=>rfl
 | .nili=>rfl
 | .ifc a=>by simp [zkw]
 | .nilm=>rfl
 | .fn a=>by simp [zkw]
theorem zkx:∀l:List D,zlh l l=true
 | []=>rfl
 | x::r=>by simp [zlh,z1u x,zkx r]
end
mutual
theorem zym:∀v:V,zqz v v=true
 | .d a=>z1u a
 | .agg a=>by simp [zqz,zmw a]
 | .tup a=>by simp [zqz,zmw a]
 | .ref o a b c=>by simp [zqz]
 | .ptr o a b=>by simp [zqz]
 | .lptr a n=>by simp [zqz,zkx a]
 | .fn f a b=>by simp [zqz,zmw a,zmw b]
 | .yld o=>by simp [zqz]
 | .mp o=>by simp [zqz]
 | .it o=>by simp [zqz]
 | .skip=>rfl
 | .undef=>rfl
theorem zmw:∀l:List V,zwr l l=true
 | []=>rfl
 | x::r=>by simp [zwr,zym x,zmw r]
end
def ydx:Mem->Bool
 | []=>true
 | (_,o)::r=>(match o with
  | .cells .. =>true
  | .row .. =>true
  | _=>false)&&ydx r
def z4y (m1:Mem):Mem->Prop
 | []=>True
 | (i,o)::r=>Evl.look m1 i=some o/\z4y m1 r
theorem ydd (m1:Mem):∀m:Mem,ydx m=true->z4y m1 m->z8r m1 m=true
 | [],_,_=>rfl
 | (i,o)::r,h,hk=>by
  obtain⟨h1,h2⟩:=hk
  simp only [ydx,Bool.and_eq_true] at h
  have ih:=ydd m1 r h.2 h2
  unfold z8r
  rw [h1,ih,Bool.and_true]
  cases o<;>simp at h
  ·simp [ybt,zmw]
  ·simp [ybt,zkx]
structure Qs (E:Oracle) (f:Nat) (as0:List V) (m0:Mem) (r:V):Prop where
 got:In E 1 f as0 m0 fun v m1=>v=r/\z4y m1 m0
theorem zj6.of {E:Oracle} {f:Nat} {first caps args as0:List V} {m m0:Mem} {r r':V} {K:V->Prop} (is:List Evl.Id) (his:reach 0 m 64 (idsL (first ++args++caps)) []=is)
  (hc:(within is 0 (idsL (first ++args++caps))&&movable is 0 m)=true) (has:renL (number ⟨0,0⟩ 0 0 is) (first ++args++caps)=as0) (hm:moved (number ⟨0,0⟩ 0 0 is) m (number ⟨0,0⟩ 0 0 is)=m0)
  (hq:Qs E f as0 m0 r) (hp:ydx m0=true) (hid:(ids r).all (fun i=>((number ⟨0,0⟩ 0 0 is).map (·.2)).elem i)=true) (hr:ren (znd (number ⟨0,0⟩ 0 0 is)) r=r') (hk:K r'):zj6 E (.fn f first caps) args m K:=by
 obtain⟨v,m1,h1,rfl,h3⟩:=hq.got
 refine⟨r',?_,hk⟩
 simp only [zup,his,hc,if_true,has,hm,h1]
 rw [ydd m1 m0 hp h3,hid,hr]
 rfl
structure Ent where
 nm:List UInt8
 kd:List UInt8
 sr:List UInt8
 bs:List UInt8
 kn:Int
 fr:Int
 to:Int
 mi:Int
structure Rmv where
 en:List UInt8
 kn:Int
structure Cpl where
 nm:List UInt8
 en:List UInt8
 kn:Int
 cl:Bool
 up:Bool
structure Rgs where
 kn:Int
 es:List Ent
 rs:List Rmv
 cs:List Cpl
def Ent.cells (e:Ent):List D:=[.str e.nm,.str e.kd,.str e.sr,.str e.bs,DI e.kn,DI e.fr,DI e.to,DI e.mi]
def Rmv.cells (r:Rmv):List D:=[.str r.en,DI r.kn]
def Cpl.cells (c:Cpl):List D:=[.str c.nm,.str c.en,DI c.kn,.bool c.cl,.bool c.up]
abbrev yq9 (e:Ent):V:= .d (.agg e.cells)
theorem zj5 (e:Ent):e.cells.length=8:=rfl
theorem yiz (e:Rmv):e.cells.length=2:=rfl
theorem zop (e:Cpl):e.cells.length=5:=rfl
abbrev Rgv (r:Rgs):V:= .d (.agg [DI r.kn,.list r.es.length (r.es.flatMap Ent.cells),.list r.rs.length (r.rs.flatMap Rmv.cells),.list r.cs.length (r.cs.flatMap Cpl.cells)])
abbrev mR (t:Nat) (ev:List Evt) (r:Rgs):Mem:=[(⟨0,0,0⟩,.cells t [.ref ⟨0,0,1⟩ 0 ev.length ev.length,I r.kn,.ref ⟨0,0,2⟩ 0 r.es.length r.es.length,.ref ⟨0,0,3⟩ 0 r.rs.length r.rs.length,.ref ⟨0,0,4⟩ 0 r.cs.length r.cs.length]),
 (⟨0,0,1⟩,.row false zac 5 ev.length (ev.flatMap Evt.cells)),(⟨0,0,2⟩,.row false zae 8 r.es.length (r.es.flatMap Ent.cells)),(⟨0,0,3⟩,.row false zam 2 r.rs.length (r.rs.flatMap Rmv.cells)),(⟨0,0,4⟩,.row true zai 5 r.cs.length (r.cs.flatMap Cpl.cells))]
abbrev isR:List Evl.Id:=[⟨0,0,0⟩,⟨0,0,1⟩,⟨0,0,2⟩,⟨0,0,3⟩,⟨0,0,4⟩]
def zls (es:List Ent) (nm:List UInt8):Int:=yaw (fun x=>decide (x.nm=nm)) es
def zth (cs:List Cpl) (nm:List UInt8):Int:=yaw (fun x=>decide (x.nm=nm)) cs
theorem z3s {α:Type} (p:α->Bool) (l:List α):(yaw p l= -1/\∀j,(hj:j<l.length)->p l[j]=false)\/∃k,∃hk:k<l.length,yaw p l=k/\p l[k]=true/\∀j,(hj:j<k)->p (l[j]'(by omega))=false:=by
 unfold yaw
 cases h:l.findIdx? p with
 | none=>
  refine .inl ⟨rfl,fun j hj=> ?_⟩
  have:=List.findIdx?_eq_none_iff.1 h l[j] (List.getElem_mem hj)
  simpa using this
 | some i=>
  obtain⟨hi,hp,hn⟩:=List.findIdx?_eq_some_iff_getElem.1 h
  refine .inr ⟨i,hi,rfl,hp,fun j hj=> ?_⟩
  have:=hn j hj
  simpa using this
abbrev yam (r:Rgs) (i:Int):V:=if 0<=i then .ptr ⟨0,0,2⟩ ((0+i.toNat)*8) r.es.length else .d .nilp
abbrev yks (r:Rgs) (i:Int):V:=if 0<=i then .ptr ⟨0,0,4⟩ ((0+i.toNat)*5) r.cs.length else .d .nilp
section
variable {E : Oracle} (g : Good E)
include g
theorem zw1 (t:Nat) (ev:List Evt) (r:Rgs) (nm:List UInt8) (hl:r.es.length<=1000000):Qs E zbt [.ptr ⟨0,0,0⟩ 1 0,S nm] (mR t ev r) (yam r (zls r.es nm)):=by
 refine⟨?_⟩
 refine In.enter (f:=zbt) g.lim rfl rfl ?_
 have hml:(r.es.flatMap Ent.cells).length=r.es.length*8:=zag Ent.cells 8 zj5 r.es
 repeat' ((conv=>whnf);first
 | refine Yz ?_
  | (refine In.enter (f:=zau) g.lim rfl rfl ?_)
  | fail)
 refine zak.to (zak.upP g (fun k=>[(0,.ref ⟨0,0,2⟩ 0 r.es.length r.es.length),(1,.fn zc2 [] [.ptr ⟨1,3,0⟩ 0 0]),(7,I r.es.length),(8,I k)]) (fun _=>mR t ev r++[(⟨1,3,0⟩,.cells zab [S nm])]) (fun k=>∀j,(hj:j<k)->(hj':j<r.es.length)->decide (r.es[j].nm=nm)=false) r.es.length (fun k hk hp ih=> ?_) 0 (Nat.zero_le _) (fun j h _=>absurd h (Nat.not_lt_zero _))) rfl rfl
 by_cases hlt:k<r.es.length
 ·have hwin:win (r.es.flatMap Ent.cells) ((0+((k:Nat):Int).toNat)*8) 8=r.es[k].cells:=by
   rw [Nat.zero_add,Int.toNat_natCast]
   exact zb9 Ent.cells 8 zj5 r.es k hlt
  by_cases he:r.es[k].nm=nm
  ·have hi:zls r.es nm=k:=zn9 (p:=fun x:Ent=>decide (x.nm=nm)) hlt (decide_eq_true he) fun j hj=>hp j hj (by omega)
   rw [hi,yam,if_pos (by omega)]
   repeat' ((conv=>whnf);first
   | refine Yz ?_
    | (rw [hwin];refine In.enter (f:=zc2) g.lim rfl rfl ?_)
    | (refine Cmp.tt he ?_)
    | (exact⟨rfl,rfl,rfl,rfl,rfl,rfl,trivial⟩)
    | fail)
  ·have ih:=ih hlt fun j hj hj'=>by
    by_cases e:j=k
    ·subst e;exact decide_eq_false he
    ·exact hp j (by omega) hj'
   repeat' ((conv=>whnf);first
   | refine Yz ?_
    | (rw [hwin];refine In.enter (f:=zc2) g.lim rfl rfl ?_)
    | (refine Cmp.ff he ?_)
    | (refine zak.to ih rfl rfl)
    | fail)
 ·obtain rfl:k=r.es.length:=by omega
  have hi:zls r.es nm= -1:=zlb (p:=fun x:Ent=>decide (x.nm=nm)) fun j hj=>hp j hj hj
  rw [hi,yam,if_neg (by decide)]
  repeat' ((conv=>whnf);first
  | refine Yz ?_
   | (exact⟨rfl,rfl,rfl,rfl,rfl,rfl,trivial⟩)
   | fail)
theorem zpt (t:Nat) (ev:List Evt) (r:Rgs) (nm:List UInt8) (hl:r.cs.length<=1000000):Qs E zb4 [.ptr ⟨0,0,0⟩ 1 0,S nm] (mR t ev r) (yks r (zth r.cs nm)):=by
 refine⟨?_⟩
 refine In.enter (f:=zb4) g.lim rfl rfl ?_
 have hml:(r.cs.flatMap Cpl.cells).length=r.cs.length*5:=zag Cpl.cells 5 zop r.cs
 repeat' ((conv=>whnf);first
 | refine Yz ?_
  | (refine In.enter (f:=zbe) g.lim rfl rfl ?_)
  | fail)
 refine zak.to (zak.upP g (fun k=>[(0,.ref ⟨0,0,4⟩ 0 r.cs.length r.cs.length),(1,.fn zcf [] [.ptr ⟨1,3,0⟩ 0 0]),(7,I r.cs.length),(8,I k)]) (fun _=>mR t ev r++[(⟨1,3,0⟩,.cells zab [S nm])]) (fun k=>∀j,(hj:j<k)->(hj':j<r.cs.length)->decide (r.cs[j].nm=nm)=false) r.cs.length (fun k hk hp ih=> ?_) 0 (Nat.zero_le _) (fun j h _=>absurd h (Nat.not_lt_zero _))) rfl rfl
 by_cases hlt:k<r.cs.length
 ·have hwin:win (r.cs.flatMap Cpl.cells) ((0+((k:Nat):Int).toNat)*5) 5=r.cs[k].cells:=by
   rw [Nat.zero_add,Int.toNat_natCast]
   exact zb9 Cpl.cells 5 zop r.cs k hlt
  by_cases he:r.cs[k].nm=nm
  ·have hi:zth r.cs nm=k:=zn9 (p:=fun x:Cpl=>decide (x.nm=nm)) hlt (decide_eq_true he) fun j hj=>hp j hj (by omega)
   rw [hi,yks,if_pos (by omega)]
   repeat' ((conv=>whnf);first
   | refine Yz ?_
    | (rw [hwin];refine In.enter (f:=zcf) g.lim rfl rfl ?_)
    | (refine Cmp.tt he ?_)
    | (exact⟨rfl,rfl,rfl,rfl,rfl,rfl,trivial⟩)
    | fail)
  ·have ih:=ih hlt fun j hj hj'=>by
    by_cases e:j=k
    ·subst e;exact decide_eq_false he
    ·exact hp j (by omega) hj'
   repeat' ((conv=>whnf);first
   | refine Yz ?_
    | (rw [hwin];refine In.enter (f:=zcf) g.lim rfl rfl ?_)
    | (refine Cmp.ff he ?_)
    | (refine zak.to ih rfl rfl)
    | fail)
 ·obtain rfl:k=r.cs.length:=by omega
  have hi:zth r.cs nm= -1:=zlb (p:=fun x:Cpl=>decide (x.nm=nm)) fun j hj=>hp j hj hj
  rw [hi,yks,if_neg (by decide)]
  repeat' ((conv=>whnf);first
  | refine Yz ?_
   | (exact⟨rfl,rfl,rfl,rfl,rfl,rfl,trivial⟩)
   | fail)
end
inductive Ch (es:List Ent):Nat->List Ent->Prop
 | stop (k:Nat) (hk:k<es.length) (h:zls es es[k].bs= -1):Ch es k [es[k]]
 | step (k j:Nat) (tl:List Ent) (hk:k<es.length) (h:zls es es[k].bs=j) (ht:Ch es j tl):Ch es k (es[k]::tl)
def z4k (rs:List Rmv) (nm:List UInt8) (kn:Int):Bool:=rs.any fun z=>decide (z.en=nm/\z.kn<=kn)
abbrev mC (t:Nat) (ev:List Evt) (r:Rgs) (x:Ent) (kn:Int):Mem:=mR t ev r++[(⟨1,3,0⟩,.cells za3 [.ptr ⟨0,0,0⟩ 1 0]),(⟨1,4,0⟩,.cells zae [S x.nm,S x.kd,S x.sr,S x.bs,I x.kn,I x.fr,I x.to,I x.mi]),(⟨1,5,0⟩,.cells zbq [I kn])]
section
variable {E : Oracle} (g : Good E)
include g
theorem z3t (t:Nat) (ev:List Evt) (r:Rgs) (x y:Ent) (kn:Int) (hl:r.rs.length<=1000000) {slot:Nat} {K:V->Mem->Prop} (hK:K (B (z4k r.rs y.nm kn)) (mC t ev r x kn)):
  In E 4 zcw [yq9 y,.ptr ⟨1,3,0⟩ 0 0,.ptr ⟨1,5,0⟩ 0 0] (mC t ev r x kn) fun v m'=>zv0 ⟨3,4⟩ slot true v m' K:=by
 refine In.enter (f:=zcw) g.lim rfl rfl ?_
 have hml:(r.rs.flatMap Rmv.cells).length=r.rs.length*2:=zag Rmv.cells 2 yiz r.rs
 repeat' ((conv=>whnf);first
 | refine Yz ?_
  | (refine In.enter (f:=zbg) g.lim rfl rfl ?_)
  | (refine In.enter (f:=zbo) g.lim rfl rfl ?_)
  | fail)
 refine zak.to (zak.upP g (fun k=>[(0,.ref ⟨0,0,3⟩ 0 r.rs.length r.rs.length),(1,.fn zbw [] [.ptr ⟨4,3,0⟩ 0 0,.ptr ⟨1,5,0⟩ 0 0]),(7,I r.rs.length),(8,I k)]) (fun _=>mC t ev r x kn++[(⟨4,3,0⟩,.cells zae [S y.nm,S y.kd,S y.sr,S y.bs,I y.kn,I y.fr,I y.to,I y.mi])])
  (fun k=>∀j,(hj:j<r.rs.length)->j<k->¬(r.rs[j].en=y.nm/\r.rs[j].kn<=kn)) r.rs.length (fun k hk hp ih=> ?_) 0 (Nat.zero_le _) (fun j _ h=>absurd h (Nat.not_lt_zero _))) rfl rfl
 by_cases hlt:k<r.rs.length
 ·have hwin:win (r.rs.flatMap Rmv.cells) ((0+((k:Nat):Int).toNat)*2) 2=r.rs[k].cells:=by
   rw [Nat.zero_add,Int.toNat_natCast]
   exact zb9 Rmv.cells 2 yiz r.rs k hlt
  by_cases he:r.rs[k].en=y.nm
  ·by_cases hn:r.rs[k].kn<=kn
   ·have hb:z4k r.rs y.nm kn=true:=List.any_eq_true.2 ⟨_,List.getElem_mem hlt,decide_eq_true ⟨he,hn⟩⟩
    rw [hb] at hK
    repeat' ((conv=>whnf);first
    | refine Yz ?_
     | (rw [hwin];refine In.enter (f:=zbw) g.lim rfl rfl ?_)
     | (refine Cmp.tt he ?_)
     | (exact hK)
     | fail)
   ·have ih:=ih hlt fun j hj hjk=>by
     by_cases e:j=k
     ·subst e;exact fun h=>hn h.2
     ·exact hp j hj (by omega)
    repeat' ((conv=>whnf);first
    | refine Yz ?_
     | (rw [hwin];refine In.enter (f:=zbw) g.lim rfl rfl ?_)
     | (refine Cmp.tt he ?_)
     | (refine zak.to ih rfl rfl)
     | fail)
  ·have ih:=ih hlt fun j hj hjk=>by
    by_cases e:j=k
    ·subst e;exact fun h=>he h.1
    ·exact hp j hj (by omega)
   repeat' ((conv=>whnf);first
   | refine Yz ?_
    | (rw [hwin];refine In.enter (f:=zbw) g.lim rfl rfl ?_)
    | (refine Cmp.ff he ?_)
    | (refine zak.to ih rfl rfl)
    | fail)
 ·obtain rfl:k=r.rs.length:=by omega
  have hb:z4k r.rs y.nm kn=false:=by
   unfold z4k
   rw [List.any_eq_false]
   intro z hz
   obtain⟨j,hj,rfl⟩:=List.mem_iff_getElem.1 hz
   simpa using hp j hj hj
  rw [hb] at hK
  repeat' ((conv=>whnf);first
  | refine Yz ?_
   | (exact hK)
   | fail)
theorem yln (t:Nat) (ev:List Evt) (r:Rgs) (kn:Int) (hr:r.rs.length<=1000000) (hl:r.es.length<=1000000) (k:Nat) (hk:k<r.es.length) (c:List Ent) (hc:Ch r.es k c) (hcl:c.length<=1000000):
  Qs E zb5 [.ptr ⟨0,0,0⟩ 1 0,yq9 r.es[k],I kn] (mR t ev r) (B (decide (r.es[k].kn<=kn)&& !c.any fun y=>z4k r.rs y.nm kn)):=by
 refine⟨?_⟩
 generalize hx:r.es[k]=x at *
 have hml:(r.es.flatMap Ent.cells).length=r.es.length*8:=zag Ent.cells 8 zj5 r.es
 refine In.enter (f:=zb5) g.lim rfl rfl ?_
 repeat' ((conv=>whnf);first
 | refine Yz ?_
  | (refine In.enter (f:=zdo) g.lim rfl rfl ?_)
  | fail)
 refine zak.to (zak.by (σ:=List Ent×Ent×Nat×List Ent) g (fun u=>(∃hk:u.2.2.1<r.es.length,r.es[u.2.2.1]=u.2.1)/\Ch r.es u.2.2.1 u.2.2.2/\∃pre,u.1=pre++[u.2.1]/\pre++u.2.2.2=c)
  (fun u=>[(0,.ptr ⟨0,0,0⟩ 1 0),(5,.ref ⟨2,8,0⟩ 0 u.1.length u.1.length)])
  (fun u=>mC t ev r x kn++[(⟨2,3,0⟩,.cells zae [S x.nm,S x.kd,S x.sr,S x.bs,I x.kn,I x.fr,I x.to,I x.mi]),(⟨2,4,0⟩,.row false zae 8 0 []),(⟨2,8,0⟩,.row false zae 8 u.1.length (u.1.flatMap Ent.cells))])
  (fun u=>u.2.2.2.length) ?_ ([x],x,k,c) ⟨⟨hk,hx⟩,hc,[],rfl,rfl⟩) rfl rfl
 clear hc hx
 rintro⟨out,y,k,tl⟩ ⟨⟨hk,hy⟩,hc,pre,h1,h2⟩ ih
 dsimp only at hk hy hc h1 h2 ih ⊢
 have hol:out.length=pre.length+1:=by rw [h1];simp
 have hlast:out[pre.length]'(by omega)=y:=by simp [h1]
 have hq:=zw1 g t ev r y.bs hl
 have hcl2:pre.length+tl.length<=1000000:=by rw [<-List.length_append,h2];exact hcl
 have hmo:(out.flatMap Ent.cells).length=out.length*8:=zag Ent.cells 8 zj5 out
 cases hc with
 | stop k hk' h=>
  rw [hy] at h h2
  rw [h,yam,if_neg (by decide)] at hq
  obtain rfl:out=c:=h1.trans h2
  repeat' ((conv=>whnf);first
  | refine Yz ?_
   | (refine zfa.rec0 zj5 pre.length (by omega) (by omega) rfl ?_;rw [hlast])
   | (refine zj6.of (r':= .d .nilp) isR rfl rfl rfl rfl hq rfl rfl rfl ?_)
   | (rw [if_pos ⟨rfl,rfl⟩];refine In.enter (f:=zaw) g.lim rfl rfl ?_)
   | (refine In.enter (f:=zau) g.lim rfl rfl ?_)
   | fail)
  refine zak.to (zak.upP g (fun k=>[(0,.d (.list out.length (out.flatMap Ent.cells))),(1,.fn zcw [] [.ptr ⟨1,3,0⟩ 0 0,.ptr ⟨1,5,0⟩ 0 0]),(7,I out.length),(8,I k)]) (fun _=>mC t ev r x kn)
   (fun k=>∀j,(hj:j<out.length)->j<k->z4k r.rs out[j].nm kn=false) out.length (fun m hm hp ihm=> ?_) 0 (Nat.zero_le _) (fun j _ h=>absurd h (Nat.not_lt_zero _))) rfl rfl
  by_cases hlt:m<out.length
  ·have hwin:win (out.flatMap Ent.cells) (((m:Nat):Int).toNat*8) 8=out[m].cells:=by
    rw [Int.toNat_natCast]
    exact zb9 Ent.cells 8 zj5 out m hlt
   cases hb:z4k r.rs out[m].nm kn with
   | true=>
    have ha:(out.any fun y=>z4k r.rs y.nm kn)=true:=List.any_eq_true.2 ⟨_,List.getElem_mem hlt,hb⟩
    rw [ha,Bool.not_true,Bool.and_false]
    by_cases hkn:x.kn<=kn
    all_goals repeat' ((conv=>whnf);first
    | refine Yz ?_
     | (rw [hwin];refine z3t g t ev r x out[m] kn hr (slot:=16) ?_;rw [hb])
     | (exact⟨rfl,rfl,rfl,rfl,rfl,rfl,trivial⟩)
     | fail)
   | false=>
    have ihm:=ihm hlt fun j hj hjm=>by
     by_cases e:j=m
     ·subst e;exact hb
     ·exact hp j hj (by omega)
    repeat' ((conv=>whnf);first
    | refine Yz ?_
     | (rw [hwin];refine z3t g t ev r x out[m] kn hr (slot:=16) ?_;rw [hb])
     | (refine zak.to ihm rfl rfl)
     | fail)
  ·obtain rfl:m=out.length:=by omega
   have ha:(out.any fun y=>z4k r.rs y.nm kn)=false:=by
    rw [List.any_eq_false]
    intro z hz
    obtain⟨j,hj,rfl⟩:=List.mem_iff_getElem.1 hz
    rw [hp j hj hj];decide
   rw [ha,Bool.not_false,Bool.and_true]
   by_cases hkn:x.kn<=kn
   ·rw [decide_eq_true hkn]
    repeat' ((conv=>whnf);first
    | refine Yz ?_
     | (exact⟨rfl,rfl,rfl,rfl,rfl,rfl,trivial⟩)
     | fail)
   ·rw [decide_eq_false hkn]
    repeat' ((conv=>whnf);first
    | refine Yz ?_
     | (exact⟨rfl,rfl,rfl,rfl,rfl,rfl,trivial⟩)
     | fail)
 | step k j tl hk' h ht=>
  rw [hy] at h h2
  rw [h,yam,if_pos (by omega)] at hq
  obtain⟨hj,hj'⟩:∃hj:j<r.es.length,True:=by
   cases ht with
   | stop _ hj _=>exact⟨hj,trivial⟩
   | step _ _ _ hj _ _=>exact⟨hj,trivial⟩
  have hwin:win (r.es.flatMap Ent.cells) ((0+((j:Nat):Int).toNat)*8) 8=r.es[j].cells:=by
   rw [Nat.zero_add,Int.toNat_natCast]
   exact zb9 Ent.cells 8 zj5 r.es j hj
  simp only [List.length_cons] at hcl2
  have ih:=ih (out++[r.es[j]],r.es[j],j,tl) ⟨⟨hj,rfl⟩,ht,out,rfl,by rw [h1,List.append_assoc];exact h2⟩ (by simp)
  simp only [List.length_append,List.length_cons,List.length_nil,List.flatMap_append,List.flatMap_cons,List.flatMap_nil] at ih
  repeat' ((conv=>whnf);first
  | refine Yz ?_
   | (refine zfa.rec0 zj5 pre.length (by omega) (by omega) rfl ?_;rw [hlast])
   | (refine zj6.of (r':= .ptr ⟨0,0,2⟩ ((0+((j:Nat):Int).toNat)*8) r.es.length) isR rfl rfl rfl rfl hq rfl rfl rfl ?_)
   | (rw [hwin])
   | (refine zbd.mk ⟨rfl,rfl,rfl,rfl,rfl,rfl,by dsimp only;omega,by omega⟩ ?_)
   | (refine zak.to ih rfl rfl)
   | fail)
end
def chF:Nat->List Ent->Ent->List Ent
 | 0,_,x=>[x]
 | n+1,es,x=>if h:0<=zls es x.bs/\(zls es x.bs).toNat<es.length then x::chF n es es[(zls es x.bs).toNat] else [x]
def ypn (es:List Ent):Prop:=∀k,(hk:k<es.length)->zls es es[k].bs<k
theorem zfp (es:List Ent) (nm:List UInt8):(zls es nm= -1/\∀j,(hj:j<es.length)->es[j].nm≠nm)\/∃k,∃hk:k<es.length,zls es nm=k/\es[k].nm=nm/\∀j,(hj:j<k)->(es[j]'(by omega)).nm≠nm:=by
 rcases z3s (fun x:Ent=>decide (x.nm=nm)) es with⟨h1,h2⟩|⟨k,hk,h1,h2,h3⟩
 ·exact .inl ⟨h1,fun j hj=>of_decide_eq_false (h2 j hj)⟩
 ·exact .inr ⟨k,hk,h1,of_decide_eq_true h2,fun j hj=>of_decide_eq_false (h3 j hj)⟩
theorem zmn (cs:List Cpl) (nm:List UInt8):zth cs nm= -1\/∃k,∃hk:k<cs.length,zth cs nm=k/\cs[k].nm=nm:=by
 rcases z3s (fun x:Cpl=>decide (x.nm=nm)) cs with⟨h1,_⟩|⟨k,hk,h1,h2,_⟩
 ·exact .inl h1
 ·exact .inr ⟨k,hk,h1,of_decide_eq_true h2⟩
theorem zuq {es:List Ent} (hb:ypn es):∀(n k:Nat),k<=n->(hk:k<es.length)->Ch es k (chF n es es[k])
 | 0,k,hn,hk=>by
  obtain rfl:k=0:=by omega
  have h:=hb 0 hk
  rcases zfp es es[0].bs with⟨h1,_⟩|⟨j,_,h1,_⟩
  ·exact .stop 0 hk h1
  ·omega
 | n+1,k,hn,hk=>by
  have h:=hb k hk
  rcases zfp es es[k].bs with⟨h1,_⟩|⟨j,hj,h1,_⟩
  ·unfold chF
   rw [dif_neg (by omega)]
   exact .stop k hk h1
  ·have e:(zls es es[k].bs).toNat=j:=by omega
   unfold chF
   rw [dif_pos ⟨by omega,by omega⟩]
   simp only [e]
   exact .step k j _ hk h1 (zuq hb n j (by omega) hj)
theorem yaj (es:List Ent):∀(n:Nat) (x:Ent),(chF n es x).length<=n+1
 | 0,x=>by simp [chF]
 | n+1,x=>by
  unfold chF
  split
  ·have:=yaj es n es[(zls es x.bs).toNat]
   simp only [List.length_cons];omega
  ·simp
theorem Ch.det {es:List Ent} {k:Nat} {a b:List Ent} (ha:Ch es k a) (hb:Ch es k b):a=b:=by
 induction ha generalizing b with
 | stop k hk h=>
  cases hb with
  | stop _ _ _=>rfl
  | step _ j _ _ h' _=>rw [h] at h';omega
 | step k j tl hk h ht ih=>
  cases hb with
  | stop _ _ h'=>rw [h] at h';omega
  | step _ j' tl' _ h' ht'=>
   rw [h] at h'
   obtain rfl:j=j':=by omega
   rw [ih ht']
def zxa (r:Rgs) (x:Ent) (kn:Int):Bool:=decide (x.kn<=kn)&& !(chF r.es.length r.es x).any fun y=>z4k r.rs y.nm kn
structure OkR (r:Rgs):Prop where
 bs:∀k,(hk:k<r.es.length)->r.es[k].bs=[]\/∃j:Nat,j<k/\zls r.es r.es[k].bs=j
 nm:∀x∈r.es,x.nm≠[]
 asc:r.es.Pairwise fun a b=>a.kn<=b.kn
 top:∀x∈r.es,x.kn<=r.kn
 mi:∀x∈r.es,0<=x.mi/\x.mi<=1440
 es:r.es.length<=256
 rs:r.rs.length<=1000
 cs:r.cs.length<=64
theorem z0m {es:List Ent} (h:∀x∈es,x.nm≠[]):zls es []= -1:=by
 rcases zfp es [] with⟨h1,_⟩|⟨j,hj,_,h2,_⟩
 ·exact h1
 ·exact absurd h2 (h _ (List.getElem_mem hj))
theorem OkR.bases {r:Rgs} (h:OkR r):ypn r.es:=by
 intro k hk
 rcases h.bs k hk with e|⟨j,hj,e⟩
 ·rw [e,z0m h.nm];omega
 ·omega
theorem OkR.le {r:Rgs} (h:OkR r) {i j:Nat} (hij:i<=j) (hj:j<r.es.length):(r.es[i]'(by omega)).kn<=r.es[j].kn:=by
 by_cases e:i=j
 ·subst e;exact Int.le_refl _
 ·exact List.pairwise_iff_getElem.1 h.asc i j (by omega) hj (by omega)
theorem ykr {r:Rgs} (ho:OkR r) {k:Nat} (hk:k<r.es.length) (h:r.es[k].bs=[]) (kn:Int):zxa r r.es[k] kn=(decide (r.es[k].kn<=kn)&& !z4k r.rs r.es[k].nm kn):=by
 have h1:=zuq ho.bases r.es.length k (by omega) hk
 have h2:Ch r.es k [r.es[k]]:= .stop k hk (by rw [h];exact z0m ho.nm)
 unfold zxa
 rw [h1.det h2]
 simp
theorem ykq {r:Rgs} (ho:OkR r) {k j:Nat} (hk:k<r.es.length) (hj:j<k) (h:zls r.es r.es[k].bs=j) (kn:Int):zxa r r.es[k] kn=(decide (r.es[k].kn<=kn)&& !z4k r.rs r.es[k].nm kn&&zxa r (r.es[j]'(by omega)) kn):=by
 have hjl:j<r.es.length:=by omega
 have h1:=zuq ho.bases r.es.length k (by omega) hk
 have h3:=zuq ho.bases r.es.length j (by omega) hjl
 have h2:Ch r.es k (r.es[k]::chF r.es.length r.es r.es[j]):= .step k j _ hk h h3
 unfold zxa
 rw [h1.det h2]
 have:=ho.le (Nat.le_of_lt hj) hk
 simp only [List.any_cons,Bool.not_or]
 by_cases hkn:r.es[k].kn<=kn
 ·have e:decide (r.es[j].kn<=kn)=true:=decide_eq_true (by omega)
  rw [decide_eq_true hkn,e]
  simp
 ·rw [decide_eq_false hkn]
  simp
def ypv:Ent:=⟨[],[],[],[],0,0,0,0⟩
def ycs:Cpl:=⟨[],[],0,false,false⟩
def zu8 (r:Rgs) (nm:List UInt8) (kn:Int):Int:=if zls r.es nm<0 then 10 else if zxa r (r.es.getD (zls r.es nm).toNat ypv) kn then 0 else 20
theorem zu9 {r:Rgs} {nm:List UInt8} (h:zls r.es nm= -1) (kn:Int):zu8 r nm kn=10:=by
 unfold zu8
 rw [h,if_pos (by decide)]
theorem zq7 {r:Rgs} {nm:List UInt8} {k:Nat} (hk:k<r.es.length) (h:zls r.es nm=k) (kn:Int):zu8 r nm kn=if zxa r r.es[k] kn then 0 else 20:=by
 unfold zu8
 rw [h,if_neg (by omega),Int.toNat_natCast]
 have:r.es.getD k ypv=r.es[k]:=by simp [List.getD,hk]
 rw [this]
def yqa (r:Rgs) (nm:List UInt8):Int:=zar [if 0<=zls r.es nm then 9 else 0,if 256<=r.es.length then 5 else 0]
def zqq (r:Rgs) (fol:Bool) (nm b:List UInt8) (kn f t m:Int):Int:=
 if yqa r nm≠0 then yqa r nm
 else if fol=true/\zu8 r b kn≠0 then zu8 r b kn
 else zar [if 99999<f\/99999<t\/1440<m then 3 else 0,if t<f then 11 else 0]
def z7m (r:Rgs) (nm:List UInt8) (kn:Int):Int:=if zls r.es nm<0 then 10 else zar [if(r.es.getD (zls r.es nm).toNat ypv).kd=zwv then 0 else 13,zu8 r nm kn]
def z3d (r:Rgs) (nm en:List UInt8) (kn:Int):Int:=zar [if 0<=zth r.cs nm then 9 else 0,if 64<=r.cs.length then 5 else 0,zu8 r en kn]
def zp2 (r:Rgs) (nm:List UInt8) (v:Int):Int:=if zth r.cs nm<0 then 10 else zar [if(r.cs.getD (zth r.cs nm).toNat ycs).cl then 20 else 0,if 1<v then 3 else 0]
def nmN (e:Evt) (i:Nat):List UInt8:=e.ns.getD i []
def vlN (e:Evt) (i:Nat):Int:=e.vs.getD i 0
def yha (k:List UInt8):Bool:=decide (k=zsn)||decide (k=zwv)||decide (k=zb3)
def z18 (r:Rgs) (e:Evt):Int:=
 if yha e.ki then zqq r (decide (e.ki=zb3)) (nmN e 0) (nmN e 2) (vlN e 0) (vlN e 1) (vlN e 2) (vlN e 3)
 else if e.ki=zdk then z7m r (nmN e 0) (vlN e 0)
 else if e.ki=zco then z3d r (nmN e 0) (nmN e 1) (vlN e 0)
 else zp2 r (nmN e 0) (vlN e 1)
def yms (r:Rgs) (n:Nat) (e:Evt):Int:=zar [if e.nu=n+1 then 0 else 11,if vlN e 0<r.kn then 19 else 0,if 99999<vlN e 0 then 3 else 0]
def z12 (r:Rgs) (n:Nat) (e:Evt):Int:=if yms r n e≠0 then yms r n e else z18 r e
def z8f (e:Evt):Ent:=⟨nmN e 0,e.ki,nmN e 1,if e.ki=zb3 then nmN e 2 else [],vlN e 0,vlN e 1,vlN e 2,vlN e 3⟩
def zp8 (r:Rgs) (e:Evt):Rgs:=
 if yha e.ki then {r with kn:=vlN e 0,es:=r.es++[z8f e]}
 else if e.ki=zdk then {r with kn:=vlN e 0,rs:=r.rs++[⟨nmN e 0,vlN e 0⟩]}
 else if e.ki=zco then {r with kn:=vlN e 0,cs:=r.cs++[⟨nmN e 0,nmN e 1,vlN e 0,false,false⟩]}
 else
  let c:=r.cs.getD (zth r.cs (nmN e 0)).toNat ycs
  {r with kn:=vlN e 0,cs:=r.cs.set (zth r.cs (nmN e 0)).toNat {c with cl:=true,up:=decide (vlN e 1=1)},rs:=if vlN e 1=1 then r.rs++[⟨c.en,vlN e 0⟩] else r.rs}
def zie (r:Rgs) (n:Nat) (e:Evt):Int:=if zi8 e≠0 then zi8 e else z12 r n e
def rg0:Rgs:=⟨0,[],[],[]⟩
def zeh:Rgs->Nat->List Evt->Rgs×Nat×Int
 | r,_,[]=>(r,0,0)
 | r,n,e::l=>if zie r n e≠0 then(rg0,n+1,zie r n e) else zeh (zp8 r e) (n+1) l
theorem z0c {e:Evt} (h:zi8 e=0):zet e.ki=true/\e.ns.length=zca e.ki/\e.vs.length=zjn e.ki/\(∀s∈e.ns,zbi s=true)/\(∀v∈e.vs,0<=v/\v<=999999999)/\e.tx=[]/\1<=e.nu/\e.nu<=1000:=by
 unfold zi8 at h
 rw [zhn] at h
 have h1:=h (rng e.nu 1 1000) (by simp)
 have h2:=h (if !zet e.ki then 13 else 0) (by simp)
 have h3:=h (if e.ns.length≠zca e.ki\/e.vs.length≠zjn e.ki then 2 else 0) (by simp)
 have h4:=h (if znv e.ns then 8 else 0) (by simp)
 have h5:=h (if far e.vs then 3 else 0) (by simp)
 have h6:=h (if e.tx≠[] then 1 else 0) (by simp)
 refine⟨?_,?_,?_,?_,?_,?_,?_⟩
 ·cases hk:zet e.ki
  ·rw [hk] at h2;simp at h2
  ·rfl
 ·exact Decidable.byContradiction fun hn=>by rw [if_pos (.inl hn)] at h3;omega
 ·exact Decidable.byContradiction fun hn=>by rw [if_pos (.inr hn)] at h3;omega
 ·intro s hs
  have:znv e.ns=false:=by cases hh:znv e.ns with|false=>rfl|true=>rw [hh] at h4;simp at h4
  unfold znv at this
  rw [List.any_eq_false] at this
  have:=this s hs
  simpa using this
 ·intro v hv
  have:far e.vs=false:=by cases hh:far e.vs with|false=>rfl|true=>rw [hh] at h5;simp at h5
  unfold far at this
  rw [List.any_eq_false] at this
  have:=this v hv
  simp only [ykz,decide_eq_true_eq] at this
  omega
 ·exact Decidable.byContradiction fun hn=>by rw [if_pos hn] at h6;omega
 ·unfold rng at h1
  split at h1
  ·omega
  ·omega
theorem z7i {r:Rgs} {n:Nat} {e:Evt} (h:z12 r n e=0):e.nu=n+1/\r.kn<=vlN e 0/\vlN e 0<=99999/\z18 r e=0:=by
 unfold z12 at h
 split at h
 ·rename_i h1;exact absurd h h1
 ·rename_i h1
  have h1:=Decidable.byContradiction h1
  rw [yms,zhn] at h1
  have a:=h1 (if e.nu=n+1 then 0 else 11) (by simp)
  have b:=h1 (if vlN e 0<r.kn then 19 else 0) (by simp)
  have c:=h1 (if 99999<vlN e 0 then 3 else 0) (by simp)
  refine⟨?_,?_,?_,h⟩
  ·exact Decidable.byContradiction fun hn=>by rw [if_neg hn] at a;omega
  ·exact Int.not_lt.1 fun hn=>by rw [if_pos hn] at b;omega
  ·exact Int.not_lt.1 fun hn=>by rw [if_pos hn] at c;omega
theorem z1x {r:Rgs} {n:Nat} {e:Evt} (h:zie r n e=0):zi8 e=0/\z12 r n e=0:=by
 unfold zie at h
 split at h
 ·rename_i h1;exact absurd h h1
 ·rename_i h1;exact⟨Decidable.byContradiction h1,h⟩
theorem zzc {r:Rgs} {fol:Bool} {nm b:List UInt8} {kn f t m:Int} (h:zqq r fol nm b kn f t m=0):
  zls r.es nm= -1/\r.es.length<256/\(fol=true->zu8 r b kn=0)/\f<=99999/\t<=99999/\m<=1440/\f<=t:=by
 unfold zqq at h
 split at h
 ·rename_i h1;exact absurd h h1
 ·rename_i h1
  have h1:=Decidable.byContradiction h1
  rw [yqa,zhn] at h1
  have a:=h1 (if 0<=zls r.es nm then 9 else 0) (by simp)
  have b':=h1 (if 256<=r.es.length then 5 else 0) (by simp)
  split at h
  ·rename_i h2;exact absurd h h2.2
  ·rename_i h2
   rw [zhn] at h
   have c:=h (if 99999<f\/99999<t\/1440<m then 3 else 0) (by simp)
   have d:=h (if t<f then 11 else 0) (by simp)
   refine⟨?_,?_,?_,?_⟩
   ·rcases zfp r.es nm with⟨e,_⟩|⟨k,_,e,_⟩
    ·exact e
    ·rw [if_pos (by omega)] at a;omega
   ·exact Nat.lt_of_not_le fun hn=>by rw [if_pos hn] at b';omega
   ·intro hf;exact Decidable.byContradiction fun hn=>h2 ⟨hf,hn⟩
   ·by_cases hc:99999<f\/99999<t\/1440<m
    ·rw [if_pos hc] at c;omega
    ·by_cases hd:t<f
     ·rw [if_pos hd] at d;omega
     ·omega
theorem ycx {es:List Ent} {x:Ent} {nm:List UInt8} {k:Nat} (h:zls es nm=k):zls (es++[x]) nm=k:=by
 rcases zfp es nm with⟨e,_⟩|⟨j,hj,e,h2,h3⟩
 ·omega
 ·obtain rfl:j=k:=by omega
  refine zn9 (p:=fun x:Ent=>decide (x.nm=nm)) (by rw [List.length_append];omega) ?_ ?_
  ·rw [List.getElem_append_left hj];exact decide_eq_true h2
  ·intro i hi
   rw [List.getElem_append_left (by omega)]
   exact decide_eq_false (h3 i hi)
theorem yn9 {s:List UInt8} (h:zbi s=true):s≠[]:=by
 rintro rfl
 exact absurd (of_decide_eq_true h).1 (by decide)
theorem ydt {e:Evt} (h:∀s∈e.ns,zbi s=true) {i:Nat} (hi:i<e.ns.length):zbi (nmN e i)=true:=by
 unfold nmN
 rw [List.getD_eq_getElem?_getD,List.getElem?_eq_getElem hi]
 exact h _ (List.getElem_mem hi)
theorem yq2 {e:Evt} (h:∀v∈e.vs,0<=v/\v<=999999999) (i:Nat):0<=vlN e i/\vlN e i<=999999999:=by
 unfold vlN
 rw [List.getD_eq_getElem?_getD]
 by_cases hi:i<e.vs.length
 ·rw [List.getElem?_eq_getElem hi];exact h _ (List.getElem_mem hi)
 ·rw [List.getElem?_eq_none (by omega)];exact⟨Int.le_refl _,by decide⟩
theorem z3v {k:List UInt8} (h:yha k=true):zjn k=4/\2<=zca k/\(k=zb3->zca k=3):=by
 simp only [yha,Bool.or_eq_true,decide_eq_true_eq] at h
 rcases h with(rfl|rfl)|rfl<;>decide
theorem yoh {r:Rgs} {b:List UInt8} {kn:Int} (h:zu8 r b kn=0):∃j,∃hj:j<r.es.length,zls r.es b=(j:Nat)/\zxa r r.es[j] kn=true:=by
 rcases zfp r.es b with⟨e,_⟩|⟨j,hj,e,_⟩
 ·rw [zu9 e] at h;omega
 ·rw [zq7 hj e] at h
  refine⟨j,hj,e,?_⟩
  cases hc:zxa r r.es[j] kn with
  | true=>rfl
  | false=>rw [hc] at h;simp at h
theorem yh4 {r:Rgs} (ho:OkR r) {n:Nat} {e:Evt} (h:zie r n e=0) (hr:r.rs.length<1000):OkR (zp8 r e):=by
 obtain⟨h1,h2⟩:=z1x h
 obtain⟨a1,a2,a3,a4,a5,_⟩:=z0c h1
 obtain⟨b1,b2,b3,b4⟩:=z7i h2
 unfold z18 at b4
 unfold zp8
 split at b4
 ·rename_i hk
  rw [if_pos hk]
  obtain⟨f1,f2,f3⟩:=z3v hk
  obtain⟨c1,c2,c3,c4,c5,c6,c7⟩:=zzc b4
  have hkn:(z8f e).kn=vlN e 0:=rfl
  refine⟨?_,?_,?_,?_,?_,?_,ho.rs,ho.cs⟩
  ·intro k hk'
   dsimp only at hk' ⊢
   rw [List.length_append,List.length_singleton] at hk'
   by_cases hl:k<r.es.length
   ·rw [List.getElem_append_left hl]
    rcases ho.bs k hl with e1|⟨j,hj,e1⟩
    ·exact .inl e1
    ·exact .inr ⟨j,hj,ycx e1⟩
   ·obtain rfl:k=r.es.length:=by omega
    simp only [List.getElem_concat_length]
    by_cases hf:e.ki=zb3
    ·right
     obtain⟨j,hj,e1,_⟩:=yoh (c3 (decide_eq_true hf))
     refine⟨j,hj,?_⟩
     have:(z8f e).bs=nmN e 2:=if_pos hf
     rw [this]
     exact ycx e1
    ·exact .inl (if_neg hf)
  ·intro x hx
   rcases List.mem_append.1 hx with hx|hx
   ·exact ho.nm x hx
   ·rw [List.mem_singleton] at hx;subst hx
    exact yn9 (ydt a4 (by omega))
  ·rw [List.pairwise_append]
   refine⟨ho.asc,List.pairwise_singleton _ _,fun a ha b hb=> ?_⟩
   rw [List.mem_singleton] at hb;subst hb
   have:=ho.top a ha
   omega
  ·intro x hx
   rcases List.mem_append.1 hx with hx|hx
   ·have:=ho.top x hx
    dsimp only
    omega
   ·rw [List.mem_singleton] at hx;subst hx
    exact Int.le_refl _
  ·intro x hx
   rcases List.mem_append.1 hx with hx|hx
   ·exact ho.mi x hx
   ·rw [List.mem_singleton] at hx;subst hx
    exact⟨(yq2 a5 3).1,c6⟩
  ·dsimp only
   rw [List.length_append,List.length_singleton];omega
 ·rename_i hk
  rw [if_neg hk]
  have htop:∀x∈r.es,x.kn<=vlN e 0:=fun x hx=>Int.le_trans (ho.top x hx) b2
  split at b4
  ·rename_i hk2
   rw [if_pos hk2]
   exact⟨ho.bs,ho.nm,ho.asc,htop,ho.mi,ho.es,by dsimp only;rw [List.length_append,List.length_singleton];omega,ho.cs⟩
  ·rename_i hk2
   rw [if_neg hk2]
   split at b4
   ·rename_i hk3
    rw [if_pos hk3]
    refine⟨ho.bs,ho.nm,ho.asc,htop,ho.mi,ho.es,ho.rs,?_⟩
    dsimp only
    rw [List.length_append,List.length_singleton]
    unfold z3d at b4
    rw [zhn] at b4
    have:=b4 (if 64<=r.cs.length then 5 else 0) (by simp)
    by_cases hc:64<=r.cs.length
    ·rw [if_pos hc] at this;omega
    ·omega
   ·rename_i hk3
    rw [if_neg hk3]
    refine⟨ho.bs,ho.nm,ho.asc,htop,ho.mi,ho.es,?_,?_⟩
    ·dsimp only
     split
     ·rw [List.length_append,List.length_singleton];omega
     ·exact ho.rs
    ·dsimp only
     rw [List.length_set];exact ho.cs
theorem ycl (r:Rgs) (e:Evt):(zp8 r e).rs.length<=r.rs.length+1:=by
 unfold zp8
 split
 ·simp
 ·split
  ·simp
  ·split
   ·simp
   ·dsimp only
    split<;>simp
theorem yh5:OkR rg0:=⟨fun k hk=>absurd hk (Nat.not_lt_zero _),by simp [rg0],List.Pairwise.nil,by simp [rg0],by simp [rg0],by simp [rg0],by simp [rg0],by simp [rg0]⟩
theorem yd6:∀(l:List Evt) (r:Rgs) (n:Nat),OkR r->r.rs.length<=n->n+l.length<=1000->(zeh r n l).2.2=0->OkR (zeh r n l).1
 | [],r,n,ho,_,_,_=>ho
 | e::l,r,n,ho,hr,hl,h=>by
  rw [List.length_cons] at hl
  unfold zeh at h ⊢
  split at h
  ·rename_i h1;exact absurd h h1
  ·rename_i h1
   rw [if_neg h1]
   have:=ycl r e
   exact yd6 l (zp8 r e) (n+1) (yh4 ho (Decidable.byContradiction h1) (by omega)) (by omega) (by omega) h
theorem zh2 (r:Rgs) (n:Nat) (e:Evt) (l:List Evt):zeh r n (e::l)=if zie r n e≠0 then(rg0,n+1,zie r n e) else zeh (zp8 r e) (n+1) l:=rfl
theorem zvh:∀(l:List Evt) (r:Rgs) (n:Nat) (m:List Evt),zeh r n (l++m)=if(zeh r n l).2.2≠0 then zeh r n l else zeh (zeh r n l).1 (n+l.length) m
 | [],r,n,m=>by simp [zeh]
 | e::l,r,n,m=>by
  rw [List.cons_append,zh2,zh2]
  by_cases h:zie r n e≠0
  ·rw [if_pos h,if_pos h]
   exact(if_pos h).symm
  ·rw [if_neg h,if_neg h,zvh l,List.length_cons,show n+(l.length+1)=n+1+l.length by omega]
section
variable {E : Oracle} (g : Good E)
include g
theorem yoj (t:Nat) (ev:List Evt) (r:Rgs) (ho:OkR r) (kn:Int) (k:Nat) (hk:k<r.es.length):Qs E zb5 [.ptr ⟨0,0,0⟩ 1 0,yq9 r.es[k],I kn] (mR t ev r) (B (zxa r r.es[k] kn)):=by
 have h1:=yaj r.es r.es.length r.es[k]
 have h2:=ho.es
 exact yln g t ev r kn (by have:=ho.rs;omega) (by omega) k hk _ (zuq ho.bases r.es.length k (by omega) hk) (by omega)
theorem yih (t:Nat) (ev:List Evt) (r:Rgs) (ho:OkR r) (nm:List UInt8) (kn:Int):Qs E zc1 [.ptr ⟨0,0,0⟩ 1 0,S nm,I kn] (mR t ev r) (I (zu8 r nm kn)):=by
 refine⟨?_⟩
 have hes:=ho.es
 have hml:(r.es.flatMap Ent.cells).length=r.es.length*8:=zag Ent.cells 8 zj5 r.es
 have hq:=zw1 g t ev r nm (by omega)
 refine In.enter (f:=zc1) g.lim rfl rfl ?_
 rcases zfp r.es nm with⟨h,_⟩|⟨k,hk,h,hnm,_⟩
 ·rw [zu9 h]
  rw [h,yam,if_neg (by decide)] at hq
  repeat' ((conv=>whnf);first
  | refine Yz ?_
   | (refine zj6.of (r':= .d .nilp) isR rfl rfl rfl rfl hq rfl rfl rfl ?_)
   | (exact⟨rfl,rfl,rfl,rfl,rfl,rfl,trivial⟩)
   | fail)
 ·rw [zq7 hk h]
  rw [h,yam,if_pos (by omega)] at hq
  have hc:=yoj g t ev r ho kn k hk
  have hwin:win (r.es.flatMap Ent.cells) ((0+((k:Nat):Int).toNat)*8) 8=r.es[k].cells:=by
   rw [Nat.zero_add,Int.toNat_natCast]
   exact zb9 Ent.cells 8 zj5 r.es k hk
  cases hb:zxa r r.es[k] kn with
  | true=>
   rw [hb] at hc
   have hw:Fc E zan [B false,I 20] (I 0):=zrc g false 20
   repeat' ((conv=>whnf);first
   | refine Yz ?_
    | (refine zj6.of (r':= .ptr ⟨0,0,2⟩ ((0+((k:Nat):Int).toNat)*8) r.es.length) isR rfl rfl rfl rfl hq rfl rfl rfl ?_)
    | (rw [hwin];refine zj6.of (r':=B true) isR rfl rfl rfl rfl hc rfl rfl rfl ?_)
    | (apply zah.of;assumption)
    | (exact⟨rfl,rfl,rfl,rfl,rfl,rfl,trivial⟩)
    | fail)
  | false=>
   rw [hb] at hc
   have hw:Fc E zan [B true,I 20] (I 20):=zrc g true 20
   repeat' ((conv=>whnf);first
   | refine Yz ?_
    | (refine zj6.of (r':= .ptr ⟨0,0,2⟩ ((0+((k:Nat):Int).toNat)*8) r.es.length) isR rfl rfl rfl rfl hq rfl rfl rfl ?_)
    | (rw [hwin];refine zj6.of (r':=B false) isR rfl rfl rfl rfl hc rfl rfl rfl ?_)
    | (apply zah.of;assumption)
    | (exact⟨rfl,rfl,rfl,rfl,rfl,rfl,trivial⟩)
    | fail)
theorem zgf (b:Bool) (e:Int):Fc E zan [B b,I e] (I (if b then e else 0)):=zrc g b e
theorem zec (a b:Int):Fc E za2 [.d (.list 2 [DI a,DI b])] (I (zar [a,b])):=zy0 g [a,b] (by simp)
theorem zky (a b c:Int):Fc E za2 [.d (.list 3 [DI a,DI b,DI c])] (I (zar [a,b,c])):=zy0 g [a,b,c] (by simp)
theorem ybo (t:Nat) (ev:List Evt) (r:Rgs) (ho:OkR r) (nu:Int) (ki:List UInt8) (a s:List UInt8) (more:List (List UInt8)) (b:List UInt8) (kn f u m:Int) (tx:List UInt8) (hb:ki=zb3->more=[b]):
  Qs E zay [.ptr ⟨0,0,0⟩ 1 0,Evv ⟨nu,ki,a::s::more,[kn,f,u,m],tx⟩] (mR t ev r) (I (zqq r (decide (ki=zb3)) a b kn f u m)):=by
 refine⟨?_⟩
 have hes:=ho.es
 have hq:=zw1 g t ev r a (by omega)
 have hov:=yih g t ev r ho b kn
 change In E 1 zay [.ptr ⟨0,0,0⟩ 1 0,.d (.agg [DI nu,.str ki,.list (more.length+1+1) (.str a:: .str s::more.map D.str),.list 4 [DI kn,DI f,DI u,DI m],.str tx])] (mR t ev r) _
 refine In.enter (f:=zay) g.lim rfl rfl ?_
 unfold zqq yqa
 generalize hA:zls r.es a=i at *
 have hlist:more.map D.str=more.map D.str:=rfl
 by_cases hi:0<=i
 ·rw [if_pos hi,show zar [9,if 256<=r.es.length then 5 else 0]=9 from rfl,if_pos (by decide)]
  rw [yam,if_pos hi] at hq
  by_cases h256:256<=r.es.length
  all_goals
   repeat' ((conv=>whnf);first
   | refine Yz ?_
    | (refine zj6.of (r':= .ptr ⟨0,0,2⟩ ((0+i.toNat)*8) r.es.length) isR rfl rfl rfl rfl hq rfl rfl rfl ?_)
    | (refine zah.of (zgf g _ _) ?_)
    | (refine zah.of (zec g _ _) ?_)
    | (exact⟨rfl,rfl,rfl,rfl,rfl,rfl,trivial⟩)
   | fail)
 ·rw [if_neg hi]
  rw [yam,if_neg hi] at hq
  by_cases h256:256<=r.es.length
  ·rw [if_pos h256,show zar [0,5]=5 from rfl,if_pos (by decide)]
   repeat' ((conv=>whnf);first
   | refine Yz ?_
    | (refine zj6.of (r':= .d .nilp) isR rfl rfl rfl rfl hq rfl rfl rfl ?_)
    | (refine zah.of (zgf g _ _) ?_)
    | (refine zah.of (zec g _ _) ?_)
    | (exact⟨rfl,rfl,rfl,rfl,rfl,rfl,trivial⟩)
   | fail)
  ·rw [if_neg h256,show zar [0,0]=0 from rfl,if_neg (by decide)]
   by_cases hf:ki=zb3
   ·obtain rfl:=hb hf
    rw [decide_eq_true hf]
    generalize zu8 r b kn=o at *
    by_cases ho0:o=0
    ·rw [if_neg (fun h=>h.2 ho0)]
     by_cases c1:99999<f
     all_goals by_cases c2:99999<u
     all_goals by_cases c3:1440<m
     all_goals by_cases c4:u<f
     all_goals
      repeat' ((conv=>whnf);first
      | refine Yz ?_
       | (refine zj6.of (r':= .d .nilp) isR rfl rfl rfl rfl hq rfl rfl rfl ?_)
       | (refine zj6.of (r':=I o) isR rfl rfl rfl rfl hov rfl rfl rfl ?_)
       | (refine Cmp.tt hf ?_)
       | (refine zah.of (zgf g _ _) ?_)
       | (refine zah.of (zec g _ _) ?_)
       | (exact⟨rfl,rfl,rfl,rfl,rfl,rfl,trivial⟩)
      | (refine⟨?_,rfl,rfl,rfl,rfl,rfl,trivial⟩)
      | (exfalso;omega)
      | fail)
     all_goals simp [c1,c2,c3,c4,zar]
    ·rw [if_pos ⟨rfl,ho0⟩]
     repeat' ((conv=>whnf);first
     | refine Yz ?_
      | (refine zj6.of (r':= .d .nilp) isR rfl rfl rfl rfl hq rfl rfl rfl ?_)
      | (refine zj6.of (r':=I o) isR rfl rfl rfl rfl hov rfl rfl rfl ?_)
      | (refine Cmp.tt hf ?_)
      | (refine Cmp.ff ho0 ?_)
      | (refine zah.of (zgf g _ _) ?_)
      | (refine zah.of (zec g _ _) ?_)
      | (exact⟨rfl,rfl,rfl,rfl,rfl,rfl,trivial⟩)
     | fail)
   ·rw [decide_eq_false hf,if_neg (fun h=>by cases h.1)]
    by_cases c1:99999<f
    all_goals by_cases c2:99999<u
    all_goals by_cases c3:1440<m
    all_goals by_cases c4:u<f
    all_goals
     repeat' ((conv=>whnf);first
     | refine Yz ?_
      | (refine zj6.of (r':= .d .nilp) isR rfl rfl rfl rfl hq rfl rfl rfl ?_)
      | (refine Cmp.ff hf ?_)
      | (refine zah.of (zgf g _ _) ?_)
      | (refine zah.of (zec g _ _) ?_)
      | (exact⟨rfl,rfl,rfl,rfl,rfl,rfl,trivial⟩)
     | (refine⟨?_,rfl,rfl,rfl,rfl,rfl,trivial⟩)
     | (exfalso;omega)
     | fail)
    all_goals simp [c1,c2,c3,c4,zar]
end
section
variable {E : Oracle} (g : Good E)
include g
theorem z6r (t:Nat) (ev:List Evt) (r:Rgs) (ho:OkR r) (nu:Int) (ki a:List UInt8) (kn:Int) (tx:List UInt8):
  Qs E zbc [.ptr ⟨0,0,0⟩ 1 0,Evv ⟨nu,ki,[a],[kn],tx⟩] (mR t ev r) (I (z7m r a kn)):=by
 refine⟨?_⟩
 have hes:=ho.es
 have hml:(r.es.flatMap Ent.cells).length=r.es.length*8:=zag Ent.cells 8 zj5 r.es
 have hq:=zw1 g t ev r a (by omega)
 have hov:=yih g t ev r ho a kn
 change In E 1 zbc [.ptr ⟨0,0,0⟩ 1 0,.d (.agg [DI nu,.str ki,.list 1 [.str a],.list 1 [DI kn],.str tx])] (mR t ev r) _
 refine In.enter (f:=zbc) g.lim rfl rfl ?_
 unfold z7m
 rcases zfp r.es a with⟨h,_⟩|⟨k,hk,h,hnm,_⟩
 ·rw [h,if_pos (by decide)]
  rw [h,yam,if_neg (by decide)] at hq
  repeat' ((conv=>whnf);first
  | refine Yz ?_
   | (refine zj6.of (r':= .d .nilp) isR rfl rfl rfl rfl hq rfl rfl rfl ?_)
   | (exact⟨rfl,rfl,rfl,rfl,rfl,rfl,trivial⟩)
   | fail)
 ·have hgd:r.es.getD k ypv=r.es[k]:=by simp [List.getD,hk]
  rw [h,if_neg (by omega),Int.toNat_natCast,hgd]
  rw [h,yam,if_pos (by omega)] at hq
  generalize zu8 r a kn=o at *
  by_cases hkd:r.es[k].kd=zwv
  ·rw [if_pos hkd]
   repeat' ((conv=>whnf);first
   | refine Yz ?_
    | (refine zj6.of (r':= .ptr ⟨0,0,2⟩ ((0+((k:Nat):Int).toNat)*8) r.es.length) isR rfl rfl rfl rfl hq rfl rfl rfl ?_)
    | (refine zfa.rec0 zj5 k rfl hk rfl ?_)
    | (refine Cmp.ff (fun h=>h hkd) ?_)
    | (refine Cmp.tt hkd ?_)
    | (rw [hnm];refine zj6.of (r':=I o) isR rfl rfl rfl rfl hov rfl rfl rfl ?_)
    | (refine zah.of (zgf g _ _) ?_)
    | (refine zah.of (zec g _ _) ?_)
    | (exact⟨rfl,rfl,rfl,rfl,rfl,rfl,trivial⟩)
    | fail)
  ·rw [if_neg hkd]
   repeat' ((conv=>whnf);first
   | refine Yz ?_
    | (refine zj6.of (r':= .ptr ⟨0,0,2⟩ ((0+((k:Nat):Int).toNat)*8) r.es.length) isR rfl rfl rfl rfl hq rfl rfl rfl ?_)
    | (refine zfa.rec0 zj5 k rfl hk rfl ?_)
    | (refine Cmp.ff hkd ?_)
    | (refine Cmp.tt hkd ?_)
    | (rw [hnm];refine zj6.of (r':=I o) isR rfl rfl rfl rfl hov rfl rfl rfl ?_)
    | (refine zah.of (zgf g _ _) ?_)
    | (refine zah.of (zec g _ _) ?_)
    | (exact⟨rfl,rfl,rfl,rfl,rfl,rfl,trivial⟩)
    | fail)
theorem z1i (t:Nat) (ev:List Evt) (r:Rgs) (ho:OkR r) (nu:Int) (ki a en:List UInt8) (kn:Int) (tx:List UInt8):
  Qs E za4 [.ptr ⟨0,0,0⟩ 1 0,Evv ⟨nu,ki,[a,en],[kn],tx⟩] (mR t ev r) (I (z3d r a en kn)):=by
 refine⟨?_⟩
 have hcs:=ho.cs
 have hq:=zpt g t ev r a (by omega)
 have hov:=yih g t ev r ho en kn
 change In E 1 za4 [.ptr ⟨0,0,0⟩ 1 0,.d (.agg [DI nu,.str ki,.list 2 [.str a,.str en],.list 1 [DI kn],.str tx])] (mR t ev r) _
 refine In.enter (f:=za4) g.lim rfl rfl ?_
 unfold z3d
 generalize zu8 r en kn=o at *
 generalize zth r.cs a=i at *
 by_cases hi:0<=i
 ·rw [if_pos hi]
  rw [yks,if_pos hi] at hq
  by_cases h64:64<=r.cs.length
  ·rw [if_pos h64]
   repeat' ((conv=>whnf);first
   | refine Yz ?_
    | (refine zj6.of (r':= .ptr ⟨0,0,4⟩ ((0+i.toNat)*5) r.cs.length) isR rfl rfl rfl rfl hq rfl rfl rfl ?_)
    | (refine zj6.of (r':=I o) isR rfl rfl rfl rfl hov rfl rfl rfl ?_)
    | (refine zah.of (zgf g _ _) ?_)
    | (refine zah.of (zky g _ _ _) ?_)
    | (exact⟨rfl,rfl,rfl,rfl,rfl,rfl,trivial⟩)
    | fail)
  ·rw [if_neg h64]
   repeat' ((conv=>whnf);first
   | refine Yz ?_
    | (refine zj6.of (r':= .ptr ⟨0,0,4⟩ ((0+i.toNat)*5) r.cs.length) isR rfl rfl rfl rfl hq rfl rfl rfl ?_)
    | (refine zj6.of (r':=I o) isR rfl rfl rfl rfl hov rfl rfl rfl ?_)
    | (refine zah.of (zgf g _ _) ?_)
    | (refine zah.of (zky g _ _ _) ?_)
    | (exact⟨rfl,rfl,rfl,rfl,rfl,rfl,trivial⟩)
    | fail)
 ·rw [if_neg hi]
  rw [yks,if_neg hi] at hq
  by_cases h64:64<=r.cs.length
  ·rw [if_pos h64]
   repeat' ((conv=>whnf);first
   | refine Yz ?_
    | (refine zj6.of (r':= .d .nilp) isR rfl rfl rfl rfl hq rfl rfl rfl ?_)
    | (refine zj6.of (r':=I o) isR rfl rfl rfl rfl hov rfl rfl rfl ?_)
    | (refine zah.of (zgf g _ _) ?_)
    | (refine zah.of (zky g _ _ _) ?_)
    | (exact⟨rfl,rfl,rfl,rfl,rfl,rfl,trivial⟩)
    | fail)
  ·rw [if_neg h64]
   repeat' ((conv=>whnf);first
   | refine Yz ?_
    | (refine zj6.of (r':= .d .nilp) isR rfl rfl rfl rfl hq rfl rfl rfl ?_)
    | (refine zj6.of (r':=I o) isR rfl rfl rfl rfl hov rfl rfl rfl ?_)
    | (refine zah.of (zgf g _ _) ?_)
    | (refine zah.of (zky g _ _ _) ?_)
    | (exact⟨rfl,rfl,rfl,rfl,rfl,rfl,trivial⟩)
    | fail)
theorem z2z (t:Nat) (ev:List Evt) (r:Rgs) (ho:OkR r) (nu:Int) (ki a:List UInt8) (kn v:Int) (tx:List UInt8):
  Qs E za6 [.ptr ⟨0,0,0⟩ 1 0,Evv ⟨nu,ki,[a],[kn,v],tx⟩] (mR t ev r) (I (zp2 r a v)):=by
 refine⟨?_⟩
 have hcs:=ho.cs
 have hml:(r.cs.flatMap Cpl.cells).length=r.cs.length*5:=zag Cpl.cells 5 zop r.cs
 have hq:=zpt g t ev r a (by omega)
 change In E 1 za6 [.ptr ⟨0,0,0⟩ 1 0,.d (.agg [DI nu,.str ki,.list 1 [.str a],.list 2 [DI kn,DI v],.str tx])] (mR t ev r) _
 refine In.enter (f:=za6) g.lim rfl rfl ?_
 unfold zp2
 rcases zmn r.cs a with h|⟨k,hk,h,hnm⟩
 ·rw [h,if_pos (by decide)]
  rw [h,yks,if_neg (by decide)] at hq
  repeat' ((conv=>whnf);first
  | refine Yz ?_
   | (refine zj6.of (r':= .d .nilp) isR rfl rfl rfl rfl hq rfl rfl rfl ?_)
   | (exact⟨rfl,rfl,rfl,rfl,rfl,rfl,trivial⟩)
   | fail)
 ·have hgd:r.cs.getD k ycs=r.cs[k]:=by simp [List.getD,hk]
  rw [h,if_neg (by omega),Int.toNat_natCast,hgd]
  rw [h,yks,if_pos (by omega)] at hq
  by_cases hv:1<v
  ·rw [if_pos hv]
   repeat' ((conv=>whnf);first
   | refine Yz ?_
    | (refine zj6.of (r':= .ptr ⟨0,0,4⟩ ((0+((k:Nat):Int).toNat)*5) r.cs.length) isR rfl rfl rfl rfl hq rfl rfl rfl ?_)
    | (refine zfa.rec0 zop k rfl hk rfl ?_)
    | (refine zah.of (zgf g _ _) ?_)
    | (refine zah.of (zec g _ _) ?_)
    | (exact⟨rfl,rfl,rfl,rfl,rfl,rfl,trivial⟩)
    | fail)
  ·rw [if_neg hv]
   repeat' ((conv=>whnf);first
   | refine Yz ?_
    | (refine zj6.of (r':= .ptr ⟨0,0,4⟩ ((0+((k:Nat):Int).toNat)*5) r.cs.length) isR rfl rfl rfl rfl hq rfl rfl rfl ?_)
    | (refine zfa.rec0 zop k rfl hk rfl ?_)
    | (refine zah.of (zgf g _ _) ?_)
    | (refine zah.of (zec g _ _) ?_)
    | (exact⟨rfl,rfl,rfl,rfl,rfl,rfl,trivial⟩)
    | fail)
end
abbrev mH (ev:List Evt) (r:Rgs):Mem:=[(⟨0,12,0⟩,.row false zac 5 ev.length (ev.flatMap Evt.cells)),(⟨0,12,1⟩,.row false zae 8 r.es.length (r.es.flatMap Ent.cells)),(⟨0,12,2⟩,.row false zam 2 r.rs.length (r.rs.flatMap Rmv.cells)),(⟨0,12,3⟩,.row true zai 5 r.cs.length (r.cs.flatMap Cpl.cells)),
 (⟨0,13,0⟩,.cells zgh [.ref ⟨0,12,0⟩ 0 ev.length ev.length,I r.kn,.ref ⟨0,12,1⟩ 0 r.es.length r.es.length,.ref ⟨0,12,2⟩ 0 r.rs.length r.rs.length,.ref ⟨0,12,3⟩ 0 r.cs.length r.cs.length])]
abbrev isH:List Evl.Id:=[⟨0,13,0⟩,⟨0,12,0⟩,⟨0,12,1⟩,⟨0,12,2⟩,⟨0,12,3⟩]
theorem zoq {e:Evt} (h:zi8 e=0):
  (∃nu ki a s more kn f u m,e=⟨nu,ki,a::s::more,[kn,f,u,m],[]⟩/\yha ki=true/\(ki=zb3->∃b,more=[b])/\(ki=zsn\/ki=zwv\/ki=zb3))\/
  (∃nu a kn,e=⟨nu,zdk,[a],[kn],[]⟩)\/(∃nu a en kn,e=⟨nu,zco,[a,en],[kn],[]⟩)\/(∃nu a kn v,e=⟨nu,zeo,[a],[kn,v],[]⟩):=by
 obtain⟨h1,h2,h3,_,_,h6,_,_⟩:=z0c h
 obtain⟨nu,ki,ns,vs,tx⟩:=e
 dsimp only at h1 h2 h3 h6
 subst h6
 have l1:∀ {α:Type} (l:List α),l.length=1->∃a,l=[a]:=fun l hl=>List.length_eq_one_iff.1 hl
 have l2:∀ {α:Type} (l:List α),l.length=2->∃a b,l=[a,b]:=fun l hl=>by
  rcases l with _|⟨a,_|⟨b,_|⟨_,_⟩⟩⟩<;>simp at hl
  exact⟨a,b,rfl⟩
 have l4:∀(l:List Int),l.length=4->∃a b c d,l=[a,b,c,d]:=fun l hl=>by
  rcases l with _|⟨a,_|⟨b,_|⟨c,_|⟨d,_|⟨_,_⟩⟩⟩⟩⟩<;>simp at hl
  exact⟨a,b,c,d,rfl⟩
 rcases zkm ki with rfl|rfl|rfl|rfl|rfl|rfl|⟨k1,k2,k3,k4,k5,k6⟩
 ·obtain⟨a,b,rfl⟩:=l2 ns h2
  obtain⟨c,d,e,f,rfl⟩:=l4 vs h3
  exact .inl ⟨nu,_,a,b,[],c,d,e,f,rfl,by decide,fun h=>absurd h (by decide),.inl rfl⟩
 ·obtain⟨a,b,rfl⟩:=l2 ns h2
  obtain⟨c,d,e,f,rfl⟩:=l4 vs h3
  exact .inl ⟨nu,_,a,b,[],c,d,e,f,rfl,by decide,fun h=>absurd h (by decide),.inr (.inl rfl)⟩
 ·obtain⟨a,b,x,rfl⟩:∃a b x,ns=[a,b,x]:=by
   have h2:ns.length=3:=h2
   rcases ns with _|⟨a,_|⟨b,_|⟨c,_|⟨_,_⟩⟩⟩⟩<;>simp at h2
   exact⟨a,b,c,rfl⟩
  obtain⟨c,d,e,f,rfl⟩:=l4 vs h3
  exact .inl ⟨nu,_,a,b,[x],c,d,e,f,rfl,by decide,fun _=>⟨x,rfl⟩,.inr (.inr rfl)⟩
 ·obtain⟨a,rfl⟩:=l1 ns h2
  obtain⟨c,rfl⟩:=l1 vs h3
  exact .inr (.inl ⟨nu,a,c,rfl⟩)
 ·obtain⟨a,b,rfl⟩:=l2 ns h2
  obtain⟨c,rfl⟩:=l1 vs h3
  exact .inr (.inr (.inl ⟨nu,a,b,c,rfl⟩))
 ·obtain⟨a,rfl⟩:=l1 ns h2
  obtain⟨c,d,rfl⟩:=l2 vs h3
  exact .inr (.inr (.inr ⟨nu,a,c,d,rfl⟩))
 ·simp [zet,k1,k2,k3,k4,k5,k6] at h1
section
variable {E : Oracle} (g : Good E)
include g
omit g in
theorem yng {r:Rgs} {n:Nat} {e:Evt} (h:yms r n e=0):e.nu=n+1/\¬vlN e 0<r.kn/\¬ 99999<vlN e 0:=by
 rw [yms,zhn] at h
 have a:=h (if e.nu=n+1 then 0 else 11) (by simp)
 have b:=h (if vlN e 0<r.kn then 19 else 0) (by simp)
 have c:=h (if 99999<vlN e 0 then 3 else 0) (by simp)
 refine⟨?_,?_,?_⟩
 ·exact Decidable.byContradiction fun hn=>by rw [if_neg hn] at a;omega
 ·intro hn;rw [if_pos hn] at b;omega
 ·intro hn;rw [if_pos hn] at c;omega
theorem z9a (t:Nat) (ev:List Evt) (r:Rgs) (ho:OkR r) (e:Evt) (hc:zi8 e=0) (hev:ev.length<=1000000):
  Qs E zas [.ptr ⟨0,0,0⟩ 0 0,Evv e] (mR t ev r) (I (z12 r ev.length e)):=by
 refine⟨?_⟩
 unfold z12
 by_cases hF:yms r ev.length e=0
 ·rw [if_neg (fun h=>h hF)]
  obtain⟨c1,c2,c3⟩:=yng hF
  clear hF
  rcases zoq hc with⟨nu,ki,a,s,more,kn,f,u,m,rfl,hent,hfol,hki⟩|⟨nu,a,kn,rfl⟩|⟨nu,a,en,kn,rfl⟩|⟨nu,a,kn,v,rfl⟩
  ·change nu=_ at c1
   change ¬kn<_ at c2
   change ¬_<kn at c3
   obtain⟨b,hb⟩:∃b,ki=zb3->more=[b]:=by
    by_cases h:ki=zb3
    ·obtain⟨b,hb⟩:=hfol h
     exact⟨b,fun _=>hb⟩
    ·exact⟨[],fun h'=>absurd h' h⟩
   have hask:z18 r ⟨nu,ki,a::s::more,[kn,f,u,m],[]⟩=zqq r (decide (ki=zb3)) a b kn f u m:=by
    rw [z18,if_pos hent]
    by_cases h:ki=zb3
    ·rw [hb h];rfl
    ·unfold zqq
     rw [decide_eq_false h]
     simp only [Bool.false_eq_true,false_and,if_false]
     rfl
   have hq:=ybo g t ev r ho nu ki a s more b kn f u m [] hb
   rw [<-hask] at hq
   generalize z18 r ⟨nu,ki,a::s::more,[kn,f,u,m],[]⟩=o at *
   have e1:Evv ⟨nu,ki,a::s::more,[kn,f,u,m],[]⟩= .d (.agg [DI nu,.str ki,.list (more.length+1+1) (.str a:: .str s::more.map D.str),.list 4 [DI kn,DI f,DI u,DI m],.str []]):=rfl
   rw [e1] at hq ⊢
   clear hfol hask hent hb
   rcases hki with rfl|rfl|rfl
   all_goals
    refine In.enter (f:=zas) g.lim rfl rfl ?_
    repeat' ((conv=>whnf);first
    | refine Yz ?_
     | (refine Cmp.ff (fun h=>h c1) ?_)
     | (refine zah.of (zgf g _ _) ?_)
     | (refine zah.of (zky g _ _ _) ?_)
     | (refine zb8.kinds g rfl ?_)
     | (refine zht.mk ⟨_,rfl,?_⟩)
     | (refine zj6.of (r':=I o) isR rfl rfl rfl rfl hq rfl rfl rfl ?_)
     | (exact⟨rfl,rfl,rfl,rfl,rfl,rfl,trivial⟩)
     | fail)
  ·change nu=_ at c1
   change ¬kn<_ at c2
   change ¬_<kn at c3
   have hq:=z6r g t ev r ho nu zdk a kn []
   change Qs E zbc [.ptr ⟨0,0,0⟩ 1 0,.d (.agg [DI nu,.str zdk,.list 1 [.str a],.list 1 [DI kn],.str []])] (mR t ev r) (I (z18 r ⟨nu,zdk,[a],[kn],[]⟩)) at hq
   generalize z18 r ⟨nu,zdk,[a],[kn],[]⟩=o at *
   change In E 1 zas [.ptr ⟨0,0,0⟩ 0 0,.d (.agg [DI nu,.str zdk,.list 1 [.str a],.list 1 [DI kn],.str []])] (mR t ev r) _
   refine In.enter (f:=zas) g.lim rfl rfl ?_
   repeat' ((conv=>whnf);first
   | refine Yz ?_
    | (refine Cmp.ff (fun h=>h c1) ?_)
    | (refine zah.of (zgf g _ _) ?_)
    | (refine zah.of (zky g _ _ _) ?_)
    | (refine zb8.kinds g rfl ?_)
    | (refine zht.mk ⟨_,rfl,?_⟩)
    | (refine zj6.of (r':=I o) isR rfl rfl rfl rfl hq rfl rfl rfl ?_)
    | (exact⟨rfl,rfl,rfl,rfl,rfl,rfl,trivial⟩)
    | fail)
  ·change nu=_ at c1
   change ¬kn<_ at c2
   change ¬_<kn at c3
   have hq:=z1i g t ev r ho nu zco a en kn []
   change Qs E za4 [.ptr ⟨0,0,0⟩ 1 0,.d (.agg [DI nu,.str zco,.list 2 [.str a,.str en],.list 1 [DI kn],.str []])] (mR t ev r) (I (z18 r ⟨nu,zco,[a,en],[kn],[]⟩)) at hq
   generalize z18 r ⟨nu,zco,[a,en],[kn],[]⟩=o at *
   change In E 1 zas [.ptr ⟨0,0,0⟩ 0 0,.d (.agg [DI nu,.str zco,.list 2 [.str a,.str en],.list 1 [DI kn],.str []])] (mR t ev r) _
   refine In.enter (f:=zas) g.lim rfl rfl ?_
   repeat' ((conv=>whnf);first
   | refine Yz ?_
    | (refine Cmp.ff (fun h=>h c1) ?_)
    | (refine zah.of (zgf g _ _) ?_)
    | (refine zah.of (zky g _ _ _) ?_)
    | (refine zb8.kinds g rfl ?_)
    | (refine zht.mk ⟨_,rfl,?_⟩)
    | (refine zj6.of (r':=I o) isR rfl rfl rfl rfl hq rfl rfl rfl ?_)
    | (exact⟨rfl,rfl,rfl,rfl,rfl,rfl,trivial⟩)
    | fail)
  ·change nu=_ at c1
   change ¬kn<_ at c2
   change ¬_<kn at c3
   have hq:=z2z g t ev r ho nu zeo a kn v []
   change Qs E za6 [.ptr ⟨0,0,0⟩ 1 0,.d (.agg [DI nu,.str zeo,.list 1 [.str a],.list 2 [DI kn,DI v],.str []])] (mR t ev r) (I (z18 r ⟨nu,zeo,[a],[kn,v],[]⟩)) at hq
   generalize z18 r ⟨nu,zeo,[a],[kn,v],[]⟩=o at *
   change In E 1 zas [.ptr ⟨0,0,0⟩ 0 0,.d (.agg [DI nu,.str zeo,.list 1 [.str a],.list 2 [DI kn,DI v],.str []])] (mR t ev r) _
   refine In.enter (f:=zas) g.lim rfl rfl ?_
   repeat' ((conv=>whnf);first
   | refine Yz ?_
    | (refine Cmp.ff (fun h=>h c1) ?_)
    | (refine zah.of (zgf g _ _) ?_)
    | (refine zah.of (zky g _ _ _) ?_)
    | (refine zb8.kinds g rfl ?_)
    | (refine zht.mk ⟨_,rfl,?_⟩)
    | (refine zj6.of (r':=I o) isR rfl rfl rfl rfl hq rfl rfl rfl ?_)
    | (exact⟨rfl,rfl,rfl,rfl,rfl,rfl,trivial⟩)
    | fail)
 ·rw [if_pos hF]
  obtain⟨nu,ki,ns,vs,tx⟩:=e
  obtain⟨kn,vr,rfl⟩:∃kn vr,vs=kn::vr:=by
   rcases zoq hc with⟨nu,ki,a,s,more,kn,f,u,m,h,_⟩|⟨nu,a,kn,h⟩|⟨nu,a,en,kn,h⟩|⟨nu,a,kn,v,h⟩
   all_goals
    simp only [Evt.mk.injEq] at h
    exact⟨_,_,h.2.2.2.1⟩
  unfold yms at hF ⊢
  change zar [if nu=ev.length+1 then 0 else 11,if kn<r.kn then 19 else 0,if 99999<kn then 3 else 0]≠0 at hF
  change In E 1 zas [.ptr ⟨0,0,0⟩ 0 0,.d (.agg [DI nu,.str ki,.list ns.length (ns.map D.str),.list (vr.length+1) (DI kn::vr.map DI),.str tx])] (mR t ev r) (fun v m1=>v=I (zar [if nu=ev.length+1 then 0 else 11,if kn<r.kn then 19 else 0,if 99999<kn then 3 else 0])/\z4y m1 (mR t ev r))
  by_cases c1:nu=ev.length+1
  all_goals by_cases c2:kn<r.kn
  all_goals by_cases c3:99999<kn
  all_goals simp only [c1,c2,c3,if_true,if_false] at hF ⊢
  all_goals try (exact absurd rfl hF)
  all_goals refine In.enter (f:=zas) g.lim rfl rfl ?_
  all_goals repeat' ((conv=>whnf);first
  | refine Yz ?_
   | (refine Cmp.tt c1 ?_)
   | (refine Cmp.ff (fun h=>h rfl) ?_)
   | (refine zah.of (zgf g _ _) ?_)
   | (refine zah.of (zky g _ _ _) ?_)
   | (exact⟨rfl,rfl,rfl,rfl,rfl,rfl,trivial⟩)
   | fail)
end
theorem zrg {α:Type} (cell:α->List D) (w:Nat) (hw:∀a,(cell a).length=w) (l:List α) (k j:Nat) (hk:k<l.length) (hj:j<w) (d:D) (x:α) (hx:cell x=patch (cell l[k]) j [d]):patch (l.flatMap cell) (k*w+j) [d]=(l.set k x).flatMap cell:=by
 have h1:l=l.take k++l[k]::l.drop (k+1):=by rw [<-List.drop_eq_getElem_cons hk,List.take_append_drop]
 have h2:l.set k x=l.take k++x::l.drop (k+1):=by
  rw [List.set_eq_take_append_cons_drop,if_pos hk]
 rw [h2,List.flatMap_append,List.flatMap_cons,hx]
 have h3:l.flatMap cell=(l.take k).flatMap cell++(cell l[k]++(l.drop (k+1)).flatMap cell):=by
  rw [<-List.flatMap_cons,<-List.flatMap_append]
  exact congrArg (List.flatMap cell) h1
 rw [h3]
 have h4:((l.take k).flatMap cell).length=k*w:=by
  rw [zag cell w hw,List.length_take,Nat.min_eq_left (by omega)]
 have h5:=hw l[k]
 generalize (l.take k).flatMap cell=A at *
 generalize (l.drop (k+1)).flatMap cell=C at *
 generalize cell l[k]=B at *
 unfold patch
 rw [<-h4,List.take_append,List.take_of_length_le (by omega),Nat.add_sub_cancel_left,List.take_append_of_le_length (by omega)]
 rw [List.drop_append,List.drop_of_length_le (by simp;omega),List.length_singleton,Nat.add_assoc,Nat.add_sub_cancel_left,List.drop_append_of_le_length (by omega)]
 simp
section
variable {E : Oracle} (g : Good E)
include g
theorem zmi (l:List (List UInt8)) (hl:l≠[]) (hb:l.length<=1000000):Fc E zc7 [Ws l] (Ws l):=by
 obtain⟨x,r,rfl⟩:=List.exists_cons_of_ne_nil hl
 rw [List.length_cons] at hb
 change Fc E _ [.d (.list (r.length+1) (.str x::r.map D.str))] (.d (.list (r.length+1) (.str x::r.map D.str)))
 refine g.fn rfl rfl ?_
 repeat' ((conv=>whnf);first
 | refine Yz ?_
  | (refine zbd.mk ⟨rfl,rfl,rfl,rfl,rfl,by simp,by omega,by omega⟩ ?_)
  | (refine Chk.mk rfl ?_)
  | fail)
 all_goals try (refine Ret.mk ?_;simp)
theorem zmh (l:List Int) (hl:l≠[]) (hb:l.length<=1000000):Fc E zeq [LI l] (LI l):=by
 obtain⟨x,r,rfl⟩:=List.exists_cons_of_ne_nil hl
 rw [List.length_cons] at hb
 change Fc E _ [.d (.list (r.length+1) (DI x::r.map DI))] (.d (.list (r.length+1) (DI x::r.map DI)))
 refine g.fn rfl rfl ?_
 repeat' ((conv=>whnf);first
 | refine Yz ?_
  | (refine zbd.mk ⟨rfl,rfl,rfl,rfl,rfl,by simp,by omega,by omega⟩ ?_)
  | (refine Chk.mk rfl ?_)
  | fail)
 all_goals try (refine Ret.mk ?_;simp)
abbrev bxE (e:Evt):Evl.Id×Ob:=(⟨0,7,0⟩,.cells zac [I e.nu,S e.ki,.d (.list e.ns.length (e.ns.map D.str)),.d (.list e.vs.length (e.vs.map DI)),S e.tx])
theorem ypy (ev:List Evt) (r:Rgs) (ho:OkR r) (hrs:r.rs.length<1000) (e:Evt) (hs:zie r ev.length e=0) (hev:ev.length<=1000) {slot:Nat} {K:V->Mem->Prop} (hK:K (.tup []) (mH (ev++[e]) (zp8 r e)++[bxE e])):
  In E 1 zaj [.ptr ⟨0,13,0⟩ 0 0,Evv e] (mH ev r++[bxE e]) fun v m'=>zv0 ⟨0,1⟩ slot true v m' K:=by
 obtain⟨hc,ha⟩:=z1x hs
 obtain⟨_,_,_,hask⟩:=z7i ha
 have hes:=ho.es
 have hcs:=ho.cs
 have hme:(ev.flatMap Evt.cells).length=ev.length*5:=zag Evt.cells 5 evw ev
 rcases zoq hc with⟨nu,ki,a,s,more,kn,f,u,m,rfl,hent,hfol,hki⟩|⟨nu,a,kn,rfl⟩|⟨nu,a,en,kn,rfl⟩|⟨nu,a,kn,v,rfl⟩
 ·have hc1:=zmi g (a::s::more) (by simp) (by
   have h:=(z0c hc).2.1
   dsimp only at h
   rw [h]
   rcases hki with rfl|rfl|rfl
   ·decide
   ·decide
   ·decide)
  have hc2:=zmh g [kn,f,u,m] (by simp) (by simp)
  rw [z18,if_pos hent] at hask
  obtain⟨_,hl,_⟩:=zzc hask
  have hml:(r.es.flatMap Ent.cells).length=r.es.length*8:=zag Ent.cells 8 zj5 r.es
  clear hs hc ha hask
  by_cases hf:ki=zb3
  ·obtain⟨b,rfl⟩:=hfol hf
   subst hf
   have haft:zp8 r ⟨nu,zb3,[a,s,b],[kn,f,u,m],[]⟩=⟨kn,r.es++[⟨a,zb3,s,b,kn,f,u,m⟩],r.rs,r.cs⟩:=rfl
   rw [haft] at hK
   simp only [List.length_append,List.length_cons,List.length_nil,List.flatMap_append,List.flatMap_cons,List.flatMap_nil,mH,bxE] at hK
   change Fc E _ [.d (.list 3 [.str a,.str s,.str b])] (.d (.list 3 [.str a,.str s,.str b])) at hc1
   change Fc E _ [.d (.list 4 [DI kn,DI f,DI u,DI m])] (.d (.list 4 [DI kn,DI f,DI u,DI m])) at hc2
   change In E 1 zaj [.ptr ⟨0,13,0⟩ 0 0,.d (.agg [DI nu,.str zb3,.list 3 [.str a,.str s,.str b],.list 4 [DI kn,DI f,DI u,DI m],.str []])] _ _
   refine In.enter (f:=zaj) g.lim rfl rfl ?_
   repeat' ((conv=>whnf);first
   | refine Yz ?_
    | (apply zah.of;assumption)
    | (refine zbd.mk ⟨rfl,rfl,rfl,rfl,rfl,rfl,by dsimp only;omega,by dsimp only;omega⟩ ?_)
    | (refine zb8.kinds g rfl ?_)
    | (refine zht.mk ⟨_,rfl,?_⟩)
    | (refine In.enter (f:=zap) g.lim rfl rfl ?_)
    | (exact hK)
    | fail)
  ·have haft:zp8 r ⟨nu,ki,a::s::more,[kn,f,u,m],[]⟩=⟨kn,r.es++[⟨a,ki,s,[],kn,f,u,m⟩],r.rs,r.cs⟩:=by
    rw [zp8,if_pos hent,z8f,if_neg hf]
    rfl
   rw [haft] at hK
   simp only [List.length_append,List.length_cons,List.length_nil,List.flatMap_append,List.flatMap_cons,List.flatMap_nil,mH,bxE] at hK
   change Fc E _ [.d (.list (more.length+1+1) (.str a:: .str s::more.map D.str))] (.d (.list (more.length+1+1) (.str a:: .str s::more.map D.str))) at hc1
   change Fc E _ [.d (.list 4 [DI kn,DI f,DI u,DI m])] (.d (.list 4 [DI kn,DI f,DI u,DI m])) at hc2
   change In E 1 zaj [.ptr ⟨0,13,0⟩ 0 0,.d (.agg [DI nu,.str ki,.list (more.length+1+1) (.str a:: .str s::more.map D.str),.list 4 [DI kn,DI f,DI u,DI m],.str []])] _ _
   rcases hki with rfl|rfl|rfl
   ·refine In.enter (f:=zaj) g.lim rfl rfl ?_
    repeat' ((conv=>whnf);first
    | refine Yz ?_
     | (apply zah.of;assumption)
     | (refine zbd.mk ⟨rfl,rfl,rfl,rfl,rfl,rfl,by dsimp only;omega,by dsimp only;omega⟩ ?_)
     | (refine zb8.kinds g rfl ?_)
     | (refine zht.mk ⟨_,rfl,?_⟩)
     | (refine In.enter (f:=zap) g.lim rfl rfl ?_)
     | (exact hK)
     | fail)
   ·refine In.enter (f:=zaj) g.lim rfl rfl ?_
    repeat' ((conv=>whnf);first
    | refine Yz ?_
     | (apply zah.of;assumption)
     | (refine zbd.mk ⟨rfl,rfl,rfl,rfl,rfl,rfl,by dsimp only;omega,by dsimp only;omega⟩ ?_)
     | (refine zb8.kinds g rfl ?_)
     | (refine zht.mk ⟨_,rfl,?_⟩)
     | (refine In.enter (f:=zap) g.lim rfl rfl ?_)
     | (exact hK)
     | fail)
   ·exact absurd rfl hf
 ·have hc1:=zmi g [a] (by simp) (by simp)
  have hc2:=zmh g [kn] (by simp) (by simp)
  have hml:(r.rs.flatMap Rmv.cells).length=r.rs.length*2:=zag Rmv.cells 2 yiz r.rs
  clear hs hc ha hask
  have haft:zp8 r ⟨nu,zdk,[a],[kn],[]⟩=⟨kn,r.es,r.rs++[⟨a,kn⟩],r.cs⟩:=rfl
  rw [haft] at hK
  simp only [List.length_append,List.length_cons,List.length_nil,List.flatMap_append,List.flatMap_cons,List.flatMap_nil,mH,bxE] at hK
  change Fc E _ [.d (.list 1 [.str a])] (.d (.list 1 [.str a])) at hc1
  change Fc E _ [.d (.list 1 [DI kn])] (.d (.list 1 [DI kn])) at hc2
  change In E 1 zaj [.ptr ⟨0,13,0⟩ 0 0,.d (.agg [DI nu,.str zdk,.list 1 [.str a],.list 1 [DI kn],.str []])] _ _
  refine In.enter (f:=zaj) g.lim rfl rfl ?_
  repeat' ((conv=>whnf);first
  | refine Yz ?_
   | (apply zah.of;assumption)
   | (refine zbd.mk ⟨rfl,rfl,rfl,rfl,rfl,rfl,by dsimp only;omega,by dsimp only;omega⟩ ?_)
   | (refine zb8.kinds g rfl ?_)
   | (refine zht.mk ⟨_,rfl,?_⟩)
   | (refine In.enter (f:=zg1) g.lim rfl rfl ?_)
   | (refine In.enter (f:=zbb) g.lim rfl rfl ?_)
   | (exact hK)
   | fail)
 ·have hc1:=zmi g [a,en] (by simp) (by simp)
  have hc2:=zmh g [kn] (by simp) (by simp)
  have hml:(r.cs.flatMap Cpl.cells).length=r.cs.length*5:=zag Cpl.cells 5 zop r.cs
  clear hs hc ha hask
  have haft:zp8 r ⟨nu,zco,[a,en],[kn],[]⟩=⟨kn,r.es,r.rs,r.cs++[⟨a,en,kn,false,false⟩]⟩:=rfl
  rw [haft] at hK
  simp only [List.length_append,List.length_cons,List.length_nil,List.flatMap_append,List.flatMap_cons,List.flatMap_nil,mH,bxE] at hK
  change Fc E _ [.d (.list 2 [.str a,.str en])] (.d (.list 2 [.str a,.str en])) at hc1
  change Fc E _ [.d (.list 1 [DI kn])] (.d (.list 1 [DI kn])) at hc2
  change In E 1 zaj [.ptr ⟨0,13,0⟩ 0 0,.d (.agg [DI nu,.str zco,.list 2 [.str a,.str en],.list 1 [DI kn],.str []])] _ _
  refine In.enter (f:=zaj) g.lim rfl rfl ?_
  repeat' ((conv=>whnf);first
  | refine Yz ?_
   | (apply zah.of;assumption)
   | (refine zbd.mk ⟨rfl,rfl,rfl,rfl,rfl,rfl,by dsimp only;omega,by dsimp only;omega⟩ ?_)
   | (refine zb8.kinds g rfl ?_)
   | (refine zht.mk ⟨_,rfl,?_⟩)
   | (refine In.enter (f:=zb6) g.lim rfl rfl ?_)
   | (exact hK)
   | fail)
 ·have hc1:=zmi g [a] (by simp) (by simp)
  have hc2:=zmh g [kn,v] (by simp) (by simp)
  have hml:(r.rs.flatMap Rmv.cells).length=r.rs.length*2:=zag Rmv.cells 2 yiz r.rs
  have hmc:(r.cs.flatMap Cpl.cells).length=r.cs.length*5:=zag Cpl.cells 5 zop r.cs
  change zp2 r a v=0 at hask
  rcases zmn r.cs a with h|⟨k,hk,h,hnm⟩
  ·rw [zp2,h,if_pos (by decide)] at hask
   omega
  have hgd:r.cs.getD k ycs=r.cs[k]:=by simp [List.getD,hk]
  have haft:zp8 r ⟨nu,zeo,[a],[kn,v],[]⟩=⟨kn,r.es,if v=1 then r.rs++[⟨r.cs[k].en,kn⟩] else r.rs,r.cs.set k {r.cs[k] with cl:=true,up:=decide (v=1)}⟩:=by
   change (Rgs.mk kn r.es (if v=1 then r.rs++[⟨(r.cs.getD (zth r.cs a).toNat ycs).en,kn⟩] else r.rs) (r.cs.set (zth r.cs a).toNat {r.cs.getD (zth r.cs a).toNat ycs with cl:=true,up:=decide (v=1)}))=_
   rw [h,Int.toNat_natCast,hgd]
  rw [haft] at hK
  have hq:=zpt g zgh (ev++[⟨nu,zeo,[a],[kn,v],[]⟩]) ⟨kn,r.es,r.rs,r.cs⟩ a (by dsimp only;omega)
  rw [show zth (Rgs.mk kn r.es r.rs r.cs).cs a=k from h,yks,if_pos (by omega)] at hq
  simp only [List.length_append,List.length_cons,List.length_nil,List.flatMap_append,List.flatMap_cons,List.flatMap_nil,mR] at hq
  clear hs hc ha hask haft
  have hp1:patch (r.cs.flatMap Cpl.cells) ((0+((k:Nat):Int).toNat)*5+3) [.bool true]=(r.cs.set k {r.cs[k] with cl:=true}).flatMap Cpl.cells:=by
   rw [Nat.zero_add,Int.toNat_natCast]
   exact zrg Cpl.cells 5 zop r.cs k 3 hk (by decide) _ _ rfl
  have hm1:((r.cs.set k {r.cs[k] with cl:=true}).flatMap Cpl.cells).length=r.cs.length*5:=by rw [zag Cpl.cells 5 zop,List.length_set]
  have hk1:k<(r.cs.set k {r.cs[k] with cl:=true}).length:=by rw [List.length_set];exact hk
  have hp2:∀b,patch ((r.cs.set k {r.cs[k] with cl:=true}).flatMap Cpl.cells) ((0+((k:Nat):Int).toNat)*5+4) [.bool b]=(r.cs.set k {r.cs[k] with cl:=true,up:=b}).flatMap Cpl.cells:=by
   intro b
   rw [Nat.zero_add,Int.toNat_natCast]
   have:=zrg Cpl.cells 5 zop (r.cs.set k {r.cs[k] with cl:=true}) k 4 hk1 (by decide) (.bool b) {r.cs[k] with cl:=true,up:=b} (by rw [List.getElem_set_self];rfl)
   rw [this,List.set_set]
  have hp3:∀b,k<(r.cs.set k {r.cs[k] with cl:=true,up:=b}).length:=fun b=>by rw [List.length_set];exact hk
  have hp4:∀b,(r.cs.set k {r.cs[k] with cl:=true,up:=b})[k]'(hp3 b)={r.cs[k] with cl:=true,up:=b}:=fun b=>List.getElem_set_self _
  change Fc E _ [.d (.list 1 [.str a])] (.d (.list 1 [.str a])) at hc1
  change Fc E _ [.d (.list 2 [DI kn,DI v])] (.d (.list 2 [DI kn,DI v])) at hc2
  change In E 1 zaj [.ptr ⟨0,13,0⟩ 0 0,.d (.agg [DI nu,.str zeo,.list 1 [.str a],.list 2 [DI kn,DI v],.str []])] _ _
  by_cases hv:v=1
  ·rw [if_pos hv,decide_eq_true hv] at hK
   simp only [List.length_append,List.length_cons,List.length_nil,List.flatMap_append,List.flatMap_cons,List.flatMap_nil,List.length_set,mH,bxE] at hK
   refine In.enter (f:=zaj) g.lim rfl rfl ?_
   repeat' ((conv=>whnf);first
   | refine Yz ?_
    | (apply zah.of;assumption)
    | (refine zbd.mk ⟨rfl,rfl,rfl,rfl,rfl,rfl,by dsimp only;omega,by dsimp only;omega⟩ ?_)
    | (refine zb8.kinds g rfl ?_)
    | (refine zht.mk ⟨_,rfl,?_⟩)
    | (refine Cmp.tt hv ?_)
    | (refine In.enter (f:=za7) g.lim rfl rfl ?_)
    | (refine zj6.of (r':= .ptr ⟨0,12,3⟩ ((0+((k:Nat):Int).toNat)*5) r.cs.length) isH rfl rfl rfl rfl hq rfl rfl rfl ?_)
    | (refine zbd.mk ⟨rfl,by omega,rfl⟩ ?_;first |rw [hp1]|rw [hp2])
    | (refine zfa.rec0 zop k rfl (hp3 true) (by rw [hp4];rfl) ?_)
    | (refine In.enter (f:=zbb) g.lim rfl rfl ?_)
    | (exact hK)
    | fail)
  ·rw [if_neg hv,decide_eq_false hv] at hK
   simp only [List.length_append,List.length_cons,List.length_nil,List.flatMap_append,List.flatMap_cons,List.flatMap_nil,List.length_set,mH,bxE] at hK
   refine In.enter (f:=zaj) g.lim rfl rfl ?_
   repeat' ((conv=>whnf);first
   | refine Yz ?_
    | (apply zah.of;assumption)
    | (refine zbd.mk ⟨rfl,rfl,rfl,rfl,rfl,rfl,by dsimp only;omega,by dsimp only;omega⟩ ?_)
    | (refine zb8.kinds g rfl ?_)
    | (refine zht.mk ⟨_,rfl,?_⟩)
    | (refine Cmp.ff hv ?_)
    | (refine In.enter (f:=za7) g.lim rfl rfl ?_)
    | (refine zj6.of (r':= .ptr ⟨0,12,3⟩ ((0+((k:Nat):Int).toNat)*5) r.cs.length) isH rfl rfl rfl rfl hq rfl rfl rfl ?_)
    | (refine zbd.mk ⟨rfl,by omega,rfl⟩ ?_;first |rw [hp1]|rw [hp2])
    | (refine zfa.rec0 zop k rfl (hp3 false) (by rw [hp4];rfl) ?_)
    | (refine In.enter (f:=zbb) g.lim rfl rfl ?_)
    | (exact hK)
    | fail)
end
end Go.Proofs.YtnabmkmhbncidaaGreatDoor.Co
