/-
  OfficeNotes: what its law leans on, part 1.
-/
import Derived.Laws.RangeAny
import Derived.Lib.SplitLaws
import Derived.Test.YtmbofbehkalgkaaGreatDoorAwR
import Derived.Test.YtmbofbehkalgkaaGreatDoorEvN
import Derived.Test.YtmbofbehkalgkaaGreatDoorEvX
import Derived.Test.YtmbofbehkalgkaaGreatDoorEvY
import Derived.Test.YtmbofbehkalgkaaGreatDoorRead
import Derived.Test.YtmbofbehkalgkaaGreatDoorSpBase
namespace Go.Proofs.YtmbofbehkalgkaaGreatDoor.Co
open Go Go.Evl
set_option maxHeartbeats 32000000
set_option maxRecDepth 100000
def rng (n a b:Int):Int:=if n<a\/b<n then 3 else 0
def zbf:List Int->Int
 | []=>0
 | x::r=>if x=0 then zbf r else x
theorem zcx:∀l:List Int,zbf l=0↔∀x∈l,x=0
 | []=>by simp [zbf]
 | x::r=>by
  simp only [zbf,List.mem_cons,forall_eq_or_imp]
  split
  ·rename_i h;rw [zcx r];exact⟨fun hr=>⟨h,hr⟩,fun hr=>hr.2⟩
  ·rename_i h;exact⟨fun hr=>absurd hr h,fun hr=>absurd hr.1 h⟩
theorem z2d {n a b:Int}:rng n a b=0↔a<=n/\n<=b:=by unfold rng;split<;>omega
section
variable {E : Oracle} (g : Good E)
include g
omit g in
theorem z6x (l:List Int) (k:Nat) (h:k<l.length):zbf (l.drop k)=if l.getD k 0=0 then zbf (l.drop (k+1)) else l.getD k 0:=by
 rw [List.drop_eq_getElem_cons h]
 simp [zbf,List.getD,h]
end
theorem z59.at {s:List UInt8} {i:Nat} {K:UInt8->Prop} (k:Nat) (hi:i=k) (h:k<s.length) (hk:K (s.getD k 0)):z59 s i K:=by
 subst hi
 exact⟨⟨_,by simp [List.getD,h],hk⟩⟩
theorem zpp.asc {s:List UInt8} {k:Nat} {a:Int->Nat->Prop} {b:Prop} (h:k<s.length) (ha:(s.getD k 0).toNat<128) (hk:a (s.getD k 0).toNat 1):zpp s k a b:=by
 refine⟨fun _=> ?_,fun hn=>absurd h hn⟩
 have e:(s.getD k 0)=s[k]:=by simp [List.getD,h]
 have hd:=decode_ascii ⟨s.toArray⟩ k (by simpa [ByteArray.size] using h) (by rw [e] at ha;exact ha)
 rw [hd]
 rw [e] at hk
 exact hk
theorem zpp.high {s:List UInt8} {k:Nat} {a:Int->Nat->Prop} {b:Prop} (h:k<s.length) (ha:128<=(s.getD k 0).toNat) (hk:∀(c:Int) (w:Nat),128<=c->1<=w->a c w):zpp s k a b:=by
 refine⟨fun _=> ?_,fun hn=>absurd h hn⟩
 have e:(s.getD k 0)=s[k]:=by simp [List.getD,h]
 have hd:=decode_high ⟨s.toArray⟩ k (by simpa [ByteArray.size] using h) (by rw [e] at ha;exact ha)
 exact hk _ _ (by omega) hd.2
theorem zpp.end' {s:List UInt8} {k:Nat} {a:Int->Nat->Prop} {b:Prop} (h:s.length<=k) (hk:b):zpp s k a b:=⟨fun hn=>absurd hn (by omega),fun _=>hk⟩
def z7f (k:Nat) (b:UInt8):Prop:=(65<=b.toNat/\b.toNat<=90)\/(97<=b.toNat/\b.toNat<=122)\/(0<k/\(b.toNat=95\/(48<=b.toNat/\b.toNat<=57)))
instance (k:Nat) (b:UInt8):Decidable (z7f k b):=by unfold z7f;infer_instance
def ykb (s:List UInt8):Prop:=0<s.length/\s.length<=24/\∀i,i<s.length->z7f i (s.getD i 0)
instance (s:List UInt8):Decidable (ykb s):=by unfold ykb;infer_instance
def zdt (s:List UInt8):Bool:=decide (ykb s)
theorem zw8 {s:List UInt8} {k:Nat} (hk:k<s.length) (h:¬z7f k (s.getD k 0)):zdt s=false:=decide_eq_false fun hn=>h (hn.2.2 k hk)
section
variable {E : Oracle} (g : Good E)
include g
theorem yhz (s:List UInt8):Fc E zh6 [S s] (B (zdt s)):=by
 refine g.fn rfl rfl ?_
 by_cases h0:0<s.length/\s.length<=24
 ·repeat' ((conv=>whnf);first
 | refine Yz ?_)
  refine zao.to (zao.upP g (fun _=>[(15,.it ⟨0,15,0⟩)]) (fun k=>[(⟨0,15,0⟩,.iter s k)]) (fun k=>∀i,i<k->z7f i (s.getD i 0)) s.length (fun k hk hp ih=> ?_) 0 (Nat.zero_le _) (fun i hi=>by omega)) rfl rfl
  by_cases hlt:k<s.length
  ·by_cases ha:(s.getD k 0).toNat<128
   ·by_cases hok:z7f k (s.getD k 0)
    ·have hp':∀i,i<k+1->z7f i (s.getD i 0):=fun i hi=>by
      by_cases e:i=k
      ·subst e;exact hok
      ·exact hp i (by omega)
     have ih:=ih hlt hp'
     unfold z7f at hok
     repeat' ((conv=>whnf);first
     | refine Yz ?_
      | (refine zpp.asc hlt ha ?_)
      | (refine Cmp.mk (fun h=> ?_) (fun h=> ?_))|(refine Rem.any (by omega) (fun r hr he=> ?_))|(refine Br.mk (fun h=> ?_) (fun h=> ?_))
      | (refine zao.to ih rfl rfl)
      | (exfalso;omega))
    ·have hno:=zw8 hlt hok
     unfold z7f at hok
     rw [hno]
     repeat' ((conv=>whnf);first
     | refine Yz ?_
      | (refine zpp.asc hlt ha ?_)
      | (refine Cmp.mk (fun h=> ?_) (fun h=> ?_))|(refine Rem.any (by omega) (fun r hr he=> ?_))|(refine Br.mk (fun h=> ?_) (fun h=> ?_))
      | (refine Ret.mk rfl)
      | (exfalso;omega))
   ·have hno:zdt s=false:=zw8 hlt (by unfold z7f;omega)
    rw [hno]
    repeat' ((conv=>whnf);first
    | refine Yz ?_
     | (refine zpp.high hlt (by omega) (fun c w hc hw=> ?_))
     | (refine Cmp.mk (fun h=> ?_) (fun h=> ?_))|(refine Rem.any (by omega) (fun r hr he=> ?_))|(refine Br.mk (fun h=> ?_) (fun h=> ?_))
     | (refine Ret.mk rfl)
     | (exfalso;omega))
  ·have hk':k=s.length:=by omega
   subst hk'
   have hyes:zdt s=true:=decide_eq_true ⟨h0.1,h0.2,hp⟩
   rw [hyes]
   repeat' ((conv=>whnf);first
   | refine Yz ?_
    | (refine zpp.end' (Nat.le_refl _) ?_)
    | (refine Ret.mk rfl))
 ·have hno:zdt s=false:=decide_eq_false fun hn=>h0 ⟨hn.1,hn.2.1⟩
  rw [hno]
  repeat' ((conv=>whnf);first
  | refine Yz ?_
   | (refine Cmp.mk (fun h=> ?_) (fun h=> ?_))|(refine Rem.any (by omega) (fun r hr he=> ?_))|(refine Br.mk (fun h=> ?_) (fun h=> ?_))
   | (refine Ret.mk rfl)
   | (exfalso;omega))
theorem yhq (s:List UInt8):Fc E zlc [S s] (B (zdt s)):=by
 refine g.fn rfl rfl ?_
 by_cases h0:0<s.length/\s.length<=24
 ·repeat' ((conv=>whnf);first
 | refine Yz ?_)
  refine zao.to (zao.upP g (fun k=>[(0,S s),(3,I k)]) (fun _=>[]) (fun k=>∀i,i<k->z7f i (s.getD i 0)) s.length (fun k hk hp ih=> ?_) 0 (Nat.zero_le _) (fun i hi=>by omega)) rfl rfl
  by_cases hlt:k<s.length
  ·by_cases hok:z7f k (s.getD k 0)
   ·have hp':∀i,i<k+1->z7f i (s.getD i 0):=fun i hi=>by
     by_cases e:i=k
     ·subst e;exact hok
     ·exact hp i (by omega)
    have ih:=ih hlt hp'
    unfold z7f at hok
    repeat' ((conv=>whnf);first
    | refine Yz ?_
     | (refine z59.at k (by omega) hlt ?_)
     | (refine Cmp.mk (fun h=> ?_) (fun h=> ?_))|(refine Rem.any (by omega) (fun r hr he=> ?_))|(refine Br.mk (fun h=> ?_) (fun h=> ?_))
     | (refine zao.to ih rfl rfl)
     | (exfalso;omega))
   ·have hno:=zw8 hlt hok
    unfold z7f at hok
    rw [hno]
    repeat' ((conv=>whnf);first
    | refine Yz ?_
     | (refine z59.at k (by omega) hlt ?_)
     | (refine Cmp.mk (fun h=> ?_) (fun h=> ?_))|(refine Rem.any (by omega) (fun r hr he=> ?_))|(refine Br.mk (fun h=> ?_) (fun h=> ?_))
     | (refine Ret.mk rfl)
     | (exfalso;omega))
  ·have hk':k=s.length:=by omega
   subst hk'
   have hyes:zdt s=true:=decide_eq_true ⟨h0.1,h0.2,hp⟩
   rw [hyes]
   repeat' ((conv=>whnf);first
   | refine Yz ?_
    | (refine Ret.mk rfl))
 ·have hno:zdt s=false:=decide_eq_false fun hn=>h0 ⟨hn.1,hn.2.1⟩
  rw [hno]
  repeat' ((conv=>whnf);first
  | refine Yz ?_
   | (refine Cmp.mk (fun h=> ?_) (fun h=> ?_))|(refine Rem.any (by omega) (fun r hr he=> ?_))|(refine Br.mk (fun h=> ?_) (fun h=> ?_))
   | (refine Ret.mk rfl)
   | (exfalso;omega))
end
structure Evt where
 nu:Int
 ki:List UInt8
 ns:List (List UInt8)
 vs:List Int
 tx:List UInt8
 deriving DecidableEq
abbrev Ws (l:List (List UInt8)):V:= .d (.list l.length (l.map D.str))
def Evt.cells (e:Evt):List D:=[DI e.nu,.str e.ki,.list e.ns.length (e.ns.map D.str),.list e.vs.length (e.vs.map DI),.str e.tx]
abbrev Evv (e:Evt):V:= .d (.agg e.cells)
abbrev zpj:List UInt8:=[101,110,116,101,114]
abbrev zup:List UInt8:=[114,117,108,101]
abbrev zc1:List UInt8:=[102,111,108,108,111,119]
abbrev zdo:List UInt8:=[114,101,118,101,114,115,101]
abbrev zct:List UInt8:=[99,111,109,112,108,97,105,110]
abbrev zfl:List UInt8:=[100,101,99,105,100,101]
def ybd (k:List UInt8):Nat:=if k=zpj then 2 else if k=zup then 2 else if k=zc1 then 3 else if k=zdo then 1 else if k=zct then 2 else if k=zfl then 1 else 0
def ydq (k:List UInt8):Nat:=if k=zpj then 4 else if k=zup then 4 else if k=zc1 then 4 else if k=zdo then 1 else if k=zct then 1 else if k=zfl then 2 else 0
def zzk (k:List UInt8):Bool:=decide (k=zpj)||decide (k=zup)||decide (k=zc1)||decide (k=zdo)||decide (k=zct)||decide (k=zfl)
theorem zzo (k:List UInt8):k=zpj\/k=zup\/k=zc1\/k=zdo\/k=zct\/k=zfl\/
  (k≠zpj/\k≠zup/\k≠zc1/\k≠zdo/\k≠zct/\k≠zfl):=by
 by_cases h1:k=zpj
 ·exact .inl h1
 by_cases h2:k=zup
 ·exact .inr (.inl h2)
 by_cases h3:k=zc1
 ·exact .inr (.inr (.inl h3))
 by_cases h4:k=zdo
 ·exact .inr (.inr (.inr (.inl h4)))
 by_cases h5:k=zct
 ·exact .inr (.inr (.inr (.inr (.inl h5))))
 by_cases h6:k=zfl
 ·exact .inr (.inr (.inr (.inr (.inr (.inl h6)))))
 exact .inr (.inr (.inr (.inr (.inr (.inr ⟨h1,h2,h3,h4,h5,h6⟩)))))
def zop (l:List (List UInt8)):Bool:=l.any fun s=> !zdt s
def ylw (n:Int):Bool:=decide (n<0\/999999999<n)
def far (l:List Int):Bool:=l.any ylw
def yco (e:Evt):Int:=
 zbf [rng e.nu 1 1000,if !zzk e.ki then 13 else 0,if e.ns.length≠ybd e.ki\/e.vs.length≠ydq e.ki then 2 else 0,if zop e.ns then 8 else 0,if far e.vs then 3 else 0,if e.tx≠[] then 1 else 0]
def z61 {α:Type} (p:α->Bool) (l:List α):Int:=match l.findIdx? p with
 | some i=>i
 | none=> -1
theorem zqh {α:Type} {p:α->Bool} {l:List α} {k:Nat} (hk:k<l.length) (h:p l[k]=true) (hn:∀j,(hj:j<k)->p (l[j]'(by omega))=false):z61 p l=k:=by
 have:l.findIdx? p=some k:=List.findIdx?_eq_some_iff_getElem.2 ⟨hk,h,fun j hj=>by simp [hn j hj]⟩
 simp [z61,this]
theorem znx {α:Type} {p:α->Bool} {l:List α} (hn:∀j,(hj:j<l.length)->p l[j]=false):z61 p l= -1:=by
 have:l.findIdx? p=none:=List.findIdx?_eq_none_iff.2 fun x hx=>by
  obtain⟨j,hj,rfl⟩:=List.mem_iff_getElem.1 hx
  exact hn j hj
 simp [z61,this]
theorem z1k {α:Type} (p:α->Bool) (l:List α):decide (0<=z61 p l)=l.any p:=by
 unfold z61
 cases h:l.findIdx? p with
 | none=>
  have h2:l.any p=false:=by
   rw [List.any_eq_false]
   intro x hx
   have:=List.findIdx?_eq_none_iff.1 h x hx
   simp [this]
  rw [h2];rfl
 | some i=>
  obtain⟨hi,hp,_⟩:=List.findIdx?_eq_some_iff_getElem.1 h
  have h2:l.any p=true:=List.any_eq_true.2 ⟨l[i],List.getElem_mem hi,hp⟩
  rw [h2];simp
theorem zgz.ws {l:List (List UInt8)} {i:Int} {K:D->Prop} (k:Nat) (hi:i=k) (h:k<l.length) (hk:K (.str l[k])):zgz (l.map D.str) (i.toNat*1) K:=by
 subst hi
 exact⟨⟨_,by simp [h],hk⟩⟩
theorem zgz.iw {l:List Int} {i:Int} {K:D->Prop} (k:Nat) (hi:i=k) (h:k<l.length) (hk:K (DI l[k])):zgz (l.map DI) (i.toNat*1) K:=by
 subst hi
 exact⟨⟨_,by simp [h],hk⟩⟩
section
variable {E : Oracle} (g : Good E)
include g
theorem zn8 (b:Bool) (e:Int):Fc E zak [B b,I e] (I (if b then e else 0)):=by
 refine g.fn rfl rfl ?_
 cases b
 all_goals repeat' ((conv=>whnf);first
 | refine Yz ?_
  | (refine Ret.mk rfl))
theorem zr9 (n a b:Int):Fc E zeh [I n,I a,I b] (I (rng n a b)):=by
 refine g.fn rfl rfl ?_
 repeat' ((conv=>whnf);first
 | refine Yz ?_
  | (refine Cmp.mk (fun h=> ?_) (fun h=> ?_))|(refine Rem.any (by omega) (fun r hr he=> ?_))|(refine Br.mk (fun h=> ?_) (fun h=> ?_))
  | (refine zaz.of (zn8 g _ _) ?_)
  | (refine Ret.mk ?_))
 all_goals (simp only [V.d.injEq,D.int.injEq,true_and,rng];simp_all)
theorem zox (l:List Int) (hl:l.length<=140737488355328):Fc E za0 [LI l] (I (zbf l)):=by
 refine g.fn rfl rfl ?_
 conv=>whnf
 refine zao.upP g (fun k=>[(5,LI l),(6,I l.length),(7,I k)]) (fun _=>[]) (fun k=>zbf l=zbf (l.drop k)) l.length (fun k hk hp ih=> ?_) 0 (Nat.zero_le _) (by simp)
 by_cases hlt:k<l.length
 ·have hd:=z6x l k hlt
  repeat' ((conv=>whnf);first
  | refine Yz ?_
   | (refine zgz.int (by omega) ?_)
   | (refine Cmp.mk (fun h=> ?_) (fun h=> ?_))|(refine Rem.any (by omega) (fun r hr he=> ?_))|(refine Br.mk (fun h=> ?_) (fun h=> ?_))
   | (refine zao.to (ih hlt ?_) ?_ rfl)
   | (refine Ret.mk ?_))
  all_goals simp_all
 ·have:l.drop k=[]:=List.drop_eq_nil_of_le (by omega)
  repeat' ((conv=>whnf);first
  | refine Yz ?_
   | (refine Ret.mk ?_))
  simp [hp,this,zbf]
theorem yaj (s:List UInt8):Fc E zcj [S s] (I (if !zdt s then 8 else 0)):=by
 refine g.fn rfl rfl ?_
 have h:=yhz g s
 repeat' ((conv=>whnf);first
 | refine Yz ?_
  | (apply zaz.of;assumption)
  | (refine zaz.of (zn8 g _ _) ?_)
  | (refine Ret.mk rfl))
theorem z47 {f:Nat} {p:List UInt8->Bool} {l:List (List UInt8)} (hl:l.length<=1000000) (hf:∀x∈l,Fc E f [S x] (B (p x))):Fc E zcp [Ws l,.d (.fn f)] (I (z61 p l)):=by
 refine g.fn rfl rfl ?_
 conv=>whnf
 refine zao.upP g (fun k=>[(0,Ws l),(1,.d (.fn f)),(7,I l.length),(8,I k)]) (fun _=>[]) (fun k=>∀j,(hj:j<k)->(hj':j<l.length)->p l[j]=false) l.length (fun k hk hp ih=> ?_) 0 (Nat.zero_le _) (fun j hj=>by omega)
 by_cases hlt:k<l.length
 ·have hx:=hf l[k] (List.getElem_mem hlt)
  cases hb:p l[k] with
  | true=>
   rw [hb] at hx
   have hi:=zqh (p:=p) hlt hb fun j hj=>hp j hj (by omega)
   rw [hi]
   repeat' ((conv=>whnf);first
   | refine Yz ?_
    | (refine zgz.ws k rfl hlt ?_)
    | (apply zaz.of;assumption)
    | (refine Ret.mk rfl))
  | false=>
   rw [hb] at hx
   have ih:=ih hlt fun j hj hj'=>by
    by_cases e:j=k
    ·subst e;exact hb
    ·exact hp j (by omega) hj'
   repeat' ((conv=>whnf);first
   | refine Yz ?_
    | (refine zgz.ws k rfl hlt ?_)
    | (apply zaz.of;assumption)
    | (refine zao.to ih rfl rfl))
 ·have hi:=znx (p:=p) (l:=l) fun j hj=>hp j (by omega) hj
  rw [hi]
  repeat' ((conv=>whnf);first
  | refine Yz ?_
   | (refine Ret.mk rfl))
theorem zxu {f:Nat} {p:List UInt8->Bool} {l:List (List UInt8)} (hl:l.length<=1000000) (hf:∀x∈l,Fc E f [S x] (B (p x))):Fc E zb7 [Ws l,.d (.fn f)] (B (l.any p)):=by
 refine g.fn rfl rfl ?_
 have h:=z47 g hl hf
 rw [<-z1k]
 repeat' ((conv=>whnf);first
 | refine Yz ?_
  | (apply zaz.of;assumption)
  | (refine Cmp.mk (fun h=> ?_) (fun h=> ?_))|(refine Rem.any (by omega) (fun r hr he=> ?_))|(refine Br.mk (fun h=> ?_) (fun h=> ?_))
  | (refine Ret.mk ?_))
 all_goals simp_all
theorem z44 {f:Nat} {p:Int->Bool} {l:List Int} (hl:l.length<=1000000) (hf:∀x∈l,Fc E f [I x] (B (p x))):Fc E zdn [LI l,.d (.fn f)] (I (z61 p l)):=by
 refine g.fn rfl rfl ?_
 conv=>whnf
 refine zao.upP g (fun k=>[(0,LI l),(1,.d (.fn f)),(7,I l.length),(8,I k)]) (fun _=>[]) (fun k=>∀j,(hj:j<k)->(hj':j<l.length)->p l[j]=false) l.length (fun k hk hp ih=> ?_) 0 (Nat.zero_le _) (fun j hj=>by omega)
 by_cases hlt:k<l.length
 ·have hx:=hf l[k] (List.getElem_mem hlt)
  cases hb:p l[k] with
  | true=>
   rw [hb] at hx
   have hi:=zqh (p:=p) hlt hb fun j hj=>hp j hj (by omega)
   rw [hi]
   repeat' ((conv=>whnf);first
   | refine Yz ?_
    | (refine zgz.iw k rfl hlt ?_)
    | (apply zaz.of;assumption)
    | (refine Ret.mk rfl))
  | false=>
   rw [hb] at hx
   have ih:=ih hlt fun j hj hj'=>by
    by_cases e:j=k
    ·subst e;exact hb
    ·exact hp j (by omega) hj'
   repeat' ((conv=>whnf);first
   | refine Yz ?_
    | (refine zgz.iw k rfl hlt ?_)
    | (apply zaz.of;assumption)
    | (refine zao.to ih rfl rfl))
 ·have hi:=znx (p:=p) (l:=l) fun j hj=>hp j (by omega) hj
  rw [hi]
  repeat' ((conv=>whnf);first
  | refine Yz ?_
   | (refine Ret.mk rfl))
theorem zxt {f:Nat} {p:Int->Bool} {l:List Int} (hl:l.length<=1000000) (hf:∀x∈l,Fc E f [I x] (B (p x))):Fc E zc5 [LI l,.d (.fn f)] (B (l.any p)):=by
 refine g.fn rfl rfl ?_
 have h:=z44 g hl hf
 rw [<-z1k]
 repeat' ((conv=>whnf);first
 | refine Yz ?_
  | (apply zaz.of;assumption)
  | (refine Cmp.mk (fun h=> ?_) (fun h=> ?_))|(refine Rem.any (by omega) (fun r hr he=> ?_))|(refine Br.mk (fun h=> ?_) (fun h=> ?_))
  | (refine Ret.mk ?_))
 all_goals simp_all
theorem yns (s:List UInt8):Fc E zd0 [S s] (B (!zdt s)):=by
 refine g.fn rfl rfl ?_
 have h:=yaj g s
 cases hb:zdt s
 all_goals
  rw [hb] at h
  repeat' ((conv=>whnf);first
  | refine Yz ?_
   | (apply zaz.of;assumption)
   | (refine Ret.mk rfl))
theorem ynt (n:Int):Fc E zd1 [I n] (B (ylw n)):=by
 refine g.fn rfl rfl ?_
 have h:=zr9 g n 0 999999999
 by_cases hb:n<0\/999999999<n
 all_goals
  simp only [rng,hb,if_true,if_false] at h
  simp only [ylw,hb,decide_true,decide_false]
  repeat' ((conv=>whnf);first
  | refine Yz ?_
   | (apply zaz.of;assumption)
   | (refine Ret.mk rfl))
abbrev kdM:List (D×V):=[(.str zpj,.agg [.d (DI 2),.d (DI 4),.fn zat [] [],.fn zau [] []]),
 (.str zup,.agg [.d (DI 2),.d (DI 4),.fn zat [] [],.fn zau [] []]),
 (.str zc1,.agg [.d (DI 3),.d (DI 4),.fn zat [] [],.fn zau [] []]),
 (.str zdo,.agg [.d (DI 1),.d (DI 1),.fn za7 [] [],.fn zgg [] []]),
 (.str zct,.agg [.d (DI 2),.d (DI 1),.fn za4 [] [],.fn zbw [] []]),
 (.str zfl,.agg [.d (DI 1),.d (DI 2),.fn za5 [] [],.fn zbm [] []])]
omit g in
theorem yj4 {k:List UInt8} (h:k≠zpj/\k≠zup/\k≠zc1/\k≠zdo/\k≠zct/\k≠zfl):zfu (.str k) kdM=some none:=by
 have e:∀t,k≠t->(k==t)=false:=fun t h=>beq_eq_false_iff_ne.2 h
 obtain⟨h1,h2,h3,h4,h5,h6⟩:=h
 simp only [zfu,eqD,e _ h1,e _ h2,e _ h3,e _ h4,e _ h5,e _ h6]
theorem zej.kinds {cx:Cx} {slot:Nat} {m:Mem} {K:V->Mem->Prop} (hf:Go.Evl.freeK cx.lv slot m=0) (k:K (.mp ⟨cx.lv,slot,0⟩) (m++[(⟨cx.lv,slot,0⟩,.map kdM)])):zej E zd8 [] cx slot m K:=by
 refine⟨.mp ⟨0,1,0⟩,[(⟨0,1,0⟩,.map kdM)],(.mp ⟨cx.lv,slot,0⟩,m++[(⟨cx.lv,slot,0⟩,.map kdM)]),g.lim.of_iter 1000 _ _ (by kernel_rfl),?_,k⟩
 unfold Evl.settle
 rw [hf]
 rfl
theorem z41 (e:Evt) (hn:e.ns.length<=1000000) (hv:e.vs.length<=1000000):Fc E zcy [Evv e] (I (yco e)):=by
 obtain⟨nu,ki,ns,vs,tx⟩:=e
 change Fc E zcy [.d (.agg [DI nu,.str ki,.list ns.length (ns.map D.str),.list vs.length (vs.map DI),.str tx])] _
 dsimp only at hn hv
 refine g.fn rfl rfl ?_
 have h1:=zxu g (f:=zd0) (p:=fun s=> !zdt s) hn fun x _=>yns g x
 have h2:=zxt g (f:=zd1) (p:=ylw) hv fun x _=>ynt g x
 have h3:=zr9 g nu 1 1000
 have hlast:∀a b c d e f:Int,Fc E za0 [.d (.list 6 [DI a,DI b,DI c,DI d,DI e,DI f])] (I (zbf [a,b,c,d,e,f])):=fun a b c d e f=>zox g [a,b,c,d,e,f] (by simp)
 rcases zzo ki with rfl|rfl|rfl|rfl|rfl|rfl|hk
 all_goals
  first
  | (have hfind:=yj4 hk)
  | (have hfind:True:=trivial)
  repeat' ((conv=>whnf);first
  | refine Yz ?_
   | (refine zej.kinds g rfl ?_)
   | (refine ztt.mk ⟨_,rfl,?_⟩)
   | (refine ztt.mk ⟨_,hfind,?_⟩)
   | (apply zaz.of;assumption)
   | (refine zaz.of (zn8 g _ _) ?_)
   | (refine zaz.of (hlast _ _ _ _ _ _) ?_)
   | (refine Cmp.mk (fun h=> ?_) (fun h=> ?_))|(refine Rem.any (by omega) (fun r hr he=> ?_))|(refine Br.mk (fun h=> ?_) (fun h=> ?_))
   | (refine Ret.mk ?_))
  all_goals try norm_cast at *
  all_goals (simp_all [yco,zzk,ybd,ydq,zop,far];done)
theorem zxo (n a b:Int):Fc E zfo [I n,I a,I b] (B (decide (n<a\/b<n))):=by
 refine g.fn rfl rfl ?_
 repeat' ((conv=>whnf);first
 | refine Yz ?_
  | (refine Cmp.mk (fun h=> ?_) (fun h=> ?_))|(refine Rem.any (by omega) (fun r hr he=> ?_))|(refine Br.mk (fun h=> ?_) (fun h=> ?_))
  | (refine Ret.mk ?_))
 all_goals simp_all
end
theorem zej.of {E:Oracle} {f:Nat} {args:List V} {cx:Cx} {slot:Nat} {m:Mem} {K:V->Mem->Prop} (h:In E 0 f args [] fun v m'=>zsi (Go.Evl.settle cx slot 0 m m' v) fun p=>K p.1 p.2):zej E f args cx slot m K:=by
 obtain⟨v,m',h1,p,h2,h3⟩:=h
 exact⟨v,m',p,h1,h2,h3⟩
structure Rqt where
 (nm ca ki te pa li:List UInt8)
 (fr to da mi se si no:Int)
 deriving DecidableEq
def Rqt.cells (q:Rqt):List D:=[.str q.nm,.str q.ca,.str q.ki,.str q.te,.str q.pa,.str q.li,DI q.fr,DI q.to,DI q.da,DI q.mi,DI q.se,DI q.si,DI q.no]
structure Lnt where
 ac:List UInt8
 rq:Rqt
def Lnt.cells (l:Lnt):List D:= .str l.ac::l.rq.cells
section
variable {E : Oracle} (g : Good E)
include g
theorem ye6 (l:List (List UInt8)) (s:List UInt8) (hl:l.length<=140737488355328):Fc E zj9 [.d (.list l.length (l.map D.str)),S s] (B (decide (s∈l))):=by
 refine g.fn rfl rfl ?_
 conv=>whnf
 refine zao.upP g (fun k=>[(0,.d (.list l.length (l.map D.str))),(1,S s),(5,I k)]) (fun _=>[]) (fun k=>∀i,i<k->∀x,l[i]? =some x->x≠s) l.length (fun k hk hp ih=> ?_) 0 (Nat.zero_le _) (fun i hi=>absurd hi (Nat.not_lt_zero _))
 by_cases hlt:k<l.length
 ·have hg:(l.map D.str)[((k:Int)).toNat*1]? =some (.str l[k]):=by simp [hlt]
  by_cases he:l[k]=s
  ·rw [decide_eq_true (by rw [<-he];exact List.getElem_mem hlt)]
   repeat' ((conv=>whnf);first
   | refine Yz ?_
    | (refine zgz.now hg ?_)
    | (refine Cmp.tt he ?_)
    | (refine Ret.mk rfl))
  ·have ih:=ih hlt fun i hi x hx=>by
    by_cases e:i=k
    ·subst e
     rw [List.getElem?_eq_getElem hlt] at hx
     rw [<-Option.some.inj hx];exact he
    ·exact hp i (by omega) x hx
   repeat' ((conv=>whnf);first
   | refine Yz ?_
    | (refine zgz.now hg ?_)
    | (refine Cmp.ff he ?_)
    | (refine zao.to ih rfl rfl))
 ·have hno:s∉l:=fun hm=>by
   obtain⟨i,hi,e⟩:=List.getElem_of_mem hm
   exact hp i (by omega) s (by rw [List.getElem?_eq_getElem hi,e]) rfl
  rw [decide_eq_false hno]
  repeat' ((conv=>whnf);first
  | refine Yz ?_
   | (refine Ret.mk rfl))
end
end Go.Proofs.YtmbofbehkalgkaaGreatDoor.Co
namespace Go.Evl
open Go Go.Lib
end Go.Evl
namespace Go.Proofs.YtmbofbehkalgkaaGreatDoor.Co
open Go Go.Evl
set_option maxHeartbeats 32000000
set_option maxRecDepth 100000
theorem z0e:∀l:List (List UInt8),Evl.strsOf (l.map D.str)=some l
 | []=>rfl
 | x::r=>by simp only [List.map_cons,Evl.strsOf,z0e r,Option.map_some]
section
variable {E : Oracle} (g : Good E)
include g
theorem ykz {f:Nat} {p:UInt8->Bool} {s:List UInt8} (h1:∀b:UInt8,b.toNat<128->Fc E f [.d (.int .i32 b.toNat)] (B (p b))) (h2:∀c:Int,128<=c->Fc E f [.d (.int .i32 c)] (B true)) (h3:∀b:UInt8,128<=b.toNat->p b=true):
  Fc E zgq [S s,.d (.fn f),B true] (I (z61 p s)):=by
 refine g.fn rfl rfl ?_
 repeat' ((conv=>whnf);first
 | refine Yz ?_)
 refine zao.to (zao.upP g (fun _=>[(1,.d (.fn f)),(2,B true),(10,.it ⟨0,10,0⟩)]) (fun k=>[(⟨0,10,0⟩,.iter s k)]) (fun k=>∀j,(hj:j<k)->(hj':j<s.length)->p s[j]=false) s.length (fun k hk hp ih=> ?_) 0 (Nat.zero_le _) (fun j hj=>by omega)) rfl rfl
 by_cases hlt:k<s.length
 ·have eg:s.getD k 0=s[k]:=by simp [List.getD,hlt]
  by_cases ha:(s.getD k 0).toNat<128
  ·have hx:=h1 (s.getD k 0) ha
   cases hb:p s[k] with
   | true=>
    rw [eg,hb] at hx
    rw [eg] at ha
    have hi:=zqh (p:=p) hlt hb fun j hj=>hp j hj (by omega)
    rw [hi]
    repeat' ((conv=>whnf);first
    | refine Yz ?_
     | (refine zpp.asc hlt (by rw [eg];exact ha) ?_;rw [eg])
     | (apply zaz.of;assumption)
     | (refine Ret.mk rfl))
   | false=>
    rw [eg,hb] at hx
    rw [eg] at ha
    have ih:=ih hlt fun j hj hj'=>by
     by_cases e:j=k
     ·subst e;exact hb
     ·exact hp j (by omega) hj'
    repeat' ((conv=>whnf);first
    | refine Yz ?_
     | (refine zpp.asc hlt (by rw [eg];exact ha) ?_;rw [eg])
     | (apply zaz.of;assumption)
     | (refine zao.to ih rfl rfl))
  ·have hb:p s[k]=true:=by rw [<-eg];exact h3 _ (by omega)
   have hi:=zqh (p:=p) hlt hb fun j hj=>hp j hj (by omega)
   rw [hi]
   repeat' ((conv=>whnf);first
   | refine Yz ?_
    | (refine zpp.high hlt (by omega) (fun c w hc hw=> ?_);have hx:=h2 c hc)
    | (apply zaz.of;assumption)
    | (refine Ret.mk rfl))
 ·obtain rfl:k=s.length:=by omega
  have hi:=znx (p:=p) (l:=s) fun j hj=>hp j hj hj
  rw [hi]
  repeat' ((conv=>whnf);first
  | refine Yz ?_
   | (refine zpp.end' (Nat.le_refl _) ?_)
   | (refine Ret.mk rfl))
theorem yfk {f:Nat} {p:UInt8->Bool} {s:List UInt8} (h1:∀b:UInt8,b.toNat<128->Fc E f [.d (.int .i32 b.toNat)] (B (p b))) (h2:∀c:Int,128<=c->Fc E f [.d (.int .i32 c)] (B true)) (h3:∀b:UInt8,128<=b.toNat->p b=true):
  Fc E zcw [S s,.d (.fn f)] (B (s.any p)):=by
 have h:=ykz g (s:=s) h1 h2 h3
 have hi:Fc E zgp [S s,.d (.fn f)] (I (z61 p s)):=by
  refine g.fn rfl rfl ?_
  repeat' ((conv=>whnf);first
  | refine Yz ?_
   | (apply zaz.of;assumption)
   | (refine Ret.mk rfl))
 refine g.fn rfl rfl ?_
 rw [<-z1k]
 repeat' ((conv=>whnf);first
 | refine Yz ?_
  | (apply zaz.of;assumption)
  | (refine Cmp.mk (fun h=> ?_) (fun h=> ?_))|(refine Rem.any (by omega) (fun r hr he=> ?_))|(refine Br.mk (fun h=> ?_) (fun h=> ?_))
  | (refine Ret.mk ?_))
 all_goals simp_all
end
theorem yb5 {cx:Cx} {slot lo:Nat} {old m:Mem} {o:Evl.Id} {v:V} (hi:Go.Evl.ids v=[o]) (hr:Go.Evl.ren [] v=v) (h:o.lv<lo):Go.Evl.settle cx slot lo old m v=some (v,old):=by
 have hn:¬lo<=o.lv:=by omega
 have hr':Go.Evl.reach lo m 64 (Go.Evl.ids v) []=[]:=by
  rw [hi]
  simp [Go.Evl.reach,hn]
 unfold Go.Evl.settle
 simp only [hr']
 rw [if_pos (by rw [hi];simp [Go.Evl.within,Go.Evl.movable,Go.Evl.onceB,h])]
 simp [Go.Evl.number,hr,Go.Evl.moved]
theorem zsi.low {cx:Cx} {slot lo:Nat} {old m:Mem} {o:Evl.Id} {v:V} {K:V×Mem->Prop} (hi:Go.Evl.ids v=[o]) (hr:Go.Evl.ren [] v=v) (h:o.lv<lo) (k:K (v,old)):zsi (Go.Evl.settle cx slot lo old m v) K:=⟨_,yb5 hi hr h,k⟩
theorem zay {α:Type} (cell:α->List D) (w:Nat) (hw:∀a,(cell a).length=w):∀l:List α,(l.flatMap cell).length=l.length*w
 | []=>by simp
 | c::r=>by rw [List.flatMap_cons,List.length_append,hw,zay cell w hw r,List.length_cons,Nat.succ_mul];omega
theorem zoj {α:Type} (cell:α->List D) (w:Nat) (hw:∀a,(cell a).length=w):∀(l:List α) (k:Nat),(l.flatMap cell).drop (k*w)=(l.drop k).flatMap cell
 | l,0=>by simp
 | [],k+1=>by simp
 | c::r,k+1=>by
  rw [List.flatMap_cons,List.drop_succ_cons,<-zoj cell w hw r k,Nat.succ_mul,Nat.add_comm,<-List.drop_drop]
  congr 1
  rw [List.drop_append_of_le_length (by rw [hw];exact Nat.le_refl _),List.drop_of_length_le (by rw [hw];exact Nat.le_refl _)]
  rfl
theorem zil {α:Type} (cell:α->List D) (w:Nat) (hw:∀a,(cell a).length=w) (l:List α) (k:Nat) (h:k<l.length):win (l.flatMap cell) (k*w) w=cell l[k]:=by
 unfold win
 rw [zoj cell w hw,List.drop_eq_getElem_cons h,List.flatMap_cons,List.take_append_of_le_length (by rw [hw];exact Nat.le_refl _),List.take_of_length_le (by rw [hw];exact Nat.le_refl _)]
theorem ydp {α:Type} (cell:α->List D) (w:Nat) (hw:∀a,(cell a).length=w) (l:List α) (k j:Nat) (h:k<l.length) (hj:j<w):(l.flatMap cell)[k*w+j]? =(cell l[k])[j]? :=by
 rw [<-List.getElem?_drop,zoj cell w hw,List.drop_eq_getElem_cons h,List.flatMap_cons,List.getElem?_append_left (by rw [hw];exact hj)]
theorem zf8.rec {α:Type} {cell:α->List D} {w:Nat} (hw:∀a,(cell a).length=w) {l:List α} {i:Int} {K:List D->Prop} (k:Nat) (hi:i=k) (h:k<l.length) (hk:K (cell l[k])):zf8 (l.flatMap cell) (i.toNat*w) w K:=by
 subst hi
 rw [Int.toNat_natCast]
 have h1:=zay cell w hw l
 refine⟨?_,by rw [zil cell w hw l k h];exact hk⟩
 have h2:(k+1)*w<=l.length*w:=Nat.mul_le_mul_right _ h
 rw [Nat.succ_mul] at h2
 omega
theorem zf8.rec0 {α:Type} {cell:α->List D} {w:Nat} (hw:∀a,(cell a).length=w) {l:List α} {i:Int} {K:List D->Prop} (k:Nat) (hi:i=k) (h:k<l.length) (hk:K (cell l[k])):zf8 (l.flatMap cell) ((0+i.toNat)*w) w K:=by
 rw [Nat.zero_add];exact zf8.rec hw k hi h hk
theorem zgz.rec {α:Type} {cell:α->List D} {w:Nat} (hw:∀a,(cell a).length=w) {l:List α} {i:Int} {j:Nat} {K:D->Prop} {d:D} (k:Nat) (hi:i=k) (h:k<l.length) (hj:(cell l[k])[j]? =some d) (hk:K d):zgz (l.flatMap cell) (i.toNat*w+j) K:=by
 subst hi
 rw [Int.toNat_natCast]
 have hlt:j<w:=by
  have:=(List.getElem?_eq_some_iff.1 hj).1
  rwa [hw] at this
 exact⟨⟨d,by rw [ydp cell w hw l k j h hlt];exact hj,hk⟩⟩
theorem zgz.rec0 {α:Type} {cell:α->List D} {w:Nat} (hw:∀a,(cell a).length=w) {l:List α} {i:Int} {j:Nat} {K:D->Prop} {d:D} (k:Nat) (hi:i=k) (h:k<l.length) (hj:(cell l[k])[j]? =some d) (hk:K d):zgz (l.flatMap cell) ((0+i.toNat)*w+j) K:=by
 rw [Nat.zero_add];exact zgz.rec hw k hi h hj hk
theorem ygc {α:Type} (f:α->List D) (n:Nat) (hf:∀a,(f a).length=n) (l:List α) (k:Nat) (h:k<=l.length):win (l.flatMap f) 0 (k*n)=(l.take k).flatMap f:=by
 unfold win
 rw [List.drop_zero]
 have e:l.flatMap f=(l.take k).flatMap f++(l.drop k).flatMap f:=by rw [<-List.flatMap_append,List.take_append_drop]
 have hn:=zay f n hf (l.take k)
 rw [List.length_take,Nat.min_eq_left h] at hn
 rw [e,List.take_append_of_le_length (by omega),List.take_of_length_le (by omega)]
theorem Nf {A B:Prop}:(b:Bool)->b=false->B->(match b with|true=>A|false=>B)
 | false,_,k=>k
 | true,h,_=>Bool.noConfusion h
theorem Nt {A B:Prop}:(b:Bool)->b=true->A->(match b with|true=>A|false=>B)
 | true,_,k=>k
 | false,h,_=>Bool.noConfusion h
theorem zdp {u t:Evl.Id} {l:List Evl.Id} (h:idB u t=true):yeb (u::l) t=true:=by
 unfold yeb
 rw [h]
theorem zcg {u t:Evl.Id} {l:List Evl.Id} {b:Bool} (h:idB u t=false) (k:yeb l t=b):yeb (u::l) t=b:=by
 unfold yeb
 rw [h]
 exact k
theorem z0s {a b:Nat} (h:¬a=b):Nat.beq a b=false:=by
 cases hb:Nat.beq a b with
 | false=>rfl
 | true=>exact absurd (Nat.eq_of_beq_eq_true hb) h
abbrev LE (l:List Evt):V:= .d (.list l.length (l.flatMap Evt.cells))
theorem evw (e:Evt):e.cells.length=5:=rfl
mutual
theorem zsa:∀d:D,zhh d d=true
 | .int k a=>by simp [zhh]
 | .bool a=>by simp [zhh]
 | .str a=>by simp [zhh]
 | .nil=>rfl
 | .list n a=>by simp [zhh,zgw a]
 | .agg a=>by simp [zhh,zgw a]
 | .nilp=>rfl
 | .nilf=>rfl
 | .nili=>rfl
 | .ifc a=>by simp [zhh]
 | .nilm=>rfl
 | .fn a=>by simp [zhh]
theorem zgw:∀l:List D,zhw l l=true
 | []=>rfl
 | x::r=>by simp [zhw,zsa x,zgw r]
end
mutual
theorem zoh:∀v:V,zk8 v v=true
 | .d a=>zsa a
 | .agg a=>by simp [zk8,zj2 a]
 | .tup a=>by simp [zk8,zj2 a]
 | .ref o a b c=>by simp [zk8]
 | .ptr o a b=>by simp [zk8]
 | .lptr a n=>by simp [zk8,zgw a]
 | .cl n a=>by simp [zk8,zgw a]
 | .fn f a b=>by simp [zk8,zj2 a,zj2 b]
 | .yld o=>by simp [zk8]
 | .mp o=>by simp [zk8]
 | .it o=>by simp [zk8]
 | .skip=>rfl
 | .undef=>rfl
theorem zj2:∀l:List V,zte l l=true
 | []=>rfl
 | x::r=>by simp [zte,zoh x,zj2 r]
end
def z99:Mem->Bool
 | []=>true
 | (_,o)::r=>(match o with
  | .cells .. =>true
  | .row .. =>true
  | _=>false)&&z99 r
def ygq (m1:Mem):Mem->Prop
 | []=>True
 | (i,o)::r=>Evl.look m1 i=some o/\ygq m1 r
theorem z9t (m1:Mem):∀m:Mem,z99 m=true->ygq m1 m->z4b m1 m=true
 | [],_,_=>rfl
 | (i,o)::r,h,hk=>by
  obtain⟨h1,h2⟩:=hk
  simp only [z99,Bool.and_eq_true] at h
  have ih:=z9t m1 r h.2 h2
  unfold z4b
  rw [h1,ih,Bool.and_true]
  cases o<;>simp at h
  ·simp [z7u,zj2]
  ·simp [z7u,zgw]
structure Qs (E:Oracle) (f:Nat) (as0:List V) (m0:Mem) (r:V):Prop where
 got:In E 1 f as0 m0 fun v m1=>v=r/\ygq m1 m0
theorem zlk.of {E:Oracle} {f:Nat} {first caps args as0:List V} {m m0:Mem} {r r':V} {K:V->Prop} (is:List Evl.Id) (his:reach 0 m 64 (idsL (first ++args++caps)) []=is)
  (hc:(within is 0 (idsL (first ++args++caps))&&movable is 0 m)=true) (has:renL (number ⟨0,0⟩ 0 0 is) (first ++args++caps)=as0) (hm:moved (number ⟨0,0⟩ 0 0 is) m (number ⟨0,0⟩ 0 0 is)=m0)
  (hq:Qs E f as0 m0 r) (hp:z99 m0=true) (hid:(ids r).all (fun i=>((number ⟨0,0⟩ 0 0 is).map (·.2)).elem i)=true) (hr:ren (zl9 (number ⟨0,0⟩ 0 0 is)) r=r') (hk:K r'):zlk E (.fn f first caps) args m K:=by
 obtain⟨v,m1,h1,rfl,h3⟩:=hq.got
 refine⟨r',?_,hk⟩
 simp only [zrb,his,hc,if_true,has,hm,h1]
 rw [z9t m1 m0 hp h3,hid,hr]
 rfl
structure Ent where
 nm:List UInt8
 kd:List UInt8
 sr:List UInt8
 bs:List UInt8
 kn:Int
 fr:Int
 to:Int
 mi:Int
structure Rmv where
 en:List UInt8
 kn:Int
structure Cpl where
 nm:List UInt8
 en:List UInt8
 kn:Int
 cl:Bool
 up:Bool
structure Rgs where
 kn:Int
 es:List Ent
 rs:List Rmv
 cs:List Cpl
def Ent.cells (e:Ent):List D:=[.str e.nm,.str e.kd,.str e.sr,.str e.bs,DI e.kn,DI e.fr,DI e.to,DI e.mi]
def Rmv.cells (r:Rmv):List D:=[.str r.en,DI r.kn]
def Cpl.cells (c:Cpl):List D:=[.str c.nm,.str c.en,DI c.kn,.bool c.cl,.bool c.up]
abbrev yna (e:Ent):V:= .d (.agg e.cells)
theorem z88 (e:Ent):e.cells.length=8:=rfl
theorem ym6 (e:Rmv):e.cells.length=2:=rfl
theorem ycq (e:Cpl):e.cells.length=5:=rfl
abbrev mR (t:Nat) (ev:List Evt) (r:Rgs):Mem:=[(⟨0,0,0⟩,.cells t [.ref ⟨0,0,1⟩ 0 ev.length ev.length,I r.kn,.ref ⟨0,0,2⟩ 0 r.es.length r.es.length,.ref ⟨0,0,3⟩ 0 r.rs.length r.rs.length,.ref ⟨0,0,4⟩ 0 r.cs.length r.cs.length]),
 (⟨0,0,1⟩,.row false zae 5 ev.length (ev.flatMap Evt.cells)),(⟨0,0,2⟩,.row false zab 8 r.es.length (r.es.flatMap Ent.cells)),(⟨0,0,3⟩,.row false zaj 2 r.rs.length (r.rs.flatMap Rmv.cells)),(⟨0,0,4⟩,.row true zad 5 r.cs.length (r.cs.flatMap Cpl.cells))]
abbrev isR:List Evl.Id:=[⟨0,0,0⟩,⟨0,0,1⟩,⟨0,0,2⟩,⟨0,0,3⟩,⟨0,0,4⟩]
def zsh (es:List Ent) (nm:List UInt8):Int:=z61 (fun x=>decide (x.nm=nm)) es
def z6p (cs:List Cpl) (nm:List UInt8):Int:=z61 (fun x=>decide (x.nm=nm)) cs
theorem zzi {α:Type} (p:α->Bool) (l:List α):(z61 p l= -1/\∀j,(hj:j<l.length)->p l[j]=false)\/∃k,∃hk:k<l.length,z61 p l=k/\p l[k]=true/\∀j,(hj:j<k)->p (l[j]'(by omega))=false:=by
 unfold z61
 cases h:l.findIdx? p with
 | none=>
  refine .inl ⟨rfl,fun j hj=> ?_⟩
  have:=List.findIdx?_eq_none_iff.1 h l[j] (List.getElem_mem hj)
  simpa using this
 | some i=>
  obtain⟨hi,hp,hn⟩:=List.findIdx?_eq_some_iff_getElem.1 h
  refine .inr ⟨i,hi,rfl,hp,fun j hj=> ?_⟩
  have:=hn j hj
  simpa using this
abbrev ydi (r:Rgs) (i:Int):V:=if 0<=i then .ptr ⟨0,0,2⟩ ((0+i.toNat)*8) r.es.length else .d .nilp
abbrev yir (r:Rgs) (i:Int):V:=if 0<=i then .ptr ⟨0,0,4⟩ ((0+i.toNat)*5) r.cs.length else .d .nilp
section
variable {E : Oracle} (g : Good E)
include g
theorem z19 (t:Nat) (ev:List Evt) (r:Rgs) (nm:List UInt8) (hl:r.es.length<=1000000):Qs E zbg [.ptr ⟨0,0,0⟩ 1 0,S nm] (mR t ev r) (ydi r (zsh r.es nm)):=by
 refine⟨?_⟩
 refine In.enter (f:=zbg) g.lim rfl rfl ?_
 have hml:(r.es.flatMap Ent.cells).length=r.es.length*8:=zay Ent.cells 8 z88 r.es
 repeat' ((conv=>whnf);first
 | refine Yz ?_
  | (refine In.enter (f:=zax) g.lim rfl rfl ?_)
  | fail)
 refine zao.to (zao.upP g (fun k=>[(0,.ref ⟨0,0,2⟩ 0 r.es.length r.es.length),(1,.fn zb6 [] [.ptr ⟨1,3,0⟩ 0 0]),(7,I r.es.length),(8,I k)]) (fun _=>mR t ev r++[(⟨1,3,0⟩,.cells zac [S nm])]) (fun k=>∀j,(hj:j<k)->(hj':j<r.es.length)->decide (r.es[j].nm=nm)=false) r.es.length (fun k hk hp ih=> ?_) 0 (Nat.zero_le _) (fun j h _=>absurd h (Nat.not_lt_zero _))) rfl rfl
 by_cases hlt:k<r.es.length
 ·have hwin:win (r.es.flatMap Ent.cells) ((0+((k:Nat):Int).toNat)*8) 8=r.es[k].cells:=by
   rw [Nat.zero_add,Int.toNat_natCast]
   exact zil Ent.cells 8 z88 r.es k hlt
  by_cases he:r.es[k].nm=nm
  ·have hi:zsh r.es nm=k:=zqh (p:=fun x:Ent=>decide (x.nm=nm)) hlt (decide_eq_true he) fun j hj=>hp j hj (by omega)
   rw [hi,ydi,if_pos (by omega)]
   repeat' ((conv=>whnf);first
   | refine Yz ?_
    | (rw [hwin];refine In.enter (f:=zb6) g.lim rfl rfl ?_)
    | (refine Cmp.tt he ?_)
    | (exact⟨rfl,rfl,rfl,rfl,rfl,rfl,trivial⟩)
    | fail)
  ·have ih:=ih hlt fun j hj hj'=>by
    by_cases e:j=k
    ·subst e;exact decide_eq_false he
    ·exact hp j (by omega) hj'
   repeat' ((conv=>whnf);first
   | refine Yz ?_
    | (rw [hwin];refine In.enter (f:=zb6) g.lim rfl rfl ?_)
    | (refine Cmp.ff he ?_)
    | (refine zao.to ih rfl rfl)
    | fail)
 ·obtain rfl:k=r.es.length:=by omega
  have hi:zsh r.es nm= -1:=znx (p:=fun x:Ent=>decide (x.nm=nm)) fun j hj=>hp j hj hj
  rw [hi,ydi,if_neg (by decide)]
  repeat' ((conv=>whnf);first
  | refine Yz ?_
   | (exact⟨rfl,rfl,rfl,rfl,rfl,rfl,trivial⟩)
   | fail)
theorem zqm (t:Nat) (ev:List Evt) (r:Rgs) (nm:List UInt8) (hl:r.cs.length<=1000000):Qs E zbj [.ptr ⟨0,0,0⟩ 1 0,S nm] (mR t ev r) (yir r (z6p r.cs nm)):=by
 refine⟨?_⟩
 refine In.enter (f:=zbj) g.lim rfl rfl ?_
 have hml:(r.cs.flatMap Cpl.cells).length=r.cs.length*5:=zay Cpl.cells 5 ycq r.cs
 repeat' ((conv=>whnf);first
 | refine Yz ?_
  | (refine In.enter (f:=zbb) g.lim rfl rfl ?_)
  | fail)
 refine zao.to (zao.upP g (fun k=>[(0,.ref ⟨0,0,4⟩ 0 r.cs.length r.cs.length),(1,.fn zbn [] [.ptr ⟨1,3,0⟩ 0 0]),(7,I r.cs.length),(8,I k)]) (fun _=>mR t ev r++[(⟨1,3,0⟩,.cells zac [S nm])]) (fun k=>∀j,(hj:j<k)->(hj':j<r.cs.length)->decide (r.cs[j].nm=nm)=false) r.cs.length (fun k hk hp ih=> ?_) 0 (Nat.zero_le _) (fun j h _=>absurd h (Nat.not_lt_zero _))) rfl rfl
 by_cases hlt:k<r.cs.length
 ·have hwin:win (r.cs.flatMap Cpl.cells) ((0+((k:Nat):Int).toNat)*5) 5=r.cs[k].cells:=by
   rw [Nat.zero_add,Int.toNat_natCast]
   exact zil Cpl.cells 5 ycq r.cs k hlt
  by_cases he:r.cs[k].nm=nm
  ·have hi:z6p r.cs nm=k:=zqh (p:=fun x:Cpl=>decide (x.nm=nm)) hlt (decide_eq_true he) fun j hj=>hp j hj (by omega)
   rw [hi,yir,if_pos (by omega)]
   repeat' ((conv=>whnf);first
   | refine Yz ?_
    | (rw [hwin];refine In.enter (f:=zbn) g.lim rfl rfl ?_)
    | (refine Cmp.tt he ?_)
    | (exact⟨rfl,rfl,rfl,rfl,rfl,rfl,trivial⟩)
    | fail)
  ·have ih:=ih hlt fun j hj hj'=>by
    by_cases e:j=k
    ·subst e;exact decide_eq_false he
    ·exact hp j (by omega) hj'
   repeat' ((conv=>whnf);first
   | refine Yz ?_
    | (rw [hwin];refine In.enter (f:=zbn) g.lim rfl rfl ?_)
    | (refine Cmp.ff he ?_)
    | (refine zao.to ih rfl rfl)
    | fail)
 ·obtain rfl:k=r.cs.length:=by omega
  have hi:z6p r.cs nm= -1:=znx (p:=fun x:Cpl=>decide (x.nm=nm)) fun j hj=>hp j hj hj
  rw [hi,yir,if_neg (by decide)]
  repeat' ((conv=>whnf);first
  | refine Yz ?_
   | (exact⟨rfl,rfl,rfl,rfl,rfl,rfl,trivial⟩)
   | fail)
end
inductive Ch (es:List Ent):Nat->List Ent->Prop
 | stop (k:Nat) (hk:k<es.length) (h:zsh es es[k].bs= -1):Ch es k [es[k]]
 | step (k j:Nat) (tl:List Ent) (hk:k<es.length) (h:zsh es es[k].bs=j) (ht:Ch es j tl):Ch es k (es[k]::tl)
def ygm (rs:List Rmv) (nm:List UInt8) (kn:Int):Bool:=rs.any fun z=>decide (z.en=nm/\z.kn<=kn)
abbrev mC (t:Nat) (ev:List Evt) (r:Rgs) (x:Ent) (kn:Int):Mem:=mR t ev r++[(⟨1,3,0⟩,.cells zb5 [.ptr ⟨0,0,0⟩ 1 0]),(⟨1,4,0⟩,.cells zab [S x.nm,S x.kd,S x.sr,S x.bs,I x.kn,I x.fr,I x.to,I x.mi]),(⟨1,5,0⟩,.cells zbv [I kn])]
section
variable {E : Oracle} (g : Good E)
include g
theorem zzj (t:Nat) (ev:List Evt) (r:Rgs) (x y:Ent) (kn:Int) (hl:r.rs.length<=1000000) {slot:Nat} {K:V->Mem->Prop} (hK:K (B (ygm r.rs y.nm kn)) (mC t ev r x kn)):
  In E 4 zby [yna y,.ptr ⟨1,3,0⟩ 0 0,.ptr ⟨1,5,0⟩ 0 0] (mC t ev r x kn) fun v m'=>z6e ⟨3,4⟩ slot true v m' K:=by
 refine In.enter (f:=zby) g.lim rfl rfl ?_
 have hml:(r.rs.flatMap Rmv.cells).length=r.rs.length*2:=zay Rmv.cells 2 ym6 r.rs
 repeat' ((conv=>whnf);first
 | refine Yz ?_
  | (refine In.enter (f:=zbc) g.lim rfl rfl ?_)
  | (refine In.enter (f:=zbe) g.lim rfl rfl ?_)
  | fail)
 refine zao.to (zao.upP g (fun k=>[(0,.ref ⟨0,0,3⟩ 0 r.rs.length r.rs.length),(1,.fn zbi [] [.ptr ⟨4,3,0⟩ 0 0,.ptr ⟨1,5,0⟩ 0 0]),(7,I r.rs.length),(8,I k)]) (fun _=>mC t ev r x kn++[(⟨4,3,0⟩,.cells zab [S y.nm,S y.kd,S y.sr,S y.bs,I y.kn,I y.fr,I y.to,I y.mi])])
  (fun k=>∀j,(hj:j<r.rs.length)->j<k->¬(r.rs[j].en=y.nm/\r.rs[j].kn<=kn)) r.rs.length (fun k hk hp ih=> ?_) 0 (Nat.zero_le _) (fun j _ h=>absurd h (Nat.not_lt_zero _))) rfl rfl
 by_cases hlt:k<r.rs.length
 ·have hwin:win (r.rs.flatMap Rmv.cells) ((0+((k:Nat):Int).toNat)*2) 2=r.rs[k].cells:=by
   rw [Nat.zero_add,Int.toNat_natCast]
   exact zil Rmv.cells 2 ym6 r.rs k hlt
  by_cases he:r.rs[k].en=y.nm
  ·by_cases hn:r.rs[k].kn<=kn
   ·have hb:ygm r.rs y.nm kn=true:=List.any_eq_true.2 ⟨_,List.getElem_mem hlt,decide_eq_true ⟨he,hn⟩⟩
    rw [hb] at hK
    repeat' ((conv=>whnf);first
    | refine Yz ?_
     | (rw [hwin];refine In.enter (f:=zbi) g.lim rfl rfl ?_)
     | (refine Cmp.tt he ?_)
     | (exact hK)
     | fail)
   ·have ih:=ih hlt fun j hj hjk=>by
     by_cases e:j=k
     ·subst e;exact fun h=>hn h.2
     ·exact hp j hj (by omega)
    repeat' ((conv=>whnf);first
    | refine Yz ?_
     | (rw [hwin];refine In.enter (f:=zbi) g.lim rfl rfl ?_)
     | (refine Cmp.tt he ?_)
     | (refine zao.to ih rfl rfl)
     | fail)
  ·have ih:=ih hlt fun j hj hjk=>by
    by_cases e:j=k
    ·subst e;exact fun h=>he h.1
    ·exact hp j hj (by omega)
   repeat' ((conv=>whnf);first
   | refine Yz ?_
    | (rw [hwin];refine In.enter (f:=zbi) g.lim rfl rfl ?_)
    | (refine Cmp.ff he ?_)
    | (refine zao.to ih rfl rfl)
    | fail)
 ·obtain rfl:k=r.rs.length:=by omega
  have hb:ygm r.rs y.nm kn=false:=by
   unfold ygm
   rw [List.any_eq_false]
   intro z hz
   obtain⟨j,hj,rfl⟩:=List.mem_iff_getElem.1 hz
   simpa using hp j hj hj
  rw [hb] at hK
  repeat' ((conv=>whnf);first
  | refine Yz ?_
   | (exact hK)
   | fail)
theorem yhn (t:Nat) (ev:List Evt) (r:Rgs) (kn:Int) (hr:r.rs.length<=1000000) (hl:r.es.length<=1000000) (k:Nat) (hk:k<r.es.length) (c:List Ent) (hc:Ch r.es k c) (hcl:c.length<=1000000):
  Qs E zbk [.ptr ⟨0,0,0⟩ 1 0,yna r.es[k],I kn] (mR t ev r) (B (decide (r.es[k].kn<=kn)&& !c.any fun y=>ygm r.rs y.nm kn)):=by
 refine⟨?_⟩
 generalize hx:r.es[k]=x at *
 have hml:(r.es.flatMap Ent.cells).length=r.es.length*8:=zay Ent.cells 8 z88 r.es
 refine In.enter (f:=zbk) g.lim rfl rfl ?_
 repeat' ((conv=>whnf);first
 | refine Yz ?_
  | (refine In.enter (f:=zdg) g.lim rfl rfl ?_)
  | fail)
 refine zao.to (zao.by (σ:=List Ent×Ent×Nat×List Ent) g (fun u=>(∃hk:u.2.2.1<r.es.length,r.es[u.2.2.1]=u.2.1)/\Ch r.es u.2.2.1 u.2.2.2/\∃pre,u.1=pre++[u.2.1]/\pre++u.2.2.2=c)
  (fun u=>[(0,.ptr ⟨0,0,0⟩ 1 0),(5,.ref ⟨2,8,0⟩ 0 u.1.length u.1.length)])
  (fun u=>mC t ev r x kn++[(⟨2,3,0⟩,.cells zab [S x.nm,S x.kd,S x.sr,S x.bs,I x.kn,I x.fr,I x.to,I x.mi]),(⟨2,4,0⟩,.row false zab 8 0 []),(⟨2,8,0⟩,.row false zab 8 u.1.length (u.1.flatMap Ent.cells))])
  (fun u=>u.2.2.2.length) ?_ ([x],x,k,c) ⟨⟨hk,hx⟩,hc,[],rfl,rfl⟩) rfl rfl
 clear hc hx
 rintro⟨out,y,k,tl⟩ ⟨⟨hk,hy⟩,hc,pre,h1,h2⟩ ih
 dsimp only at hk hy hc h1 h2 ih ⊢
 have hol:out.length=pre.length+1:=by rw [h1];simp
 have hlast:out[pre.length]'(by omega)=y:=by simp [h1]
 have hq:=z19 g t ev r y.bs hl
 have hcl2:pre.length+tl.length<=1000000:=by rw [<-List.length_append,h2];exact hcl
 have hmo:(out.flatMap Ent.cells).length=out.length*8:=zay Ent.cells 8 z88 out
 cases hc with
 | stop k hk' h=>
  rw [hy] at h h2
  rw [h,ydi,if_neg (by decide)] at hq
  obtain rfl:out=c:=h1.trans h2
  repeat' ((conv=>whnf);first
  | refine Yz ?_
   | (refine zgz.rec0 z88 pre.length (by omega) (by omega) rfl ?_;rw [hlast])
   | (refine zlk.of (r':= .d .nilp) isR rfl rfl rfl rfl hq rfl rfl rfl ?_)
   | (rw [if_pos ⟨rfl,rfl⟩];refine In.enter (f:=za3) g.lim rfl rfl ?_)
   | (refine In.enter (f:=zax) g.lim rfl rfl ?_)
   | fail)
  refine zao.to (zao.upP g (fun k=>[(0,.d (.list out.length (out.flatMap Ent.cells))),(1,.fn zby [] [.ptr ⟨1,3,0⟩ 0 0,.ptr ⟨1,5,0⟩ 0 0]),(7,I out.length),(8,I k)]) (fun _=>mC t ev r x kn)
   (fun k=>∀j,(hj:j<out.length)->j<k->ygm r.rs out[j].nm kn=false) out.length (fun m hm hp ihm=> ?_) 0 (Nat.zero_le _) (fun j _ h=>absurd h (Nat.not_lt_zero _))) rfl rfl
  by_cases hlt:m<out.length
  ·have hwin:win (out.flatMap Ent.cells) (((m:Nat):Int).toNat*8) 8=out[m].cells:=by
    rw [Int.toNat_natCast]
    exact zil Ent.cells 8 z88 out m hlt
   cases hb:ygm r.rs out[m].nm kn with
   | true=>
    have ha:(out.any fun y=>ygm r.rs y.nm kn)=true:=List.any_eq_true.2 ⟨_,List.getElem_mem hlt,hb⟩
    rw [ha,Bool.not_true,Bool.and_false]
    by_cases hkn:x.kn<=kn
    all_goals repeat' ((conv=>whnf);first
    | refine Yz ?_
     | (rw [hwin];refine zzj g t ev r x out[m] kn hr (slot:=16) ?_;rw [hb])
     | (exact⟨rfl,rfl,rfl,rfl,rfl,rfl,trivial⟩)
     | fail)
   | false=>
    have ihm:=ihm hlt fun j hj hjm=>by
     by_cases e:j=m
     ·subst e;exact hb
     ·exact hp j hj (by omega)
    repeat' ((conv=>whnf);first
    | refine Yz ?_
     | (rw [hwin];refine zzj g t ev r x out[m] kn hr (slot:=16) ?_;rw [hb])
     | (refine zao.to ihm rfl rfl)
     | fail)
  ·obtain rfl:m=out.length:=by omega
   have ha:(out.any fun y=>ygm r.rs y.nm kn)=false:=by
    rw [List.any_eq_false]
    intro z hz
    obtain⟨j,hj,rfl⟩:=List.mem_iff_getElem.1 hz
    rw [hp j hj hj];decide
   rw [ha,Bool.not_false,Bool.and_true]
   by_cases hkn:x.kn<=kn
   ·rw [decide_eq_true hkn]
    repeat' ((conv=>whnf);first
    | refine Yz ?_
     | (exact⟨rfl,rfl,rfl,rfl,rfl,rfl,trivial⟩)
     | fail)
   ·rw [decide_eq_false hkn]
    repeat' ((conv=>whnf);first
    | refine Yz ?_
     | (exact⟨rfl,rfl,rfl,rfl,rfl,rfl,trivial⟩)
     | fail)
 | step k j tl hk' h ht=>
  rw [hy] at h h2
  rw [h,ydi,if_pos (by omega)] at hq
  obtain⟨hj,hj'⟩:∃hj:j<r.es.length,True:=by
   cases ht with
   | stop _ hj _=>exact⟨hj,trivial⟩
   | step _ _ _ hj _ _=>exact⟨hj,trivial⟩
  have hwin:win (r.es.flatMap Ent.cells) ((0+((j:Nat):Int).toNat)*8) 8=r.es[j].cells:=by
   rw [Nat.zero_add,Int.toNat_natCast]
   exact zil Ent.cells 8 z88 r.es j hj
  simp only [List.length_cons] at hcl2
  have ih:=ih (out++[r.es[j]],r.es[j],j,tl) ⟨⟨hj,rfl⟩,ht,out,rfl,by rw [h1,List.append_assoc];exact h2⟩ (by simp)
  simp only [List.length_append,List.length_cons,List.length_nil,List.flatMap_append,List.flatMap_cons,List.flatMap_nil] at ih
  repeat' ((conv=>whnf);first
  | refine Yz ?_
   | (refine zgz.rec0 z88 pre.length (by omega) (by omega) rfl ?_;rw [hlast])
   | (refine zlk.of (r':= .ptr ⟨0,0,2⟩ ((0+((j:Nat):Int).toNat)*8) r.es.length) isR rfl rfl rfl rfl hq rfl rfl rfl ?_)
   | (rw [hwin])
   | (refine zez.mk ⟨rfl,rfl,rfl,rfl,rfl,rfl,by dsimp only;omega,by omega⟩ ?_)
   | (refine zao.to ih rfl rfl)
   | fail)
end
def chF:Nat->List Ent->Ent->List Ent
 | 0,_,x=>[x]
 | n+1,es,x=>if h:0<=zsh es x.bs/\(zsh es x.bs).toNat<es.length then x::chF n es es[(zsh es x.bs).toNat] else [x]
def ylo (es:List Ent):Prop:=∀k,(hk:k<es.length)->zsh es es[k].bs<k
theorem zgt (es:List Ent) (nm:List UInt8):(zsh es nm= -1/\∀j,(hj:j<es.length)->es[j].nm≠nm)\/∃k,∃hk:k<es.length,zsh es nm=k/\es[k].nm=nm/\∀j,(hj:j<k)->(es[j]'(by omega)).nm≠nm:=by
 rcases zzi (fun x:Ent=>decide (x.nm=nm)) es with⟨h1,h2⟩|⟨k,hk,h1,h2,h3⟩
 ·exact .inl ⟨h1,fun j hj=>of_decide_eq_false (h2 j hj)⟩
 ·exact .inr ⟨k,hk,h1,of_decide_eq_true h2,fun j hj=>of_decide_eq_false (h3 j hj)⟩
theorem zy6 (cs:List Cpl) (nm:List UInt8):z6p cs nm= -1\/∃k,∃hk:k<cs.length,z6p cs nm=k/\cs[k].nm=nm:=by
 rcases zzi (fun x:Cpl=>decide (x.nm=nm)) cs with⟨h1,_⟩|⟨k,hk,h1,h2,_⟩
 ·exact .inl h1
 ·exact .inr ⟨k,hk,h1,of_decide_eq_true h2⟩
theorem yip {es:List Ent} (hb:ylo es):∀(n k:Nat),k<=n->(hk:k<es.length)->Ch es k (chF n es es[k])
 | 0,k,hn,hk=>by
  obtain rfl:k=0:=by omega
  have h:=hb 0 hk
  rcases zgt es es[0].bs with⟨h1,_⟩|⟨j,_,h1,_⟩
  ·exact .stop 0 hk h1
  ·omega
 | n+1,k,hn,hk=>by
  have h:=hb k hk
  rcases zgt es es[k].bs with⟨h1,_⟩|⟨j,hj,h1,_⟩
  ·unfold chF
   rw [dif_neg (by omega)]
   exact .stop k hk h1
  ·have e:(zsh es es[k].bs).toNat=j:=by omega
   unfold chF
   rw [dif_pos ⟨by omega,by omega⟩]
   simp only [e]
   exact .step k j _ hk h1 (yip hb n j (by omega) hj)
theorem yc8 (es:List Ent):∀(n:Nat) (x:Ent),(chF n es x).length<=n+1
 | 0,x=>by simp [chF]
 | n+1,x=>by
  unfold chF
  split
  ·have:=yc8 es n es[(zsh es x.bs).toNat]
   simp only [List.length_cons];omega
  ·simp
def ylh (r:Rgs) (x:Ent) (kn:Int):Bool:=decide (x.kn<=kn)&& !(chF r.es.length r.es x).any fun y=>ygm r.rs y.nm kn
structure OkR (r:Rgs):Prop where
 bs:∀k,(hk:k<r.es.length)->r.es[k].bs=[]\/∃j:Nat,j<k/\zsh r.es r.es[k].bs=j
 nm:∀x∈r.es,x.nm≠[]
 asc:r.es.Pairwise fun a b=>a.kn<=b.kn
 top:∀x∈r.es,x.kn<=r.kn
 mi:∀x∈r.es,0<=x.mi/\x.mi<=1440
 es:r.es.length<=256
 rs:r.rs.length<=1000
 cs:r.cs.length<=64
theorem yjt {es:List Ent} (h:∀x∈es,x.nm≠[]):zsh es []= -1:=by
 rcases zgt es [] with⟨h1,_⟩|⟨j,hj,_,h2,_⟩
 ·exact h1
 ·exact absurd h2 (h _ (List.getElem_mem hj))
theorem OkR.bases {r:Rgs} (h:OkR r):ylo r.es:=by
 intro k hk
 rcases h.bs k hk with e|⟨j,hj,e⟩
 ·rw [e,yjt h.nm];omega
 ·omega
theorem OkR.le {r:Rgs} (h:OkR r) {i j:Nat} (hij:i<=j) (hj:j<r.es.length):(r.es[i]'(by omega)).kn<=r.es[j].kn:=by
 by_cases e:i=j
 ·subst e;exact Int.le_refl _
 ·exact List.pairwise_iff_getElem.1 h.asc i j (by omega) hj (by omega)
def ym1:Ent:=⟨[],[],[],[],0,0,0,0⟩
def yli:Cpl:=⟨[],[],0,false,false⟩
def zrx (r:Rgs) (nm:List UInt8) (kn:Int):Int:=if zsh r.es nm<0 then 10 else if ylh r (r.es.getD (zsh r.es nm).toNat ym1) kn then 0 else 20
theorem z4q {r:Rgs} {nm:List UInt8} (h:zsh r.es nm= -1) (kn:Int):zrx r nm kn=10:=by
 unfold zrx
 rw [h,if_pos (by decide)]
theorem z4r {r:Rgs} {nm:List UInt8} {k:Nat} (hk:k<r.es.length) (h:zsh r.es nm=k) (kn:Int):zrx r nm kn=if ylh r r.es[k] kn then 0 else 20:=by
 unfold zrx
 rw [h,if_neg (by omega),Int.toNat_natCast]
 have:r.es.getD k ym1=r.es[k]:=by simp [List.getD,hk]
 rw [this]
def ym3 (r:Rgs) (nm:List UInt8):Int:=zbf [if 0<=zsh r.es nm then 9 else 0,if 256<=r.es.length then 5 else 0]
def zvn (r:Rgs) (fol:Bool) (nm b:List UInt8) (kn f t m:Int):Int:=
 if ym3 r nm≠0 then ym3 r nm
 else if fol=true/\zrx r b kn≠0 then zrx r b kn
 else zbf [if 99999<f\/99999<t\/1440<m then 3 else 0,if t<f then 11 else 0]
def yc1 (r:Rgs) (nm:List UInt8) (kn:Int):Int:=if zsh r.es nm<0 then 10 else zbf [if(r.es.getD (zsh r.es nm).toNat ym1).kd=zup then 0 else 13,zrx r nm kn]
def z8t (r:Rgs) (nm en:List UInt8) (kn:Int):Int:=zbf [if 0<=z6p r.cs nm then 9 else 0,if 64<=r.cs.length then 5 else 0,zrx r en kn]
def z2x (r:Rgs) (nm:List UInt8) (v:Int):Int:=if z6p r.cs nm<0 then 10 else zbf [if(r.cs.getD (z6p r.cs nm).toNat yli).cl then 20 else 0,if 1<v then 3 else 0]
def nmN (e:Evt) (i:Nat):List UInt8:=e.ns.getD i []
def vlN (e:Evt) (i:Nat):Int:=e.vs.getD i 0
def yd3 (k:List UInt8):Bool:=decide (k=zpj)||decide (k=zup)||decide (k=zc1)
def ya5 (r:Rgs) (e:Evt):Int:=
 if yd3 e.ki then zvn r (decide (e.ki=zc1)) (nmN e 0) (nmN e 2) (vlN e 0) (vlN e 1) (vlN e 2) (vlN e 3)
 else if e.ki=zdo then yc1 r (nmN e 0) (vlN e 0)
 else if e.ki=zct then z8t r (nmN e 0) (nmN e 1) (vlN e 0)
 else z2x r (nmN e 0) (vlN e 1)
def yje (r:Rgs) (n:Nat) (e:Evt):Int:=zbf [if e.nu=n+1 then 0 else 11,if vlN e 0<r.kn then 19 else 0,if 99999<vlN e 0 then 3 else 0]
def ygs (r:Rgs) (n:Nat) (e:Evt):Int:=if yje r n e≠0 then yje r n e else ya5 r e
def yg2 (e:Evt):Ent:=⟨nmN e 0,e.ki,nmN e 1,if e.ki=zc1 then nmN e 2 else [],vlN e 0,vlN e 1,vlN e 2,vlN e 3⟩
def z6b (r:Rgs) (e:Evt):Rgs:=
 if yd3 e.ki then {r with kn:=vlN e 0,es:=r.es++[yg2 e]}
 else if e.ki=zdo then {r with kn:=vlN e 0,rs:=r.rs++[⟨nmN e 0,vlN e 0⟩]}
 else if e.ki=zct then {r with kn:=vlN e 0,cs:=r.cs++[⟨nmN e 0,nmN e 1,vlN e 0,false,false⟩]}
 else
  let c:=r.cs.getD (z6p r.cs (nmN e 0)).toNat yli
  {r with kn:=vlN e 0,cs:=r.cs.set (z6p r.cs (nmN e 0)).toNat {c with cl:=true,up:=decide (vlN e 1=1)},rs:=if vlN e 1=1 then r.rs++[⟨c.en,vlN e 0⟩] else r.rs}
def zqo (r:Rgs) (n:Nat) (e:Evt):Int:=if yco e≠0 then yco e else ygs r n e
def rg0:Rgs:=⟨0,[],[],[]⟩
def zlg:Rgs->Nat->List Evt->Rgs×Nat×Int
 | r,_,[]=>(r,0,0)
 | r,n,e::l=>if zqo r n e≠0 then(rg0,n+1,zqo r n e) else zlg (z6b r e) (n+1) l
theorem yc9 {e:Evt} (h:yco e=0):zzk e.ki=true/\e.ns.length=ybd e.ki/\e.vs.length=ydq e.ki/\(∀s∈e.ns,zdt s=true)/\(∀v∈e.vs,0<=v/\v<=999999999)/\e.tx=[]/\1<=e.nu/\e.nu<=1000:=by
 unfold yco at h
 rw [zcx] at h
 have h1:=h (rng e.nu 1 1000) (by simp)
 have h2:=h (if !zzk e.ki then 13 else 0) (by simp)
 have h3:=h (if e.ns.length≠ybd e.ki\/e.vs.length≠ydq e.ki then 2 else 0) (by simp)
 have h4:=h (if zop e.ns then 8 else 0) (by simp)
 have h5:=h (if far e.vs then 3 else 0) (by simp)
 have h6:=h (if e.tx≠[] then 1 else 0) (by simp)
 refine⟨?_,?_,?_,?_,?_,?_,?_⟩
 ·cases hk:zzk e.ki
  ·rw [hk] at h2;simp at h2
  ·rfl
 ·exact Decidable.byContradiction fun hn=>by rw [if_pos (.inl hn)] at h3;omega
 ·exact Decidable.byContradiction fun hn=>by rw [if_pos (.inr hn)] at h3;omega
 ·intro s hs
  have:zop e.ns=false:=by cases hh:zop e.ns with|false=>rfl|true=>rw [hh] at h4;simp at h4
  unfold zop at this
  rw [List.any_eq_false] at this
  have:=this s hs
  simpa using this
 ·intro v hv
  have:far e.vs=false:=by cases hh:far e.vs with|false=>rfl|true=>rw [hh] at h5;simp at h5
  unfold far at this
  rw [List.any_eq_false] at this
  have:=this v hv
  simp only [ylw,decide_eq_true_eq] at this
  omega
 ·exact Decidable.byContradiction fun hn=>by rw [if_pos hn] at h6;omega
 ·unfold rng at h1
  split at h1
  ·omega
  ·omega
theorem yik {r:Rgs} {n:Nat} {e:Evt} (h:ygs r n e=0):e.nu=n+1/\r.kn<=vlN e 0/\vlN e 0<=99999/\ya5 r e=0:=by
 unfold ygs at h
 split at h
 ·rename_i h1;exact absurd h h1
 ·rename_i h1
  have h1:=Decidable.byContradiction h1
  rw [yje,zcx] at h1
  have a:=h1 (if e.nu=n+1 then 0 else 11) (by simp)
  have b:=h1 (if vlN e 0<r.kn then 19 else 0) (by simp)
  have c:=h1 (if 99999<vlN e 0 then 3 else 0) (by simp)
  refine⟨?_,?_,?_,h⟩
  ·exact Decidable.byContradiction fun hn=>by rw [if_neg hn] at a;omega
  ·exact Int.not_lt.1 fun hn=>by rw [if_pos hn] at b;omega
  ·exact Int.not_lt.1 fun hn=>by rw [if_pos hn] at c;omega
theorem yf6 {r:Rgs} {n:Nat} {e:Evt} (h:zqo r n e=0):yco e=0/\ygs r n e=0:=by
 unfold zqo at h
 split at h
 ·rename_i h1;exact absurd h h1
 ·rename_i h1;exact⟨Decidable.byContradiction h1,h⟩
theorem z2y {r:Rgs} {fol:Bool} {nm b:List UInt8} {kn f t m:Int} (h:zvn r fol nm b kn f t m=0):
  zsh r.es nm= -1/\r.es.length<256/\(fol=true->zrx r b kn=0)/\f<=99999/\t<=99999/\m<=1440/\f<=t:=by
 unfold zvn at h
 split at h
 ·rename_i h1;exact absurd h h1
 ·rename_i h1
  have h1:=Decidable.byContradiction h1
  rw [ym3,zcx] at h1
  have a:=h1 (if 0<=zsh r.es nm then 9 else 0) (by simp)
  have b':=h1 (if 256<=r.es.length then 5 else 0) (by simp)
  split at h
  ·rename_i h2;exact absurd h h2.2
  ·rename_i h2
   rw [zcx] at h
   have c:=h (if 99999<f\/99999<t\/1440<m then 3 else 0) (by simp)
   have d:=h (if t<f then 11 else 0) (by simp)
   refine⟨?_,?_,?_,?_⟩
   ·rcases zgt r.es nm with⟨e,_⟩|⟨k,_,e,_⟩
    ·exact e
    ·rw [if_pos (by omega)] at a;omega
   ·exact Nat.lt_of_not_le fun hn=>by rw [if_pos hn] at b';omega
   ·intro hf;exact Decidable.byContradiction fun hn=>h2 ⟨hf,hn⟩
   ·by_cases hc:99999<f\/99999<t\/1440<m
    ·rw [if_pos hc] at c;omega
    ·by_cases hd:t<f
     ·rw [if_pos hd] at d;omega
     ·omega
theorem z87 {es:List Ent} {x:Ent} {nm:List UInt8} {k:Nat} (h:zsh es nm=k):zsh (es++[x]) nm=k:=by
 rcases zgt es nm with⟨e,_⟩|⟨j,hj,e,h2,h3⟩
 ·omega
 ·obtain rfl:j=k:=by omega
  refine zqh (p:=fun x:Ent=>decide (x.nm=nm)) (by rw [List.length_append];omega) ?_ ?_
  ·rw [List.getElem_append_left hj];exact decide_eq_true h2
  ·intro i hi
   rw [List.getElem_append_left (by omega)]
   exact decide_eq_false (h3 i hi)
theorem ykc {s:List UInt8} (h:zdt s=true):s≠[]:=by
 rintro rfl
 exact absurd (of_decide_eq_true h).1 (by decide)
theorem yl9 {e:Evt} (h:∀s∈e.ns,zdt s=true) {i:Nat} (hi:i<e.ns.length):zdt (nmN e i)=true:=by
 unfold nmN
 rw [List.getD_eq_getElem?_getD,List.getElem?_eq_getElem hi]
 exact h _ (List.getElem_mem hi)
theorem yms {e:Evt} (h:∀v∈e.vs,0<=v/\v<=999999999) (i:Nat):0<=vlN e i/\vlN e i<=999999999:=by
 unfold vlN
 rw [List.getD_eq_getElem?_getD]
 by_cases hi:i<e.vs.length
 ·rw [List.getElem?_eq_getElem hi];exact h _ (List.getElem_mem hi)
 ·rw [List.getElem?_eq_none (by omega)];exact⟨Int.le_refl _,by decide⟩
theorem ybj {k:List UInt8} (h:yd3 k=true):ydq k=4/\2<=ybd k/\(k=zc1->ybd k=3):=by
 simp only [yd3,Bool.or_eq_true,decide_eq_true_eq] at h
 rcases h with(rfl|rfl)|rfl<;>decide
theorem ykl {r:Rgs} {b:List UInt8} {kn:Int} (h:zrx r b kn=0):∃j,∃hj:j<r.es.length,zsh r.es b=(j:Nat)/\ylh r r.es[j] kn=true:=by
 rcases zgt r.es b with⟨e,_⟩|⟨j,hj,e,_⟩
 ·rw [z4q e] at h;omega
 ·rw [z4r hj e] at h
  refine⟨j,hj,e,?_⟩
  cases hc:ylh r r.es[j] kn with
  | true=>rfl
  | false=>rw [hc] at h;simp at h
theorem ymc {r:Rgs} (ho:OkR r) {n:Nat} {e:Evt} (h:zqo r n e=0) (hr:r.rs.length<1000):OkR (z6b r e):=by
 obtain⟨h1,h2⟩:=yf6 h
 obtain⟨a1,a2,a3,a4,a5,_⟩:=yc9 h1
 obtain⟨b1,b2,b3,b4⟩:=yik h2
 unfold ya5 at b4
 unfold z6b
 split at b4
 ·rename_i hk
  rw [if_pos hk]
  obtain⟨f1,f2,f3⟩:=ybj hk
  obtain⟨c1,c2,c3,c4,c5,c6,c7⟩:=z2y b4
  have hkn:(yg2 e).kn=vlN e 0:=rfl
  refine⟨?_,?_,?_,?_,?_,?_,ho.rs,ho.cs⟩
  ·intro k hk'
   dsimp only at hk' ⊢
   rw [List.length_append,List.length_singleton] at hk'
   by_cases hl:k<r.es.length
   ·rw [List.getElem_append_left hl]
    rcases ho.bs k hl with e1|⟨j,hj,e1⟩
    ·exact .inl e1
    ·exact .inr ⟨j,hj,z87 e1⟩
   ·obtain rfl:k=r.es.length:=by omega
    simp only [List.getElem_concat_length]
    by_cases hf:e.ki=zc1
    ·right
     obtain⟨j,hj,e1,_⟩:=ykl (c3 (decide_eq_true hf))
     refine⟨j,hj,?_⟩
     have:(yg2 e).bs=nmN e 2:=if_pos hf
     rw [this]
     exact z87 e1
    ·exact .inl (if_neg hf)
  ·intro x hx
   rcases List.mem_append.1 hx with hx|hx
   ·exact ho.nm x hx
   ·rw [List.mem_singleton] at hx;subst hx
    exact ykc (yl9 a4 (by omega))
  ·rw [List.pairwise_append]
   refine⟨ho.asc,List.pairwise_singleton _ _,fun a ha b hb=> ?_⟩
   rw [List.mem_singleton] at hb;subst hb
   have:=ho.top a ha
   omega
  ·intro x hx
   rcases List.mem_append.1 hx with hx|hx
   ·have:=ho.top x hx
    dsimp only
    omega
   ·rw [List.mem_singleton] at hx;subst hx
    exact Int.le_refl _
  ·intro x hx
   rcases List.mem_append.1 hx with hx|hx
   ·exact ho.mi x hx
   ·rw [List.mem_singleton] at hx;subst hx
    exact⟨(yms a5 3).1,c6⟩
  ·dsimp only
   rw [List.length_append,List.length_singleton];omega
 ·rename_i hk
  rw [if_neg hk]
  have htop:∀x∈r.es,x.kn<=vlN e 0:=fun x hx=>Int.le_trans (ho.top x hx) b2
  split at b4
  ·rename_i hk2
   rw [if_pos hk2]
   exact⟨ho.bs,ho.nm,ho.asc,htop,ho.mi,ho.es,by dsimp only;rw [List.length_append,List.length_singleton];omega,ho.cs⟩
  ·rename_i hk2
   rw [if_neg hk2]
   split at b4
   ·rename_i hk3
    rw [if_pos hk3]
    refine⟨ho.bs,ho.nm,ho.asc,htop,ho.mi,ho.es,ho.rs,?_⟩
    dsimp only
    rw [List.length_append,List.length_singleton]
    unfold z8t at b4
    rw [zcx] at b4
    have:=b4 (if 64<=r.cs.length then 5 else 0) (by simp)
    by_cases hc:64<=r.cs.length
    ·rw [if_pos hc] at this;omega
    ·omega
   ·rename_i hk3
    rw [if_neg hk3]
    refine⟨ho.bs,ho.nm,ho.asc,htop,ho.mi,ho.es,?_,?_⟩
    ·dsimp only
     split
     ·rw [List.length_append,List.length_singleton];omega
     ·exact ho.rs
    ·dsimp only
     rw [List.length_set];exact ho.cs
theorem yls (r:Rgs) (e:Evt):(z6b r e).rs.length<=r.rs.length+1:=by
 unfold z6b
 split
 ·simp
 ·split
  ·simp
  ·split
   ·simp
   ·dsimp only
    split<;>simp
theorem ymd:OkR rg0:=⟨fun k hk=>absurd hk (Nat.not_lt_zero _),by simp [rg0],List.Pairwise.nil,by simp [rg0],by simp [rg0],by simp [rg0],by simp [rg0],by simp [rg0]⟩
theorem ybw (r:Rgs) (n:Nat) (e:Evt) (l:List Evt):zlg r n (e::l)=if zqo r n e≠0 then(rg0,n+1,zqo r n e) else zlg (z6b r e) (n+1) l:=rfl
end Go.Proofs.YtmbofbehkalgkaaGreatDoor.Co
