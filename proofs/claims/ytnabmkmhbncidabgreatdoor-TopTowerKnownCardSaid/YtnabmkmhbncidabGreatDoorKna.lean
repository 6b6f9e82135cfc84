/-
  TopTowerKnown: what its law leans on, part 1.
-/
import Derived.Laws.RangeAny
import Derived.Lib.SplitLaws
import Derived.Test.YtnabmkmhbncidabGreatDoorEvX
import Derived.Test.YtnabmkmhbncidabGreatDoorEvY
import Derived.Test.YtnabmkmhbncidabGreatDoorRead
import Derived.Test.YtnabmkmhbncidabGreatDoorSpBase
namespace Go.Proofs.YtnabmkmhbncidabGreatDoor.Co
open Go Go.Evl
set_option maxHeartbeats 32000000
set_option maxRecDepth 100000
def rng (n a b:Int):Int:=if n<a\/b<n then 3 else 0
def zao:List Int->Int
 | []=>0
 | x::r=>if x=0 then zao r else x
theorem zdu:∀l:List Int,zao l=0↔∀x∈l,x=0
 | []=>by simp [zao]
 | x::r=>by
  simp only [zao,List.mem_cons,forall_eq_or_imp]
  split
  ·rename_i h;rw [zdu r];exact⟨fun hr=>⟨h,hr⟩,fun hr=>hr.2⟩
  ·rename_i h;exact⟨fun hr=>absurd hr h,fun hr=>absurd hr.1 h⟩
theorem yh2 (n a b:Int):0<=rng n a b/\rng n a b<=3:=by unfold rng;split<;>omega
theorem zlc {n a b:Int}:rng n a b=0↔a<=n/\n<=b:=by unfold rng;split<;>omega
section
variable {E : Oracle} (g : Good E)
include g
theorem ylp (b:Bool) (e:Int):Fc E zh6 [B b,I e] (I (if b then e else 0)):=by
 refine g.fn rfl rfl ?_
 cases b
 all_goals repeat' ((conv=>whnf);first
 | refine Yz ?_
  | (refine Ret.mk rfl))
theorem ydw (n a b:Int):Fc E zij [I n,I a,I b] (I (rng n a b)):=by
 refine g.fn rfl rfl ?_
 repeat' ((conv=>whnf);first
 | refine Yz ?_
  | (refine Cmp.mk (fun h=> ?_) (fun h=> ?_))|(refine Rem.any (by omega) (fun r hr he=> ?_))|(refine Br.mk (fun h=> ?_) (fun h=> ?_))
  | (refine zah.of (ylp g _ _) ?_)
  | (refine Ret.mk ?_))
 all_goals (simp only [V.d.injEq,D.int.injEq,true_and,rng];simp_all)
omit g in
theorem z1d (l:List Int) (k:Nat) (h:k<l.length):zao (l.drop k)=if l.getD k 0=0 then zao (l.drop (k+1)) else l.getD k 0:=by
 rw [List.drop_eq_getElem_cons h]
 simp [zao,List.getD,h]
theorem yh5 (l:List Int) (hl:l.length<=140737488355328):Fc E zdv [LI l] (I (zao l)):=by
 refine g.fn rfl rfl ?_
 conv=>whnf
 refine zaj.upP g (fun k=>[(5,LI l),(6,I l.length),(7,I k)]) (fun _=>[]) (fun k=>zao l=zao (l.drop k)) l.length (fun k hk hp ih=> ?_) 0 (Nat.zero_le _) (by simp)
 by_cases hlt:k<l.length
 ·have hd:=z1d l k hlt
  repeat' ((conv=>whnf);first
  | refine Yz ?_
   | (refine zf3.int (by omega) ?_)
   | (refine Cmp.mk (fun h=> ?_) (fun h=> ?_))|(refine Rem.any (by omega) (fun r hr he=> ?_))|(refine Br.mk (fun h=> ?_) (fun h=> ?_))
   | (refine zaj.to (ih hlt ?_) ?_ rfl)
   | (refine Ret.mk ?_))
  all_goals simp_all
 ·have:l.drop k=[]:=List.drop_eq_nil_of_le (by omega)
  repeat' ((conv=>whnf);first
  | refine Yz ?_
   | (refine Ret.mk ?_))
  simp [hp,this,zao]
theorem ykf (a b:Int):Fc E zdv [.d (.list 2 [DI a,DI b])] (I (zao [a,b])):=yh5 g [a,b] (by simp)
theorem ykg (a b c:Int):Fc E zdv [.d (.list 3 [DI a,DI b,DI c])] (I (zao [a,b,c])):=yh5 g [a,b,c] (by simp)
theorem ye2 (n:Int):Fc E zer [I n] (I (rng n 0 99999)):=by
 refine g.fn rfl rfl ?_
 repeat' ((conv=>whnf);first
 | refine Yz ?_
  | (refine zah.of (ydw g _ _ _) ?_)
  | (refine Ret.mk rfl))
theorem zyp (n a b:Int):Fc E zhn [I n,I a,I b] (I (rng n a b)):=by
 refine g.fn rfl rfl ?_
 repeat' ((conv=>whnf);first
 | refine Yz ?_
  | (refine Cmp.mk (fun h=> ?_) (fun h=> ?_))|(refine Rem.any (by omega) (fun r hr he=> ?_))|(refine Br.mk (fun h=> ?_) (fun h=> ?_))
  | (refine Ret.mk ?_))
 all_goals (simp only [V.d.injEq,D.int.injEq,true_and,rng];simp_all)
theorem zyb (n:Int):Fc E zfb [I n] (I (rng n 0 99999)):=by
 refine g.fn rfl rfl ?_
 repeat' ((conv=>whnf);first
 | refine Yz ?_
  | (refine zah.of (zyp g _ _ _) ?_)
  | (refine Ret.mk rfl))
omit g in
def zh3 (f t d:Int):Int:=if f<0\/99999<f\/t<0\/99999<t then 3 else if t<f then 11 else if 400<t-f then 4 else rng d 1 127
omit g in
theorem znq {f t d:Int}:zh3 f t d=0↔0<=f/\f<=t/\t<=99999/\t-f<=400/\1<=d/\d<=127:=by
 unfold zh3 rng
 repeat' split
 all_goals omega
omit g in
theorem ykz (f t:Int):zao [rng f 0 99999,rng t 0 99999]=0↔(0<=f/\f<=99999/\0<=t/\t<=99999):=by
 simp only [zao];unfold rng
 repeat' split
 all_goals omega
omit g in
theorem yng (f t:Int) (h:zao [rng f 0 99999,rng t 0 99999]≠0):zao [rng f 0 99999,rng t 0 99999]=3:=by
 simp only [zao] at h ⊢;unfold rng at h ⊢
 repeat' split
 all_goals (try omega)
 all_goals simp_all
theorem zw1 (f t d:Int):Fc E zb5 [Per f t d] (I (zh3 f t d)):=by
 refine g.fn rfl rfl ?_
 have k1:=ykz f t
 have k2:=yng f t
 have k3:=yh2 d 1 127
 repeat' ((conv=>whnf);first
 | refine Yz ?_
  | (refine zah.of (ye2 g _) ?_)
  | (refine zah.of (ykf g _ _) ?_)
  | (refine zah.of (ylp g _ _) ?_)
  | (refine zah.of (ydw g _ _ _) ?_)
  | (refine zah.of (ykg g _ _ _) ?_)
  | (refine Cmp.mk (fun h=> ?_) (fun h=> ?_))|(refine Rem.any (by omega) (fun r hr he=> ?_))|(refine Br.mk (fun h=> ?_) (fun h=> ?_))
  | (refine Ret.mk ?_))
 all_goals (simp only [V.d.injEq,D.int.injEq,true_and,zh3])
 all_goals first
  | (rw [if_pos (by omega)];omega)
  | (simp [zao];repeat' split;all_goals omega)
theorem z6m (f t d:Int):Fc E zjr [Per f t d] (I (zh3 f t d)):=by
 refine g.fn rfl rfl ?_
 have k1:=@zlc f 0 99999
 have k2:=@zlc t 0 99999
 repeat' ((conv=>whnf);first
 | refine Yz ?_
  | (refine zah.of (zyb g _) ?_)
  | (refine zah.of (zyp g _ _ _) ?_)
  | (refine Cmp.mk (fun h=> ?_) (fun h=> ?_))|(refine Rem.any (by omega) (fun r hr he=> ?_))|(refine Br.mk (fun h=> ?_) (fun h=> ?_))
  | (refine Ret.mk ?_))
 all_goals (simp only [V.d.injEq,D.int.injEq,true_and,zh3])
 all_goals (repeat' split)
 all_goals first
  | rfl
  | omega
omit g in
def inM (m w:Int):Bool:=decide (m/2^w.toNat%2=1)
theorem yj7 (m w:Int) (hm:0<=m/\m<=127) (hw:0<=w/\w<=6):Fc E zpm [I m,I w] (B (inM m w)):=by
 refine g.fn rfl rfl ?_
 conv=>whnf
 refine zaj.to (zaj.up g (fun k=>[(0,I (m/2^k)),(1,I w),(5,I k)]) (fun _=>[]) w.toNat (fun k hk ih=> ?_) 0 (Nat.zero_le _)) ?_ rfl
 ·have h0:0<=m/2^k:=Int.ediv_nonneg hm.1 (Int.pow_nonneg (by decide))
  have h1:m/2^k<=m:=Int.ediv_le_self _ hm.1
  have h2:m/2^k/2=m/2^(k+1):=by rw [Int.pow_succ,Int.ediv_ediv_of_nonneg (Int.pow_nonneg (by decide))]
  by_cases hlt:k<w.toNat
  ·repeat' ((conv=>whnf);first
  | refine Yz ?_
    | (refine zaj.to (ih hlt) ?_ rfl)
    | (refine Ret.mk ?_))
   simp [h2]
  ·have:k=w.toNat:=by omega
   subst this
   repeat' ((conv=>whnf);first
   | refine Yz ?_
    | (refine Cmp.mk (fun h=> ?_) (fun h=> ?_))|(refine Rem.any (by omega) (fun r hr he=> ?_))|(refine Br.mk (fun h=> ?_) (fun h=> ?_))
    | (refine Ret.mk ?_))
   all_goals simp_all [inM]
 ·simp
end
theorem yfq.at {s:List UInt8} {i:Nat} {K:UInt8->Prop} (k:Nat) (hi:i=k) (h:k<s.length) (hk:K (s.getD k 0)):yfq s i K:=by
 subst hi
 exact⟨⟨_,by simp [List.getD,h],hk⟩⟩
theorem z0c.asc {s:List UInt8} {k:Nat} {a:Int->Nat->Prop} {b:Prop} (h:k<s.length) (ha:(s.getD k 0).toNat<128) (hk:a (s.getD k 0).toNat 1):z0c s k a b:=by
 refine⟨fun _=> ?_,fun hn=>absurd h hn⟩
 have e:(s.getD k 0)=s[k]:=by simp [List.getD,h]
 have hd:=decode_ascii ⟨s.toArray⟩ k (by simpa [ByteArray.size] using h) (by rw [e] at ha;exact ha)
 rw [hd]
 rw [e] at hk
 exact hk
theorem z0c.high {s:List UInt8} {k:Nat} {a:Int->Nat->Prop} {b:Prop} (h:k<s.length) (ha:128<=(s.getD k 0).toNat) (hk:∀(c:Int) (w:Nat),128<=c->1<=w->a c w):z0c s k a b:=by
 refine⟨fun _=> ?_,fun hn=>absurd h hn⟩
 have e:(s.getD k 0)=s[k]:=by simp [List.getD,h]
 have hd:=decode_high ⟨s.toArray⟩ k (by simpa [ByteArray.size] using h) (by rw [e] at ha;exact ha)
 exact hk _ _ (by omega) hd.2
theorem z0c.end' {s:List UInt8} {k:Nat} {a:Int->Nat->Prop} {b:Prop} (h:s.length<=k) (hk:b):z0c s k a b:=⟨fun hn=>absurd hn (by omega),fun _=>hk⟩
def yav (k:Nat) (b:UInt8):Prop:=(65<=b.toNat/\b.toNat<=90)\/(97<=b.toNat/\b.toNat<=122)\/(0<k/\(b.toNat=95\/(48<=b.toNat/\b.toNat<=57)))
instance (k:Nat) (b:UInt8):Decidable (yav k b):=by unfold yav;infer_instance
def ymt (s:List UInt8):Prop:=0<s.length/\s.length<=24/\∀i,i<s.length->yav i (s.getD i 0)
instance (s:List UInt8):Decidable (ymt s):=by unfold ymt;infer_instance
def zbr (s:List UInt8):Bool:=decide (ymt s)
theorem z1n {s:List UInt8} {k:Nat} (hk:k<s.length) (h:¬yav k (s.getD k 0)):zbr s=false:=decide_eq_false fun hn=>h (hn.2.2 k hk)
section
variable {E : Oracle} (g : Good E)
include g
theorem ykd (s:List UInt8):Fc E zc0 [S s] (B (zbr s)):=by
 refine g.fn rfl rfl ?_
 by_cases h0:0<s.length/\s.length<=24
 ·repeat' ((conv=>whnf);first
 | refine Yz ?_)
  refine zaj.to (zaj.upP g (fun _=>[(15,.it ⟨0,15,0⟩)]) (fun k=>[(⟨0,15,0⟩,.iter s k)]) (fun k=>∀i,i<k->yav i (s.getD i 0)) s.length (fun k hk hp ih=> ?_) 0 (Nat.zero_le _) (fun i hi=>by omega)) rfl rfl
  by_cases hlt:k<s.length
  ·by_cases ha:(s.getD k 0).toNat<128
   ·by_cases hok:yav k (s.getD k 0)
    ·have hp':∀i,i<k+1->yav i (s.getD i 0):=fun i hi=>by
      by_cases e:i=k
      ·subst e;exact hok
      ·exact hp i (by omega)
     have ih:=ih hlt hp'
     unfold yav at hok
     repeat' ((conv=>whnf);first
     | refine Yz ?_
      | (refine z0c.asc hlt ha ?_)
      | (refine Cmp.mk (fun h=> ?_) (fun h=> ?_))|(refine Rem.any (by omega) (fun r hr he=> ?_))|(refine Br.mk (fun h=> ?_) (fun h=> ?_))
      | (refine zaj.to ih rfl rfl)
      | (exfalso;omega))
    ·have hno:=z1n hlt hok
     unfold yav at hok
     rw [hno]
     repeat' ((conv=>whnf);first
     | refine Yz ?_
      | (refine z0c.asc hlt ha ?_)
      | (refine Cmp.mk (fun h=> ?_) (fun h=> ?_))|(refine Rem.any (by omega) (fun r hr he=> ?_))|(refine Br.mk (fun h=> ?_) (fun h=> ?_))
      | (refine Ret.mk rfl)
      | (exfalso;omega))
   ·have hno:zbr s=false:=z1n hlt (by unfold yav;omega)
    rw [hno]
    repeat' ((conv=>whnf);first
    | refine Yz ?_
     | (refine z0c.high hlt (by omega) (fun c w hc hw=> ?_))
     | (refine Cmp.mk (fun h=> ?_) (fun h=> ?_))|(refine Rem.any (by omega) (fun r hr he=> ?_))|(refine Br.mk (fun h=> ?_) (fun h=> ?_))
     | (refine Ret.mk rfl)
     | (exfalso;omega))
  ·have hk':k=s.length:=by omega
   subst hk'
   have hyes:zbr s=true:=decide_eq_true ⟨h0.1,h0.2,hp⟩
   rw [hyes]
   repeat' ((conv=>whnf);first
   | refine Yz ?_
    | (refine z0c.end' (Nat.le_refl _) ?_)
    | (refine Ret.mk rfl))
 ·have hno:zbr s=false:=decide_eq_false fun hn=>h0 ⟨hn.1,hn.2.1⟩
  rw [hno]
  repeat' ((conv=>whnf);first
  | refine Yz ?_
   | (refine Cmp.mk (fun h=> ?_) (fun h=> ?_))|(refine Rem.any (by omega) (fun r hr he=> ?_))|(refine Br.mk (fun h=> ?_) (fun h=> ?_))
   | (refine Ret.mk rfl)
   | (exfalso;omega))
theorem yj8 (s:List UInt8):Fc E zpn [S s] (B (zbr s)):=by
 refine g.fn rfl rfl ?_
 by_cases h0:0<s.length/\s.length<=24
 ·repeat' ((conv=>whnf);first
 | refine Yz ?_)
  refine zaj.to (zaj.upP g (fun k=>[(0,S s),(3,I k)]) (fun _=>[]) (fun k=>∀i,i<k->yav i (s.getD i 0)) s.length (fun k hk hp ih=> ?_) 0 (Nat.zero_le _) (fun i hi=>by omega)) rfl rfl
  by_cases hlt:k<s.length
  ·by_cases hok:yav k (s.getD k 0)
   ·have hp':∀i,i<k+1->yav i (s.getD i 0):=fun i hi=>by
     by_cases e:i=k
     ·subst e;exact hok
     ·exact hp i (by omega)
    have ih:=ih hlt hp'
    unfold yav at hok
    repeat' ((conv=>whnf);first
    | refine Yz ?_
     | (refine yfq.at k (by omega) hlt ?_)
     | (refine Cmp.mk (fun h=> ?_) (fun h=> ?_))|(refine Rem.any (by omega) (fun r hr he=> ?_))|(refine Br.mk (fun h=> ?_) (fun h=> ?_))
     | (refine zaj.to ih rfl rfl)
     | (exfalso;omega))
   ·have hno:=z1n hlt hok
    unfold yav at hok
    rw [hno]
    repeat' ((conv=>whnf);first
    | refine Yz ?_
     | (refine yfq.at k (by omega) hlt ?_)
     | (refine Cmp.mk (fun h=> ?_) (fun h=> ?_))|(refine Rem.any (by omega) (fun r hr he=> ?_))|(refine Br.mk (fun h=> ?_) (fun h=> ?_))
     | (refine Ret.mk rfl)
     | (exfalso;omega))
  ·have hk':k=s.length:=by omega
   subst hk'
   have hyes:zbr s=true:=decide_eq_true ⟨h0.1,h0.2,hp⟩
   rw [hyes]
   repeat' ((conv=>whnf);first
   | refine Yz ?_
    | (refine Ret.mk rfl))
 ·have hno:zbr s=false:=decide_eq_false fun hn=>h0 ⟨hn.1,hn.2.1⟩
  rw [hno]
  repeat' ((conv=>whnf);first
  | refine Yz ?_
   | (refine Cmp.mk (fun h=> ?_) (fun h=> ?_))|(refine Rem.any (by omega) (fun r hr he=> ?_))|(refine Br.mk (fun h=> ?_) (fun h=> ?_))
   | (refine Ret.mk rfl)
   | (exfalso;omega))
end
structure Evt where
 nu:Int
 ki:List UInt8
 ns:List (List UInt8)
 vs:List Int
 tx:List UInt8
 deriving DecidableEq
abbrev Ws (l:List (List UInt8)):V:= .d (.list l.length (l.map D.str))
def Evt.cells (e:Evt):List D:=[DI e.nu,.str e.ki,.list e.ns.length (e.ns.map D.str),.list e.vs.length (e.vs.map DI),.str e.tx]
abbrev Evv (e:Evt):V:= .d (.agg e.cells)
abbrev zkc:List UInt8:=[101,110,116,101,114]
abbrev zwl:List UInt8:=[114,117,108,101]
abbrev zb0:List UInt8:=[102,111,108,108,111,119]
abbrev zdk:List UInt8:=[114,101,118,101,114,115,101]
abbrev zcs:List UInt8:=[99,111,109,112,108,97,105,110]
abbrev zfx:List UInt8:=[100,101,99,105,100,101]
def zx3 (k:List UInt8):Nat:=if k=zkc then 2 else if k=zwl then 2 else if k=zb0 then 3 else if k=zdk then 1 else if k=zcs then 2 else if k=zfx then 1 else 0
def zzf (k:List UInt8):Nat:=if k=zkc then 4 else if k=zwl then 4 else if k=zb0 then 4 else if k=zdk then 1 else if k=zcs then 1 else if k=zfx then 2 else 0
def zrh (k:List UInt8):Bool:=decide (k=zkc)||decide (k=zwl)||decide (k=zb0)||decide (k=zdk)||decide (k=zcs)||decide (k=zfx)
theorem zx5 (k:List UInt8):k=zkc\/k=zwl\/k=zb0\/k=zdk\/k=zcs\/k=zfx\/
  (k≠zkc/\k≠zwl/\k≠zb0/\k≠zdk/\k≠zcs/\k≠zfx):=by
 by_cases h1:k=zkc
 ·exact .inl h1
 by_cases h2:k=zwl
 ·exact .inr (.inl h2)
 by_cases h3:k=zb0
 ·exact .inr (.inr (.inl h3))
 by_cases h4:k=zdk
 ·exact .inr (.inr (.inr (.inl h4)))
 by_cases h5:k=zcs
 ·exact .inr (.inr (.inr (.inr (.inl h5))))
 by_cases h6:k=zfx
 ·exact .inr (.inr (.inr (.inr (.inr (.inl h6)))))
 exact .inr (.inr (.inr (.inr (.inr (.inr ⟨h1,h2,h3,h4,h5,h6⟩)))))
def zla (l:List (List UInt8)):Bool:=l.any fun s=> !zbr s
def yji (n:Int):Bool:=decide (n<0\/999999999<n)
def far (l:List Int):Bool:=l.any yji
def zwb (e:Evt):Int:=
 zao [rng e.nu 1 1000,if !zrh e.ki then 13 else 0,if e.ns.length≠zx3 e.ki\/e.vs.length≠zzf e.ki then 2 else 0,if zla e.ns then 8 else 0,if far e.vs then 3 else 0,if e.tx≠[] then 1 else 0]
def yen {α:Type} (p:α->Bool) (l:List α):Int:=match l.findIdx? p with
 | some i=>i
 | none=> -1
theorem zpj {α:Type} {p:α->Bool} {l:List α} {k:Nat} (hk:k<l.length) (h:p l[k]=true) (hn:∀j,(hj:j<k)->p (l[j]'(by omega))=false):yen p l=k:=by
 have:l.findIdx? p=some k:=List.findIdx?_eq_some_iff_getElem.2 ⟨hk,h,fun j hj=>by simp [hn j hj]⟩
 simp [yen,this]
theorem znt {α:Type} {p:α->Bool} {l:List α} (hn:∀j,(hj:j<l.length)->p l[j]=false):yen p l= -1:=by
 have:l.findIdx? p=none:=List.findIdx?_eq_none_iff.2 fun x hx=>by
  obtain⟨j,hj,rfl⟩:=List.mem_iff_getElem.1 hx
  exact hn j hj
 simp [yen,this]
theorem ycq {α:Type} (p:α->Bool) (l:List α):decide (0<=yen p l)=l.any p:=by
 unfold yen
 cases h:l.findIdx? p with
 | none=>
  have h2:l.any p=false:=by
   rw [List.any_eq_false]
   intro x hx
   have:=List.findIdx?_eq_none_iff.1 h x hx
   simp [this]
  rw [h2];rfl
 | some i=>
  obtain⟨hi,hp,_⟩:=List.findIdx?_eq_some_iff_getElem.1 h
  have h2:l.any p=true:=List.any_eq_true.2 ⟨l[i],List.getElem_mem hi,hp⟩
  rw [h2];simp
theorem zf3.ws {l:List (List UInt8)} {i:Int} {K:D->Prop} (k:Nat) (hi:i=k) (h:k<l.length) (hk:K (.str l[k])):zf3 (l.map D.str) (i.toNat*1) K:=by
 subst hi
 exact⟨⟨_,by simp [h],hk⟩⟩
theorem zf3.iw {l:List Int} {i:Int} {K:D->Prop} (k:Nat) (hi:i=k) (h:k<l.length) (hk:K (DI l[k])):zf3 (l.map DI) (i.toNat*1) K:=by
 subst hi
 exact⟨⟨_,by simp [h],hk⟩⟩
section
variable {E : Oracle} (g : Good E)
include g
theorem zyd (b:Bool) (e:Int):Fc E zal [B b,I e] (I (if b then e else 0)):=by
 refine g.fn rfl rfl ?_
 cases b
 all_goals repeat' ((conv=>whnf);first
 | refine Yz ?_
  | (refine Ret.mk rfl))
theorem z17 (n a b:Int):Fc E zh8 [I n,I a,I b] (I (rng n a b)):=by
 refine g.fn rfl rfl ?_
 repeat' ((conv=>whnf);first
 | refine Yz ?_
  | (refine Cmp.mk (fun h=> ?_) (fun h=> ?_))|(refine Rem.any (by omega) (fun r hr he=> ?_))|(refine Br.mk (fun h=> ?_) (fun h=> ?_))
  | (refine zah.of (zyd g _ _) ?_)
  | (refine Ret.mk ?_))
 all_goals (simp only [V.d.injEq,D.int.injEq,true_and,rng];simp_all)
theorem zz7 (l:List Int) (hl:l.length<=140737488355328):Fc E za3 [LI l] (I (zao l)):=by
 refine g.fn rfl rfl ?_
 conv=>whnf
 refine zaj.upP g (fun k=>[(5,LI l),(6,I l.length),(7,I k)]) (fun _=>[]) (fun k=>zao l=zao (l.drop k)) l.length (fun k hk hp ih=> ?_) 0 (Nat.zero_le _) (by simp)
 by_cases hlt:k<l.length
 ·have hd:=z1d l k hlt
  repeat' ((conv=>whnf);first
  | refine Yz ?_
   | (refine zf3.int (by omega) ?_)
   | (refine Cmp.mk (fun h=> ?_) (fun h=> ?_))|(refine Rem.any (by omega) (fun r hr he=> ?_))|(refine Br.mk (fun h=> ?_) (fun h=> ?_))
   | (refine zaj.to (ih hlt ?_) ?_ rfl)
   | (refine Ret.mk ?_))
  all_goals simp_all
 ·have:l.drop k=[]:=List.drop_eq_nil_of_le (by omega)
  repeat' ((conv=>whnf);first
  | refine Yz ?_
   | (refine Ret.mk ?_))
  simp [hp,this,zao]
theorem z6u (s:List UInt8):Fc E zf0 [S s] (I (if !zbr s then 8 else 0)):=by
 refine g.fn rfl rfl ?_
 have h:=ykd g s
 repeat' ((conv=>whnf);first
 | refine Yz ?_
  | (apply zah.of;assumption)
  | (refine zah.of (zyd g _ _) ?_)
  | (refine Ret.mk rfl))
theorem z89 {f:Nat} {p:List UInt8->Bool} {l:List (List UInt8)} (hl:l.length<=1000000) (hf:∀x∈l,Fc E f [S x] (B (p x))):Fc E zc7 [Ws l,.d (.fn f)] (I (yen p l)):=by
 refine g.fn rfl rfl ?_
 conv=>whnf
 refine zaj.upP g (fun k=>[(0,Ws l),(1,.d (.fn f)),(7,I l.length),(8,I k)]) (fun _=>[]) (fun k=>∀j,(hj:j<k)->(hj':j<l.length)->p l[j]=false) l.length (fun k hk hp ih=> ?_) 0 (Nat.zero_le _) (fun j hj=>by omega)
 by_cases hlt:k<l.length
 ·have hx:=hf l[k] (List.getElem_mem hlt)
  cases hb:p l[k] with
  | true=>
   rw [hb] at hx
   have hi:=zpj (p:=p) hlt hb fun j hj=>hp j hj (by omega)
   rw [hi]
   repeat' ((conv=>whnf);first
   | refine Yz ?_
    | (refine zf3.ws k rfl hlt ?_)
    | (apply zah.of;assumption)
    | (refine Ret.mk rfl))
  | false=>
   rw [hb] at hx
   have ih:=ih hlt fun j hj hj'=>by
    by_cases e:j=k
    ·subst e;exact hb
    ·exact hp j (by omega) hj'
   repeat' ((conv=>whnf);first
   | refine Yz ?_
    | (refine zf3.ws k rfl hlt ?_)
    | (apply zah.of;assumption)
    | (refine zaj.to ih rfl rfl))
 ·have hi:=znt (p:=p) (l:=l) fun j hj=>hp j (by omega) hj
  rw [hi]
  repeat' ((conv=>whnf);first
  | refine Yz ?_
   | (refine Ret.mk rfl))
theorem z16 {f:Nat} {p:List UInt8->Bool} {l:List (List UInt8)} (hl:l.length<=1000000) (hf:∀x∈l,Fc E f [S x] (B (p x))):Fc E zcv [Ws l,.d (.fn f)] (B (l.any p)):=by
 refine g.fn rfl rfl ?_
 have h:=z89 g hl hf
 rw [<-ycq]
 repeat' ((conv=>whnf);first
 | refine Yz ?_
  | (apply zah.of;assumption)
  | (refine Cmp.mk (fun h=> ?_) (fun h=> ?_))|(refine Rem.any (by omega) (fun r hr he=> ?_))|(refine Br.mk (fun h=> ?_) (fun h=> ?_))
  | (refine Ret.mk ?_))
 all_goals simp_all
theorem z88 {f:Nat} {p:Int->Bool} {l:List Int} (hl:l.length<=1000000) (hf:∀x∈l,Fc E f [I x] (B (p x))):Fc E zev [LI l,.d (.fn f)] (I (yen p l)):=by
 refine g.fn rfl rfl ?_
 conv=>whnf
 refine zaj.upP g (fun k=>[(0,LI l),(1,.d (.fn f)),(7,I l.length),(8,I k)]) (fun _=>[]) (fun k=>∀j,(hj:j<k)->(hj':j<l.length)->p l[j]=false) l.length (fun k hk hp ih=> ?_) 0 (Nat.zero_le _) (fun j hj=>by omega)
 by_cases hlt:k<l.length
 ·have hx:=hf l[k] (List.getElem_mem hlt)
  cases hb:p l[k] with
  | true=>
   rw [hb] at hx
   have hi:=zpj (p:=p) hlt hb fun j hj=>hp j hj (by omega)
   rw [hi]
   repeat' ((conv=>whnf);first
   | refine Yz ?_
    | (refine zf3.iw k rfl hlt ?_)
    | (apply zah.of;assumption)
    | (refine Ret.mk rfl))
  | false=>
   rw [hb] at hx
   have ih:=ih hlt fun j hj hj'=>by
    by_cases e:j=k
    ·subst e;exact hb
    ·exact hp j (by omega) hj'
   repeat' ((conv=>whnf);first
   | refine Yz ?_
    | (refine zf3.iw k rfl hlt ?_)
    | (apply zah.of;assumption)
    | (refine zaj.to ih rfl rfl))
 ·have hi:=znt (p:=p) (l:=l) fun j hj=>hp j (by omega) hj
  rw [hi]
  repeat' ((conv=>whnf);first
  | refine Yz ?_
   | (refine Ret.mk rfl))
theorem z15 {f:Nat} {p:Int->Bool} {l:List Int} (hl:l.length<=1000000) (hf:∀x∈l,Fc E f [I x] (B (p x))):Fc E zdn [LI l,.d (.fn f)] (B (l.any p)):=by
 refine g.fn rfl rfl ?_
 have h:=z88 g hl hf
 rw [<-ycq]
 repeat' ((conv=>whnf);first
 | refine Yz ?_
  | (apply zah.of;assumption)
  | (refine Cmp.mk (fun h=> ?_) (fun h=> ?_))|(refine Rem.any (by omega) (fun r hr he=> ?_))|(refine Br.mk (fun h=> ?_) (fun h=> ?_))
  | (refine Ret.mk ?_))
 all_goals simp_all
theorem yp0 (s:List UInt8):Fc E zfk [S s] (B (!zbr s)):=by
 refine g.fn rfl rfl ?_
 have h:=z6u g s
 cases hb:zbr s
 all_goals
  rw [hb] at h
  repeat' ((conv=>whnf);first
  | refine Yz ?_
   | (apply zah.of;assumption)
   | (refine Ret.mk rfl))
theorem yp1 (n:Int):Fc E zfl [I n] (B (yji n)):=by
 refine g.fn rfl rfl ?_
 have h:=z17 g n 0 999999999
 by_cases hb:n<0\/999999999<n
 all_goals
  simp only [rng,hb,if_true,if_false] at h
  simp only [yji,hb,decide_true,decide_false]
  repeat' ((conv=>whnf);first
  | refine Yz ?_
   | (apply zah.of;assumption)
   | (refine Ret.mk rfl))
abbrev kdM:List (D×V):=[(.str zkc,.agg [.d (DI 2),.d (DI 4),.fn zaq [] [],.fn zar [] []]),
 (.str zwl,.agg [.d (DI 2),.d (DI 4),.fn zaq [] [],.fn zar [] []]),
 (.str zb0,.agg [.d (DI 3),.d (DI 4),.fn zaq [] [],.fn zar [] []]),
 (.str zdk,.agg [.d (DI 1),.d (DI 1),.fn za4 [] [],.fn zjh [] []]),
 (.str zcs,.agg [.d (DI 2),.d (DI 1),.fn zaw [] [],.fn zcf [] []]),
 (.str zfx,.agg [.d (DI 1),.d (DI 2),.fn zaz [] [],.fn zby [] []])]
omit g in
theorem yml {k:List UInt8} (h:k≠zkc/\k≠zwl/\k≠zb0/\k≠zdk/\k≠zcs/\k≠zfx):zkb (.str k) kdM=some none:=by
 have e:∀t,k≠t->(k==t)=false:=fun t h=>beq_eq_false_iff_ne.2 h
 obtain⟨h1,h2,h3,h4,h5,h6⟩:=h
 simp only [zkb,eqD,e _ h1,e _ h2,e _ h3,e _ h4,e _ h5,e _ h6]
theorem zf2.kinds {cx:Cx} {slot:Nat} {m:Mem} {K:V->Mem->Prop} (hf:Go.Evl.freeK cx.lv slot m=0) (k:K (.mp ⟨cx.lv,slot,0⟩) (m++[(⟨cx.lv,slot,0⟩,.map kdM)])):zf2 E zfz [] cx slot m K:=by
 refine⟨.mp ⟨0,1,0⟩,[(⟨0,1,0⟩,.map kdM)],(.mp ⟨cx.lv,slot,0⟩,m++[(⟨cx.lv,slot,0⟩,.map kdM)]),g.lim.of_iter 1000 _ _ (by kernel_rfl),?_,k⟩
 unfold Evl.settle
 rw [hf]
 rfl
theorem z87 (e:Evt) (hn:e.ns.length<=1000000) (hv:e.vs.length<=1000000):Fc E zet [Evv e] (I (zwb e)):=by
 obtain⟨nu,ki,ns,vs,tx⟩:=e
 change Fc E zet [.d (.agg [DI nu,.str ki,.list ns.length (ns.map D.str),.list vs.length (vs.map DI),.str tx])] _
 dsimp only at hn hv
 refine g.fn rfl rfl ?_
 have h1:=z16 g (f:=zfk) (p:=fun s=> !zbr s) hn fun x _=>yp0 g x
 have h2:=z15 g (f:=zfl) (p:=yji) hv fun x _=>yp1 g x
 have h3:=z17 g nu 1 1000
 have hlast:∀a b c d e f:Int,Fc E za3 [.d (.list 6 [DI a,DI b,DI c,DI d,DI e,DI f])] (I (zao [a,b,c,d,e,f])):=fun a b c d e f=>zz7 g [a,b,c,d,e,f] (by simp)
 rcases zx5 ki with rfl|rfl|rfl|rfl|rfl|rfl|hk
 all_goals
  first
  | (have hfind:=yml hk)
  | (have hfind:True:=trivial)
  repeat' ((conv=>whnf);first
  | refine Yz ?_
   | (refine zf2.kinds g rfl ?_)
   | (refine z90.mk ⟨_,rfl,?_⟩)
   | (refine z90.mk ⟨_,hfind,?_⟩)
   | (apply zah.of;assumption)
   | (refine zah.of (zyd g _ _) ?_)
   | (refine zah.of (hlast _ _ _ _ _ _) ?_)
   | (refine Cmp.mk (fun h=> ?_) (fun h=> ?_))|(refine Rem.any (by omega) (fun r hr he=> ?_))|(refine Br.mk (fun h=> ?_) (fun h=> ?_))
   | (refine Ret.mk ?_))
  all_goals try norm_cast at *
  all_goals (simp_all [zwb,zrh,zx3,zzf,zla,far];done)
theorem z8y (n a b:Int):Fc E zh9 [I n,I a,I b] (B (decide (n<a\/b<n))):=by
 refine g.fn rfl rfl ?_
 repeat' ((conv=>whnf);first
 | refine Yz ?_
  | (refine Cmp.mk (fun h=> ?_) (fun h=> ?_))|(refine Rem.any (by omega) (fun r hr he=> ?_))|(refine Br.mk (fun h=> ?_) (fun h=> ?_))
  | (refine Ret.mk ?_))
 all_goals simp_all
abbrev Frm (k:List UInt8):V:= .d (.agg [DI (zx3 k),DI (zzf k),.bool (zrh k)])
theorem yoj (k:List UInt8):Fc E zou [S k] (Frm k):=by
 refine g.fn rfl rfl ?_
 rcases zx5 k with rfl|rfl|rfl|rfl|rfl|rfl|⟨h1,h2,h3,h4,h5,h6⟩
 all_goals
  repeat' ((conv=>whnf);first
  | refine Yz ?_
   | (refine Cmp.ff (by assumption) ?_)
   | (refine Ret.mk ?_))
 all_goals first |rfl|simp [zx3,zzf,zrh,h1,h2,h3,h4,h5,h6]
theorem z8x (e:Evt) (hn:e.ns.length<=1000000) (hv:e.vs.length<=1000000):Fc E zho [Evv e] (I (zwb e)):=by
 obtain⟨nu,ki,ns,vs,tx⟩:=e
 change Fc E zho [.d (.agg [DI nu,.str ki,.list ns.length (ns.map D.str),.list vs.length (vs.map DI),.str tx])] _
 dsimp only at hn hv
 refine g.fn rfl rfl ?_
 have h1:=z8y g nu 1 1000
 have h2:Fc E zou [S ki] (.d (.agg [DI (zx3 ki),DI (zzf ki),.bool (zrh ki)])):=yoj g ki
 by_cases hnu:nu<1\/1000<nu
 ·rw [decide_eq_true hnu] at h1
  have hr:rng nu 1 1000=3:=if_pos hnu
  repeat' ((conv=>whnf);first
  | refine Yz ?_
   | (apply zah.of;assumption)
   | (refine Ret.mk ?_))
  simp [zwb,zao,hr]
 rw [decide_eq_false hnu] at h1
 have hr:rng nu 1 1000=0:=if_neg hnu
 cases hk:zrh ki with
 | false=>
  rw [hk] at h2
  repeat' ((conv=>whnf);first
  | refine Yz ?_
   | (apply zah.of;assumption)
   | (refine Ret.mk ?_))
  simp [zwb,zao,hr,hk]
 | true=>
  rw [hk] at h2
  by_cases hc:ns.length=zx3 ki/\vs.length=zzf ki
  ·obtain⟨hcn,hcv⟩:=hc
   repeat' ((conv=>whnf);first
   | refine Yz ?_
    | (apply zah.of;assumption))
   refine zaj.to (zaj.upP g (fun k=>[(1,.ptr ⟨0,1,0⟩ 0 0),(3,.ptr ⟨0,3,0⟩ 0 0),(4,I k)]) (fun _=>_) (fun k=>∀j,(hj:j<k)->(hj':j<ns.length)->zbr ns[j]=true) ns.length (fun k hkl hp ih=> ?_) 0 (Nat.zero_le _) (fun j hj=>by omega)) rfl rfl
   by_cases hlt:k<ns.length
   ·have hx:=yj8 g ns[k]
    cases hb:zbr ns[k] with
    | true=>
     rw [hb] at hx
     have ih:=ih hlt fun j hj hj'=>by
      by_cases e:j=k
      ·subst e;exact hb
      ·exact hp j (by omega) hj'
     repeat' ((conv=>whnf);first
     | refine Yz ?_
      | (refine zf3.ws k rfl hlt ?_)
      | (apply zah.of;assumption)
      | (refine zaj.to ih rfl rfl))
    | false=>
     rw [hb] at hx
     have hnl:zla ns=true:=List.any_eq_true.2 ⟨ns[k],List.getElem_mem hlt,by simp [hb]⟩
     repeat' ((conv=>whnf);first
     | refine Yz ?_
      | (refine zf3.ws k rfl hlt ?_)
      | (apply zah.of;assumption)
      | (refine Ret.mk ?_))
     simp [zwb,zao,hr,hk,hcn,hcv,hnl]
   ·have hnl:zla ns=false:=by
     refine List.any_eq_false.2 fun x hx=> ?_
     obtain⟨j,hj,rfl⟩:=List.mem_iff_getElem.1 hx
     simp [hp j (by omega) hj]
    repeat' ((conv=>whnf);first
    | refine Yz ?_)
    refine zaj.to (zaj.upP g (fun k=>[(1,.ptr ⟨0,1,0⟩ 0 0),(3,.ptr ⟨0,3,0⟩ 0 0),(5,I k)]) (fun _=>_) (fun k=>∀j,(hj:j<k)->(hj':j<vs.length)->yji vs[j]=false) vs.length (fun k hk2 hp2 ih2=> ?_) 0 (Nat.zero_le _) (fun j hj=>by omega)) rfl rfl
    by_cases hlt2:k<vs.length
    ·have hx:=z8y g vs[k] 0 999999999
     change Fc E zh9 _ (B (yji vs[k])) at hx
     cases hb:yji vs[k] with
     | false=>
      rw [hb] at hx
      have ih2:=ih2 hlt2 fun j hj hj'=>by
       by_cases e:j=k
       ·subst e;exact hb
       ·exact hp2 j (by omega) hj'
      repeat' ((conv=>whnf);first
      | refine Yz ?_
       | (refine zf3.iw k rfl hlt2 ?_)
       | (apply zah.of;assumption)
       | (refine zaj.to ih2 rfl rfl))
     | true=>
      rw [hb] at hx
      have hfr:far vs=true:=List.any_eq_true.2 ⟨vs[k],List.getElem_mem hlt2,hb⟩
      repeat' ((conv=>whnf);first
      | refine Yz ?_
       | (refine zf3.iw k rfl hlt2 ?_)
       | (apply zah.of;assumption)
       | (refine Ret.mk ?_))
      simp [zwb,zao,hr,hk,hcn,hcv,hnl,hfr]
    ·have hfr:far vs=false:=by
      refine List.any_eq_false.2 fun x hx=> ?_
      obtain⟨j,hj,rfl⟩:=List.mem_iff_getElem.1 hx
      simp [hp2 j (by omega) hj]
     by_cases htx:tx=[]
     ·subst htx
      repeat' ((conv=>whnf);first
      | refine Yz ?_
       | (refine Ret.mk ?_))
      simp [zwb,zao,hr,hk,hcn,hcv,hnl,hfr]
     ·repeat' ((conv=>whnf);first
     | refine Yz ?_
       | (refine Cmp.tt htx ?_)
       | (refine Cmp.ff htx ?_)
       | (refine Ret.mk ?_))
      simp [zwb,zao,hr,hk,hcn,hcv,hnl,hfr,htx]
  ·have hc2:ns.length≠zx3 ki\/vs.length≠zzf ki:=by omega
   repeat' ((conv=>whnf);first
   | refine Yz ?_
    | (apply zah.of;assumption)
    | (refine Cmp.mk (fun h=> ?_) (fun h=> ?_))|(refine Rem.any (by omega) (fun r hr he=> ?_))|(refine Br.mk (fun h=> ?_) (fun h=> ?_))
    | (refine Ret.mk ?_))
   all_goals try norm_cast at *
   all_goals (simp_all [zwb,zao];done)
end
theorem ylw:∀(m:Fin 128) (w:Fin 7),IntKind.i64.wrap ((BitVec.ofInt IntKind.i64.bits ((m.val:Int).fdiv (2^(min (w.val:Int).toNat IntKind.i64.bits)))&&&BitVec.ofInt IntKind.i64.bits 1).toNat)=(m.val:Int)/2^(w.val:Int).toNat%2:=by decide+kernel
theorem zf2.of {E:Oracle} {f:Nat} {args:List V} {cx:Cx} {slot:Nat} {m:Mem} {K:V->Mem->Prop} (h:In E 0 f args [] fun v m'=>z0d (Go.Evl.settle cx slot 0 m m' v) fun p=>K p.1 p.2):zf2 E f args cx slot m K:=by
 obtain⟨v,m',h1,p,h2,h3⟩:=h
 exact⟨v,m',p,h1,h2,h3⟩
section
variable {E : Oracle} (g : Good E)
include g
theorem ykh (m w:Int) (hm:0<=m/\m<=127) (hw:0<=w/\w<=6):Fc E zii [I m,I w] (B (inM m w)):=by
 refine g.fn rfl rfl ?_
 have h:=ylw ⟨m.toNat,by omega⟩ ⟨w.toNat,by omega⟩
 simp only [Int.toNat_of_nonneg hm.1,Int.toNat_of_nonneg hw.1] at h
 unfold inM
 by_cases hc:m/2^w.toNat%2=1
 ·repeat' ((conv=>whnf);first
 | refine Yz ?_
   | (refine Cmp.tt (h.trans hc) ?_)
   | (refine Ret.mk ?_))
  simp [hc]
 ·repeat' ((conv=>whnf);first
 | refine Yz ?_
   | (refine Cmp.ff (fun e=>hc (h.symm.trans e)) ?_)
   | (refine Ret.mk ?_))
  simp [hc]
end
structure Rqt where
 (nm ca ki te pa li:List UInt8)
 (fr to da mi se si no:Int)
 deriving DecidableEq
def Rqt.cells (q:Rqt):List D:=[.str q.nm,.str q.ca,.str q.ki,.str q.te,.str q.pa,.str q.li,DI q.fr,DI q.to,DI q.da,DI q.mi,DI q.se,DI q.si,DI q.no]
structure Lnt where
 ac:List UInt8
 rq:Rqt
def Lnt.cells (l:Lnt):List D:= .str l.ac::l.rq.cells
section
variable {E : Oracle} (g : Good E)
include g
theorem yhs (l:List (List UInt8)) (s:List UInt8) (hl:l.length<=140737488355328):Fc E zn0 [.d (.list l.length (l.map D.str)),S s] (B (decide (s∈l))):=by
 refine g.fn rfl rfl ?_
 conv=>whnf
 refine zaj.upP g (fun k=>[(0,.d (.list l.length (l.map D.str))),(1,S s),(5,I k)]) (fun _=>[]) (fun k=>∀i,i<k->∀x,l[i]? =some x->x≠s) l.length (fun k hk hp ih=> ?_) 0 (Nat.zero_le _) (fun i hi=>absurd hi (Nat.not_lt_zero _))
 by_cases hlt:k<l.length
 ·have hg:(l.map D.str)[((k:Int)).toNat*1]? =some (.str l[k]):=by simp [hlt]
  by_cases he:l[k]=s
  ·rw [decide_eq_true (by rw [<-he];exact List.getElem_mem hlt)]
   repeat' ((conv=>whnf);first
   | refine Yz ?_
    | (refine zf3.now hg ?_)
    | (refine Cmp.tt he ?_)
    | (refine Ret.mk rfl))
  ·have ih:=ih hlt fun i hi x hx=>by
    by_cases e:i=k
    ·subst e
     rw [List.getElem?_eq_getElem hlt] at hx
     rw [<-Option.some.inj hx];exact he
    ·exact hp i (by omega) x hx
   repeat' ((conv=>whnf);first
   | refine Yz ?_
    | (refine zf3.now hg ?_)
    | (refine Cmp.ff he ?_)
    | (refine zaj.to ih rfl rfl))
 ·have hno:s∉l:=fun hm=>by
   obtain⟨i,hi,e⟩:=List.getElem_of_mem hm
   exact hp i (by omega) s (by rw [List.getElem?_eq_getElem hi,e]) rfl
  rw [decide_eq_false hno]
  repeat' ((conv=>whnf);first
  | refine Yz ?_
   | (refine Ret.mk rfl))
end
end Go.Proofs.YtnabmkmhbncidabGreatDoor.Co
namespace Go.Evl
open Go Go.Lib
end Go.Evl
namespace Go.Proofs.YtnabmkmhbncidabGreatDoor.Co
open Go Go.Evl
set_option maxHeartbeats 32000000
set_option maxRecDepth 100000
theorem z43:∀l:List (List UInt8),Evl.strsOf (l.map D.str)=some l
 | []=>rfl
 | x::r=>by simp only [List.map_cons,Evl.strsOf,z43 r,Option.map_some]
theorem ye5 {cx:Cx} {slot lo:Nat} {old m:Mem} {o:Evl.Id} {v:V} (hi:Go.Evl.ids v=[o]) (hr:Go.Evl.ren [] v=v) (h:o.lv<lo):Go.Evl.settle cx slot lo old m v=some (v,old):=by
 have hn:¬lo<=o.lv:=by omega
 have hr':Go.Evl.reach lo m 64 (Go.Evl.ids v) []=[]:=by
  rw [hi]
  simp [Go.Evl.reach,hn]
 unfold Go.Evl.settle
 simp only [hr']
 rw [if_pos (by rw [hi];simp [Go.Evl.within,Go.Evl.movable,Go.Evl.onceB,h])]
 simp [Go.Evl.number,hr,Go.Evl.moved]
theorem z0d.low {cx:Cx} {slot lo:Nat} {old m:Mem} {o:Evl.Id} {v:V} {K:V×Mem->Prop} (hi:Go.Evl.ids v=[o]) (hr:Go.Evl.ren [] v=v) (h:o.lv<lo) (k:K (v,old)):z0d (Go.Evl.settle cx slot lo old m v) K:=⟨_,ye5 hi hr h,k⟩
theorem zaf {α:Type} (cell:α->List D) (w:Nat) (hw:∀a,(cell a).length=w):∀l:List α,(l.flatMap cell).length=l.length*w
 | []=>by simp
 | c::r=>by rw [List.flatMap_cons,List.length_append,hw,zaf cell w hw r,List.length_cons,Nat.succ_mul];omega
theorem zx2 {α:Type} (cell:α->List D) (w:Nat) (hw:∀a,(cell a).length=w):∀(l:List α) (k:Nat),(l.flatMap cell).drop (k*w)=(l.drop k).flatMap cell
 | l,0=>by simp
 | [],k+1=>by simp
 | c::r,k+1=>by
  rw [List.flatMap_cons,List.drop_succ_cons,<-zx2 cell w hw r k,Nat.succ_mul,Nat.add_comm,<-List.drop_drop]
  congr 1
  rw [List.drop_append_of_le_length (by rw [hw];exact Nat.le_refl _),List.drop_of_length_le (by rw [hw];exact Nat.le_refl _)]
  rfl
theorem zfj {α:Type} (cell:α->List D) (w:Nat) (hw:∀a,(cell a).length=w) (l:List α) (k:Nat) (h:k<l.length):win (l.flatMap cell) (k*w) w=cell l[k]:=by
 unfold win
 rw [zx2 cell w hw,List.drop_eq_getElem_cons h,List.flatMap_cons,List.take_append_of_le_length (by rw [hw];exact Nat.le_refl _),List.take_of_length_le (by rw [hw];exact Nat.le_refl _)]
theorem ygh {α:Type} (cell:α->List D) (w:Nat) (hw:∀a,(cell a).length=w) (l:List α) (k j:Nat) (h:k<l.length) (hj:j<w):(l.flatMap cell)[k*w+j]? =(cell l[k])[j]? :=by
 rw [<-List.getElem?_drop,zx2 cell w hw,List.drop_eq_getElem_cons h,List.flatMap_cons,List.getElem?_append_left (by rw [hw];exact hj)]
theorem z48.rec {α:Type} {cell:α->List D} {w:Nat} (hw:∀a,(cell a).length=w) {l:List α} {i:Int} {K:List D->Prop} (k:Nat) (hi:i=k) (h:k<l.length) (hk:K (cell l[k])):z48 (l.flatMap cell) (i.toNat*w) w K:=by
 subst hi
 rw [Int.toNat_natCast]
 have h1:=zaf cell w hw l
 refine⟨?_,by rw [zfj cell w hw l k h];exact hk⟩
 have h2:(k+1)*w<=l.length*w:=Nat.mul_le_mul_right _ h
 rw [Nat.succ_mul] at h2
 omega
theorem z48.rec0 {α:Type} {cell:α->List D} {w:Nat} (hw:∀a,(cell a).length=w) {l:List α} {i:Int} {K:List D->Prop} (k:Nat) (hi:i=k) (h:k<l.length) (hk:K (cell l[k])):z48 (l.flatMap cell) ((0+i.toNat)*w) w K:=by
 rw [Nat.zero_add];exact z48.rec hw k hi h hk
theorem zf3.rec {α:Type} {cell:α->List D} {w:Nat} (hw:∀a,(cell a).length=w) {l:List α} {i:Int} {j:Nat} {K:D->Prop} {d:D} (k:Nat) (hi:i=k) (h:k<l.length) (hj:(cell l[k])[j]? =some d) (hk:K d):zf3 (l.flatMap cell) (i.toNat*w+j) K:=by
 subst hi
 rw [Int.toNat_natCast]
 have hlt:j<w:=by
  have:=(List.getElem?_eq_some_iff.1 hj).1
  rwa [hw] at this
 exact⟨⟨d,by rw [ygh cell w hw l k j h hlt];exact hj,hk⟩⟩
theorem zf3.rec0 {α:Type} {cell:α->List D} {w:Nat} (hw:∀a,(cell a).length=w) {l:List α} {i:Int} {j:Nat} {K:D->Prop} {d:D} (k:Nat) (hi:i=k) (h:k<l.length) (hj:(cell l[k])[j]? =some d) (hk:K d):zf3 (l.flatMap cell) ((0+i.toNat)*w+j) K:=by
 rw [Nat.zero_add];exact zf3.rec hw k hi h hj hk
abbrev LE (l:List Evt):V:= .d (.list l.length (l.flatMap Evt.cells))
theorem evw (e:Evt):e.cells.length=5:=rfl
def zrn (e:Evt):Bool:=decide (e.ki.length<=60)&&decide (e.ns.length<=6)&&decide (e.vs.length<=8)&&decide (e.tx.length<=60)&&e.ns.all fun x=>decide (x.length<=60)
theorem yko (l:List Evt) (k:Nat) (h:k<l.length) (hs:zrn l[k]=false):l.all zrn=false:=by
 rw [List.all_eq_false]
 exact⟨l[k],List.getElem_mem h,by rw [hs];decide⟩
section
variable {E : Oracle} (g : Good E)
include g
theorem z6o (l:List Evt) (n:Int) (hn:n<=1000) (hl:l.length<=9223372036854775807) (hb:∀e∈l,e.ns.length<=9223372036854775807/\e.vs.length<=9223372036854775807/\e.ki.length<=9223372036854775807/\e.tx.length<=9223372036854775807/\∀x∈e.ns,x.length<=9223372036854775807):
  Fc E zjs [LE l,I n] (B (decide ((l.length:Int)<=n)&&l.all zrn)):=by
 refine g.fn rfl rfl ?_
 by_cases h0:n<l.length
 ·rw [decide_eq_false (by omega),Bool.false_and]
  repeat' ((conv=>whnf);first
  | refine Yz ?_
   | (refine Ret.mk rfl)
   | fail)
 rw [decide_eq_true (by omega),Bool.true_and]
 repeat' ((conv=>whnf);first
 | refine Yz ?_
  | fail)
 refine zaj.to (zaj.upP g (fun k=>[(0,LE l),(5,I k)]) (fun _=>[]) (fun k=>∀j,(hj:j<l.length)->j<k->zrn l[j]=true) l.length (fun k hk hp ih=> ?_) 0 (Nat.zero_le _) (fun j _ h=>absurd h (Nat.not_lt_zero _))) rfl rfl
 by_cases hlt:k<l.length
 ·obtain⟨b1,b2,b3,b4,b5⟩:=hb _ (List.getElem_mem hlt)
  have hnot:zrn l[k]=false->l.all zrn=false:=yko l k hlt
  have ih1:zrn l[k]=true->_:=fun hs=>ih hlt fun j hj hjk=>by
   by_cases e:j=k
   ·subst e;exact hs
   ·exact hp j hj (by omega)
  have hsb:zrn l[k]=(decide (l[k].ki.length<=60)&&decide (l[k].ns.length<=6)&&decide (l[k].vs.length<=8)&&decide (l[k].tx.length<=60)&&l[k].ns.all fun x=>decide (x.length<=60)):=rfl
  rw [hsb] at hnot ih1
  by_cases h1:l[k].ki.length<=60
  ·by_cases h2:l[k].ns.length<=6
   ·by_cases h3:l[k].vs.length<=8
    ·by_cases h4:l[k].tx.length<=60
     ·rw [decide_eq_true h1,decide_eq_true h2,decide_eq_true h3,decide_eq_true h4] at hnot ih1
      simp only [Bool.true_and] at hnot ih1
      repeat' ((conv=>whnf);first
      | refine Yz ?_
       | (refine zf3.rec evw k rfl hlt rfl ?_)
       | fail)
      refine zaj.to (zaj.upP g (fun j=>[(0,LE l),(5,I k),(6,I j)]) (fun _=>[]) (fun j=>∀i,(hi:i<l[k].ns.length)->i<j->l[k].ns[i].length<=60) l[k].ns.length (fun j hj hq ihj=> ?_) 0 (Nat.zero_le _) (fun i _ h=>absurd h (Nat.not_lt_zero _))) rfl rfl
      by_cases hjt:j<l[k].ns.length
      ·have b6:=b5 _ (List.getElem_mem hjt)
       by_cases hx:l[k].ns[j].length<=60
       ·have ihj:=ihj hjt fun i hi hij=>by
         by_cases e:i=j
         ·subst e;exact hx
         ·exact hq i hi (by omega)
        repeat' ((conv=>whnf);first
        | refine Yz ?_
         | (refine zf3.rec evw k rfl hlt rfl ?_)
         | (refine zf3.ws j rfl hjt ?_)
         | (refine zaj.to ihj rfl rfl)
         | fail)
       ·rw [hnot (by rw [List.all_eq_false];exact⟨l[k].ns[j],List.getElem_mem hjt,by simpa using hx⟩)]
        repeat' ((conv=>whnf);first
        | refine Yz ?_
         | (refine zf3.rec evw k rfl hlt rfl ?_)
         | (refine zf3.ws j rfl hjt ?_)
         | (refine Ret.mk rfl)
         | fail)
      ·obtain rfl:j=l[k].ns.length:=by omega
       have ih:=ih1 (by
        rw [List.all_eq_true]
        intro x hx
        obtain⟨i,hi,rfl⟩:=List.mem_iff_getElem.1 hx
        simpa using hq i hi hi)
       repeat' ((conv=>whnf);first
       | refine Yz ?_
        | (refine zf3.rec evw k rfl hlt rfl ?_)
        | (refine zaj.to ih rfl rfl)
        | fail)
     ·rw [decide_eq_false h4] at hnot
      rw [hnot (by simp)]
      repeat' ((conv=>whnf);first
      | refine Yz ?_
       | (refine zf3.rec evw k rfl hlt rfl ?_)
       | (refine Ret.mk rfl)
       | fail)
    ·rw [decide_eq_false h3] at hnot
     rw [hnot (by simp)]
     repeat' ((conv=>whnf);first
     | refine Yz ?_
      | (refine zf3.rec evw k rfl hlt rfl ?_)
      | (refine Ret.mk rfl)
      | fail)
   ·rw [decide_eq_false h2] at hnot
    rw [hnot (by simp)]
    repeat' ((conv=>whnf);first
    | refine Yz ?_
     | (refine zf3.rec evw k rfl hlt rfl ?_)
     | (refine Ret.mk rfl)
     | fail)
  ·rw [decide_eq_false h1] at hnot
   rw [hnot (by simp)]
   repeat' ((conv=>whnf);first
   | refine Yz ?_
    | (refine zf3.rec evw k rfl hlt rfl ?_)
    | (refine Ret.mk rfl)
    | fail)
 ·obtain rfl:k=l.length:=by omega
  have:l.all zrn=true:=by
   rw [List.all_eq_true]
   intro x hx
   obtain⟨i,hi,rfl⟩:=List.mem_iff_getElem.1 hx
   exact hp i hi hi
  rw [this]
  repeat' ((conv=>whnf);first
  | refine Yz ?_
   | (refine Ret.mk rfl)
   | fail)
end
mutual
theorem z18:∀d:D,zk7 d d=true
 | .int k a=>by simp [zk7]
 | .bool a=>by simp [zk7]
 | .str a=>by simp [zk7]
 | .nil=>rfl
 | .list n a=>by simp [zk7,zk8 a]
 | .agg a=>by simp [zk7,zk8 a]
 | .nilp=>rfl
 | .nilf=>rfl
 | .nili=>rfl
 | .ifc a=>by simp [zk7]
 | .nilm=>rfl
 | .fn a=>by simp [zk7]
theorem zk8:∀l:List D,zlr l l=true
 | []=>rfl
 | x::r=>by simp [zlr,z18 x,zk8 r]
end
mutual
theorem zzq:∀v:V,zsl v v=true
 | .d a=>z18 a
 | .agg a=>by simp [zsl,znr a]
 | .tup a=>by simp [zsl,znr a]
 | .ref o a b c=>by simp [zsl]
 | .ptr o a b=>by simp [zsl]
 | .lptr a n=>by simp [zsl,zk8 a]
 | .fn f a b=>by simp [zsl,znr a,znr b]
 | .yld o=>by simp [zsl]
 | .mp o=>by simp [zsl]
 | .it o=>by simp [zsl]
 | .skip=>rfl
 | .undef=>rfl
theorem znr:∀l:List V,zxz l l=true
 | []=>rfl
 | x::r=>by simp [zxz,zzq x,znr r]
end
def ydj:Mem->Bool
 | []=>true
 | (_,o)::r=>(match o with
  | .cells .. =>true
  | .row .. =>true
  | _=>false)&&ydj r
def z91 (m1:Mem):Mem->Prop
 | []=>True
 | (i,o)::r=>Evl.look m1 i=some o/\z91 m1 r
theorem ycw (m1:Mem):∀m:Mem,ydj m=true->z91 m1 m->z8f m1 m=true
 | [],_,_=>rfl
 | (i,o)::r,h,hk=>by
  obtain⟨h1,h2⟩:=hk
  simp only [ydj,Bool.and_eq_true] at h
  have ih:=ycw m1 r h.2 h2
  unfold z8f
  rw [h1,ih,Bool.and_true]
  cases o<;>simp at h
  ·simp [ybc,znr]
  ·simp [ybc,zk8]
structure Qs (E:Oracle) (f:Nat) (as0:List V) (m0:Mem) (r:V):Prop where
 got:In E 1 f as0 m0 fun v m1=>v=r/\z91 m1 m0
theorem zmb.of {E:Oracle} {f:Nat} {first caps args as0:List V} {m m0:Mem} {r r':V} {K:V->Prop} (is:List Evl.Id) (his:reach 0 m 64 (ze1 (first ++args++caps)) []=is)
  (hc:(within is 0 (ze1 (first ++args++caps))&&movable is 0 m)=true) (has:zwy (number ⟨0,0⟩ 0 0 is) (first ++args++caps)=as0) (hm:moved (number ⟨0,0⟩ 0 0 is) m (number ⟨0,0⟩ 0 0 is)=m0)
  (hq:Qs E f as0 m0 r) (hp:ydj m0=true) (hid:(ids r).all (fun i=>((number ⟨0,0⟩ 0 0 is).map (·.2)).elem i)=true) (hr:ren (zpw (number ⟨0,0⟩ 0 0 is)) r=r') (hk:K r'):zmb E (.fn f first caps) args m K:=by
 obtain⟨v,m1,h1,rfl,h3⟩:=hq.got
 refine⟨r',?_,hk⟩
 simp only [zv9,his,hc,if_true,has,hm,h1]
 rw [ycw m1 m0 hp h3,hid,hr]
 rfl
structure Ent where
 nm:List UInt8
 kd:List UInt8
 sr:List UInt8
 bs:List UInt8
 kn:Int
 fr:Int
 to:Int
 mi:Int
structure Rmv where
 en:List UInt8
 kn:Int
structure Cpl where
 nm:List UInt8
 en:List UInt8
 kn:Int
 cl:Bool
 up:Bool
structure Rgs where
 kn:Int
 es:List Ent
 rs:List Rmv
 cs:List Cpl
def Ent.cells (e:Ent):List D:=[.str e.nm,.str e.kd,.str e.sr,.str e.bs,DI e.kn,DI e.fr,DI e.to,DI e.mi]
def Rmv.cells (r:Rmv):List D:=[.str r.en,DI r.kn]
def Cpl.cells (c:Cpl):List D:=[.str c.nm,.str c.en,DI c.kn,.bool c.cl,.bool c.up]
abbrev ype (e:Ent):V:= .d (.agg e.cells)
theorem zwf (e:Ent):e.cells.length=8:=rfl
theorem ykc (e:Rmv):e.cells.length=2:=rfl
theorem zxy (e:Cpl):e.cells.length=5:=rfl
abbrev Rgv (r:Rgs):V:= .d (.agg [DI r.kn,.list r.es.length (r.es.flatMap Ent.cells),.list r.rs.length (r.rs.flatMap Rmv.cells),.list r.cs.length (r.cs.flatMap Cpl.cells)])
abbrev mR (t:Nat) (ev:List Evt) (r:Rgs):Mem:=[(⟨0,0,0⟩,.cells t [.ref ⟨0,0,1⟩ 0 ev.length ev.length,I r.kn,.ref ⟨0,0,2⟩ 0 r.es.length r.es.length,.ref ⟨0,0,3⟩ 0 r.rs.length r.rs.length,.ref ⟨0,0,4⟩ 0 r.cs.length r.cs.length]),
 (⟨0,0,1⟩,.row false zad 5 ev.length (ev.flatMap Evt.cells)),(⟨0,0,2⟩,.row false zac 8 r.es.length (r.es.flatMap Ent.cells)),(⟨0,0,3⟩,.row false zbl 2 r.rs.length (r.rs.flatMap Rmv.cells)),(⟨0,0,4⟩,.row true zai 5 r.cs.length (r.cs.flatMap Cpl.cells))]
abbrev isR:List Evl.Id:=[⟨0,0,0⟩,⟨0,0,1⟩,⟨0,0,2⟩,⟨0,0,3⟩,⟨0,0,4⟩]
def zll (es:List Ent) (nm:List UInt8):Int:=yen (fun x=>decide (x.nm=nm)) es
def zwe (cs:List Cpl) (nm:List UInt8):Int:=yen (fun x=>decide (x.nm=nm)) cs
theorem z33 {α:Type} (p:α->Bool) (l:List α):(yen p l= -1/\∀j,(hj:j<l.length)->p l[j]=false)\/∃k,∃hk:k<l.length,yen p l=k/\p l[k]=true/\∀j,(hj:j<k)->p (l[j]'(by omega))=false:=by
 unfold yen
 cases h:l.findIdx? p with
 | none=>
  refine .inl ⟨rfl,fun j hj=> ?_⟩
  have:=List.findIdx?_eq_none_iff.1 h l[j] (List.getElem_mem hj)
  simpa using this
 | some i=>
  obtain⟨hi,hp,hn⟩:=List.findIdx?_eq_some_iff_getElem.1 h
  refine .inr ⟨i,hi,rfl,hp,fun j hj=> ?_⟩
  have:=hn j hj
  simpa using this
abbrev yga (r:Rgs) (i:Int):V:=if 0<=i then .ptr ⟨0,0,2⟩ ((0+i.toNat)*8) r.es.length else .d .nilp
abbrev yk7 (r:Rgs) (i:Int):V:=if 0<=i then .ptr ⟨0,0,4⟩ ((0+i.toNat)*5) r.cs.length else .d .nilp
section
variable {E : Oracle} (g : Good E)
include g
theorem z6l (t:Nat) (ev:List Evt) (r:Rgs) (nm:List UInt8) (hl:r.es.length<=1000000):Qs E zbn [.ptr ⟨0,0,0⟩ 1 0,S nm] (mR t ev r) (yga r (zll r.es nm)):=by
 refine⟨?_⟩
 refine In.enter (f:=zbn) g.lim rfl rfl ?_
 have hml:(r.es.flatMap Ent.cells).length=r.es.length*8:=zaf Ent.cells 8 zwf r.es
 repeat' ((conv=>whnf);first
 | refine Yz ?_
  | (refine In.enter (f:=zat) g.lim rfl rfl ?_)
  | fail)
 refine zaj.to (zaj.upP g (fun k=>[(0,.ref ⟨0,0,2⟩ 0 r.es.length r.es.length),(1,.fn zcu [] [.ptr ⟨1,3,0⟩ 0 0]),(7,I r.es.length),(8,I k)]) (fun _=>mR t ev r++[(⟨1,3,0⟩,.cells zab [S nm])]) (fun k=>∀j,(hj:j<k)->(hj':j<r.es.length)->decide (r.es[j].nm=nm)=false) r.es.length (fun k hk hp ih=> ?_) 0 (Nat.zero_le _) (fun j h _=>absurd h (Nat.not_lt_zero _))) rfl rfl
 by_cases hlt:k<r.es.length
 ·have hwin:win (r.es.flatMap Ent.cells) ((0+((k:Nat):Int).toNat)*8) 8=r.es[k].cells:=by
   rw [Nat.zero_add,Int.toNat_natCast]
   exact zfj Ent.cells 8 zwf r.es k hlt
  by_cases he:r.es[k].nm=nm
  ·have hi:zll r.es nm=k:=zpj (p:=fun x:Ent=>decide (x.nm=nm)) hlt (decide_eq_true he) fun j hj=>hp j hj (by omega)
   rw [hi,yga,if_pos (by omega)]
   repeat' ((conv=>whnf);first
   | refine Yz ?_
    | (rw [hwin];refine In.enter (f:=zcu) g.lim rfl rfl ?_)
    | (refine Cmp.tt he ?_)
    | (exact⟨rfl,rfl,rfl,rfl,rfl,rfl,trivial⟩)
    | fail)
  ·have ih:=ih hlt fun j hj hj'=>by
    by_cases e:j=k
    ·subst e;exact decide_eq_false he
    ·exact hp j (by omega) hj'
   repeat' ((conv=>whnf);first
   | refine Yz ?_
    | (rw [hwin];refine In.enter (f:=zcu) g.lim rfl rfl ?_)
    | (refine Cmp.ff he ?_)
    | (refine zaj.to ih rfl rfl)
    | fail)
 ·obtain rfl:k=r.es.length:=by omega
  have hi:zll r.es nm= -1:=znt (p:=fun x:Ent=>decide (x.nm=nm)) fun j hj=>hp j hj hj
  rw [hi,yga,if_neg (by decide)]
  repeat' ((conv=>whnf);first
  | refine Yz ?_
   | (exact⟨rfl,rfl,rfl,rfl,rfl,rfl,trivial⟩)
   | fail)
theorem zu9 (t:Nat) (ev:List Evt) (r:Rgs) (nm:List UInt8) (hl:r.cs.length<=1000000):Qs E zbu [.ptr ⟨0,0,0⟩ 1 0,S nm] (mR t ev r) (yk7 r (zwe r.cs nm)):=by
 refine⟨?_⟩
 refine In.enter (f:=zbu) g.lim rfl rfl ?_
 have hml:(r.cs.flatMap Cpl.cells).length=r.cs.length*5:=zaf Cpl.cells 5 zxy r.cs
 repeat' ((conv=>whnf);first
 | refine Yz ?_
  | (refine In.enter (f:=za7) g.lim rfl rfl ?_)
  | fail)
 refine zaj.to (zaj.upP g (fun k=>[(0,.ref ⟨0,0,4⟩ 0 r.cs.length r.cs.length),(1,.fn zb3 [] [.ptr ⟨1,3,0⟩ 0 0]),(7,I r.cs.length),(8,I k)]) (fun _=>mR t ev r++[(⟨1,3,0⟩,.cells zab [S nm])]) (fun k=>∀j,(hj:j<k)->(hj':j<r.cs.length)->decide (r.cs[j].nm=nm)=false) r.cs.length (fun k hk hp ih=> ?_) 0 (Nat.zero_le _) (fun j h _=>absurd h (Nat.not_lt_zero _))) rfl rfl
 by_cases hlt:k<r.cs.length
 ·have hwin:win (r.cs.flatMap Cpl.cells) ((0+((k:Nat):Int).toNat)*5) 5=r.cs[k].cells:=by
   rw [Nat.zero_add,Int.toNat_natCast]
   exact zfj Cpl.cells 5 zxy r.cs k hlt
  by_cases he:r.cs[k].nm=nm
  ·have hi:zwe r.cs nm=k:=zpj (p:=fun x:Cpl=>decide (x.nm=nm)) hlt (decide_eq_true he) fun j hj=>hp j hj (by omega)
   rw [hi,yk7,if_pos (by omega)]
   repeat' ((conv=>whnf);first
   | refine Yz ?_
    | (rw [hwin];refine In.enter (f:=zb3) g.lim rfl rfl ?_)
    | (refine Cmp.tt he ?_)
    | (exact⟨rfl,rfl,rfl,rfl,rfl,rfl,trivial⟩)
    | fail)
  ·have ih:=ih hlt fun j hj hj'=>by
    by_cases e:j=k
    ·subst e;exact decide_eq_false he
    ·exact hp j (by omega) hj'
   repeat' ((conv=>whnf);first
   | refine Yz ?_
    | (rw [hwin];refine In.enter (f:=zb3) g.lim rfl rfl ?_)
    | (refine Cmp.ff he ?_)
    | (refine zaj.to ih rfl rfl)
    | fail)
 ·obtain rfl:k=r.cs.length:=by omega
  have hi:zwe r.cs nm= -1:=znt (p:=fun x:Cpl=>decide (x.nm=nm)) fun j hj=>hp j hj hj
  rw [hi,yk7,if_neg (by decide)]
  repeat' ((conv=>whnf);first
  | refine Yz ?_
   | (exact⟨rfl,rfl,rfl,rfl,rfl,rfl,trivial⟩)
   | fail)
end
inductive Ch (es:List Ent):Nat->List Ent->Prop
 | stop (k:Nat) (hk:k<es.length) (h:zll es es[k].bs= -1):Ch es k [es[k]]
 | step (k j:Nat) (tl:List Ent) (hk:k<es.length) (h:zll es es[k].bs=j) (ht:Ch es j tl):Ch es k (es[k]::tl)
def zzg (rs:List Rmv) (nm:List UInt8) (kn:Int):Bool:=rs.any fun z=>decide (z.en=nm/\z.kn<=kn)
abbrev mC (t:Nat) (ev:List Evt) (r:Rgs) (x:Ent) (kn:Int):Mem:=mR t ev r++[(⟨1,3,0⟩,.cells zbs [.ptr ⟨0,0,0⟩ 1 0]),(⟨1,4,0⟩,.cells zac [S x.nm,S x.kd,S x.sr,S x.bs,I x.kn,I x.fr,I x.to,I x.mi]),(⟨1,5,0⟩,.cells za6 [I kn])]
section
variable {E : Oracle} (g : Good E)
include g
theorem z34 (t:Nat) (ev:List Evt) (r:Rgs) (x y:Ent) (kn:Int) (hl:r.rs.length<=1000000) {slot:Nat} {K:V->Mem->Prop} (hK:K (B (zzg r.rs y.nm kn)) (mC t ev r x kn)):
  In E 4 zcj [ype y,.ptr ⟨1,3,0⟩ 0 0,.ptr ⟨1,5,0⟩ 0 0] (mC t ev r x kn) fun v m'=>z5e ⟨3,4⟩ slot true v m' K:=by
 refine In.enter (f:=zcj) g.lim rfl rfl ?_
 have hml:(r.rs.flatMap Rmv.cells).length=r.rs.length*2:=zaf Rmv.cells 2 ykc r.rs
 repeat' ((conv=>whnf);first
 | refine Yz ?_
  | (refine In.enter (f:=zbb) g.lim rfl rfl ?_)
  | (refine In.enter (f:=zbi) g.lim rfl rfl ?_)
  | fail)
 refine zaj.to (zaj.upP g (fun k=>[(0,.ref ⟨0,0,3⟩ 0 r.rs.length r.rs.length),(1,.fn zbp [] [.ptr ⟨4,3,0⟩ 0 0,.ptr ⟨1,5,0⟩ 0 0]),(7,I r.rs.length),(8,I k)]) (fun _=>mC t ev r x kn++[(⟨4,3,0⟩,.cells zac [S y.nm,S y.kd,S y.sr,S y.bs,I y.kn,I y.fr,I y.to,I y.mi])])
  (fun k=>∀j,(hj:j<r.rs.length)->j<k->¬(r.rs[j].en=y.nm/\r.rs[j].kn<=kn)) r.rs.length (fun k hk hp ih=> ?_) 0 (Nat.zero_le _) (fun j _ h=>absurd h (Nat.not_lt_zero _))) rfl rfl
 by_cases hlt:k<r.rs.length
 ·have hwin:win (r.rs.flatMap Rmv.cells) ((0+((k:Nat):Int).toNat)*2) 2=r.rs[k].cells:=by
   rw [Nat.zero_add,Int.toNat_natCast]
   exact zfj Rmv.cells 2 ykc r.rs k hlt
  by_cases he:r.rs[k].en=y.nm
  ·by_cases hn:r.rs[k].kn<=kn
   ·have hb:zzg r.rs y.nm kn=true:=List.any_eq_true.2 ⟨_,List.getElem_mem hlt,decide_eq_true ⟨he,hn⟩⟩
    rw [hb] at hK
    repeat' ((conv=>whnf);first
    | refine Yz ?_
     | (rw [hwin];refine In.enter (f:=zbp) g.lim rfl rfl ?_)
     | (refine Cmp.tt he ?_)
     | (exact hK)
     | fail)
   ·have ih:=ih hlt fun j hj hjk=>by
     by_cases e:j=k
     ·subst e;exact fun h=>hn h.2
     ·exact hp j hj (by omega)
    repeat' ((conv=>whnf);first
    | refine Yz ?_
     | (rw [hwin];refine In.enter (f:=zbp) g.lim rfl rfl ?_)
     | (refine Cmp.tt he ?_)
     | (refine zaj.to ih rfl rfl)
     | fail)
  ·have ih:=ih hlt fun j hj hjk=>by
    by_cases e:j=k
    ·subst e;exact fun h=>he h.1
    ·exact hp j hj (by omega)
   repeat' ((conv=>whnf);first
   | refine Yz ?_
    | (rw [hwin];refine In.enter (f:=zbp) g.lim rfl rfl ?_)
    | (refine Cmp.ff he ?_)
    | (refine zaj.to ih rfl rfl)
    | fail)
 ·obtain rfl:k=r.rs.length:=by omega
  have hb:zzg r.rs y.nm kn=false:=by
   unfold zzg
   rw [List.any_eq_false]
   intro z hz
   obtain⟨j,hj,rfl⟩:=List.mem_iff_getElem.1 hz
   simpa using hp j hj hj
  rw [hb] at hK
  repeat' ((conv=>whnf);first
  | refine Yz ?_
   | (exact hK)
   | fail)
theorem yj4 (t:Nat) (ev:List Evt) (r:Rgs) (kn:Int) (hr:r.rs.length<=1000000) (hl:r.es.length<=1000000) (k:Nat) (hk:k<r.es.length) (c:List Ent) (hc:Ch r.es k c) (hcl:c.length<=1000000):
  Qs E zbv [.ptr ⟨0,0,0⟩ 1 0,ype r.es[k],I kn] (mR t ev r) (B (decide (r.es[k].kn<=kn)&& !c.any fun y=>zzg r.rs y.nm kn)):=by
 refine⟨?_⟩
 generalize hx:r.es[k]=x at *
 have hml:(r.es.flatMap Ent.cells).length=r.es.length*8:=zaf Ent.cells 8 zwf r.es
 refine In.enter (f:=zbv) g.lim rfl rfl ?_
 repeat' ((conv=>whnf);first
 | refine Yz ?_
  | (refine In.enter (f:=zd7) g.lim rfl rfl ?_)
  | fail)
 refine zaj.to (zaj.by (σ:=List Ent×Ent×Nat×List Ent) g (fun u=>(∃hk:u.2.2.1<r.es.length,r.es[u.2.2.1]=u.2.1)/\Ch r.es u.2.2.1 u.2.2.2/\∃pre,u.1=pre++[u.2.1]/\pre++u.2.2.2=c)
  (fun u=>[(0,.ptr ⟨0,0,0⟩ 1 0),(5,.ref ⟨2,8,0⟩ 0 u.1.length u.1.length)])
  (fun u=>mC t ev r x kn++[(⟨2,3,0⟩,.cells zac [S x.nm,S x.kd,S x.sr,S x.bs,I x.kn,I x.fr,I x.to,I x.mi]),(⟨2,4,0⟩,.row false zac 8 0 []),(⟨2,8,0⟩,.row false zac 8 u.1.length (u.1.flatMap Ent.cells))])
  (fun u=>u.2.2.2.length) ?_ ([x],x,k,c) ⟨⟨hk,hx⟩,hc,[],rfl,rfl⟩) rfl rfl
 clear hc hx
 rintro⟨out,y,k,tl⟩ ⟨⟨hk,hy⟩,hc,pre,h1,h2⟩ ih
 dsimp only at hk hy hc h1 h2 ih ⊢
 have hol:out.length=pre.length+1:=by rw [h1];simp
 have hlast:out[pre.length]'(by omega)=y:=by simp [h1]
 have hq:=z6l g t ev r y.bs hl
 have hcl2:pre.length+tl.length<=1000000:=by rw [<-List.length_append,h2];exact hcl
 have hmo:(out.flatMap Ent.cells).length=out.length*8:=zaf Ent.cells 8 zwf out
 cases hc with
 | stop k hk' h=>
  rw [hy] at h h2
  rw [h,yga,if_neg (by decide)] at hq
  obtain rfl:out=c:=h1.trans h2
  repeat' ((conv=>whnf);first
  | refine Yz ?_
   | (refine zf3.rec0 zwf pre.length (by omega) (by omega) rfl ?_;rw [hlast])
   | (refine zmb.of (r':= .d .nilp) isR rfl rfl rfl rfl hq rfl rfl rfl ?_)
   | (rw [if_pos ⟨rfl,rfl⟩];refine In.enter (f:=zav) g.lim rfl rfl ?_)
   | (refine In.enter (f:=zat) g.lim rfl rfl ?_)
   | fail)
  refine zaj.to (zaj.upP g (fun k=>[(0,.d (.list out.length (out.flatMap Ent.cells))),(1,.fn zcj [] [.ptr ⟨1,3,0⟩ 0 0,.ptr ⟨1,5,0⟩ 0 0]),(7,I out.length),(8,I k)]) (fun _=>mC t ev r x kn)
   (fun k=>∀j,(hj:j<out.length)->j<k->zzg r.rs out[j].nm kn=false) out.length (fun m hm hp ihm=> ?_) 0 (Nat.zero_le _) (fun j _ h=>absurd h (Nat.not_lt_zero _))) rfl rfl
  by_cases hlt:m<out.length
  ·have hwin:win (out.flatMap Ent.cells) (((m:Nat):Int).toNat*8) 8=out[m].cells:=by
    rw [Int.toNat_natCast]
    exact zfj Ent.cells 8 zwf out m hlt
   cases hb:zzg r.rs out[m].nm kn with
   | true=>
    have ha:(out.any fun y=>zzg r.rs y.nm kn)=true:=List.any_eq_true.2 ⟨_,List.getElem_mem hlt,hb⟩
    rw [ha,Bool.not_true,Bool.and_false]
    by_cases hkn:x.kn<=kn
    all_goals repeat' ((conv=>whnf);first
    | refine Yz ?_
     | (rw [hwin];refine z34 g t ev r x out[m] kn hr (slot:=16) ?_;rw [hb])
     | (exact⟨rfl,rfl,rfl,rfl,rfl,rfl,trivial⟩)
     | fail)
   | false=>
    have ihm:=ihm hlt fun j hj hjm=>by
     by_cases e:j=m
     ·subst e;exact hb
     ·exact hp j hj (by omega)
    repeat' ((conv=>whnf);first
    | refine Yz ?_
     | (rw [hwin];refine z34 g t ev r x out[m] kn hr (slot:=16) ?_;rw [hb])
     | (refine zaj.to ihm rfl rfl)
     | fail)
  ·obtain rfl:m=out.length:=by omega
   have ha:(out.any fun y=>zzg r.rs y.nm kn)=false:=by
    rw [List.any_eq_false]
    intro z hz
    obtain⟨j,hj,rfl⟩:=List.mem_iff_getElem.1 hz
    rw [hp j hj hj];decide
   rw [ha,Bool.not_false,Bool.and_true]
   by_cases hkn:x.kn<=kn
   ·rw [decide_eq_true hkn]
    repeat' ((conv=>whnf);first
    | refine Yz ?_
     | (exact⟨rfl,rfl,rfl,rfl,rfl,rfl,trivial⟩)
     | fail)
   ·rw [decide_eq_false hkn]
    repeat' ((conv=>whnf);first
    | refine Yz ?_
     | (exact⟨rfl,rfl,rfl,rfl,rfl,rfl,trivial⟩)
     | fail)
 | step k j tl hk' h ht=>
  rw [hy] at h h2
  rw [h,yga,if_pos (by omega)] at hq
  obtain⟨hj,hj'⟩:∃hj:j<r.es.length,True:=by
   cases ht with
   | stop _ hj _=>exact⟨hj,trivial⟩
   | step _ _ _ hj _ _=>exact⟨hj,trivial⟩
  have hwin:win (r.es.flatMap Ent.cells) ((0+((j:Nat):Int).toNat)*8) 8=r.es[j].cells:=by
   rw [Nat.zero_add,Int.toNat_natCast]
   exact zfj Ent.cells 8 zwf r.es j hj
  simp only [List.length_cons] at hcl2
  have ih:=ih (out++[r.es[j]],r.es[j],j,tl) ⟨⟨hj,rfl⟩,ht,out,rfl,by rw [h1,List.append_assoc];exact h2⟩ (by simp)
  simp only [List.length_append,List.length_cons,List.length_nil,List.flatMap_append,List.flatMap_cons,List.flatMap_nil] at ih
  repeat' ((conv=>whnf);first
  | refine Yz ?_
   | (refine zf3.rec0 zwf pre.length (by omega) (by omega) rfl ?_;rw [hlast])
   | (refine zmb.of (r':= .ptr ⟨0,0,2⟩ ((0+((j:Nat):Int).toNat)*8) r.es.length) isR rfl rfl rfl rfl hq rfl rfl rfl ?_)
   | (rw [hwin])
   | (refine zeb.mk ⟨rfl,rfl,rfl,rfl,rfl,rfl,by dsimp only;omega,by omega⟩ ?_)
   | (refine zaj.to ih rfl rfl)
   | fail)
end
def chF:Nat->List Ent->Ent->List Ent
 | 0,_,x=>[x]
 | n+1,es,x=>if h:0<=zll es x.bs/\(zll es x.bs).toNat<es.length then x::chF n es es[(zll es x.bs).toNat] else [x]
def ynq (es:List Ent):Prop:=∀k,(hk:k<es.length)->zll es es[k].bs<k
theorem zdb (es:List Ent) (nm:List UInt8):(zll es nm= -1/\∀j,(hj:j<es.length)->es[j].nm≠nm)\/∃k,∃hk:k<es.length,zll es nm=k/\es[k].nm=nm/\∀j,(hj:j<k)->(es[j]'(by omega)).nm≠nm:=by
 rcases z33 (fun x:Ent=>decide (x.nm=nm)) es with⟨h1,h2⟩|⟨k,hk,h1,h2,h3⟩
 ·exact .inl ⟨h1,fun j hj=>of_decide_eq_false (h2 j hj)⟩
 ·exact .inr ⟨k,hk,h1,of_decide_eq_true h2,fun j hj=>of_decide_eq_false (h3 j hj)⟩
theorem zm6 (cs:List Cpl) (nm:List UInt8):zwe cs nm= -1\/∃k,∃hk:k<cs.length,zwe cs nm=k/\cs[k].nm=nm:=by
 rcases z33 (fun x:Cpl=>decide (x.nm=nm)) cs with⟨h1,_⟩|⟨k,hk,h1,h2,_⟩
 ·exact .inl h1
 ·exact .inr ⟨k,hk,h1,of_decide_eq_true h2⟩
theorem z7m {es:List Ent} (hb:ynq es):∀(n k:Nat),k<=n->(hk:k<es.length)->Ch es k (chF n es es[k])
 | 0,k,hn,hk=>by
  obtain rfl:k=0:=by omega
  have h:=hb 0 hk
  rcases zdb es es[0].bs with⟨h1,_⟩|⟨j,_,h1,_⟩
  ·exact .stop 0 hk h1
  ·omega
 | n+1,k,hn,hk=>by
  have h:=hb k hk
  rcases zdb es es[k].bs with⟨h1,_⟩|⟨j,hj,h1,_⟩
  ·unfold chF
   rw [dif_neg (by omega)]
   exact .stop k hk h1
  ·have e:(zll es es[k].bs).toNat=j:=by omega
   unfold chF
   rw [dif_pos ⟨by omega,by omega⟩]
   simp only [e]
   exact .step k j _ hk h1 (z7m hb n j (by omega) hj)
theorem yf5 (es:List Ent):∀(n:Nat) (x:Ent),(chF n es x).length<=n+1
 | 0,x=>by simp [chF]
 | n+1,x=>by
  unfold chF
  split
  ·have:=yf5 es n es[(zll es x.bs).toNat]
   simp only [List.length_cons];omega
  ·simp
theorem Ch.det {es:List Ent} {k:Nat} {a b:List Ent} (ha:Ch es k a) (hb:Ch es k b):a=b:=by
 induction ha generalizing b with
 | stop k hk h=>
  cases hb with
  | stop _ _ _=>rfl
  | step _ j _ _ h' _=>rw [h] at h';omega
 | step k j tl hk h ht ih=>
  cases hb with
  | stop _ _ h'=>rw [h] at h';omega
  | step _ j' tl' _ h' ht'=>
   rw [h] at h'
   obtain rfl:j=j':=by omega
   rw [ih ht']
def z2g (r:Rgs) (x:Ent) (kn:Int):Bool:=decide (x.kn<=kn)&& !(chF r.es.length r.es x).any fun y=>zzg r.rs y.nm kn
structure OkR (r:Rgs):Prop where
 bs:∀k,(hk:k<r.es.length)->r.es[k].bs=[]\/∃j:Nat,j<k/\zll r.es r.es[k].bs=j
 nm:∀x∈r.es,x.nm≠[]
 asc:r.es.Pairwise fun a b=>a.kn<=b.kn
 top:∀x∈r.es,x.kn<=r.kn
 mi:∀x∈r.es,0<=x.mi/\x.mi<=1440
 es:r.es.length<=256
 rs:r.rs.length<=1000
 cs:r.cs.length<=64
theorem yac {es:List Ent} (h:∀x∈es,x.nm≠[]):zll es []= -1:=by
 rcases zdb es [] with⟨h1,_⟩|⟨j,hj,_,h2,_⟩
 ·exact h1
 ·exact absurd h2 (h _ (List.getElem_mem hj))
theorem OkR.bases {r:Rgs} (h:OkR r):ynq r.es:=by
 intro k hk
 rcases h.bs k hk with e|⟨j,hj,e⟩
 ·rw [e,yac h.nm];omega
 ·omega
theorem OkR.le {r:Rgs} (h:OkR r) {i j:Nat} (hij:i<=j) (hj:j<r.es.length):(r.es[i]'(by omega)).kn<=r.es[j].kn:=by
 by_cases e:i=j
 ·subst e;exact Int.le_refl _
 ·exact List.pairwise_iff_getElem.1 h.asc i j (by omega) hj (by omega)
theorem zzp {r:Rgs} (ho:OkR r) {k:Nat} (hk:k<r.es.length) (h:r.es[k].bs=[]) (kn:Int):z2g r r.es[k] kn=(decide (r.es[k].kn<=kn)&& !zzg r.rs r.es[k].nm kn):=by
 have h1:=z7m ho.bases r.es.length k (by omega) hk
 have h2:Ch r.es k [r.es[k]]:= .stop k hk (by rw [h];exact yac ho.nm)
 unfold z2g
 rw [h1.det h2]
 simp
theorem z5n {r:Rgs} (ho:OkR r) {k j:Nat} (hk:k<r.es.length) (hj:j<k) (h:zll r.es r.es[k].bs=j) (kn:Int):z2g r r.es[k] kn=(decide (r.es[k].kn<=kn)&& !zzg r.rs r.es[k].nm kn&&z2g r (r.es[j]'(by omega)) kn):=by
 have hjl:j<r.es.length:=by omega
 have h1:=z7m ho.bases r.es.length k (by omega) hk
 have h3:=z7m ho.bases r.es.length j (by omega) hjl
 have h2:Ch r.es k (r.es[k]::chF r.es.length r.es r.es[j]):= .step k j _ hk h h3
 unfold z2g
 rw [h1.det h2]
 have:=ho.le (Nat.le_of_lt hj) hk
 simp only [List.any_cons,Bool.not_or]
 by_cases hkn:r.es[k].kn<=kn
 ·have e:decide (r.es[j].kn<=kn)=true:=decide_eq_true (by omega)
  rw [decide_eq_true hkn,e]
  simp
 ·rw [decide_eq_false hkn]
  simp
def yn0:Ent:=⟨[],[],[],[],0,0,0,0⟩
def yej:Cpl:=⟨[],[],0,false,false⟩
def zsz (r:Rgs) (nm:List UInt8) (kn:Int):Int:=if zll r.es nm<0 then 10 else if z2g r (r.es.getD (zll r.es nm).toNat yn0) kn then 0 else 20
theorem zwu {r:Rgs} {nm:List UInt8} (h:zll r.es nm= -1) (kn:Int):zsz r nm kn=10:=by
 unfold zsz
 rw [h,if_pos (by decide)]
theorem zs0 {r:Rgs} {nm:List UInt8} {k:Nat} (hk:k<r.es.length) (h:zll r.es nm=k) (kn:Int):zsz r nm kn=if z2g r r.es[k] kn then 0 else 20:=by
 unfold zsz
 rw [h,if_neg (by omega),Int.toNat_natCast]
 have:r.es.getD k yn0=r.es[k]:=by simp [List.getD,hk]
 rw [this]
def ymw (r:Rgs) (nm:List UInt8):Int:=zao [if 0<=zll r.es nm then 9 else 0,if 256<=r.es.length then 5 else 0]
def zoi (r:Rgs) (fol:Bool) (nm b:List UInt8) (kn f t m:Int):Int:=
 if ymw r nm≠0 then ymw r nm
 else if fol=true/\zsz r b kn≠0 then zsz r b kn
 else zao [if 99999<f\/99999<t\/1440<m then 3 else 0,if t<f then 11 else 0]
def z3m (r:Rgs) (nm:List UInt8) (kn:Int):Int:=if zll r.es nm<0 then 10 else zao [if(r.es.getD (zll r.es nm).toNat yn0).kd=zwl then 0 else 13,zsz r nm kn]
def z0f (r:Rgs) (nm en:List UInt8) (kn:Int):Int:=zao [if 0<=zwe r.cs nm then 9 else 0,if 64<=r.cs.length then 5 else 0,zsz r en kn]
def zr7 (r:Rgs) (nm:List UInt8) (v:Int):Int:=if zwe r.cs nm<0 then 10 else zao [if(r.cs.getD (zwe r.cs nm).toNat yej).cl then 20 else 0,if 1<v then 3 else 0]
def nmN (e:Evt) (i:Nat):List UInt8:=e.ns.getD i []
def vlN (e:Evt) (i:Nat):Int:=e.vs.getD i 0
def z56 (k:List UInt8):Bool:=decide (k=zkc)||decide (k=zwl)||decide (k=zb0)
def zzn (r:Rgs) (e:Evt):Int:=
 if z56 e.ki then zoi r (decide (e.ki=zb0)) (nmN e 0) (nmN e 2) (vlN e 0) (vlN e 1) (vlN e 2) (vlN e 3)
 else if e.ki=zdk then z3m r (nmN e 0) (vlN e 0)
 else if e.ki=zcs then z0f r (nmN e 0) (nmN e 1) (vlN e 0)
 else zr7 r (nmN e 0) (vlN e 1)
def yft (r:Rgs) (n:Nat) (e:Evt):Int:=zao [if e.nu=n+1 then 0 else 11,if vlN e 0<r.kn then 19 else 0,if 99999<vlN e 0 then 3 else 0]
def z9w (r:Rgs) (n:Nat) (e:Evt):Int:=if yft r n e≠0 then yft r n e else zzn r e
def z7y (e:Evt):Ent:=⟨nmN e 0,e.ki,nmN e 1,if e.ki=zb0 then nmN e 2 else [],vlN e 0,vlN e 1,vlN e 2,vlN e 3⟩
def zqi (r:Rgs) (e:Evt):Rgs:=
 if z56 e.ki then {r with kn:=vlN e 0,es:=r.es++[z7y e]}
 else if e.ki=zdk then {r with kn:=vlN e 0,rs:=r.rs++[⟨nmN e 0,vlN e 0⟩]}
 else if e.ki=zcs then {r with kn:=vlN e 0,cs:=r.cs++[⟨nmN e 0,nmN e 1,vlN e 0,false,false⟩]}
 else
  let c:=r.cs.getD (zwe r.cs (nmN e 0)).toNat yej
  {r with kn:=vlN e 0,cs:=r.cs.set (zwe r.cs (nmN e 0)).toNat {c with cl:=true,up:=decide (vlN e 1=1)},rs:=if vlN e 1=1 then r.rs++[⟨c.en,vlN e 0⟩] else r.rs}
def zj2 (r:Rgs) (n:Nat) (e:Evt):Int:=if zwb e≠0 then zwb e else z9w r n e
def rg0:Rgs:=⟨0,[],[],[]⟩
def zew:Rgs->Nat->List Evt->Rgs×Nat×Int
 | r,_,[]=>(r,0,0)
 | r,n,e::l=>if zj2 r n e≠0 then(rg0,n+1,zj2 r n e) else zew (zqi r e) (n+1) l
theorem yb9 {e:Evt} (h:zwb e=0):zrh e.ki=true/\e.ns.length=zx3 e.ki/\e.vs.length=zzf e.ki/\(∀s∈e.ns,zbr s=true)/\(∀v∈e.vs,0<=v/\v<=999999999)/\e.tx=[]/\1<=e.nu/\e.nu<=1000:=by
 unfold zwb at h
 rw [zdu] at h
 have h1:=h (rng e.nu 1 1000) (by simp)
 have h2:=h (if !zrh e.ki then 13 else 0) (by simp)
 have h3:=h (if e.ns.length≠zx3 e.ki\/e.vs.length≠zzf e.ki then 2 else 0) (by simp)
 have h4:=h (if zla e.ns then 8 else 0) (by simp)
 have h5:=h (if far e.vs then 3 else 0) (by simp)
 have h6:=h (if e.tx≠[] then 1 else 0) (by simp)
 refine⟨?_,?_,?_,?_,?_,?_,?_⟩
 ·cases hk:zrh e.ki
  ·rw [hk] at h2;simp at h2
  ·rfl
 ·exact Decidable.byContradiction fun hn=>by rw [if_pos (.inl hn)] at h3;omega
 ·exact Decidable.byContradiction fun hn=>by rw [if_pos (.inr hn)] at h3;omega
 ·intro s hs
  have:zla e.ns=false:=by cases hh:zla e.ns with|false=>rfl|true=>rw [hh] at h4;simp at h4
  unfold zla at this
  rw [List.any_eq_false] at this
  have:=this s hs
  simpa using this
 ·intro v hv
  have:far e.vs=false:=by cases hh:far e.vs with|false=>rfl|true=>rw [hh] at h5;simp at h5
  unfold far at this
  rw [List.any_eq_false] at this
  have:=this v hv
  simp only [yji,decide_eq_true_eq] at this
  omega
 ·exact Decidable.byContradiction fun hn=>by rw [if_pos hn] at h6;omega
 ·unfold rng at h1
  split at h1
  ·omega
  ·omega
theorem z3j {r:Rgs} {n:Nat} {e:Evt} (h:z9w r n e=0):e.nu=n+1/\r.kn<=vlN e 0/\vlN e 0<=99999/\zzn r e=0:=by
 unfold z9w at h
 split at h
 ·rename_i h1;exact absurd h h1
 ·rename_i h1
  have h1:=Decidable.byContradiction h1
  rw [yft,zdu] at h1
  have a:=h1 (if e.nu=n+1 then 0 else 11) (by simp)
  have b:=h1 (if vlN e 0<r.kn then 19 else 0) (by simp)
  have c:=h1 (if 99999<vlN e 0 then 3 else 0) (by simp)
  refine⟨?_,?_,?_,h⟩
  ·exact Decidable.byContradiction fun hn=>by rw [if_neg hn] at a;omega
  ·exact Int.not_lt.1 fun hn=>by rw [if_pos hn] at b;omega
  ·exact Int.not_lt.1 fun hn=>by rw [if_pos hn] at c;omega
theorem z2c {r:Rgs} {n:Nat} {e:Evt} (h:zj2 r n e=0):zwb e=0/\z9w r n e=0:=by
 unfold zj2 at h
 split at h
 ·rename_i h1;exact absurd h h1
 ·rename_i h1;exact⟨Decidable.byContradiction h1,h⟩
theorem z7c {r:Rgs} {fol:Bool} {nm b:List UInt8} {kn f t m:Int} (h:zoi r fol nm b kn f t m=0):
  zll r.es nm= -1/\r.es.length<256/\(fol=true->zsz r b kn=0)/\f<=99999/\t<=99999/\m<=1440/\f<=t:=by
 unfold zoi at h
 split at h
 ·rename_i h1;exact absurd h h1
 ·rename_i h1
  have h1:=Decidable.byContradiction h1
  rw [ymw,zdu] at h1
  have a:=h1 (if 0<=zll r.es nm then 9 else 0) (by simp)
  have b':=h1 (if 256<=r.es.length then 5 else 0) (by simp)
  split at h
  ·rename_i h2;exact absurd h h2.2
  ·rename_i h2
   rw [zdu] at h
   have c:=h (if 99999<f\/99999<t\/1440<m then 3 else 0) (by simp)
   have d:=h (if t<f then 11 else 0) (by simp)
   refine⟨?_,?_,?_,?_⟩
   ·rcases zdb r.es nm with⟨e,_⟩|⟨k,_,e,_⟩
    ·exact e
    ·rw [if_pos (by omega)] at a;omega
   ·exact Nat.lt_of_not_le fun hn=>by rw [if_pos hn] at b';omega
   ·intro hf;exact Decidable.byContradiction fun hn=>h2 ⟨hf,hn⟩
   ·by_cases hc:99999<f\/99999<t\/1440<m
    ·rw [if_pos hc] at c;omega
    ·by_cases hd:t<f
     ·rw [if_pos hd] at d;omega
     ·omega
theorem ycf {es:List Ent} {x:Ent} {nm:List UInt8} {k:Nat} (h:zll es nm=k):zll (es++[x]) nm=k:=by
 rcases zdb es nm with⟨e,_⟩|⟨j,hj,e,h2,h3⟩
 ·omega
 ·obtain rfl:j=k:=by omega
  refine zpj (p:=fun x:Ent=>decide (x.nm=nm)) (by rw [List.length_append];omega) ?_ ?_
  ·rw [List.getElem_append_left hj];exact decide_eq_true h2
  ·intro i hi
   rw [List.getElem_append_left (by omega)]
   exact decide_eq_false (h3 i hi)
theorem ymu {s:List UInt8} (h:zbr s=true):s≠[]:=by
 rintro rfl
 exact absurd (of_decide_eq_true h).1 (by decide)
theorem ydd {e:Evt} (h:∀s∈e.ns,zbr s=true) {i:Nat} (hi:i<e.ns.length):zbr (nmN e i)=true:=by
 unfold nmN
 rw [List.getD_eq_getElem?_getD,List.getElem?_eq_getElem hi]
 exact h _ (List.getElem_mem hi)
theorem yoy {e:Evt} (h:∀v∈e.vs,0<=v/\v<=999999999) (i:Nat):0<=vlN e i/\vlN e i<=999999999:=by
 unfold vlN
 rw [List.getD_eq_getElem?_getD]
 by_cases hi:i<e.vs.length
 ·rw [List.getElem?_eq_getElem hi];exact h _ (List.getElem_mem hi)
 ·rw [List.getElem?_eq_none (by omega)];exact⟨Int.le_refl _,by decide⟩
theorem z35 {k:List UInt8} (h:z56 k=true):zzf k=4/\2<=zx3 k/\(k=zb0->zx3 k=3):=by
 simp only [z56,Bool.or_eq_true,decide_eq_true_eq] at h
 rcases h with(rfl|rfl)|rfl<;>decide
theorem yhk {r:Rgs} {b:List UInt8} {kn:Int} (h:zsz r b kn=0):∃j,∃hj:j<r.es.length,zll r.es b=(j:Nat)/\z2g r r.es[j] kn=true:=by
 rcases zdb r.es b with⟨e,_⟩|⟨j,hj,e,_⟩
 ·rw [zwu e] at h;omega
 ·rw [zs0 hj e] at h
  refine⟨j,hj,e,?_⟩
  cases hc:z2g r r.es[j] kn with
  | true=>rfl
  | false=>rw [hc] at h;simp at h
theorem yhh {r:Rgs} (ho:OkR r) {n:Nat} {e:Evt} (h:zj2 r n e=0) (hr:r.rs.length<1000):OkR (zqi r e):=by
 obtain⟨h1,h2⟩:=z2c h
 obtain⟨a1,a2,a3,a4,a5,_⟩:=yb9 h1
 obtain⟨b1,b2,b3,b4⟩:=z3j h2
 unfold zzn at b4
 unfold zqi
 split at b4
 ·rename_i hk
  rw [if_pos hk]
  obtain⟨f1,f2,f3⟩:=z35 hk
  obtain⟨c1,c2,c3,c4,c5,c6,c7⟩:=z7c b4
  have hkn:(z7y e).kn=vlN e 0:=rfl
  refine⟨?_,?_,?_,?_,?_,?_,ho.rs,ho.cs⟩
  ·intro k hk'
   dsimp only at hk' ⊢
   rw [List.length_append,List.length_singleton] at hk'
   by_cases hl:k<r.es.length
   ·rw [List.getElem_append_left hl]
    rcases ho.bs k hl with e1|⟨j,hj,e1⟩
    ·exact .inl e1
    ·exact .inr ⟨j,hj,ycf e1⟩
   ·obtain rfl:k=r.es.length:=by omega
    simp only [List.getElem_concat_length]
    by_cases hf:e.ki=zb0
    ·right
     obtain⟨j,hj,e1,_⟩:=yhk (c3 (decide_eq_true hf))
     refine⟨j,hj,?_⟩
     have:(z7y e).bs=nmN e 2:=if_pos hf
     rw [this]
     exact ycf e1
    ·exact .inl (if_neg hf)
  ·intro x hx
   rcases List.mem_append.1 hx with hx|hx
   ·exact ho.nm x hx
   ·rw [List.mem_singleton] at hx;subst hx
    exact ymu (ydd a4 (by omega))
  ·rw [List.pairwise_append]
   refine⟨ho.asc,List.pairwise_singleton _ _,fun a ha b hb=> ?_⟩
   rw [List.mem_singleton] at hb;subst hb
   have:=ho.top a ha
   omega
  ·intro x hx
   rcases List.mem_append.1 hx with hx|hx
   ·have:=ho.top x hx
    dsimp only
    omega
   ·rw [List.mem_singleton] at hx;subst hx
    exact Int.le_refl _
  ·intro x hx
   rcases List.mem_append.1 hx with hx|hx
   ·exact ho.mi x hx
   ·rw [List.mem_singleton] at hx;subst hx
    exact⟨(yoy a5 3).1,c6⟩
  ·dsimp only
   rw [List.length_append,List.length_singleton];omega
 ·rename_i hk
  rw [if_neg hk]
  have htop:∀x∈r.es,x.kn<=vlN e 0:=fun x hx=>Int.le_trans (ho.top x hx) b2
  split at b4
  ·rename_i hk2
   rw [if_pos hk2]
   exact⟨ho.bs,ho.nm,ho.asc,htop,ho.mi,ho.es,by dsimp only;rw [List.length_append,List.length_singleton];omega,ho.cs⟩
  ·rename_i hk2
   rw [if_neg hk2]
   split at b4
   ·rename_i hk3
    rw [if_pos hk3]
    refine⟨ho.bs,ho.nm,ho.asc,htop,ho.mi,ho.es,ho.rs,?_⟩
    dsimp only
    rw [List.length_append,List.length_singleton]
    unfold z0f at b4
    rw [zdu] at b4
    have:=b4 (if 64<=r.cs.length then 5 else 0) (by simp)
    by_cases hc:64<=r.cs.length
    ·rw [if_pos hc] at this;omega
    ·omega
   ·rename_i hk3
    rw [if_neg hk3]
    refine⟨ho.bs,ho.nm,ho.asc,htop,ho.mi,ho.es,?_,?_⟩
    ·dsimp only
     split
     ·rw [List.length_append,List.length_singleton];omega
     ·exact ho.rs
    ·dsimp only
     rw [List.length_set];exact ho.cs
theorem yfw (r:Rgs) (e:Evt):(zqi r e).rs.length<=r.rs.length+1:=by
 unfold zqi
 split
 ·simp
 ·split
  ·simp
  ·split
   ·simp
   ·dsimp only
    split<;>simp
theorem yhi:OkR rg0:=⟨fun k hk=>absurd hk (Nat.not_lt_zero _),by simp [rg0],List.Pairwise.nil,by simp [rg0],by simp [rg0],by simp [rg0],by simp [rg0],by simp [rg0]⟩
theorem ydr:∀(l:List Evt) (r:Rgs) (n:Nat),OkR r->r.rs.length<=n->n+l.length<=1000->(zew r n l).2.2=0->OkR (zew r n l).1
 | [],r,n,ho,_,_,_=>ho
 | e::l,r,n,ho,hr,hl,h=>by
  rw [List.length_cons] at hl
  unfold zew at h ⊢
  split at h
  ·rename_i h1;exact absurd h h1
  ·rename_i h1
   rw [if_neg h1]
   have:=yfw r e
   exact ydr l (zqi r e) (n+1) (yhh ho (Decidable.byContradiction h1) (by omega)) (by omega) (by omega) h
theorem zjy (r:Rgs) (n:Nat) (e:Evt) (l:List Evt):zew r n (e::l)=if zj2 r n e≠0 then(rg0,n+1,zj2 r n e) else zew (zqi r e) (n+1) l:=rfl
theorem z81:∀(l:List Evt) (r:Rgs) (n:Nat) (m:List Evt),zew r n (l++m)=if(zew r n l).2.2≠0 then zew r n l else zew (zew r n l).1 (n+l.length) m
 | [],r,n,m=>by simp [zew]
 | e::l,r,n,m=>by
  rw [List.cons_append,zjy,zjy]
  by_cases h:zj2 r n e≠0
  ·rw [if_pos h,if_pos h]
   exact(if_pos h).symm
  ·rw [if_neg h,if_neg h,z81 l,List.length_cons,show n+(l.length+1)=n+1+l.length by omega]
section
variable {E : Oracle} (g : Good E)
include g
theorem yoi (t:Nat) (ev:List Evt) (r:Rgs) (ho:OkR r) (kn:Int) (k:Nat) (hk:k<r.es.length):Qs E zbv [.ptr ⟨0,0,0⟩ 1 0,ype r.es[k],I kn] (mR t ev r) (B (z2g r r.es[k] kn)):=by
 have h1:=yf5 r.es r.es.length r.es[k]
 have h2:=ho.es
 exact yj4 g t ev r kn (by have:=ho.rs;omega) (by omega) k hk _ (z7m ho.bases r.es.length k (by omega) hk) (by omega)
theorem yhq (t:Nat) (ev:List Evt) (r:Rgs) (ho:OkR r) (nm:List UInt8) (kn:Int):Qs E zcr [.ptr ⟨0,0,0⟩ 1 0,S nm,I kn] (mR t ev r) (I (zsz r nm kn)):=by
 refine⟨?_⟩
 have hes:=ho.es
 have hml:(r.es.flatMap Ent.cells).length=r.es.length*8:=zaf Ent.cells 8 zwf r.es
 have hq:=z6l g t ev r nm (by omega)
 refine In.enter (f:=zcr) g.lim rfl rfl ?_
 rcases zdb r.es nm with⟨h,_⟩|⟨k,hk,h,hnm,_⟩
 ·rw [zwu h]
  rw [h,yga,if_neg (by decide)] at hq
  repeat' ((conv=>whnf);first
  | refine Yz ?_
   | (refine zmb.of (r':= .d .nilp) isR rfl rfl rfl rfl hq rfl rfl rfl ?_)
   | (exact⟨rfl,rfl,rfl,rfl,rfl,rfl,trivial⟩)
   | fail)
 ·rw [zs0 hk h]
  rw [h,yga,if_pos (by omega)] at hq
  have hc:=yoi g t ev r ho kn k hk
  have hwin:win (r.es.flatMap Ent.cells) ((0+((k:Nat):Int).toNat)*8) 8=r.es[k].cells:=by
   rw [Nat.zero_add,Int.toNat_natCast]
   exact zfj Ent.cells 8 zwf r.es k hk
  cases hb:z2g r r.es[k] kn with
  | true=>
   rw [hb] at hc
   have hw:Fc E zal [B false,I 20] (I 0):=zyd g false 20
   repeat' ((conv=>whnf);first
   | refine Yz ?_
    | (refine zmb.of (r':= .ptr ⟨0,0,2⟩ ((0+((k:Nat):Int).toNat)*8) r.es.length) isR rfl rfl rfl rfl hq rfl rfl rfl ?_)
    | (rw [hwin];refine zmb.of (r':=B true) isR rfl rfl rfl rfl hc rfl rfl rfl ?_)
    | (apply zah.of;assumption)
    | (exact⟨rfl,rfl,rfl,rfl,rfl,rfl,trivial⟩)
    | fail)
  | false=>
   rw [hb] at hc
   have hw:Fc E zal [B true,I 20] (I 20):=zyd g true 20
   repeat' ((conv=>whnf);first
   | refine Yz ?_
    | (refine zmb.of (r':= .ptr ⟨0,0,2⟩ ((0+((k:Nat):Int).toNat)*8) r.es.length) isR rfl rfl rfl rfl hq rfl rfl rfl ?_)
    | (rw [hwin];refine zmb.of (r':=B false) isR rfl rfl rfl rfl hc rfl rfl rfl ?_)
    | (apply zah.of;assumption)
    | (exact⟨rfl,rfl,rfl,rfl,rfl,rfl,trivial⟩)
    | fail)
theorem zkw (b:Bool) (e:Int):Fc E zal [B b,I e] (I (if b then e else 0)):=zyd g b e
theorem zlb (a b:Int):Fc E za3 [.d (.list 2 [DI a,DI b])] (I (zao [a,b])):=zz7 g [a,b] (by simp)
theorem zm2 (a b c:Int):Fc E za3 [.d (.list 3 [DI a,DI b,DI c])] (I (zao [a,b,c])):=zz7 g [a,b,c] (by simp)
theorem yba (t:Nat) (ev:List Evt) (r:Rgs) (ho:OkR r) (nu:Int) (ki:List UInt8) (a s:List UInt8) (more:List (List UInt8)) (b:List UInt8) (kn f u m:Int) (tx:List UInt8) (hb:ki=zb0->more=[b]):
  Qs E zaq [.ptr ⟨0,0,0⟩ 1 0,Evv ⟨nu,ki,a::s::more,[kn,f,u,m],tx⟩] (mR t ev r) (I (zoi r (decide (ki=zb0)) a b kn f u m)):=by
 refine⟨?_⟩
 have hes:=ho.es
 have hq:=z6l g t ev r a (by omega)
 have hov:=yhq g t ev r ho b kn
 change In E 1 zaq [.ptr ⟨0,0,0⟩ 1 0,.d (.agg [DI nu,.str ki,.list (more.length+1+1) (.str a:: .str s::more.map D.str),.list 4 [DI kn,DI f,DI u,DI m],.str tx])] (mR t ev r) _
 refine In.enter (f:=zaq) g.lim rfl rfl ?_
 unfold zoi ymw
 generalize hA:zll r.es a=i at *
 have hlist:more.map D.str=more.map D.str:=rfl
 by_cases hi:0<=i
 ·rw [if_pos hi,show zao [9,if 256<=r.es.length then 5 else 0]=9 from rfl,if_pos (by decide)]
  rw [yga,if_pos hi] at hq
  by_cases h256:256<=r.es.length
  all_goals
   repeat' ((conv=>whnf);first
   | refine Yz ?_
    | (refine zmb.of (r':= .ptr ⟨0,0,2⟩ ((0+i.toNat)*8) r.es.length) isR rfl rfl rfl rfl hq rfl rfl rfl ?_)
    | (refine zah.of (zkw g _ _) ?_)
    | (refine zah.of (zlb g _ _) ?_)
    | (exact⟨rfl,rfl,rfl,rfl,rfl,rfl,trivial⟩)
   | fail)
 ·rw [if_neg hi]
  rw [yga,if_neg hi] at hq
  by_cases h256:256<=r.es.length
  ·rw [if_pos h256,show zao [0,5]=5 from rfl,if_pos (by decide)]
   repeat' ((conv=>whnf);first
   | refine Yz ?_
    | (refine zmb.of (r':= .d .nilp) isR rfl rfl rfl rfl hq rfl rfl rfl ?_)
    | (refine zah.of (zkw g _ _) ?_)
    | (refine zah.of (zlb g _ _) ?_)
    | (exact⟨rfl,rfl,rfl,rfl,rfl,rfl,trivial⟩)
   | fail)
  ·rw [if_neg h256,show zao [0,0]=0 from rfl,if_neg (by decide)]
   by_cases hf:ki=zb0
   ·obtain rfl:=hb hf
    rw [decide_eq_true hf]
    generalize zsz r b kn=o at *
    by_cases ho0:o=0
    ·rw [if_neg (fun h=>h.2 ho0)]
     by_cases c1:99999<f
     all_goals by_cases c2:99999<u
     all_goals by_cases c3:1440<m
     all_goals by_cases c4:u<f
     all_goals
      repeat' ((conv=>whnf);first
      | refine Yz ?_
       | (refine zmb.of (r':= .d .nilp) isR rfl rfl rfl rfl hq rfl rfl rfl ?_)
       | (refine zmb.of (r':=I o) isR rfl rfl rfl rfl hov rfl rfl rfl ?_)
       | (refine Cmp.tt hf ?_)
       | (refine zah.of (zkw g _ _) ?_)
       | (refine zah.of (zlb g _ _) ?_)
       | (exact⟨rfl,rfl,rfl,rfl,rfl,rfl,trivial⟩)
      | (refine⟨?_,rfl,rfl,rfl,rfl,rfl,trivial⟩)
      | (exfalso;omega)
      | fail)
     all_goals simp [c1,c2,c3,c4,zao]
    ·rw [if_pos ⟨rfl,ho0⟩]
     repeat' ((conv=>whnf);first
     | refine Yz ?_
      | (refine zmb.of (r':= .d .nilp) isR rfl rfl rfl rfl hq rfl rfl rfl ?_)
      | (refine zmb.of (r':=I o) isR rfl rfl rfl rfl hov rfl rfl rfl ?_)
      | (refine Cmp.tt hf ?_)
      | (refine Cmp.ff ho0 ?_)
      | (refine zah.of (zkw g _ _) ?_)
      | (refine zah.of (zlb g _ _) ?_)
      | (exact⟨rfl,rfl,rfl,rfl,rfl,rfl,trivial⟩)
     | fail)
   ·rw [decide_eq_false hf,if_neg (fun h=>by cases h.1)]
    by_cases c1:99999<f
    all_goals by_cases c2:99999<u
    all_goals by_cases c3:1440<m
    all_goals by_cases c4:u<f
    all_goals
     repeat' ((conv=>whnf);first
     | refine Yz ?_
      | (refine zmb.of (r':= .d .nilp) isR rfl rfl rfl rfl hq rfl rfl rfl ?_)
      | (refine Cmp.ff hf ?_)
      | (refine zah.of (zkw g _ _) ?_)
      | (refine zah.of (zlb g _ _) ?_)
      | (exact⟨rfl,rfl,rfl,rfl,rfl,rfl,trivial⟩)
     | (refine⟨?_,rfl,rfl,rfl,rfl,rfl,trivial⟩)
     | (exfalso;omega)
     | fail)
    all_goals simp [c1,c2,c3,c4,zao]
end
section
variable {E : Oracle} (g : Good E)
include g
theorem z6k (t:Nat) (ev:List Evt) (r:Rgs) (ho:OkR r) (nu:Int) (ki a:List UInt8) (kn:Int) (tx:List UInt8):
  Qs E za4 [.ptr ⟨0,0,0⟩ 1 0,Evv ⟨nu,ki,[a],[kn],tx⟩] (mR t ev r) (I (z3m r a kn)):=by
 refine⟨?_⟩
 have hes:=ho.es
 have hml:(r.es.flatMap Ent.cells).length=r.es.length*8:=zaf Ent.cells 8 zwf r.es
 have hq:=z6l g t ev r a (by omega)
 have hov:=yhq g t ev r ho a kn
 change In E 1 za4 [.ptr ⟨0,0,0⟩ 1 0,.d (.agg [DI nu,.str ki,.list 1 [.str a],.list 1 [DI kn],.str tx])] (mR t ev r) _
 refine In.enter (f:=za4) g.lim rfl rfl ?_
 unfold z3m
 rcases zdb r.es a with⟨h,_⟩|⟨k,hk,h,hnm,_⟩
 ·rw [h,if_pos (by decide)]
  rw [h,yga,if_neg (by decide)] at hq
  repeat' ((conv=>whnf);first
  | refine Yz ?_
   | (refine zmb.of (r':= .d .nilp) isR rfl rfl rfl rfl hq rfl rfl rfl ?_)
   | (exact⟨rfl,rfl,rfl,rfl,rfl,rfl,trivial⟩)
   | fail)
 ·have hgd:r.es.getD k yn0=r.es[k]:=by simp [List.getD,hk]
  rw [h,if_neg (by omega),Int.toNat_natCast,hgd]
  rw [h,yga,if_pos (by omega)] at hq
  generalize zsz r a kn=o at *
  by_cases hkd:r.es[k].kd=zwl
  ·rw [if_pos hkd]
   repeat' ((conv=>whnf);first
   | refine Yz ?_
    | (refine zmb.of (r':= .ptr ⟨0,0,2⟩ ((0+((k:Nat):Int).toNat)*8) r.es.length) isR rfl rfl rfl rfl hq rfl rfl rfl ?_)
    | (refine zf3.rec0 zwf k rfl hk rfl ?_)
    | (refine Cmp.ff (fun h=>h hkd) ?_)
    | (refine Cmp.tt hkd ?_)
    | (rw [hnm];refine zmb.of (r':=I o) isR rfl rfl rfl rfl hov rfl rfl rfl ?_)
    | (refine zah.of (zkw g _ _) ?_)
    | (refine zah.of (zlb g _ _) ?_)
    | (exact⟨rfl,rfl,rfl,rfl,rfl,rfl,trivial⟩)
    | fail)
  ·rw [if_neg hkd]
   repeat' ((conv=>whnf);first
   | refine Yz ?_
    | (refine zmb.of (r':= .ptr ⟨0,0,2⟩ ((0+((k:Nat):Int).toNat)*8) r.es.length) isR rfl rfl rfl rfl hq rfl rfl rfl ?_)
    | (refine zf3.rec0 zwf k rfl hk rfl ?_)
    | (refine Cmp.ff hkd ?_)
    | (refine Cmp.tt hkd ?_)
    | (rw [hnm];refine zmb.of (r':=I o) isR rfl rfl rfl rfl hov rfl rfl rfl ?_)
    | (refine zah.of (zkw g _ _) ?_)
    | (refine zah.of (zlb g _ _) ?_)
    | (exact⟨rfl,rfl,rfl,rfl,rfl,rfl,trivial⟩)
    | fail)
theorem z11 (t:Nat) (ev:List Evt) (r:Rgs) (ho:OkR r) (nu:Int) (ki a en:List UInt8) (kn:Int) (tx:List UInt8):
  Qs E zaw [.ptr ⟨0,0,0⟩ 1 0,Evv ⟨nu,ki,[a,en],[kn],tx⟩] (mR t ev r) (I (z0f r a en kn)):=by
 refine⟨?_⟩
 have hcs:=ho.cs
 have hq:=zu9 g t ev r a (by omega)
 have hov:=yhq g t ev r ho en kn
 change In E 1 zaw [.ptr ⟨0,0,0⟩ 1 0,.d (.agg [DI nu,.str ki,.list 2 [.str a,.str en],.list 1 [DI kn],.str tx])] (mR t ev r) _
 refine In.enter (f:=zaw) g.lim rfl rfl ?_
 unfold z0f
 generalize zsz r en kn=o at *
 generalize zwe r.cs a=i at *
 by_cases hi:0<=i
 ·rw [if_pos hi]
  rw [yk7,if_pos hi] at hq
  by_cases h64:64<=r.cs.length
  ·rw [if_pos h64]
   repeat' ((conv=>whnf);first
   | refine Yz ?_
    | (refine zmb.of (r':= .ptr ⟨0,0,4⟩ ((0+i.toNat)*5) r.cs.length) isR rfl rfl rfl rfl hq rfl rfl rfl ?_)
    | (refine zmb.of (r':=I o) isR rfl rfl rfl rfl hov rfl rfl rfl ?_)
    | (refine zah.of (zkw g _ _) ?_)
    | (refine zah.of (zm2 g _ _ _) ?_)
    | (exact⟨rfl,rfl,rfl,rfl,rfl,rfl,trivial⟩)
    | fail)
  ·rw [if_neg h64]
   repeat' ((conv=>whnf);first
   | refine Yz ?_
    | (refine zmb.of (r':= .ptr ⟨0,0,4⟩ ((0+i.toNat)*5) r.cs.length) isR rfl rfl rfl rfl hq rfl rfl rfl ?_)
    | (refine zmb.of (r':=I o) isR rfl rfl rfl rfl hov rfl rfl rfl ?_)
    | (refine zah.of (zkw g _ _) ?_)
    | (refine zah.of (zm2 g _ _ _) ?_)
    | (exact⟨rfl,rfl,rfl,rfl,rfl,rfl,trivial⟩)
    | fail)
 ·rw [if_neg hi]
  rw [yk7,if_neg hi] at hq
  by_cases h64:64<=r.cs.length
  ·rw [if_pos h64]
   repeat' ((conv=>whnf);first
   | refine Yz ?_
    | (refine zmb.of (r':= .d .nilp) isR rfl rfl rfl rfl hq rfl rfl rfl ?_)
    | (refine zmb.of (r':=I o) isR rfl rfl rfl rfl hov rfl rfl rfl ?_)
    | (refine zah.of (zkw g _ _) ?_)
    | (refine zah.of (zm2 g _ _ _) ?_)
    | (exact⟨rfl,rfl,rfl,rfl,rfl,rfl,trivial⟩)
    | fail)
  ·rw [if_neg h64]
   repeat' ((conv=>whnf);first
   | refine Yz ?_
    | (refine zmb.of (r':= .d .nilp) isR rfl rfl rfl rfl hq rfl rfl rfl ?_)
    | (refine zmb.of (r':=I o) isR rfl rfl rfl rfl hov rfl rfl rfl ?_)
    | (refine zah.of (zkw g _ _) ?_)
    | (refine zah.of (zm2 g _ _ _) ?_)
    | (exact⟨rfl,rfl,rfl,rfl,rfl,rfl,trivial⟩)
    | fail)
theorem z3a (t:Nat) (ev:List Evt) (r:Rgs) (ho:OkR r) (nu:Int) (ki a:List UInt8) (kn v:Int) (tx:List UInt8):
  Qs E zaz [.ptr ⟨0,0,0⟩ 1 0,Evv ⟨nu,ki,[a],[kn,v],tx⟩] (mR t ev r) (I (zr7 r a v)):=by
 refine⟨?_⟩
 have hcs:=ho.cs
 have hml:(r.cs.flatMap Cpl.cells).length=r.cs.length*5:=zaf Cpl.cells 5 zxy r.cs
 have hq:=zu9 g t ev r a (by omega)
 change In E 1 zaz [.ptr ⟨0,0,0⟩ 1 0,.d (.agg [DI nu,.str ki,.list 1 [.str a],.list 2 [DI kn,DI v],.str tx])] (mR t ev r) _
 refine In.enter (f:=zaz) g.lim rfl rfl ?_
 unfold zr7
 rcases zm6 r.cs a with h|⟨k,hk,h,hnm⟩
 ·rw [h,if_pos (by decide)]
  rw [h,yk7,if_neg (by decide)] at hq
  repeat' ((conv=>whnf);first
  | refine Yz ?_
   | (refine zmb.of (r':= .d .nilp) isR rfl rfl rfl rfl hq rfl rfl rfl ?_)
   | (exact⟨rfl,rfl,rfl,rfl,rfl,rfl,trivial⟩)
   | fail)
 ·have hgd:r.cs.getD k yej=r.cs[k]:=by simp [List.getD,hk]
  rw [h,if_neg (by omega),Int.toNat_natCast,hgd]
  rw [h,yk7,if_pos (by omega)] at hq
  by_cases hv:1<v
  ·rw [if_pos hv]
   repeat' ((conv=>whnf);first
   | refine Yz ?_
    | (refine zmb.of (r':= .ptr ⟨0,0,4⟩ ((0+((k:Nat):Int).toNat)*5) r.cs.length) isR rfl rfl rfl rfl hq rfl rfl rfl ?_)
    | (refine zf3.rec0 zxy k rfl hk rfl ?_)
    | (refine zah.of (zkw g _ _) ?_)
    | (refine zah.of (zlb g _ _) ?_)
    | (exact⟨rfl,rfl,rfl,rfl,rfl,rfl,trivial⟩)
    | fail)
  ·rw [if_neg hv]
   repeat' ((conv=>whnf);first
   | refine Yz ?_
    | (refine zmb.of (r':= .ptr ⟨0,0,4⟩ ((0+((k:Nat):Int).toNat)*5) r.cs.length) isR rfl rfl rfl rfl hq rfl rfl rfl ?_)
    | (refine zf3.rec0 zxy k rfl hk rfl ?_)
    | (refine zah.of (zkw g _ _) ?_)
    | (refine zah.of (zlb g _ _) ?_)
    | (exact⟨rfl,rfl,rfl,rfl,rfl,rfl,trivial⟩)
    | fail)
end
abbrev mH (ev:List Evt) (r:Rgs):Mem:=[(⟨0,12,0⟩,.row false zad 5 ev.length (ev.flatMap Evt.cells)),(⟨0,12,1⟩,.row false zac 8 r.es.length (r.es.flatMap Ent.cells)),(⟨0,12,2⟩,.row false zbl 2 r.rs.length (r.rs.flatMap Rmv.cells)),(⟨0,12,3⟩,.row true zai 5 r.cs.length (r.cs.flatMap Cpl.cells)),
 (⟨0,13,0⟩,.cells zci [.ref ⟨0,12,0⟩ 0 ev.length ev.length,I r.kn,.ref ⟨0,12,1⟩ 0 r.es.length r.es.length,.ref ⟨0,12,2⟩ 0 r.rs.length r.rs.length,.ref ⟨0,12,3⟩ 0 r.cs.length r.cs.length])]
abbrev isH:List Evl.Id:=[⟨0,13,0⟩,⟨0,12,0⟩,⟨0,12,1⟩,⟨0,12,2⟩,⟨0,12,3⟩]
theorem zsn {e:Evt} (h:zwb e=0):
  (∃nu ki a s more kn f u m,e=⟨nu,ki,a::s::more,[kn,f,u,m],[]⟩/\z56 ki=true/\(ki=zb0->∃b,more=[b])/\(ki=zkc\/ki=zwl\/ki=zb0))\/
  (∃nu a kn,e=⟨nu,zdk,[a],[kn],[]⟩)\/(∃nu a en kn,e=⟨nu,zcs,[a,en],[kn],[]⟩)\/(∃nu a kn v,e=⟨nu,zfx,[a],[kn,v],[]⟩):=by
 obtain⟨h1,h2,h3,_,_,h6,_,_⟩:=yb9 h
 obtain⟨nu,ki,ns,vs,tx⟩:=e
 dsimp only at h1 h2 h3 h6
 subst h6
 have l1:∀ {α:Type} (l:List α),l.length=1->∃a,l=[a]:=fun l hl=>List.length_eq_one_iff.1 hl
 have l2:∀ {α:Type} (l:List α),l.length=2->∃a b,l=[a,b]:=fun l hl=>by
  rcases l with _|⟨a,_|⟨b,_|⟨_,_⟩⟩⟩<;>simp at hl
  exact⟨a,b,rfl⟩
 have l4:∀(l:List Int),l.length=4->∃a b c d,l=[a,b,c,d]:=fun l hl=>by
  rcases l with _|⟨a,_|⟨b,_|⟨c,_|⟨d,_|⟨_,_⟩⟩⟩⟩⟩<;>simp at hl
  exact⟨a,b,c,d,rfl⟩
 rcases zx5 ki with rfl|rfl|rfl|rfl|rfl|rfl|⟨k1,k2,k3,k4,k5,k6⟩
 ·obtain⟨a,b,rfl⟩:=l2 ns h2
  obtain⟨c,d,e,f,rfl⟩:=l4 vs h3
  exact .inl ⟨nu,_,a,b,[],c,d,e,f,rfl,by decide,fun h=>absurd h (by decide),.inl rfl⟩
 ·obtain⟨a,b,rfl⟩:=l2 ns h2
  obtain⟨c,d,e,f,rfl⟩:=l4 vs h3
  exact .inl ⟨nu,_,a,b,[],c,d,e,f,rfl,by decide,fun h=>absurd h (by decide),.inr (.inl rfl)⟩
 ·obtain⟨a,b,x,rfl⟩:∃a b x,ns=[a,b,x]:=by
   have h2:ns.length=3:=h2
   rcases ns with _|⟨a,_|⟨b,_|⟨c,_|⟨_,_⟩⟩⟩⟩<;>simp at h2
   exact⟨a,b,c,rfl⟩
  obtain⟨c,d,e,f,rfl⟩:=l4 vs h3
  exact .inl ⟨nu,_,a,b,[x],c,d,e,f,rfl,by decide,fun _=>⟨x,rfl⟩,.inr (.inr rfl)⟩
 ·obtain⟨a,rfl⟩:=l1 ns h2
  obtain⟨c,rfl⟩:=l1 vs h3
  exact .inr (.inl ⟨nu,a,c,rfl⟩)
 ·obtain⟨a,b,rfl⟩:=l2 ns h2
  obtain⟨c,rfl⟩:=l1 vs h3
  exact .inr (.inr (.inl ⟨nu,a,b,c,rfl⟩))
 ·obtain⟨a,rfl⟩:=l1 ns h2
  obtain⟨c,d,rfl⟩:=l2 vs h3
  exact .inr (.inr (.inr ⟨nu,a,c,d,rfl⟩))
 ·simp [zrh,k1,k2,k3,k4,k5,k6] at h1
section
variable {E : Oracle} (g : Good E)
include g
omit g in
theorem ylt {r:Rgs} {n:Nat} {e:Evt} (h:yft r n e=0):e.nu=n+1/\¬vlN e 0<r.kn/\¬ 99999<vlN e 0:=by
 rw [yft,zdu] at h
 have a:=h (if e.nu=n+1 then 0 else 11) (by simp)
 have b:=h (if vlN e 0<r.kn then 19 else 0) (by simp)
 have c:=h (if 99999<vlN e 0 then 3 else 0) (by simp)
 refine⟨?_,?_,?_⟩
 ·exact Decidable.byContradiction fun hn=>by rw [if_neg hn] at a;omega
 ·intro hn;rw [if_pos hn] at b;omega
 ·intro hn;rw [if_pos hn] at c;omega
theorem yhp (t:Nat) (ev:List Evt) (r:Rgs) (ho:OkR r) (e:Evt) (hc:zwb e=0) (hev:ev.length<=1000000):
  Qs E zam [.ptr ⟨0,0,0⟩ 0 0,Evv e] (mR t ev r) (I (z9w r ev.length e)):=by
 refine⟨?_⟩
 unfold z9w
 by_cases hF:yft r ev.length e=0
 ·rw [if_neg (fun h=>h hF)]
  obtain⟨c1,c2,c3⟩:=ylt hF
  clear hF
  rcases zsn hc with⟨nu,ki,a,s,more,kn,f,u,m,rfl,hent,hfol,hki⟩|⟨nu,a,kn,rfl⟩|⟨nu,a,en,kn,rfl⟩|⟨nu,a,kn,v,rfl⟩
  ·change nu=_ at c1
   change ¬kn<_ at c2
   change ¬_<kn at c3
   obtain⟨b,hb⟩:∃b,ki=zb0->more=[b]:=by
    by_cases h:ki=zb0
    ·obtain⟨b,hb⟩:=hfol h
     exact⟨b,fun _=>hb⟩
    ·exact⟨[],fun h'=>absurd h' h⟩
   have hask:zzn r ⟨nu,ki,a::s::more,[kn,f,u,m],[]⟩=zoi r (decide (ki=zb0)) a b kn f u m:=by
    rw [zzn,if_pos hent]
    by_cases h:ki=zb0
    ·rw [hb h];rfl
    ·unfold zoi
     rw [decide_eq_false h]
     simp only [Bool.false_eq_true,false_and,if_false]
     rfl
   have hq:=yba g t ev r ho nu ki a s more b kn f u m [] hb
   rw [<-hask] at hq
   generalize zzn r ⟨nu,ki,a::s::more,[kn,f,u,m],[]⟩=o at *
   have e1:Evv ⟨nu,ki,a::s::more,[kn,f,u,m],[]⟩= .d (.agg [DI nu,.str ki,.list (more.length+1+1) (.str a:: .str s::more.map D.str),.list 4 [DI kn,DI f,DI u,DI m],.str []]):=rfl
   rw [e1] at hq ⊢
   clear hfol hask hent hb
   rcases hki with rfl|rfl|rfl
   all_goals
    refine In.enter (f:=zam) g.lim rfl rfl ?_
    repeat' ((conv=>whnf);first
    | refine Yz ?_
     | (refine Cmp.ff (fun h=>h c1) ?_)
     | (refine zah.of (zkw g _ _) ?_)
     | (refine zah.of (zm2 g _ _ _) ?_)
     | (refine zf2.kinds g rfl ?_)
     | (refine z90.mk ⟨_,rfl,?_⟩)
     | (refine zmb.of (r':=I o) isR rfl rfl rfl rfl hq rfl rfl rfl ?_)
     | (exact⟨rfl,rfl,rfl,rfl,rfl,rfl,trivial⟩)
     | fail)
  ·change nu=_ at c1
   change ¬kn<_ at c2
   change ¬_<kn at c3
   have hq:=z6k g t ev r ho nu zdk a kn []
   change Qs E za4 [.ptr ⟨0,0,0⟩ 1 0,.d (.agg [DI nu,.str zdk,.list 1 [.str a],.list 1 [DI kn],.str []])] (mR t ev r) (I (zzn r ⟨nu,zdk,[a],[kn],[]⟩)) at hq
   generalize zzn r ⟨nu,zdk,[a],[kn],[]⟩=o at *
   change In E 1 zam [.ptr ⟨0,0,0⟩ 0 0,.d (.agg [DI nu,.str zdk,.list 1 [.str a],.list 1 [DI kn],.str []])] (mR t ev r) _
   refine In.enter (f:=zam) g.lim rfl rfl ?_
   repeat' ((conv=>whnf);first
   | refine Yz ?_
    | (refine Cmp.ff (fun h=>h c1) ?_)
    | (refine zah.of (zkw g _ _) ?_)
    | (refine zah.of (zm2 g _ _ _) ?_)
    | (refine zf2.kinds g rfl ?_)
    | (refine z90.mk ⟨_,rfl,?_⟩)
    | (refine zmb.of (r':=I o) isR rfl rfl rfl rfl hq rfl rfl rfl ?_)
    | (exact⟨rfl,rfl,rfl,rfl,rfl,rfl,trivial⟩)
    | fail)
  ·change nu=_ at c1
   change ¬kn<_ at c2
   change ¬_<kn at c3
   have hq:=z11 g t ev r ho nu zcs a en kn []
   change Qs E zaw [.ptr ⟨0,0,0⟩ 1 0,.d (.agg [DI nu,.str zcs,.list 2 [.str a,.str en],.list 1 [DI kn],.str []])] (mR t ev r) (I (zzn r ⟨nu,zcs,[a,en],[kn],[]⟩)) at hq
   generalize zzn r ⟨nu,zcs,[a,en],[kn],[]⟩=o at *
   change In E 1 zam [.ptr ⟨0,0,0⟩ 0 0,.d (.agg [DI nu,.str zcs,.list 2 [.str a,.str en],.list 1 [DI kn],.str []])] (mR t ev r) _
   refine In.enter (f:=zam) g.lim rfl rfl ?_
   repeat' ((conv=>whnf);first
   | refine Yz ?_
    | (refine Cmp.ff (fun h=>h c1) ?_)
    | (refine zah.of (zkw g _ _) ?_)
    | (refine zah.of (zm2 g _ _ _) ?_)
    | (refine zf2.kinds g rfl ?_)
    | (refine z90.mk ⟨_,rfl,?_⟩)
    | (refine zmb.of (r':=I o) isR rfl rfl rfl rfl hq rfl rfl rfl ?_)
    | (exact⟨rfl,rfl,rfl,rfl,rfl,rfl,trivial⟩)
    | fail)
  ·change nu=_ at c1
   change ¬kn<_ at c2
   change ¬_<kn at c3
   have hq:=z3a g t ev r ho nu zfx a kn v []
   change Qs E zaz [.ptr ⟨0,0,0⟩ 1 0,.d (.agg [DI nu,.str zfx,.list 1 [.str a],.list 2 [DI kn,DI v],.str []])] (mR t ev r) (I (zzn r ⟨nu,zfx,[a],[kn,v],[]⟩)) at hq
   generalize zzn r ⟨nu,zfx,[a],[kn,v],[]⟩=o at *
   change In E 1 zam [.ptr ⟨0,0,0⟩ 0 0,.d (.agg [DI nu,.str zfx,.list 1 [.str a],.list 2 [DI kn,DI v],.str []])] (mR t ev r) _
   refine In.enter (f:=zam) g.lim rfl rfl ?_
   repeat' ((conv=>whnf);first
   | refine Yz ?_
    | (refine Cmp.ff (fun h=>h c1) ?_)
    | (refine zah.of (zkw g _ _) ?_)
    | (refine zah.of (zm2 g _ _ _) ?_)
    | (refine zf2.kinds g rfl ?_)
    | (refine z90.mk ⟨_,rfl,?_⟩)
    | (refine zmb.of (r':=I o) isR rfl rfl rfl rfl hq rfl rfl rfl ?_)
    | (exact⟨rfl,rfl,rfl,rfl,rfl,rfl,trivial⟩)
    | fail)
 ·rw [if_pos hF]
  obtain⟨nu,ki,ns,vs,tx⟩:=e
  obtain⟨kn,vr,rfl⟩:∃kn vr,vs=kn::vr:=by
   rcases zsn hc with⟨nu,ki,a,s,more,kn,f,u,m,h,_⟩|⟨nu,a,kn,h⟩|⟨nu,a,en,kn,h⟩|⟨nu,a,kn,v,h⟩
   all_goals
    simp only [Evt.mk.injEq] at h
    exact⟨_,_,h.2.2.2.1⟩
  unfold yft at hF ⊢
  change zao [if nu=ev.length+1 then 0 else 11,if kn<r.kn then 19 else 0,if 99999<kn then 3 else 0]≠0 at hF
  change In E 1 zam [.ptr ⟨0,0,0⟩ 0 0,.d (.agg [DI nu,.str ki,.list ns.length (ns.map D.str),.list (vr.length+1) (DI kn::vr.map DI),.str tx])] (mR t ev r) (fun v m1=>v=I (zao [if nu=ev.length+1 then 0 else 11,if kn<r.kn then 19 else 0,if 99999<kn then 3 else 0])/\z91 m1 (mR t ev r))
  by_cases c1:nu=ev.length+1
  all_goals by_cases c2:kn<r.kn
  all_goals by_cases c3:99999<kn
  all_goals simp only [c1,c2,c3,if_true,if_false] at hF ⊢
  all_goals try (exact absurd rfl hF)
  all_goals refine In.enter (f:=zam) g.lim rfl rfl ?_
  all_goals repeat' ((conv=>whnf);first
  | refine Yz ?_
   | (refine Cmp.tt c1 ?_)
   | (refine Cmp.ff (fun h=>h rfl) ?_)
   | (refine zah.of (zkw g _ _) ?_)
   | (refine zah.of (zm2 g _ _ _) ?_)
   | (exact⟨rfl,rfl,rfl,rfl,rfl,rfl,trivial⟩)
   | fail)
end
theorem z3y {α:Type} (cell:α->List D) (w:Nat) (hw:∀a,(cell a).length=w) (l:List α) (k j:Nat) (hk:k<l.length) (hj:j<w) (d:D) (x:α) (hx:cell x=patch (cell l[k]) j [d]):patch (l.flatMap cell) (k*w+j) [d]=(l.set k x).flatMap cell:=by
 have h1:l=l.take k++l[k]::l.drop (k+1):=by rw [<-List.drop_eq_getElem_cons hk,List.take_append_drop]
 have h2:l.set k x=l.take k++x::l.drop (k+1):=by
  rw [List.set_eq_take_append_cons_drop,if_pos hk]
 rw [h2,List.flatMap_append,List.flatMap_cons,hx]
 have h3:l.flatMap cell=(l.take k).flatMap cell++(cell l[k]++(l.drop (k+1)).flatMap cell):=by
  rw [<-List.flatMap_cons,<-List.flatMap_append]
  exact congrArg (List.flatMap cell) h1
 rw [h3]
 have h4:((l.take k).flatMap cell).length=k*w:=by
  rw [zaf cell w hw,List.length_take,Nat.min_eq_left (by omega)]
 have h5:=hw l[k]
 generalize (l.take k).flatMap cell=A at *
 generalize (l.drop (k+1)).flatMap cell=C at *
 generalize cell l[k]=B at *
 unfold patch
 rw [<-h4,List.take_append,List.take_of_length_le (by omega),Nat.add_sub_cancel_left,List.take_append_of_le_length (by omega)]
 rw [List.drop_append,List.drop_of_length_le (by simp;omega),List.length_singleton,Nat.add_assoc,Nat.add_sub_cancel_left,List.drop_append_of_le_length (by omega)]
 simp
section
variable {E : Oracle} (g : Good E)
include g
theorem zz6 (l:List (List UInt8)) (hl:l≠[]) (hb:l.length<=1000000):Fc E zdw [Ws l] (Ws l):=by
 obtain⟨x,r,rfl⟩:=List.exists_cons_of_ne_nil hl
 rw [List.length_cons] at hb
 change Fc E _ [.d (.list (r.length+1) (.str x::r.map D.str))] (.d (.list (r.length+1) (.str x::r.map D.str)))
 refine g.fn rfl rfl ?_
 repeat' ((conv=>whnf);first
 | refine Yz ?_
  | (refine zeb.mk ⟨rfl,rfl,rfl,rfl,rfl,by simp,by omega,by omega⟩ ?_)
  | (refine Chk.mk rfl ?_)
  | fail)
 all_goals try (refine Ret.mk ?_;simp)
theorem zz5 (l:List Int) (hl:l≠[]) (hb:l.length<=1000000):Fc E zgz [LI l] (LI l):=by
 obtain⟨x,r,rfl⟩:=List.exists_cons_of_ne_nil hl
 rw [List.length_cons] at hb
 change Fc E _ [.d (.list (r.length+1) (DI x::r.map DI))] (.d (.list (r.length+1) (DI x::r.map DI)))
 refine g.fn rfl rfl ?_
 repeat' ((conv=>whnf);first
 | refine Yz ?_
  | (refine zeb.mk ⟨rfl,rfl,rfl,rfl,rfl,by simp,by omega,by omega⟩ ?_)
  | (refine Chk.mk rfl ?_)
  | fail)
 all_goals try (refine Ret.mk ?_;simp)
abbrev bxE (e:Evt):Evl.Id×Ob:=(⟨0,7,0⟩,.cells zad [I e.nu,S e.ki,.d (.list e.ns.length (e.ns.map D.str)),.d (.list e.vs.length (e.vs.map DI)),S e.tx])
theorem yn3 (ev:List Evt) (r:Rgs) (ho:OkR r) (hrs:r.rs.length<1000) (e:Evt) (hs:zj2 r ev.length e=0) (hev:ev.length<=1000) {slot:Nat} {K:V->Mem->Prop} (hK:K (.tup []) (mH (ev++[e]) (zqi r e)++[bxE e])):
  In E 1 zan [.ptr ⟨0,13,0⟩ 0 0,Evv e] (mH ev r++[bxE e]) fun v m'=>z5e ⟨0,1⟩ slot true v m' K:=by
 obtain⟨hc,ha⟩:=z2c hs
 obtain⟨_,_,_,hask⟩:=z3j ha
 have hes:=ho.es
 have hcs:=ho.cs
 have hme:(ev.flatMap Evt.cells).length=ev.length*5:=zaf Evt.cells 5 evw ev
 rcases zsn hc with⟨nu,ki,a,s,more,kn,f,u,m,rfl,hent,hfol,hki⟩|⟨nu,a,kn,rfl⟩|⟨nu,a,en,kn,rfl⟩|⟨nu,a,kn,v,rfl⟩
 ·have hc1:=zz6 g (a::s::more) (by simp) (by
   have h:=(yb9 hc).2.1
   dsimp only at h
   rw [h]
   rcases hki with rfl|rfl|rfl
   ·decide
   ·decide
   ·decide)
  have hc2:=zz5 g [kn,f,u,m] (by simp) (by simp)
  rw [zzn,if_pos hent] at hask
  obtain⟨_,hl,_⟩:=z7c hask
  have hml:(r.es.flatMap Ent.cells).length=r.es.length*8:=zaf Ent.cells 8 zwf r.es
  clear hs hc ha hask
  by_cases hf:ki=zb0
  ·obtain⟨b,rfl⟩:=hfol hf
   subst hf
   have haft:zqi r ⟨nu,zb0,[a,s,b],[kn,f,u,m],[]⟩=⟨kn,r.es++[⟨a,zb0,s,b,kn,f,u,m⟩],r.rs,r.cs⟩:=rfl
   rw [haft] at hK
   simp only [List.length_append,List.length_cons,List.length_nil,List.flatMap_append,List.flatMap_cons,List.flatMap_nil,mH,bxE] at hK
   change Fc E _ [.d (.list 3 [.str a,.str s,.str b])] (.d (.list 3 [.str a,.str s,.str b])) at hc1
   change Fc E _ [.d (.list 4 [DI kn,DI f,DI u,DI m])] (.d (.list 4 [DI kn,DI f,DI u,DI m])) at hc2
   change In E 1 zan [.ptr ⟨0,13,0⟩ 0 0,.d (.agg [DI nu,.str zb0,.list 3 [.str a,.str s,.str b],.list 4 [DI kn,DI f,DI u,DI m],.str []])] _ _
   refine In.enter (f:=zan) g.lim rfl rfl ?_
   repeat' ((conv=>whnf);first
   | refine Yz ?_
    | (apply zah.of;assumption)
    | (refine zeb.mk ⟨rfl,rfl,rfl,rfl,rfl,rfl,by dsimp only;omega,by dsimp only;omega⟩ ?_)
    | (refine zf2.kinds g rfl ?_)
    | (refine z90.mk ⟨_,rfl,?_⟩)
    | (refine In.enter (f:=zar) g.lim rfl rfl ?_)
    | (exact hK)
    | fail)
  ·have haft:zqi r ⟨nu,ki,a::s::more,[kn,f,u,m],[]⟩=⟨kn,r.es++[⟨a,ki,s,[],kn,f,u,m⟩],r.rs,r.cs⟩:=by
    rw [zqi,if_pos hent,z7y,if_neg hf]
    rfl
   rw [haft] at hK
   simp only [List.length_append,List.length_cons,List.length_nil,List.flatMap_append,List.flatMap_cons,List.flatMap_nil,mH,bxE] at hK
   change Fc E _ [.d (.list (more.length+1+1) (.str a:: .str s::more.map D.str))] (.d (.list (more.length+1+1) (.str a:: .str s::more.map D.str))) at hc1
   change Fc E _ [.d (.list 4 [DI kn,DI f,DI u,DI m])] (.d (.list 4 [DI kn,DI f,DI u,DI m])) at hc2
   change In E 1 zan [.ptr ⟨0,13,0⟩ 0 0,.d (.agg [DI nu,.str ki,.list (more.length+1+1) (.str a:: .str s::more.map D.str),.list 4 [DI kn,DI f,DI u,DI m],.str []])] _ _
   rcases hki with rfl|rfl|rfl
   ·refine In.enter (f:=zan) g.lim rfl rfl ?_
    repeat' ((conv=>whnf);first
    | refine Yz ?_
     | (apply zah.of;assumption)
     | (refine zeb.mk ⟨rfl,rfl,rfl,rfl,rfl,rfl,by dsimp only;omega,by dsimp only;omega⟩ ?_)
     | (refine zf2.kinds g rfl ?_)
     | (refine z90.mk ⟨_,rfl,?_⟩)
     | (refine In.enter (f:=zar) g.lim rfl rfl ?_)
     | (exact hK)
     | fail)
   ·refine In.enter (f:=zan) g.lim rfl rfl ?_
    repeat' ((conv=>whnf);first
    | refine Yz ?_
     | (apply zah.of;assumption)
     | (refine zeb.mk ⟨rfl,rfl,rfl,rfl,rfl,rfl,by dsimp only;omega,by dsimp only;omega⟩ ?_)
     | (refine zf2.kinds g rfl ?_)
     | (refine z90.mk ⟨_,rfl,?_⟩)
     | (refine In.enter (f:=zar) g.lim rfl rfl ?_)
     | (exact hK)
     | fail)
   ·exact absurd rfl hf
 ·have hc1:=zz6 g [a] (by simp) (by simp)
  have hc2:=zz5 g [kn] (by simp) (by simp)
  have hml:(r.rs.flatMap Rmv.cells).length=r.rs.length*2:=zaf Rmv.cells 2 ykc r.rs
  clear hs hc ha hask
  have haft:zqi r ⟨nu,zdk,[a],[kn],[]⟩=⟨kn,r.es,r.rs++[⟨a,kn⟩],r.cs⟩:=rfl
  rw [haft] at hK
  simp only [List.length_append,List.length_cons,List.length_nil,List.flatMap_append,List.flatMap_cons,List.flatMap_nil,mH,bxE] at hK
  change Fc E _ [.d (.list 1 [.str a])] (.d (.list 1 [.str a])) at hc1
  change Fc E _ [.d (.list 1 [DI kn])] (.d (.list 1 [DI kn])) at hc2
  change In E 1 zan [.ptr ⟨0,13,0⟩ 0 0,.d (.agg [DI nu,.str zdk,.list 1 [.str a],.list 1 [DI kn],.str []])] _ _
  refine In.enter (f:=zan) g.lim rfl rfl ?_
  repeat' ((conv=>whnf);first
  | refine Yz ?_
   | (apply zah.of;assumption)
   | (refine zeb.mk ⟨rfl,rfl,rfl,rfl,rfl,rfl,by dsimp only;omega,by dsimp only;omega⟩ ?_)
   | (refine zf2.kinds g rfl ?_)
   | (refine z90.mk ⟨_,rfl,?_⟩)
   | (refine In.enter (f:=zjh) g.lim rfl rfl ?_)
   | (refine In.enter (f:=zb9) g.lim rfl rfl ?_)
   | (exact hK)
   | fail)
 ·have hc1:=zz6 g [a,en] (by simp) (by simp)
  have hc2:=zz5 g [kn] (by simp) (by simp)
  have hml:(r.cs.flatMap Cpl.cells).length=r.cs.length*5:=zaf Cpl.cells 5 zxy r.cs
  clear hs hc ha hask
  have haft:zqi r ⟨nu,zcs,[a,en],[kn],[]⟩=⟨kn,r.es,r.rs,r.cs++[⟨a,en,kn,false,false⟩]⟩:=rfl
  rw [haft] at hK
  simp only [List.length_append,List.length_cons,List.length_nil,List.flatMap_append,List.flatMap_cons,List.flatMap_nil,mH,bxE] at hK
  change Fc E _ [.d (.list 2 [.str a,.str en])] (.d (.list 2 [.str a,.str en])) at hc1
  change Fc E _ [.d (.list 1 [DI kn])] (.d (.list 1 [DI kn])) at hc2
  change In E 1 zan [.ptr ⟨0,13,0⟩ 0 0,.d (.agg [DI nu,.str zcs,.list 2 [.str a,.str en],.list 1 [DI kn],.str []])] _ _
  refine In.enter (f:=zan) g.lim rfl rfl ?_
  repeat' ((conv=>whnf);first
  | refine Yz ?_
   | (apply zah.of;assumption)
   | (refine zeb.mk ⟨rfl,rfl,rfl,rfl,rfl,rfl,by dsimp only;omega,by dsimp only;omega⟩ ?_)
   | (refine zf2.kinds g rfl ?_)
   | (refine z90.mk ⟨_,rfl,?_⟩)
   | (refine In.enter (f:=zcf) g.lim rfl rfl ?_)
   | (exact hK)
   | fail)
 ·have hc1:=zz6 g [a] (by simp) (by simp)
  have hc2:=zz5 g [kn,v] (by simp) (by simp)
  have hml:(r.rs.flatMap Rmv.cells).length=r.rs.length*2:=zaf Rmv.cells 2 ykc r.rs
  have hmc:(r.cs.flatMap Cpl.cells).length=r.cs.length*5:=zaf Cpl.cells 5 zxy r.cs
  change zr7 r a v=0 at hask
  rcases zm6 r.cs a with h|⟨k,hk,h,hnm⟩
  ·rw [zr7,h,if_pos (by decide)] at hask
   omega
  have hgd:r.cs.getD k yej=r.cs[k]:=by simp [List.getD,hk]
  have haft:zqi r ⟨nu,zfx,[a],[kn,v],[]⟩=⟨kn,r.es,if v=1 then r.rs++[⟨r.cs[k].en,kn⟩] else r.rs,r.cs.set k {r.cs[k] with cl:=true,up:=decide (v=1)}⟩:=by
   change (Rgs.mk kn r.es (if v=1 then r.rs++[⟨(r.cs.getD (zwe r.cs a).toNat yej).en,kn⟩] else r.rs) (r.cs.set (zwe r.cs a).toNat {r.cs.getD (zwe r.cs a).toNat yej with cl:=true,up:=decide (v=1)}))=_
   rw [h,Int.toNat_natCast,hgd]
  rw [haft] at hK
  have hq:=zu9 g zci (ev++[⟨nu,zfx,[a],[kn,v],[]⟩]) ⟨kn,r.es,r.rs,r.cs⟩ a (by dsimp only;omega)
  rw [show zwe (Rgs.mk kn r.es r.rs r.cs).cs a=k from h,yk7,if_pos (by omega)] at hq
  simp only [List.length_append,List.length_cons,List.length_nil,List.flatMap_append,List.flatMap_cons,List.flatMap_nil,mR] at hq
  clear hs hc ha hask haft
  have hp1:patch (r.cs.flatMap Cpl.cells) ((0+((k:Nat):Int).toNat)*5+3) [.bool true]=(r.cs.set k {r.cs[k] with cl:=true}).flatMap Cpl.cells:=by
   rw [Nat.zero_add,Int.toNat_natCast]
   exact z3y Cpl.cells 5 zxy r.cs k 3 hk (by decide) _ _ rfl
  have hm1:((r.cs.set k {r.cs[k] with cl:=true}).flatMap Cpl.cells).length=r.cs.length*5:=by rw [zaf Cpl.cells 5 zxy,List.length_set]
  have hk1:k<(r.cs.set k {r.cs[k] with cl:=true}).length:=by rw [List.length_set];exact hk
  have hp2:∀b,patch ((r.cs.set k {r.cs[k] with cl:=true}).flatMap Cpl.cells) ((0+((k:Nat):Int).toNat)*5+4) [.bool b]=(r.cs.set k {r.cs[k] with cl:=true,up:=b}).flatMap Cpl.cells:=by
   intro b
   rw [Nat.zero_add,Int.toNat_natCast]
   have:=z3y Cpl.cells 5 zxy (r.cs.set k {r.cs[k] with cl:=true}) k 4 hk1 (by decide) (.bool b) {r.cs[k] with cl:=true,up:=b} (by rw [List.getElem_set_self];rfl)
   rw [this,List.set_set]
  have hp3:∀b,k<(r.cs.set k {r.cs[k] with cl:=true,up:=b}).length:=fun b=>by rw [List.length_set];exact hk
  have hp4:∀b,(r.cs.set k {r.cs[k] with cl:=true,up:=b})[k]'(hp3 b)={r.cs[k] with cl:=true,up:=b}:=fun b=>List.getElem_set_self _
  change Fc E _ [.d (.list 1 [.str a])] (.d (.list 1 [.str a])) at hc1
  change Fc E _ [.d (.list 2 [DI kn,DI v])] (.d (.list 2 [DI kn,DI v])) at hc2
  change In E 1 zan [.ptr ⟨0,13,0⟩ 0 0,.d (.agg [DI nu,.str zfx,.list 1 [.str a],.list 2 [DI kn,DI v],.str []])] _ _
  by_cases hv:v=1
  ·rw [if_pos hv,decide_eq_true hv] at hK
   simp only [List.length_append,List.length_cons,List.length_nil,List.flatMap_append,List.flatMap_cons,List.flatMap_nil,List.length_set,mH,bxE] at hK
   refine In.enter (f:=zan) g.lim rfl rfl ?_
   repeat' ((conv=>whnf);first
   | refine Yz ?_
    | (apply zah.of;assumption)
    | (refine zeb.mk ⟨rfl,rfl,rfl,rfl,rfl,rfl,by dsimp only;omega,by dsimp only;omega⟩ ?_)
    | (refine zf2.kinds g rfl ?_)
    | (refine z90.mk ⟨_,rfl,?_⟩)
    | (refine Cmp.tt hv ?_)
    | (refine In.enter (f:=zby) g.lim rfl rfl ?_)
    | (refine zmb.of (r':= .ptr ⟨0,12,3⟩ ((0+((k:Nat):Int).toNat)*5) r.cs.length) isH rfl rfl rfl rfl hq rfl rfl rfl ?_)
    | (refine zeb.mk ⟨rfl,by omega,rfl⟩ ?_;first |rw [hp1]|rw [hp2])
    | (refine zf3.rec0 zxy k rfl (hp3 true) (by rw [hp4];rfl) ?_)
    | (refine In.enter (f:=zb9) g.lim rfl rfl ?_)
    | (exact hK)
    | fail)
  ·rw [if_neg hv,decide_eq_false hv] at hK
   simp only [List.length_append,List.length_cons,List.length_nil,List.flatMap_append,List.flatMap_cons,List.flatMap_nil,List.length_set,mH,bxE] at hK
   refine In.enter (f:=zan) g.lim rfl rfl ?_
   repeat' ((conv=>whnf);first
   | refine Yz ?_
    | (apply zah.of;assumption)
    | (refine zeb.mk ⟨rfl,rfl,rfl,rfl,rfl,rfl,by dsimp only;omega,by dsimp only;omega⟩ ?_)
    | (refine zf2.kinds g rfl ?_)
    | (refine z90.mk ⟨_,rfl,?_⟩)
    | (refine Cmp.ff hv ?_)
    | (refine In.enter (f:=zby) g.lim rfl rfl ?_)
    | (refine zmb.of (r':= .ptr ⟨0,12,3⟩ ((0+((k:Nat):Int).toNat)*5) r.cs.length) isH rfl rfl rfl rfl hq rfl rfl rfl ?_)
    | (refine zeb.mk ⟨rfl,by omega,rfl⟩ ?_;first |rw [hp1]|rw [hp2])
    | (refine zf3.rec0 zxy k rfl (hp3 false) (by rw [hp4];rfl) ?_)
    | (refine In.enter (f:=zb9) g.lim rfl rfl ?_)
    | (exact hK)
    | fail)
end
abbrev mS (lv sl:Nat) (ev:List Evt) (r:Rgs):Mem:=[(⟨lv,sl,0⟩,.cells zci [.ref ⟨lv,sl,1⟩ 0 ev.length ev.length,I r.kn,.ref ⟨lv,sl,2⟩ 0 r.es.length r.es.length,.ref ⟨lv,sl,3⟩ 0 r.rs.length r.rs.length,.ref ⟨lv,sl,4⟩ 0 r.cs.length r.cs.length]),
 (⟨lv,sl,1⟩,.row false zad 5 ev.length (ev.flatMap Evt.cells)),(⟨lv,sl,2⟩,.row false zac 8 r.es.length (r.es.flatMap Ent.cells)),(⟨lv,sl,3⟩,.row false zbl 2 r.rs.length (r.rs.flatMap Rmv.cells)),(⟨lv,sl,4⟩,.row true zai 5 r.cs.length (r.cs.flatMap Cpl.cells))]
theorem ydo {r:Rgs} {l:List Evt} {k:Nat} (hk:k<l.length):zew r k (l.drop k)=if zj2 r k l[k]≠0 then(rg0,k+1,zj2 r k l[k]) else zew (zqi r l[k]) (k+1) (l.drop (k+1)):=by
 rw [List.drop_eq_getElem_cons hk,zjy]
section
variable {E : Oracle} (g : Good E)
include g
theorem z8b (l:List Evt) (hl:l.length<=1000) (hb:∀e∈l,e.ns.length<=1000000/\e.vs.length<=1000000):
  In E 0 zgi [LE l] [] fun v m'=>((zew rg0 0 l).2.2=0->v= .tup [.ptr ⟨0,13,0⟩ 0 0,I 0,I 0]/\m'=mH l (zew rg0 0 l).1)/\((zew rg0 0 l).2.2≠0->v= .tup [.d .nilp,I (zew rg0 0 l).2.1,I (zew rg0 0 l).2.2]):=by
 refine In.enter (f:=zgi) g.lim rfl rfl ?_
 have hml:(l.flatMap Evt.cells).length=l.length*5:=zaf Evt.cells 5 evw l
 generalize hR:zew rg0 0 l=R
 repeat' ((conv=>whnf);first
 | refine Yz ?_
  | fail)
 refine zaj.to (zaj.by (σ:=List Evt×Rgs) g (fun u=>u.1=l.take u.1.length/\u.1.length<=l.length/\OkR u.2/\u.2.rs.length<=u.1.length/\zew u.2 u.1.length (l.drop u.1.length)=R)
  (fun u=>[(5,.ptr ⟨0,13,0⟩ 0 0),(14,LE l),(15,I l.length),(16,I u.1.length)]) (fun u=>mH u.1 u.2) (fun u=>l.length-u.1.length) ?_ ([],rg0) ⟨rfl,Nat.zero_le _,yhi,Nat.le_refl _,hR⟩) rfl rfl
 clear hR
 rintro⟨ev,r⟩ ⟨h1,h2,ho,h3,hR⟩ ih
 dsimp only at h1 h2 ho h3 hR ih ⊢
 by_cases hlt:ev.length<l.length
 ·rw [ydo hlt] at hR
  have hwin:win (l.flatMap Evt.cells) (((ev.length:Nat):Int).toNat*5) 5=l[ev.length].cells:=by
   rw [Int.toNat_natCast]
   exact zfj Evt.cells 5 evw l ev.length hlt
  obtain⟨hb1,hb2⟩:=hb _ (List.getElem_mem hlt)
  have ih:=fun hz:zj2 r ev.length l[ev.length]=0=>ih (ev++[l[ev.length]],zqi r l[ev.length]) ⟨by
   rw [List.length_append,List.length_singleton,List.take_succ_eq_append_getElem hlt,<-h1],by
   rw [List.length_append,List.length_singleton];omega,yhh ho hz (by omega),by
   have:=yfw r l[ev.length]
   dsimp only
   rw [List.length_append,List.length_singleton];omega,by
   rw [if_neg (fun h=>h hz)] at hR
   rw [List.length_append,List.length_singleton];exact hR⟩ (by rw [List.length_append,List.length_singleton];omega)
  simp only [List.length_append,List.length_cons,List.length_nil] at ih
  generalize l[ev.length]=e at *
  have hce:=z87 g e hb1 hb2
  by_cases hc:zwb e=0
  ·rw [hc] at hce
   have hq:=yhp g zci ev r ho e hc (by omega)
   have hst:zj2 r ev.length e=z9w r ev.length e:=by rw [zj2,if_neg (fun h=>h hc)]
   by_cases ha:z9w r ev.length e=0
   ·rw [ha] at hq hst
    have ih:=ih hst
    repeat' ((conv=>whnf);first
    | refine Yz ?_
     | (rw [hwin])
     | (apply zah.of;assumption)
     | (refine zmb.of (r':=I 0) isH rfl rfl rfl rfl hq rfl rfl rfl ?_)
     | (refine yn3 g ev r ho (by omega) e hst (by omega) (slot:=35) ?_)
     | (refine zaj.to ih rfl rfl)
     | fail)
   ·rw [hst,if_pos ha] at hR
    generalize z9w r ev.length e=x at *
    subst hR
    repeat' ((conv=>whnf);first
    | refine Yz ?_
     | (rw [hwin])
     | (apply zah.of;assumption)
     | (refine zmb.of (r':=I x) isH rfl rfl rfl rfl hq rfl rfl rfl ?_)
     | (refine Cmp.ff ha ?_)
     | (exact⟨fun h=>absurd h ha,fun _=>rfl⟩)
     | fail)
  ·have hst:zj2 r ev.length e=zwb e:=by rw [zj2,if_pos hc]
   rw [hst,if_pos hc] at hR
   generalize zwb e=x at *
   subst hR
   repeat' ((conv=>whnf);first
   | refine Yz ?_
    | (rw [hwin])
    | (apply zah.of;assumption)
    | (refine Cmp.ff hc ?_)
    | (exact⟨fun h=>absurd h hc,fun _=>rfl⟩)
    | fail)
 ·have e1:ev=l:=by rw [h1,List.take_of_length_le (by omega)]
  subst e1
  rw [List.drop_of_length_le (by omega)] at hR
  subst hR
  repeat' ((conv=>whnf);first
  | refine Yz ?_
   | (exact⟨fun _=>⟨rfl,rfl⟩,fun h=>absurd rfl h⟩)
   | fail)
theorem zf2.replay {l:List Evt} (hl:l.length<=1000) (hb:∀e∈l,e.ns.length<=1000000/\e.vs.length<=1000000) {cx:Cx} {slot:Nat} {m:Mem} {K:V->Mem->Prop} (hf:Go.Evl.freeK cx.lv slot m=0) (hz:(zew rg0 0 l).2.2=0)
  (k:K (.tup [.ptr ⟨cx.lv,slot,0⟩ 0 0,I 0,I 0]) (m++mS cx.lv slot l (zew rg0 0 l).1)):zf2 E zgi [LE l] cx slot m K:=by
 obtain⟨v,m',h1,h2,_⟩:=(z8b g l hl hb).got
 obtain⟨rfl,rfl⟩:=h2 hz
 refine⟨_,_,(_,m++mS cx.lv slot l (zew rg0 0 l).1),h1,?_,k⟩
 unfold Evl.settle
 rw [hf]
 rfl
theorem zf2.replayNo {l:List Evt} (hl:l.length<=1000) (hb:∀e∈l,e.ns.length<=1000000/\e.vs.length<=1000000) {cx:Cx} {slot:Nat} {m:Mem} {K:V->Mem->Prop} (hz:(zew rg0 0 l).2.2≠0)
  (k:K (.tup [.d .nilp,I (zew rg0 0 l).2.1,I (zew rg0 0 l).2.2]) (m++[])):zf2 E zgi [LE l] cx slot m K:=by
 obtain⟨v,m',h1,_,h2⟩:=(z8b g l hl hb).got
 obtain rfl:=h2 hz
 exact⟨_,_,(_,m++[]),h1,rfl,k⟩
end
def ygo (r:Rgs) (s:List UInt8) (kn d:Int) (x:Ent):Bool:=decide (x.sr=s)&&decide (x.fr<=d)&&decide (d<=x.to)&&z2g r x kn
def zmz (r:Rgs) (s:List UInt8) (kn d:Int):Int:=r.es.foldl (fun o x=>if ygo r s kn d x then x.mi else o) 1440
theorem zwi {α:Type} (p:α->Bool) (f:α->Int):∀(l:List α) (a:Int),(∀x∈l,p x=false)->l.foldl (fun o x=>if p x then f x else o) a=a
 | [],a,_=>rfl
 | x::l,a,h=>by
  rw [List.foldl_cons,h x (by simp)]
  exact zwi p f l a fun y hy=>h y (by simp [hy])
theorem yjj {α:Type} (p:α->Bool) (f:α->Int) (l:List α) (a:Int) {k:Nat} (hk:k<l.length) (h:p l[k]=true) (hn:∀j,(hj:j<l.length)->k<j->p l[j]=false):l.foldl (fun o x=>if p x then f x else o) a=f l[k]:=by
 have h1:l=l.take k++l[k]::l.drop (k+1):=by rw [<-List.drop_eq_getElem_cons hk,List.take_append_drop]
 have h2:∀x∈l.drop (k+1),p x=false:=fun x hx=>by
  obtain⟨j,hj,rfl⟩:=List.mem_iff_getElem.1 hx
  rw [List.length_drop] at hj
  rw [List.getElem_drop]
  exact hn _ (by omega) (by omega)
 have h3:(l.take k++l[k]::l.drop (k+1)).foldl (fun o x=>if p x then f x else o) a=f l[k]:=by
  rw [List.foldl_append,List.foldl_cons,zwi p f _ _ h2,h]
  rfl
 rw [<-h1] at h3
 exact h3
theorem yc6 {r:Rgs} {s:List UInt8} {kn d:Int} {k:Nat} (hk:k<r.es.length) (h:ygo r s kn d r.es[k]=true) (hn:∀j,(hj:j<r.es.length)->k<j->ygo r s kn d r.es[j]=false):zmz r s kn d=r.es[k].mi:=yjj _ _ _ _ hk h hn
theorem yg4 {r:Rgs} {s:List UInt8} {kn d:Int} (hn:∀j,(hj:j<r.es.length)->ygo r s kn d r.es[j]=false):zmz r s kn d=1440:=zwi _ _ _ _ fun x hx=>by
 obtain⟨j,hj,rfl⟩:=List.mem_iff_getElem.1 hx
 exact hn j hj
section
variable {E : Oracle} (g : Good E)
include g
theorem zf2.backward {n:Nat} {cs:List D} {cx:Cx} {slot:Nat} {m:Mem} {K:V->Mem->Prop} (hf:Go.Evl.freeK cx.lv slot m=0)
  (k:K (.fn zak [] [.ptr ⟨cx.lv,slot,0⟩ 0 0]) (m++[(⟨cx.lv,slot,0⟩,.cells zjj [.d (.list n cs)])])):zf2 E zau [.d (.list n cs)] cx slot m K:=by
 have h:In E 0 zau [.d (.list n cs)] [] fun v m'=>v= .fn zak [] [.ptr ⟨0,1,0⟩ 0 0]/\m'=[(⟨0,1,0⟩,.cells zjj [.d (.list n cs)])]:=by
  refine In.enter (f:=zau) g.lim rfl rfl ?_
  repeat' ((conv=>whnf);first
  | refine Yz ?_
   | (exact⟨rfl,rfl⟩)
   | fail)
 obtain⟨v,m',h1,rfl,rfl⟩:=h.got
 refine⟨_,_,(_,_),h1,?_,k⟩
 unfold Evl.settle
 rw [hf]
 rfl
theorem zz1 (t:Nat) (ev:List Evt) (r:Rgs) (ho:OkR r) (s:List UInt8) (kn d:Int):Qs E zbg [.ptr ⟨0,0,0⟩ 1 0,S s,I kn,I d] (mR t ev r) (I (zmz r s kn d)):=by
 refine⟨?_⟩
 have hes:=ho.es
 have hml:(r.es.flatMap Ent.cells).length=r.es.length*8:=zaf Ent.cells 8 zwf r.es
 refine In.enter (f:=zbg) g.lim rfl rfl ?_
 repeat' ((conv=>whnf);first
 | refine Yz ?_
  | (rw [if_pos ⟨rfl,rfl⟩];refine zf2.backward g rfl ?_)
  | (refine zf2.backward g rfl ?_)
  | (refine In.enter (f:=zak) g.lim rfl rfl ?_)
  | fail)
 refine zaj.to (zaj.by (σ:=Nat) g (fun n=>n<=r.es.length/\∀j,(hj:j<r.es.length)->n<=j->ygo r s kn d r.es[j]=false)
  (fun n=>[(0,.yld ⟨1,43,0⟩),(1,.ptr ⟨1,15,0⟩ 0 0),(3,I ((n:Int)-1))])
  (fun _=>mR t ev r++[(⟨1,4,0⟩,.cells zbs [.ptr ⟨0,0,0⟩ 1 0]),(⟨1,5,0⟩,.cells zab [S s]),(⟨1,6,0⟩,.cells za6 [I kn]),(⟨1,7,0⟩,.cells za6 [I d]),(⟨1,8,0⟩,.cells za6 [I 0]),(⟨1,15,0⟩,.cells zjj [.d (.list r.es.length (r.es.flatMap Ent.cells))]),
   (⟨1,43,0⟩,.loop [(4,.ptr ⟨1,4,0⟩ 0 0),(5,.ptr ⟨1,5,0⟩ 0 0),(6,.ptr ⟨1,6,0⟩ 0 0),(7,.ptr ⟨1,7,0⟩ 0 0),(8,.ptr ⟨1,8,0⟩ 0 0),(15,.fn zak [] [.ptr ⟨1,15,0⟩ 0 0])] [16,17] zin zio 1 false false none)])
  (fun n=>n) ?_ r.es.length ⟨Nat.le_refl _,fun j hj h=>absurd hj (by omega)⟩) rfl rfl
 rintro n ⟨h1,h2⟩ ih
 dsimp only at ih ⊢
 rcases Nat.eq_zero_or_pos n with rfl|hn
 ·rw [yg4 fun j hj=>h2 j hj (Nat.zero_le _)]
  repeat' ((conv=>whnf);first
  | refine Yz ?_
   | (exact⟨rfl,rfl,rfl,rfl,rfl,rfl,trivial⟩)
   | fail)
 ·obtain⟨k,rfl⟩:∃k,n=k+1:=⟨n-1,by omega⟩
  have hk:k<r.es.length:=by omega
  have e1:((k+1:Nat):Int)-1=k:=by omega
  have hwin:win (r.es.flatMap Ent.cells) (((k:Nat):Int).toNat*8) 8=r.es[k].cells:=by
   rw [Int.toNat_natCast]
   exact zfj Ent.cells 8 zwf r.es k hk
  have hq:=yoi g t ev r ho kn k hk
  have ih:=fun h:ygo r s kn d r.es[k]=false=>ih k ⟨by omega,fun j hj hkj=>by
   by_cases e:j=k
   ·subst e;exact h
   ·exact h2 j hj (by omega)⟩ (by omega)
  rw [e1]
  have hhit:ygo r s kn d r.es[k]=(decide (r.es[k].sr=s)&&decide (r.es[k].fr<=d)&&decide (d<=r.es[k].to)&&z2g r r.es[k] kn):=rfl
  by_cases hs:r.es[k].sr=s
  ·by_cases hf:r.es[k].fr<=d
   ·by_cases ht:d<=r.es[k].to
    ·cases hc:z2g r r.es[k] kn with
     | true=>
      rw [hc] at hq
      rw [yc6 hk (by rw [hhit,decide_eq_true hs,decide_eq_true hf,decide_eq_true ht,hc];rfl) fun j hj hjk=>h2 j hj (by omega)]
      repeat' ((conv=>whnf);first
      | refine Yz ?_
       | (rw [hwin])
       | (refine Rnd.enter g.lim ?_)
       | (refine Cmp.tt hs ?_)
       | (refine zmb.of (r':=B true) isR rfl rfl rfl rfl hq rfl rfl rfl ?_)
       | (exact⟨rfl,rfl,rfl,rfl,rfl,rfl,trivial⟩)
       | fail)
     | false=>
      rw [hc] at hq
      have ih:=ih (by rw [hhit,hc,Bool.and_false])
      repeat' ((conv=>whnf);first
      | refine Yz ?_
       | (rw [hwin])
       | (refine Rnd.enter g.lim ?_)
       | (refine Cmp.tt hs ?_)
       | (refine zmb.of (r':=B false) isR rfl rfl rfl rfl hq rfl rfl rfl ?_)
       | (refine zaj.to ih rfl rfl)
       | fail)
    ·have ih:=ih (by rw [hhit,decide_eq_false ht,Bool.and_false,Bool.false_and])
     repeat' ((conv=>whnf);first
     | refine Yz ?_
      | (rw [hwin])
      | (refine Rnd.enter g.lim ?_)
      | (refine Cmp.tt hs ?_)
      | (refine zaj.to ih rfl rfl)
      | fail)
   ·have ih:=ih (by rw [hhit,decide_eq_false hf,Bool.and_false,Bool.false_and,Bool.false_and])
    repeat' ((conv=>whnf);first
    | refine Yz ?_
     | (rw [hwin])
     | (refine Rnd.enter g.lim ?_)
     | (refine Cmp.tt hs ?_)
     | (refine zaj.to ih rfl rfl)
     | fail)
  ·have ih:=ih (by rw [hhit,decide_eq_false hs,Bool.false_and,Bool.false_and,Bool.false_and])
   repeat' ((conv=>whnf);first
   | refine Yz ?_
    | (rw [hwin])
    | (refine Rnd.enter g.lim ?_)
    | (refine Cmp.ff hs ?_)
    | (refine zaj.to ih rfl rfl)
    | fail)
end
abbrev rgL (l:List Evt):Rgs:=(zew rg0 0 l).1
abbrev erL (l:List Evt):Int:=(zew rg0 0 l).2.2
structure yo3 where
 kn:Int
 mi:Int
def yo3.cells (t:yo3):List D:=[DI t.kn,DI t.mi]
theorem z4u {l:List Evt} (hl:l.length<=1000) (h:erL l=0):OkR (rgL l):=ydr l rg0 0 yhi (Nat.le_refl _) (by omega) h
section
variable {E : Oracle} (g : Good E)
include g
theorem z4w (n:Int):Fc E zba [I n] (I (rng n 0 99999)):=by
 refine g.fn rfl rfl ?_
 have h:=z17 g n 0 99999
 repeat' ((conv=>whnf);first
 | refine Yz ?_
  | (apply zah.of;assumption)
  | (refine Ret.mk rfl)
  | fail)
theorem ycr (l:List Evt) (hl:l.length<=1000) (hb:∀e∈l,e.ns.length<=1000000/\e.vs.length<=1000000) (fs:List Int) (hfs:fs.length<=1000):
  In E 0 zd9 [LE l,LI fs] [] fun v m'=>(zao [erL l,zao fs]=0->v= .tup [.ptr ⟨0,11,0⟩ 1 0,I 0]/\m'=mS 0 11 l (rgL l))/\(zao [erL l,zao fs]≠0->v= .tup [.d .nilp,I (zao [erL l,zao fs])]):=by
 have hf:=zz7 g fs (by omega)
 have hf2:=zlb g (erL l) (zao fs)
 refine In.enter (f:=zd9) g.lim rfl rfl ?_
 by_cases hz:erL l=0
 ·have hr:=@zf2.replay E g l hl hb
  rw [hz] at hf2 ⊢
  have e0:zao [0,zao fs]=zao fs:=by
   have h1:∀x:Int,zao [x]=x:=fun x=>by
    by_cases h:x=0
    ·subst h;rfl
    ·unfold zao;rw [if_neg h]
   exact h1 _
  rw [e0] at hf2 ⊢
  generalize zao fs=x at *
  by_cases hx:x=0
  ·subst hx
   repeat' ((conv=>whnf);first
   | refine Yz ?_
    | (refine hr rfl hz ?_)
    | (apply zah.of;assumption)
    | (exact⟨fun _=>⟨rfl,rfl⟩,fun h=>absurd rfl h⟩)
    | fail)
  ·repeat' ((conv=>whnf);first
  | refine Yz ?_
    | (refine hr rfl hz ?_)
    | (apply zah.of;assumption)
    | (refine Cmp.ff hx ?_)
    | (exact⟨fun h=>absurd h hx,fun _=>rfl⟩)
    | fail)
 ·have hr:=@zf2.replayNo E g l hl hb
  have e0:zao [erL l,zao fs]=erL l:=by unfold zao;rw [if_neg hz]
  rw [e0] at hf2 ⊢
  generalize zao fs=x at *
  unfold erL at *
  generalize (zew rg0 0 l).2.2=z at *
  repeat' ((conv=>whnf);first
  | refine Yz ?_
   | (refine hr hz ?_)
   | (apply zah.of;assumption)
   | (refine Cmp.ff hz ?_)
   | (exact⟨fun h=>absurd h hz,fun _=>rfl⟩)
   | fail)
theorem zf2.asked {l:List Evt} (hl:l.length<=1000) (hb:∀e∈l,e.ns.length<=1000000/\e.vs.length<=1000000) {fs:List Int} (hfs:fs.length<=1000) {cx:Cx} {slot:Nat} {m:Mem} {K:V->Mem->Prop} (hf:Go.Evl.freeK cx.lv slot m=0) (hz:zao [erL l,zao fs]=0)
  (k:K (.tup [.ptr ⟨cx.lv,slot,0⟩ 1 0,I 0]) (m++mS cx.lv slot l (rgL l))):zf2 E zd9 [LE l,LI fs] cx slot m K:=by
 obtain⟨v,m',h1,h2,_⟩:=(ycr g l hl hb fs hfs).got
 obtain⟨rfl,rfl⟩:=h2 hz
 refine⟨_,_,(_,m++mS cx.lv slot l (rgL l)),h1,?_,k⟩
 unfold Evl.settle
 rw [hf]
 rfl
theorem zf2.askedNo {l:List Evt} (hl:l.length<=1000) (hb:∀e∈l,e.ns.length<=1000000/\e.vs.length<=1000000) {fs:List Int} (hfs:fs.length<=1000) {cx:Cx} {slot:Nat} {m:Mem} {K:V->Mem->Prop} {x:Int} (hx:zao [erL l,zao fs]=x) (hz:x≠0)
  (k:K (.tup [.d .nilp,I x]) (m++[])):zf2 E zd9 [LE l,LI fs] cx slot m K:=by
 subst hx
 obtain⟨v,m',h1,_,h2⟩:=(ycr g l hl hb fs hfs).got
 obtain rfl:=h2 hz
 exact⟨_,_,(_,m++[]),h1,rfl,k⟩
def erM (l:List Evt) (s:List UInt8) (kn d:Int):Int:=zao [erL l,zao [if !zbr s then 8 else 0,rng kn 0 99999,rng d 0 99999]]
theorem yke (l:List Evt) (hl:l.length<=1000) (hb:∀e∈l,e.ns.length<=1000000/\e.vs.length<=1000000) (s:List UInt8) (kn d:Int):
  Fc E zbd [LE l,S s,I kn,I d] (.tup [I (if erM l s kn d=0 then zmz (rgL l) s kn d else 0),I (erM l s kn d)]):=by
 refine g.fn rfl rfl ?_
 have h1:=z6u g s
 have h2:=z4w g kn
 have h3:=z4w g d
 have ha:=@zf2.asked E g l hl hb [if !zbr s then 8 else 0,rng kn 0 99999,rng d 0 99999] (by simp)
 have hn:=@zf2.askedNo E g l hl hb [if !zbr s then 8 else 0,rng kn 0 99999,rng d 0 99999] (by simp)
 unfold erM
 generalize (if !zbr s then(8:Int) else 0)=a at *
 generalize rng kn 0 99999=b at *
 generalize rng d 0 99999=c at *
 by_cases hz:zao [erL l,zao [a,b,c]]=0
 ·rw [if_pos hz,hz]
  have hq:=zz1 g zci l (rgL l) (z4u hl (by rw [zdu] at hz;exact hz _ (by simp))) s kn d
  repeat' ((conv=>whnf);first
  | refine Yz ?_
   | (apply zah.of;assumption)
   | (refine ha rfl hz ?_)
   | (refine zmb.of (r':=I (zmz (rgL l) s kn d)) [⟨0,21,0⟩,⟨0,21,1⟩,⟨0,21,2⟩,⟨0,21,3⟩,⟨0,21,4⟩] rfl rfl rfl rfl hq rfl rfl rfl ?_)
   | (refine Ret.mk rfl)
   | fail)
 ·rw [if_neg hz]
  repeat' ((conv=>whnf);first
  | refine Yz ?_
   | (apply zah.of;assumption)
   | (refine hn rfl hz ?_)
   | (refine Cmp.ff hz ?_)
   | (refine Ret.mk rfl)
   | fail)
end
theorem z1b {α:Type} (p:α->Bool) (l:List α) (k:Nat) (h:k<l.length):(l.take (k+1)).filter p=(l.take k).filter p++if p l[k] then [l[k]] else []:=by
 rw [List.take_succ_eq_append_getElem h,List.filter_append]
 cases hp:p l[k]<;>simp [hp]
section
variable {E : Oracle} (g : Good E)
include g
theorem z9a (day:Int) (h:0<=day/\day<=1000000):Fc E zhk [I day] (I ((day+5)%7)):=by
 refine g.fn rfl rfl ?_
 repeat' ((conv=>whnf);first
 | refine Yz ?_
  | (refine Ret.mk rfl))
theorem yht (day:Int) (h:0<=day/\day<=1000000):Fc E zn1 [I day] (I ((day+5)%7)):=by
 refine g.fn rfl rfl ?_
 repeat' ((conv=>whnf);first
 | refine Yz ?_
  | (refine Ret.mk rfl))
end
def zgg (f d:Int):Nat->List Int
 | 0=>[]
 | k+1=>zgg f d k++(if inM d ((f+k+5)%7) then [f+k] else [])
theorem zjw (f d:Int):∀k:Nat,(zgg f d k).length<=k
 | 0=>Nat.le_refl _
 | k+1=>by
  have:=zjw f d k
  simp only [zgg,List.length_append]
  split<;>simp<;>omega
def yon:C:= .reg false [⟨some 6,none,.mv (.t 8)⟩] [8]
def yoo:C:= .block 1 (.seq (.reg false [
⟨some 9,none,.load none (.t 3)⟩,
⟨some 10,none,.mv (.t 6)⟩,
⟨some 11,none,.call true true (.t 9) [.t 10]⟩] [3,9,10])
(.cond (.t 11) (.reg false [
⟨some 12,none,.load none (.t 5)⟩,
⟨some 13,none,.mv (.t 6)⟩,
⟨some 14,none,.mkList 1 1 [.t 13]⟩,
⟨some 15,none,.append ⟨false,za6,1,8⟩ (.t 12) (.t 14)⟩,
⟨none,none,.store 1 (.t 5) (.t 15)⟩] [5,6,12,13,14,15])
 .skip))
section
variable {E : Oracle} (g : Good E)
include g
theorem ybb (f t d:Int) (h:zh3 f t d=0):Fc E zih [Per f t d] (.tup [LI (zgg f d (t-f+1).toNat),I 0]):=by
 refine g.fn rfl rfl ?_
 have hc:=zw1 g f t d
 rw [h] at hc
 have hb:=znq.1 h
 repeat' ((conv=>whnf);first
 | refine Yz ?_
  | (refine zah.of hc ?_)
  | (refine zf2.of (In.enter (f:=zk4) g.lim rfl rfl ?_))
  | (refine⟨(.fn zes [] [.ptr ⟨0,11,0⟩ 0 0],[(⟨0,1,0⟩,.cells za8 [I f,I t,I d]),(⟨0,11,0⟩,.cells za8 [I f,I t,I d])]),rfl,?_⟩)
  | (refine In.enter (f:=zgh) g.lim rfl rfl ?_)
  | (refine In.enter (f:=zes) g.lim rfl rfl ?_))
 refine zaj.to (zaj.up g (fun k=>[(0,.yld ⟨1,18,0⟩),(1,.ptr ⟨0,11,0⟩ 0 0),(3,I (f+k))]) (fun k=>[(⟨0,1,0⟩,.cells za8 [I f,I t,I d]),(⟨0,11,0⟩,.cells za8 [I f,I t,I d]),
  (⟨1,3,0⟩,.cells zrp [.fn zgy [] []]),(⟨1,4,0⟩,.row false za6 1 0 []),(⟨1,5,0⟩,.row false za6 1 (zgg f d k).length ((zgg f d k).map DI)),(⟨1,5,1⟩,.cells z64 [.ref ⟨1,5,0⟩ 0 (zgg f d k).length (zgg f d k).length]),
  (⟨1,18,0⟩,.loop [(3,.ptr ⟨1,3,0⟩ 0 0),(4,.ref ⟨1,4,0⟩ 0 0 0),(5,.ptr ⟨1,5,1⟩ 0 0),(7,.fn zes [] [.ptr ⟨0,11,0⟩ 0 0])] [8] yon yoo 1 false false none)]) (t-f+1).toNat (fun k hk ih=> ?_) 0 (Nat.zero_le _)) (by simp) rfl
 have hlen:=zjw f d k
 by_cases hlt:k<(t-f+1).toNat
 ·have hin:=ykh g d ((f+k+5)%7) (by omega) (by omega)
  by_cases hc:inM d ((f+k+5)%7)=true
  ·rw [hc] at hin
   repeat' ((conv=>whnf);first
   | refine Yz ?_
    | (refine zah.of (z9a g _ (by omega)) ?_)
    | (refine zah.of hin ?_)
    | (refine Rnd.enter g.lim ?_)
    | (refine In.enter (f:=zgy) g.lim rfl rfl ?_)
    | (refine zaj.to (ih hlt) ?_ ?_))
   ·simp;omega
   ·simp [zgg,hc]
  ·rw [Bool.not_eq_true] at hc
   rw [hc] at hin
   repeat' ((conv=>whnf);first
   | refine Yz ?_
    | (refine zah.of (z9a g _ (by omega)) ?_)
    | (refine zah.of hin ?_)
    | (refine zaj.to (ih hlt) ?_ ?_))
   ·simp;omega
   ·simp [zgg,hc]
 ·have hk':k=(t-f+1).toNat:=by omega
  repeat' ((conv=>whnf);first
  | refine Yz ?_
   | (refine Ret.mk ?_))
  simp [hk']
end
def yo6 (f t d day:Int):Bool:=decide (f<=day)&&(decide (day<=t)&&inM d ((day+5)%7))
section
variable {E : Oracle} (g : Good E)
include g
theorem ypy (f t d day:Int) (hd:0<=d/\d<=127) (h:0<=day/\day<=1000000):Fc E zu7 [Per f t d,I day] (B (yo6 f t d day)):=by
 refine g.fn rfl rfl ?_
 have hin:=yj7 g d ((day+5)%7) hd (by omega)
 unfold yo6
 generalize inM d ((day+5)%7)=b at *
 by_cases h1:f<=day
 ·by_cases h2:day<=t
  all_goals repeat' ((conv=>whnf);first
  | refine Yz ?_
   | (refine zah.of (yht g _ h) ?_)
   | (refine zah.of hin ?_)
   | (refine Ret.mk ?_))
  all_goals simp [h1,h2]
 ·repeat' ((conv=>whnf);first
 | refine Yz ?_
   | (refine Ret.mk ?_))
  simp [h1]
theorem yj6 (f t d:Int) (h:zh3 f t d=0):Fc E zpl [Per f t d] (LI (zgg f d (t-f+1).toNat)):=by
 refine g.fn rfl rfl ?_
 have hb:=znq.1 h
 repeat' ((conv=>whnf);first
 | refine Yz ?_)
 refine zaj.to (zaj.up g (fun k=>[(1,.ptr ⟨0,1,0⟩ 0 0),(3,.ref ⟨0,3,0⟩ 0 (zgg f d k).length (zgg f d k).length),(4,I (f+k))])
  (fun k=>[(⟨0,1,0⟩,.cells za8 [I f,I t,I d]),(⟨0,2,0⟩,.row false za6 1 0 []),(⟨0,3,0⟩,.row false za6 1 (zgg f d k).length ((zgg f d k).map DI))]) (t-f+1).toNat (fun k hk ih=> ?_) 0 (Nat.zero_le _)) (by simp [zgg]) rfl
 have hlen:=zjw f d k
 by_cases hlt:k<(t-f+1).toNat
 ·have hh:=ypy g f t d (f+k) (by omega) (by omega)
  have he:yo6 f t d (f+k)=inM d ((f+k+5)%7):=by
   simp only [yo6,decide_eq_true (show f<=f+(k:Int) by omega),decide_eq_true (show f+(k:Int)<=t by omega),Bool.true_and]
  rw [he] at hh
  by_cases hc:inM d ((f+k+5)%7)=true
  ·rw [hc] at hh
   repeat' ((conv=>whnf);first
   | refine Yz ?_
    | (refine zah.of hh ?_)
    | (refine zaj.to (ih hlt) ?_ ?_))
   ·simp [zgg,hc];omega
   ·simp [zgg,hc]
  ·rw [Bool.not_eq_true] at hc
   rw [hc] at hh
   repeat' ((conv=>whnf);first
   | refine Yz ?_
    | (refine zah.of hh ?_)
    | (refine zaj.to (ih hlt) ?_ ?_))
   ·simp [zgg,hc];omega
   ·simp [zgg,hc]
 ·have hk':k=(t-f+1).toNat:=by omega
  repeat' ((conv=>whnf);first
  | refine Yz ?_
   | (refine Ret.mk ?_))
  simp [hk']
end
def yiy (r:Rgs) (s:List UInt8) (f c:Int) (ds:List Int):List Int:=ds.filter fun d=>decide (zmz r s f d≠zmz r s c d)
section
variable {E : Oracle} (g : Good E)
include g
def erD (l:List Evt) (s:List UInt8) (f c a b w:Int):Int:=zao [erL l,zao [if !zbr s then 8 else 0,rng f 0 99999,rng c 0 99999,zh3 a b w]]
theorem z6t (l:List Evt) (hl:l.length<=1000) (hb:∀e∈l,e.ns.length<=1000000/\e.vs.length<=1000000) (s:List UInt8) (f c a b w:Int):
  Fc E zf9 [LE l,S s,I f,I c,Per a b w] (.tup [if erD l s f c a b w=0 then LI (yiy (rgL l) s f c (zgg a w (b-a+1).toNat)) else LI [],I (erD l s f c a b w)]):=by
 refine g.fn rfl rfl ?_
 have h1:=z6u g s
 have h2:=z4w g f
 have h3:=z4w g c
 have h4:=zw1 g a b w
 have ha:=@zf2.asked E g l hl hb [if !zbr s then 8 else 0,rng f 0 99999,rng c 0 99999,zh3 a b w] (by simp)
 have hn:=@zf2.askedNo E g l hl hb [if !zbr s then 8 else 0,rng f 0 99999,rng c 0 99999,zh3 a b w] (by simp)
 have hd:=ybb g a b w
 unfold erD
 have hz4:zao [erL l,zao [if !zbr s then 8 else 0,rng f 0 99999,rng c 0 99999,zh3 a b w]]=0->erL l=0/\zh3 a b w=0:=fun hz=>by
  rw [zdu] at hz
  have h5:=hz (zao [if !zbr s then 8 else 0,rng f 0 99999,rng c 0 99999,zh3 a b w]) (by simp)
  rw [zdu] at h5
  exact⟨hz _ (by simp),h5 _ (by simp)⟩
 have hdl:zh3 a b w=0->(zgg a w (b-a+1).toNat).length<=401:=fun h=>by
  have:=zjw a w (b-a+1).toNat
  rw [znq] at h
  omega
 generalize (if !zbr s then(8:Int) else 0)=x1 at *
 generalize rng f 0 99999=x2 at *
 generalize rng c 0 99999=x3 at *
 generalize zh3 a b w=x4 at *
 by_cases hz:zao [erL l,zao [x1,x2,x3,x4]]=0
 ·rw [if_pos hz,hz]
  obtain⟨hz0,hz1⟩:=hz4 hz
  have ho:OkR (rgL l):=z4u hl hz0
  have hd:=hd hz1
  have hdl:=hdl hz1
  generalize zgg a w (b-a+1).toNat=ds at *
  generalize rgL l=r at *
  repeat' ((conv=>whnf);first
  | refine Yz ?_
   | (apply zah.of;assumption)
   | (refine ha rfl hz ?_)
   | (refine In.enter (f:=zk5) g.lim rfl rfl ?_)
   | fail)
  refine zaj.to (zaj.by (σ:=Nat×List Int) g (fun u=>u.1<=ds.length/\u.2=yiy r s f c (ds.take u.1))
   (fun u=>[(1,.fn zdf [] [.ptr ⟨0,12,0⟩ 0 0,.ptr ⟨0,6,0⟩ 0 0,.ptr ⟨0,7,0⟩ 0 0,.ptr ⟨0,8,0⟩ 0 0]),(5,.ref ⟨1,5,0⟩ 0 u.2.length u.2.length),(8,LI ds),(9,I ds.length),(10,I u.1)])
   (fun u=>[(⟨0,6,0⟩,.cells zab [S s]),(⟨0,7,0⟩,.cells za6 [I f]),(⟨0,8,0⟩,.cells za6 [I c]),(⟨0,9,0⟩,.cells za8 [I a,I b,I w])]++mS 0 26 l r++[(⟨0,12,0⟩,.cells zbs [.ptr ⟨0,26,0⟩ 1 0]),(⟨1,4,0⟩,.row false za6 1 0 []),(⟨1,5,0⟩,.row false za6 1 u.2.length (u.2.map DI))])
   (fun u=>ds.length-u.1) ?_ (0,[]) ⟨Nat.zero_le _,rfl⟩) rfl rfl
  rintro⟨k,out⟩ ⟨i1,i2⟩ ih
  dsimp only at i1 i2 ih ⊢
  have hol:out.length<=401:=by
   rw [i2,yiy]
   refine Nat.le_trans (List.length_filter_le _ _) ?_
   rw [List.length_take];omega
  by_cases hlt:k<ds.length
  ·have hq1:=zz1 g zci l r ho s f ds[k]
   have hq2:=zz1 g zci l r ho s c ds[k]
   have ht:yiy r s f c (ds.take (k+1))=out++if decide (zmz r s f ds[k]≠zmz r s c ds[k]) then [ds[k]] else []:=by
    rw [i2,yiy,z1b _ _ _ hlt]
    rfl
   generalize zmz r s f ds[k]=y1 at *
   generalize zmz r s c ds[k]=y2 at *
   by_cases hy:y1=y2
   ·have ih:=ih (k+1,out) ⟨by dsimp only;omega,by dsimp only;rw [ht,hy];simp⟩ (by dsimp only;omega)
    repeat' ((conv=>whnf);first
    | refine Yz ?_
     | (refine zf3.iw k rfl hlt ?_)
     | (refine In.enter (f:=zdf) g.lim rfl rfl ?_)
     | (refine zmb.of (r':=I y1) [⟨0,26,0⟩,⟨0,26,1⟩,⟨0,26,2⟩,⟨0,26,3⟩,⟨0,26,4⟩] rfl rfl rfl rfl hq1 rfl rfl rfl ?_)
     | (refine zmb.of (r':=I y2) [⟨0,26,0⟩,⟨0,26,1⟩,⟨0,26,2⟩,⟨0,26,3⟩,⟨0,26,4⟩] rfl rfl rfl rfl hq2 rfl rfl rfl ?_)
     | (refine Cmp.ff (fun h=>h hy) ?_)
     | (refine zaj.to ih rfl rfl)
     | fail)
   ·have ih:=ih (k+1,out++[ds[k]]) ⟨by dsimp only;omega,by dsimp only;rw [ht,decide_eq_true hy];rfl⟩ (by dsimp only;omega)
    simp only [List.length_append,List.length_cons,List.length_nil,List.map_append,List.map_cons,List.map_nil] at ih
    repeat' ((conv=>whnf);first
    | refine Yz ?_
     | (refine zf3.iw k rfl hlt ?_)
     | (refine In.enter (f:=zdf) g.lim rfl rfl ?_)
     | (refine zmb.of (r':=I y1) [⟨0,26,0⟩,⟨0,26,1⟩,⟨0,26,2⟩,⟨0,26,3⟩,⟨0,26,4⟩] rfl rfl rfl rfl hq1 rfl rfl rfl ?_)
     | (refine zmb.of (r':=I y2) [⟨0,26,0⟩,⟨0,26,1⟩,⟨0,26,2⟩,⟨0,26,3⟩,⟨0,26,4⟩] rfl rfl rfl rfl hq2 rfl rfl rfl ?_)
     | (refine Cmp.tt hy ?_)
     | (refine zeb.mk ⟨rfl,rfl,rfl,rfl,rfl,by simp,by dsimp only;omega,by dsimp only;omega⟩ ?_)
     | (refine zaj.to ih rfl rfl)
     | fail)
  ·rw [List.take_of_length_le (by omega)] at i2
   rw [<-i2]
   repeat' ((conv=>whnf);first
   | refine Yz ?_
    | (refine zeb.mk ⟨rfl,by omega⟩ ?_)
    | (rw [if_pos ⟨rfl,rfl⟩];refine Ret.mk rfl)
    | (refine Ret.mk ?_)
    | fail)
   all_goals simp
 ·rw [if_neg hz]
  repeat' ((conv=>whnf);first
  | refine Yz ?_
   | (apply zah.of;assumption)
   | (refine hn rfl hz ?_)
   | (refine Cmp.ff hz ?_)
   | (refine Ret.mk rfl)
   | fail)
end
def okT:yo3->List yo3->Prop
 | _,[]=>True
 | b,t::ts=>b.kn<t.kn/\t.kn<=99999/\t.mi≠b.mi/\okT t ts
theorem z3z {α:Type} (p q:α->Bool) (f:α->Int):∀(l:List α) (a:Int),(∀x∈l,p x=q x)->l.foldl (fun o x=>if p x then f x else o) a=l.foldl (fun o x=>if q x then f x else o) a
 | [],_,_=>rfl
 | x::l,a,h=>by
  rw [List.foldl_cons,List.foldl_cons,h x (by simp)]
  exact z3z p q f l _ fun y hy=>h y (by simp [hy])
theorem ynu (r:Rgs) (e:Evt):(zqi r e).kn=vlN e 0:=by
 unfold zqi
 split
 ·rfl
 ·split
  ·rfl
  ·split<;>rfl
theorem z3l {α β:Type} {f:α->Option β} {p:β}:∀ {l:List α},(∀a∈l,f a=some p)->yfk f l=some (l.map fun _=>p)
 | [],_=>rfl
 | a::l,h=>by
  unfold yfk
  rw [h a (by simp),Option.bind_some,z3l fun b hb=>h b (by simp [hb])]
  rfl
theorem yb4 {α β:Type} {f:α->Option β} {p:α->β}:∀ {l:List α},(∀a∈l,f a=some (p a))->yfk f l=some (l.map p)
 | [],_=>rfl
 | a::l,h=>by
  unfold yfk
  rw [h a (by simp),Option.bind_some,yb4 fun b hb=>h b (by simp [hb])]
  rfl
theorem zt7 (sz:Nat):∀(n:Nat) (ds:List D),ds.length=n*sz->(zlk sz n ds).flatten=ds
 | 0,ds,h=>by
  have:ds=[]:=List.length_eq_zero_iff.1 (by omega)
  subst this
  rfl
 | n+1,ds,h=>by
  rw [Nat.succ_mul] at h
  rw [zlk,List.flatten_cons,zt7 sz n (ds.drop sz) (by rw [List.length_drop];omega),List.take_append_drop]
theorem zxw {run:Mem->Option (V×Mem)} {m:Mem} {o:Evl.Id} {a b c t n:Nat} {xs:List D} (hl:Evl.look m o=some (.bag t 1 n xs)) (hx:xs.length=n) (p:V×Mem)
  (hr:∀l:List D,l.Perm xs->run (upd m o (.row true t 1 n l))=some p) (hle:leM m p.2 (zl3 false m p.2)=true):zpi run m (.ref o a b c)=some (p.1,zl3 false m p.2):=by
 have hx1:xs.length=n*1:=by omega
 unfold zpi
 simp only [hl]
 rw [if_pos hx1,hr xs (List.Perm.refl _),Option.bind_some]
 have hall:yfk (fun l=>run (upd m o (.row true t 1 n l.flatten))) (z10 (zlk 1 n xs))=some ((z10 (zlk 1 n xs)).map fun _=>p):=by
  refine z3l fun l hl'=>hr _ ?_
  have h1:=(zp6 _ _).1 hl'
  have h2:=h1.flatten
  rwa [zt7 1 n xs hx1] at h2
 rw [hall,Option.bind_some]
 unfold z5f
 rw [if_pos]
 rw [List.all_eq_true]
 intro q hq
 obtain⟨_,_,rfl⟩:=List.mem_map.1 hq
 rw [zzq,hle]
 rfl
theorem z5q:∀e:Env,yk9 e e=true
 | []=>rfl
 | (t,v)::r=>by simp [yk9,zzq,z5q r]
theorem z4r {body:Env->Mem->Option (Ex×Env×Mem)} {cx:Cx} {it:Nat} {x:Opd} {out nxt pair:Nat} {live:List Nat} {e1:Env} {m1:Mem} {o:Evl.Id} {es:List (D×V)} (hx:x.ev e1= .mp o) (hl:Evl.look m1 o=some (.map es))
  {i:Evl.Id} {m2:Mem} {e2 e3:Env} (hi:Evl.newId cx it m1=i) (hm:upd (upd m1 i .gone) o .gone=m2) (he:only live (put e1 it (.it i))=e2) (R:List (D×V)->Mem)
  (hr:∀p,p.Perm es->zix body it i out nxt pair live (zmy m2) p e2 m2=some (.normal,e3,R p)) {mj:Mem} (hj:zl3 true m2 (R es)=mj) (hle:∀p,p.Perm es->leM m2 (R p) mj=true) (hg:Evl.look mj o=some .gone):
  zq9 body cx it x out nxt pair live e1 m1=some (.normal,e3,upd mj o (.map es)):=by
 subst hj
 unfold zq9
 simp only [hx,hl,hi,hm,he]
 unfold zvi
 simp only [hr es (List.Perm.refl _),Option.bind_some]
 have hall:yfk (fun p=>zix body it i out nxt pair live (zmy m2) p e2 m2) (z10 es)=some ((z10 es).map fun p=>(.normal,e3,R p)):=yb4 fun p hp=>hr p ((zp6 _ _).1 hp)
 rw [hall,Option.bind_some]
 unfold zx9
 rw [if_pos]
 ·simp only [Option.bind_some,z12,hg]
 ·rw [List.all_eq_true]
  intro q hq
  obtain⟨p,hp,rfl⟩:=List.mem_map.1 hq
  dsimp only
  rw [z5q,hle p ((zp6 _ _).1 hp)]
  rfl
theorem ycg:∀es:List (D×V),yjf es es=true
 | []=>rfl
 | (k,v)::r=>by simp [yjf,z18,zzq,ycg r]
inductive LeJ (m0:Mem):Mem->Mem->Prop
 | nil:LeJ m0 [] []
 | cells {i:Evl.Id} {t:Nat} {cs:List V} {r r':Mem} (h:LeJ m0 r r'):LeJ m0 ((i,.cells t cs)::r) ((i,.cells t cs)::r')
 | row {i:Evl.Id} {w:Bool} {t sz n:Nat} {xs:List D} {r r':Mem} (h:LeJ m0 r r'):LeJ m0 ((i,.row w t sz n xs)::r) ((i,.row w t sz n xs)::r')
 | gone {i:Evl.Id} {r r':Mem} (h:LeJ m0 r r'):LeJ m0 ((i,.gone)::r) ((i,.gone)::r')
 | map {i:Evl.Id} {es:List (D×V)} {r r':Mem} (he:yjf es es=true) (h:LeJ m0 r r'):LeJ m0 ((i,.map es)::r) ((i,.map es)::r')
 | loop {i:Evl.Id} {e e0:Env} {ps ps0:List Nat} {a b a0 b0:C} {lv lv0:Nat} {bu bu0 ov ov0:Bool} {j j0:Option yfo} {r r':Mem} (hl:Evl.look m0 i=some (.loop e0 ps0 a0 b0 lv0 bu0 ov0 j0)) (hj:ye3 j j=true) (h:LeJ m0 r r'):LeJ m0 ((i,.loop e ps a b lv bu ov j)::r) ((i,.loop e ps a b lv bu ov j)::r')
 | bag {i:Evl.Id} {t sz n:Nat} {xs ys:List D} {r r':Mem} (hb:yiw sz n ys xs=true) (h:LeJ m0 r r'):LeJ m0 ((i,.row true t sz n xs)::r) ((i,.bag t sz n ys)::r')
theorem LeJ.ok {m0 a b:Mem} (h:LeJ m0 a b):leM m0 a b=true:=by
 induction h with
 | nil=>rfl
 | cells h ih=>simp [leM,leO,znr,ih]
 | row h ih=>simp [leM,leO,zk8,ih]
 | gone h ih=>simp [leM,leO,ih]
 | map he h ih=>simp [leM,leO,he,ih]
 | loop hl hj h ih=>simp [leM,leO,hl,hj,z5q,ih]
 | bag hb h ih=>simp [leM,leO,hb,ih]
theorem z2e {x:List D}:∀ {l:List (List D)},x∈l->∃r,zvc x l=some r
 | y::r,h=>by
  unfold zvc
  by_cases e:zlr x y=true
  ·exact⟨r,if_pos e⟩
  ·rw [if_neg e]
   rcases List.mem_cons.1 h with rfl|h
   ·exact absurd (zk8 x) e
   ·obtain⟨q,hq⟩:=z2e h
    exact⟨y::q,by rw [hq];rfl⟩
theorem ydh:∀ {a b:List (List D)},a.Perm b->ya7 a b=true
 | [],b,h=>by
  have:=List.Perm.nil_eq h
  subst this
  rfl
 | x::r,b,h=>by
  have hx:x∈b:=h.subset (by simp)
  obtain⟨q,hq⟩:=z2e hx
  have h1:=zs2 x b q hq
  unfold ya7
  rw [hq]
  exact ydh ((List.perm_cons x).1 (h.trans h1))
theorem zxx:∀(l:List D),zlk 1 l.length l=l.map fun x=>[x]
 | []=>rfl
 | x::r=>by
  rw [List.length_cons,zlk,List.map_cons]
  have:=zxx r
  simp only [List.take_succ_cons,List.take_zero,List.drop_succ_cons,List.drop_zero]
  rw [this]
theorem yl0 {xs ys:List D} {n:Nat} (h:xs.Perm ys) (hn:ys.length=n):yiw 1 n xs ys=true:=by
 have hx:xs.length=n:=h.length_eq.trans hn
 unfold yiw
 subst hn
 rw [decide_eq_true (by omega),decide_eq_true (by omega),Bool.true_and,Bool.true_and]
 have e1:zlk 1 ys.length xs=xs.map fun x=>[x]:=by rw [<-hx];exact zxx xs
 rw [e1,zxx]
 exact ydh (h.map _)
abbrev zlm (ks:List (List UInt8)):List (D×V):=ks.map fun k=>(D.str k,B true)
theorem zq2:∀ks:List (List UInt8),Evl.idsM (zlm ks)=[]
 | []=>rfl
 | k::ks=>by
  unfold zlm
  rw [List.map_cons,Evl.idsM]
  exact(List.nil_append _).trans (zq2 ks)
abbrev mT (l:List Evt) (r:Rgs):Mem:=mS 0 17 l r++[(⟨1,6,0⟩,.row false zb4 2 0 [])]
abbrev mZ (l:List Evt) (r:Rgs) (ks:List (List UInt8)):Mem:=mT l r++[(⟨1,14,0⟩,.map (zlm ks)),(⟨1,10,0⟩,.row false zb4 2 0 []),(⟨1,29,0⟩,.cells zda [.mp ⟨1,14,0⟩])]
abbrev lpK:Ob:= .loop [(2,.ptr ⟨4,2,0⟩ 0 0),(4,.ref ⟨4,4,0⟩ 0 0 0),(6,.fn zag [] [.ptr ⟨1,29,0⟩ 0 0])] [7] zei zej 4 false false none
abbrev mR0 (l:List Evt) (r:Rgs):Mem:=mT l r++[(⟨1,14,0⟩,.gone),(⟨1,10,0⟩,.row false zb4 2 0 []),(⟨1,29,0⟩,.cells zda [.mp ⟨1,14,0⟩]),(⟨2,2,0⟩,.row true zab 1 0 []),(⟨3,2,0⟩,.row true zab 1 0 []),(⟨4,2,0⟩,.cells zqh [.d .nil]),(⟨4,4,0⟩,.row true zab 1 0 []),(⟨4,14,0⟩,lpK),(⟨5,5,0⟩,.gone)]
abbrev mR1 (l:List Evt) (r:Rgs) (us:List (List UInt8)) (last:Ob):Mem:=mT l r++[(⟨1,14,0⟩,.gone),(⟨1,10,0⟩,.row false zb4 2 0 []),(⟨1,29,0⟩,.cells zda [.mp ⟨1,14,0⟩]),(⟨2,2,0⟩,.row true zab 1 0 []),(⟨3,2,0⟩,.row true zab 1 0 []),(⟨4,2,0⟩,.cells zqh [.ref ⟨4,11,0⟩ 0 us.length us.length]),(⟨4,4,0⟩,.row true zab 1 0 []),(⟨4,14,0⟩,lpK),(⟨5,5,0⟩,.gone),(⟨4,11,0⟩,last)]
abbrev yln (us:List (List UInt8)):Ob:= .row true zab 1 us.length (us.map D.str)
abbrev eK:Env:=[(0,.yld ⟨4,14,0⟩),(5,.it ⟨5,5,0⟩)]
section
variable {E : Oracle} (g : Good E)
include g
abbrev bdK (E:Oracle):Env->Mem->Option (Ex×Env×Mem):=fun e m=>(ziw E ⟨5,6⟩ [xq 9 8 0,mq 3 9] e m).bind fun q=>evC E ⟨5,6⟩ zbz (zdi [8,9] q.1) q.2
omit g in
theorem yk5 {e:Env} {m:Mem} {K:Ex->Env->Mem->Prop} (h:Evl.wpOps E ⟨5,6⟩ [xq 9 8 0,mq 3 9] e m fun e' m'=>wpC E ⟨5,6⟩ zbz (zdi [8,9] e') m' K):∃x e' m',bdK E e m=some (x,e',m')/\K x e' m':=by
 obtain⟨p,h1,h2⟩:=Evl.wpOps_ok _ _ _ _ h
 obtain⟨x,e',m',h3,h4⟩:=Evl.wpC_ok _ _ _ _ h2
 exact⟨x,e',m',by unfold bdK;rw [h1,Option.bind_some];exact h3,h4⟩
theorem yop (l:List Evt) (r:Rgs) (k:List UInt8):∃x e' m',bdK E (put eK 8 (.tup [S k,B true])) (mR0 l r)=some (x,e',m')/\(x= .normal/\zsl (get e' 5) (.it ⟨5,5,0⟩)=true/\only [0,5] e'=eK/\gc (zmy (mR0 l r)) eK m'=mR1 l r [k] (yln [k])):=by
 refine yk5 ?_
 repeat' ((conv=>whnf);first
 | refine Yz ?_
  | (refine Rnd.enter g.lim ?_)
  | (refine zeb.mk ⟨by decide,rfl,by decide,by decide⟩ ?_)
  | (exact⟨rfl,rfl,rfl,rfl⟩)
  | fail)
theorem yoq (l:List Evt) (r:Rgs) (us:List (List UInt8)) (hu:us.length<=1000000) (k:List UInt8):∃x e' m',bdK E (put eK 8 (.tup [S k,B true])) (mR1 l r us (yln us))=some (x,e',m')/\(x= .normal/\zsl (get e' 5) (.it ⟨5,5,0⟩)=true/\only [0,5] e'=eK/\gc (zmy (mR0 l r)) eK m'=mR1 l r (us++[k]) (yln (us++[k]))):=by
 refine yk5 ?_
 repeat' ((conv=>whnf);first
 | refine Yz ?_
  | (refine Rnd.enter g.lim ?_)
  | (refine zeb.mk ⟨rfl,rfl,rfl,rfl,rfl,rfl,by dsimp only;omega,by first |omega|(dsimp only;omega)⟩ ?_)
  | (refine⟨rfl,rfl,rfl,?_⟩)
  | fail)
 simp only [mR1,yln,List.length_append,List.length_cons,List.length_nil,List.map_append,List.map_cons,List.map_nil]
 rfl
theorem yh3 (l:List Evt) (r:Rgs):∀(ps us:List (List UInt8)),us.length+ps.length<=1000000->zix (bdK E) 5 ⟨5,5,0⟩ 0 1 8 [0,5] (zmy (mR0 l r)) (zlm ps) eK (mR1 l r us (yln us))=some (.normal,eK,mR1 l r (us++ps) (yln (us++ps)))
 | [],us,_=>by
  rw [List.append_nil]
  rfl
 | p::ps,us,h=>by
  rw [List.length_cons] at h
  obtain⟨x,e',m',h1,rfl,h2,h3,h4⟩:=yoq g l r us (by omega) p
  unfold zlm
  rw [List.map_cons,zix,h1,Option.bind_some]
  unfold zkk
  dsimp only [Ex.on]
  rw [if_pos h2,h3,h4]
  have:=yh3 l r ps (us++[p]) (by rw [List.length_append,List.length_singleton];omega)
  rw [List.append_assoc] at this
  exact this
theorem ym6 (l:List Evt) (r:Rgs) (p:List UInt8) (ps:List (List UInt8)) (hl:ps.length<=100000):zix (bdK E) 5 ⟨5,5,0⟩ 0 1 8 [0,5] (zmy (mR0 l r)) (zlm (p::ps)) eK (mR0 l r)=some (.normal,eK,mR1 l r (p::ps) (yln (p::ps))):=by
 obtain⟨x,e',m',h1,rfl,h2,h3,h4⟩:=yop g l r p
 unfold zlm
 rw [List.map_cons,zix,h1,Option.bind_some]
 unfold zkk
 dsimp only [Ex.on]
 rw [if_pos h2,h3,h4]
 exact yh3 g l r ps [p] (by simp;omega)
omit g in
theorem z7z {ks:List (List UInt8)} {p:List (D×V)} (h:p.Perm (zlm ks)):∃us:List (List UInt8),p=zlm us/\us.Perm ks:=by
 refine⟨p.map fun e=>match e.1 with
  | .str s=>s
  | _=>[],?_,?_⟩
 ·unfold zlm
  rw [List.map_map]
  symm
  have:∀x∈p,((fun k=>(D.str k,B true))∘fun e:D×V=>match e.1 with
   | .str s=>s
   | _=>[]) x=x:=fun x hx=>by
   have:=h.subset hx
   obtain⟨k,_,rfl⟩:=List.mem_map.1 this
   rfl
  calc List.map _ p=List.map id p:=List.map_congr_left this
   _=p:=List.map_id p
 ·have h1:=h.map fun e:D×V=>match e.1 with
   | .str s=>s
   | _=>[]
  refine h1.trans ?_
  unfold zlm
  rw [List.map_map]
  have:List.map ((fun e:D×V=>match e.1 with
   | .str s=>s
   | _=>[])∘fun k=>(D.str k,B true)) ks=ks:=by
   calc _=List.map id ks:=List.map_congr_left fun _ _=>rfl
    _=ks:=List.map_id ks
  rw [this]
abbrev mK1 (l:List Evt) (r:Rgs) (ks:List (List UInt8)):Mem:=mT l r++[(⟨1,14,0⟩,.map (zlm ks)),(⟨1,10,0⟩,.row false zb4 2 0 []),(⟨1,29,0⟩,.cells zda [.mp ⟨1,14,0⟩]),(⟨2,2,0⟩,.row true zab 1 0 []),(⟨3,2,0⟩,.row true zab 1 0 []),(⟨4,2,0⟩,.cells zqh [.d .nil]),(⟨4,4,0⟩,.row true zab 1 0 []),(⟨4,14,0⟩,lpK)]
abbrev mRn (l:List Evt) (r:Rgs) (mp:Ob) (n:Nat) (last:Ob):Mem:=mT l r++[(⟨1,14,0⟩,mp),(⟨1,10,0⟩,.row false zb4 2 0 []),(⟨1,29,0⟩,.cells zda [.mp ⟨1,14,0⟩]),(⟨2,2,0⟩,.row true zab 1 0 []),(⟨3,2,0⟩,.row true zab 1 0 []),(⟨4,2,0⟩,.cells zqh [.ref ⟨4,11,0⟩ 0 n n]),(⟨4,4,0⟩,.row true zab 1 0 []),(⟨4,14,0⟩,lpK),(⟨5,5,0⟩,.gone),(⟨4,11,0⟩,last)]
abbrev e1K:Env:=[(0,.yld ⟨4,14,0⟩),(1,.ptr ⟨1,29,0⟩ 0 0),(4,.mp ⟨1,14,0⟩)]
theorem ypo (l:List Evt) (r:Rgs) (k:List UInt8) (kr:List (List UInt8)) (hl:kr.length<=100000):
  zq9 (bdK E) ⟨5,6⟩ 5 (.t 4) 0 1 8 [0,5] e1K (mK1 l r (k::kr))=some (.normal,eK,mRn l r (.map (zlm (k::kr))) (kr.length+1) (.bag zab 1 (kr.length+1) ((k::kr).map D.str))):=by
 have hj:zl3 true (mR0 l r) (mRn l r .gone (kr.length+1) (.row true zab 1 (kr.length+1) ((k::kr).map D.str)))=mRn l r .gone (kr.length+1) (.bag zab 1 (kr.length+1) ((k::kr).map D.str)):=by
  simp [zl3,yix,z9y,Evl.look]
 refine(z4r (o:=⟨1,14,0⟩) (es:=zlm (k::kr)) rfl rfl (i:=⟨5,5,0⟩) (m2:=mR0 l r) (e2:=eK) (e3:=eK) rfl rfl rfl
  (fun p=>mRn l r .gone (kr.length+1) (.row true zab 1 (kr.length+1) (p.map fun e=>e.1))) (fun p hp=> ?_) (mj:=mRn l r .gone (kr.length+1) (.bag zab 1 (kr.length+1) ((k::kr).map D.str))) ?_ (fun p hp=> ?_) rfl).trans rfl
 ·obtain⟨us,rfl,hu⟩:=z7z hp
  have hul:us.length=kr.length+1:=hu.length_eq
  obtain⟨a,b,rfl⟩:∃a b,us=a::b:=List.exists_cons_of_ne_nil (by rintro rfl;simp at hul)
  rw [ym6 g l r a b (by simp at hul;omega)]
  dsimp only [mR1,yln]
  rw [hul]
  have:(zlm (a::b)).map (fun e=>e.1)=(a::b).map D.str:=by
   unfold zlm
   rw [List.map_map]
   rfl
  rw [this]
 ·have:(zlm (k::kr)).map (fun e=>e.1)=(k::kr).map D.str:=by
   unfold zlm
   rw [List.map_map]
   rfl
  rw [this]
  exact hj
 ·obtain⟨us,rfl,hu⟩:=z7z hp
  have:(zlm us).map (fun e=>e.1)=us.map D.str:=by
   unfold zlm
   rw [List.map_map]
   rfl
  rw [this]
  have hb:yiw 1 (kr.length+1) ((k::kr).map D.str) (us.map D.str)=true:=yl0 (hu.symm.map _) (by rw [List.length_map];exact hu.length_eq)
  exact LeJ.ok (.cells<| .row<| .row<| .row<| .row<| .row<| .gone<| .row<| .cells<| .row<| .row<| .cells<| .row<| .loop rfl rfl<| .gone<| .bag hb .nil)
omit g in
theorem yn8 (l:List Evt) (r:Rgs):zq9 (bdK E) ⟨5,6⟩ 5 (.t 4) 0 1 8 [0,5] e1K (mK1 l r [])=some (.normal,eK,mK1 l r []++[(⟨5,5,0⟩,.gone)]):=by
 have hj:zl3 true (mR0 l r) (mR0 l r)=mR0 l r:=by
  simp [zl3,yix,z9y,Evl.look]
 refine(z4r (o:=⟨1,14,0⟩) (es:=[]) rfl rfl (i:=⟨5,5,0⟩) (m2:=mR0 l r) (e2:=eK) (e3:=eK) rfl rfl rfl (fun _=>mR0 l r) (fun p hp=> ?_) (mj:=mR0 l r) hj (fun p hp=> ?_) rfl).trans rfl
 ·have:=hp.symm.nil_eq
  subst this
  rfl
 ·exact LeJ.ok (.cells<| .row<| .row<| .row<| .row<| .row<| .gone<| .row<| .cells<| .row<| .row<| .cells<| .row<| .loop rfl rfl<| .gone .nil)
abbrev mA3 (l:List Evt) (r:Rgs) (ks:List (List UInt8)) (last:Ob):Mem:=mZ l r ks++[(⟨2,2,0⟩,.row true zab 1 0 []),(⟨2,5,0⟩,last)]
omit g in
theorem yio {ks:List (List UInt8)} {p:List D} (h:p.Perm (ks.map D.str)):∃us:List (List UInt8),p=us.map D.str/\us.Perm ks:=by
 refine⟨p.map fun e=>match e with
  | .str s=>s
  | _=>[],?_,?_⟩
 ·rw [List.map_map]
  symm
  have:∀x∈p,(D.str∘fun e:D=>match e with
   | .str s=>s
   | _=>[]) x=x:=fun x hx=>by
   have:=h.subset hx
   obtain⟨k,_,rfl⟩:=List.mem_map.1 this
   rfl
  calc List.map _ p=List.map id p:=List.map_congr_left this
   _=p:=List.map_id p
 ·have h1:=h.map fun e:D=>match e with
   | .str s=>s
   | _=>[]
  refine h1.trans ?_
  rw [List.map_map]
  have:List.map ((fun e:D=>match e with
   | .str s=>s
   | _=>[])∘D.str) ks=ks:=by
   calc _=List.map id ks:=List.map_congr_left fun _ _=>rfl
    _=ks:=List.map_id ks
  rw [this]
omit g in
theorem z40 {a b:List (List UInt8)} (h:a.Perm b):zju a=zju b:=by
 have hanti:∀x y:List UInt8,zap y x=false->zap x y=false->x=y:=by
  intro x
  induction x with
  | nil=>intro y _ h2;cases y with
   | nil=>rfl
   | cons=>simp [zap] at h2
  | cons c x ih=>intro y h1 h2;cases y with
   | nil=>simp [zap] at h1
   | cons d y=>
    simp only [zap,Bool.or_eq_false_iff,decide_eq_false_iff_not,Bool.and_eq_false_iff,beq_eq_false_iff_ne,ne_eq,UInt8.not_lt] at h1 h2
    have e:c=d:=UInt8.le_antisymm h1.1 h2.1
    subst e
    rw [ih y (h1.2.resolve_left (fun h=>h rfl)) (h2.2.resolve_left (fun h=>h rfl))]
 exact List.Perm.eq_of_pairwise (le:=fun x y=>zap y x=false) (fun x y _ _ h1 h2=>hanti x y h1 h2) (zlt a) (zlt b) ((zdh a).trans (h.trans (zdh b).symm))
theorem ynb (hx:ext n_slices_Sort_Lstring_string=some sortXS) (l:List Evt) (r:Rgs) (ks:List (List UInt8)) (n slot:Nat) (hn:ks.length=n) (h0:n≠0) (hb:n<=100000):
  zpi (fun m=>zko E ⟨2,3⟩ slot true true (.fn n_slices_Sort_Lstring_string [] []) [.ref ⟨2,5,0⟩ 0 n n] m) (mA3 l r ks (.bag zab 1 n (ks.map D.str))) (.ref ⟨2,5,0⟩ 0 n n)=some (.tup [],mA3 l r ks (.row true zab 1 n ((zju ks).map D.str))):=by
 have hj:zl3 false (mA3 l r ks (.bag zab 1 n (ks.map D.str))) (mA3 l r ks (.row true zab 1 n ((zju ks).map D.str)))=mA3 l r ks (.row true zab 1 n ((zju ks).map D.str)):=by
  simp [zl3,z9y]
 refine(zxw (n:=n) (xs:=ks.map D.str) rfl (by rw [List.length_map];exact hn) (.tup [],mA3 l r ks (.row true zab 1 n ((zju ks).map D.str))) (fun p hp=> ?_) ?_).trans (by rw [hj])
 ·obtain⟨us,rfl,hu⟩:=yio hp
  have hul:us.length=n:=hu.length_eq.trans hn
  have key:Evl.callW E ⟨2,3⟩ slot true true (.fn n_slices_Sort_Lstring_string [] []) [.ref ⟨2,5,0⟩ 0 n n] (mA3 l r ks (.row true zab 1 n (us.map D.str))) fun v m=>v= .tup []/\m=mA3 l r ks (.row true zab 1 n ((zju ks).map D.str)):=by
   repeat' ((conv=>whnf);first
   | refine Yz ?_
    | (simp only [Evl.idsAll,Evl.idsO,zq2,List.nil_append])
    | (refine In.extern (v:= .tup []) (m':=mA3 l r ks (.row true zab 1 n ((zju ks).map D.str))) g.lim hx ?_ ?_)
    | (exact⟨rfl,rfl⟩)
    | (exact⟨trivial,rfl⟩)
    | fail)
   rw [<-z40 hu]
   show (if n=0/\n=0/\n=0 then some (V.tup [],mA3 l r ks (.row true zab 1 n (us.map D.str))) else if n=n/\n=n/\n≠0/\n<4611686018427387904 then(match Evl.strsOf (us.map D.str) with
    | some zs=>some (V.tup [],upd (mA3 l r ks (.row true zab 1 n (us.map D.str))) ⟨2,5,0⟩ (.row true zab 1 n ((zju zs).map D.str)))
    | none=>none) else none)=_
   rw [if_neg (fun h=>h0 h.1),if_pos ⟨rfl,rfl,h0,by omega⟩,z43]
   rfl
  obtain⟨q,h1,h2,h3⟩:=Evl.callW_ok key
  have:(q:V×Mem)=(.tup [],mA3 l r ks (.row true zab 1 n ((zju ks).map D.str))):=Prod.ext h2 h3
  rw [<-this]
  exact h1
 ·rw [hj]
  exact LeJ.ok (.cells<| .row<| .row<| .row<| .row<| .row<| .map (ycg _)<| .row<| .cells<| .row<| .row .nil)
theorem yks (hx:ext n_slices_Sort_Lstring_string=some sortXS) (l:List Evt) (r:Rgs) (slot:Nat):
  zpi (fun m=>zko E ⟨2,3⟩ slot true true (.fn n_slices_Sort_Lstring_string [] []) [.d .nil] m) (mZ l r []++[(⟨2,2,0⟩,.row true zab 1 0 [])]) (.d .nil)=some (.tup [],mZ l r []++[(⟨2,2,0⟩,.row true zab 1 0 [])]):=by
 have key:Evl.callW E ⟨2,3⟩ slot true true (.fn n_slices_Sort_Lstring_string [] []) [.d .nil] (mZ l r []++[(⟨2,2,0⟩,.row true zab 1 0 [])]) fun v m=>v= .tup []/\m=mZ l r []++[(⟨2,2,0⟩,.row true zab 1 0 [])]:=by
  repeat' ((conv=>whnf);first
  | refine Yz ?_
   | (refine In.extern (v:= .tup []) (m':=mZ l r []++[(⟨2,2,0⟩,.row true zab 1 0 [])]) g.lim hx rfl ?_)
   | (exact⟨rfl,rfl⟩)
   | (exact⟨trivial,rfl⟩)
   | fail)
 obtain⟨q,h1,h2,h3⟩:=Evl.callW_ok key
 have:(q:V×Mem)=(.tup [],mZ l r []++[(⟨2,2,0⟩,.row true zab 1 0 [])]):=Prod.ext h2 h3
 rw [<-this]
 exact h1
theorem z8c (hx:ext n_slices_Sort_Lstring_string=some sortXS) (l:List Evt) (r:Rgs) (ks:List (List UInt8)) (hl:ks.length<=1000) {slot:Nat} {K:V->Mem->Prop} (hK0:ks=[]->K (.d .nil) (mZ l r ks)) (hK:ks≠[]->K (Ws (zju ks)) (mZ l r ks)):
  In E 2 zey [.fn zag [] [.ptr ⟨1,29,0⟩ 0 0]] (mZ l r ks) fun v m'=>z5e ⟨1,2⟩ slot true v m' K:=by
 refine In.enter (f:=zey) g.lim rfl rfl ?_
 have hs:=(zdh ks).length_eq
 cases ks with
 | nil=>
  have h0:=yn8 (E:=E) l r
  have hK:=hK0 rfl
  repeat' ((conv=>whnf);first
  | refine Yz ?_
   | (refine In.enter (f:=zd8) g.lim rfl rfl ?_)
   | (refine In.enter (f:=zb7) g.lim rfl rfl ?_)
   | (refine In.enter (f:=zag) g.lim rfl rfl ?_)
   | (refine⟨_,_,_,h0,?_⟩)
   | (refine z0d.mk ⟨(.d .nil,mZ l r []++[(⟨2,2,0⟩,.row true zab 1 0 []),(⟨3,2,0⟩,.row true zab 1 0 [])]),rfl,?_⟩)
   | (refine z0d.mk ⟨(.d .nil,mZ l r []++[(⟨2,2,0⟩,.row true zab 1 0 [])]),rfl,?_⟩)
   | (refine⟨_,yks g hx l r 7,?_⟩)
   | (exact hK)
   | fail)
 | cons k kr=>
  have h1:=ypo g l r k kr (by simp at hl;omega)
  have hK:=hK (by simp)
  rw [Ws,hs,List.length_cons] at hK
  repeat' ((conv=>whnf);first
  | refine Yz ?_
   | (simp only [Evl.idsAll,Evl.idsO,zq2,List.nil_append])
   | (refine In.enter (f:=zd8) g.lim rfl rfl ?_)
   | (refine In.enter (f:=zb7) g.lim rfl rfl ?_)
   | (refine In.enter (f:=zag) g.lim rfl rfl ?_)
   | (refine⟨_,_,_,h1,?_⟩)
   | (refine z0d.mk ⟨(.ref ⟨3,4,0⟩ 0 (kr.length+1) (kr.length+1),mZ l r (k::kr)++[(⟨2,2,0⟩,.row true zab 1 0 []),(⟨3,2,0⟩,.row true zab 1 0 []),(⟨3,4,0⟩,.bag zab 1 (kr.length+1) ((k::kr).map D.str))]),rfl,?_⟩)
   | (refine z0d.mk ⟨(.ref ⟨2,5,0⟩ 0 (kr.length+1) (kr.length+1),mA3 l r (k::kr) (.bag zab 1 (kr.length+1) ((k::kr).map D.str))),rfl,?_⟩)
   | (refine⟨_,ynb g hx l r (k::kr) (kr.length+1) 7 rfl (by omega) (by simp at hl;omega),?_⟩)
   | (refine zeb.mk ⟨rfl,by omega⟩ ?_)
   | (exact hK)
   | (simp only [and_self,if_true];exact hK)
   | fail)
end
structure Slt where
 sr:List UInt8
 mi:Int
def Slt.cells (t:Slt):List D:=[.str t.sr,DI t.mi]
theorem yp2 (t:Slt):t.cells.length=2:=rfl
abbrev LS2 (l:List Slt):V:= .d (.list l.length (l.flatMap Slt.cells))
def z3k (ks:List (List UInt8)) (s:List UInt8):List (List UInt8):=if s∈ks then ks else ks++[s]
def srK (es:List Ent):List (List UInt8):=es.foldl (fun ks x=>z3k ks x.sr) []
theorem yd0 (es:List Ent) (k:Nat) (h:k<es.length):srK (es.take (k+1))=z3k (srK (es.take k)) es[k].sr:=by
 unfold srK
 rw [List.take_succ_eq_append_getElem h,List.foldl_append]
 rfl
theorem yb2 (ks:List (List UInt8)) (s:List UInt8):(z3k ks s).length<=ks.length+1:=by
 unfold z3k
 split
 ·omega
 ·simp
theorem yik (es:List Ent):(srK es).length<=es.length:=by
 have key:∀(es:List Ent) (ks:List (List UInt8)),(es.foldl (fun ks x=>z3k ks x.sr) ks).length<=ks.length+es.length:=by
  intro es
  induction es with
  | nil=>intro ks;simp
  | cons x es ih=>
   intro ks
   rw [List.foldl_cons]
   have:=ih (z3k ks x.sr)
   have:=yb2 ks x.sr
   simp only [List.length_cons];omega
 have:=key es []
 simpa [srK] using this
theorem z9e (s:List UInt8):∀ks:List (List UInt8),Evl.setE (.str s) (B true) (zlm ks)=some (zlm (z3k ks s))
 | []=>rfl
 | q::ks=>by
  unfold zlm
  rw [List.map_cons,Evl.setE]
  have he:Evl.eqD (.str s) (.str q)=some (s==q):=rfl
  simp only [he]
  by_cases e:s=q
  ·subst e
   simp [z3k]
  ·have:(s==q)=false:=beq_eq_false_iff_ne.2 e
   rw [this]
   dsimp only
   have ih:=z9e s ks
   unfold zlm at ih
   rw [ih]
   by_cases hm:s∈ks
   ·simp [z3k,hm]
   ·have:¬s∈q::ks:=by simp [e,hm]
    simp [z3k,hm,this]
def ykq (r:Rgs) (kn d:Int) (ks:List (List UInt8)):List Slt:=(ks.filter fun s=>decide (zmz r s kn d≠1440)).map fun s=>⟨s,zmz r s kn d⟩
theorem z74 (p:List UInt8->Bool) (l:List (List UInt8)) (k:Nat) (h:k<l.length):(l.take (k+1)).filter p=(l.take k).filter p++if p l[k] then [l[k]] else []:=z1b p l k h
def z9j (r:Rgs) (kn d:Int):List Slt:=ykq r kn d (zju (srK r.es))
section
variable {E : Oracle} (g : Good E)
include g
theorem yjm (hx:ext n_slices_Sort_Lstring_string=some sortXS) (l:List Evt) (r:Rgs) (ho:OkR r) (kn d:Int) {slot:Nat} {K:V->Mem->Prop} (hK:K (LS2 (z9j r kn d)) (mS 0 17 l r)):
  In E 1 zc6 [.ptr ⟨0,17,0⟩ 1 0,I kn,I d] (mS 0 17 l r) fun v m'=>z5e ⟨0,1⟩ slot true v m' K:=by
 have hes:=ho.es
 have hml:(r.es.flatMap Ent.cells).length=r.es.length*8:=zaf Ent.cells 8 zwf r.es
 refine In.enter (f:=zc6) g.lim rfl rfl ?_
 repeat' ((conv=>whnf);first
 | refine Yz ?_
  | fail)
 refine zaj.to (zaj.up g (fun k=>[(0,.ptr ⟨0,17,0⟩ 1 0),(1,I kn),(2,I d),(7,.mp ⟨1,14,0⟩),(18,.ref ⟨0,17,2⟩ 0 r.es.length r.es.length),(19,I r.es.length),(20,I k)])
  (fun k=>mT l r++[(⟨1,14,0⟩,.map (zlm (srK (r.es.take k))))]) r.es.length (fun k hk ih=> ?_) 0 (Nat.zero_le _)) rfl rfl
 by_cases hlt:k<r.es.length
 ·have ih:=ih hlt
  rw [yd0 r.es k hlt] at ih
  have hwin:win (r.es.flatMap Ent.cells) ((0+((k:Nat):Int).toNat)*8) 8=r.es[k].cells:=by
   rw [Nat.zero_add,Int.toNat_natCast]
   exact zfj Ent.cells 8 zwf r.es k hlt
  have hse:=z9e r.es[k].sr (srK (r.es.take k))
  repeat' ((conv=>whnf);first
  | refine Yz ?_
   | (rw [hwin])
   | (refine ypf.mk ⟨_,hse,?_⟩)
   | (simp only [Evl.idsAll,Evl.idsO,zq2,List.nil_append])
   | (refine zaj.to ih rfl rfl)
   | fail)
 clear ih
 rw [List.take_of_length_le (by omega)]
 have hkl:(srK r.es).length<=256:=Nat.le_trans (yik r.es) hes
 unfold z9j at hK
 generalize srK r.es=ks at *
 have hsl:=(zdh ks).length_eq
 by_cases hks:ks=[]
 ·subst hks
  repeat' ((conv=>whnf);first
  | refine Yz ?_
   | (refine In.enter (f:=zbm) g.lim rfl rfl ?_)
   | (refine z0d.mk ⟨(.fn zag [] [.ptr ⟨1,29,0⟩ 0 0],mZ l r []),rfl,?_⟩)
   | (refine z8c g hx l r [] (by simp) (slot:=30) (fun _=> ?_) (fun h=>absurd rfl h))
   | (refine zaj.step g.lim ?_)
   | (refine zeb.mk ⟨rfl,by omega⟩ ?_)
   | (exact hK)
   | fail)
 ·repeat' ((conv=>whnf);first
 | refine Yz ?_
   | (simp only [Evl.idsAll,Evl.idsO,zq2,List.nil_append])
   | (refine In.enter (f:=zbm) g.lim rfl rfl ?_)
   | (refine z0d.mk ⟨(.fn zag [] [.ptr ⟨1,29,0⟩ 0 0],mZ l r ks),rfl,?_⟩)
   | (refine z8c g hx l r ks (by omega) (slot:=30) (fun h=>absurd h hks) (fun _=> ?_))
   | fail)
  generalize zju ks=ss at *
  refine zaj.to (zaj.by (σ:=Nat×List Slt) g (fun u=>u.1<=ss.length/\u.2=ykq r kn d (ss.take u.1))
   (fun u=>[(0,.ptr ⟨0,17,0⟩ 1 0),(1,I kn),(2,I d),(10,.ref ⟨1,10,0⟩ 0 u.2.length u.2.length),(30,Ws ss),(31,I ss.length),(32,I u.1)])
   (fun u=>mT l r++[(⟨1,14,0⟩,.map (zlm ks)),(⟨1,10,0⟩,.row false zb4 2 u.2.length (u.2.flatMap Slt.cells)),(⟨1,29,0⟩,.cells zda [.mp ⟨1,14,0⟩])])
   (fun u=>ss.length-u.1) ?_ (0,[]) ⟨Nat.zero_le _,rfl⟩) rfl rfl
  rintro⟨k,out⟩ ⟨i1,i2⟩ ih
  dsimp only at i1 i2 ih ⊢
  have hmo:(out.flatMap Slt.cells).length=out.length*2:=zaf Slt.cells 2 yp2 out
  have hol:out.length<=256:=by
   rw [i2,ykq,List.length_map]
   refine Nat.le_trans (List.length_filter_le _ _) ?_
   rw [List.length_take];omega
  by_cases hlt:k<ss.length
  ·have hq:=zz1 g zci l r ho ss[k] kn d
   have ht:ykq r kn d (ss.take (k+1))=out++(if decide (zmz r ss[k] kn d≠1440) then [ss[k]] else []).map fun s=>(⟨s,zmz r s kn d⟩:Slt):=by
    rw [i2,ykq,z74 _ _ _ hlt,List.map_append]
    rfl
   have hpk:∀ {K:D->Prop},K (.str ss[k])->zf3 (ss.map D.str) (((k:Nat):Int).toNat*1) K:=fun h=>zf3.ws k rfl hlt h
   by_cases hy:zmz r ss[k] kn d=1440
   ·have ih:=ih (k+1,out) ⟨by dsimp only;omega,by dsimp only;rw [ht,if_neg (by simp [hy])];simp⟩ (by dsimp only;omega)
    rw [hy] at hq
    generalize ss[k]=s at *
    repeat' ((conv=>whnf);first
    | refine Yz ?_
     | (simp only [Evl.idsAll,Evl.idsO,zq2,List.nil_append])
     | (refine hpk ?_)
     | (refine zmb.of (r':=I 1440) [⟨0,17,0⟩,⟨0,17,1⟩,⟨0,17,2⟩,⟨0,17,3⟩,⟨0,17,4⟩] rfl rfl rfl rfl hq rfl rfl rfl ?_)
     | (refine Cmp.tt rfl ?_)
     | (refine zaj.to ih rfl rfl)
     | fail)
   ·have ih:=ih (k+1,out++[⟨ss[k],zmz r ss[k] kn d⟩]) ⟨by dsimp only;omega,by dsimp only;rw [ht,if_pos (decide_eq_true hy)];rfl⟩ (by dsimp only;omega)
    simp only [List.length_append,List.length_cons,List.length_nil,List.flatMap_append,List.flatMap_cons,List.flatMap_nil] at ih
    generalize ss[k]=s at *
    generalize zmz r s kn d=y at *
    repeat' ((conv=>whnf);first
    | refine Yz ?_
     | (simp only [Evl.idsAll,Evl.idsO,zq2,List.nil_append])
     | (refine hpk ?_)
     | (refine zmb.of (r':=I y) [⟨0,17,0⟩,⟨0,17,1⟩,⟨0,17,2⟩,⟨0,17,3⟩,⟨0,17,4⟩] rfl rfl rfl rfl hq rfl rfl rfl ?_)
     | (refine Cmp.tt rfl ?_)
     | (refine Cmp.ff hy ?_)
     | (refine Cmp.ff (fun h=>hy h.2) ?_)
     | (refine Cmp.ff (fun h=>hy h.2.1) ?_)
     | (refine zeb.mk ⟨rfl,rfl,rfl,rfl,rfl,rfl,by dsimp only;omega,by first |omega|(dsimp only;omega)⟩ ?_)
     | (refine zaj.to ih rfl rfl)
     | fail)
  ·rw [List.take_of_length_le (by omega)] at i2
   rw [<-i2] at hK
   repeat' ((conv=>whnf);first
   | refine Yz ?_
    | (refine zeb.mk ⟨rfl,by omega⟩ ?_)
    | (refine zeb.mk ⟨trivial,trivial⟩ ?_)
    | (simp only [and_self,if_true];exact hK)
    | fail)
def erS (l:List Evt) (kn d:Int):Int:=zao [erL l,zao [rng kn 0 99999,rng d 0 99999]]
theorem yor (hx:ext n_slices_Sort_Lstring_string=some sortXS) (l:List Evt) (hl:l.length<=1000) (hb:∀e∈l,e.ns.length<=1000000/\e.vs.length<=1000000) (kn d:Int):
  Fc E zm0 [LE l,I kn,I d] (.tup [if erS l kn d=0 then LS2 (z9j (rgL l) kn d) else LS2 [],I (erS l kn d)]):=by
 refine g.fn rfl rfl ?_
 have h2:=z4w g kn
 have h3:=z4w g d
 have ha:=@zf2.asked E g l hl hb [rng kn 0 99999,rng d 0 99999] (by simp)
 have hn:=@zf2.askedNo E g l hl hb [rng kn 0 99999,rng d 0 99999] (by simp)
 unfold erS
 generalize rng kn 0 99999=b at *
 generalize rng d 0 99999=c at *
 by_cases hz:zao [erL l,zao [b,c]]=0
 ·rw [if_pos hz,hz]
  have ho:OkR (rgL l):=z4u hl (by rw [zdu] at hz;exact hz _ (by simp))
  repeat' ((conv=>whnf);first
  | refine Yz ?_
   | (apply zah.of;assumption)
   | (refine ha rfl hz ?_)
   | (refine yjm g hx l (rgL l) ho kn d (slot:=26) ?_)
   | (refine Ret.mk rfl)
   | fail)
 ·rw [if_neg hz]
  repeat' ((conv=>whnf);first
  | refine Yz ?_
   | (apply zah.of;assumption)
   | (refine hn rfl hz ?_)
   | (refine Cmp.ff hz ?_)
   | (refine Ret.mk rfl)
   | fail)
end
theorem Ch.head {es:List Ent} {k:Nat} {c:List Ent} (h:Ch es k c):∃hk:k<es.length,c=es[k]::c.tail:=by
 cases h with
 | stop _ hk _=>exact⟨hk,rfl⟩
 | step _ _ _ hk _ _=>exact⟨hk,rfl⟩
section
variable {E : Oracle} (g : Good E)
include g
theorem zqc (r:Rgs) (nm:List UInt8) (hl:r.es.length<=1000000):Fc E zdm [Rgv r,S nm] (I (zll r.es nm)):=by
 refine g.fn rfl rfl ?_
 have hml:(r.es.flatMap Ent.cells).length=r.es.length*8:=zaf Ent.cells 8 zwf r.es
 repeat' ((conv=>whnf);first
 | refine Yz ?_
  | fail)
 refine zaj.to (zaj.upP g (fun k=>[(1,S nm),(2,.ptr ⟨0,2,0⟩ 0 0),(5,I k)]) (fun _=>[(⟨0,2,0⟩,.cells zaa [I r.kn,.d (.list r.es.length (r.es.flatMap Ent.cells)),.d (.list r.rs.length (r.rs.flatMap Rmv.cells)),.d (.list r.cs.length (r.cs.flatMap Cpl.cells))])]) (fun k=>∀j,(hj:j<k)->(hj':j<r.es.length)->decide (r.es[j].nm=nm)=false) r.es.length (fun k hk hp ih=> ?_) 0 (Nat.zero_le _) (fun j h _=>absurd h (Nat.not_lt_zero _))) rfl rfl
 by_cases hlt:k<r.es.length
 ·by_cases he:r.es[k].nm=nm
  ·have hi:zll r.es nm=k:=zpj (p:=fun x:Ent=>decide (x.nm=nm)) hlt (decide_eq_true he) fun j hj=>hp j hj (by omega)
   rw [hi]
   repeat' ((conv=>whnf);first
   | refine Yz ?_
    | (refine zf3.rec zwf k rfl hlt rfl ?_)
    | (refine Cmp.tt he ?_)
    | (refine Ret.mk rfl)
    | fail)
  ·have ih:=ih hlt fun j hj hj'=>by
    by_cases e:j=k
    ·subst e;exact decide_eq_false he
    ·exact hp j (by omega) hj'
   repeat' ((conv=>whnf);first
   | refine Yz ?_
    | (refine zf3.rec zwf k rfl hlt rfl ?_)
    | (refine Cmp.ff he ?_)
    | (refine zaj.to ih rfl rfl)
    | fail)
 ·obtain rfl:k=r.es.length:=by omega
  have hi:zll r.es nm= -1:=znt (p:=fun x:Ent=>decide (x.nm=nm)) fun j hj=>hp j hj hj
  rw [hi]
  repeat' ((conv=>whnf);first
  | refine Yz ?_
   | (refine Ret.mk rfl)
   | fail)
theorem zq8 (r:Rgs) (nm:List UInt8) (hl:r.cs.length<=1000000):Fc E zcz [Rgv r,S nm] (I (zwe r.cs nm)):=by
 refine g.fn rfl rfl ?_
 have hml:(r.cs.flatMap Cpl.cells).length=r.cs.length*5:=zaf Cpl.cells 5 zxy r.cs
 repeat' ((conv=>whnf);first
 | refine Yz ?_
  | fail)
 refine zaj.to (zaj.upP g (fun k=>[(1,S nm),(2,.ptr ⟨0,2,0⟩ 0 0),(5,I k)]) (fun _=>[(⟨0,2,0⟩,.cells zaa [I r.kn,.d (.list r.es.length (r.es.flatMap Ent.cells)),.d (.list r.rs.length (r.rs.flatMap Rmv.cells)),.d (.list r.cs.length (r.cs.flatMap Cpl.cells))])]) (fun k=>∀j,(hj:j<k)->(hj':j<r.cs.length)->decide (r.cs[j].nm=nm)=false) r.cs.length (fun k hk hp ih=> ?_) 0 (Nat.zero_le _) (fun j h _=>absurd h (Nat.not_lt_zero _))) rfl rfl
 by_cases hlt:k<r.cs.length
 ·by_cases he:r.cs[k].nm=nm
  ·have hi:zwe r.cs nm=k:=zpj (p:=fun x:Cpl=>decide (x.nm=nm)) hlt (decide_eq_true he) fun j hj=>hp j hj (by omega)
   rw [hi]
   repeat' ((conv=>whnf);first
   | refine Yz ?_
    | (refine zf3.rec zxy k rfl hlt rfl ?_)
    | (refine Cmp.tt he ?_)
    | (refine Ret.mk rfl)
    | fail)
  ·have ih:=ih hlt fun j hj hj'=>by
    by_cases e:j=k
    ·subst e;exact decide_eq_false he
    ·exact hp j (by omega) hj'
   repeat' ((conv=>whnf);first
   | refine Yz ?_
    | (refine zf3.rec zxy k rfl hlt rfl ?_)
    | (refine Cmp.ff he ?_)
    | (refine zaj.to ih rfl rfl)
    | fail)
 ·obtain rfl:k=r.cs.length:=by omega
  have hi:zwe r.cs nm= -1:=znt (p:=fun x:Cpl=>decide (x.nm=nm)) fun j hj=>hp j hj hj
  rw [hi]
  repeat' ((conv=>whnf);first
  | refine Yz ?_
   | (refine Ret.mk rfl)
   | fail)
theorem yhv (r:Rgs) (nm:List UInt8) (kn:Int) (hl:r.rs.length<=1000000):Fc E zn2 [Rgv r,S nm,I kn] (B (zzg r.rs nm kn)):=by
 refine g.fn rfl rfl ?_
 have hml:(r.rs.flatMap Rmv.cells).length=r.rs.length*2:=zaf Rmv.cells 2 ykc r.rs
 repeat' ((conv=>whnf);first
 | refine Yz ?_
  | fail)
 refine zaj.to (zaj.upP g (fun k=>[(1,S nm),(2,I kn),(3,.ptr ⟨0,3,0⟩ 0 0),(7,I k)]) (fun _=>[(⟨0,3,0⟩,.cells zaa [I r.kn,.d (.list r.es.length (r.es.flatMap Ent.cells)),.d (.list r.rs.length (r.rs.flatMap Rmv.cells)),.d (.list r.cs.length (r.cs.flatMap Cpl.cells))])])
  (fun k=>∀j,(hj:j<r.rs.length)->j<k->¬(r.rs[j].en=nm/\r.rs[j].kn<=kn)) r.rs.length (fun k hk hp ih=> ?_) 0 (Nat.zero_le _) (fun j _ h=>absurd h (Nat.not_lt_zero _))) rfl rfl
 by_cases hlt:k<r.rs.length
 ·by_cases he:r.rs[k].en=nm
  ·by_cases hn:r.rs[k].kn<=kn
   ·have hb:zzg r.rs nm kn=true:=List.any_eq_true.2 ⟨_,List.getElem_mem hlt,decide_eq_true ⟨he,hn⟩⟩
    rw [hb]
    repeat' ((conv=>whnf);first
    | refine Yz ?_
     | (refine zf3.rec ykc k rfl hlt rfl ?_)
     | (refine Cmp.tt he ?_)
     | (refine Ret.mk rfl)
     | fail)
   ·have ih:=ih hlt fun j hj hjk=>by
     by_cases e:j=k
     ·subst e;exact fun h=>hn h.2
     ·exact hp j hj (by omega)
    repeat' ((conv=>whnf);first
    | refine Yz ?_
     | (refine zf3.rec ykc k rfl hlt rfl ?_)
     | (refine Cmp.tt he ?_)
     | (refine zaj.to ih rfl rfl)
     | fail)
  ·have ih:=ih hlt fun j hj hjk=>by
    by_cases e:j=k
    ·subst e;exact fun h=>he h.1
    ·exact hp j hj (by omega)
   repeat' ((conv=>whnf);first
   | refine Yz ?_
    | (refine zf3.rec ykc k rfl hlt rfl ?_)
    | (refine Cmp.ff he ?_)
    | (refine zaj.to ih rfl rfl)
    | fail)
 ·obtain rfl:k=r.rs.length:=by omega
  have hb:zzg r.rs nm kn=false:=by
   unfold zzg
   rw [List.any_eq_false]
   intro z hz
   obtain⟨j,hj,rfl⟩:=List.mem_iff_getElem.1 hz
   simpa using hp j hj hj
  rw [hb]
  repeat' ((conv=>whnf);first
  | refine Yz ?_
   | (refine Ret.mk rfl)
   | fail)
theorem z6n (r:Rgs) (ho:OkR r) (kn:Int):∀(k:Nat) (hk:k<r.es.length),Fc E zhc [Rgv r,I k,I kn] (B (z2g r r.es[k] kn)):=by
 intro k
 induction k using Nat.strongRecOn with
 | _ k ihk=>
  intro hk
  have hes:=ho.es
  have hrm:=yhv g r r.es[k].nm kn (by have:=ho.rs;omega)
  have hml:(r.es.flatMap Ent.cells).length=r.es.length*8:=zaf Ent.cells 8 zwf r.es
  have hwin:win (r.es.flatMap Ent.cells) (((k:Nat):Int).toNat*8) 8=r.es[k].cells:=by
   rw [Int.toNat_natCast]
   exact zfj Ent.cells 8 zwf r.es k hk
  refine g.fn rfl rfl ?_
  rcases ho.bs k hk with hb|⟨j,hj,hb⟩
  ·rw [zzp ho hk hb]
   by_cases h1:r.es[k].kn<=kn
   ·rw [decide_eq_true h1]
    cases hr:zzg r.rs r.es[k].nm kn
    all_goals
     rw [hr] at hrm
     repeat' ((conv=>whnf);first
     | refine Yz ?_
      | (rw [hwin])
      | (apply zah.of;assumption)
      | (refine Cmp.tt hb ?_)
      | (refine Ret.mk rfl)
      | fail)
   ·rw [decide_eq_false h1]
    repeat' ((conv=>whnf);first
    | refine Yz ?_
     | (rw [hwin])
     | (refine Ret.mk rfl)
     | fail)
  ·rw [z5n ho hk hj hb]
   have hb0:r.es[k].bs≠[]:=fun e=>by rw [e,yac ho.nm] at hb;omega
   have hrec:=ihk j hj (by omega)
   have hea:=zqc g r r.es[k].bs (by omega)
   rw [hb] at hea
   by_cases h1:r.es[k].kn<=kn
   ·rw [decide_eq_true h1]
    cases hr:zzg r.rs r.es[k].nm kn
    all_goals
     rw [hr] at hrm
     repeat' ((conv=>whnf);first
     | refine Yz ?_
      | (rw [hwin])
      | (apply zah.of;assumption)
      | (refine Cmp.ff hb0 ?_)
      | (refine Ret.mk rfl)
      | fail)
   ·rw [decide_eq_false h1]
    repeat' ((conv=>whnf);first
    | refine Yz ?_
     | (rw [hwin])
     | (refine Ret.mk rfl)
     | fail)
end
abbrev bxR (sl:Nat) (r:Rgs):Evl.Id×Ob:=(⟨0,sl,0⟩,.cells zaa [I r.kn,.d (.list r.es.length (r.es.flatMap Ent.cells)),.d (.list r.rs.length (r.rs.flatMap Rmv.cells)),.d (.list r.cs.length (r.cs.flatMap Cpl.cells))])
def ynn (r:Rgs) (e:Evt):Int:=if vlN e 0<r.kn then 19 else if 99999<vlN e 0 then 3 else zzn r e
theorem yb1 (r:Rgs) (n:Nat) (e:Evt):z9w r n e=if e.nu=n+1 then ynn r e else 11:=by
 unfold z9w yft ynn
 by_cases h1:e.nu=n+1
 ·rw [if_pos h1,if_pos h1]
  by_cases h2:vlN e 0<r.kn
  ·rw [if_pos h2,if_pos h2,show ∀z,zao [0,19,z]=19 from fun _=>rfl,if_pos (by decide)]
  ·rw [if_neg h2,if_neg h2]
   by_cases h3:99999<vlN e 0
   ·rw [if_pos h3,if_pos h3];rfl
   ·rw [if_neg h3,if_neg h3];rfl
 ·rw [if_neg h1,if_neg h1,show ∀y z,zao [11,y,z]=11 from fun _ _=>rfl,if_pos (by decide)]
section
variable {E : Oracle} (g : Good E)
include g
theorem z3b (r:Rgs) (ho:OkR r) (nu:Int) (ki:List UInt8) (a s:List UInt8) (more:List (List UInt8)) (b:List UInt8) (kn f u m:Int) (tx:List UInt8) (hb:ki=zb0->more=[b]):
  Fc E zga [Rgv r,Evv ⟨nu,ki,a::s::more,[kn,f,u,m],tx⟩] (I (zoi r (decide (ki=zb0)) a b kn f u m)):=by
 have hes:=ho.es
 have hq:=zqc g r a (by omega)
 have hqb:=zqc g r b (by omega)
 have hcn:=z6n g r ho kn
 change Fc E zga [Rgv r,.d (.agg [DI nu,.str ki,.list (more.length+1+1) (.str a:: .str s::more.map D.str),.list 4 [DI kn,DI f,DI u,DI m],.str tx])] _
 refine g.fn rfl rfl ?_
 unfold zoi ymw
 generalize zll r.es a=i at *
 by_cases hi:0<=i
 ·rw [if_pos hi,show ∀z,zao [9,z]=9 from fun _=>rfl,if_pos (by decide)]
  repeat' ((conv=>whnf);first
  | refine Yz ?_
   | (apply zah.of;assumption)
   | (refine Ret.mk rfl)
   | fail)
 ·rw [if_neg hi]
  by_cases h256:256<=r.es.length
  ·rw [if_pos h256,show zao [0,5]=5 from rfl,if_pos (by decide)]
   repeat' ((conv=>whnf);first
   | refine Yz ?_
    | (apply zah.of;assumption)
    | (refine Ret.mk rfl)
    | fail)
  ·rw [if_neg h256,show zao [0,0]=0 from rfl,if_neg (by decide)]
   by_cases hf:ki=zb0
   ·obtain rfl:=hb hf
    rw [decide_eq_true hf]
    rcases zdb r.es b with⟨h,_⟩|⟨k,hk,h,_⟩
    ·rw [zwu h,if_pos ⟨rfl,by decide⟩]
     rw [h] at hqb
     repeat' ((conv=>whnf);first
     | refine Yz ?_
      | (apply zah.of;assumption)
      | (refine Cmp.tt hf ?_)
      | (refine Ret.mk rfl)
      | fail)
    ·have hcn:=hcn k hk
     rw [zs0 hk h]
     rw [h] at hqb
     cases hc:z2g r r.es[k] kn with
     | false=>
      rw [hc] at hcn
      rw [show (if(false=true) then(0:Int) else 20)=20 from rfl,if_pos ⟨rfl,by decide⟩]
      repeat' ((conv=>whnf);first
      | refine Yz ?_
       | (apply zah.of;assumption)
       | (refine Cmp.tt hf ?_)
       | (refine Ret.mk rfl)
       | fail)
     | true=>
      rw [hc] at hcn
      rw [show (if(true=true) then(0:Int) else 20)=0 from rfl,if_neg (fun h=>h.2 rfl)]
      by_cases c1:99999<f
      all_goals by_cases c2:99999<u
      all_goals by_cases c3:1440<m
      all_goals by_cases c4:u<f
      all_goals
       repeat' ((conv=>whnf);first
       | refine Yz ?_
        | (apply zah.of;assumption)
        | (refine Cmp.tt hf ?_)
        | (exfalso;omega)
        | (refine Ret.mk ?_)
        | fail)
      all_goals simp [c1,c2,c3,c4,zao]
   ·rw [decide_eq_false hf,if_neg (fun h=>by cases h.1)]
    by_cases c1:99999<f
    all_goals by_cases c2:99999<u
    all_goals by_cases c3:1440<m
    all_goals by_cases c4:u<f
    all_goals
     repeat' ((conv=>whnf);first
     | refine Yz ?_
      | (apply zah.of;assumption)
      | (refine Cmp.ff hf ?_)
      | (exfalso;omega)
      | (refine Ret.mk ?_)
      | fail)
    all_goals simp [c1,c2,c3,c4,zao]
theorem yhu (r:Rgs) (ho:OkR r) (e:Evt) (hc:zwb e=0):Fc E zeu [Rgv r,Evv e] (I (ynn r e)):=by
 have hes:=ho.es
 have hml:(r.es.flatMap Ent.cells).length=r.es.length*8:=zaf Ent.cells 8 zwf r.es
 have hmc:(r.cs.flatMap Cpl.cells).length=r.cs.length*5:=zaf Cpl.cells 5 zxy r.cs
 have hcs:=ho.cs
 unfold ynn
 rcases zsn hc with⟨nu,ki,a,s,more,kn,f,u,m,rfl,hent,hfol,hki⟩|⟨nu,a,kn,rfl⟩|⟨nu,a,en,kn,rfl⟩|⟨nu,a,kn,v,rfl⟩
 ·obtain⟨b,hb⟩:∃b,ki=zb0->more=[b]:=by
   by_cases h:ki=zb0
   ·obtain⟨b,hb⟩:=hfol h
    exact⟨b,fun _=>hb⟩
   ·exact⟨[],fun h'=>absurd h' h⟩
  have hask:zzn r ⟨nu,ki,a::s::more,[kn,f,u,m],[]⟩=zoi r (decide (ki=zb0)) a b kn f u m:=by
   rw [zzn,if_pos hent]
   by_cases h:ki=zb0
   ·rw [hb h];rfl
   ·unfold zoi
    rw [decide_eq_false h]
    simp only [Bool.false_eq_true,false_and,if_false]
    rfl
  have hq:=z3b g r ho nu ki a s more b kn f u m [] hb
  rw [<-hask] at hq
  change Fc E zeu _ (I (if kn<r.kn then 19 else if 99999<kn then 3 else zzn r ⟨nu,ki,a::s::more,[kn,f,u,m],[]⟩))
  generalize zzn r ⟨nu,ki,a::s::more,[kn,f,u,m],[]⟩=o at *
  have e1:Evv ⟨nu,ki,a::s::more,[kn,f,u,m],[]⟩= .d (.agg [DI nu,.str ki,.list (more.length+1+1) (.str a:: .str s::more.map D.str),.list 4 [DI kn,DI f,DI u,DI m],.str []]):=rfl
  rw [e1] at hq ⊢
  clear hfol hask hent hb
  refine g.fn rfl rfl ?_
  by_cases c1:kn<r.kn
  ·rw [if_pos c1]
   repeat' ((conv=>whnf);first
   | refine Yz ?_
    | (refine Ret.mk rfl)
    | fail)
  by_cases c2:99999<kn
  ·rw [if_neg c1,if_pos c2]
   repeat' ((conv=>whnf);first
   | refine Yz ?_
    | (refine Ret.mk rfl)
    | fail)
  rw [if_neg c1,if_neg c2]
  rcases hki with rfl|rfl|rfl
  all_goals
   repeat' ((conv=>whnf);first
   | refine Yz ?_
    | (apply zah.of;assumption)
    | (refine Ret.mk rfl)
    | fail)
 ·change Fc E zeu [Rgv r,.d (.agg [DI nu,.str zdk,.list 1 [.str a],.list 1 [DI kn],.str []])] (I (if kn<r.kn then 19 else if 99999<kn then 3 else z3m r a kn))
  refine g.fn rfl rfl ?_
  by_cases c1:kn<r.kn
  ·rw [if_pos c1]
   repeat' ((conv=>whnf);first
   | refine Yz ?_
    | (refine Ret.mk rfl)
    | fail)
  by_cases c2:99999<kn
  ·rw [if_neg c1,if_pos c2]
   repeat' ((conv=>whnf);first
   | refine Yz ?_
    | (refine Ret.mk rfl)
    | fail)
  rw [if_neg c1,if_neg c2]
  unfold z3m
  have hq:=zqc g r a (by omega)
  rcases zdb r.es a with⟨h,_⟩|⟨k,hk,h,hnm,_⟩
  ·rw [h] at hq
   rw [h,if_pos (by decide)]
   repeat' ((conv=>whnf);first
   | refine Yz ?_
    | (apply zah.of;assumption)
    | (refine Ret.mk rfl)
    | fail)
  ·have hgd:r.es.getD k yn0=r.es[k]:=by simp [List.getD,hk]
   rw [h] at hq
   rw [zs0 hk h,h,if_neg (by omega),Int.toNat_natCast,hgd]
   have hcn:=z6n g r ho kn k hk
   by_cases hkd:r.es[k].kd=zwl
   ·rw [if_pos hkd]
    cases hc':z2g r r.es[k] kn
    all_goals
     rw [hc'] at hcn
     repeat' ((conv=>whnf);first
     | refine Yz ?_
      | (apply zah.of;assumption)
      | (refine zf3.rec zwf k rfl hk rfl ?_)
      | (refine Cmp.ff (fun h=>h hkd) ?_)
      | (refine Ret.mk rfl)
      | fail)
   ·rw [if_neg hkd]
    repeat' ((conv=>whnf);first
    | refine Yz ?_
     | (apply zah.of;assumption)
     | (refine zf3.rec zwf k rfl hk rfl ?_)
     | (refine Cmp.tt hkd ?_)
     | (refine Ret.mk rfl)
     | fail)
 ·change Fc E zeu [Rgv r,.d (.agg [DI nu,.str zcs,.list 2 [.str a,.str en],.list 1 [DI kn],.str []])] (I (if kn<r.kn then 19 else if 99999<kn then 3 else z0f r a en kn))
  refine g.fn rfl rfl ?_
  by_cases c1:kn<r.kn
  ·rw [if_pos c1]
   repeat' ((conv=>whnf);first
   | refine Yz ?_
    | (refine Ret.mk rfl)
    | fail)
  by_cases c2:99999<kn
  ·rw [if_neg c1,if_pos c2]
   repeat' ((conv=>whnf);first
   | refine Yz ?_
    | (refine Ret.mk rfl)
    | fail)
  rw [if_neg c1,if_neg c2]
  unfold z0f
  have hq:=zq8 g r a (by omega)
  have hq2:=zqc g r en (by omega)
  generalize zwe r.cs a=i at *
  by_cases hi:0<=i
  ·rw [if_pos hi]
   repeat' ((conv=>whnf);first
   | refine Yz ?_
    | (apply zah.of;assumption)
    | (refine Ret.mk rfl)
    | fail)
  rw [if_neg hi]
  by_cases h64:64<=r.cs.length
  ·rw [if_pos h64]
   repeat' ((conv=>whnf);first
   | refine Yz ?_
    | (apply zah.of;assumption)
    | (refine Ret.mk rfl)
    | fail)
  rw [if_neg h64]
  rcases zdb r.es en with⟨h,_⟩|⟨k,hk,h,_⟩
  ·rw [h] at hq2
   rw [zwu h]
   repeat' ((conv=>whnf);first
   | refine Yz ?_
    | (apply zah.of;assumption)
    | (refine Ret.mk rfl)
    | fail)
  ·rw [h] at hq2
   rw [zs0 hk h]
   have hcn:=z6n g r ho kn k hk
   cases hc':z2g r r.es[k] kn
   all_goals
    rw [hc'] at hcn
    repeat' ((conv=>whnf);first
    | refine Yz ?_
     | (apply zah.of;assumption)
     | (refine Ret.mk rfl)
     | fail)
 ·change Fc E zeu [Rgv r,.d (.agg [DI nu,.str zfx,.list 1 [.str a],.list 2 [DI kn,DI v],.str []])] (I (if kn<r.kn then 19 else if 99999<kn then 3 else zr7 r a v))
  refine g.fn rfl rfl ?_
  by_cases c1:kn<r.kn
  ·rw [if_pos c1]
   repeat' ((conv=>whnf);first
   | refine Yz ?_
    | (refine Ret.mk rfl)
    | fail)
  by_cases c2:99999<kn
  ·rw [if_neg c1,if_pos c2]
   repeat' ((conv=>whnf);first
   | refine Yz ?_
    | (refine Ret.mk rfl)
    | fail)
  rw [if_neg c1,if_neg c2]
  unfold zr7
  have hq:=zq8 g r a (by omega)
  rcases zm6 r.cs a with h|⟨k,hk,h,hnm⟩
  ·rw [h] at hq
   rw [h,if_pos (by decide)]
   repeat' ((conv=>whnf);first
   | refine Yz ?_
    | (apply zah.of;assumption)
    | (refine Ret.mk rfl)
    | fail)
  ·have hgd:r.cs.getD k yej=r.cs[k]:=by simp [List.getD,hk]
   rw [h] at hq
   rw [h,if_neg (by omega),Int.toNat_natCast,hgd]
   cases hcl:r.cs[k].cl
   ·by_cases hv:1<v
    ·rw [if_pos hv]
     repeat' ((conv=>whnf);first
     | refine Yz ?_
      | (apply zah.of;assumption)
      | (refine zf3.rec zxy k rfl hk rfl ?_;rw [hcl])
      | (refine Ret.mk rfl)
      | fail)
    ·rw [if_neg hv]
     repeat' ((conv=>whnf);first
     | refine Yz ?_
      | (apply zah.of;assumption)
      | (refine zf3.rec zxy k rfl hk rfl ?_;rw [hcl])
      | (refine Ret.mk rfl)
      | fail)
   ·repeat' ((conv=>whnf);first
   | refine Yz ?_
     | (apply zah.of;assumption)
     | (refine zf3.rec zxy k rfl hk rfl ?_;rw [hcl])
     | (refine Ret.mk rfl)
     | fail)
end
theorem z24 (r:Rgs) (k:Nat) (hk:k<r.cs.length) (x:Cpl):patch (r.cs.flatMap Cpl.cells) (((k:Nat):Int).toNat*5) x.cells=(r.cs.set k x).flatMap Cpl.cells:=by
 rw [Int.toNat_natCast]
 have h2:r.cs.set k x=r.cs.take k++x::r.cs.drop (k+1):=by rw [List.set_eq_take_append_cons_drop,if_pos hk]
 rw [h2,List.flatMap_append,List.flatMap_cons]
 have h4:((r.cs.take k).flatMap Cpl.cells).length=k*5:=by
  rw [zaf Cpl.cells 5 zxy,List.length_take,Nat.min_eq_left (by omega)]
 have h1:r.cs.flatMap Cpl.cells=(r.cs.take k).flatMap Cpl.cells++(r.cs[k].cells++(r.cs.drop (k+1)).flatMap Cpl.cells):=by
  rw [<-List.flatMap_cons,<-List.flatMap_append,<-List.drop_eq_getElem_cons hk,List.take_append_drop]
 have h5:=zxy r.cs[k]
 have h6:=zxy x
 unfold patch
 rw [h1]
 generalize (r.cs.take k).flatMap Cpl.cells=A at *
 generalize (r.cs.drop (k+1)).flatMap Cpl.cells=C at *
 generalize r.cs[k].cells=B at *
 rw [<-h4,List.take_left,List.drop_append,List.drop_of_length_le (by omega),h6,Nat.add_sub_cancel_left,List.nil_append,List.drop_append_of_le_length (by omega),List.drop_of_length_le (by omega),List.nil_append,List.append_assoc]
section
variable {E : Oracle} (g : Good E)
include g
abbrev mA (r:Rgs) (nu:Int) (a:List UInt8) (kn v:Int):Mem:=[bxR 2 r,(⟨0,3,0⟩,.cells zad [I nu,S zfx,.d (.list 1 [.str a]),.d (.list 2 [DI kn,DI v]),S []]),(⟨0,4,0⟩,.row false zb1 8 0 []),(⟨0,4,1⟩,.row false za9 2 0 []),(⟨0,4,2⟩,.row true za0 5 0 []),
 (⟨0,4,3⟩,.cells zaa [I 0,.ref ⟨0,4,0⟩ 0 0 0,.ref ⟨0,4,1⟩ 0 0 0,.ref ⟨0,4,2⟩ 0 0 0])]
theorem z2z (r:Rgs) (nu:Int) (a:List UInt8) (kn v:Int) (hl:r.cs.length<=1000000) {slot:Nat} {K:V->Mem->Prop} (hK:K (I (zwe r.cs a)) (mA r nu a kn v)):
  In E 1 zcz [Rgv r,S a] (mA r nu a kn v) fun x m'=>z5e ⟨0,1⟩ slot true x m' K:=by
 refine In.enter (f:=zcz) g.lim rfl rfl ?_
 have hml:(r.cs.flatMap Cpl.cells).length=r.cs.length*5:=zaf Cpl.cells 5 zxy r.cs
 repeat' ((conv=>whnf);first
 | refine Yz ?_
  | fail)
 refine zaj.to (zaj.upP g (fun k=>[(1,S a),(2,.ptr ⟨1,2,0⟩ 0 0),(5,I k)]) (fun _=>mA r nu a kn v++[(⟨1,2,0⟩,.cells zaa [I r.kn,.d (.list r.es.length (r.es.flatMap Ent.cells)),.d (.list r.rs.length (r.rs.flatMap Rmv.cells)),.d (.list r.cs.length (r.cs.flatMap Cpl.cells))])]) (fun k=>∀j,(hj:j<k)->(hj':j<r.cs.length)->decide (r.cs[j].nm=a)=false) r.cs.length (fun k hk hp ih=> ?_) 0 (Nat.zero_le _) (fun j h _=>absurd h (Nat.not_lt_zero _))) rfl rfl
 by_cases hlt:k<r.cs.length
 ·by_cases he:r.cs[k].nm=a
  ·have hi:zwe r.cs a=k:=zpj (p:=fun x:Cpl=>decide (x.nm=a)) hlt (decide_eq_true he) fun j hj=>hp j hj (by omega)
   rw [hi] at hK
   repeat' ((conv=>whnf);first
   | refine Yz ?_
    | (refine zf3.rec zxy k rfl hlt rfl ?_)
    | (refine Cmp.tt he ?_)
    | (exact hK)
    | fail)
  ·have ih:=ih hlt fun j hj hj'=>by
    by_cases e:j=k
    ·subst e;exact decide_eq_false he
    ·exact hp j (by omega) hj'
   repeat' ((conv=>whnf);first
   | refine Yz ?_
    | (refine zf3.rec zxy k rfl hlt rfl ?_)
    | (refine Cmp.ff he ?_)
    | (refine zaj.to ih rfl rfl)
    | fail)
 ·obtain rfl:k=r.cs.length:=by omega
  have hi:zwe r.cs a= -1:=znt (p:=fun x:Cpl=>decide (x.nm=a)) fun j hj=>hp j hj hj
  rw [hi] at hK
  repeat' ((conv=>whnf);first
  | refine Yz ?_
   | (exact hK)
   | fail)
theorem ym4 (r:Rgs) (ho:OkR r) (e:Evt) (hc:zwb e=0) (hask:zzn r e=0) (hrs:r.rs.length<1000):Fc E zfm [Rgv r,Evv e] (Rgv (zqi r e)):=by
 have hes:=ho.es
 have hcs:=ho.cs
 have hml:(r.es.flatMap Ent.cells).length=r.es.length*8:=zaf Ent.cells 8 zwf r.es
 have hmr:(r.rs.flatMap Rmv.cells).length=r.rs.length*2:=zaf Rmv.cells 2 ykc r.rs
 have hmc:(r.cs.flatMap Cpl.cells).length=r.cs.length*5:=zaf Cpl.cells 5 zxy r.cs
 rcases zsn hc with⟨nu,ki,a,s,more,kn,f,u,m,rfl,hent,hfol,hki⟩|⟨nu,a,kn,rfl⟩|⟨nu,a,en,kn,rfl⟩|⟨nu,a,kn,v,rfl⟩
 ·clear hask hc
  by_cases hf:ki=zb0
  ·obtain⟨b,rfl⟩:=hfol hf
   subst hf
   have haft:zqi r ⟨nu,zb0,[a,s,b],[kn,f,u,m],[]⟩=⟨kn,r.es++[⟨a,zb0,s,b,kn,f,u,m⟩],r.rs,r.cs⟩:=rfl
   rw [haft]
   change Fc E zfm [Rgv r,.d (.agg [DI nu,.str zb0,.list 3 [.str a,.str s,.str b],.list 4 [DI kn,DI f,DI u,DI m],.str []])] _
   refine g.fn rfl rfl ?_
   repeat' ((conv=>whnf);first
   | refine Yz ?_
    | (refine zeb.mk ⟨rfl,rfl,rfl,rfl,rfl,hml,by dsimp only;omega,by first |omega|(dsimp only;omega)⟩ ?_)
    | (refine zeb.mk ⟨rfl,rfl,rfl,rfl,rfl,rfl,by dsimp only;omega,by first |omega|(dsimp only;omega)⟩ ?_)
    | (refine zeb.mk ⟨rfl,by omega⟩ ?_)
    | (refine zeb.mk ⟨rfl,by decide⟩ ?_)
    | (refine Ret.mk ?_)
    | fail)
   all_goals simp [Ent.cells]
  ·have haft:zqi r ⟨nu,ki,a::s::more,[kn,f,u,m],[]⟩=⟨kn,r.es++[⟨a,ki,s,[],kn,f,u,m⟩],r.rs,r.cs⟩:=by
    rw [zqi,if_pos hent,z7y,if_neg hf]
    rfl
   rw [haft]
   change Fc E zfm [Rgv r,.d (.agg [DI nu,.str ki,.list (more.length+1+1) (.str a:: .str s::more.map D.str),.list 4 [DI kn,DI f,DI u,DI m],.str []])] _
   refine g.fn rfl rfl ?_
   rcases hki with rfl|rfl|rfl
   ·repeat' ((conv=>whnf);first
   | refine Yz ?_
     | (refine zeb.mk ⟨rfl,rfl,rfl,rfl,rfl,hml,by dsimp only;omega,by first |omega|(dsimp only;omega)⟩ ?_)
     | (refine zeb.mk ⟨rfl,rfl,rfl,rfl,rfl,rfl,by dsimp only;omega,by first |omega|(dsimp only;omega)⟩ ?_)
     | (refine zeb.mk ⟨rfl,by omega⟩ ?_)
     | (refine zeb.mk ⟨rfl,by decide⟩ ?_)
     | (refine Ret.mk ?_)
     | fail)
    all_goals simp [Ent.cells]
   ·repeat' ((conv=>whnf);first
   | refine Yz ?_
     | (refine zeb.mk ⟨rfl,rfl,rfl,rfl,rfl,hml,by dsimp only;omega,by first |omega|(dsimp only;omega)⟩ ?_)
     | (refine zeb.mk ⟨rfl,rfl,rfl,rfl,rfl,rfl,by dsimp only;omega,by first |omega|(dsimp only;omega)⟩ ?_)
     | (refine zeb.mk ⟨rfl,by omega⟩ ?_)
     | (refine zeb.mk ⟨rfl,by decide⟩ ?_)
     | (refine Ret.mk ?_)
     | fail)
    all_goals simp [Ent.cells]
   ·exact absurd rfl hf
 ·have haft:zqi r ⟨nu,zdk,[a],[kn],[]⟩=⟨kn,r.es,r.rs++[⟨a,kn⟩],r.cs⟩:=rfl
  rw [haft]
  change Fc E zfm [Rgv r,.d (.agg [DI nu,.str zdk,.list 1 [.str a],.list 1 [DI kn],.str []])] _
  refine g.fn rfl rfl ?_
  repeat' ((conv=>whnf);first
  | refine Yz ?_
   | (refine zeb.mk ⟨rfl,rfl,rfl,rfl,rfl,hmr,by dsimp only;omega,by first |omega|(dsimp only;omega)⟩ ?_)
   | (refine zeb.mk ⟨rfl,rfl,rfl,rfl,rfl,rfl,by dsimp only;omega,by first |omega|(dsimp only;omega)⟩ ?_)
   | (refine zeb.mk ⟨rfl,by omega⟩ ?_)
   | (refine zeb.mk ⟨rfl,by decide⟩ ?_)
   | (refine Ret.mk ?_)
   | fail)
  all_goals simp [Rmv.cells]
 ·have haft:zqi r ⟨nu,zcs,[a,en],[kn],[]⟩=⟨kn,r.es,r.rs,r.cs++[⟨a,en,kn,false,false⟩]⟩:=rfl
  rw [haft]
  change Fc E zfm [Rgv r,.d (.agg [DI nu,.str zcs,.list 2 [.str a,.str en],.list 1 [DI kn],.str []])] _
  refine g.fn rfl rfl ?_
  repeat' ((conv=>whnf);first
  | refine Yz ?_
   | (refine zeb.mk ⟨rfl,rfl,rfl,rfl,rfl,hmc,by dsimp only;omega,by first |omega|(dsimp only;omega)⟩ ?_)
   | (refine zeb.mk ⟨rfl,rfl,rfl,rfl,rfl,rfl,by dsimp only;omega,by first |omega|(dsimp only;omega)⟩ ?_)
   | (refine zeb.mk ⟨rfl,by omega⟩ ?_)
   | (refine zeb.mk ⟨rfl,by decide⟩ ?_)
   | (refine Ret.mk ?_)
   | fail)
  all_goals simp [Cpl.cells]
 ·change zr7 r a v=0 at hask
  rcases zm6 r.cs a with h|⟨k,hk,h,hnm⟩
  ·rw [zr7,h,if_pos (by decide)] at hask
   omega
  have hq:=zq8 g r a (by omega)
  rw [h] at hq
  have hgd:r.cs.getD k yej=r.cs[k]:=by simp [List.getD,hk]
  have haft:zqi r ⟨nu,zfx,[a],[kn,v],[]⟩=⟨kn,r.es,if v=1 then r.rs++[⟨r.cs[k].en,kn⟩] else r.rs,r.cs.set k {r.cs[k] with cl:=true,up:=decide (v=1)}⟩:=by
   change (Rgs.mk kn r.es (if v=1 then r.rs++[⟨(r.cs.getD (zwe r.cs a).toNat yej).en,kn⟩] else r.rs) (r.cs.set (zwe r.cs a).toNat {r.cs.getD (zwe r.cs a).toNat yej with cl:=true,up:=decide (v=1)}))=_
   rw [h,Int.toNat_natCast,hgd]
  rw [haft]
  change Fc E zfm [Rgv r,.d (.agg [DI nu,.str zfx,.list 1 [.str a],.list 2 [DI kn,DI v],.str []])] _
  have hcl:∀x:Cpl,patch ([]++r.cs.flatMap Cpl.cells) ((0+((k:Nat):Int).toNat)*5) x.cells=(r.cs.set k x).flatMap Cpl.cells:=fun x=>by
   rw [Nat.zero_add,List.nil_append];exact z24 r k hk x
  have hl5:∀x:Cpl,(r.cs.set k x).length=r.cs.length:=fun x=>List.length_set
  have hin:=@z2z E g ⟨kn,r.es,r.rs,r.cs⟩ nu a kn v (by dsimp only;omega) 109
  rw [show zwe (Rgs.mk kn r.es r.rs r.cs).cs a=k from h] at hin
  dsimp only [mA,bxR] at hin
  have hwin:win (r.cs.flatMap Cpl.cells) (((k:Nat):Int).toNat*5) 5=r.cs[k].cells:=by
   rw [Int.toNat_natCast]
   exact zfj Cpl.cells 5 zxy r.cs k hk
  generalize hx:r.cs[k]=x at *
  by_cases hv:v=1
  ·rw [if_pos hv,decide_eq_true hv]
   have hcx:=hcl {x with cl:=true,up:=true}
   refine g.fn rfl rfl ?_
   repeat' ((conv=>whnf);first
   | refine Yz ?_
    | (refine hin ?_)
    | (rw [hwin])
    | (refine zeb.mk ⟨rfl,rfl,rfl,rfl,rfl,hmc,by dsimp only;omega,by first |omega|(dsimp only;omega)⟩ ?_)
    | (refine zeb.mk ⟨rfl,rfl,rfl,rfl,rfl,hmr,by dsimp only;omega,by first |omega|(dsimp only;omega)⟩ ?_)
    | (refine zeb.mk ⟨rfl,rfl,rfl,rfl,rfl,rfl,by dsimp only;omega,by first |omega|(dsimp only;omega)⟩ ?_)
    | (refine zeb.mk ⟨rfl,by omega⟩ ?_)
    | (refine zeb.mk ⟨rfl,by decide⟩ ?_)
    | (refine zeb.mk ⟨rfl,by rw [List.nil_append];omega,rfl⟩ ?_)
    | (refine Cmp.tt hv ?_)
    | (refine Ret.mk ?_)
    | fail)
   change patch _ _ [D.str x.nm,D.str x.en,DI x.kn,D.bool true,D.bool true]=_ at hcx
   rw [if_pos ⟨rfl,rfl⟩,if_pos ⟨rfl,rfl⟩,hcx]
   simp [Rmv.cells]
  ·rw [if_neg hv,decide_eq_false hv]
   have hcx:=hcl {x with cl:=true,up:=false}
   refine g.fn rfl rfl ?_
   repeat' ((conv=>whnf);first
   | refine Yz ?_
    | (refine hin ?_)
    | (rw [hwin])
    | (refine zeb.mk ⟨rfl,rfl,rfl,rfl,rfl,hmc,by dsimp only;omega,by first |omega|(dsimp only;omega)⟩ ?_)
    | (refine zeb.mk ⟨rfl,by omega⟩ ?_)
    | (refine zeb.mk ⟨rfl,by decide⟩ ?_)
    | (refine zeb.mk ⟨rfl,by rw [List.nil_append];omega,rfl⟩ ?_)
    | (refine Cmp.ff hv ?_)
    | (refine Ret.mk ?_)
    | fail)
   change patch _ _ [D.str x.nm,D.str x.en,DI x.kn,D.bool true,D.bool false]=_ at hcx
   rw [if_pos ⟨rfl,rfl⟩,hcx]
   simp
theorem yj9 (l:List Evt) (hl:l.length<=1000) (hb:∀e∈l,e.ns.length<=1000000/\e.vs.length<=1000000):
  Fc E zjc [LE l] (.tup [Rgv (rgL l),I (zew rg0 0 l).2.1,I (erL l)]):=by
 refine g.fn rfl rfl ?_
 have hml:(l.flatMap Evt.cells).length=l.length*5:=zaf Evt.cells 5 evw l
 unfold rgL erL
 generalize hR:zew rg0 0 l=R
 repeat' ((conv=>whnf);first
 | refine Yz ?_
  | fail)
 refine zaj.to (zaj.by (σ:=Nat×Rgs) g (fun u=>u.1<=l.length/\OkR u.2/\u.2.rs.length<=u.1/\zew u.2 u.1 (l.drop u.1)=R)
  (fun u=>[(0,LE l),(2,.ptr ⟨0,2,0⟩ 0 0),(5,.ptr ⟨0,5,0⟩ 0 0),(6,I u.1)]) (fun u=>[(⟨0,2,0⟩,.cells zaa [I 0,.d (.list 0 []),.d (.list 0 []),.d (.list 0 [])]),bxR 5 u.2]) (fun u=>l.length-u.1) ?_ (0,rg0) ⟨Nat.zero_le _,yhi,Nat.le_refl _,hR⟩) rfl rfl
 clear hR
 rintro⟨k,r⟩ ⟨h2,ho,h3,hR⟩ ih
 dsimp only at h2 ho h3 hR ih ⊢
 by_cases hlt:k<l.length
 ·rw [ydo hlt] at hR
  have hwin:win (l.flatMap Evt.cells) (((k:Nat):Int).toNat*5) 5=l[k].cells:=by
   rw [Int.toNat_natCast]
   exact zfj Evt.cells 5 evw l k hlt
  obtain⟨hb1,hb2⟩:=hb _ (List.getElem_mem hlt)
  have ih:=fun hz:zj2 r k l[k]=0=>ih (k+1,zqi r l[k]) ⟨by dsimp only;omega,yhh ho hz (by omega),by
   have:=yfw r l[k]
   dsimp only
   omega,by
   rw [if_neg (fun h=>h hz)] at hR
   exact hR⟩ (by dsimp only;omega)
  have hnu:zf3 (l.flatMap Evt.cells) (((k:Nat):Int).toNat*5+0)=fun K=>zf3 (l.flatMap Evt.cells) (((k:Nat):Int).toNat*5+0) K:=rfl
  have hpk:∀ {K:D->Prop},K (DI l[k].nu)->zf3 (l.flatMap Evt.cells) (((k:Nat):Int).toNat*5+0) K:=fun h=>zf3.rec evw k rfl hlt rfl h
  clear hnu
  generalize l[k]=e at *
  have hce:=z8x g e hb1 hb2
  have haft:=ym4 g r ho e
  by_cases hc:zwb e=0
  ·rw [hc] at hce
   have hrf:=yhu g r ho e hc
   have hst:zj2 r k e=z9w r k e:=by rw [zj2,if_neg (fun h=>h hc)]
   rw [yb1] at hst
   by_cases hn:e.nu=k+1
   ·rw [if_pos hn] at hst
    by_cases ha:ynn r e=0
    ·rw [ha] at hrf hst
     have haft:=haft hc (z3j (n:=k) (by rw [yb1,if_pos hn];exact ha)).2.2.2 (by omega)
     have ih:=ih hst
     dsimp only [bxR] at ih
     repeat' ((conv=>whnf);first
     | refine Yz ?_
      | (rw [hwin])
      | (apply zah.of;assumption)
      | (refine hpk ?_)
      | (refine Cmp.ff (fun h=>h hn) ?_)
      | (refine zaj.to ih rfl rfl)
      | fail)
    ·rw [hst,if_pos ha] at hR
     generalize ynn r e=x at *
     subst hR
     repeat' ((conv=>whnf);first
     | refine Yz ?_
      | (rw [hwin])
      | (apply zah.of;assumption)
      | (refine hpk ?_)
      | (refine Cmp.ff (fun h=>h hn) ?_)
      | (refine Cmp.ff ha ?_)
      | (refine Cmp.tt ha ?_)
      | (refine Ret.mk rfl)
      | fail)
   ·rw [if_neg hn] at hst
    rw [hst,if_pos (by decide)] at hR
    subst hR
    repeat' ((conv=>whnf);first
    | refine Yz ?_
     | (rw [hwin])
     | (apply zah.of;assumption)
     | (refine hpk ?_)
     | (refine Cmp.tt hn ?_)
     | (refine Ret.mk rfl)
     | fail)
  ·have hst:zj2 r k e=zwb e:=by rw [zj2,if_pos hc]
   rw [hst,if_pos hc] at hR
   generalize zwb e=x at *
   subst hR
   repeat' ((conv=>whnf);first
   | refine Yz ?_
    | (rw [hwin])
    | (apply zah.of;assumption)
    | (refine Cmp.ff hc ?_)
    | (refine Ret.mk rfl)
    | fail)
 ·rw [List.drop_of_length_le (by omega)] at hR
  subst hR
  repeat' ((conv=>whnf);first
  | refine Yz ?_
   | (refine Ret.mk rfl)
   | fail)
end
end Go.Proofs.YtnabmkmhbncidabGreatDoor.Co
