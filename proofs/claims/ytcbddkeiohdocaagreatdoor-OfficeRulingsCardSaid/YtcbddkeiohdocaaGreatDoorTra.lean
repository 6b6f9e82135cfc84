/-
  OfficeRulings: what its law leans on, part 1.
-/
import Derived.Laws.RangeAny
import Derived.Lib.SplitLaws
import Derived.Test.YtcbddkeiohdocaaGreatDoorAwR
import Derived.Test.YtcbddkeiohdocaaGreatDoorEvX
import Derived.Test.YtcbddkeiohdocaaGreatDoorEvY
import Derived.Test.YtcbddkeiohdocaaGreatDoorRead
import Derived.Test.YtcbddkeiohdocaaGreatDoorSpBase
/-
 Periods: errors, masks, moves: what the program's functions and the reference's give.
-/
namespace Go.Proofs.YtcbddkeiohdocaaGreatDoor.Co
open Go Go.Evl
def rng (n a b:Int):Int:=if n<a∨b<n then 3 else 0
def firstI:List Int→Int
 | []=>0
 | x::r=>if x=0 then firstI r else x
theorem firstI_zero:∀l:List Int,firstI l=0↔∀x∈l,x=0
 | []=>by simp [firstI]
 | x::r=>by
  simp only [firstI,List.mem_cons,forall_eq_or_imp]
  split
  ·rename_i h;rw [firstI_zero r];exact⟨fun hr=>⟨h,hr⟩,fun hr=>hr.2⟩
  ·rename_i h;exact⟨fun hr=>absurd hr h,fun hr=>absurd hr.1 h⟩
section
variable {E : Oracle} (g : Good E)
include g
omit g in
theorem firstI_drop (l:List Int) (k:Nat) (h:k<l.length):firstI (l.drop k)=if l.getD k 0=0 then firstI (l.drop (k+1)) else l.getD k 0:=by
 rw [List.drop_eq_getElem_cons h]
 simp [firstI,List.getD,h]
end
end Go.Proofs.YtcbddkeiohdocaaGreatDoor.Co
/-
 Names: what both IsName give.
-/
namespace Go.Proofs.YtcbddkeiohdocaaGreatDoor.Co
open Go Go.Evl
theorem PickB.at {s:List UInt8} {i:Nat} {K:UInt8→Prop} (k:Nat) (hi:i=k) (h:k<s.length) (hk:K (s.getD k 0)):PickB s i K:=by
 subst hi
 exact⟨⟨_,by simp [List.getD,h],hk⟩⟩
theorem NextW.asc {s:List UInt8} {k:Nat} {a:Int→Nat→Prop} {b:Prop} (h:k<s.length) (ha:(s.getD k 0).toNat<128) (hk:a (s.getD k 0).toNat 1):NextW s k a b:=by
 refine⟨fun _=> ?_,fun hn=>absurd h hn⟩
 have e:(s.getD k 0)=s[k]:=by simp [List.getD,h]
 have hd:=decode_ascii ⟨s.toArray⟩ k (by simpa [ByteArray.size] using h) (by rw [e] at ha;exact ha)
 rw [hd]
 rw [e] at hk
 exact hk
theorem NextW.high {s:List UInt8} {k:Nat} {a:Int→Nat→Prop} {b:Prop} (h:k<s.length) (ha:128≤(s.getD k 0).toNat) (hk:∀(c:Int) (w:Nat),128≤c→1≤w→a c w):NextW s k a b:=by
 refine⟨fun _=> ?_,fun hn=>absurd h hn⟩
 have e:(s.getD k 0)=s[k]:=by simp [List.getD,h]
 have hd:=decode_high ⟨s.toArray⟩ k (by simpa [ByteArray.size] using h) (by rw [e] at ha;exact ha)
 exact hk _ _ (by omega) hd.2
theorem NextW.end' {s:List UInt8} {k:Nat} {a:Int→Nat→Prop} {b:Prop} (h:s.length≤k) (hk:b):NextW s k a b:=⟨fun hn=>absurd hn (by omega),fun _=>hk⟩
def okCh (k:Nat) (b:UInt8):Prop:=(65≤b.toNat∧b.toNat≤90)∨(97≤b.toNat∧b.toNat≤122)∨(0<k∧(b.toNat=95∨(48≤b.toNat∧b.toNat≤57)))
instance (k:Nat) (b:UInt8):Decidable (okCh k b):=by unfold okCh;infer_instance
def nameP (s:List UInt8):Prop:=0<s.length∧s.length≤24∧∀i,i<s.length→okCh i (s.getD i 0)
instance (s:List UInt8):Decidable (nameP s):=by unfold nameP;infer_instance
def isNameB (s:List UInt8):Bool:=decide (nameP s)
theorem isName_no {s:List UInt8} {k:Nat} (hk:k<s.length) (h:¬okCh k (s.getD k 0)):isNameB s=false:=decide_eq_false fun hn=>h (hn.2.2 k hk)
section
variable {E : Oracle} (g : Good E)
include g
theorem s_IsName (s:List UInt8):Fc E n_calendar_IsName [S s] (B (isNameB s)):=by
 refine g.fn rfl rfl ?_
 by_cases h0:0<s.length∧s.length≤24
 ·repeat' ((conv=>whnf);first
 | refine Yz ?_)
  refine LoopW.to (LoopW.upP g (fun _=>[(15,.it ⟨0,15,0⟩)]) (fun k=>[(⟨0,15,0⟩,.iter s k)]) (fun k=>∀i,i<k→okCh i (s.getD i 0)) s.length (fun k hk hp ih=> ?_) 0 (Nat.zero_le _) (fun i hi=>by omega)) rfl rfl
  by_cases hlt:k<s.length
  ·by_cases ha:(s.getD k 0).toNat<128
   ·by_cases hok:okCh k (s.getD k 0)
    ·have hp':∀i,i<k+1→okCh i (s.getD i 0):=fun i hi=>by
      by_cases e:i=k
      ·subst e;exact hok
      ·exact hp i (by omega)
     have ih:=ih hlt hp'
     unfold okCh at hok
     repeat' ((conv=>whnf);first
     | refine Yz ?_
      | (refine NextW.asc hlt ha ?_)
      | (refine Cmp.mk (fun h=> ?_) (fun h=> ?_))|(refine Rem.any (by omega) (fun r hr he=> ?_))|(refine Br.mk (fun h=> ?_) (fun h=> ?_))
      | (refine LoopW.to ih rfl rfl)
      | (exfalso;omega))
    ·have hno:=isName_no hlt hok
     unfold okCh at hok
     rw [hno]
     repeat' ((conv=>whnf);first
     | refine Yz ?_
      | (refine NextW.asc hlt ha ?_)
      | (refine Cmp.mk (fun h=> ?_) (fun h=> ?_))|(refine Rem.any (by omega) (fun r hr he=> ?_))|(refine Br.mk (fun h=> ?_) (fun h=> ?_))
      | (refine Ret.mk rfl)
      | (exfalso;omega))
   ·have hno:isNameB s=false:=isName_no hlt (by unfold okCh;omega)
    rw [hno]
    repeat' ((conv=>whnf);first
    | refine Yz ?_
     | (refine NextW.high hlt (by omega) (fun c w hc hw=> ?_))
     | (refine Cmp.mk (fun h=> ?_) (fun h=> ?_))|(refine Rem.any (by omega) (fun r hr he=> ?_))|(refine Br.mk (fun h=> ?_) (fun h=> ?_))
     | (refine Ret.mk rfl)
     | (exfalso;omega))
  ·have hk':k=s.length:=by omega
   subst hk'
   have hyes:isNameB s=true:=decide_eq_true ⟨h0.1,h0.2,hp⟩
   rw [hyes]
   repeat' ((conv=>whnf);first
   | refine Yz ?_
    | (refine NextW.end' (Nat.le_refl _) ?_)
    | (refine Ret.mk rfl))
 ·have hno:isNameB s=false:=decide_eq_false fun hn=>h0 ⟨hn.1,hn.2.1⟩
  rw [hno]
  repeat' ((conv=>whnf);first
  | refine Yz ?_
   | (refine Cmp.mk (fun h=> ?_) (fun h=> ?_))|(refine Rem.any (by omega) (fun r hr he=> ?_))|(refine Br.mk (fun h=> ?_) (fun h=> ?_))
   | (refine Ret.mk rfl)
   | (exfalso;omega))
theorem r_IsName (s:List UInt8):Fc E n_ref01_IsName [S s] (B (isNameB s)):=by
 refine g.fn rfl rfl ?_
 by_cases h0:0<s.length∧s.length≤24
 ·repeat' ((conv=>whnf);first
 | refine Yz ?_)
  refine LoopW.to (LoopW.upP g (fun k=>[(0,S s),(3,I k)]) (fun _=>[]) (fun k=>∀i,i<k→okCh i (s.getD i 0)) s.length (fun k hk hp ih=> ?_) 0 (Nat.zero_le _) (fun i hi=>by omega)) rfl rfl
  by_cases hlt:k<s.length
  ·by_cases hok:okCh k (s.getD k 0)
   ·have hp':∀i,i<k+1→okCh i (s.getD i 0):=fun i hi=>by
     by_cases e:i=k
     ·subst e;exact hok
     ·exact hp i (by omega)
    have ih:=ih hlt hp'
    unfold okCh at hok
    repeat' ((conv=>whnf);first
    | refine Yz ?_
     | (refine PickB.at k (by omega) hlt ?_)
     | (refine Cmp.mk (fun h=> ?_) (fun h=> ?_))|(refine Rem.any (by omega) (fun r hr he=> ?_))|(refine Br.mk (fun h=> ?_) (fun h=> ?_))
     | (refine LoopW.to ih rfl rfl)
     | (exfalso;omega))
   ·have hno:=isName_no hlt hok
    unfold okCh at hok
    rw [hno]
    repeat' ((conv=>whnf);first
    | refine Yz ?_
     | (refine PickB.at k (by omega) hlt ?_)
     | (refine Cmp.mk (fun h=> ?_) (fun h=> ?_))|(refine Rem.any (by omega) (fun r hr he=> ?_))|(refine Br.mk (fun h=> ?_) (fun h=> ?_))
     | (refine Ret.mk rfl)
     | (exfalso;omega))
  ·have hk':k=s.length:=by omega
   subst hk'
   have hyes:isNameB s=true:=decide_eq_true ⟨h0.1,h0.2,hp⟩
   rw [hyes]
   repeat' ((conv=>whnf);first
   | refine Yz ?_
    | (refine Ret.mk rfl))
 ·have hno:isNameB s=false:=decide_eq_false fun hn=>h0 ⟨hn.1,hn.2.1⟩
  rw [hno]
  repeat' ((conv=>whnf);first
  | refine Yz ?_
   | (refine Cmp.mk (fun h=> ?_) (fun h=> ?_))|(refine Rem.any (by omega) (fun r hr he=> ?_))|(refine Br.mk (fun h=> ?_) (fun h=> ?_))
   | (refine Ret.mk rfl)
   | (exfalso;omega))
end
end Go.Proofs.YtcbddkeiohdocaaGreatDoor.Co
/-
 Events of the office's journal: their form, and what both CheckEvent give.
-/
namespace Go.Proofs.YtcbddkeiohdocaaGreatDoor.Co
open Go Go.Evl
structure Evt where
 nu:Int
 ki:List UInt8
 ns:List (List UInt8)
 vs:List Int
 tx:List UInt8
 deriving DecidableEq
abbrev Ws (l:List (List UInt8)):V:= .d (.list l.length (l.map D.str))
def Evt.cells (e:Evt):List D:=[DI e.nu,.str e.ki,.list e.ns.length (e.ns.map D.str),.list e.vs.length (e.vs.map DI),.str e.tx]
abbrev Evv (e:Evt):V:= .d (.agg e.cells)
abbrev kEnter:List UInt8:=[101,110,116,101,114]
abbrev kRule:List UInt8:=[114,117,108,101]
abbrev kFollow:List UInt8:=[102,111,108,108,111,119]
abbrev kReverse:List UInt8:=[114,101,118,101,114,115,101]
abbrev kComplain:List UInt8:=[99,111,109,112,108,97,105,110]
abbrev kDecide:List UInt8:=[100,101,99,105,100,101]
def formN (k:List UInt8):Nat:=if k=kEnter then 2 else if k=kRule then 2 else if k=kFollow then 3 else if k=kReverse then 1 else if k=kComplain then 2 else if k=kDecide then 1 else 0
def formV (k:List UInt8):Nat:=if k=kEnter then 4 else if k=kRule then 4 else if k=kFollow then 4 else if k=kReverse then 1 else if k=kComplain then 1 else if k=kDecide then 2 else 0
def isKind (k:List UInt8):Bool:=decide (k=kEnter)||decide (k=kRule)||decide (k=kFollow)||decide (k=kReverse)||decide (k=kComplain)||decide (k=kDecide)
theorem kind_cases (k:List UInt8):k=kEnter∨k=kRule∨k=kFollow∨k=kReverse∨k=kComplain∨k=kDecide∨
  (k≠kEnter∧k≠kRule∧k≠kFollow∧k≠kReverse∧k≠kComplain∧k≠kDecide):=by
 by_cases h1:k=kEnter
 ·exact .inl h1
 by_cases h2:k=kRule
 ·exact .inr (.inl h2)
 by_cases h3:k=kFollow
 ·exact .inr (.inr (.inl h3))
 by_cases h4:k=kReverse
 ·exact .inr (.inr (.inr (.inl h4)))
 by_cases h5:k=kComplain
 ·exact .inr (.inr (.inr (.inr (.inl h5))))
 by_cases h6:k=kDecide
 ·exact .inr (.inr (.inr (.inr (.inr (.inl h6)))))
 exact .inr (.inr (.inr (.inr (.inr (.inr ⟨h1,h2,h3,h4,h5,h6⟩)))))
def nameless (l:List (List UInt8)):Bool:=l.any fun s=> !isNameB s
def farV (n:Int):Bool:=decide (n<0∨999999999<n)
def far (l:List Int):Bool:=l.any farV
def chkE (e:Evt):Int:=
 firstI [rng e.nu 1 1000,if !isKind e.ki then 13 else 0,if e.ns.length≠formN e.ki∨e.vs.length≠formV e.ki then 2 else 0,if nameless e.ns then 8 else 0,if far e.vs then 3 else 0,if e.tx≠[] then 1 else 0]
def idxI {α:Type} (p:α→Bool) (l:List α):Int:=match l.findIdx? p with
 | some i=>i
 | none=> -1
theorem idxI_at {α:Type} {p:α→Bool} {l:List α} {k:Nat} (hk:k<l.length) (h:p l[k]=true) (hn:∀j,(hj:j<k)→p (l[j]'(by omega))=false):idxI p l=k:=by
 have:l.findIdx? p=some k:=List.findIdx?_eq_some_iff_getElem.2 ⟨hk,h,fun j hj=>by simp [hn j hj]⟩
 simp [idxI,this]
theorem idxI_none {α:Type} {p:α→Bool} {l:List α} (hn:∀j,(hj:j<l.length)→p l[j]=false):idxI p l= -1:=by
 have:l.findIdx? p=none:=List.findIdx?_eq_none_iff.2 fun x hx=>by
  obtain⟨j,hj,rfl⟩:=List.mem_iff_getElem.1 hx
  exact hn j hj
 simp [idxI,this]
theorem idxI_any {α:Type} (p:α→Bool) (l:List α):decide (0≤idxI p l)=l.any p:=by
 unfold idxI
 cases h:l.findIdx? p with
 | none=>
  have h2:l.any p=false:=by
   rw [List.any_eq_false]
   intro x hx
   have:=List.findIdx?_eq_none_iff.1 h x hx
   simp [this]
  rw [h2];rfl
 | some i=>
  obtain⟨hi,hp,_⟩:=List.findIdx?_eq_some_iff_getElem.1 h
  have h2:l.any p=true:=List.any_eq_true.2 ⟨l[i],List.getElem_mem hi,hp⟩
  rw [h2];simp
theorem Pick.ws {l:List (List UInt8)} {i:Int} {K:D→Prop} (k:Nat) (hi:i=k) (h:k<l.length) (hk:K (.str l[k])):Pick (l.map D.str) (i.toNat*1) K:=by
 subst hi
 exact⟨⟨_,by simp [h],hk⟩⟩
theorem Pick.iw {l:List Int} {i:Int} {K:D→Prop} (k:Nat) (hi:i=k) (h:k<l.length) (hk:K (DI l[k])):Pick (l.map DI) (i.toNat*1) K:=by
 subst hi
 exact⟨⟨_,by simp [h],hk⟩⟩
section
variable {E : Oracle} (g : Good E)
include g
set_option maxRecDepth 100000
theorem s_owhen (b:Bool) (e:Int):Fc E n_office_when [B b,I e] (I (if b then e else 0)):=by
 refine g.fn rfl rfl ?_
 cases b
 all_goals repeat' ((conv=>whnf);first
 | refine Yz ?_
  | (refine Ret.mk rfl))
theorem s_owithin (n a b:Int):Fc E n_office_within [I n,I a,I b] (I (rng n a b)):=by
 refine g.fn rfl rfl ?_
 repeat' ((conv=>whnf);first
 | refine Yz ?_
  | (refine Cmp.mk (fun h=> ?_) (fun h=> ?_))|(refine Rem.any (by omega) (fun r hr he=> ?_))|(refine Br.mk (fun h=> ?_) (fun h=> ?_))
  | (refine CallI.of (s_owhen g _ _) ?_)
  | (refine Ret.mk ?_))
 all_goals (simp only [V.d.injEq,D.int.injEq,true_and,rng];simp_all)
theorem s_ofirst (l:List Int) (hl:l.length≤140737488355328):Fc E n_office_first [LI l] (I (firstI l)):=by
 refine g.fn rfl rfl ?_
 conv=>whnf
 refine LoopW.upP g (fun k=>[(5,LI l),(6,I l.length),(7,I k)]) (fun _=>[]) (fun k=>firstI l=firstI (l.drop k)) l.length (fun k hk hp ih=> ?_) 0 (Nat.zero_le _) (by simp)
 by_cases hlt:k<l.length
 ·have hd:=firstI_drop l k hlt
  repeat' ((conv=>whnf);first
  | refine Yz ?_
   | (refine Pick.int (by omega) ?_)
   | (refine Cmp.mk (fun h=> ?_) (fun h=> ?_))|(refine Rem.any (by omega) (fun r hr he=> ?_))|(refine Br.mk (fun h=> ?_) (fun h=> ?_))
   | (refine LoopW.to (ih hlt ?_) ?_ rfl)
   | (refine Ret.mk ?_))
  all_goals simp_all
 ·have:l.drop k=[]:=List.drop_eq_nil_of_le (by omega)
  repeat' ((conv=>whnf);first
  | refine Yz ?_
   | (refine Ret.mk ?_))
  simp [hp,this,firstI]
theorem s_onamed (s:List UInt8):Fc E n_office_named [S s] (I (if !isNameB s then 8 else 0)):=by
 refine g.fn rfl rfl ?_
 have h:=s_IsName g s
 repeat' ((conv=>whnf);first
 | refine Yz ?_
  | (apply CallI.of;assumption)
  | (refine CallI.of (s_owhen g _ _) ?_)
  | (refine Ret.mk rfl))
theorem s_IndexFuncS {f:Nat} {p:List UInt8→Bool} {l:List (List UInt8)} (hl:l.length≤1000000) (hf:∀x∈l,Fc E f [S x] (B (p x))):Fc E n_slices_IndexFunc_Lstring_string [Ws l,.d (.fn f)] (I (idxI p l)):=by
 refine g.fn rfl rfl ?_
 conv=>whnf
 refine LoopW.upP g (fun k=>[(0,Ws l),(1,.d (.fn f)),(7,I l.length),(8,I k)]) (fun _=>[]) (fun k=>∀j,(hj:j<k)→(hj':j<l.length)→p l[j]=false) l.length (fun k hk hp ih=> ?_) 0 (Nat.zero_le _) (fun j hj=>by omega)
 by_cases hlt:k<l.length
 ·have hx:=hf l[k] (List.getElem_mem hlt)
  cases hb:p l[k] with
  | true=>
   rw [hb] at hx
   have hi:=idxI_at (p:=p) hlt hb fun j hj=>hp j hj (by omega)
   rw [hi]
   repeat' ((conv=>whnf);first
   | refine Yz ?_
    | (refine Pick.ws k rfl hlt ?_)
    | (apply CallI.of;assumption)
    | (refine Ret.mk rfl))
  | false=>
   rw [hb] at hx
   have ih:=ih hlt fun j hj hj'=>by
    by_cases e:j=k
    ·subst e;exact hb
    ·exact hp j (by omega) hj'
   repeat' ((conv=>whnf);first
   | refine Yz ?_
    | (refine Pick.ws k rfl hlt ?_)
    | (apply CallI.of;assumption)
    | (refine LoopW.to ih rfl rfl))
 ·have hi:=idxI_none (p:=p) (l:=l) fun j hj=>hp j (by omega) hj
  rw [hi]
  repeat' ((conv=>whnf);first
  | refine Yz ?_
   | (refine Ret.mk rfl))
theorem s_ContainsFuncS {f:Nat} {p:List UInt8→Bool} {l:List (List UInt8)} (hl:l.length≤1000000) (hf:∀x∈l,Fc E f [S x] (B (p x))):Fc E n_slices_ContainsFunc_Lstring_string [Ws l,.d (.fn f)] (B (l.any p)):=by
 refine g.fn rfl rfl ?_
 have h:=s_IndexFuncS g hl hf
 rw [←idxI_any]
 repeat' ((conv=>whnf);first
 | refine Yz ?_
  | (apply CallI.of;assumption)
  | (refine Cmp.mk (fun h=> ?_) (fun h=> ?_))|(refine Rem.any (by omega) (fun r hr he=> ?_))|(refine Br.mk (fun h=> ?_) (fun h=> ?_))
  | (refine Ret.mk ?_))
 all_goals simp_all
theorem s_IndexFuncI {f:Nat} {p:Int→Bool} {l:List Int} (hl:l.length≤1000000) (hf:∀x∈l,Fc E f [I x] (B (p x))):Fc E n_slices_IndexFunc_Lint_int [LI l,.d (.fn f)] (I (idxI p l)):=by
 refine g.fn rfl rfl ?_
 conv=>whnf
 refine LoopW.upP g (fun k=>[(0,LI l),(1,.d (.fn f)),(7,I l.length),(8,I k)]) (fun _=>[]) (fun k=>∀j,(hj:j<k)→(hj':j<l.length)→p l[j]=false) l.length (fun k hk hp ih=> ?_) 0 (Nat.zero_le _) (fun j hj=>by omega)
 by_cases hlt:k<l.length
 ·have hx:=hf l[k] (List.getElem_mem hlt)
  cases hb:p l[k] with
  | true=>
   rw [hb] at hx
   have hi:=idxI_at (p:=p) hlt hb fun j hj=>hp j hj (by omega)
   rw [hi]
   repeat' ((conv=>whnf);first
   | refine Yz ?_
    | (refine Pick.iw k rfl hlt ?_)
    | (apply CallI.of;assumption)
    | (refine Ret.mk rfl))
  | false=>
   rw [hb] at hx
   have ih:=ih hlt fun j hj hj'=>by
    by_cases e:j=k
    ·subst e;exact hb
    ·exact hp j (by omega) hj'
   repeat' ((conv=>whnf);first
   | refine Yz ?_
    | (refine Pick.iw k rfl hlt ?_)
    | (apply CallI.of;assumption)
    | (refine LoopW.to ih rfl rfl))
 ·have hi:=idxI_none (p:=p) (l:=l) fun j hj=>hp j (by omega) hj
  rw [hi]
  repeat' ((conv=>whnf);first
  | refine Yz ?_
   | (refine Ret.mk rfl))
theorem s_ContainsFuncI {f:Nat} {p:Int→Bool} {l:List Int} (hl:l.length≤1000000) (hf:∀x∈l,Fc E f [I x] (B (p x))):Fc E n_slices_ContainsFunc_Lint_int [LI l,.d (.fn f)] (B (l.any p)):=by
 refine g.fn rfl rfl ?_
 have h:=s_IndexFuncI g hl hf
 rw [←idxI_any]
 repeat' ((conv=>whnf);first
 | refine Yz ?_
  | (apply CallI.of;assumption)
  | (refine Cmp.mk (fun h=> ?_) (fun h=> ?_))|(refine Rem.any (by omega) (fun r hr he=> ?_))|(refine Br.mk (fun h=> ?_) (fun h=> ?_))
  | (refine Ret.mk ?_))
 all_goals simp_all
theorem s_ce1 (s:List UInt8):Fc E n_office_CheckEvent_1 [S s] (B (!isNameB s)):=by
 refine g.fn rfl rfl ?_
 have h:=s_onamed g s
 cases hb:isNameB s
 all_goals
  rw [hb] at h
  repeat' ((conv=>whnf);first
  | refine Yz ?_
   | (apply CallI.of;assumption)
   | (refine Ret.mk rfl))
theorem s_ce2 (n:Int):Fc E n_office_CheckEvent_2 [I n] (B (farV n)):=by
 refine g.fn rfl rfl ?_
 have h:=s_owithin g n 0 999999999
 by_cases hb:n<0∨999999999<n
 all_goals
  simp only [rng,hb,if_true,if_false] at h
  simp only [farV,hb,decide_true,decide_false]
  repeat' ((conv=>whnf);first
  | refine Yz ?_
   | (apply CallI.of;assumption)
   | (refine Ret.mk rfl))
abbrev kdM:List (D×V):=[(.str kEnter,.agg [.d (DI 2),.d (DI 4),.fn n_office_Register_asksEntry [] [],.fn n_office_Register_doesEntry [] []]),
 (.str kRule,.agg [.d (DI 2),.d (DI 4),.fn n_office_Register_asksEntry [] [],.fn n_office_Register_doesEntry [] []]),
 (.str kFollow,.agg [.d (DI 3),.d (DI 4),.fn n_office_Register_asksEntry [] [],.fn n_office_Register_doesEntry [] []]),
 (.str kReverse,.agg [.d (DI 1),.d (DI 1),.fn n_office_Register_asksReverse [] [],.fn n_office_kinds_1 [] []]),
 (.str kComplain,.agg [.d (DI 2),.d (DI 1),.fn n_office_Register_asksComplaint [] [],.fn n_office_Register_doesComplaint [] []]),
 (.str kDecide,.agg [.d (DI 1),.d (DI 2),.fn n_office_Register_asksDecision [] [],.fn n_office_Register_doesDecision [] []])]
omit g in
theorem kd_none {k:List UInt8} (h:k≠kEnter∧k≠kRule∧k≠kFollow∧k≠kReverse∧k≠kComplain∧k≠kDecide):findE (.str k) kdM=some none:=by
 have e:∀t,k≠t→(k==t)=false:=fun t h=>beq_eq_false_iff_ne.2 h
 obtain⟨h1,h2,h3,h4,h5,h6⟩:=h
 simp only [findE,eqD,e _ h1,e _ h2,e _ h3,e _ h4,e _ h5,e _ h6]
theorem CallS.kinds {cx:Cx} {slot:Nat} {m:Mem} {K:V→Mem→Prop} (hf:Go.Evl.freeK cx.lv slot m=0) (k:K (.mp ⟨cx.lv,slot,0⟩) (m++[(⟨cx.lv,slot,0⟩,.map kdM)])):CallS E n_office_kinds [] cx slot m K:=by
 refine⟨.mp ⟨0,1,0⟩,[(⟨0,1,0⟩,.map kdM)],(.mp ⟨cx.lv,slot,0⟩,m++[(⟨cx.lv,slot,0⟩,.map kdM)]),g.lim.of_iter 1000 _ _ (by kernel_rfl),?_,k⟩
 unfold Evl.settle
 rw [hf]
 rfl
set_option maxHeartbeats 4000000 in
theorem s_CheckEvent (e:Evt) (hn:e.ns.length≤1000000) (hv:e.vs.length≤1000000):Fc E n_office_CheckEvent [Evv e] (I (chkE e)):=by
 obtain⟨nu,ki,ns,vs,tx⟩:=e
 change Fc E n_office_CheckEvent [.d (.agg [DI nu,.str ki,.list ns.length (ns.map D.str),.list vs.length (vs.map DI),.str tx])] _
 dsimp only at hn hv
 refine g.fn rfl rfl ?_
 have h1:=s_ContainsFuncS g (f:=n_office_CheckEvent_1) (p:=fun s=> !isNameB s) hn fun x _=>s_ce1 g x
 have h2:=s_ContainsFuncI g (f:=n_office_CheckEvent_2) (p:=farV) hv fun x _=>s_ce2 g x
 have h3:=s_owithin g nu 1 1000
 have hlast:∀a b c d e f:Int,Fc E n_office_first [.d (.list 6 [DI a,DI b,DI c,DI d,DI e,DI f])] (I (firstI [a,b,c,d,e,f])):=fun a b c d e f=>s_ofirst g [a,b,c,d,e,f] (by simp)
 rcases kind_cases ki with rfl|rfl|rfl|rfl|rfl|rfl|hk
 all_goals
  first
  | (have hfind:=kd_none hk)
  | (have hfind:True:=trivial)
  repeat' ((conv=>whnf);first
  | refine Yz ?_
   | (refine CallS.kinds g rfl ?_)
   | (refine Find.mk ⟨_,rfl,?_⟩)
   | (refine Find.mk ⟨_,hfind,?_⟩)
   | (apply CallI.of;assumption)
   | (refine CallI.of (s_owhen g _ _) ?_)
   | (refine CallI.of (hlast _ _ _ _ _ _) ?_)
   | (refine Cmp.mk (fun h=> ?_) (fun h=> ?_))|(refine Rem.any (by omega) (fun r hr he=> ?_))|(refine Br.mk (fun h=> ?_) (fun h=> ?_))
   | (refine Ret.mk ?_))
  all_goals try norm_cast at *
  all_goals (simp_all [chkE,isKind,formN,formV,nameless,far];done)
theorem r_Outside (n a b:Int):Fc E n_ref10_Outside [I n,I a,I b] (B (decide (n<a∨b<n))):=by
 refine g.fn rfl rfl ?_
 repeat' ((conv=>whnf);first
 | refine Yz ?_
  | (refine Cmp.mk (fun h=> ?_) (fun h=> ?_))|(refine Rem.any (by omega) (fun r hr he=> ?_))|(refine Br.mk (fun h=> ?_) (fun h=> ?_))
  | (refine Ret.mk ?_))
 all_goals simp_all
abbrev Frm (k:List UInt8):V:= .d (.agg [DI (formN k),DI (formV k),.bool (isKind k)])
theorem r_Form (k:List UInt8):Fc E n_ref10_Form [S k] (Frm k):=by
 refine g.fn rfl rfl ?_
 rcases kind_cases k with rfl|rfl|rfl|rfl|rfl|rfl|⟨h1,h2,h3,h4,h5,h6⟩
 all_goals
  repeat' ((conv=>whnf);first
  | refine Yz ?_
   | (refine Cmp.ff (by assumption) ?_)
   | (refine Ret.mk ?_))
 all_goals first |rfl|simp [formN,formV,isKind,h1,h2,h3,h4,h5,h6]
set_option maxHeartbeats 4000000 in
theorem r_CheckEvent (e:Evt) (hn:e.ns.length≤1000000) (hv:e.vs.length≤1000000):Fc E n_ref10_CheckEvent [Evv e] (I (chkE e)):=by
 obtain⟨nu,ki,ns,vs,tx⟩:=e
 change Fc E n_ref10_CheckEvent [.d (.agg [DI nu,.str ki,.list ns.length (ns.map D.str),.list vs.length (vs.map DI),.str tx])] _
 dsimp only at hn hv
 refine g.fn rfl rfl ?_
 have h1:=r_Outside g nu 1 1000
 have h2:Fc E n_ref10_Form [S ki] (.d (.agg [DI (formN ki),DI (formV ki),.bool (isKind ki)])):=r_Form g ki
 by_cases hnu:nu<1∨1000<nu
 ·rw [decide_eq_true hnu] at h1
  have hr:rng nu 1 1000=3:=if_pos hnu
  repeat' ((conv=>whnf);first
  | refine Yz ?_
   | (apply CallI.of;assumption)
   | (refine Ret.mk ?_))
  simp [chkE,firstI,hr]
 rw [decide_eq_false hnu] at h1
 have hr:rng nu 1 1000=0:=if_neg hnu
 cases hk:isKind ki with
 | false=>
  rw [hk] at h2
  repeat' ((conv=>whnf);first
  | refine Yz ?_
   | (apply CallI.of;assumption)
   | (refine Ret.mk ?_))
  simp [chkE,firstI,hr,hk]
 | true=>
  rw [hk] at h2
  by_cases hc:ns.length=formN ki∧vs.length=formV ki
  ·obtain⟨hcn,hcv⟩:=hc
   repeat' ((conv=>whnf);first
   | refine Yz ?_
    | (apply CallI.of;assumption))
   refine LoopW.to (LoopW.upP g (fun k=>[(1,.ptr ⟨0,1,0⟩ 0 0),(3,.ptr ⟨0,3,0⟩ 0 0),(4,I k)]) (fun _=>_) (fun k=>∀j,(hj:j<k)→(hj':j<ns.length)→isNameB ns[j]=true) ns.length (fun k hkl hp ih=> ?_) 0 (Nat.zero_le _) (fun j hj=>by omega)) rfl rfl
   by_cases hlt:k<ns.length
   ·have hx:=r_IsName g ns[k]
    cases hb:isNameB ns[k] with
    | true=>
     rw [hb] at hx
     have ih:=ih hlt fun j hj hj'=>by
      by_cases e:j=k
      ·subst e;exact hb
      ·exact hp j (by omega) hj'
     repeat' ((conv=>whnf);first
     | refine Yz ?_
      | (refine Pick.ws k rfl hlt ?_)
      | (apply CallI.of;assumption)
      | (refine LoopW.to ih rfl rfl))
    | false=>
     rw [hb] at hx
     have hnl:nameless ns=true:=List.any_eq_true.2 ⟨ns[k],List.getElem_mem hlt,by simp [hb]⟩
     repeat' ((conv=>whnf);first
     | refine Yz ?_
      | (refine Pick.ws k rfl hlt ?_)
      | (apply CallI.of;assumption)
      | (refine Ret.mk ?_))
     simp [chkE,firstI,hr,hk,hcn,hcv,hnl]
   ·have hnl:nameless ns=false:=by
     refine List.any_eq_false.2 fun x hx=> ?_
     obtain⟨j,hj,rfl⟩:=List.mem_iff_getElem.1 hx
     simp [hp j (by omega) hj]
    repeat' ((conv=>whnf);first
    | refine Yz ?_)
    refine LoopW.to (LoopW.upP g (fun k=>[(1,.ptr ⟨0,1,0⟩ 0 0),(3,.ptr ⟨0,3,0⟩ 0 0),(5,I k)]) (fun _=>_) (fun k=>∀j,(hj:j<k)→(hj':j<vs.length)→farV vs[j]=false) vs.length (fun k hk2 hp2 ih2=> ?_) 0 (Nat.zero_le _) (fun j hj=>by omega)) rfl rfl
    by_cases hlt2:k<vs.length
    ·have hx:=r_Outside g vs[k] 0 999999999
     change Fc E n_ref10_Outside _ (B (farV vs[k])) at hx
     cases hb:farV vs[k] with
     | false=>
      rw [hb] at hx
      have ih2:=ih2 hlt2 fun j hj hj'=>by
       by_cases e:j=k
       ·subst e;exact hb
       ·exact hp2 j (by omega) hj'
      repeat' ((conv=>whnf);first
      | refine Yz ?_
       | (refine Pick.iw k rfl hlt2 ?_)
       | (apply CallI.of;assumption)
       | (refine LoopW.to ih2 rfl rfl))
     | true=>
      rw [hb] at hx
      have hfr:far vs=true:=List.any_eq_true.2 ⟨vs[k],List.getElem_mem hlt2,hb⟩
      repeat' ((conv=>whnf);first
      | refine Yz ?_
       | (refine Pick.iw k rfl hlt2 ?_)
       | (apply CallI.of;assumption)
       | (refine Ret.mk ?_))
      simp [chkE,firstI,hr,hk,hcn,hcv,hnl,hfr]
    ·have hfr:far vs=false:=by
      refine List.any_eq_false.2 fun x hx=> ?_
      obtain⟨j,hj,rfl⟩:=List.mem_iff_getElem.1 hx
      simp [hp2 j (by omega) hj]
     by_cases htx:tx=[]
     ·subst htx
      repeat' ((conv=>whnf);first
      | refine Yz ?_
       | (refine Ret.mk ?_))
      simp [chkE,firstI,hr,hk,hcn,hcv,hnl,hfr]
     ·repeat' ((conv=>whnf);first
     | refine Yz ?_
       | (refine Cmp.tt htx ?_)
       | (refine Cmp.ff htx ?_)
       | (refine Ret.mk ?_))
      simp [chkE,firstI,hr,hk,hcn,hcv,hnl,hfr,htx]
  ·have hc2:ns.length≠formN ki∨vs.length≠formV ki:=by omega
   repeat' ((conv=>whnf);first
   | refine Yz ?_
    | (apply CallI.of;assumption)
    | (refine Cmp.mk (fun h=> ?_) (fun h=> ?_))|(refine Rem.any (by omega) (fun r hr he=> ?_))|(refine Br.mk (fun h=> ?_) (fun h=> ?_))
    | (refine Ret.mk ?_))
   all_goals try norm_cast at *
   all_goals (simp_all [chkE,firstI];done)
end
end Go.Proofs.YtcbddkeiohdocaaGreatDoor.Co
/-
 Digits: their bytes, numbers in so many digits; bytes that are added and taken away.
-/
namespace Go.Proofs.YtcbddkeiohdocaaGreatDoor.Co
open Go Go.Evl
end Go.Proofs.YtcbddkeiohdocaaGreatDoor.Co
/-
 Messages: numbers of so many digits and minutes, printed and read.
-/
namespace Go.Proofs.YtcbddkeiohdocaaGreatDoor.Co
open Go Go.Evl
end Go.Proofs.YtcbddkeiohdocaaGreatDoor.Co
/-
 Digits of numbers, plain.
-/
namespace Go.Proofs.YtcbddkeiohdocaaGreatDoor.Co
open Go Go.Evl
end Go.Proofs.YtcbddkeiohdocaaGreatDoor.Co
/-
 Decimal numbers of at most nine digits without leading zeros: what a text says, and the text.
-/
namespace Go.Proofs.YtcbddkeiohdocaaGreatDoor.Co
open Go Go.Evl
end Go.Proofs.YtcbddkeiohdocaaGreatDoor.Co
/-
 Integers that the program reads, plain.
-/
namespace Go.Proofs.YtcbddkeiohdocaaGreatDoor.Co
open Go Go.Evl
end Go.Proofs.YtcbddkeiohdocaaGreatDoor.Co
/-
 The office's numbers and checksums: what the program's functions and the reference's give.
-/
namespace Go.Proofs.YtcbddkeiohdocaaGreatDoor.Co
open Go Go.Evl
end Go.Proofs.YtcbddkeiohdocaaGreatDoor.Co
/-
 Is a weekday in a mask? Calls whose results live in the caller's memory.
-/
namespace Go.Proofs.YtcbddkeiohdocaaGreatDoor.Co
open Go Go.Evl
theorem CallS.of {E:Oracle} {f:Nat} {args:List V} {cx:Cx} {slot:Nat} {m:Mem} {K:V→Mem→Prop} (h:In E 0 f args [] fun v m'=>Some' (Go.Evl.settle cx slot 0 m m' v) fun p=>K p.1 p.2):CallS E f args cx slot m K:=by
 obtain⟨v,m',h1,p,h2,h3⟩:=h
 exact⟨v,m',p,h1,h2,h3⟩
end Go.Proofs.YtcbddkeiohdocaaGreatDoor.Co
/-
 Messages: requests and lines, checked.
-/
namespace Go.Proofs.YtcbddkeiohdocaaGreatDoor.Co
open Go Go.Evl
structure Rqt where
 (nm ca ki te pa li:List UInt8)
 (fr to da mi se si no:Int)
 deriving DecidableEq
def Rqt.cells (q:Rqt):List D:=[.str q.nm,.str q.ca,.str q.ki,.str q.te,.str q.pa,.str q.li,DI q.fr,DI q.to,DI q.da,DI q.mi,DI q.se,DI q.si,DI q.no]
structure Lnt where
 ac:List UInt8
 rq:Rqt
def Lnt.cells (l:Lnt):List D:= .str l.ac::l.rq.cells
end Go.Proofs.YtcbddkeiohdocaaGreatDoor.Co
/-
 The parts of a text between the places of one byte: strings.Split's, told by recursion.
-/
namespace Go.Evl
open Go Go.Lib
end Go.Evl
/-
 Messages: the parts of a text between blanks.
-/
namespace Go.Proofs.YtcbddkeiohdocaaGreatDoor.Co
open Go Go.Evl
end Go.Proofs.YtcbddkeiohdocaaGreatDoor.Co
/-
 The office's words and bodies of events: what the program's functions and the reference's give.
-/
namespace Go.Proofs.YtcbddkeiohdocaaGreatDoor.Co
open Go Go.Evl
end Go.Proofs.YtcbddkeiohdocaaGreatDoor.Co
/-
 The office's words: split, joined, counted up; integers.
-/
namespace Go.Proofs.YtcbddkeiohdocaaGreatDoor.Co
open Go Go.Evl
end Go.Proofs.YtcbddkeiohdocaaGreatDoor.Co
/-
 The words of an event, plain.
-/
namespace Go.Proofs.YtcbddkeiohdocaaGreatDoor.Co
open Go Go.Evl
end Go.Proofs.YtcbddkeiohdocaaGreatDoor.Co
/-
 The reference's integers.
-/
namespace Go.Proofs.YtcbddkeiohdocaaGreatDoor.Co
open Go Go.Evl
end Go.Proofs.YtcbddkeiohdocaaGreatDoor.Co
/-
 The reference's parser of events.
-/
namespace Go.Proofs.YtcbddkeiohdocaaGreatDoor.Co
open Go Go.Evl
end Go.Proofs.YtcbddkeiohdocaaGreatDoor.Co
/-
 Texts in lists.
-/
namespace Go.Proofs.YtcbddkeiohdocaaGreatDoor.Co
open Go Go.Evl
end Go.Proofs.YtcbddkeiohdocaaGreatDoor.Co
/-
 The program's parser of events.
-/
namespace Go.Proofs.YtcbddkeiohdocaaGreatDoor.Co
open Go Go.Evl
end Go.Proofs.YtcbddkeiohdocaaGreatDoor.Co
/-
 Plain laws: the lines of a text, each with its line feed.
-/
namespace Go.Proofs.YtcbddkeiohdocaaGreatDoor.Co
open Go Go.Evl
end Go.Proofs.YtcbddkeiohdocaaGreatDoor.Co
/-
 A text cut off at its last line feed.
-/
namespace Go.Proofs.YtcbddkeiohdocaaGreatDoor.Co
open Go Go.Evl
end Go.Proofs.YtcbddkeiohdocaaGreatDoor.Co
/-
 One line of a log: what both read of it.
-/
namespace Go.Proofs.YtcbddkeiohdocaaGreatDoor.Co
open Go Go.Evl
end Go.Proofs.YtcbddkeiohdocaaGreatDoor.Co
/-
 One line of a log: recorded (the program's).
-/
namespace Go.Proofs.YtcbddkeiohdocaaGreatDoor.Co
open Go Go.Evl
end Go.Proofs.YtcbddkeiohdocaaGreatDoor.Co
/-
 One line of a log: record (the reference's).
-/
namespace Go.Proofs.YtcbddkeiohdocaaGreatDoor.Co
open Go Go.Evl
end Go.Proofs.YtcbddkeiohdocaaGreatDoor.Co
/-
 What a call leaves: an object of the caller's, a row.
-/
namespace Go.Proofs.YtcbddkeiohdocaaGreatDoor.Co
open Go Go.Evl
theorem settle_low {cx:Cx} {slot lo:Nat} {old m:Mem} {o:Evl.Id} {v:V} (hi:Go.Evl.ids v=[o]) (hr:Go.Evl.ren [] v=v) (h:o.lv<lo):Go.Evl.settle cx slot lo old m v=some (v,old):=by
 have hn:¬lo≤o.lv:=by omega
 have hr':Go.Evl.reach lo m 64 (Go.Evl.ids v) []=[]:=by
  rw [hi]
  simp [Go.Evl.reach,hn]
 unfold Go.Evl.settle
 simp only [hr']
 rw [if_pos (by rw [hi];simp [Go.Evl.within,Go.Evl.movable,Go.Evl.onceB,h])]
 simp [Go.Evl.number,hr,Go.Evl.moved]
theorem Some'.low {cx:Cx} {slot lo:Nat} {old m:Mem} {o:Evl.Id} {v:V} {K:V×Mem→Prop} (hi:Go.Evl.ids v=[o]) (hr:Go.Evl.ren [] v=v) (h:o.lv<lo) (k:K (v,old)):Some' (Go.Evl.settle cx slot lo old m v) K:=⟨_,settle_low hi hr h,k⟩
end Go.Proofs.YtcbddkeiohdocaaGreatDoor.Co
/-
 An event's body and record, printed.
-/
namespace Go.Proofs.YtcbddkeiohdocaaGreatDoor.Co
open Go Go.Evl
end Go.Proofs.YtcbddkeiohdocaaGreatDoor.Co
/-
 Rows of records; the first of errors.
-/
namespace Go.Proofs.YtcbddkeiohdocaaGreatDoor.Co
open Go Go.Evl
theorem flatR_length {α:Type} (cell:α→List D) (w:Nat) (hw:∀a,(cell a).length=w):∀l:List α,(l.flatMap cell).length=l.length*w
 | []=>by simp
 | c::r=>by rw [List.flatMap_cons,List.length_append,hw,flatR_length cell w hw r,List.length_cons,Nat.succ_mul];omega
theorem flatR_drop {α:Type} (cell:α→List D) (w:Nat) (hw:∀a,(cell a).length=w):∀(l:List α) (k:Nat),(l.flatMap cell).drop (k*w)=(l.drop k).flatMap cell
 | l,0=>by simp
 | [],k+1=>by simp
 | c::r,k+1=>by
  rw [List.flatMap_cons,List.drop_succ_cons,←flatR_drop cell w hw r k,Nat.succ_mul,Nat.add_comm,←List.drop_drop]
  congr 1
  rw [List.drop_append_of_le_length (by rw [hw];exact Nat.le_refl _),List.drop_of_length_le (by rw [hw];exact Nat.le_refl _)]
  rfl
theorem flatR_win {α:Type} (cell:α→List D) (w:Nat) (hw:∀a,(cell a).length=w) (l:List α) (k:Nat) (h:k<l.length):win (l.flatMap cell) (k*w) w=cell l[k]:=by
 unfold win
 rw [flatR_drop cell w hw,List.drop_eq_getElem_cons h,List.flatMap_cons,List.take_append_of_le_length (by rw [hw];exact Nat.le_refl _),List.take_of_length_le (by rw [hw];exact Nat.le_refl _)]
theorem flatR_get {α:Type} (cell:α→List D) (w:Nat) (hw:∀a,(cell a).length=w) (l:List α) (k j:Nat) (h:k<l.length) (hj:j<w):(l.flatMap cell)[k*w+j]? =(cell l[k])[j]? :=by
 rw [←List.getElem?_drop,flatR_drop cell w hw,List.drop_eq_getElem_cons h,List.flatMap_cons,List.getElem?_append_left (by rw [hw];exact hj)]
theorem PickW.rec {α:Type} {cell:α→List D} {w:Nat} (hw:∀a,(cell a).length=w) {l:List α} {i:Int} {K:List D→Prop} (k:Nat) (hi:i=k) (h:k<l.length) (hk:K (cell l[k])):PickW (l.flatMap cell) (i.toNat*w) w K:=by
 subst hi
 rw [Int.toNat_natCast]
 have h1:=flatR_length cell w hw l
 refine⟨?_,by rw [flatR_win cell w hw l k h];exact hk⟩
 have h2:(k+1)*w≤l.length*w:=Nat.mul_le_mul_right _ h
 rw [Nat.succ_mul] at h2
 omega
theorem PickW.rec0 {α:Type} {cell:α→List D} {w:Nat} (hw:∀a,(cell a).length=w) {l:List α} {i:Int} {K:List D→Prop} (k:Nat) (hi:i=k) (h:k<l.length) (hk:K (cell l[k])):PickW (l.flatMap cell) ((0+i.toNat)*w) w K:=by
 rw [Nat.zero_add];exact PickW.rec hw k hi h hk
theorem Pick.rec {α:Type} {cell:α→List D} {w:Nat} (hw:∀a,(cell a).length=w) {l:List α} {i:Int} {j:Nat} {K:D→Prop} {d:D} (k:Nat) (hi:i=k) (h:k<l.length) (hj:(cell l[k])[j]? =some d) (hk:K d):Pick (l.flatMap cell) (i.toNat*w+j) K:=by
 subst hi
 rw [Int.toNat_natCast]
 have hlt:j<w:=by
  have:=(List.getElem?_eq_some_iff.1 hj).1
  rwa [hw] at this
 exact⟨⟨d,by rw [flatR_get cell w hw l k j h hlt];exact hj,hk⟩⟩
theorem Pick.rec0 {α:Type} {cell:α→List D} {w:Nat} (hw:∀a,(cell a).length=w) {l:List α} {i:Int} {j:Nat} {K:D→Prop} {d:D} (k:Nat) (hi:i=k) (h:k<l.length) (hj:(cell l[k])[j]? =some d) (hk:K d):Pick (l.flatMap cell) ((0+i.toNat)*w+j) K:=by
 rw [Nat.zero_add];exact Pick.rec hw k hi h hj hk
end Go.Proofs.YtcbddkeiohdocaaGreatDoor.Co
/-
 An event's body and a log, as the reference prints them.
-/
namespace Go.Proofs.YtcbddkeiohdocaaGreatDoor.Co
open Go Go.Evl
end Go.Proofs.YtcbddkeiohdocaaGreatDoor.Co
/-
 A log, as the reference prints it.
-/
namespace Go.Proofs.YtcbddkeiohdocaaGreatDoor.Co
open Go Go.Evl
abbrev LE (l:List Evt):V:= .d (.list l.length (l.flatMap Evt.cells))
theorem evw (e:Evt):e.cells.length=5:=rfl
end Go.Proofs.YtcbddkeiohdocaaGreatDoor.Co
/-
 Short events, and equal ones.
-/
namespace Go.Proofs.YtcbddkeiohdocaaGreatDoor.Co
open Go Go.Evl
def shortB (e:Evt):Bool:=decide (e.ki.length≤60)&&decide (e.ns.length≤6)&&decide (e.vs.length≤8)&&decide (e.tx.length≤60)&&e.ns.all fun x=>decide (x.length≤60)
theorem short_no (l:List Evt) (k:Nat) (h:k<l.length) (hs:shortB l[k]=false):l.all shortB=false:=by
 rw [List.all_eq_false]
 exact⟨l[k],List.getElem_mem h,by rw [hs];decide⟩
section
variable {E : Oracle} (g : Good E)
include g
set_option maxRecDepth 100000
set_option maxHeartbeats 16000000 in
theorem r_ShortEvents (l:List Evt) (n:Int) (hn:n≤1000) (hl:l.length≤9223372036854775807) (hb:∀e∈l,e.ns.length≤9223372036854775807∧e.vs.length≤9223372036854775807∧e.ki.length≤9223372036854775807∧e.tx.length≤9223372036854775807∧∀x∈e.ns,x.length≤9223372036854775807):
  Fc E n_ref10_ShortEvents [LE l,I n] (B (decide ((l.length:Int)≤n)&&l.all shortB)):=by
 refine g.fn rfl rfl ?_
 by_cases h0:n<l.length
 ·rw [decide_eq_false (by omega),Bool.false_and]
  repeat' ((conv=>whnf);first
  | refine Yz ?_
   | (refine Ret.mk rfl)
   | fail)
 rw [decide_eq_true (by omega),Bool.true_and]
 repeat' ((conv=>whnf);first
 | refine Yz ?_
  | fail)
 refine LoopW.to (LoopW.upP g (fun k=>[(0,LE l),(5,I k)]) (fun _=>[]) (fun k=>∀j,(hj:j<l.length)→j<k→shortB l[j]=true) l.length (fun k hk hp ih=> ?_) 0 (Nat.zero_le _) (fun j _ h=>absurd h (Nat.not_lt_zero _))) rfl rfl
 by_cases hlt:k<l.length
 ·obtain⟨b1,b2,b3,b4,b5⟩:=hb _ (List.getElem_mem hlt)
  have hnot:shortB l[k]=false→l.all shortB=false:=short_no l k hlt
  have ih1:shortB l[k]=true→_:=fun hs=>ih hlt fun j hj hjk=>by
   by_cases e:j=k
   ·subst e;exact hs
   ·exact hp j hj (by omega)
  have hsb:shortB l[k]=(decide (l[k].ki.length≤60)&&decide (l[k].ns.length≤6)&&decide (l[k].vs.length≤8)&&decide (l[k].tx.length≤60)&&l[k].ns.all fun x=>decide (x.length≤60)):=rfl
  rw [hsb] at hnot ih1
  by_cases h1:l[k].ki.length≤60
  ·by_cases h2:l[k].ns.length≤6
   ·by_cases h3:l[k].vs.length≤8
    ·by_cases h4:l[k].tx.length≤60
     ·rw [decide_eq_true h1,decide_eq_true h2,decide_eq_true h3,decide_eq_true h4] at hnot ih1
      simp only [Bool.true_and] at hnot ih1
      repeat' ((conv=>whnf);first
      | refine Yz ?_
       | (refine Pick.rec evw k rfl hlt rfl ?_)
       | fail)
      refine LoopW.to (LoopW.upP g (fun j=>[(0,LE l),(5,I k),(6,I j)]) (fun _=>[]) (fun j=>∀i,(hi:i<l[k].ns.length)→i<j→l[k].ns[i].length≤60) l[k].ns.length (fun j hj hq ihj=> ?_) 0 (Nat.zero_le _) (fun i _ h=>absurd h (Nat.not_lt_zero _))) rfl rfl
      by_cases hjt:j<l[k].ns.length
      ·have b6:=b5 _ (List.getElem_mem hjt)
       by_cases hx:l[k].ns[j].length≤60
       ·have ihj:=ihj hjt fun i hi hij=>by
         by_cases e:i=j
         ·subst e;exact hx
         ·exact hq i hi (by omega)
        repeat' ((conv=>whnf);first
        | refine Yz ?_
         | (refine Pick.rec evw k rfl hlt rfl ?_)
         | (refine Pick.ws j rfl hjt ?_)
         | (refine LoopW.to ihj rfl rfl)
         | fail)
       ·rw [hnot (by rw [List.all_eq_false];exact⟨l[k].ns[j],List.getElem_mem hjt,by simpa using hx⟩)]
        repeat' ((conv=>whnf);first
        | refine Yz ?_
         | (refine Pick.rec evw k rfl hlt rfl ?_)
         | (refine Pick.ws j rfl hjt ?_)
         | (refine Ret.mk rfl)
         | fail)
      ·obtain rfl:j=l[k].ns.length:=by omega
       have ih:=ih1 (by
        rw [List.all_eq_true]
        intro x hx
        obtain⟨i,hi,rfl⟩:=List.mem_iff_getElem.1 hx
        simpa using hq i hi hi)
       repeat' ((conv=>whnf);first
       | refine Yz ?_
        | (refine Pick.rec evw k rfl hlt rfl ?_)
        | (refine LoopW.to ih rfl rfl)
        | fail)
     ·rw [decide_eq_false h4] at hnot
      rw [hnot (by simp)]
      repeat' ((conv=>whnf);first
      | refine Yz ?_
       | (refine Pick.rec evw k rfl hlt rfl ?_)
       | (refine Ret.mk rfl)
       | fail)
    ·rw [decide_eq_false h3] at hnot
     rw [hnot (by simp)]
     repeat' ((conv=>whnf);first
     | refine Yz ?_
      | (refine Pick.rec evw k rfl hlt rfl ?_)
      | (refine Ret.mk rfl)
      | fail)
   ·rw [decide_eq_false h2] at hnot
    rw [hnot (by simp)]
    repeat' ((conv=>whnf);first
    | refine Yz ?_
     | (refine Pick.rec evw k rfl hlt rfl ?_)
     | (refine Ret.mk rfl)
     | fail)
  ·rw [decide_eq_false h1] at hnot
   rw [hnot (by simp)]
   repeat' ((conv=>whnf);first
   | refine Yz ?_
    | (refine Pick.rec evw k rfl hlt rfl ?_)
    | (refine Ret.mk rfl)
    | fail)
 ·obtain rfl:k=l.length:=by omega
  have:l.all shortB=true:=by
   rw [List.all_eq_true]
   intro x hx
   obtain⟨i,hi,rfl⟩:=List.mem_iff_getElem.1 hx
   exact hp i hi hi
  rw [this]
  repeat' ((conv=>whnf);first
  | refine Yz ?_
   | (refine Ret.mk rfl)
   | fail)
end
end Go.Proofs.YtcbddkeiohdocaaGreatDoor.Co
/-
 Questions: what a call gives that is given what its arguments reach, and leaves it as it was.
-/
namespace Go.Proofs.YtcbddkeiohdocaaGreatDoor.Co
open Go Go.Evl
mutual
theorem sameD_rfl:∀d:D,sameD d d=true
 | .int k a=>by simp [sameD]
 | .bool a=>by simp [sameD]
 | .str a=>by simp [sameD]
 | .nil=>rfl
 | .list n a=>by simp [sameD,sameDL_rfl a]
 | .agg a=>by simp [sameD,sameDL_rfl a]
 | .nilp=>rfl
 | .nilf=>rfl
 | .nili=>rfl
 | .ifc a=>by simp [sameD]
 | .nilm=>rfl
 | .fn a=>by simp [sameD]
theorem sameDL_rfl:∀l:List D,sameDL l l=true
 | []=>rfl
 | x::r=>by simp [sameDL,sameD_rfl x,sameDL_rfl r]
end
mutual
theorem eqVb_rfl:∀v:V,eqVb v v=true
 | .d a=>sameD_rfl a
 | .agg a=>by simp [eqVb,eqVbL_rfl a]
 | .tup a=>by simp [eqVb,eqVbL_rfl a]
 | .ref o a b c=>by simp [eqVb]
 | .ptr o a b=>by simp [eqVb]
 | .lptr a n=>by simp [eqVb,sameDL_rfl a]
 | .fn f a b=>by simp [eqVb,eqVbL_rfl a,eqVbL_rfl b]
 | .yld o=>by simp [eqVb]
 | .mp o=>by simp [eqVb]
 | .it o=>by simp [eqVb]
 | .skip=>rfl
 | .undef=>rfl
theorem eqVbL_rfl:∀l:List V,eqVbL l l=true
 | []=>rfl
 | x::r=>by simp [eqVbL,eqVb_rfl x,eqVbL_rfl r]
end
def plainM:Mem→Bool
 | []=>true
 | (_,o)::r=>(match o with
  | .cells .. =>true
  | .row .. =>true
  | _=>false)&&plainM r
def KeepP (m1:Mem):Mem→Prop
 | []=>True
 | (i,o)::r=>Evl.look m1 i=some o∧KeepP m1 r
theorem keepP_ok (m1:Mem):∀m:Mem,plainM m=true→KeepP m1 m→keptM m1 m=true
 | [],_,_=>rfl
 | (i,o)::r,h,hk=>by
  obtain⟨h1,h2⟩:=hk
  simp only [plainM,Bool.and_eq_true] at h
  have ih:=keepP_ok m1 r h.2 h2
  unfold keptM
  rw [h1,ih,Bool.and_true]
  cases o<;>simp at h
  ·simp [sameO,eqVbL_rfl]
  ·simp [sameO,sameDL_rfl]
structure Qs (E:Oracle) (f:Nat) (as0:List V) (m0:Mem) (r:V):Prop where
 got:In E 1 f as0 m0 fun v m1=>v=r∧KeepP m1 m0
theorem QryW.of {E:Oracle} {f:Nat} {first caps args as0:List V} {m m0:Mem} {r r':V} {K:V→Prop} (is:List Evl.Id) (his:reach 0 m 64 (idsL (first ++args++caps)) []=is)
  (hc:(within is 0 (idsL (first ++args++caps))&&movable is 0 m)=true) (has:renL (number ⟨0,0⟩ 0 0 is) (first ++args++caps)=as0) (hm:moved (number ⟨0,0⟩ 0 0 is) m (number ⟨0,0⟩ 0 0 is)=m0)
  (hq:Qs E f as0 m0 r) (hp:plainM m0=true) (hid:(ids r).all (fun i=>((number ⟨0,0⟩ 0 0 is).map (·.2)).elem i)=true) (hr:ren (backS (number ⟨0,0⟩ 0 0 is)) r=r') (hk:K r'):QryW E (.fn f first caps) args m K:=by
 obtain⟨v,m1,h1,rfl,h3⟩:=hq.got
 refine⟨r',?_,hk⟩
 simp only [callQV,his,hc,if_true,has,hm,h1]
 rw [keepP_ok m1 m0 hp h3,hid,hr]
 rfl
end Go.Proofs.YtcbddkeiohdocaaGreatDoor.Co
/-
 The office's register: entries, removals, complaints; what counts.
-/
namespace Go.Proofs.YtcbddkeiohdocaaGreatDoor.Co
open Go Go.Evl
structure Ent where
 nm:List UInt8
 kd:List UInt8
 sr:List UInt8
 bs:List UInt8
 kn:Int
 fr:Int
 to:Int
 mi:Int
structure Rmv where
 en:List UInt8
 kn:Int
structure Cpl where
 nm:List UInt8
 en:List UInt8
 kn:Int
 cl:Bool
 up:Bool
structure Rgs where
 kn:Int
 es:List Ent
 rs:List Rmv
 cs:List Cpl
def Ent.cells (e:Ent):List D:=[.str e.nm,.str e.kd,.str e.sr,.str e.bs,DI e.kn,DI e.fr,DI e.to,DI e.mi]
def Rmv.cells (r:Rmv):List D:=[.str r.en,DI r.kn]
def Cpl.cells (c:Cpl):List D:=[.str c.nm,.str c.en,DI c.kn,.bool c.cl,.bool c.up]
abbrev Env1 (e:Ent):V:= .d (.agg e.cells)
theorem entw (e:Ent):e.cells.length=8:=rfl
theorem rmvw (e:Rmv):e.cells.length=2:=rfl
theorem cplw (e:Cpl):e.cells.length=5:=rfl
abbrev Rgv (r:Rgs):V:= .d (.agg [DI r.kn,.list r.es.length (r.es.flatMap Ent.cells),.list r.rs.length (r.rs.flatMap Rmv.cells),.list r.cs.length (r.cs.flatMap Cpl.cells)])
abbrev mR (t:Nat) (ev:List Evt) (r:Rgs):Mem:=[(⟨0,0,0⟩,.cells t [.ref ⟨0,0,1⟩ 0 ev.length ev.length,I r.kn,.ref ⟨0,0,2⟩ 0 r.es.length r.es.length,.ref ⟨0,0,3⟩ 0 r.rs.length r.rs.length,.ref ⟨0,0,4⟩ 0 r.cs.length r.cs.length]),
 (⟨0,0,1⟩,.row false ty_api_Event 5 ev.length (ev.flatMap Evt.cells)),(⟨0,0,2⟩,.row false ty_office_Entry 8 r.es.length (r.es.flatMap Ent.cells)),(⟨0,0,3⟩,.row false ty_office_Removal 2 r.rs.length (r.rs.flatMap Rmv.cells)),(⟨0,0,4⟩,.row true ty_office_Complaint 5 r.cs.length (r.cs.flatMap Cpl.cells))]
abbrev isR:List Evl.Id:=[⟨0,0,0⟩,⟨0,0,1⟩,⟨0,0,2⟩,⟨0,0,3⟩,⟨0,0,4⟩]
def entI (es:List Ent) (nm:List UInt8):Int:=idxI (fun x=>decide (x.nm=nm)) es
def cplI (cs:List Cpl) (nm:List UInt8):Int:=idxI (fun x=>decide (x.nm=nm)) cs
theorem idxI_cases {α:Type} (p:α→Bool) (l:List α):(idxI p l= -1∧∀j,(hj:j<l.length)→p l[j]=false)∨∃k,∃hk:k<l.length,idxI p l=k∧p l[k]=true∧∀j,(hj:j<k)→p (l[j]'(by omega))=false:=by
 unfold idxI
 cases h:l.findIdx? p with
 | none=>
  refine .inl ⟨rfl,fun j hj=> ?_⟩
  have:=List.findIdx?_eq_none_iff.1 h l[j] (List.getElem_mem hj)
  simpa using this
 | some i=>
  obtain⟨hi,hp,hn⟩:=List.findIdx?_eq_some_iff_getElem.1 h
  refine .inr ⟨i,hi,rfl,hp,fun j hj=> ?_⟩
  have:=hn j hj
  simpa using this
end Go.Proofs.YtcbddkeiohdocaaGreatDoor.Co
/-
 The register's entries and complaints found by name, by the program.
-/
namespace Go.Proofs.YtcbddkeiohdocaaGreatDoor.Co
open Go Go.Evl
abbrev entP (r:Rgs) (i:Int):V:=if 0≤i then .ptr ⟨0,0,2⟩ ((0+i.toNat)*8) r.es.length else .d .nilp
abbrev cplP (r:Rgs) (i:Int):V:=if 0≤i then .ptr ⟨0,0,4⟩ ((0+i.toNat)*5) r.cs.length else .d .nilp
section
variable {E : Oracle} (g : Good E)
include g
set_option maxRecDepth 100000
set_option maxHeartbeats 8000000 in
theorem q_entry (t:Nat) (ev:List Evt) (r:Rgs) (nm:List UInt8) (hl:r.es.length≤1000000):Qs E n_office_Register_entry [.ptr ⟨0,0,0⟩ 1 0,S nm] (mR t ev r) (entP r (entI r.es nm)):=by
 refine⟨?_⟩
 refine In.enter (f:=n_office_Register_entry) g.lim rfl rfl ?_
 have hml:(r.es.flatMap Ent.cells).length=r.es.length*8:=flatR_length Ent.cells 8 entw r.es
 repeat' ((conv=>whnf);first
 | refine Yz ?_
  | (refine In.enter (f:=n_slices_IndexFunc_Loffice_Entry_office_Entry) g.lim rfl rfl ?_)
  | fail)
 refine LoopW.to (LoopW.upP g (fun k=>[(0,.ref ⟨0,0,2⟩ 0 r.es.length r.es.length),(1,.fn n_office_Register_entry_1 [] [.ptr ⟨1,3,0⟩ 0 0]),(7,I r.es.length),(8,I k)]) (fun _=>mR t ev r++[(⟨1,3,0⟩,.cells ty_string [S nm])]) (fun k=>∀j,(hj:j<k)→(hj':j<r.es.length)→decide (r.es[j].nm=nm)=false) r.es.length (fun k hk hp ih=> ?_) 0 (Nat.zero_le _) (fun j h _=>absurd h (Nat.not_lt_zero _))) rfl rfl
 by_cases hlt:k<r.es.length
 ·have hwin:win (r.es.flatMap Ent.cells) ((0+((k:Nat):Int).toNat)*8) 8=r.es[k].cells:=by
   rw [Nat.zero_add,Int.toNat_natCast]
   exact flatR_win Ent.cells 8 entw r.es k hlt
  by_cases he:r.es[k].nm=nm
  ·have hi:entI r.es nm=k:=idxI_at (p:=fun x:Ent=>decide (x.nm=nm)) hlt (decide_eq_true he) fun j hj=>hp j hj (by omega)
   rw [hi,entP,if_pos (by omega)]
   repeat' ((conv=>whnf);first
   | refine Yz ?_
    | (rw [hwin];refine In.enter (f:=n_office_Register_entry_1) g.lim rfl rfl ?_)
    | (refine Cmp.tt he ?_)
    | (exact⟨rfl,rfl,rfl,rfl,rfl,rfl,trivial⟩)
    | fail)
  ·have ih:=ih hlt fun j hj hj'=>by
    by_cases e:j=k
    ·subst e;exact decide_eq_false he
    ·exact hp j (by omega) hj'
   repeat' ((conv=>whnf);first
   | refine Yz ?_
    | (rw [hwin];refine In.enter (f:=n_office_Register_entry_1) g.lim rfl rfl ?_)
    | (refine Cmp.ff he ?_)
    | (refine LoopW.to ih rfl rfl)
    | fail)
 ·obtain rfl:k=r.es.length:=by omega
  have hi:entI r.es nm= -1:=idxI_none (p:=fun x:Ent=>decide (x.nm=nm)) fun j hj=>hp j hj hj
  rw [hi,entP,if_neg (by decide)]
  repeat' ((conv=>whnf);first
  | refine Yz ?_
   | (exact⟨rfl,rfl,rfl,rfl,rfl,rfl,trivial⟩)
   | fail)
set_option maxHeartbeats 8000000 in
theorem q_complaint (t:Nat) (ev:List Evt) (r:Rgs) (nm:List UInt8) (hl:r.cs.length≤1000000):Qs E n_office_Register_complaint [.ptr ⟨0,0,0⟩ 1 0,S nm] (mR t ev r) (cplP r (cplI r.cs nm)):=by
 refine⟨?_⟩
 refine In.enter (f:=n_office_Register_complaint) g.lim rfl rfl ?_
 have hml:(r.cs.flatMap Cpl.cells).length=r.cs.length*5:=flatR_length Cpl.cells 5 cplw r.cs
 repeat' ((conv=>whnf);first
 | refine Yz ?_
  | (refine In.enter (f:=n_slices_IndexFunc_Loffice_Complaint_office_Complaint) g.lim rfl rfl ?_)
  | fail)
 refine LoopW.to (LoopW.upP g (fun k=>[(0,.ref ⟨0,0,4⟩ 0 r.cs.length r.cs.length),(1,.fn n_office_Register_complaint_1 [] [.ptr ⟨1,3,0⟩ 0 0]),(7,I r.cs.length),(8,I k)]) (fun _=>mR t ev r++[(⟨1,3,0⟩,.cells ty_string [S nm])]) (fun k=>∀j,(hj:j<k)→(hj':j<r.cs.length)→decide (r.cs[j].nm=nm)=false) r.cs.length (fun k hk hp ih=> ?_) 0 (Nat.zero_le _) (fun j h _=>absurd h (Nat.not_lt_zero _))) rfl rfl
 by_cases hlt:k<r.cs.length
 ·have hwin:win (r.cs.flatMap Cpl.cells) ((0+((k:Nat):Int).toNat)*5) 5=r.cs[k].cells:=by
   rw [Nat.zero_add,Int.toNat_natCast]
   exact flatR_win Cpl.cells 5 cplw r.cs k hlt
  by_cases he:r.cs[k].nm=nm
  ·have hi:cplI r.cs nm=k:=idxI_at (p:=fun x:Cpl=>decide (x.nm=nm)) hlt (decide_eq_true he) fun j hj=>hp j hj (by omega)
   rw [hi,cplP,if_pos (by omega)]
   repeat' ((conv=>whnf);first
   | refine Yz ?_
    | (rw [hwin];refine In.enter (f:=n_office_Register_complaint_1) g.lim rfl rfl ?_)
    | (refine Cmp.tt he ?_)
    | (exact⟨rfl,rfl,rfl,rfl,rfl,rfl,trivial⟩)
    | fail)
  ·have ih:=ih hlt fun j hj hj'=>by
    by_cases e:j=k
    ·subst e;exact decide_eq_false he
    ·exact hp j (by omega) hj'
   repeat' ((conv=>whnf);first
   | refine Yz ?_
    | (rw [hwin];refine In.enter (f:=n_office_Register_complaint_1) g.lim rfl rfl ?_)
    | (refine Cmp.ff he ?_)
    | (refine LoopW.to ih rfl rfl)
    | fail)
 ·obtain rfl:k=r.cs.length:=by omega
  have hi:cplI r.cs nm= -1:=idxI_none (p:=fun x:Cpl=>decide (x.nm=nm)) fun j hj=>hp j hj hj
  rw [hi,cplP,if_neg (by decide)]
  repeat' ((conv=>whnf);first
  | refine Yz ?_
   | (exact⟨rfl,rfl,rfl,rfl,rfl,rfl,trivial⟩)
   | fail)
end
end Go.Proofs.YtcbddkeiohdocaaGreatDoor.Co
/-
 What counts in a register, by the program.
-/
namespace Go.Proofs.YtcbddkeiohdocaaGreatDoor.Co
open Go Go.Evl
inductive Ch (es:List Ent):Nat→List Ent→Prop
 | stop (k:Nat) (hk:k<es.length) (h:entI es es[k].bs= -1):Ch es k [es[k]]
 | step (k j:Nat) (tl:List Ent) (hk:k<es.length) (h:entI es es[k].bs=j) (ht:Ch es j tl):Ch es k (es[k]::tl)
def remB (rs:List Rmv) (nm:List UInt8) (kn:Int):Bool:=rs.any fun z=>decide (z.en=nm∧z.kn≤kn)
abbrev mC (t:Nat) (ev:List Evt) (r:Rgs) (x:Ent) (kn:Int):Mem:=mR t ev r++[(⟨1,3,0⟩,.cells ty_ptr_office_Register [.ptr ⟨0,0,0⟩ 1 0]),(⟨1,4,0⟩,.cells ty_office_Entry [S x.nm,S x.kd,S x.sr,S x.bs,I x.kn,I x.fr,I x.to,I x.mi]),(⟨1,5,0⟩,.cells ty_int [I kn])]
section
variable {E : Oracle} (g : Good E)
include g
set_option maxRecDepth 100000
set_option maxHeartbeats 8000000 in
theorem in_counts1 (t:Nat) (ev:List Evt) (r:Rgs) (x y:Ent) (kn:Int) (hl:r.rs.length≤1000000) {slot:Nat} {K:V→Mem→Prop} (hK:K (B (remB r.rs y.nm kn)) (mC t ev r x kn)):
  In E 4 n_office_Register_counts_1 [Env1 y,.ptr ⟨1,3,0⟩ 0 0,.ptr ⟨1,5,0⟩ 0 0] (mC t ev r x kn) fun v m'=>backW ⟨3,4⟩ slot true v m' K:=by
 refine In.enter (f:=n_office_Register_counts_1) g.lim rfl rfl ?_
 have hml:(r.rs.flatMap Rmv.cells).length=r.rs.length*2:=flatR_length Rmv.cells 2 rmvw r.rs
 repeat' ((conv=>whnf);first
 | refine Yz ?_
  | (refine In.enter (f:=n_slices_ContainsFunc_Loffice_Removal_office_Removal) g.lim rfl rfl ?_)
  | (refine In.enter (f:=n_slices_IndexFunc_Loffice_Removal_office_Removal) g.lim rfl rfl ?_)
  | fail)
 refine LoopW.to (LoopW.upP g (fun k=>[(0,.ref ⟨0,0,3⟩ 0 r.rs.length r.rs.length),(1,.fn n_office_Register_counts_1_1 [] [.ptr ⟨4,3,0⟩ 0 0,.ptr ⟨1,5,0⟩ 0 0]),(7,I r.rs.length),(8,I k)]) (fun _=>mC t ev r x kn++[(⟨4,3,0⟩,.cells ty_office_Entry [S y.nm,S y.kd,S y.sr,S y.bs,I y.kn,I y.fr,I y.to,I y.mi])])
  (fun k=>∀j,(hj:j<r.rs.length)→j<k→¬(r.rs[j].en=y.nm∧r.rs[j].kn≤kn)) r.rs.length (fun k hk hp ih=> ?_) 0 (Nat.zero_le _) (fun j _ h=>absurd h (Nat.not_lt_zero _))) rfl rfl
 by_cases hlt:k<r.rs.length
 ·have hwin:win (r.rs.flatMap Rmv.cells) ((0+((k:Nat):Int).toNat)*2) 2=r.rs[k].cells:=by
   rw [Nat.zero_add,Int.toNat_natCast]
   exact flatR_win Rmv.cells 2 rmvw r.rs k hlt
  by_cases he:r.rs[k].en=y.nm
  ·by_cases hn:r.rs[k].kn≤kn
   ·have hb:remB r.rs y.nm kn=true:=List.any_eq_true.2 ⟨_,List.getElem_mem hlt,decide_eq_true ⟨he,hn⟩⟩
    rw [hb] at hK
    repeat' ((conv=>whnf);first
    | refine Yz ?_
     | (rw [hwin];refine In.enter (f:=n_office_Register_counts_1_1) g.lim rfl rfl ?_)
     | (refine Cmp.tt he ?_)
     | (exact hK)
     | fail)
   ·have ih:=ih hlt fun j hj hjk=>by
     by_cases e:j=k
     ·subst e;exact fun h=>hn h.2
     ·exact hp j hj (by omega)
    repeat' ((conv=>whnf);first
    | refine Yz ?_
     | (rw [hwin];refine In.enter (f:=n_office_Register_counts_1_1) g.lim rfl rfl ?_)
     | (refine Cmp.tt he ?_)
     | (refine LoopW.to ih rfl rfl)
     | fail)
  ·have ih:=ih hlt fun j hj hjk=>by
    by_cases e:j=k
    ·subst e;exact fun h=>he h.1
    ·exact hp j hj (by omega)
   repeat' ((conv=>whnf);first
   | refine Yz ?_
    | (rw [hwin];refine In.enter (f:=n_office_Register_counts_1_1) g.lim rfl rfl ?_)
    | (refine Cmp.ff he ?_)
    | (refine LoopW.to ih rfl rfl)
    | fail)
 ·obtain rfl:k=r.rs.length:=by omega
  have hb:remB r.rs y.nm kn=false:=by
   unfold remB
   rw [List.any_eq_false]
   intro z hz
   obtain⟨j,hj,rfl⟩:=List.mem_iff_getElem.1 hz
   simpa using hp j hj hj
  rw [hb] at hK
  repeat' ((conv=>whnf);first
  | refine Yz ?_
   | (exact hK)
   | fail)
set_option maxHeartbeats 16000000 in
theorem q_counts (t:Nat) (ev:List Evt) (r:Rgs) (kn:Int) (hr:r.rs.length≤1000000) (hl:r.es.length≤1000000) (k:Nat) (hk:k<r.es.length) (c:List Ent) (hc:Ch r.es k c) (hcl:c.length≤1000000):
  Qs E n_office_Register_counts [.ptr ⟨0,0,0⟩ 1 0,Env1 r.es[k],I kn] (mR t ev r) (B (decide (r.es[k].kn≤kn)&& !c.any fun y=>remB r.rs y.nm kn)):=by
 refine⟨?_⟩
 generalize hx:r.es[k]=x at *
 have hml:(r.es.flatMap Ent.cells).length=r.es.length*8:=flatR_length Ent.cells 8 entw r.es
 refine In.enter (f:=n_office_Register_counts) g.lim rfl rfl ?_
 repeat' ((conv=>whnf);first
 | refine Yz ?_
  | (refine In.enter (f:=n_office_Register_chain) g.lim rfl rfl ?_)
  | fail)
 refine LoopW.to (LoopW.by (σ:=List Ent×Ent×Nat×List Ent) g (fun u=>(∃hk:u.2.2.1<r.es.length,r.es[u.2.2.1]=u.2.1)∧Ch r.es u.2.2.1 u.2.2.2∧∃pre,u.1=pre++[u.2.1]∧pre++u.2.2.2=c)
  (fun u=>[(0,.ptr ⟨0,0,0⟩ 1 0),(5,.ref ⟨2,8,0⟩ 0 u.1.length u.1.length)])
  (fun u=>mC t ev r x kn++[(⟨2,3,0⟩,.cells ty_office_Entry [S x.nm,S x.kd,S x.sr,S x.bs,I x.kn,I x.fr,I x.to,I x.mi]),(⟨2,4,0⟩,.row false ty_office_Entry 8 0 []),(⟨2,8,0⟩,.row false ty_office_Entry 8 u.1.length (u.1.flatMap Ent.cells))])
  (fun u=>u.2.2.2.length) ?_ ([x],x,k,c) ⟨⟨hk,hx⟩,hc,[],rfl,rfl⟩) rfl rfl
 clear hc hx
 rintro⟨out,y,k,tl⟩ ⟨⟨hk,hy⟩,hc,pre,h1,h2⟩ ih
 dsimp only at hk hy hc h1 h2 ih ⊢
 have hol:out.length=pre.length+1:=by rw [h1];simp
 have hlast:out[pre.length]'(by omega)=y:=by simp [h1]
 have hq:=q_entry g t ev r y.bs hl
 have hcl2:pre.length+tl.length≤1000000:=by rw [←List.length_append,h2];exact hcl
 have hmo:(out.flatMap Ent.cells).length=out.length*8:=flatR_length Ent.cells 8 entw out
 cases hc with
 | stop k hk' h=>
  rw [hy] at h h2
  rw [h,entP,if_neg (by decide)] at hq
  obtain rfl:out=c:=h1.trans h2
  repeat' ((conv=>whnf);first
  | refine Yz ?_
   | (refine Pick.rec0 entw pre.length (by omega) (by omega) rfl ?_;rw [hlast])
   | (refine QryW.of (r':= .d .nilp) isR rfl rfl rfl rfl hq rfl rfl rfl ?_)
   | (rw [if_pos ⟨rfl,rfl⟩];refine In.enter (f:=n_slices_ContainsFunc_Loffice_Entry_office_Entry) g.lim rfl rfl ?_)
   | (refine In.enter (f:=n_slices_IndexFunc_Loffice_Entry_office_Entry) g.lim rfl rfl ?_)
   | fail)
  refine LoopW.to (LoopW.upP g (fun k=>[(0,.d (.list out.length (out.flatMap Ent.cells))),(1,.fn n_office_Register_counts_1 [] [.ptr ⟨1,3,0⟩ 0 0,.ptr ⟨1,5,0⟩ 0 0]),(7,I out.length),(8,I k)]) (fun _=>mC t ev r x kn)
   (fun k=>∀j,(hj:j<out.length)→j<k→remB r.rs out[j].nm kn=false) out.length (fun m hm hp ihm=> ?_) 0 (Nat.zero_le _) (fun j _ h=>absurd h (Nat.not_lt_zero _))) rfl rfl
  by_cases hlt:m<out.length
  ·have hwin:win (out.flatMap Ent.cells) (((m:Nat):Int).toNat*8) 8=out[m].cells:=by
    rw [Int.toNat_natCast]
    exact flatR_win Ent.cells 8 entw out m hlt
   cases hb:remB r.rs out[m].nm kn with
   | true=>
    have ha:(out.any fun y=>remB r.rs y.nm kn)=true:=List.any_eq_true.2 ⟨_,List.getElem_mem hlt,hb⟩
    rw [ha,Bool.not_true,Bool.and_false]
    by_cases hkn:x.kn≤kn
    all_goals repeat' ((conv=>whnf);first
    | refine Yz ?_
     | (rw [hwin];refine in_counts1 g t ev r x out[m] kn hr (slot:=16) ?_;rw [hb])
     | (exact⟨rfl,rfl,rfl,rfl,rfl,rfl,trivial⟩)
     | fail)
   | false=>
    have ihm:=ihm hlt fun j hj hjm=>by
     by_cases e:j=m
     ·subst e;exact hb
     ·exact hp j hj (by omega)
    repeat' ((conv=>whnf);first
    | refine Yz ?_
     | (rw [hwin];refine in_counts1 g t ev r x out[m] kn hr (slot:=16) ?_;rw [hb])
     | (refine LoopW.to ihm rfl rfl)
     | fail)
  ·obtain rfl:m=out.length:=by omega
   have ha:(out.any fun y=>remB r.rs y.nm kn)=false:=by
    rw [List.any_eq_false]
    intro z hz
    obtain⟨j,hj,rfl⟩:=List.mem_iff_getElem.1 hz
    rw [hp j hj hj];decide
   rw [ha,Bool.not_false,Bool.and_true]
   by_cases hkn:x.kn≤kn
   ·rw [decide_eq_true hkn]
    repeat' ((conv=>whnf);first
    | refine Yz ?_
     | (exact⟨rfl,rfl,rfl,rfl,rfl,rfl,trivial⟩)
     | fail)
   ·rw [decide_eq_false hkn]
    repeat' ((conv=>whnf);first
    | refine Yz ?_
     | (exact⟨rfl,rfl,rfl,rfl,rfl,rfl,trivial⟩)
     | fail)
 | step k j tl hk' h ht=>
  rw [hy] at h h2
  rw [h,entP,if_pos (by omega)] at hq
  obtain⟨hj,hj'⟩:∃hj:j<r.es.length,True:=by
   cases ht with
   | stop _ hj _=>exact⟨hj,trivial⟩
   | step _ _ _ hj _ _=>exact⟨hj,trivial⟩
  have hwin:win (r.es.flatMap Ent.cells) ((0+((j:Nat):Int).toNat)*8) 8=r.es[j].cells:=by
   rw [Nat.zero_add,Int.toNat_natCast]
   exact flatR_win Ent.cells 8 entw r.es j hj
  simp only [List.length_cons] at hcl2
  have ih:=ih (out++[r.es[j]],r.es[j],j,tl) ⟨⟨hj,rfl⟩,ht,out,rfl,by rw [h1,List.append_assoc];exact h2⟩ (by simp)
  simp only [List.length_append,List.length_cons,List.length_nil,List.flatMap_append,List.flatMap_cons,List.flatMap_nil] at ih
  repeat' ((conv=>whnf);first
  | refine Yz ?_
   | (refine Pick.rec0 entw pre.length (by omega) (by omega) rfl ?_;rw [hlast])
   | (refine QryW.of (r':= .ptr ⟨0,0,2⟩ ((0+((j:Nat):Int).toNat)*8) r.es.length) isR rfl rfl rfl rfl hq rfl rfl rfl ?_)
   | (rw [hwin])
   | (refine Need.mk ⟨rfl,rfl,rfl,rfl,rfl,rfl,by dsimp only;omega,by omega⟩ ?_)
   | (refine LoopW.to ih rfl rfl)
   | fail)
end
end Go.Proofs.YtcbddkeiohdocaaGreatDoor.Co
/-
 The office's journal, plain: what a register says of an event, what an event does to it, events one after another.
-/
namespace Go.Proofs.YtcbddkeiohdocaaGreatDoor.Co
open Go Go.Evl
def chF:Nat→List Ent→Ent→List Ent
 | 0,_,x=>[x]
 | n+1,es,x=>if h:0≤entI es x.bs∧(entI es x.bs).toNat<es.length then x::chF n es es[(entI es x.bs).toNat] else [x]
def Bases (es:List Ent):Prop:=∀k,(hk:k<es.length)→entI es es[k].bs<k
theorem entI_cases (es:List Ent) (nm:List UInt8):(entI es nm= -1∧∀j,(hj:j<es.length)→es[j].nm≠nm)∨∃k,∃hk:k<es.length,entI es nm=k∧es[k].nm=nm∧∀j,(hj:j<k)→(es[j]'(by omega)).nm≠nm:=by
 rcases idxI_cases (fun x:Ent=>decide (x.nm=nm)) es with⟨h1,h2⟩|⟨k,hk,h1,h2,h3⟩
 ·exact .inl ⟨h1,fun j hj=>of_decide_eq_false (h2 j hj)⟩
 ·exact .inr ⟨k,hk,h1,of_decide_eq_true h2,fun j hj=>of_decide_eq_false (h3 j hj)⟩
theorem cplI_cases (cs:List Cpl) (nm:List UInt8):cplI cs nm= -1∨∃k,∃hk:k<cs.length,cplI cs nm=k∧cs[k].nm=nm:=by
 rcases idxI_cases (fun x:Cpl=>decide (x.nm=nm)) cs with⟨h1,_⟩|⟨k,hk,h1,h2,_⟩
 ·exact .inl h1
 ·exact .inr ⟨k,hk,h1,of_decide_eq_true h2⟩
theorem chF_ch {es:List Ent} (hb:Bases es):∀(n k:Nat),k≤n→(hk:k<es.length)→Ch es k (chF n es es[k])
 | 0,k,hn,hk=>by
  obtain rfl:k=0:=by omega
  have h:=hb 0 hk
  rcases entI_cases es es[0].bs with⟨h1,_⟩|⟨j,_,h1,_⟩
  ·exact .stop 0 hk h1
  ·omega
 | n+1,k,hn,hk=>by
  have h:=hb k hk
  rcases entI_cases es es[k].bs with⟨h1,_⟩|⟨j,hj,h1,_⟩
  ·unfold chF
   rw [dif_neg (by omega)]
   exact .stop k hk h1
  ·have e:(entI es es[k].bs).toNat=j:=by omega
   unfold chF
   rw [dif_pos ⟨by omega,by omega⟩]
   simp only [e]
   exact .step k j _ hk h1 (chF_ch hb n j (by omega) hj)
theorem chF_len (es:List Ent):∀(n:Nat) (x:Ent),(chF n es x).length≤n+1
 | 0,x=>by simp [chF]
 | n+1,x=>by
  unfold chF
  split
  ·have:=chF_len es n es[(entI es x.bs).toNat]
   simp only [List.length_cons];omega
  ·simp
theorem Ch.det {es:List Ent} {k:Nat} {a b:List Ent} (ha:Ch es k a) (hb:Ch es k b):a=b:=by
 induction ha generalizing b with
 | stop k hk h=>
  cases hb with
  | stop _ _ _=>rfl
  | step _ j _ _ h' _=>rw [h] at h';omega
 | step k j tl hk h ht ih=>
  cases hb with
  | stop _ _ h'=>rw [h] at h';omega
  | step _ j' tl' _ h' ht'=>
   rw [h] at h'
   obtain rfl:j=j':=by omega
   rw [ih ht']
def cntE (r:Rgs) (x:Ent) (kn:Int):Bool:=decide (x.kn≤kn)&& !(chF r.es.length r.es x).any fun y=>remB r.rs y.nm kn
structure OkR (r:Rgs):Prop where
 bs:∀k,(hk:k<r.es.length)→r.es[k].bs=[]∨∃j:Nat,j<k∧entI r.es r.es[k].bs=j
 nm:∀x∈r.es,x.nm≠[]
 asc:r.es.Pairwise fun a b=>a.kn≤b.kn
 top:∀x∈r.es,x.kn≤r.kn
 mi:∀x∈r.es,0≤x.mi∧x.mi≤1440
 es:r.es.length≤256
 rs:r.rs.length≤1000
 cs:r.cs.length≤64
theorem ent_nil {es:List Ent} (h:∀x∈es,x.nm≠[]):entI es []= -1:=by
 rcases entI_cases es [] with⟨h1,_⟩|⟨j,hj,_,h2,_⟩
 ·exact h1
 ·exact absurd h2 (h _ (List.getElem_mem hj))
theorem OkR.bases {r:Rgs} (h:OkR r):Bases r.es:=by
 intro k hk
 rcases h.bs k hk with e|⟨j,hj,e⟩
 ·rw [e,ent_nil h.nm];omega
 ·omega
theorem OkR.le {r:Rgs} (h:OkR r) {i j:Nat} (hij:i≤j) (hj:j<r.es.length):(r.es[i]'(by omega)).kn≤r.es[j].kn:=by
 by_cases e:i=j
 ·subst e;exact Int.le_refl _
 ·exact List.pairwise_iff_getElem.1 h.asc i j (by omega) hj (by omega)
theorem cnt_stop {r:Rgs} (ho:OkR r) {k:Nat} (hk:k<r.es.length) (h:r.es[k].bs=[]) (kn:Int):cntE r r.es[k] kn=(decide (r.es[k].kn≤kn)&& !remB r.rs r.es[k].nm kn):=by
 have h1:=chF_ch ho.bases r.es.length k (by omega) hk
 have h2:Ch r.es k [r.es[k]]:= .stop k hk (by rw [h];exact ent_nil ho.nm)
 unfold cntE
 rw [h1.det h2]
 simp
theorem cnt_step {r:Rgs} (ho:OkR r) {k j:Nat} (hk:k<r.es.length) (hj:j<k) (h:entI r.es r.es[k].bs=j) (kn:Int):cntE r r.es[k] kn=(decide (r.es[k].kn≤kn)&& !remB r.rs r.es[k].nm kn&&cntE r (r.es[j]'(by omega)) kn):=by
 have hjl:j<r.es.length:=by omega
 have h1:=chF_ch ho.bases r.es.length k (by omega) hk
 have h3:=chF_ch ho.bases r.es.length j (by omega) hjl
 have h2:Ch r.es k (r.es[k]::chF r.es.length r.es r.es[j]):= .step k j _ hk h h3
 unfold cntE
 rw [h1.det h2]
 have:=ho.le (Nat.le_of_lt hj) hk
 simp only [List.any_cons,Bool.not_or]
 by_cases hkn:r.es[k].kn≤kn
 ·have e:decide (r.es[j].kn≤kn)=true:=decide_eq_true (by omega)
  rw [decide_eq_true hkn,e]
  simp
 ·rw [decide_eq_false hkn]
  simp
def ent0:Ent:=⟨[],[],[],[],0,0,0,0⟩
def cpl0:Cpl:=⟨[],[],0,false,false⟩
def overE (r:Rgs) (nm:List UInt8) (kn:Int):Int:=if entI r.es nm<0 then 10 else if cntE r (r.es.getD (entI r.es nm).toNat ent0) kn then 0 else 20
theorem over_none {r:Rgs} {nm:List UInt8} (h:entI r.es nm= -1) (kn:Int):overE r nm kn=10:=by
 unfold overE
 rw [h,if_pos (by decide)]
theorem over_some {r:Rgs} {nm:List UInt8} {k:Nat} (hk:k<r.es.length) (h:entI r.es nm=k) (kn:Int):overE r nm kn=if cntE r r.es[k] kn then 0 else 20:=by
 unfold overE
 rw [h,if_neg (by omega),Int.toNat_natCast]
 have:r.es.getD k ent0=r.es[k]:=by simp [List.getD,hk]
 rw [this]
def newF (r:Rgs) (nm:List UInt8):Int:=firstI [if 0≤entI r.es nm then 9 else 0,if 256≤r.es.length then 5 else 0]
def askEnt (r:Rgs) (fol:Bool) (nm b:List UInt8) (kn f t m:Int):Int:=
 if newF r nm≠0 then newF r nm
 else if fol=true∧overE r b kn≠0 then overE r b kn
 else firstI [if 99999<f∨99999<t∨1440<m then 3 else 0,if t<f then 11 else 0]
def askRev (r:Rgs) (nm:List UInt8) (kn:Int):Int:=if entI r.es nm<0 then 10 else firstI [if(r.es.getD (entI r.es nm).toNat ent0).kd=kRule then 0 else 13,overE r nm kn]
def askCom (r:Rgs) (nm en:List UInt8) (kn:Int):Int:=firstI [if 0≤cplI r.cs nm then 9 else 0,if 64≤r.cs.length then 5 else 0,overE r en kn]
def askDec (r:Rgs) (nm:List UInt8) (v:Int):Int:=if cplI r.cs nm<0 then 10 else firstI [if(r.cs.getD (cplI r.cs nm).toNat cpl0).cl then 20 else 0,if 1<v then 3 else 0]
def nmN (e:Evt) (i:Nat):List UInt8:=e.ns.getD i []
def vlN (e:Evt) (i:Nat):Int:=e.vs.getD i 0
def isEnt (k:List UInt8):Bool:=decide (k=kEnter)||decide (k=kRule)||decide (k=kFollow)
def askE (r:Rgs) (e:Evt):Int:=
 if isEnt e.ki then askEnt r (decide (e.ki=kFollow)) (nmN e 0) (nmN e 2) (vlN e 0) (vlN e 1) (vlN e 2) (vlN e 3)
 else if e.ki=kReverse then askRev r (nmN e 0) (vlN e 0)
 else if e.ki=kComplain then askCom r (nmN e 0) (nmN e 1) (vlN e 0)
 else askDec r (nmN e 0) (vlN e 1)
def accF (r:Rgs) (n:Nat) (e:Evt):Int:=firstI [if e.nu=n+1 then 0 else 11,if vlN e 0<r.kn then 19 else 0,if 99999<vlN e 0 then 3 else 0]
def accE (r:Rgs) (n:Nat) (e:Evt):Int:=if accF r n e≠0 then accF r n e else askE r e
def entOf (e:Evt):Ent:=⟨nmN e 0,e.ki,nmN e 1,if e.ki=kFollow then nmN e 2 else [],vlN e 0,vlN e 1,vlN e 2,vlN e 3⟩
def aftE (r:Rgs) (e:Evt):Rgs:=
 if isEnt e.ki then {r with kn:=vlN e 0,es:=r.es++[entOf e]}
 else if e.ki=kReverse then {r with kn:=vlN e 0,rs:=r.rs++[⟨nmN e 0,vlN e 0⟩]}
 else if e.ki=kComplain then {r with kn:=vlN e 0,cs:=r.cs++[⟨nmN e 0,nmN e 1,vlN e 0,false,false⟩]}
 else
  let c:=r.cs.getD (cplI r.cs (nmN e 0)).toNat cpl0
  {r with kn:=vlN e 0,cs:=r.cs.set (cplI r.cs (nmN e 0)).toNat {c with cl:=true,up:=decide (vlN e 1=1)},rs:=if vlN e 1=1 then r.rs++[⟨c.en,vlN e 0⟩] else r.rs}
def stepE (r:Rgs) (n:Nat) (e:Evt):Int:=if chkE e≠0 then chkE e else accE r n e
def rg0:Rgs:=⟨0,[],[],[]⟩
def replG:Rgs→Nat→List Evt→Rgs×Nat×Int
 | r,_,[]=>(r,0,0)
 | r,n,e::l=>if stepE r n e≠0 then(rg0,n+1,stepE r n e) else replG (aftE r e) (n+1) l
theorem chk_ok {e:Evt} (h:chkE e=0):isKind e.ki=true∧e.ns.length=formN e.ki∧e.vs.length=formV e.ki∧(∀s∈e.ns,isNameB s=true)∧(∀v∈e.vs,0≤v∧v≤999999999)∧e.tx=[]∧1≤e.nu∧e.nu≤1000:=by
 unfold chkE at h
 rw [firstI_zero] at h
 have h1:=h (rng e.nu 1 1000) (by simp)
 have h2:=h (if !isKind e.ki then 13 else 0) (by simp)
 have h3:=h (if e.ns.length≠formN e.ki∨e.vs.length≠formV e.ki then 2 else 0) (by simp)
 have h4:=h (if nameless e.ns then 8 else 0) (by simp)
 have h5:=h (if far e.vs then 3 else 0) (by simp)
 have h6:=h (if e.tx≠[] then 1 else 0) (by simp)
 refine⟨?_,?_,?_,?_,?_,?_,?_⟩
 ·cases hk:isKind e.ki
  ·rw [hk] at h2;simp at h2
  ·rfl
 ·exact Decidable.byContradiction fun hn=>by rw [if_pos (.inl hn)] at h3;omega
 ·exact Decidable.byContradiction fun hn=>by rw [if_pos (.inr hn)] at h3;omega
 ·intro s hs
  have:nameless e.ns=false:=by cases hh:nameless e.ns with|false=>rfl|true=>rw [hh] at h4;simp at h4
  unfold nameless at this
  rw [List.any_eq_false] at this
  have:=this s hs
  simpa using this
 ·intro v hv
  have:far e.vs=false:=by cases hh:far e.vs with|false=>rfl|true=>rw [hh] at h5;simp at h5
  unfold far at this
  rw [List.any_eq_false] at this
  have:=this v hv
  simp only [farV,decide_eq_true_eq] at this
  omega
 ·exact Decidable.byContradiction fun hn=>by rw [if_pos hn] at h6;omega
 ·unfold rng at h1
  split at h1
  ·omega
  ·omega
theorem acc_ok {r:Rgs} {n:Nat} {e:Evt} (h:accE r n e=0):e.nu=n+1∧r.kn≤vlN e 0∧vlN e 0≤99999∧askE r e=0:=by
 unfold accE at h
 split at h
 ·rename_i h1;exact absurd h h1
 ·rename_i h1
  have h1:=Decidable.byContradiction h1
  rw [accF,firstI_zero] at h1
  have a:=h1 (if e.nu=n+1 then 0 else 11) (by simp)
  have b:=h1 (if vlN e 0<r.kn then 19 else 0) (by simp)
  have c:=h1 (if 99999<vlN e 0 then 3 else 0) (by simp)
  refine⟨?_,?_,?_,h⟩
  ·exact Decidable.byContradiction fun hn=>by rw [if_neg hn] at a;omega
  ·exact Int.not_lt.1 fun hn=>by rw [if_pos hn] at b;omega
  ·exact Int.not_lt.1 fun hn=>by rw [if_pos hn] at c;omega
theorem step_ok {r:Rgs} {n:Nat} {e:Evt} (h:stepE r n e=0):chkE e=0∧accE r n e=0:=by
 unfold stepE at h
 split at h
 ·rename_i h1;exact absurd h h1
 ·rename_i h1;exact⟨Decidable.byContradiction h1,h⟩
theorem askEnt_ok {r:Rgs} {fol:Bool} {nm b:List UInt8} {kn f t m:Int} (h:askEnt r fol nm b kn f t m=0):
  entI r.es nm= -1∧r.es.length<256∧(fol=true→overE r b kn=0)∧f≤99999∧t≤99999∧m≤1440∧f≤t:=by
 unfold askEnt at h
 split at h
 ·rename_i h1;exact absurd h h1
 ·rename_i h1
  have h1:=Decidable.byContradiction h1
  rw [newF,firstI_zero] at h1
  have a:=h1 (if 0≤entI r.es nm then 9 else 0) (by simp)
  have b':=h1 (if 256≤r.es.length then 5 else 0) (by simp)
  split at h
  ·rename_i h2;exact absurd h h2.2
  ·rename_i h2
   rw [firstI_zero] at h
   have c:=h (if 99999<f∨99999<t∨1440<m then 3 else 0) (by simp)
   have d:=h (if t<f then 11 else 0) (by simp)
   refine⟨?_,?_,?_,?_⟩
   ·rcases entI_cases r.es nm with⟨e,_⟩|⟨k,_,e,_⟩
    ·exact e
    ·rw [if_pos (by omega)] at a;omega
   ·exact Nat.lt_of_not_le fun hn=>by rw [if_pos hn] at b';omega
   ·intro hf;exact Decidable.byContradiction fun hn=>h2 ⟨hf,hn⟩
   ·by_cases hc:99999<f∨99999<t∨1440<m
    ·rw [if_pos hc] at c;omega
    ·by_cases hd:t<f
     ·rw [if_pos hd] at d;omega
     ·omega
theorem entI_app {es:List Ent} {x:Ent} {nm:List UInt8} {k:Nat} (h:entI es nm=k):entI (es++[x]) nm=k:=by
 rcases entI_cases es nm with⟨e,_⟩|⟨j,hj,e,h2,h3⟩
 ·omega
 ·obtain rfl:j=k:=by omega
  refine idxI_at (p:=fun x:Ent=>decide (x.nm=nm)) (by rw [List.length_append];omega) ?_ ?_
  ·rw [List.getElem_append_left hj];exact decide_eq_true h2
  ·intro i hi
   rw [List.getElem_append_left (by omega)]
   exact decide_eq_false (h3 i hi)
theorem name_ne {s:List UInt8} (h:isNameB s=true):s≠[]:=by
 rintro rfl
 exact absurd (of_decide_eq_true h).1 (by decide)
theorem nmN_ok {e:Evt} (h:∀s∈e.ns,isNameB s=true) {i:Nat} (hi:i<e.ns.length):isNameB (nmN e i)=true:=by
 unfold nmN
 rw [List.getD_eq_getElem?_getD,List.getElem?_eq_getElem hi]
 exact h _ (List.getElem_mem hi)
theorem vlN_ok {e:Evt} (h:∀v∈e.vs,0≤v∧v≤999999999) (i:Nat):0≤vlN e i∧vlN e i≤999999999:=by
 unfold vlN
 rw [List.getD_eq_getElem?_getD]
 by_cases hi:i<e.vs.length
 ·rw [List.getElem?_eq_getElem hi];exact h _ (List.getElem_mem hi)
 ·rw [List.getElem?_eq_none (by omega)];exact⟨Int.le_refl _,by decide⟩
theorem isEnt_form {k:List UInt8} (h:isEnt k=true):formV k=4∧2≤formN k∧(k=kFollow→formN k=3):=by
 simp only [isEnt,Bool.or_eq_true,decide_eq_true_eq] at h
 rcases h with(rfl|rfl)|rfl<;>decide
theorem over_ok {r:Rgs} {b:List UInt8} {kn:Int} (h:overE r b kn=0):∃j,∃hj:j<r.es.length,entI r.es b=(j:Nat)∧cntE r r.es[j] kn=true:=by
 rcases entI_cases r.es b with⟨e,_⟩|⟨j,hj,e,_⟩
 ·rw [over_none e] at h;omega
 ·rw [over_some hj e] at h
  refine⟨j,hj,e,?_⟩
  cases hc:cntE r r.es[j] kn with
  | true=>rfl
  | false=>rw [hc] at h;simp at h
theorem ok_aft {r:Rgs} (ho:OkR r) {n:Nat} {e:Evt} (h:stepE r n e=0) (hr:r.rs.length<1000):OkR (aftE r e):=by
 obtain⟨h1,h2⟩:=step_ok h
 obtain⟨a1,a2,a3,a4,a5,_⟩:=chk_ok h1
 obtain⟨b1,b2,b3,b4⟩:=acc_ok h2
 unfold askE at b4
 unfold aftE
 split at b4
 ·rename_i hk
  rw [if_pos hk]
  obtain⟨f1,f2,f3⟩:=isEnt_form hk
  obtain⟨c1,c2,c3,c4,c5,c6,c7⟩:=askEnt_ok b4
  have hkn:(entOf e).kn=vlN e 0:=rfl
  refine⟨?_,?_,?_,?_,?_,?_,ho.rs,ho.cs⟩
  ·intro k hk'
   dsimp only at hk' ⊢
   rw [List.length_append,List.length_singleton] at hk'
   by_cases hl:k<r.es.length
   ·rw [List.getElem_append_left hl]
    rcases ho.bs k hl with e1|⟨j,hj,e1⟩
    ·exact .inl e1
    ·exact .inr ⟨j,hj,entI_app e1⟩
   ·obtain rfl:k=r.es.length:=by omega
    simp only [List.getElem_concat_length]
    by_cases hf:e.ki=kFollow
    ·right
     obtain⟨j,hj,e1,_⟩:=over_ok (c3 (decide_eq_true hf))
     refine⟨j,hj,?_⟩
     have:(entOf e).bs=nmN e 2:=if_pos hf
     rw [this]
     exact entI_app e1
    ·exact .inl (if_neg hf)
  ·intro x hx
   rcases List.mem_append.1 hx with hx|hx
   ·exact ho.nm x hx
   ·rw [List.mem_singleton] at hx;subst hx
    exact name_ne (nmN_ok a4 (by omega))
  ·rw [List.pairwise_append]
   refine⟨ho.asc,List.pairwise_singleton _ _,fun a ha b hb=> ?_⟩
   rw [List.mem_singleton] at hb;subst hb
   have:=ho.top a ha
   omega
  ·intro x hx
   rcases List.mem_append.1 hx with hx|hx
   ·have:=ho.top x hx
    dsimp only
    omega
   ·rw [List.mem_singleton] at hx;subst hx
    exact Int.le_refl _
  ·intro x hx
   rcases List.mem_append.1 hx with hx|hx
   ·exact ho.mi x hx
   ·rw [List.mem_singleton] at hx;subst hx
    exact⟨(vlN_ok a5 3).1,c6⟩
  ·dsimp only
   rw [List.length_append,List.length_singleton];omega
 ·rename_i hk
  rw [if_neg hk]
  have htop:∀x∈r.es,x.kn≤vlN e 0:=fun x hx=>Int.le_trans (ho.top x hx) b2
  split at b4
  ·rename_i hk2
   rw [if_pos hk2]
   exact⟨ho.bs,ho.nm,ho.asc,htop,ho.mi,ho.es,by dsimp only;rw [List.length_append,List.length_singleton];omega,ho.cs⟩
  ·rename_i hk2
   rw [if_neg hk2]
   split at b4
   ·rename_i hk3
    rw [if_pos hk3]
    refine⟨ho.bs,ho.nm,ho.asc,htop,ho.mi,ho.es,ho.rs,?_⟩
    dsimp only
    rw [List.length_append,List.length_singleton]
    unfold askCom at b4
    rw [firstI_zero] at b4
    have:=b4 (if 64≤r.cs.length then 5 else 0) (by simp)
    by_cases hc:64≤r.cs.length
    ·rw [if_pos hc] at this;omega
    ·omega
   ·rename_i hk3
    rw [if_neg hk3]
    refine⟨ho.bs,ho.nm,ho.asc,htop,ho.mi,ho.es,?_,?_⟩
    ·dsimp only
     split
     ·rw [List.length_append,List.length_singleton];omega
     ·exact ho.rs
    ·dsimp only
     rw [List.length_set];exact ho.cs
theorem aft_rs (r:Rgs) (e:Evt):(aftE r e).rs.length≤r.rs.length+1:=by
 unfold aftE
 split
 ·simp
 ·split
  ·simp
  ·split
   ·simp
   ·dsimp only
    split<;>simp
theorem ok_rg0:OkR rg0:=⟨fun k hk=>absurd hk (Nat.not_lt_zero _),by simp [rg0],List.Pairwise.nil,by simp [rg0],by simp [rg0],by simp [rg0],by simp [rg0],by simp [rg0]⟩
theorem replG_ok:∀(l:List Evt) (r:Rgs) (n:Nat),OkR r→r.rs.length≤n→n+l.length≤1000→(replG r n l).2.2=0→OkR (replG r n l).1
 | [],r,n,ho,_,_,_=>ho
 | e::l,r,n,ho,hr,hl,h=>by
  rw [List.length_cons] at hl
  unfold replG at h ⊢
  split at h
  ·rename_i h1;exact absurd h h1
  ·rename_i h1
   rw [if_neg h1]
   have:=aft_rs r e
   exact replG_ok l (aftE r e) (n+1) (ok_aft ho (Decidable.byContradiction h1) (by omega)) (by omega) (by omega) h
theorem replG_cons (r:Rgs) (n:Nat) (e:Evt) (l:List Evt):replG r n (e::l)=if stepE r n e≠0 then(rg0,n+1,stepE r n e) else replG (aftE r e) (n+1) l:=rfl
theorem replG_app:∀(l:List Evt) (r:Rgs) (n:Nat) (m:List Evt),replG r n (l++m)=if(replG r n l).2.2≠0 then replG r n l else replG (replG r n l).1 (n+l.length) m
 | [],r,n,m=>by simp [replG]
 | e::l,r,n,m=>by
  rw [List.cons_append,replG_cons,replG_cons]
  by_cases h:stepE r n e≠0
  ·rw [if_pos h,if_pos h]
   exact(if_pos h).symm
  ·rw [if_neg h,if_neg h,replG_app l,List.length_cons,show n+(l.length+1)=n+1+l.length by omega]
end Go.Proofs.YtcbddkeiohdocaaGreatDoor.Co
/-
 What a register says of an event, by the program: over, what the kinds ask.
-/
namespace Go.Proofs.YtcbddkeiohdocaaGreatDoor.Co
open Go Go.Evl
section
variable {E : Oracle} (g : Good E)
include g
set_option maxRecDepth 100000
theorem q_cnt (t:Nat) (ev:List Evt) (r:Rgs) (ho:OkR r) (kn:Int) (k:Nat) (hk:k<r.es.length):Qs E n_office_Register_counts [.ptr ⟨0,0,0⟩ 1 0,Env1 r.es[k],I kn] (mR t ev r) (B (cntE r r.es[k] kn)):=by
 have h1:=chF_len r.es r.es.length r.es[k]
 have h2:=ho.es
 exact q_counts g t ev r kn (by have:=ho.rs;omega) (by omega) k hk _ (chF_ch ho.bases r.es.length k (by omega) hk) (by omega)
set_option maxHeartbeats 8000000 in
theorem q_over (t:Nat) (ev:List Evt) (r:Rgs) (ho:OkR r) (nm:List UInt8) (kn:Int):Qs E n_office_Register_over [.ptr ⟨0,0,0⟩ 1 0,S nm,I kn] (mR t ev r) (I (overE r nm kn)):=by
 refine⟨?_⟩
 have hes:=ho.es
 have hml:(r.es.flatMap Ent.cells).length=r.es.length*8:=flatR_length Ent.cells 8 entw r.es
 have hq:=q_entry g t ev r nm (by omega)
 refine In.enter (f:=n_office_Register_over) g.lim rfl rfl ?_
 rcases entI_cases r.es nm with⟨h,_⟩|⟨k,hk,h,hnm,_⟩
 ·rw [over_none h]
  rw [h,entP,if_neg (by decide)] at hq
  repeat' ((conv=>whnf);first
  | refine Yz ?_
   | (refine QryW.of (r':= .d .nilp) isR rfl rfl rfl rfl hq rfl rfl rfl ?_)
   | (exact⟨rfl,rfl,rfl,rfl,rfl,rfl,trivial⟩)
   | fail)
 ·rw [over_some hk h]
  rw [h,entP,if_pos (by omega)] at hq
  have hc:=q_cnt g t ev r ho kn k hk
  have hwin:win (r.es.flatMap Ent.cells) ((0+((k:Nat):Int).toNat)*8) 8=r.es[k].cells:=by
   rw [Nat.zero_add,Int.toNat_natCast]
   exact flatR_win Ent.cells 8 entw r.es k hk
  cases hb:cntE r r.es[k] kn with
  | true=>
   rw [hb] at hc
   have hw:Fc E n_office_when [B false,I 20] (I 0):=s_owhen g false 20
   repeat' ((conv=>whnf);first
   | refine Yz ?_
    | (refine QryW.of (r':= .ptr ⟨0,0,2⟩ ((0+((k:Nat):Int).toNat)*8) r.es.length) isR rfl rfl rfl rfl hq rfl rfl rfl ?_)
    | (rw [hwin];refine QryW.of (r':=B true) isR rfl rfl rfl rfl hc rfl rfl rfl ?_)
    | (apply CallI.of;assumption)
    | (exact⟨rfl,rfl,rfl,rfl,rfl,rfl,trivial⟩)
    | fail)
  | false=>
   rw [hb] at hc
   have hw:Fc E n_office_when [B true,I 20] (I 20):=s_owhen g true 20
   repeat' ((conv=>whnf);first
   | refine Yz ?_
    | (refine QryW.of (r':= .ptr ⟨0,0,2⟩ ((0+((k:Nat):Int).toNat)*8) r.es.length) isR rfl rfl rfl rfl hq rfl rfl rfl ?_)
    | (rw [hwin];refine QryW.of (r':=B false) isR rfl rfl rfl rfl hc rfl rfl rfl ?_)
    | (apply CallI.of;assumption)
    | (exact⟨rfl,rfl,rfl,rfl,rfl,rfl,trivial⟩)
    | fail)
theorem o_when (b:Bool) (e:Int):Fc E n_office_when [B b,I e] (I (if b then e else 0)):=s_owhen g b e
theorem o_first2 (a b:Int):Fc E n_office_first [.d (.list 2 [DI a,DI b])] (I (firstI [a,b])):=s_ofirst g [a,b] (by simp)
theorem o_first3 (a b c:Int):Fc E n_office_first [.d (.list 3 [DI a,DI b,DI c])] (I (firstI [a,b,c])):=s_ofirst g [a,b,c] (by simp)
set_option maxHeartbeats 16000000 in
theorem q_asksEntry (t:Nat) (ev:List Evt) (r:Rgs) (ho:OkR r) (nu:Int) (ki:List UInt8) (a s:List UInt8) (more:List (List UInt8)) (b:List UInt8) (kn f u m:Int) (tx:List UInt8) (hb:ki=kFollow→more=[b]):
  Qs E n_office_Register_asksEntry [.ptr ⟨0,0,0⟩ 1 0,Evv ⟨nu,ki,a::s::more,[kn,f,u,m],tx⟩] (mR t ev r) (I (askEnt r (decide (ki=kFollow)) a b kn f u m)):=by
 refine⟨?_⟩
 have hes:=ho.es
 have hq:=q_entry g t ev r a (by omega)
 have hov:=q_over g t ev r ho b kn
 change In E 1 n_office_Register_asksEntry [.ptr ⟨0,0,0⟩ 1 0,.d (.agg [DI nu,.str ki,.list (more.length+1+1) (.str a:: .str s::more.map D.str),.list 4 [DI kn,DI f,DI u,DI m],.str tx])] (mR t ev r) _
 refine In.enter (f:=n_office_Register_asksEntry) g.lim rfl rfl ?_
 unfold askEnt newF
 generalize hA:entI r.es a=i at *
 have hlist:more.map D.str=more.map D.str:=rfl
 by_cases hi:0≤i
 ·rw [if_pos hi,show firstI [9,if 256≤r.es.length then 5 else 0]=9 from rfl,if_pos (by decide)]
  rw [entP,if_pos hi] at hq
  by_cases h256:256≤r.es.length
  all_goals
   repeat' ((conv=>whnf);first
   | refine Yz ?_
    | (refine QryW.of (r':= .ptr ⟨0,0,2⟩ ((0+i.toNat)*8) r.es.length) isR rfl rfl rfl rfl hq rfl rfl rfl ?_)
    | (refine CallI.of (o_when g _ _) ?_)
    | (refine CallI.of (o_first2 g _ _) ?_)
    | (exact⟨rfl,rfl,rfl,rfl,rfl,rfl,trivial⟩)
   | fail)
 ·rw [if_neg hi]
  rw [entP,if_neg hi] at hq
  by_cases h256:256≤r.es.length
  ·rw [if_pos h256,show firstI [0,5]=5 from rfl,if_pos (by decide)]
   repeat' ((conv=>whnf);first
   | refine Yz ?_
    | (refine QryW.of (r':= .d .nilp) isR rfl rfl rfl rfl hq rfl rfl rfl ?_)
    | (refine CallI.of (o_when g _ _) ?_)
    | (refine CallI.of (o_first2 g _ _) ?_)
    | (exact⟨rfl,rfl,rfl,rfl,rfl,rfl,trivial⟩)
   | fail)
  ·rw [if_neg h256,show firstI [0,0]=0 from rfl,if_neg (by decide)]
   by_cases hf:ki=kFollow
   ·obtain rfl:=hb hf
    rw [decide_eq_true hf]
    generalize overE r b kn=o at *
    by_cases ho0:o=0
    ·rw [if_neg (fun h=>h.2 ho0)]
     by_cases c1:99999<f
     all_goals by_cases c2:99999<u
     all_goals by_cases c3:1440<m
     all_goals by_cases c4:u<f
     all_goals
      repeat' ((conv=>whnf);first
      | refine Yz ?_
       | (refine QryW.of (r':= .d .nilp) isR rfl rfl rfl rfl hq rfl rfl rfl ?_)
       | (refine QryW.of (r':=I o) isR rfl rfl rfl rfl hov rfl rfl rfl ?_)
       | (refine Cmp.tt hf ?_)
       | (refine CallI.of (o_when g _ _) ?_)
       | (refine CallI.of (o_first2 g _ _) ?_)
       | (exact⟨rfl,rfl,rfl,rfl,rfl,rfl,trivial⟩)
      | (refine⟨?_,rfl,rfl,rfl,rfl,rfl,trivial⟩)
      | (exfalso;omega)
      | fail)
     all_goals simp [c1,c2,c3,c4,firstI]
    ·rw [if_pos ⟨rfl,ho0⟩]
     repeat' ((conv=>whnf);first
     | refine Yz ?_
      | (refine QryW.of (r':= .d .nilp) isR rfl rfl rfl rfl hq rfl rfl rfl ?_)
      | (refine QryW.of (r':=I o) isR rfl rfl rfl rfl hov rfl rfl rfl ?_)
      | (refine Cmp.tt hf ?_)
      | (refine Cmp.ff ho0 ?_)
      | (refine CallI.of (o_when g _ _) ?_)
      | (refine CallI.of (o_first2 g _ _) ?_)
      | (exact⟨rfl,rfl,rfl,rfl,rfl,rfl,trivial⟩)
     | fail)
   ·rw [decide_eq_false hf,if_neg (fun h=>by cases h.1)]
    by_cases c1:99999<f
    all_goals by_cases c2:99999<u
    all_goals by_cases c3:1440<m
    all_goals by_cases c4:u<f
    all_goals
     repeat' ((conv=>whnf);first
     | refine Yz ?_
      | (refine QryW.of (r':= .d .nilp) isR rfl rfl rfl rfl hq rfl rfl rfl ?_)
      | (refine Cmp.ff hf ?_)
      | (refine CallI.of (o_when g _ _) ?_)
      | (refine CallI.of (o_first2 g _ _) ?_)
      | (exact⟨rfl,rfl,rfl,rfl,rfl,rfl,trivial⟩)
     | (refine⟨?_,rfl,rfl,rfl,rfl,rfl,trivial⟩)
     | (exfalso;omega)
     | fail)
    all_goals simp [c1,c2,c3,c4,firstI]
end
end Go.Proofs.YtcbddkeiohdocaaGreatDoor.Co
/-
 What a register says of an event, by the program: reverses, complaints, decisions; what is accepted.
-/
namespace Go.Proofs.YtcbddkeiohdocaaGreatDoor.Co
open Go Go.Evl
section
variable {E : Oracle} (g : Good E)
include g
set_option maxRecDepth 100000
set_option maxHeartbeats 16000000 in
theorem q_asksReverse (t:Nat) (ev:List Evt) (r:Rgs) (ho:OkR r) (nu:Int) (ki a:List UInt8) (kn:Int) (tx:List UInt8):
  Qs E n_office_Register_asksReverse [.ptr ⟨0,0,0⟩ 1 0,Evv ⟨nu,ki,[a],[kn],tx⟩] (mR t ev r) (I (askRev r a kn)):=by
 refine⟨?_⟩
 have hes:=ho.es
 have hml:(r.es.flatMap Ent.cells).length=r.es.length*8:=flatR_length Ent.cells 8 entw r.es
 have hq:=q_entry g t ev r a (by omega)
 have hov:=q_over g t ev r ho a kn
 change In E 1 n_office_Register_asksReverse [.ptr ⟨0,0,0⟩ 1 0,.d (.agg [DI nu,.str ki,.list 1 [.str a],.list 1 [DI kn],.str tx])] (mR t ev r) _
 refine In.enter (f:=n_office_Register_asksReverse) g.lim rfl rfl ?_
 unfold askRev
 rcases entI_cases r.es a with⟨h,_⟩|⟨k,hk,h,hnm,_⟩
 ·rw [h,if_pos (by decide)]
  rw [h,entP,if_neg (by decide)] at hq
  repeat' ((conv=>whnf);first
  | refine Yz ?_
   | (refine QryW.of (r':= .d .nilp) isR rfl rfl rfl rfl hq rfl rfl rfl ?_)
   | (exact⟨rfl,rfl,rfl,rfl,rfl,rfl,trivial⟩)
   | fail)
 ·have hgd:r.es.getD k ent0=r.es[k]:=by simp [List.getD,hk]
  rw [h,if_neg (by omega),Int.toNat_natCast,hgd]
  rw [h,entP,if_pos (by omega)] at hq
  generalize overE r a kn=o at *
  by_cases hkd:r.es[k].kd=kRule
  ·rw [if_pos hkd]
   repeat' ((conv=>whnf);first
   | refine Yz ?_
    | (refine QryW.of (r':= .ptr ⟨0,0,2⟩ ((0+((k:Nat):Int).toNat)*8) r.es.length) isR rfl rfl rfl rfl hq rfl rfl rfl ?_)
    | (refine Pick.rec0 entw k rfl hk rfl ?_)
    | (refine Cmp.ff (fun h=>h hkd) ?_)
    | (refine Cmp.tt hkd ?_)
    | (rw [hnm];refine QryW.of (r':=I o) isR rfl rfl rfl rfl hov rfl rfl rfl ?_)
    | (refine CallI.of (o_when g _ _) ?_)
    | (refine CallI.of (o_first2 g _ _) ?_)
    | (exact⟨rfl,rfl,rfl,rfl,rfl,rfl,trivial⟩)
    | fail)
  ·rw [if_neg hkd]
   repeat' ((conv=>whnf);first
   | refine Yz ?_
    | (refine QryW.of (r':= .ptr ⟨0,0,2⟩ ((0+((k:Nat):Int).toNat)*8) r.es.length) isR rfl rfl rfl rfl hq rfl rfl rfl ?_)
    | (refine Pick.rec0 entw k rfl hk rfl ?_)
    | (refine Cmp.ff hkd ?_)
    | (refine Cmp.tt hkd ?_)
    | (rw [hnm];refine QryW.of (r':=I o) isR rfl rfl rfl rfl hov rfl rfl rfl ?_)
    | (refine CallI.of (o_when g _ _) ?_)
    | (refine CallI.of (o_first2 g _ _) ?_)
    | (exact⟨rfl,rfl,rfl,rfl,rfl,rfl,trivial⟩)
    | fail)
set_option maxHeartbeats 16000000 in
theorem q_asksComplaint (t:Nat) (ev:List Evt) (r:Rgs) (ho:OkR r) (nu:Int) (ki a en:List UInt8) (kn:Int) (tx:List UInt8):
  Qs E n_office_Register_asksComplaint [.ptr ⟨0,0,0⟩ 1 0,Evv ⟨nu,ki,[a,en],[kn],tx⟩] (mR t ev r) (I (askCom r a en kn)):=by
 refine⟨?_⟩
 have hcs:=ho.cs
 have hq:=q_complaint g t ev r a (by omega)
 have hov:=q_over g t ev r ho en kn
 change In E 1 n_office_Register_asksComplaint [.ptr ⟨0,0,0⟩ 1 0,.d (.agg [DI nu,.str ki,.list 2 [.str a,.str en],.list 1 [DI kn],.str tx])] (mR t ev r) _
 refine In.enter (f:=n_office_Register_asksComplaint) g.lim rfl rfl ?_
 unfold askCom
 generalize overE r en kn=o at *
 generalize cplI r.cs a=i at *
 by_cases hi:0≤i
 ·rw [if_pos hi]
  rw [cplP,if_pos hi] at hq
  by_cases h64:64≤r.cs.length
  ·rw [if_pos h64]
   repeat' ((conv=>whnf);first
   | refine Yz ?_
    | (refine QryW.of (r':= .ptr ⟨0,0,4⟩ ((0+i.toNat)*5) r.cs.length) isR rfl rfl rfl rfl hq rfl rfl rfl ?_)
    | (refine QryW.of (r':=I o) isR rfl rfl rfl rfl hov rfl rfl rfl ?_)
    | (refine CallI.of (o_when g _ _) ?_)
    | (refine CallI.of (o_first3 g _ _ _) ?_)
    | (exact⟨rfl,rfl,rfl,rfl,rfl,rfl,trivial⟩)
    | fail)
  ·rw [if_neg h64]
   repeat' ((conv=>whnf);first
   | refine Yz ?_
    | (refine QryW.of (r':= .ptr ⟨0,0,4⟩ ((0+i.toNat)*5) r.cs.length) isR rfl rfl rfl rfl hq rfl rfl rfl ?_)
    | (refine QryW.of (r':=I o) isR rfl rfl rfl rfl hov rfl rfl rfl ?_)
    | (refine CallI.of (o_when g _ _) ?_)
    | (refine CallI.of (o_first3 g _ _ _) ?_)
    | (exact⟨rfl,rfl,rfl,rfl,rfl,rfl,trivial⟩)
    | fail)
 ·rw [if_neg hi]
  rw [cplP,if_neg hi] at hq
  by_cases h64:64≤r.cs.length
  ·rw [if_pos h64]
   repeat' ((conv=>whnf);first
   | refine Yz ?_
    | (refine QryW.of (r':= .d .nilp) isR rfl rfl rfl rfl hq rfl rfl rfl ?_)
    | (refine QryW.of (r':=I o) isR rfl rfl rfl rfl hov rfl rfl rfl ?_)
    | (refine CallI.of (o_when g _ _) ?_)
    | (refine CallI.of (o_first3 g _ _ _) ?_)
    | (exact⟨rfl,rfl,rfl,rfl,rfl,rfl,trivial⟩)
    | fail)
  ·rw [if_neg h64]
   repeat' ((conv=>whnf);first
   | refine Yz ?_
    | (refine QryW.of (r':= .d .nilp) isR rfl rfl rfl rfl hq rfl rfl rfl ?_)
    | (refine QryW.of (r':=I o) isR rfl rfl rfl rfl hov rfl rfl rfl ?_)
    | (refine CallI.of (o_when g _ _) ?_)
    | (refine CallI.of (o_first3 g _ _ _) ?_)
    | (exact⟨rfl,rfl,rfl,rfl,rfl,rfl,trivial⟩)
    | fail)
set_option maxHeartbeats 16000000 in
theorem q_asksDecision (t:Nat) (ev:List Evt) (r:Rgs) (ho:OkR r) (nu:Int) (ki a:List UInt8) (kn v:Int) (tx:List UInt8):
  Qs E n_office_Register_asksDecision [.ptr ⟨0,0,0⟩ 1 0,Evv ⟨nu,ki,[a],[kn,v],tx⟩] (mR t ev r) (I (askDec r a v)):=by
 refine⟨?_⟩
 have hcs:=ho.cs
 have hml:(r.cs.flatMap Cpl.cells).length=r.cs.length*5:=flatR_length Cpl.cells 5 cplw r.cs
 have hq:=q_complaint g t ev r a (by omega)
 change In E 1 n_office_Register_asksDecision [.ptr ⟨0,0,0⟩ 1 0,.d (.agg [DI nu,.str ki,.list 1 [.str a],.list 2 [DI kn,DI v],.str tx])] (mR t ev r) _
 refine In.enter (f:=n_office_Register_asksDecision) g.lim rfl rfl ?_
 unfold askDec
 rcases cplI_cases r.cs a with h|⟨k,hk,h,hnm⟩
 ·rw [h,if_pos (by decide)]
  rw [h,cplP,if_neg (by decide)] at hq
  repeat' ((conv=>whnf);first
  | refine Yz ?_
   | (refine QryW.of (r':= .d .nilp) isR rfl rfl rfl rfl hq rfl rfl rfl ?_)
   | (exact⟨rfl,rfl,rfl,rfl,rfl,rfl,trivial⟩)
   | fail)
 ·have hgd:r.cs.getD k cpl0=r.cs[k]:=by simp [List.getD,hk]
  rw [h,if_neg (by omega),Int.toNat_natCast,hgd]
  rw [h,cplP,if_pos (by omega)] at hq
  by_cases hv:1<v
  ·rw [if_pos hv]
   repeat' ((conv=>whnf);first
   | refine Yz ?_
    | (refine QryW.of (r':= .ptr ⟨0,0,4⟩ ((0+((k:Nat):Int).toNat)*5) r.cs.length) isR rfl rfl rfl rfl hq rfl rfl rfl ?_)
    | (refine Pick.rec0 cplw k rfl hk rfl ?_)
    | (refine CallI.of (o_when g _ _) ?_)
    | (refine CallI.of (o_first2 g _ _) ?_)
    | (exact⟨rfl,rfl,rfl,rfl,rfl,rfl,trivial⟩)
    | fail)
  ·rw [if_neg hv]
   repeat' ((conv=>whnf);first
   | refine Yz ?_
    | (refine QryW.of (r':= .ptr ⟨0,0,4⟩ ((0+((k:Nat):Int).toNat)*5) r.cs.length) isR rfl rfl rfl rfl hq rfl rfl rfl ?_)
    | (refine Pick.rec0 cplw k rfl hk rfl ?_)
    | (refine CallI.of (o_when g _ _) ?_)
    | (refine CallI.of (o_first2 g _ _) ?_)
    | (exact⟨rfl,rfl,rfl,rfl,rfl,rfl,trivial⟩)
    | fail)
end
end Go.Proofs.YtcbddkeiohdocaaGreatDoor.Co
/-
 Events accepted and added one after another, by the program.
-/
namespace Go.Proofs.YtcbddkeiohdocaaGreatDoor.Co
open Go Go.Evl
abbrev mH (ev:List Evt) (r:Rgs):Mem:=[(⟨0,12,0⟩,.row false ty_api_Event 5 ev.length (ev.flatMap Evt.cells)),(⟨0,12,1⟩,.row false ty_office_Entry 8 r.es.length (r.es.flatMap Ent.cells)),(⟨0,12,2⟩,.row false ty_office_Removal 2 r.rs.length (r.rs.flatMap Rmv.cells)),(⟨0,12,3⟩,.row true ty_office_Complaint 5 r.cs.length (r.cs.flatMap Cpl.cells)),
 (⟨0,13,0⟩,.cells ty_office_history [.ref ⟨0,12,0⟩ 0 ev.length ev.length,I r.kn,.ref ⟨0,12,1⟩ 0 r.es.length r.es.length,.ref ⟨0,12,2⟩ 0 r.rs.length r.rs.length,.ref ⟨0,12,3⟩ 0 r.cs.length r.cs.length])]
abbrev isH:List Evl.Id:=[⟨0,13,0⟩,⟨0,12,0⟩,⟨0,12,1⟩,⟨0,12,2⟩,⟨0,12,3⟩]
theorem evt_cases {e:Evt} (h:chkE e=0):
  (∃nu ki a s more kn f u m,e=⟨nu,ki,a::s::more,[kn,f,u,m],[]⟩∧isEnt ki=true∧(ki=kFollow→∃b,more=[b])∧(ki=kEnter∨ki=kRule∨ki=kFollow))∨
  (∃nu a kn,e=⟨nu,kReverse,[a],[kn],[]⟩)∨(∃nu a en kn,e=⟨nu,kComplain,[a,en],[kn],[]⟩)∨(∃nu a kn v,e=⟨nu,kDecide,[a],[kn,v],[]⟩):=by
 obtain⟨h1,h2,h3,_,_,h6,_,_⟩:=chk_ok h
 obtain⟨nu,ki,ns,vs,tx⟩:=e
 dsimp only at h1 h2 h3 h6
 subst h6
 have l1:∀ {α:Type} (l:List α),l.length=1→∃a,l=[a]:=fun l hl=>List.length_eq_one_iff.1 hl
 have l2:∀ {α:Type} (l:List α),l.length=2→∃a b,l=[a,b]:=fun l hl=>by
  rcases l with _|⟨a,_|⟨b,_|⟨_,_⟩⟩⟩<;>simp at hl
  exact⟨a,b,rfl⟩
 have l4:∀(l:List Int),l.length=4→∃a b c d,l=[a,b,c,d]:=fun l hl=>by
  rcases l with _|⟨a,_|⟨b,_|⟨c,_|⟨d,_|⟨_,_⟩⟩⟩⟩⟩<;>simp at hl
  exact⟨a,b,c,d,rfl⟩
 rcases kind_cases ki with rfl|rfl|rfl|rfl|rfl|rfl|⟨k1,k2,k3,k4,k5,k6⟩
 ·obtain⟨a,b,rfl⟩:=l2 ns h2
  obtain⟨c,d,e,f,rfl⟩:=l4 vs h3
  exact .inl ⟨nu,_,a,b,[],c,d,e,f,rfl,by decide,fun h=>absurd h (by decide),.inl rfl⟩
 ·obtain⟨a,b,rfl⟩:=l2 ns h2
  obtain⟨c,d,e,f,rfl⟩:=l4 vs h3
  exact .inl ⟨nu,_,a,b,[],c,d,e,f,rfl,by decide,fun h=>absurd h (by decide),.inr (.inl rfl)⟩
 ·obtain⟨a,b,x,rfl⟩:∃a b x,ns=[a,b,x]:=by
   have h2:ns.length=3:=h2
   rcases ns with _|⟨a,_|⟨b,_|⟨c,_|⟨_,_⟩⟩⟩⟩<;>simp at h2
   exact⟨a,b,c,rfl⟩
  obtain⟨c,d,e,f,rfl⟩:=l4 vs h3
  exact .inl ⟨nu,_,a,b,[x],c,d,e,f,rfl,by decide,fun _=>⟨x,rfl⟩,.inr (.inr rfl)⟩
 ·obtain⟨a,rfl⟩:=l1 ns h2
  obtain⟨c,rfl⟩:=l1 vs h3
  exact .inr (.inl ⟨nu,a,c,rfl⟩)
 ·obtain⟨a,b,rfl⟩:=l2 ns h2
  obtain⟨c,rfl⟩:=l1 vs h3
  exact .inr (.inr (.inl ⟨nu,a,b,c,rfl⟩))
 ·obtain⟨a,rfl⟩:=l1 ns h2
  obtain⟨c,d,rfl⟩:=l2 vs h3
  exact .inr (.inr (.inr ⟨nu,a,c,d,rfl⟩))
 ·simp [isKind,k1,k2,k3,k4,k5,k6] at h1
section
variable {E : Oracle} (g : Good E)
include g
set_option maxRecDepth 100000
omit g in
theorem accF_ok {r:Rgs} {n:Nat} {e:Evt} (h:accF r n e=0):e.nu=n+1∧¬vlN e 0<r.kn∧¬ 99999<vlN e 0:=by
 rw [accF,firstI_zero] at h
 have a:=h (if e.nu=n+1 then 0 else 11) (by simp)
 have b:=h (if vlN e 0<r.kn then 19 else 0) (by simp)
 have c:=h (if 99999<vlN e 0 then 3 else 0) (by simp)
 refine⟨?_,?_,?_⟩
 ·exact Decidable.byContradiction fun hn=>by rw [if_neg hn] at a;omega
 ·intro hn;rw [if_pos hn] at b;omega
 ·intro hn;rw [if_pos hn] at c;omega
set_option maxHeartbeats 32000000 in
theorem q_accepts (t:Nat) (ev:List Evt) (r:Rgs) (ho:OkR r) (e:Evt) (hc:chkE e=0) (hev:ev.length≤1000000):
  Qs E n_office_history_accepts [.ptr ⟨0,0,0⟩ 0 0,Evv e] (mR t ev r) (I (accE r ev.length e)):=by
 refine⟨?_⟩
 unfold accE
 by_cases hF:accF r ev.length e=0
 ·rw [if_neg (fun h=>h hF)]
  obtain⟨c1,c2,c3⟩:=accF_ok hF
  clear hF
  rcases evt_cases hc with⟨nu,ki,a,s,more,kn,f,u,m,rfl,hent,hfol,hki⟩|⟨nu,a,kn,rfl⟩|⟨nu,a,en,kn,rfl⟩|⟨nu,a,kn,v,rfl⟩
  ·change nu=_ at c1
   change ¬kn<_ at c2
   change ¬_<kn at c3
   obtain⟨b,hb⟩:∃b,ki=kFollow→more=[b]:=by
    by_cases h:ki=kFollow
    ·obtain⟨b,hb⟩:=hfol h
     exact⟨b,fun _=>hb⟩
    ·exact⟨[],fun h'=>absurd h' h⟩
   have hask:askE r ⟨nu,ki,a::s::more,[kn,f,u,m],[]⟩=askEnt r (decide (ki=kFollow)) a b kn f u m:=by
    rw [askE,if_pos hent]
    by_cases h:ki=kFollow
    ·rw [hb h];rfl
    ·unfold askEnt
     rw [decide_eq_false h]
     simp only [Bool.false_eq_true,false_and,if_false]
     rfl
   have hq:=q_asksEntry g t ev r ho nu ki a s more b kn f u m [] hb
   rw [←hask] at hq
   generalize askE r ⟨nu,ki,a::s::more,[kn,f,u,m],[]⟩=o at *
   have e1:Evv ⟨nu,ki,a::s::more,[kn,f,u,m],[]⟩= .d (.agg [DI nu,.str ki,.list (more.length+1+1) (.str a:: .str s::more.map D.str),.list 4 [DI kn,DI f,DI u,DI m],.str []]):=rfl
   rw [e1] at hq ⊢
   clear hfol hask hent hb
   rcases hki with rfl|rfl|rfl
   all_goals
    refine In.enter (f:=n_office_history_accepts) g.lim rfl rfl ?_
    repeat' ((conv=>whnf);first
    | refine Yz ?_
     | (refine Cmp.ff (fun h=>h c1) ?_)
     | (refine CallI.of (o_when g _ _) ?_)
     | (refine CallI.of (o_first3 g _ _ _) ?_)
     | (refine CallS.kinds g rfl ?_)
     | (refine Find.mk ⟨_,rfl,?_⟩)
     | (refine QryW.of (r':=I o) isR rfl rfl rfl rfl hq rfl rfl rfl ?_)
     | (exact⟨rfl,rfl,rfl,rfl,rfl,rfl,trivial⟩)
     | fail)
  ·change nu=_ at c1
   change ¬kn<_ at c2
   change ¬_<kn at c3
   have hq:=q_asksReverse g t ev r ho nu kReverse a kn []
   change Qs E n_office_Register_asksReverse [.ptr ⟨0,0,0⟩ 1 0,.d (.agg [DI nu,.str kReverse,.list 1 [.str a],.list 1 [DI kn],.str []])] (mR t ev r) (I (askE r ⟨nu,kReverse,[a],[kn],[]⟩)) at hq
   generalize askE r ⟨nu,kReverse,[a],[kn],[]⟩=o at *
   change In E 1 n_office_history_accepts [.ptr ⟨0,0,0⟩ 0 0,.d (.agg [DI nu,.str kReverse,.list 1 [.str a],.list 1 [DI kn],.str []])] (mR t ev r) _
   refine In.enter (f:=n_office_history_accepts) g.lim rfl rfl ?_
   repeat' ((conv=>whnf);first
   | refine Yz ?_
    | (refine Cmp.ff (fun h=>h c1) ?_)
    | (refine CallI.of (o_when g _ _) ?_)
    | (refine CallI.of (o_first3 g _ _ _) ?_)
    | (refine CallS.kinds g rfl ?_)
    | (refine Find.mk ⟨_,rfl,?_⟩)
    | (refine QryW.of (r':=I o) isR rfl rfl rfl rfl hq rfl rfl rfl ?_)
    | (exact⟨rfl,rfl,rfl,rfl,rfl,rfl,trivial⟩)
    | fail)
  ·change nu=_ at c1
   change ¬kn<_ at c2
   change ¬_<kn at c3
   have hq:=q_asksComplaint g t ev r ho nu kComplain a en kn []
   change Qs E n_office_Register_asksComplaint [.ptr ⟨0,0,0⟩ 1 0,.d (.agg [DI nu,.str kComplain,.list 2 [.str a,.str en],.list 1 [DI kn],.str []])] (mR t ev r) (I (askE r ⟨nu,kComplain,[a,en],[kn],[]⟩)) at hq
   generalize askE r ⟨nu,kComplain,[a,en],[kn],[]⟩=o at *
   change In E 1 n_office_history_accepts [.ptr ⟨0,0,0⟩ 0 0,.d (.agg [DI nu,.str kComplain,.list 2 [.str a,.str en],.list 1 [DI kn],.str []])] (mR t ev r) _
   refine In.enter (f:=n_office_history_accepts) g.lim rfl rfl ?_
   repeat' ((conv=>whnf);first
   | refine Yz ?_
    | (refine Cmp.ff (fun h=>h c1) ?_)
    | (refine CallI.of (o_when g _ _) ?_)
    | (refine CallI.of (o_first3 g _ _ _) ?_)
    | (refine CallS.kinds g rfl ?_)
    | (refine Find.mk ⟨_,rfl,?_⟩)
    | (refine QryW.of (r':=I o) isR rfl rfl rfl rfl hq rfl rfl rfl ?_)
    | (exact⟨rfl,rfl,rfl,rfl,rfl,rfl,trivial⟩)
    | fail)
  ·change nu=_ at c1
   change ¬kn<_ at c2
   change ¬_<kn at c3
   have hq:=q_asksDecision g t ev r ho nu kDecide a kn v []
   change Qs E n_office_Register_asksDecision [.ptr ⟨0,0,0⟩ 1 0,.d (.agg [DI nu,.str kDecide,.list 1 [.str a],.list 2 [DI kn,DI v],.str []])] (mR t ev r) (I (askE r ⟨nu,kDecide,[a],[kn,v],[]⟩)) at hq
   generalize askE r ⟨nu,kDecide,[a],[kn,v],[]⟩=o at *
   change In E 1 n_office_history_accepts [.ptr ⟨0,0,0⟩ 0 0,.d (.agg [DI nu,.str kDecide,.list 1 [.str a],.list 2 [DI kn,DI v],.str []])] (mR t ev r) _
   refine In.enter (f:=n_office_history_accepts) g.lim rfl rfl ?_
   repeat' ((conv=>whnf);first
   | refine Yz ?_
    | (refine Cmp.ff (fun h=>h c1) ?_)
    | (refine CallI.of (o_when g _ _) ?_)
    | (refine CallI.of (o_first3 g _ _ _) ?_)
    | (refine CallS.kinds g rfl ?_)
    | (refine Find.mk ⟨_,rfl,?_⟩)
    | (refine QryW.of (r':=I o) isR rfl rfl rfl rfl hq rfl rfl rfl ?_)
    | (exact⟨rfl,rfl,rfl,rfl,rfl,rfl,trivial⟩)
    | fail)
 ·rw [if_pos hF]
  obtain⟨nu,ki,ns,vs,tx⟩:=e
  obtain⟨kn,vr,rfl⟩:∃kn vr,vs=kn::vr:=by
   rcases evt_cases hc with⟨nu,ki,a,s,more,kn,f,u,m,h,_⟩|⟨nu,a,kn,h⟩|⟨nu,a,en,kn,h⟩|⟨nu,a,kn,v,h⟩
   all_goals
    simp only [Evt.mk.injEq] at h
    exact⟨_,_,h.2.2.2.1⟩
  unfold accF at hF ⊢
  change firstI [if nu=ev.length+1 then 0 else 11,if kn<r.kn then 19 else 0,if 99999<kn then 3 else 0]≠0 at hF
  change In E 1 n_office_history_accepts [.ptr ⟨0,0,0⟩ 0 0,.d (.agg [DI nu,.str ki,.list ns.length (ns.map D.str),.list (vr.length+1) (DI kn::vr.map DI),.str tx])] (mR t ev r) (fun v m1=>v=I (firstI [if nu=ev.length+1 then 0 else 11,if kn<r.kn then 19 else 0,if 99999<kn then 3 else 0])∧KeepP m1 (mR t ev r))
  by_cases c1:nu=ev.length+1
  all_goals by_cases c2:kn<r.kn
  all_goals by_cases c3:99999<kn
  all_goals simp only [c1,c2,c3,if_true,if_false] at hF ⊢
  all_goals try (exact absurd rfl hF)
  all_goals refine In.enter (f:=n_office_history_accepts) g.lim rfl rfl ?_
  all_goals repeat' ((conv=>whnf);first
  | refine Yz ?_
   | (refine Cmp.tt c1 ?_)
   | (refine Cmp.ff (fun h=>h rfl) ?_)
   | (refine CallI.of (o_when g _ _) ?_)
   | (refine CallI.of (o_first3 g _ _ _) ?_)
   | (exact⟨rfl,rfl,rfl,rfl,rfl,rfl,trivial⟩)
   | fail)
end
end Go.Proofs.YtcbddkeiohdocaaGreatDoor.Co
/-
 An accepted event added to a history, by the program.
-/
namespace Go.Proofs.YtcbddkeiohdocaaGreatDoor.Co
open Go Go.Evl
theorem flatR_set1 {α:Type} (cell:α→List D) (w:Nat) (hw:∀a,(cell a).length=w) (l:List α) (k j:Nat) (hk:k<l.length) (hj:j<w) (d:D) (x:α) (hx:cell x=patch (cell l[k]) j [d]):patch (l.flatMap cell) (k*w+j) [d]=(l.set k x).flatMap cell:=by
 have h1:l=l.take k++l[k]::l.drop (k+1):=by rw [←List.drop_eq_getElem_cons hk,List.take_append_drop]
 have h2:l.set k x=l.take k++x::l.drop (k+1):=by
  rw [List.set_eq_take_append_cons_drop,if_pos hk]
 rw [h2,List.flatMap_append,List.flatMap_cons,hx]
 have h3:l.flatMap cell=(l.take k).flatMap cell++(cell l[k]++(l.drop (k+1)).flatMap cell):=by
  rw [←List.flatMap_cons,←List.flatMap_append]
  exact congrArg (List.flatMap cell) h1
 rw [h3]
 have h4:((l.take k).flatMap cell).length=k*w:=by
  rw [flatR_length cell w hw,List.length_take,Nat.min_eq_left (by omega)]
 have h5:=hw l[k]
 generalize (l.take k).flatMap cell=A at *
 generalize (l.drop (k+1)).flatMap cell=C at *
 generalize cell l[k]=B at *
 unfold patch
 rw [←h4,List.take_append,List.take_of_length_le (by omega),Nat.add_sub_cancel_left,List.take_append_of_le_length (by omega)]
 rw [List.drop_append,List.drop_of_length_le (by simp;omega),List.length_singleton,Nat.add_assoc,Nat.add_sub_cancel_left,List.drop_append_of_le_length (by omega)]
 simp
section
variable {E : Oracle} (g : Good E)
include g
set_option maxRecDepth 100000
theorem s_CloneS (l:List (List UInt8)) (hl:l≠[]) (hb:l.length≤1000000):Fc E n_slices_Clone_Lstring_string [Ws l] (Ws l):=by
 obtain⟨x,r,rfl⟩:=List.exists_cons_of_ne_nil hl
 rw [List.length_cons] at hb
 change Fc E _ [.d (.list (r.length+1) (.str x::r.map D.str))] (.d (.list (r.length+1) (.str x::r.map D.str)))
 refine g.fn rfl rfl ?_
 repeat' ((conv=>whnf);first
 | refine Yz ?_
  | (refine Need.mk ⟨rfl,rfl,rfl,rfl,rfl,by simp,by omega,by omega⟩ ?_)
  | (refine Chk.mk rfl ?_)
  | fail)
 all_goals try (refine Ret.mk ?_;simp)
theorem s_CloneI (l:List Int) (hl:l≠[]) (hb:l.length≤1000000):Fc E n_slices_Clone_Lint_int [LI l] (LI l):=by
 obtain⟨x,r,rfl⟩:=List.exists_cons_of_ne_nil hl
 rw [List.length_cons] at hb
 change Fc E _ [.d (.list (r.length+1) (DI x::r.map DI))] (.d (.list (r.length+1) (DI x::r.map DI)))
 refine g.fn rfl rfl ?_
 repeat' ((conv=>whnf);first
 | refine Yz ?_
  | (refine Need.mk ⟨rfl,rfl,rfl,rfl,rfl,by simp,by omega,by omega⟩ ?_)
  | (refine Chk.mk rfl ?_)
  | fail)
 all_goals try (refine Ret.mk ?_;simp)
abbrev bxE (e:Evt):Evl.Id×Ob:=(⟨0,7,0⟩,.cells ty_api_Event [I e.nu,S e.ki,.d (.list e.ns.length (e.ns.map D.str)),.d (.list e.vs.length (e.vs.map DI)),S e.tx])
set_option maxHeartbeats 64000000 in
theorem in_add (ev:List Evt) (r:Rgs) (ho:OkR r) (hrs:r.rs.length<1000) (e:Evt) (hs:stepE r ev.length e=0) (hev:ev.length≤1000) {slot:Nat} {K:V→Mem→Prop} (hK:K (.tup []) (mH (ev++[e]) (aftE r e)++[bxE e])):
  In E 1 n_office_history_add [.ptr ⟨0,13,0⟩ 0 0,Evv e] (mH ev r++[bxE e]) fun v m'=>backW ⟨0,1⟩ slot true v m' K:=by
 obtain⟨hc,ha⟩:=step_ok hs
 obtain⟨_,_,_,hask⟩:=acc_ok ha
 have hes:=ho.es
 have hcs:=ho.cs
 have hme:(ev.flatMap Evt.cells).length=ev.length*5:=flatR_length Evt.cells 5 evw ev
 rcases evt_cases hc with⟨nu,ki,a,s,more,kn,f,u,m,rfl,hent,hfol,hki⟩|⟨nu,a,kn,rfl⟩|⟨nu,a,en,kn,rfl⟩|⟨nu,a,kn,v,rfl⟩
 ·have hc1:=s_CloneS g (a::s::more) (by simp) (by
   have h:=(chk_ok hc).2.1
   dsimp only at h
   rw [h]
   rcases hki with rfl|rfl|rfl
   ·decide
   ·decide
   ·decide)
  have hc2:=s_CloneI g [kn,f,u,m] (by simp) (by simp)
  rw [askE,if_pos hent] at hask
  obtain⟨_,hl,_⟩:=askEnt_ok hask
  have hml:(r.es.flatMap Ent.cells).length=r.es.length*8:=flatR_length Ent.cells 8 entw r.es
  clear hs hc ha hask
  by_cases hf:ki=kFollow
  ·obtain⟨b,rfl⟩:=hfol hf
   subst hf
   have haft:aftE r ⟨nu,kFollow,[a,s,b],[kn,f,u,m],[]⟩=⟨kn,r.es++[⟨a,kFollow,s,b,kn,f,u,m⟩],r.rs,r.cs⟩:=rfl
   rw [haft] at hK
   simp only [List.length_append,List.length_cons,List.length_nil,List.flatMap_append,List.flatMap_cons,List.flatMap_nil,mH,bxE] at hK
   change Fc E _ [.d (.list 3 [.str a,.str s,.str b])] (.d (.list 3 [.str a,.str s,.str b])) at hc1
   change Fc E _ [.d (.list 4 [DI kn,DI f,DI u,DI m])] (.d (.list 4 [DI kn,DI f,DI u,DI m])) at hc2
   change In E 1 n_office_history_add [.ptr ⟨0,13,0⟩ 0 0,.d (.agg [DI nu,.str kFollow,.list 3 [.str a,.str s,.str b],.list 4 [DI kn,DI f,DI u,DI m],.str []])] _ _
   refine In.enter (f:=n_office_history_add) g.lim rfl rfl ?_
   repeat' ((conv=>whnf);first
   | refine Yz ?_
    | (apply CallI.of;assumption)
    | (refine Need.mk ⟨rfl,rfl,rfl,rfl,rfl,rfl,by dsimp only;omega,by dsimp only;omega⟩ ?_)
    | (refine CallS.kinds g rfl ?_)
    | (refine Find.mk ⟨_,rfl,?_⟩)
    | (refine In.enter (f:=n_office_Register_doesEntry) g.lim rfl rfl ?_)
    | (exact hK)
    | fail)
  ·have haft:aftE r ⟨nu,ki,a::s::more,[kn,f,u,m],[]⟩=⟨kn,r.es++[⟨a,ki,s,[],kn,f,u,m⟩],r.rs,r.cs⟩:=by
    rw [aftE,if_pos hent,entOf,if_neg hf]
    rfl
   rw [haft] at hK
   simp only [List.length_append,List.length_cons,List.length_nil,List.flatMap_append,List.flatMap_cons,List.flatMap_nil,mH,bxE] at hK
   change Fc E _ [.d (.list (more.length+1+1) (.str a:: .str s::more.map D.str))] (.d (.list (more.length+1+1) (.str a:: .str s::more.map D.str))) at hc1
   change Fc E _ [.d (.list 4 [DI kn,DI f,DI u,DI m])] (.d (.list 4 [DI kn,DI f,DI u,DI m])) at hc2
   change In E 1 n_office_history_add [.ptr ⟨0,13,0⟩ 0 0,.d (.agg [DI nu,.str ki,.list (more.length+1+1) (.str a:: .str s::more.map D.str),.list 4 [DI kn,DI f,DI u,DI m],.str []])] _ _
   rcases hki with rfl|rfl|rfl
   ·refine In.enter (f:=n_office_history_add) g.lim rfl rfl ?_
    repeat' ((conv=>whnf);first
    | refine Yz ?_
     | (apply CallI.of;assumption)
     | (refine Need.mk ⟨rfl,rfl,rfl,rfl,rfl,rfl,by dsimp only;omega,by dsimp only;omega⟩ ?_)
     | (refine CallS.kinds g rfl ?_)
     | (refine Find.mk ⟨_,rfl,?_⟩)
     | (refine In.enter (f:=n_office_Register_doesEntry) g.lim rfl rfl ?_)
     | (exact hK)
     | fail)
   ·refine In.enter (f:=n_office_history_add) g.lim rfl rfl ?_
    repeat' ((conv=>whnf);first
    | refine Yz ?_
     | (apply CallI.of;assumption)
     | (refine Need.mk ⟨rfl,rfl,rfl,rfl,rfl,rfl,by dsimp only;omega,by dsimp only;omega⟩ ?_)
     | (refine CallS.kinds g rfl ?_)
     | (refine Find.mk ⟨_,rfl,?_⟩)
     | (refine In.enter (f:=n_office_Register_doesEntry) g.lim rfl rfl ?_)
     | (exact hK)
     | fail)
   ·exact absurd rfl hf
 ·have hc1:=s_CloneS g [a] (by simp) (by simp)
  have hc2:=s_CloneI g [kn] (by simp) (by simp)
  have hml:(r.rs.flatMap Rmv.cells).length=r.rs.length*2:=flatR_length Rmv.cells 2 rmvw r.rs
  clear hs hc ha hask
  have haft:aftE r ⟨nu,kReverse,[a],[kn],[]⟩=⟨kn,r.es,r.rs++[⟨a,kn⟩],r.cs⟩:=rfl
  rw [haft] at hK
  simp only [List.length_append,List.length_cons,List.length_nil,List.flatMap_append,List.flatMap_cons,List.flatMap_nil,mH,bxE] at hK
  change Fc E _ [.d (.list 1 [.str a])] (.d (.list 1 [.str a])) at hc1
  change Fc E _ [.d (.list 1 [DI kn])] (.d (.list 1 [DI kn])) at hc2
  change In E 1 n_office_history_add [.ptr ⟨0,13,0⟩ 0 0,.d (.agg [DI nu,.str kReverse,.list 1 [.str a],.list 1 [DI kn],.str []])] _ _
  refine In.enter (f:=n_office_history_add) g.lim rfl rfl ?_
  repeat' ((conv=>whnf);first
  | refine Yz ?_
   | (apply CallI.of;assumption)
   | (refine Need.mk ⟨rfl,rfl,rfl,rfl,rfl,rfl,by dsimp only;omega,by dsimp only;omega⟩ ?_)
   | (refine CallS.kinds g rfl ?_)
   | (refine Find.mk ⟨_,rfl,?_⟩)
   | (refine In.enter (f:=n_office_kinds_1) g.lim rfl rfl ?_)
   | (refine In.enter (f:=n_office_Register_remove) g.lim rfl rfl ?_)
   | (exact hK)
   | fail)
 ·have hc1:=s_CloneS g [a,en] (by simp) (by simp)
  have hc2:=s_CloneI g [kn] (by simp) (by simp)
  have hml:(r.cs.flatMap Cpl.cells).length=r.cs.length*5:=flatR_length Cpl.cells 5 cplw r.cs
  clear hs hc ha hask
  have haft:aftE r ⟨nu,kComplain,[a,en],[kn],[]⟩=⟨kn,r.es,r.rs,r.cs++[⟨a,en,kn,false,false⟩]⟩:=rfl
  rw [haft] at hK
  simp only [List.length_append,List.length_cons,List.length_nil,List.flatMap_append,List.flatMap_cons,List.flatMap_nil,mH,bxE] at hK
  change Fc E _ [.d (.list 2 [.str a,.str en])] (.d (.list 2 [.str a,.str en])) at hc1
  change Fc E _ [.d (.list 1 [DI kn])] (.d (.list 1 [DI kn])) at hc2
  change In E 1 n_office_history_add [.ptr ⟨0,13,0⟩ 0 0,.d (.agg [DI nu,.str kComplain,.list 2 [.str a,.str en],.list 1 [DI kn],.str []])] _ _
  refine In.enter (f:=n_office_history_add) g.lim rfl rfl ?_
  repeat' ((conv=>whnf);first
  | refine Yz ?_
   | (apply CallI.of;assumption)
   | (refine Need.mk ⟨rfl,rfl,rfl,rfl,rfl,rfl,by dsimp only;omega,by dsimp only;omega⟩ ?_)
   | (refine CallS.kinds g rfl ?_)
   | (refine Find.mk ⟨_,rfl,?_⟩)
   | (refine In.enter (f:=n_office_Register_doesComplaint) g.lim rfl rfl ?_)
   | (exact hK)
   | fail)
 ·have hc1:=s_CloneS g [a] (by simp) (by simp)
  have hc2:=s_CloneI g [kn,v] (by simp) (by simp)
  have hml:(r.rs.flatMap Rmv.cells).length=r.rs.length*2:=flatR_length Rmv.cells 2 rmvw r.rs
  have hmc:(r.cs.flatMap Cpl.cells).length=r.cs.length*5:=flatR_length Cpl.cells 5 cplw r.cs
  change askDec r a v=0 at hask
  rcases cplI_cases r.cs a with h|⟨k,hk,h,hnm⟩
  ·rw [askDec,h,if_pos (by decide)] at hask
   omega
  have hgd:r.cs.getD k cpl0=r.cs[k]:=by simp [List.getD,hk]
  have haft:aftE r ⟨nu,kDecide,[a],[kn,v],[]⟩=⟨kn,r.es,if v=1 then r.rs++[⟨r.cs[k].en,kn⟩] else r.rs,r.cs.set k {r.cs[k] with cl:=true,up:=decide (v=1)}⟩:=by
   change (Rgs.mk kn r.es (if v=1 then r.rs++[⟨(r.cs.getD (cplI r.cs a).toNat cpl0).en,kn⟩] else r.rs) (r.cs.set (cplI r.cs a).toNat {r.cs.getD (cplI r.cs a).toNat cpl0 with cl:=true,up:=decide (v=1)}))=_
   rw [h,Int.toNat_natCast,hgd]
  rw [haft] at hK
  have hq:=q_complaint g ty_office_history (ev++[⟨nu,kDecide,[a],[kn,v],[]⟩]) ⟨kn,r.es,r.rs,r.cs⟩ a (by dsimp only;omega)
  rw [show cplI (Rgs.mk kn r.es r.rs r.cs).cs a=k from h,cplP,if_pos (by omega)] at hq
  simp only [List.length_append,List.length_cons,List.length_nil,List.flatMap_append,List.flatMap_cons,List.flatMap_nil,mR] at hq
  clear hs hc ha hask haft
  have hp1:patch (r.cs.flatMap Cpl.cells) ((0+((k:Nat):Int).toNat)*5+3) [.bool true]=(r.cs.set k {r.cs[k] with cl:=true}).flatMap Cpl.cells:=by
   rw [Nat.zero_add,Int.toNat_natCast]
   exact flatR_set1 Cpl.cells 5 cplw r.cs k 3 hk (by decide) _ _ rfl
  have hm1:((r.cs.set k {r.cs[k] with cl:=true}).flatMap Cpl.cells).length=r.cs.length*5:=by rw [flatR_length Cpl.cells 5 cplw,List.length_set]
  have hk1:k<(r.cs.set k {r.cs[k] with cl:=true}).length:=by rw [List.length_set];exact hk
  have hp2:∀b,patch ((r.cs.set k {r.cs[k] with cl:=true}).flatMap Cpl.cells) ((0+((k:Nat):Int).toNat)*5+4) [.bool b]=(r.cs.set k {r.cs[k] with cl:=true,up:=b}).flatMap Cpl.cells:=by
   intro b
   rw [Nat.zero_add,Int.toNat_natCast]
   have:=flatR_set1 Cpl.cells 5 cplw (r.cs.set k {r.cs[k] with cl:=true}) k 4 hk1 (by decide) (.bool b) {r.cs[k] with cl:=true,up:=b} (by rw [List.getElem_set_self];rfl)
   rw [this,List.set_set]
  have hp3:∀b,k<(r.cs.set k {r.cs[k] with cl:=true,up:=b}).length:=fun b=>by rw [List.length_set];exact hk
  have hp4:∀b,(r.cs.set k {r.cs[k] with cl:=true,up:=b})[k]'(hp3 b)={r.cs[k] with cl:=true,up:=b}:=fun b=>List.getElem_set_self _
  change Fc E _ [.d (.list 1 [.str a])] (.d (.list 1 [.str a])) at hc1
  change Fc E _ [.d (.list 2 [DI kn,DI v])] (.d (.list 2 [DI kn,DI v])) at hc2
  change In E 1 n_office_history_add [.ptr ⟨0,13,0⟩ 0 0,.d (.agg [DI nu,.str kDecide,.list 1 [.str a],.list 2 [DI kn,DI v],.str []])] _ _
  by_cases hv:v=1
  ·rw [if_pos hv,decide_eq_true hv] at hK
   simp only [List.length_append,List.length_cons,List.length_nil,List.flatMap_append,List.flatMap_cons,List.flatMap_nil,List.length_set,mH,bxE] at hK
   refine In.enter (f:=n_office_history_add) g.lim rfl rfl ?_
   repeat' ((conv=>whnf);first
   | refine Yz ?_
    | (apply CallI.of;assumption)
    | (refine Need.mk ⟨rfl,rfl,rfl,rfl,rfl,rfl,by dsimp only;omega,by dsimp only;omega⟩ ?_)
    | (refine CallS.kinds g rfl ?_)
    | (refine Find.mk ⟨_,rfl,?_⟩)
    | (refine Cmp.tt hv ?_)
    | (refine In.enter (f:=n_office_Register_doesDecision) g.lim rfl rfl ?_)
    | (refine QryW.of (r':= .ptr ⟨0,12,3⟩ ((0+((k:Nat):Int).toNat)*5) r.cs.length) isH rfl rfl rfl rfl hq rfl rfl rfl ?_)
    | (refine Need.mk ⟨rfl,by omega,rfl⟩ ?_;first |rw [hp1]|rw [hp2])
    | (refine Pick.rec0 cplw k rfl (hp3 true) (by rw [hp4];rfl) ?_)
    | (refine In.enter (f:=n_office_Register_remove) g.lim rfl rfl ?_)
    | (exact hK)
    | fail)
  ·rw [if_neg hv,decide_eq_false hv] at hK
   simp only [List.length_append,List.length_cons,List.length_nil,List.flatMap_append,List.flatMap_cons,List.flatMap_nil,List.length_set,mH,bxE] at hK
   refine In.enter (f:=n_office_history_add) g.lim rfl rfl ?_
   repeat' ((conv=>whnf);first
   | refine Yz ?_
    | (apply CallI.of;assumption)
    | (refine Need.mk ⟨rfl,rfl,rfl,rfl,rfl,rfl,by dsimp only;omega,by dsimp only;omega⟩ ?_)
    | (refine CallS.kinds g rfl ?_)
    | (refine Find.mk ⟨_,rfl,?_⟩)
    | (refine Cmp.ff hv ?_)
    | (refine In.enter (f:=n_office_Register_doesDecision) g.lim rfl rfl ?_)
    | (refine QryW.of (r':= .ptr ⟨0,12,3⟩ ((0+((k:Nat):Int).toNat)*5) r.cs.length) isH rfl rfl rfl rfl hq rfl rfl rfl ?_)
    | (refine Need.mk ⟨rfl,by omega,rfl⟩ ?_;first |rw [hp1]|rw [hp2])
    | (refine Pick.rec0 cplw k rfl (hp3 false) (by rw [hp4];rfl) ?_)
    | (refine In.enter (f:=n_office_Register_remove) g.lim rfl rfl ?_)
    | (exact hK)
    | fail)
end
end Go.Proofs.YtcbddkeiohdocaaGreatDoor.Co
/-
 Events one after another: replay, by the program.
-/
namespace Go.Proofs.YtcbddkeiohdocaaGreatDoor.Co
open Go Go.Evl
abbrev mS (lv sl:Nat) (ev:List Evt) (r:Rgs):Mem:=[(⟨lv,sl,0⟩,.cells ty_office_history [.ref ⟨lv,sl,1⟩ 0 ev.length ev.length,I r.kn,.ref ⟨lv,sl,2⟩ 0 r.es.length r.es.length,.ref ⟨lv,sl,3⟩ 0 r.rs.length r.rs.length,.ref ⟨lv,sl,4⟩ 0 r.cs.length r.cs.length]),
 (⟨lv,sl,1⟩,.row false ty_api_Event 5 ev.length (ev.flatMap Evt.cells)),(⟨lv,sl,2⟩,.row false ty_office_Entry 8 r.es.length (r.es.flatMap Ent.cells)),(⟨lv,sl,3⟩,.row false ty_office_Removal 2 r.rs.length (r.rs.flatMap Rmv.cells)),(⟨lv,sl,4⟩,.row true ty_office_Complaint 5 r.cs.length (r.cs.flatMap Cpl.cells))]
theorem replG_at {r:Rgs} {l:List Evt} {k:Nat} (hk:k<l.length):replG r k (l.drop k)=if stepE r k l[k]≠0 then(rg0,k+1,stepE r k l[k]) else replG (aftE r l[k]) (k+1) (l.drop (k+1)):=by
 rw [List.drop_eq_getElem_cons hk,replG_cons]
section
variable {E : Oracle} (g : Good E)
include g
set_option maxRecDepth 100000
set_option maxHeartbeats 32000000 in
theorem in_replay (l:List Evt) (hl:l.length≤1000) (hb:∀e∈l,e.ns.length≤1000000∧e.vs.length≤1000000):
  In E 0 n_office_replay [LE l] [] fun v m'=>((replG rg0 0 l).2.2=0→v= .tup [.ptr ⟨0,13,0⟩ 0 0,I 0,I 0]∧m'=mH l (replG rg0 0 l).1)∧((replG rg0 0 l).2.2≠0→v= .tup [.d .nilp,I (replG rg0 0 l).2.1,I (replG rg0 0 l).2.2]):=by
 refine In.enter (f:=n_office_replay) g.lim rfl rfl ?_
 have hml:(l.flatMap Evt.cells).length=l.length*5:=flatR_length Evt.cells 5 evw l
 generalize hR:replG rg0 0 l=R
 repeat' ((conv=>whnf);first
 | refine Yz ?_
  | fail)
 refine LoopW.to (LoopW.by (σ:=List Evt×Rgs) g (fun u=>u.1=l.take u.1.length∧u.1.length≤l.length∧OkR u.2∧u.2.rs.length≤u.1.length∧replG u.2 u.1.length (l.drop u.1.length)=R)
  (fun u=>[(5,.ptr ⟨0,13,0⟩ 0 0),(14,LE l),(15,I l.length),(16,I u.1.length)]) (fun u=>mH u.1 u.2) (fun u=>l.length-u.1.length) ?_ ([],rg0) ⟨rfl,Nat.zero_le _,ok_rg0,Nat.le_refl _,hR⟩) rfl rfl
 clear hR
 rintro⟨ev,r⟩ ⟨h1,h2,ho,h3,hR⟩ ih
 dsimp only at h1 h2 ho h3 hR ih ⊢
 by_cases hlt:ev.length<l.length
 ·rw [replG_at hlt] at hR
  have hwin:win (l.flatMap Evt.cells) (((ev.length:Nat):Int).toNat*5) 5=l[ev.length].cells:=by
   rw [Int.toNat_natCast]
   exact flatR_win Evt.cells 5 evw l ev.length hlt
  obtain⟨hb1,hb2⟩:=hb _ (List.getElem_mem hlt)
  have ih:=fun hz:stepE r ev.length l[ev.length]=0=>ih (ev++[l[ev.length]],aftE r l[ev.length]) ⟨by
   rw [List.length_append,List.length_singleton,List.take_succ_eq_append_getElem hlt,←h1],by
   rw [List.length_append,List.length_singleton];omega,ok_aft ho hz (by omega),by
   have:=aft_rs r l[ev.length]
   dsimp only
   rw [List.length_append,List.length_singleton];omega,by
   rw [if_neg (fun h=>h hz)] at hR
   rw [List.length_append,List.length_singleton];exact hR⟩ (by rw [List.length_append,List.length_singleton];omega)
  simp only [List.length_append,List.length_cons,List.length_nil] at ih
  generalize l[ev.length]=e at *
  have hce:=s_CheckEvent g e hb1 hb2
  by_cases hc:chkE e=0
  ·rw [hc] at hce
   have hq:=q_accepts g ty_office_history ev r ho e hc (by omega)
   have hst:stepE r ev.length e=accE r ev.length e:=by rw [stepE,if_neg (fun h=>h hc)]
   by_cases ha:accE r ev.length e=0
   ·rw [ha] at hq hst
    have ih:=ih hst
    repeat' ((conv=>whnf);first
    | refine Yz ?_
     | (rw [hwin])
     | (apply CallI.of;assumption)
     | (refine QryW.of (r':=I 0) isH rfl rfl rfl rfl hq rfl rfl rfl ?_)
     | (refine in_add g ev r ho (by omega) e hst (by omega) (slot:=35) ?_)
     | (refine LoopW.to ih rfl rfl)
     | fail)
   ·rw [hst,if_pos ha] at hR
    generalize accE r ev.length e=x at *
    subst hR
    repeat' ((conv=>whnf);first
    | refine Yz ?_
     | (rw [hwin])
     | (apply CallI.of;assumption)
     | (refine QryW.of (r':=I x) isH rfl rfl rfl rfl hq rfl rfl rfl ?_)
     | (refine Cmp.ff ha ?_)
     | (exact⟨fun h=>absurd h ha,fun _=>rfl⟩)
     | fail)
  ·have hst:stepE r ev.length e=chkE e:=by rw [stepE,if_pos hc]
   rw [hst,if_pos hc] at hR
   generalize chkE e=x at *
   subst hR
   repeat' ((conv=>whnf);first
   | refine Yz ?_
    | (rw [hwin])
    | (apply CallI.of;assumption)
    | (refine Cmp.ff hc ?_)
    | (exact⟨fun h=>absurd h hc,fun _=>rfl⟩)
    | fail)
 ·have e1:ev=l:=by rw [h1,List.take_of_length_le (by omega)]
  subst e1
  rw [List.drop_of_length_le (by omega)] at hR
  subst hR
  repeat' ((conv=>whnf);first
  | refine Yz ?_
   | (exact⟨fun _=>⟨rfl,rfl⟩,fun h=>absurd rfl h⟩)
   | fail)
theorem CallS.replay {l:List Evt} (hl:l.length≤1000) (hb:∀e∈l,e.ns.length≤1000000∧e.vs.length≤1000000) {cx:Cx} {slot:Nat} {m:Mem} {K:V→Mem→Prop} (hf:Go.Evl.freeK cx.lv slot m=0) (hz:(replG rg0 0 l).2.2=0)
  (k:K (.tup [.ptr ⟨cx.lv,slot,0⟩ 0 0,I 0,I 0]) (m++mS cx.lv slot l (replG rg0 0 l).1)):CallS E n_office_replay [LE l] cx slot m K:=by
 obtain⟨v,m',h1,h2,_⟩:=(in_replay g l hl hb).got
 obtain⟨rfl,rfl⟩:=h2 hz
 refine⟨_,_,(_,m++mS cx.lv slot l (replG rg0 0 l).1),h1,?_,k⟩
 unfold Evl.settle
 rw [hf]
 rfl
theorem CallS.replayNo {l:List Evt} (hl:l.length≤1000) (hb:∀e∈l,e.ns.length≤1000000∧e.vs.length≤1000000) {cx:Cx} {slot:Nat} {m:Mem} {K:V→Mem→Prop} (hz:(replG rg0 0 l).2.2≠0)
  (k:K (.tup [.d .nilp,I (replG rg0 0 l).2.1,I (replG rg0 0 l).2.2]) (m++[])):CallS E n_office_replay [LE l] cx slot m K:=by
 obtain⟨v,m',h1,_,h2⟩:=(in_replay g l hl hb).got
 obtain rfl:=h2 hz
 exact⟨_,_,(_,m++[]),h1,rfl,k⟩
end
end Go.Proofs.YtcbddkeiohdocaaGreatDoor.Co
/-
 The minute of a series as of a day of knowledge, by the program.
-/
namespace Go.Proofs.YtcbddkeiohdocaaGreatDoor.Co
open Go Go.Evl
def hitE (r:Rgs) (s:List UInt8) (kn d:Int) (x:Ent):Bool:=decide (x.sr=s)&&decide (x.fr≤d)&&decide (d≤x.to)&&cntE r x kn
def minE (r:Rgs) (s:List UInt8) (kn d:Int):Int:=r.es.foldl (fun o x=>if hitE r s kn d x then x.mi else o) 1440
theorem fold_none {α:Type} (p:α→Bool) (f:α→Int):∀(l:List α) (a:Int),(∀x∈l,p x=false)→l.foldl (fun o x=>if p x then f x else o) a=a
 | [],a,_=>rfl
 | x::l,a,h=>by
  rw [List.foldl_cons,h x (by simp)]
  exact fold_none p f l a fun y hy=>h y (by simp [hy])
theorem fold_hit {α:Type} (p:α→Bool) (f:α→Int) (l:List α) (a:Int) {k:Nat} (hk:k<l.length) (h:p l[k]=true) (hn:∀j,(hj:j<l.length)→k<j→p l[j]=false):l.foldl (fun o x=>if p x then f x else o) a=f l[k]:=by
 have h1:l=l.take k++l[k]::l.drop (k+1):=by rw [←List.drop_eq_getElem_cons hk,List.take_append_drop]
 have h2:∀x∈l.drop (k+1),p x=false:=fun x hx=>by
  obtain⟨j,hj,rfl⟩:=List.mem_iff_getElem.1 hx
  rw [List.length_drop] at hj
  rw [List.getElem_drop]
  exact hn _ (by omega) (by omega)
 have h3:(l.take k++l[k]::l.drop (k+1)).foldl (fun o x=>if p x then f x else o) a=f l[k]:=by
  rw [List.foldl_append,List.foldl_cons,fold_none p f _ _ h2,h]
  rfl
 rw [←h1] at h3
 exact h3
theorem minE_hit {r:Rgs} {s:List UInt8} {kn d:Int} {k:Nat} (hk:k<r.es.length) (h:hitE r s kn d r.es[k]=true) (hn:∀j,(hj:j<r.es.length)→k<j→hitE r s kn d r.es[j]=false):minE r s kn d=r.es[k].mi:=fold_hit _ _ _ _ hk h hn
theorem minE_none {r:Rgs} {s:List UInt8} {kn d:Int} (hn:∀j,(hj:j<r.es.length)→hitE r s kn d r.es[j]=false):minE r s kn d=1440:=fold_none _ _ _ _ fun x hx=>by
 obtain⟨j,hj,rfl⟩:=List.mem_iff_getElem.1 hx
 exact hn j hj
section
variable {E : Oracle} (g : Good E)
include g
set_option maxRecDepth 100000
theorem CallS.backward {n:Nat} {cs:List D} {cx:Cx} {slot:Nat} {m:Mem} {K:V→Mem→Prop} (hf:Go.Evl.freeK cx.lv slot m=0)
  (k:K (.fn n_slices_Backward_Loffice_Entry_office_Entry_1 [] [.ptr ⟨cx.lv,slot,0⟩ 0 0]) (m++[(⟨cx.lv,slot,0⟩,.cells ty_Loffice_Entry [.d (.list n cs)])])):CallS E n_slices_Backward_Loffice_Entry_office_Entry [.d (.list n cs)] cx slot m K:=by
 have h:In E 0 n_slices_Backward_Loffice_Entry_office_Entry [.d (.list n cs)] [] fun v m'=>v= .fn n_slices_Backward_Loffice_Entry_office_Entry_1 [] [.ptr ⟨0,1,0⟩ 0 0]∧m'=[(⟨0,1,0⟩,.cells ty_Loffice_Entry [.d (.list n cs)])]:=by
  refine In.enter (f:=n_slices_Backward_Loffice_Entry_office_Entry) g.lim rfl rfl ?_
  repeat' ((conv=>whnf);first
  | refine Yz ?_
   | (exact⟨rfl,rfl⟩)
   | fail)
 obtain⟨v,m',h1,rfl,rfl⟩:=h.got
 refine⟨_,_,(_,_),h1,?_,k⟩
 unfold Evl.settle
 rw [hf]
 rfl
set_option maxHeartbeats 32000000 in
theorem q_minute (t:Nat) (ev:List Evt) (r:Rgs) (ho:OkR r) (s:List UInt8) (kn d:Int):Qs E n_office_Register_minute [.ptr ⟨0,0,0⟩ 1 0,S s,I kn,I d] (mR t ev r) (I (minE r s kn d)):=by
 refine⟨?_⟩
 have hes:=ho.es
 have hml:(r.es.flatMap Ent.cells).length=r.es.length*8:=flatR_length Ent.cells 8 entw r.es
 refine In.enter (f:=n_office_Register_minute) g.lim rfl rfl ?_
 repeat' ((conv=>whnf);first
 | refine Yz ?_
  | (rw [if_pos ⟨rfl,rfl⟩];refine CallS.backward g rfl ?_)
  | (refine CallS.backward g rfl ?_)
  | (refine In.enter (f:=n_slices_Backward_Loffice_Entry_office_Entry_1) g.lim rfl rfl ?_)
  | fail)
 refine LoopW.to (LoopW.by (σ:=Nat) g (fun n=>n≤r.es.length∧∀j,(hj:j<r.es.length)→n≤j→hitE r s kn d r.es[j]=false)
  (fun n=>[(0,.yld ⟨1,43,0⟩),(1,.ptr ⟨1,15,0⟩ 0 0),(3,I ((n:Int)-1))])
  (fun _=>mR t ev r++[(⟨1,4,0⟩,.cells ty_ptr_office_Register [.ptr ⟨0,0,0⟩ 1 0]),(⟨1,5,0⟩,.cells ty_string [S s]),(⟨1,6,0⟩,.cells ty_int [I kn]),(⟨1,7,0⟩,.cells ty_int [I d]),(⟨1,8,0⟩,.cells ty_int [I 0]),(⟨1,15,0⟩,.cells ty_Loffice_Entry [.d (.list r.es.length (r.es.flatMap Ent.cells))]),
   (⟨1,43,0⟩,.loop [(4,.ptr ⟨1,4,0⟩ 0 0),(5,.ptr ⟨1,5,0⟩ 0 0),(6,.ptr ⟨1,6,0⟩ 0 0),(7,.ptr ⟨1,7,0⟩ 0 0),(8,.ptr ⟨1,8,0⟩ 0 0),(15,.fn n_slices_Backward_Loffice_Entry_office_Entry_1 [] [.ptr ⟨1,15,0⟩ 0 0])] [16,17] b_office_Register_minute_1 b_office_Register_minute_2 1 false false none)])
  (fun n=>n) ?_ r.es.length ⟨Nat.le_refl _,fun j hj h=>absurd hj (by omega)⟩) rfl rfl
 rintro n ⟨h1,h2⟩ ih
 dsimp only at ih ⊢
 rcases Nat.eq_zero_or_pos n with rfl|hn
 ·rw [minE_none fun j hj=>h2 j hj (Nat.zero_le _)]
  repeat' ((conv=>whnf);first
  | refine Yz ?_
   | (exact⟨rfl,rfl,rfl,rfl,rfl,rfl,trivial⟩)
   | fail)
 ·obtain⟨k,rfl⟩:∃k,n=k+1:=⟨n-1,by omega⟩
  have hk:k<r.es.length:=by omega
  have e1:((k+1:Nat):Int)-1=k:=by omega
  have hwin:win (r.es.flatMap Ent.cells) (((k:Nat):Int).toNat*8) 8=r.es[k].cells:=by
   rw [Int.toNat_natCast]
   exact flatR_win Ent.cells 8 entw r.es k hk
  have hq:=q_cnt g t ev r ho kn k hk
  have ih:=fun h:hitE r s kn d r.es[k]=false=>ih k ⟨by omega,fun j hj hkj=>by
   by_cases e:j=k
   ·subst e;exact h
   ·exact h2 j hj (by omega)⟩ (by omega)
  rw [e1]
  have hhit:hitE r s kn d r.es[k]=(decide (r.es[k].sr=s)&&decide (r.es[k].fr≤d)&&decide (d≤r.es[k].to)&&cntE r r.es[k] kn):=rfl
  by_cases hs:r.es[k].sr=s
  ·by_cases hf:r.es[k].fr≤d
   ·by_cases ht:d≤r.es[k].to
    ·cases hc:cntE r r.es[k] kn with
     | true=>
      rw [hc] at hq
      rw [minE_hit hk (by rw [hhit,decide_eq_true hs,decide_eq_true hf,decide_eq_true ht,hc];rfl) fun j hj hjk=>h2 j hj (by omega)]
      repeat' ((conv=>whnf);first
      | refine Yz ?_
       | (rw [hwin])
       | (refine Rnd.enter g.lim ?_)
       | (refine Cmp.tt hs ?_)
       | (refine QryW.of (r':=B true) isR rfl rfl rfl rfl hq rfl rfl rfl ?_)
       | (exact⟨rfl,rfl,rfl,rfl,rfl,rfl,trivial⟩)
       | fail)
     | false=>
      rw [hc] at hq
      have ih:=ih (by rw [hhit,hc,Bool.and_false])
      repeat' ((conv=>whnf);first
      | refine Yz ?_
       | (rw [hwin])
       | (refine Rnd.enter g.lim ?_)
       | (refine Cmp.tt hs ?_)
       | (refine QryW.of (r':=B false) isR rfl rfl rfl rfl hq rfl rfl rfl ?_)
       | (refine LoopW.to ih rfl rfl)
       | fail)
    ·have ih:=ih (by rw [hhit,decide_eq_false ht,Bool.and_false,Bool.false_and])
     repeat' ((conv=>whnf);first
     | refine Yz ?_
      | (rw [hwin])
      | (refine Rnd.enter g.lim ?_)
      | (refine Cmp.tt hs ?_)
      | (refine LoopW.to ih rfl rfl)
      | fail)
   ·have ih:=ih (by rw [hhit,decide_eq_false hf,Bool.and_false,Bool.false_and,Bool.false_and])
    repeat' ((conv=>whnf);first
    | refine Yz ?_
     | (rw [hwin])
     | (refine Rnd.enter g.lim ?_)
     | (refine Cmp.tt hs ?_)
     | (refine LoopW.to ih rfl rfl)
     | fail)
  ·have ih:=ih (by rw [hhit,decide_eq_false hs,Bool.false_and,Bool.false_and,Bool.false_and])
   repeat' ((conv=>whnf);first
   | refine Yz ?_
    | (rw [hwin])
    | (refine Rnd.enter g.lim ?_)
    | (refine Cmp.ff hs ?_)
    | (refine LoopW.to ih rfl rfl)
    | fail)
end
end Go.Proofs.YtcbddkeiohdocaaGreatDoor.Co
/-
 Questions about events: asked, Minute, History, by the program.
-/
namespace Go.Proofs.YtcbddkeiohdocaaGreatDoor.Co
open Go Go.Evl
abbrev rgL (l:List Evt):Rgs:=(replG rg0 0 l).1
abbrev erL (l:List Evt):Int:=(replG rg0 0 l).2.2
structure Turn where
 kn:Int
 mi:Int
def Turn.cells (t:Turn):List D:=[DI t.kn,DI t.mi]
theorem rgL_ok {l:List Evt} (hl:l.length≤1000) (h:erL l=0):OkR (rgL l):=replG_ok l rg0 0 ok_rg0 (Nat.le_refl _) (by omega) h
section
variable {E : Oracle} (g : Good E)
include g
set_option maxRecDepth 100000
theorem s_oday (n:Int):Fc E n_office_checkDay [I n] (I (rng n 0 99999)):=by
 refine g.fn rfl rfl ?_
 have h:=s_owithin g n 0 99999
 repeat' ((conv=>whnf);first
 | refine Yz ?_
  | (apply CallI.of;assumption)
  | (refine Ret.mk rfl)
  | fail)
set_option maxHeartbeats 8000000 in
theorem in_asked (l:List Evt) (hl:l.length≤1000) (hb:∀e∈l,e.ns.length≤1000000∧e.vs.length≤1000000) (fs:List Int) (hfs:fs.length≤1000):
  In E 0 n_office_asked [LE l,LI fs] [] fun v m'=>(firstI [erL l,firstI fs]=0→v= .tup [.ptr ⟨0,11,0⟩ 1 0,I 0]∧m'=mS 0 11 l (rgL l))∧(firstI [erL l,firstI fs]≠0→v= .tup [.d .nilp,I (firstI [erL l,firstI fs])]):=by
 have hf:=s_ofirst g fs (by omega)
 have hf2:=o_first2 g (erL l) (firstI fs)
 refine In.enter (f:=n_office_asked) g.lim rfl rfl ?_
 by_cases hz:erL l=0
 ·have hr:=@CallS.replay E g l hl hb
  rw [hz] at hf2 ⊢
  have e0:firstI [0,firstI fs]=firstI fs:=by
   have h1:∀x:Int,firstI [x]=x:=fun x=>by
    by_cases h:x=0
    ·subst h;rfl
    ·unfold firstI;rw [if_neg h]
   exact h1 _
  rw [e0] at hf2 ⊢
  generalize firstI fs=x at *
  by_cases hx:x=0
  ·subst hx
   repeat' ((conv=>whnf);first
   | refine Yz ?_
    | (refine hr rfl hz ?_)
    | (apply CallI.of;assumption)
    | (exact⟨fun _=>⟨rfl,rfl⟩,fun h=>absurd rfl h⟩)
    | fail)
  ·repeat' ((conv=>whnf);first
  | refine Yz ?_
    | (refine hr rfl hz ?_)
    | (apply CallI.of;assumption)
    | (refine Cmp.ff hx ?_)
    | (exact⟨fun h=>absurd h hx,fun _=>rfl⟩)
    | fail)
 ·have hr:=@CallS.replayNo E g l hl hb
  have e0:firstI [erL l,firstI fs]=erL l:=by unfold firstI;rw [if_neg hz]
  rw [e0] at hf2 ⊢
  generalize firstI fs=x at *
  unfold erL at *
  generalize (replG rg0 0 l).2.2=z at *
  repeat' ((conv=>whnf);first
  | refine Yz ?_
   | (refine hr hz ?_)
   | (apply CallI.of;assumption)
   | (refine Cmp.ff hz ?_)
   | (exact⟨fun h=>absurd h hz,fun _=>rfl⟩)
   | fail)
theorem CallS.asked {l:List Evt} (hl:l.length≤1000) (hb:∀e∈l,e.ns.length≤1000000∧e.vs.length≤1000000) {fs:List Int} (hfs:fs.length≤1000) {cx:Cx} {slot:Nat} {m:Mem} {K:V→Mem→Prop} (hf:Go.Evl.freeK cx.lv slot m=0) (hz:firstI [erL l,firstI fs]=0)
  (k:K (.tup [.ptr ⟨cx.lv,slot,0⟩ 1 0,I 0]) (m++mS cx.lv slot l (rgL l))):CallS E n_office_asked [LE l,LI fs] cx slot m K:=by
 obtain⟨v,m',h1,h2,_⟩:=(in_asked g l hl hb fs hfs).got
 obtain⟨rfl,rfl⟩:=h2 hz
 refine⟨_,_,(_,m++mS cx.lv slot l (rgL l)),h1,?_,k⟩
 unfold Evl.settle
 rw [hf]
 rfl
theorem CallS.askedNo {l:List Evt} (hl:l.length≤1000) (hb:∀e∈l,e.ns.length≤1000000∧e.vs.length≤1000000) {fs:List Int} (hfs:fs.length≤1000) {cx:Cx} {slot:Nat} {m:Mem} {K:V→Mem→Prop} {x:Int} (hx:firstI [erL l,firstI fs]=x) (hz:x≠0)
  (k:K (.tup [.d .nilp,I x]) (m++[])):CallS E n_office_asked [LE l,LI fs] cx slot m K:=by
 subst hx
 obtain⟨v,m',h1,_,h2⟩:=(in_asked g l hl hb fs hfs).got
 obtain rfl:=h2 hz
 exact⟨_,_,(_,m++[]),h1,rfl,k⟩
def erM (l:List Evt) (s:List UInt8) (kn d:Int):Int:=firstI [erL l,firstI [if !isNameB s then 8 else 0,rng kn 0 99999,rng d 0 99999]]
set_option maxHeartbeats 8000000 in
theorem s_Minute (l:List Evt) (hl:l.length≤1000) (hb:∀e∈l,e.ns.length≤1000000∧e.vs.length≤1000000) (s:List UInt8) (kn d:Int):
  Fc E n_office_Minute [LE l,S s,I kn,I d] (.tup [I (if erM l s kn d=0 then minE (rgL l) s kn d else 0),I (erM l s kn d)]):=by
 refine g.fn rfl rfl ?_
 have h1:=s_onamed g s
 have h2:=s_oday g kn
 have h3:=s_oday g d
 have ha:=@CallS.asked E g l hl hb [if !isNameB s then 8 else 0,rng kn 0 99999,rng d 0 99999] (by simp)
 have hn:=@CallS.askedNo E g l hl hb [if !isNameB s then 8 else 0,rng kn 0 99999,rng d 0 99999] (by simp)
 unfold erM
 generalize (if !isNameB s then(8:Int) else 0)=a at *
 generalize rng kn 0 99999=b at *
 generalize rng d 0 99999=c at *
 by_cases hz:firstI [erL l,firstI [a,b,c]]=0
 ·rw [if_pos hz,hz]
  have hq:=q_minute g ty_office_history l (rgL l) (rgL_ok hl (by rw [firstI_zero] at hz;exact hz _ (by simp))) s kn d
  repeat' ((conv=>whnf);first
  | refine Yz ?_
   | (apply CallI.of;assumption)
   | (refine ha rfl hz ?_)
   | (refine QryW.of (r':=I (minE (rgL l) s kn d)) [⟨0,21,0⟩,⟨0,21,1⟩,⟨0,21,2⟩,⟨0,21,3⟩,⟨0,21,4⟩] rfl rfl rfl rfl hq rfl rfl rfl ?_)
   | (refine Ret.mk rfl)
   | fail)
 ·rw [if_neg hz]
  repeat' ((conv=>whnf);first
  | refine Yz ?_
   | (apply CallI.of;assumption)
   | (refine hn rfl hz ?_)
   | (refine Cmp.ff hz ?_)
   | (refine Ret.mk rfl)
   | fail)
end
end Go.Proofs.YtcbddkeiohdocaaGreatDoor.Co
/-
 Questions about events: Counting, by the program.
-/
namespace Go.Proofs.YtcbddkeiohdocaaGreatDoor.Co
open Go Go.Evl
def cntL (r:Rgs) (kn:Int):List (List UInt8):=(r.es.filter fun x=>cntE r x kn).map Ent.nm
theorem filter_take {α:Type} (p:α→Bool) (l:List α) (k:Nat) (h:k<l.length):(l.take (k+1)).filter p=(l.take k).filter p++if p l[k] then [l[k]] else []:=by
 rw [List.take_succ_eq_append_getElem h,List.filter_append]
 cases hp:p l[k]<;>simp [hp]
section
variable {E : Oracle} (g : Good E)
include g
set_option maxRecDepth 100000
set_option maxHeartbeats 32000000 in
theorem in_counting (ev:List Evt) (r:Rgs) (ho:OkR r) (kn:Int) {slot:Nat} {K:V→Mem→Prop} (hK:K (Ws (cntL r kn)) (mS 0 13 ev r)):
  In E 1 n_office_Register_counting [.ptr ⟨0,13,0⟩ 1 0,I kn] (mS 0 13 ev r) fun v m'=>backW ⟨0,1⟩ slot true v m' K:=by
 have hes:=ho.es
 have hml:(r.es.flatMap Ent.cells).length=r.es.length*8:=flatR_length Ent.cells 8 entw r.es
 refine In.enter (f:=n_office_Register_counting) g.lim rfl rfl ?_
 repeat' ((conv=>whnf);first
 | refine Yz ?_
  | (refine In.enter (f:=n_office_kept_office_Entry) g.lim rfl rfl ?_)
  | fail)
 refine LoopW.to (LoopW.by (σ:=Nat×List Ent) g (fun u=>u.1≤r.es.length∧u.2=(r.es.take u.1).filter fun x=>cntE r x kn)
  (fun u=>[(1,.fn n_office_Register_counting_1 [] [.ptr ⟨1,2,0⟩ 0 0,.ptr ⟨1,3,0⟩ 0 0]),(5,.ref ⟨2,5,0⟩ 0 u.2.length u.2.length),(8,.ref ⟨0,13,2⟩ 0 r.es.length r.es.length),(9,I r.es.length),(10,I u.1)])
  (fun u=>mS 0 13 ev r++[(⟨1,2,0⟩,.cells ty_ptr_office_Register [.ptr ⟨0,13,0⟩ 1 0]),(⟨1,3,0⟩,.cells ty_int [I kn]),(⟨2,4,0⟩,.row false ty_office_Entry 8 0 []),(⟨2,5,0⟩,.row false ty_office_Entry 8 u.2.length (u.2.flatMap Ent.cells))])
  (fun u=>r.es.length-u.1) ?_ (0,[]) ⟨Nat.zero_le _,rfl⟩) rfl rfl
 rintro⟨k,out⟩ ⟨h1,h2⟩ ih
 dsimp only at h1 h2 ih ⊢
 have hmo:(out.flatMap Ent.cells).length=out.length*8:=flatR_length Ent.cells 8 entw out
 have hol:out.length≤256:=by
  rw [h2]
  refine Nat.le_trans (List.length_filter_le _ _) ?_
  rw [List.length_take];omega
 by_cases hlt:k<r.es.length
 ·have hwin:win (r.es.flatMap Ent.cells) ((0+((k:Nat):Int).toNat)*8) 8=r.es[k].cells:=by
   rw [Nat.zero_add,Int.toNat_natCast]
   exact flatR_win Ent.cells 8 entw r.es k hlt
  have hq:=q_cnt g ty_office_history ev r ho kn k hlt
  cases hc:cntE r r.es[k] kn with
  | true=>
   rw [hc] at hq
   have ih:=ih (k+1,out++[r.es[k]]) ⟨by dsimp only;omega,by dsimp only;rw [filter_take _ _ _ hlt,←h2,hc];rfl⟩ (by dsimp only;omega)
   simp only [List.length_append,List.length_cons,List.length_nil,List.flatMap_append,List.flatMap_cons,List.flatMap_nil] at ih
   repeat' ((conv=>whnf);first
   | refine Yz ?_
    | (rw [hwin])
    | (refine In.enter (f:=n_office_Register_counting_1) g.lim rfl rfl ?_)
    | (refine QryW.of (r':=B true) [⟨0,13,0⟩,⟨0,13,1⟩,⟨0,13,2⟩,⟨0,13,3⟩,⟨0,13,4⟩] rfl rfl rfl rfl hq rfl rfl rfl ?_)
    | (refine Need.mk ⟨rfl,rfl,rfl,rfl,rfl,rfl,by dsimp only;omega,by dsimp only;omega⟩ ?_)
    | (refine LoopW.to ih rfl rfl)
    | fail)
  | false=>
   rw [hc] at hq
   have ih:=ih (k+1,out) ⟨by dsimp only;omega,by dsimp only;rw [filter_take _ _ _ hlt,←h2,hc];simp⟩ (by dsimp only;omega)
   repeat' ((conv=>whnf);first
   | refine Yz ?_
    | (rw [hwin])
    | (refine In.enter (f:=n_office_Register_counting_1) g.lim rfl rfl ?_)
    | (refine QryW.of (r':=B false) [⟨0,13,0⟩,⟨0,13,1⟩,⟨0,13,2⟩,⟨0,13,3⟩,⟨0,13,4⟩] rfl rfl rfl rfl hq rfl rfl rfl ?_)
    | (refine LoopW.to ih rfl rfl)
    | fail)
 ·rw [List.take_of_length_le (by omega)] at h2
  have hcl:cntL r kn=out.map Ent.nm:=by rw [cntL,←h2]
  rw [hcl] at hK
  clear hcl h2 ih
  repeat' ((conv=>whnf);first
  | refine Yz ?_
   | (refine Need.mk ⟨rfl,by omega⟩ ?_)
   | (rw [if_pos ⟨rfl,rfl⟩];refine In.enter (f:=n_office_mapped_office_Entry_string) g.lim rfl rfl ?_)
   | (refine In.enter (f:=n_office_mapped_office_Entry_string) g.lim rfl rfl ?_)
   | fail)
  refine LoopW.to (LoopW.by (σ:=List (List UInt8)) g (fun u=>u.length≤out.length∧u=(out.take u.length).map Ent.nm)
   (fun u=>[(1,.fn n_office_name [] []),(5,.ref ⟨2,5,0⟩ 0 u.length u.length),(8,.d (.list out.length (out.flatMap Ent.cells))),(9,I out.length),(10,I u.length)])
   (fun u=>mS 0 13 ev r++[(⟨1,2,0⟩,.cells ty_ptr_office_Register [.ptr ⟨0,13,0⟩ 1 0]),(⟨1,3,0⟩,.cells ty_int [I kn]),(⟨2,4,0⟩,.row false ty_string 1 0 []),(⟨2,5,0⟩,.row false ty_string 1 u.length (u.map D.str))])
   (fun u=>out.length-u.length) ?_ [] ⟨Nat.zero_le _,rfl⟩) rfl rfl
  rintro u ⟨h3,h4⟩ ih
  dsimp only at h3 h4 ih ⊢
  by_cases hlt2:u.length<out.length
  ·have hwin:win (out.flatMap Ent.cells) (((u.length:Nat):Int).toNat*8) 8=out[u.length].cells:=by
    rw [Int.toNat_natCast]
    exact flatR_win Ent.cells 8 entw out u.length hlt2
   have ih:=ih (u++[out[u.length].nm]) ⟨by rw [List.length_append,List.length_singleton];omega,by
    rw [List.length_append,List.length_singleton,List.take_succ_eq_append_getElem hlt2,List.map_append,←h4];rfl⟩ (by rw [List.length_append,List.length_singleton];omega)
   simp only [List.length_append,List.length_cons,List.length_nil,List.map_append,List.map_cons,List.map_nil] at ih
   repeat' ((conv=>whnf);first
   | refine Yz ?_
    | (rw [hwin])
    | (refine In.enter (f:=n_office_name) g.lim rfl rfl ?_)
    | (refine Need.mk ⟨rfl,rfl,rfl,rfl,rfl,rfl,by dsimp only;omega,by dsimp only;omega⟩ ?_)
    | (refine LoopW.to ih rfl rfl)
    | fail)
  ·rw [List.take_of_length_le (by omega)] at h4
   rw [←h4] at hK
   repeat' ((conv=>whnf);first
   | refine Yz ?_
    | (refine Need.mk ⟨rfl,by omega⟩ ?_)
    | (rw [if_pos ⟨rfl,rfl⟩];exact hK)
    | (exact hK)
    | fail)
def erC (l:List Evt) (kn:Int):Int:=firstI [erL l,firstI [rng kn 0 99999]]
set_option maxHeartbeats 8000000 in
theorem s_Counting (l:List Evt) (hl:l.length≤1000) (hb:∀e∈l,e.ns.length≤1000000∧e.vs.length≤1000000) (kn:Int):
  Fc E n_office_Counting [LE l,I kn] (.tup [if erC l kn=0 then Ws (cntL (rgL l) kn) else Ws [],I (erC l kn)]):=by
 refine g.fn rfl rfl ?_
 have h2:=s_oday g kn
 have ha:=@CallS.asked E g l hl hb [rng kn 0 99999] (by simp)
 have hn:=@CallS.askedNo E g l hl hb [rng kn 0 99999] (by simp)
 unfold erC
 generalize rng kn 0 99999=b at *
 by_cases hz:firstI [erL l,firstI [b]]=0
 ·rw [if_pos hz,hz]
  have ho:OkR (rgL l):=rgL_ok hl (by rw [firstI_zero] at hz;exact hz _ (by simp))
  repeat' ((conv=>whnf);first
  | refine Yz ?_
   | (apply CallI.of;assumption)
   | (refine ha rfl hz ?_)
   | (refine in_counting g l (rgL l) ho kn (slot:=21) ?_)
   | (refine Ret.mk rfl)
   | fail)
 ·rw [if_neg hz]
  repeat' ((conv=>whnf);first
  | refine Yz ?_
   | (apply CallI.of;assumption)
   | (refine hn rfl hz ?_)
   | (refine Cmp.ff hz ?_)
   | (refine Ret.mk rfl)
   | fail)
end
end Go.Proofs.YtcbddkeiohdocaaGreatDoor.Co
/-
 Questions about events: Resting, by the program.
-/
namespace Go.Proofs.YtcbddkeiohdocaaGreatDoor.Co
open Go Go.Evl
def rstE (r:Rgs) (x:Ent) (on:List UInt8):Bool:=(chF r.es.length r.es x).tail.any fun y=>decide (y.nm=on)
def rstL (r:Rgs) (on:List UInt8):List (List UInt8):=(r.es.filter fun x=>rstE r x on).map Ent.nm
theorem win_skip8 (x:Ent) (tl:List Ent):win ((x::tl).flatMap Ent.cells) (1*8) ((tl.length+1-1)*8)=tl.flatMap Ent.cells:=by
 unfold win
 rw [List.flatMap_cons]
 rw [Nat.add_sub_cancel,List.drop_append_of_le_length (by rw [entw];decide),List.drop_of_length_le (by rw [entw];decide),List.nil_append,←flatR_length Ent.cells 8 entw tl,List.take_length]
abbrev mK (ev:List Evt) (r:Rgs) (on:List UInt8) (out:List Ent):Mem:=mS 0 13 ev r++[(⟨1,2,0⟩,.cells ty_ptr_office_Register [.ptr ⟨0,13,0⟩ 1 0]),(⟨1,3,0⟩,.cells ty_string [S on]),(⟨2,4,0⟩,.row false ty_office_Entry 8 0 []),(⟨2,5,0⟩,.row false ty_office_Entry 8 out.length (out.flatMap Ent.cells))]
abbrev is13:List Evl.Id:=[⟨0,13,0⟩,⟨0,13,1⟩,⟨0,13,2⟩,⟨0,13,3⟩,⟨0,13,4⟩]
section
variable {E : Oracle} (g : Good E)
include g
set_option maxRecDepth 100000
set_option maxHeartbeats 32000000 in
theorem in_rests (ev:List Evt) (r:Rgs) (ho:OkR r) (on:List UInt8) (out0:List Ent) (k:Nat) (hk:k<r.es.length) (bx:Evl.Id×Ob) (hbx:bx=(⟨2,7,0⟩,.cells ty_office_Entry [S r.es[k].nm,S r.es[k].kd,S r.es[k].sr,S r.es[k].bs,I r.es[k].kn,I r.es[k].fr,I r.es[k].to,I r.es[k].mi])) {slot:Nat} {K:V→Mem→Prop} (hK:K (B (rstE r r.es[k] on)) (mK ev r on out0++[bx])):
  In E 3 n_office_Register_resting_1 [Env1 r.es[k],.ptr ⟨1,2,0⟩ 0 0,.ptr ⟨1,3,0⟩ 0 0] (mK ev r on out0++[bx]) fun v m'=>backW ⟨2,3⟩ slot true v m' K:=by
 have hes:=ho.es
 have hc:=chF_ch ho.bases r.es.length k (by omega) hk
 have hcl:=chF_len r.es r.es.length r.es[k]
 unfold rstE at hK
 generalize chF r.es.length r.es r.es[k]=c at *
 have hml:(r.es.flatMap Ent.cells).length=r.es.length*8:=flatR_length Ent.cells 8 entw r.es
 generalize hx:r.es[k]=x at *
 subst hbx
 refine In.enter (f:=n_office_Register_resting_1) g.lim rfl rfl ?_
 repeat' ((conv=>whnf);first
 | refine Yz ?_
  | (refine In.enter (f:=n_office_Register_chain) g.lim rfl rfl ?_)
  | fail)
 refine LoopW.to (LoopW.by (σ:=List Ent×Ent×Nat×List Ent) g (fun u=>(∃hk:u.2.2.1<r.es.length,r.es[u.2.2.1]=u.2.1)∧Ch r.es u.2.2.1 u.2.2.2∧∃pre,u.1=pre++[u.2.1]∧pre++u.2.2.2=c)
  (fun u=>[(0,.ptr ⟨0,13,0⟩ 1 0),(5,.ref ⟨4,8,0⟩ 0 u.1.length u.1.length)])
  (fun u=>mK ev r on out0++[(⟨2,7,0⟩,.cells ty_office_Entry [S x.nm,S x.kd,S x.sr,S x.bs,I x.kn,I x.fr,I x.to,I x.mi]),(⟨3,3,0⟩,.cells ty_office_Entry [S x.nm,S x.kd,S x.sr,S x.bs,I x.kn,I x.fr,I x.to,I x.mi]),(⟨4,3,0⟩,.cells ty_office_Entry [S x.nm,S x.kd,S x.sr,S x.bs,I x.kn,I x.fr,I x.to,I x.mi]),(⟨4,4,0⟩,.row false ty_office_Entry 8 0 []),(⟨4,8,0⟩,.row false ty_office_Entry 8 u.1.length (u.1.flatMap Ent.cells))])
  (fun u=>u.2.2.2.length) ?_ ([x],x,k,c) ⟨⟨hk,hx⟩,hc,[],rfl,rfl⟩) rfl rfl
 have hc0:=hc
 clear hc hx
 rintro⟨out,y,k2,tl⟩ ⟨⟨hk2,hy⟩,hc,pre,h1,h2⟩ ih
 dsimp only at hk2 hy hc h1 h2 ih ⊢
 have hol:out.length=pre.length+1:=by rw [h1];simp
 have hlast:out[pre.length]'(by omega)=y:=by simp [h1]
 have hq:=q_entry g ty_office_history ev r y.bs (by omega)
 have hcl2:pre.length+tl.length≤257:=by rw [←List.length_append,h2];omega
 have hmo:(out.flatMap Ent.cells).length=out.length*8:=flatR_length Ent.cells 8 entw out
 cases hc with
 | stop k2 hk' h=>
  rw [hy] at h h2
  rw [h,entP,if_neg (by decide)] at hq
  obtain rfl:out=c:=h1.trans h2
  obtain⟨z,rest,rfl⟩:∃z rest,out=z::rest:=List.exists_cons_of_ne_nil (by intro e;rw [e] at hol;simp at hol)
  have hll:(z::rest).length=rest.length+1:=rfl
  have hw8:=win_skip8 z rest
  have hmr:(rest.flatMap Ent.cells).length=rest.length*8:=flatR_length Ent.cells 8 entw rest
  rw [List.tail_cons] at hK
  clear ih
  repeat' ((conv=>whnf);first
  | refine Yz ?_
   | (refine Pick.rec0 entw pre.length (by omega) (by omega) rfl ?_;rw [hlast])
   | (refine QryW.of (r':= .d .nilp) is13 rfl rfl rfl rfl hq rfl rfl rfl ?_)
   | (rw [if_pos ⟨rfl,rfl⟩])
   | (refine Need.mk ⟨rfl,by omega⟩ ?_)
   | (refine Bounds.at 1 (rest.length+1) rfl (by omega) (by omega) ?_;rw [hw8])
   | (refine In.enter (f:=n_slices_ContainsFunc_Loffice_Entry_office_Entry) g.lim rfl rfl ?_)
   | (refine In.enter (f:=n_slices_IndexFunc_Loffice_Entry_office_Entry) g.lim rfl rfl ?_)
   | fail)
  refine LoopW.to (LoopW.upP g (fun k=>[(0,.d (.list rest.length (rest.flatMap Ent.cells))),(1,.fn n_office_Register_resting_1_1 [] [.ptr ⟨1,3,0⟩ 0 0]),(7,I rest.length),(8,I k)]) (fun _=>mK ev r on out0++[(⟨2,7,0⟩,.cells ty_office_Entry [S x.nm,S x.kd,S x.sr,S x.bs,I x.kn,I x.fr,I x.to,I x.mi]),(⟨3,3,0⟩,.cells ty_office_Entry [S x.nm,S x.kd,S x.sr,S x.bs,I x.kn,I x.fr,I x.to,I x.mi])])
   (fun k=>∀j,(hj:j<rest.length)→j<k→rest[j].nm≠on) rest.length (fun m hm hp ihm=> ?_) 0 (Nat.zero_le _) (fun j _ h=>absurd h (Nat.not_lt_zero _))) rfl rfl
  by_cases hlt:m<rest.length
  ·have hwin:win (rest.flatMap Ent.cells) (((m:Nat):Int).toNat*8) 8=rest[m].cells:=by
    rw [Int.toNat_natCast]
    exact flatR_win Ent.cells 8 entw rest m hlt
   by_cases hb:rest[m].nm=on
   ·have ha:(rest.any fun y=>decide (y.nm=on))=true:=List.any_eq_true.2 ⟨_,List.getElem_mem hlt,decide_eq_true hb⟩
    rw [ha] at hK
    repeat' ((conv=>whnf);first
    | refine Yz ?_
     | (rw [hwin];refine In.enter (f:=n_office_Register_resting_1_1) g.lim rfl rfl ?_)
     | (refine Cmp.tt hb ?_)
     | (exact hK)
     | fail)
   ·have ihm:=ihm hlt fun j hj hjm=>by
     by_cases e:j=m
     ·subst e;exact hb
     ·exact hp j hj (by omega)
    repeat' ((conv=>whnf);first
    | refine Yz ?_
     | (rw [hwin];refine In.enter (f:=n_office_Register_resting_1_1) g.lim rfl rfl ?_)
     | (refine Cmp.ff hb ?_)
     | (refine LoopW.to ihm rfl rfl)
     | fail)
  ·obtain rfl:m=rest.length:=by omega
   have ha:(rest.any fun y=>decide (y.nm=on))=false:=by
    rw [List.any_eq_false]
    intro z hz
    obtain⟨j,hj,rfl⟩:=List.mem_iff_getElem.1 hz
    simpa using hp j hj hj
   rw [ha] at hK
   repeat' ((conv=>whnf);first
   | refine Yz ?_
    | (exact hK)
    | fail)
 | step k2 j tl hk' h ht=>
  rw [hy] at h h2
  rw [h,entP,if_pos (by omega)] at hq
  obtain⟨hj,hj'⟩:∃hj:j<r.es.length,True:=by
   cases ht with
   | stop _ hj _=>exact⟨hj,trivial⟩
   | step _ _ _ hj _ _=>exact⟨hj,trivial⟩
  have hwin:win (r.es.flatMap Ent.cells) ((0+((j:Nat):Int).toNat)*8) 8=r.es[j].cells:=by
   rw [Nat.zero_add,Int.toNat_natCast]
   exact flatR_win Ent.cells 8 entw r.es j hj
  simp only [List.length_cons] at hcl2
  have ih:=ih (out++[r.es[j]],r.es[j],j,tl) ⟨⟨hj,rfl⟩,ht,out,rfl,by rw [h1,List.append_assoc];exact h2⟩ (by simp)
  simp only [List.length_append,List.length_cons,List.length_nil,List.flatMap_append,List.flatMap_cons,List.flatMap_nil] at ih
  repeat' ((conv=>whnf);first
  | refine Yz ?_
   | (refine Pick.rec0 entw pre.length (by omega) (by omega) rfl ?_;rw [hlast])
   | (refine QryW.of (r':= .ptr ⟨0,13,2⟩ ((0+((j:Nat):Int).toNat)*8) r.es.length) is13 rfl rfl rfl rfl hq rfl rfl rfl ?_)
   | (rw [hwin])
   | (refine Need.mk ⟨rfl,rfl,rfl,rfl,rfl,rfl,by dsimp only;omega,by omega⟩ ?_)
   | (refine LoopW.to ih rfl rfl)
   | fail)
set_option maxHeartbeats 32000000 in
theorem in_resting (ev:List Evt) (r:Rgs) (ho:OkR r) (on:List UInt8) {slot:Nat} {K:V→Mem→Prop} (hK:K (.tup [if entI r.es on<0 then Ws [] else Ws (rstL r on),I (if entI r.es on<0 then 10 else 0)]) (mS 0 13 ev r)):
  In E 1 n_office_Register_resting [.ptr ⟨0,13,0⟩ 1 0,S on] (mS 0 13 ev r) fun v m'=>backW ⟨0,1⟩ slot true v m' K:=by
 have hes:=ho.es
 have hml:(r.es.flatMap Ent.cells).length=r.es.length*8:=flatR_length Ent.cells 8 entw r.es
 have hq0:=q_entry g ty_office_history ev r on (by omega)
 refine In.enter (f:=n_office_Register_resting) g.lim rfl rfl ?_
 by_cases hi:entI r.es on<0
 ·rw [if_pos hi,if_pos hi] at hK
  rw [entP,if_neg (by omega)] at hq0
  repeat' ((conv=>whnf);first
  | refine Yz ?_
   | (refine QryW.of (r':= .d .nilp) is13 rfl rfl rfl rfl hq0 rfl rfl rfl ?_)
   | (exact hK)
   | fail)
 rw [if_neg hi,if_neg hi] at hK
 rw [entP,if_pos (by omega)] at hq0
 generalize entI r.es on=i0 at *
 repeat' ((conv=>whnf);first
 | refine Yz ?_
  | (refine QryW.of (r':= .ptr ⟨0,13,2⟩ ((0+i0.toNat)*8) r.es.length) is13 rfl rfl rfl rfl hq0 rfl rfl rfl ?_)
  | (refine In.enter (f:=n_office_kept_office_Entry) g.lim rfl rfl ?_)
  | fail)
 refine LoopW.to (LoopW.by (σ:=Nat×List Ent) g (fun u=>u.1≤r.es.length∧u.2=(r.es.take u.1).filter fun x=>rstE r x on)
  (fun u=>[(1,.fn n_office_Register_resting_1 [] [.ptr ⟨1,2,0⟩ 0 0,.ptr ⟨1,3,0⟩ 0 0]),(5,.ref ⟨2,5,0⟩ 0 u.2.length u.2.length),(8,.ref ⟨0,13,2⟩ 0 r.es.length r.es.length),(9,I r.es.length),(10,I u.1)])
  (fun u=>mK ev r on u.2)
  (fun u=>r.es.length-u.1) ?_ (0,[]) ⟨Nat.zero_le _,rfl⟩) rfl rfl
 rintro⟨k,out⟩ ⟨h1,h2⟩ ih
 dsimp only at h1 h2 ih ⊢
 have hmo:(out.flatMap Ent.cells).length=out.length*8:=flatR_length Ent.cells 8 entw out
 have hol:out.length≤256:=by
  rw [h2]
  refine Nat.le_trans (List.length_filter_le _ _) ?_
  rw [List.length_take];omega
 by_cases hlt:k<r.es.length
 ·have hwin:win (r.es.flatMap Ent.cells) ((0+((k:Nat):Int).toNat)*8) 8=r.es[k].cells:=by
   rw [Nat.zero_add,Int.toNat_natCast]
   exact flatR_win Ent.cells 8 entw r.es k hlt
  cases hc:rstE r r.es[k] on with
  | true=>
   have ih:=ih (k+1,out++[r.es[k]]) ⟨by dsimp only;omega,by dsimp only;rw [filter_take _ _ _ hlt,←h2,hc];rfl⟩ (by dsimp only;omega)
   simp only [List.length_append,List.length_cons,List.length_nil,List.flatMap_append,List.flatMap_cons,List.flatMap_nil,mK] at ih
   repeat' ((conv=>whnf);first
   | refine Yz ?_
    | (rw [hwin])
    | (refine in_rests g ev r ho on out k hlt _ rfl (slot:=16) ?_;rw [hc])
    | (refine Need.mk ⟨rfl,rfl,rfl,rfl,rfl,rfl,by dsimp only;omega,by dsimp only;omega⟩ ?_)
    | (refine LoopW.to ih rfl rfl)
    | fail)
  | false=>
   have ih:=ih (k+1,out) ⟨by dsimp only;omega,by dsimp only;rw [filter_take _ _ _ hlt,←h2,hc];simp⟩ (by dsimp only;omega)
   repeat' ((conv=>whnf);first
   | refine Yz ?_
    | (rw [hwin])
    | (refine in_rests g ev r ho on out k hlt _ rfl (slot:=16) ?_;rw [hc])
    | (refine LoopW.to ih rfl rfl)
    | fail)
 ·rw [List.take_of_length_le (by omega)] at h2
  have hcl:rstL r on=out.map Ent.nm:=by rw [rstL,←h2]
  rw [hcl] at hK
  clear hcl h2 ih
  repeat' ((conv=>whnf);first
  | refine Yz ?_
   | (refine Need.mk ⟨rfl,by omega⟩ ?_)
   | (rw [if_pos ⟨rfl,rfl⟩];refine In.enter (f:=n_office_mapped_office_Entry_string) g.lim rfl rfl ?_)
   | (refine In.enter (f:=n_office_mapped_office_Entry_string) g.lim rfl rfl ?_)
   | fail)
  refine LoopW.to (LoopW.by (σ:=List (List UInt8)) g (fun u=>u.length≤out.length∧u=(out.take u.length).map Ent.nm)
   (fun u=>[(1,.fn n_office_name [] []),(5,.ref ⟨2,5,0⟩ 0 u.length u.length),(8,.d (.list out.length (out.flatMap Ent.cells))),(9,I out.length),(10,I u.length)])
   (fun u=>mS 0 13 ev r++[(⟨1,2,0⟩,.cells ty_ptr_office_Register [.ptr ⟨0,13,0⟩ 1 0]),(⟨1,3,0⟩,.cells ty_string [S on]),(⟨2,4,0⟩,.row false ty_string 1 0 []),(⟨2,5,0⟩,.row false ty_string 1 u.length (u.map D.str))])
   (fun u=>out.length-u.length) ?_ [] ⟨Nat.zero_le _,rfl⟩) rfl rfl
  rintro u ⟨h3,h4⟩ ih
  dsimp only at h3 h4 ih ⊢
  by_cases hlt2:u.length<out.length
  ·have hwin:win (out.flatMap Ent.cells) (((u.length:Nat):Int).toNat*8) 8=out[u.length].cells:=by
    rw [Int.toNat_natCast]
    exact flatR_win Ent.cells 8 entw out u.length hlt2
   have ih:=ih (u++[out[u.length].nm]) ⟨by rw [List.length_append,List.length_singleton];omega,by
    rw [List.length_append,List.length_singleton,List.take_succ_eq_append_getElem hlt2,List.map_append,←h4];rfl⟩ (by rw [List.length_append,List.length_singleton];omega)
   simp only [List.length_append,List.length_cons,List.length_nil,List.map_append,List.map_cons,List.map_nil] at ih
   repeat' ((conv=>whnf);first
   | refine Yz ?_
    | (rw [hwin])
    | (refine In.enter (f:=n_office_name) g.lim rfl rfl ?_)
    | (refine Need.mk ⟨rfl,rfl,rfl,rfl,rfl,rfl,by dsimp only;omega,by dsimp only;omega⟩ ?_)
    | (refine LoopW.to ih rfl rfl)
    | fail)
  ·rw [List.take_of_length_le (by omega)] at h4
   rw [←h4] at hK
   repeat' ((conv=>whnf);first
   | refine Yz ?_
    | (refine Need.mk ⟨rfl,by omega⟩ ?_)
    | (rw [if_pos ⟨rfl,rfl⟩];exact hK)
    | (exact hK)
    | fail)
def erR (l:List Evt) (on:List UInt8):Int:=firstI [erL l,firstI [if !isNameB on then 8 else 0]]
set_option maxHeartbeats 8000000 in
theorem s_Resting (l:List Evt) (hl:l.length≤1000) (hb:∀e∈l,e.ns.length≤1000000∧e.vs.length≤1000000) (on:List UInt8):
  Fc E n_office_Resting [LE l,S on] (.tup [if erR l on=0 then(if entI (rgL l).es on<0 then Ws [] else Ws (rstL (rgL l) on)) else Ws [],I (if erR l on=0 then(if entI (rgL l).es on<0 then 10 else 0) else erR l on)]):=by
 refine g.fn rfl rfl ?_
 have h2:=s_onamed g on
 have ha:=@CallS.asked E g l hl hb [if !isNameB on then 8 else 0] (by simp)
 have hn:=@CallS.askedNo E g l hl hb [if !isNameB on then 8 else 0] (by simp)
 unfold erR
 generalize (if !isNameB on then(8:Int) else 0)=b at *
 by_cases hz:firstI [erL l,firstI [b]]=0
 ·rw [if_pos hz,if_pos hz]
  have ho:OkR (rgL l):=rgL_ok hl (by rw [firstI_zero] at hz;exact hz _ (by simp))
  by_cases hi:entI (rgL l).es on<0
  ·have hr:=@in_resting E g l (rgL l) ho on 21
   simp only [if_pos hi] at hr ⊢
   repeat' ((conv=>whnf);first
   | refine Yz ?_
    | (apply CallI.of;assumption)
    | (refine ha rfl hz ?_)
    | (refine hr ?_)
    | (refine Ret.mk rfl)
    | fail)
  ·have hr:=@in_resting E g l (rgL l) ho on 21
   simp only [if_neg hi] at hr ⊢
   repeat' ((conv=>whnf);first
   | refine Yz ?_
    | (apply CallI.of;assumption)
    | (refine ha rfl hz ?_)
    | (refine hr ?_)
    | (refine Ret.mk rfl)
    | fail)
 ·rw [if_neg hz,if_neg hz]
  repeat' ((conv=>whnf);first
  | refine Yz ?_
   | (apply CallI.of;assumption)
   | (refine hn rfl hz ?_)
   | (refine Cmp.ff hz ?_)
   | (refine Ret.mk rfl)
   | fail)
end
end Go.Proofs.YtcbddkeiohdocaaGreatDoor.Co
/-
 Years, months, days: what the program's functions and the reference's give.
-/
namespace Go.Proofs.YtcbddkeiohdocaaGreatDoor.Co
open Go Go.Evl
end Go.Proofs.YtcbddkeiohdocaaGreatDoor.Co
/-
 The days of a period: what the program's functions give.
-/
namespace Go.Proofs.YtcbddkeiohdocaaGreatDoor.Co
open Go Go.Evl
end Go.Proofs.YtcbddkeiohdocaaGreatDoor.Co
/-
 The days of a period, the common days of two: the program's and the reference's.
-/
namespace Go.Proofs.YtcbddkeiohdocaaGreatDoor.Co
open Go Go.Evl
end Go.Proofs.YtcbddkeiohdocaaGreatDoor.Co
/-
 Questions about events: Differences and Accepts, by the program.
-/
namespace Go.Proofs.YtcbddkeiohdocaaGreatDoor.Co
open Go Go.Evl
section
variable {E : Oracle} (g : Good E)
include g
set_option maxRecDepth 100000
def erA (l:List Evt) (e:Evt):Int:=if firstI [erL l,chkE e,if 1000≤l.length then 5 else 0]≠0 then firstI [erL l,chkE e,if 1000≤l.length then 5 else 0] else accE (rgL l) l.length e
set_option maxHeartbeats 8000000 in
theorem s_Accepts (l:List Evt) (hl:l.length≤1000) (hb:∀e∈l,e.ns.length≤1000000∧e.vs.length≤1000000) (e:Evt) (hn:e.ns.length≤1000000) (hv:e.vs.length≤1000000):
  Fc E n_office_Accepts [LE l,Evv e] (I (erA l e)):=by
 have hc:=s_CheckEvent g e hn hv
 have hq:=fun ho hc=>q_accepts g ty_office_history l (rgL l) ho e hc (by omega)
 have hf3:=o_first3 g (erL l) (chkE e) (if 1000≤l.length then 5 else 0)
 unfold erA
 have ho:erL l=0→OkR (rgL l):=rgL_ok hl
 have hz:firstI [erL l,chkE e,if 1000≤l.length then 5 else 0]=0→erL l=0∧chkE e=0:=fun h=>by
  rw [firstI_zero] at h
  exact⟨h _ (by simp),h _ (by simp)⟩
 have hnz:erL l≠0→firstI [erL l,chkE e,if 1000≤l.length then 5 else 0]=erL l:=fun h=>by unfold firstI;rw [if_neg h]
 have hr:=@CallS.replay E g l hl hb
 have hrn:=@CallS.replayNo E g l hl hb
 generalize accE (rgL l) l.length e=y at *
 have hbx:Evv e= .d (.agg [DI e.nu,.str e.ki,.list e.ns.length (e.ns.map D.str),.list e.vs.length (e.vs.map DI),.str e.tx]):=rfl
 rw [hbx] at hc hq ⊢
 refine g.fn rfl rfl ?_
 by_cases h1:1000≤l.length
 ·rw [if_pos h1] at *
  generalize hx:firstI [erL l,chkE e,5]=x at *
  have hx0:x≠0:=fun h=>by
   rw [h] at hx
   rw [firstI_zero] at hx
   exact absurd (hx 5 (by simp)) (by decide)
  rw [if_pos hx0]
  by_cases h2:erL l=0
  ·rw [h2] at hf3
   repeat' ((conv=>whnf);first
   | refine Yz ?_
    | (refine hr rfl h2 ?_)
    | (apply CallI.of;assumption)
    | (refine CallI.of (o_when g _ _) ?_)
    | (refine Cmp.ff hx0 ?_)
    | (refine Ret.mk rfl)
    | fail)
  ·unfold erL at *
   repeat' ((conv=>whnf);first
   | refine Yz ?_
    | (refine hrn h2 ?_)
    | (apply CallI.of;assumption)
    | (refine CallI.of (o_when g _ _) ?_)
    | (refine Cmp.ff hx0 ?_)
    | (refine Ret.mk rfl)
    | fail)
 ·rw [if_neg h1] at *
  by_cases hx0:firstI [erL l,chkE e,0]=0
  ·obtain⟨h2,h3⟩:=hz hx0
   have hq:=hq (ho h2) h3
   rw [hx0] at hf3 ⊢
   rw [if_neg (fun h=>h rfl)]
   rw [h2] at hf3
   repeat' ((conv=>whnf);first
   | refine Yz ?_
    | (refine hr rfl h2 ?_)
    | (apply CallI.of;assumption)
    | (refine CallI.of (o_when g _ _) ?_)
    | (refine QryW.of (r':=I y) [⟨0,10,0⟩,⟨0,10,1⟩,⟨0,10,2⟩,⟨0,10,3⟩,⟨0,10,4⟩] rfl rfl rfl rfl hq rfl rfl rfl ?_)
    | (refine Ret.mk rfl)
    | fail)
  ·rw [if_pos hx0]
   generalize firstI [erL l,chkE e,0]=x at *
   by_cases h2:erL l=0
   ·rw [h2] at hf3
    repeat' ((conv=>whnf);first
    | refine Yz ?_
     | (refine hr rfl h2 ?_)
     | (apply CallI.of;assumption)
     | (refine CallI.of (o_when g _ _) ?_)
     | (refine Cmp.ff hx0 ?_)
     | (refine Ret.mk rfl)
     | fail)
   ·unfold erL at *
    repeat' ((conv=>whnf);first
    | refine Yz ?_
     | (refine hrn h2 ?_)
     | (apply CallI.of;assumption)
     | (refine CallI.of (o_when g _ _) ?_)
     | (refine Cmp.ff hx0 ?_)
     | (refine Ret.mk rfl)
     | fail)
end
end Go.Proofs.YtcbddkeiohdocaaGreatDoor.Co
/-
 Histories and differences, plain: what they say of the minute.
-/
namespace Go.Proofs.YtcbddkeiohdocaaGreatDoor.Co
open Go Go.Evl
def okT:Turn→List Turn→Prop
 | _,[]=>True
 | b,t::ts=>b.kn<t.kn∧t.kn≤99999∧t.mi≠b.mi∧okT t ts
theorem aft_kn (r:Rgs) (e:Evt):(aftE r e).kn=vlN e 0:=by
 unfold aftE
 split
 ·rfl
 ·split
  ·rfl
  ·split<;>rfl
end Go.Proofs.YtcbddkeiohdocaaGreatDoor.Co
/-
 Ranges over a map in every order, and calls that do not care for a row's order: what is to be shown of them.
-/
namespace Go.Proofs.YtcbddkeiohdocaaGreatDoor.Co
open Go Go.Evl
theorem eqEb_rfl:∀e:Env,eqEb e e=true
 | []=>rfl
 | (t,v)::r=>by simp [eqEb,eqVb_rfl,eqEb_rfl r]
inductive LeJ (m0:Mem):Mem→Mem→Prop
 | nil:LeJ m0 [] []
 | cells {i:Evl.Id} {t:Nat} {cs:List V} {r r':Mem} (h:LeJ m0 r r'):LeJ m0 ((i,.cells t cs)::r) ((i,.cells t cs)::r')
 | row {i:Evl.Id} {w:Bool} {t sz n:Nat} {xs:List D} {r r':Mem} (h:LeJ m0 r r'):LeJ m0 ((i,.row w t sz n xs)::r) ((i,.row w t sz n xs)::r')
 | gone {i:Evl.Id} {r r':Mem} (h:LeJ m0 r r'):LeJ m0 ((i,.gone)::r) ((i,.gone)::r')
 | map {i:Evl.Id} {es:List (D×V)} {r r':Mem} (he:eqMb es es=true) (h:LeJ m0 r r'):LeJ m0 ((i,.map es)::r) ((i,.map es)::r')
 | loop {i:Evl.Id} {e e0:Env} {ps ps0:List Nat} {a b a0 b0:C} {lv lv0:Nat} {bu bu0 ov ov0:Bool} {j j0:Option Jump} {r r':Mem} (hl:Evl.look m0 i=some (.loop e0 ps0 a0 b0 lv0 bu0 ov0 j0)) (hj:sameJ j j=true) (h:LeJ m0 r r'):LeJ m0 ((i,.loop e ps a b lv bu ov j)::r) ((i,.loop e ps a b lv bu ov j)::r')
 | bag {i:Evl.Id} {t sz n:Nat} {xs ys:List D} {r r':Mem} (hb:bagB sz n ys xs=true) (h:LeJ m0 r r'):LeJ m0 ((i,.row true t sz n xs)::r) ((i,.bag t sz n ys)::r')
theorem LeJ.ok {m0 a b:Mem} (h:LeJ m0 a b):leM m0 a b=true:=by
 induction h with
 | nil=>rfl
 | cells h ih=>simp [leM,leO,eqVbL_rfl,ih]
 | row h ih=>simp [leM,leO,sameDL_rfl,ih]
 | gone h ih=>simp [leM,leO,ih]
 | map he h ih=>simp [leM,leO,he,ih]
 | loop hl hj h ih=>simp [leM,leO,hl,hj,eqEb_rfl,ih]
 | bag hb h ih=>simp [leM,leO,hb,ih]
end Go.Proofs.YtcbddkeiohdocaaGreatDoor.Co
/-
 The keys of a map of texts in order: slices.Sorted of maps.Keys, by the program.
-/
namespace Go.Proofs.YtcbddkeiohdocaaGreatDoor.Co
open Go Go.Evl
end Go.Proofs.YtcbddkeiohdocaaGreatDoor.Co
/-
 The slots of all series as of a day of knowledge, by the program.
-/
namespace Go.Proofs.YtcbddkeiohdocaaGreatDoor.Co
open Go Go.Evl
structure Slt where
 sr:List UInt8
 mi:Int
def Slt.cells (t:Slt):List D:=[.str t.sr,DI t.mi]
end Go.Proofs.YtcbddkeiohdocaaGreatDoor.Co
/-
 The reference's register: entries and complaints found, what counts, what rests on what.
-/
namespace Go.Proofs.YtcbddkeiohdocaaGreatDoor.Co
open Go Go.Evl
theorem Ch.head {es:List Ent} {k:Nat} {c:List Ent} (h:Ch es k c):∃hk:k<es.length,c=es[k]::c.tail:=by
 cases h with
 | stop _ hk _=>exact⟨hk,rfl⟩
 | step _ _ _ hk _ _=>exact⟨hk,rfl⟩
section
variable {E : Oracle} (g : Good E)
include g
set_option maxRecDepth 100000
theorem r_EntryAt (r:Rgs) (nm:List UInt8) (hl:r.es.length≤1000000):Fc E n_ref10_EntryAt [Rgv r,S nm] (I (entI r.es nm)):=by
 refine g.fn rfl rfl ?_
 have hml:(r.es.flatMap Ent.cells).length=r.es.length*8:=flatR_length Ent.cells 8 entw r.es
 repeat' ((conv=>whnf);first
 | refine Yz ?_
  | fail)
 refine LoopW.to (LoopW.upP g (fun k=>[(1,S nm),(2,.ptr ⟨0,2,0⟩ 0 0),(5,I k)]) (fun _=>[(⟨0,2,0⟩,.cells ty_turnroundref10_Register [I r.kn,.d (.list r.es.length (r.es.flatMap Ent.cells)),.d (.list r.rs.length (r.rs.flatMap Rmv.cells)),.d (.list r.cs.length (r.cs.flatMap Cpl.cells))])]) (fun k=>∀j,(hj:j<k)→(hj':j<r.es.length)→decide (r.es[j].nm=nm)=false) r.es.length (fun k hk hp ih=> ?_) 0 (Nat.zero_le _) (fun j h _=>absurd h (Nat.not_lt_zero _))) rfl rfl
 by_cases hlt:k<r.es.length
 ·by_cases he:r.es[k].nm=nm
  ·have hi:entI r.es nm=k:=idxI_at (p:=fun x:Ent=>decide (x.nm=nm)) hlt (decide_eq_true he) fun j hj=>hp j hj (by omega)
   rw [hi]
   repeat' ((conv=>whnf);first
   | refine Yz ?_
    | (refine Pick.rec entw k rfl hlt rfl ?_)
    | (refine Cmp.tt he ?_)
    | (refine Ret.mk rfl)
    | fail)
  ·have ih:=ih hlt fun j hj hj'=>by
    by_cases e:j=k
    ·subst e;exact decide_eq_false he
    ·exact hp j (by omega) hj'
   repeat' ((conv=>whnf);first
   | refine Yz ?_
    | (refine Pick.rec entw k rfl hlt rfl ?_)
    | (refine Cmp.ff he ?_)
    | (refine LoopW.to ih rfl rfl)
    | fail)
 ·obtain rfl:k=r.es.length:=by omega
  have hi:entI r.es nm= -1:=idxI_none (p:=fun x:Ent=>decide (x.nm=nm)) fun j hj=>hp j hj hj
  rw [hi]
  repeat' ((conv=>whnf);first
  | refine Yz ?_
   | (refine Ret.mk rfl)
   | fail)
theorem r_ComplaintAt (r:Rgs) (nm:List UInt8) (hl:r.cs.length≤1000000):Fc E n_ref10_ComplaintAt [Rgv r,S nm] (I (cplI r.cs nm)):=by
 refine g.fn rfl rfl ?_
 have hml:(r.cs.flatMap Cpl.cells).length=r.cs.length*5:=flatR_length Cpl.cells 5 cplw r.cs
 repeat' ((conv=>whnf);first
 | refine Yz ?_
  | fail)
 refine LoopW.to (LoopW.upP g (fun k=>[(1,S nm),(2,.ptr ⟨0,2,0⟩ 0 0),(5,I k)]) (fun _=>[(⟨0,2,0⟩,.cells ty_turnroundref10_Register [I r.kn,.d (.list r.es.length (r.es.flatMap Ent.cells)),.d (.list r.rs.length (r.rs.flatMap Rmv.cells)),.d (.list r.cs.length (r.cs.flatMap Cpl.cells))])]) (fun k=>∀j,(hj:j<k)→(hj':j<r.cs.length)→decide (r.cs[j].nm=nm)=false) r.cs.length (fun k hk hp ih=> ?_) 0 (Nat.zero_le _) (fun j h _=>absurd h (Nat.not_lt_zero _))) rfl rfl
 by_cases hlt:k<r.cs.length
 ·by_cases he:r.cs[k].nm=nm
  ·have hi:cplI r.cs nm=k:=idxI_at (p:=fun x:Cpl=>decide (x.nm=nm)) hlt (decide_eq_true he) fun j hj=>hp j hj (by omega)
   rw [hi]
   repeat' ((conv=>whnf);first
   | refine Yz ?_
    | (refine Pick.rec cplw k rfl hlt rfl ?_)
    | (refine Cmp.tt he ?_)
    | (refine Ret.mk rfl)
    | fail)
  ·have ih:=ih hlt fun j hj hj'=>by
    by_cases e:j=k
    ·subst e;exact decide_eq_false he
    ·exact hp j (by omega) hj'
   repeat' ((conv=>whnf);first
   | refine Yz ?_
    | (refine Pick.rec cplw k rfl hlt rfl ?_)
    | (refine Cmp.ff he ?_)
    | (refine LoopW.to ih rfl rfl)
    | fail)
 ·obtain rfl:k=r.cs.length:=by omega
  have hi:cplI r.cs nm= -1:=idxI_none (p:=fun x:Cpl=>decide (x.nm=nm)) fun j hj=>hp j hj hj
  rw [hi]
  repeat' ((conv=>whnf);first
  | refine Yz ?_
   | (refine Ret.mk rfl)
   | fail)
theorem r_removed (r:Rgs) (nm:List UInt8) (kn:Int) (hl:r.rs.length≤1000000):Fc E n_ref10_removed [Rgv r,S nm,I kn] (B (remB r.rs nm kn)):=by
 refine g.fn rfl rfl ?_
 have hml:(r.rs.flatMap Rmv.cells).length=r.rs.length*2:=flatR_length Rmv.cells 2 rmvw r.rs
 repeat' ((conv=>whnf);first
 | refine Yz ?_
  | fail)
 refine LoopW.to (LoopW.upP g (fun k=>[(1,S nm),(2,I kn),(3,.ptr ⟨0,3,0⟩ 0 0),(7,I k)]) (fun _=>[(⟨0,3,0⟩,.cells ty_turnroundref10_Register [I r.kn,.d (.list r.es.length (r.es.flatMap Ent.cells)),.d (.list r.rs.length (r.rs.flatMap Rmv.cells)),.d (.list r.cs.length (r.cs.flatMap Cpl.cells))])])
  (fun k=>∀j,(hj:j<r.rs.length)→j<k→¬(r.rs[j].en=nm∧r.rs[j].kn≤kn)) r.rs.length (fun k hk hp ih=> ?_) 0 (Nat.zero_le _) (fun j _ h=>absurd h (Nat.not_lt_zero _))) rfl rfl
 by_cases hlt:k<r.rs.length
 ·by_cases he:r.rs[k].en=nm
  ·by_cases hn:r.rs[k].kn≤kn
   ·have hb:remB r.rs nm kn=true:=List.any_eq_true.2 ⟨_,List.getElem_mem hlt,decide_eq_true ⟨he,hn⟩⟩
    rw [hb]
    repeat' ((conv=>whnf);first
    | refine Yz ?_
     | (refine Pick.rec rmvw k rfl hlt rfl ?_)
     | (refine Cmp.tt he ?_)
     | (refine Ret.mk rfl)
     | fail)
   ·have ih:=ih hlt fun j hj hjk=>by
     by_cases e:j=k
     ·subst e;exact fun h=>hn h.2
     ·exact hp j hj (by omega)
    repeat' ((conv=>whnf);first
    | refine Yz ?_
     | (refine Pick.rec rmvw k rfl hlt rfl ?_)
     | (refine Cmp.tt he ?_)
     | (refine LoopW.to ih rfl rfl)
     | fail)
  ·have ih:=ih hlt fun j hj hjk=>by
    by_cases e:j=k
    ·subst e;exact fun h=>he h.1
    ·exact hp j hj (by omega)
   repeat' ((conv=>whnf);first
   | refine Yz ?_
    | (refine Pick.rec rmvw k rfl hlt rfl ?_)
    | (refine Cmp.ff he ?_)
    | (refine LoopW.to ih rfl rfl)
    | fail)
 ·obtain rfl:k=r.rs.length:=by omega
  have hb:remB r.rs nm kn=false:=by
   unfold remB
   rw [List.any_eq_false]
   intro z hz
   obtain⟨j,hj,rfl⟩:=List.mem_iff_getElem.1 hz
   simpa using hp j hj hj
  rw [hb]
  repeat' ((conv=>whnf);first
  | refine Yz ?_
   | (refine Ret.mk rfl)
   | fail)
set_option maxHeartbeats 8000000 in
theorem r_Counts (r:Rgs) (ho:OkR r) (kn:Int):∀(k:Nat) (hk:k<r.es.length),Fc E n_ref10_Counts [Rgv r,I k,I kn] (B (cntE r r.es[k] kn)):=by
 intro k
 induction k using Nat.strongRecOn with
 | _ k ihk=>
  intro hk
  have hes:=ho.es
  have hrm:=r_removed g r r.es[k].nm kn (by have:=ho.rs;omega)
  have hml:(r.es.flatMap Ent.cells).length=r.es.length*8:=flatR_length Ent.cells 8 entw r.es
  have hwin:win (r.es.flatMap Ent.cells) (((k:Nat):Int).toNat*8) 8=r.es[k].cells:=by
   rw [Int.toNat_natCast]
   exact flatR_win Ent.cells 8 entw r.es k hk
  refine g.fn rfl rfl ?_
  rcases ho.bs k hk with hb|⟨j,hj,hb⟩
  ·rw [cnt_stop ho hk hb]
   by_cases h1:r.es[k].kn≤kn
   ·rw [decide_eq_true h1]
    cases hr:remB r.rs r.es[k].nm kn
    all_goals
     rw [hr] at hrm
     repeat' ((conv=>whnf);first
     | refine Yz ?_
      | (rw [hwin])
      | (apply CallI.of;assumption)
      | (refine Cmp.tt hb ?_)
      | (refine Ret.mk rfl)
      | fail)
   ·rw [decide_eq_false h1]
    repeat' ((conv=>whnf);first
    | refine Yz ?_
     | (rw [hwin])
     | (refine Ret.mk rfl)
     | fail)
  ·rw [cnt_step ho hk hj hb]
   have hb0:r.es[k].bs≠[]:=fun e=>by rw [e,ent_nil ho.nm] at hb;omega
   have hrec:=ihk j hj (by omega)
   have hea:=r_EntryAt g r r.es[k].bs (by omega)
   rw [hb] at hea
   by_cases h1:r.es[k].kn≤kn
   ·rw [decide_eq_true h1]
    cases hr:remB r.rs r.es[k].nm kn
    all_goals
     rw [hr] at hrm
     repeat' ((conv=>whnf);first
     | refine Yz ?_
      | (rw [hwin])
      | (apply CallI.of;assumption)
      | (refine Cmp.ff hb0 ?_)
      | (refine Ret.mk rfl)
      | fail)
   ·rw [decide_eq_false h1]
    repeat' ((conv=>whnf);first
    | refine Yz ?_
     | (rw [hwin])
     | (refine Ret.mk rfl)
     | fail)
end
end Go.Proofs.YtcbddkeiohdocaaGreatDoor.Co
/-
 The reference's questions: Counting, Resting, Minute, History, Differences, CheckDays.
-/
namespace Go.Proofs.YtcbddkeiohdocaaGreatDoor.Co
open Go Go.Evl
abbrev bxR (sl:Nat) (r:Rgs):Evl.Id×Ob:=(⟨0,sl,0⟩,.cells ty_turnroundref10_Register [I r.kn,.d (.list r.es.length (r.es.flatMap Ent.cells)),.d (.list r.rs.length (r.rs.flatMap Rmv.cells)),.d (.list r.cs.length (r.cs.flatMap Cpl.cells))])
end Go.Proofs.YtcbddkeiohdocaaGreatDoor.Co
/-
 The reference's Replay: what is refused, the register after an event.
-/
namespace Go.Proofs.YtcbddkeiohdocaaGreatDoor.Co
open Go Go.Evl
def refE (r:Rgs) (e:Evt):Int:=if vlN e 0<r.kn then 19 else if 99999<vlN e 0 then 3 else askE r e
theorem accE_ref (r:Rgs) (n:Nat) (e:Evt):accE r n e=if e.nu=n+1 then refE r e else 11:=by
 unfold accE accF refE
 by_cases h1:e.nu=n+1
 ·rw [if_pos h1,if_pos h1]
  by_cases h2:vlN e 0<r.kn
  ·rw [if_pos h2,if_pos h2,show ∀z,firstI [0,19,z]=19 from fun _=>rfl,if_pos (by decide)]
  ·rw [if_neg h2,if_neg h2]
   by_cases h3:99999<vlN e 0
   ·rw [if_pos h3,if_pos h3];rfl
   ·rw [if_neg h3,if_neg h3];rfl
 ·rw [if_neg h1,if_neg h1,show ∀y z,firstI [11,y,z]=11 from fun _ _=>rfl,if_pos (by decide)]
section
variable {E : Oracle} (g : Good E)
include g
set_option maxRecDepth 100000
set_option maxHeartbeats 16000000 in
theorem r_refusedEntry (r:Rgs) (ho:OkR r) (nu:Int) (ki:List UInt8) (a s:List UInt8) (more:List (List UInt8)) (b:List UInt8) (kn f u m:Int) (tx:List UInt8) (hb:ki=kFollow→more=[b]):
  Fc E n_ref10_refusedEntry [Rgv r,Evv ⟨nu,ki,a::s::more,[kn,f,u,m],tx⟩] (I (askEnt r (decide (ki=kFollow)) a b kn f u m)):=by
 have hes:=ho.es
 have hq:=r_EntryAt g r a (by omega)
 have hqb:=r_EntryAt g r b (by omega)
 have hcn:=r_Counts g r ho kn
 change Fc E n_ref10_refusedEntry [Rgv r,.d (.agg [DI nu,.str ki,.list (more.length+1+1) (.str a:: .str s::more.map D.str),.list 4 [DI kn,DI f,DI u,DI m],.str tx])] _
 refine g.fn rfl rfl ?_
 unfold askEnt newF
 generalize entI r.es a=i at *
 by_cases hi:0≤i
 ·rw [if_pos hi,show ∀z,firstI [9,z]=9 from fun _=>rfl,if_pos (by decide)]
  repeat' ((conv=>whnf);first
  | refine Yz ?_
   | (apply CallI.of;assumption)
   | (refine Ret.mk rfl)
   | fail)
 ·rw [if_neg hi]
  by_cases h256:256≤r.es.length
  ·rw [if_pos h256,show firstI [0,5]=5 from rfl,if_pos (by decide)]
   repeat' ((conv=>whnf);first
   | refine Yz ?_
    | (apply CallI.of;assumption)
    | (refine Ret.mk rfl)
    | fail)
  ·rw [if_neg h256,show firstI [0,0]=0 from rfl,if_neg (by decide)]
   by_cases hf:ki=kFollow
   ·obtain rfl:=hb hf
    rw [decide_eq_true hf]
    rcases entI_cases r.es b with⟨h,_⟩|⟨k,hk,h,_⟩
    ·rw [over_none h,if_pos ⟨rfl,by decide⟩]
     rw [h] at hqb
     repeat' ((conv=>whnf);first
     | refine Yz ?_
      | (apply CallI.of;assumption)
      | (refine Cmp.tt hf ?_)
      | (refine Ret.mk rfl)
      | fail)
    ·have hcn:=hcn k hk
     rw [over_some hk h]
     rw [h] at hqb
     cases hc:cntE r r.es[k] kn with
     | false=>
      rw [hc] at hcn
      rw [show (if(false=true) then(0:Int) else 20)=20 from rfl,if_pos ⟨rfl,by decide⟩]
      repeat' ((conv=>whnf);first
      | refine Yz ?_
       | (apply CallI.of;assumption)
       | (refine Cmp.tt hf ?_)
       | (refine Ret.mk rfl)
       | fail)
     | true=>
      rw [hc] at hcn
      rw [show (if(true=true) then(0:Int) else 20)=0 from rfl,if_neg (fun h=>h.2 rfl)]
      by_cases c1:99999<f
      all_goals by_cases c2:99999<u
      all_goals by_cases c3:1440<m
      all_goals by_cases c4:u<f
      all_goals
       repeat' ((conv=>whnf);first
       | refine Yz ?_
        | (apply CallI.of;assumption)
        | (refine Cmp.tt hf ?_)
        | (exfalso;omega)
        | (refine Ret.mk ?_)
        | fail)
      all_goals simp [c1,c2,c3,c4,firstI]
   ·rw [decide_eq_false hf,if_neg (fun h=>by cases h.1)]
    by_cases c1:99999<f
    all_goals by_cases c2:99999<u
    all_goals by_cases c3:1440<m
    all_goals by_cases c4:u<f
    all_goals
     repeat' ((conv=>whnf);first
     | refine Yz ?_
      | (apply CallI.of;assumption)
      | (refine Cmp.ff hf ?_)
      | (exfalso;omega)
      | (refine Ret.mk ?_)
      | fail)
    all_goals simp [c1,c2,c3,c4,firstI]
set_option maxHeartbeats 32000000 in
theorem r_refused (r:Rgs) (ho:OkR r) (e:Evt) (hc:chkE e=0):Fc E n_ref10_refused [Rgv r,Evv e] (I (refE r e)):=by
 have hes:=ho.es
 have hml:(r.es.flatMap Ent.cells).length=r.es.length*8:=flatR_length Ent.cells 8 entw r.es
 have hmc:(r.cs.flatMap Cpl.cells).length=r.cs.length*5:=flatR_length Cpl.cells 5 cplw r.cs
 have hcs:=ho.cs
 unfold refE
 rcases evt_cases hc with⟨nu,ki,a,s,more,kn,f,u,m,rfl,hent,hfol,hki⟩|⟨nu,a,kn,rfl⟩|⟨nu,a,en,kn,rfl⟩|⟨nu,a,kn,v,rfl⟩
 ·obtain⟨b,hb⟩:∃b,ki=kFollow→more=[b]:=by
   by_cases h:ki=kFollow
   ·obtain⟨b,hb⟩:=hfol h
    exact⟨b,fun _=>hb⟩
   ·exact⟨[],fun h'=>absurd h' h⟩
  have hask:askE r ⟨nu,ki,a::s::more,[kn,f,u,m],[]⟩=askEnt r (decide (ki=kFollow)) a b kn f u m:=by
   rw [askE,if_pos hent]
   by_cases h:ki=kFollow
   ·rw [hb h];rfl
   ·unfold askEnt
    rw [decide_eq_false h]
    simp only [Bool.false_eq_true,false_and,if_false]
    rfl
  have hq:=r_refusedEntry g r ho nu ki a s more b kn f u m [] hb
  rw [←hask] at hq
  change Fc E n_ref10_refused _ (I (if kn<r.kn then 19 else if 99999<kn then 3 else askE r ⟨nu,ki,a::s::more,[kn,f,u,m],[]⟩))
  generalize askE r ⟨nu,ki,a::s::more,[kn,f,u,m],[]⟩=o at *
  have e1:Evv ⟨nu,ki,a::s::more,[kn,f,u,m],[]⟩= .d (.agg [DI nu,.str ki,.list (more.length+1+1) (.str a:: .str s::more.map D.str),.list 4 [DI kn,DI f,DI u,DI m],.str []]):=rfl
  rw [e1] at hq ⊢
  clear hfol hask hent hb
  refine g.fn rfl rfl ?_
  by_cases c1:kn<r.kn
  ·rw [if_pos c1]
   repeat' ((conv=>whnf);first
   | refine Yz ?_
    | (refine Ret.mk rfl)
    | fail)
  by_cases c2:99999<kn
  ·rw [if_neg c1,if_pos c2]
   repeat' ((conv=>whnf);first
   | refine Yz ?_
    | (refine Ret.mk rfl)
    | fail)
  rw [if_neg c1,if_neg c2]
  rcases hki with rfl|rfl|rfl
  all_goals
   repeat' ((conv=>whnf);first
   | refine Yz ?_
    | (apply CallI.of;assumption)
    | (refine Ret.mk rfl)
    | fail)
 ·change Fc E n_ref10_refused [Rgv r,.d (.agg [DI nu,.str kReverse,.list 1 [.str a],.list 1 [DI kn],.str []])] (I (if kn<r.kn then 19 else if 99999<kn then 3 else askRev r a kn))
  refine g.fn rfl rfl ?_
  by_cases c1:kn<r.kn
  ·rw [if_pos c1]
   repeat' ((conv=>whnf);first
   | refine Yz ?_
    | (refine Ret.mk rfl)
    | fail)
  by_cases c2:99999<kn
  ·rw [if_neg c1,if_pos c2]
   repeat' ((conv=>whnf);first
   | refine Yz ?_
    | (refine Ret.mk rfl)
    | fail)
  rw [if_neg c1,if_neg c2]
  unfold askRev
  have hq:=r_EntryAt g r a (by omega)
  rcases entI_cases r.es a with⟨h,_⟩|⟨k,hk,h,hnm,_⟩
  ·rw [h] at hq
   rw [h,if_pos (by decide)]
   repeat' ((conv=>whnf);first
   | refine Yz ?_
    | (apply CallI.of;assumption)
    | (refine Ret.mk rfl)
    | fail)
  ·have hgd:r.es.getD k ent0=r.es[k]:=by simp [List.getD,hk]
   rw [h] at hq
   rw [over_some hk h,h,if_neg (by omega),Int.toNat_natCast,hgd]
   have hcn:=r_Counts g r ho kn k hk
   by_cases hkd:r.es[k].kd=kRule
   ·rw [if_pos hkd]
    cases hc':cntE r r.es[k] kn
    all_goals
     rw [hc'] at hcn
     repeat' ((conv=>whnf);first
     | refine Yz ?_
      | (apply CallI.of;assumption)
      | (refine Pick.rec entw k rfl hk rfl ?_)
      | (refine Cmp.ff (fun h=>h hkd) ?_)
      | (refine Ret.mk rfl)
      | fail)
   ·rw [if_neg hkd]
    repeat' ((conv=>whnf);first
    | refine Yz ?_
     | (apply CallI.of;assumption)
     | (refine Pick.rec entw k rfl hk rfl ?_)
     | (refine Cmp.tt hkd ?_)
     | (refine Ret.mk rfl)
     | fail)
 ·change Fc E n_ref10_refused [Rgv r,.d (.agg [DI nu,.str kComplain,.list 2 [.str a,.str en],.list 1 [DI kn],.str []])] (I (if kn<r.kn then 19 else if 99999<kn then 3 else askCom r a en kn))
  refine g.fn rfl rfl ?_
  by_cases c1:kn<r.kn
  ·rw [if_pos c1]
   repeat' ((conv=>whnf);first
   | refine Yz ?_
    | (refine Ret.mk rfl)
    | fail)
  by_cases c2:99999<kn
  ·rw [if_neg c1,if_pos c2]
   repeat' ((conv=>whnf);first
   | refine Yz ?_
    | (refine Ret.mk rfl)
    | fail)
  rw [if_neg c1,if_neg c2]
  unfold askCom
  have hq:=r_ComplaintAt g r a (by omega)
  have hq2:=r_EntryAt g r en (by omega)
  generalize cplI r.cs a=i at *
  by_cases hi:0≤i
  ·rw [if_pos hi]
   repeat' ((conv=>whnf);first
   | refine Yz ?_
    | (apply CallI.of;assumption)
    | (refine Ret.mk rfl)
    | fail)
  rw [if_neg hi]
  by_cases h64:64≤r.cs.length
  ·rw [if_pos h64]
   repeat' ((conv=>whnf);first
   | refine Yz ?_
    | (apply CallI.of;assumption)
    | (refine Ret.mk rfl)
    | fail)
  rw [if_neg h64]
  rcases entI_cases r.es en with⟨h,_⟩|⟨k,hk,h,_⟩
  ·rw [h] at hq2
   rw [over_none h]
   repeat' ((conv=>whnf);first
   | refine Yz ?_
    | (apply CallI.of;assumption)
    | (refine Ret.mk rfl)
    | fail)
  ·rw [h] at hq2
   rw [over_some hk h]
   have hcn:=r_Counts g r ho kn k hk
   cases hc':cntE r r.es[k] kn
   all_goals
    rw [hc'] at hcn
    repeat' ((conv=>whnf);first
    | refine Yz ?_
     | (apply CallI.of;assumption)
     | (refine Ret.mk rfl)
     | fail)
 ·change Fc E n_ref10_refused [Rgv r,.d (.agg [DI nu,.str kDecide,.list 1 [.str a],.list 2 [DI kn,DI v],.str []])] (I (if kn<r.kn then 19 else if 99999<kn then 3 else askDec r a v))
  refine g.fn rfl rfl ?_
  by_cases c1:kn<r.kn
  ·rw [if_pos c1]
   repeat' ((conv=>whnf);first
   | refine Yz ?_
    | (refine Ret.mk rfl)
    | fail)
  by_cases c2:99999<kn
  ·rw [if_neg c1,if_pos c2]
   repeat' ((conv=>whnf);first
   | refine Yz ?_
    | (refine Ret.mk rfl)
    | fail)
  rw [if_neg c1,if_neg c2]
  unfold askDec
  have hq:=r_ComplaintAt g r a (by omega)
  rcases cplI_cases r.cs a with h|⟨k,hk,h,hnm⟩
  ·rw [h] at hq
   rw [h,if_pos (by decide)]
   repeat' ((conv=>whnf);first
   | refine Yz ?_
    | (apply CallI.of;assumption)
    | (refine Ret.mk rfl)
    | fail)
  ·have hgd:r.cs.getD k cpl0=r.cs[k]:=by simp [List.getD,hk]
   rw [h] at hq
   rw [h,if_neg (by omega),Int.toNat_natCast,hgd]
   cases hcl:r.cs[k].cl
   ·by_cases hv:1<v
    ·rw [if_pos hv]
     repeat' ((conv=>whnf);first
     | refine Yz ?_
      | (apply CallI.of;assumption)
      | (refine Pick.rec cplw k rfl hk rfl ?_;rw [hcl])
      | (refine Ret.mk rfl)
      | fail)
    ·rw [if_neg hv]
     repeat' ((conv=>whnf);first
     | refine Yz ?_
      | (apply CallI.of;assumption)
      | (refine Pick.rec cplw k rfl hk rfl ?_;rw [hcl])
      | (refine Ret.mk rfl)
      | fail)
   ·repeat' ((conv=>whnf);first
   | refine Yz ?_
     | (apply CallI.of;assumption)
     | (refine Pick.rec cplw k rfl hk rfl ?_;rw [hcl])
     | (refine Ret.mk rfl)
     | fail)
end
end Go.Proofs.YtcbddkeiohdocaaGreatDoor.Co
/-
 The reference's Replay: the register after an event; events one after another.
-/
namespace Go.Proofs.YtcbddkeiohdocaaGreatDoor.Co
open Go Go.Evl
theorem list_set_cells (r:Rgs) (k:Nat) (hk:k<r.cs.length) (x:Cpl):patch (r.cs.flatMap Cpl.cells) (((k:Nat):Int).toNat*5) x.cells=(r.cs.set k x).flatMap Cpl.cells:=by
 rw [Int.toNat_natCast]
 have h2:r.cs.set k x=r.cs.take k++x::r.cs.drop (k+1):=by rw [List.set_eq_take_append_cons_drop,if_pos hk]
 rw [h2,List.flatMap_append,List.flatMap_cons]
 have h4:((r.cs.take k).flatMap Cpl.cells).length=k*5:=by
  rw [flatR_length Cpl.cells 5 cplw,List.length_take,Nat.min_eq_left (by omega)]
 have h1:r.cs.flatMap Cpl.cells=(r.cs.take k).flatMap Cpl.cells++(r.cs[k].cells++(r.cs.drop (k+1)).flatMap Cpl.cells):=by
  rw [←List.flatMap_cons,←List.flatMap_append,←List.drop_eq_getElem_cons hk,List.take_append_drop]
 have h5:=cplw r.cs[k]
 have h6:=cplw x
 unfold patch
 rw [h1]
 generalize (r.cs.take k).flatMap Cpl.cells=A at *
 generalize (r.cs.drop (k+1)).flatMap Cpl.cells=C at *
 generalize r.cs[k].cells=B at *
 rw [←h4,List.take_left,List.drop_append,List.drop_of_length_le (by omega),h6,Nat.add_sub_cancel_left,List.nil_append,List.drop_append_of_le_length (by omega),List.drop_of_length_le (by omega),List.nil_append,List.append_assoc]
section
variable {E : Oracle} (g : Good E)
include g
set_option maxRecDepth 100000
abbrev mA (r:Rgs) (nu:Int) (a:List UInt8) (kn v:Int):Mem:=[bxR 2 r,(⟨0,3,0⟩,.cells ty_api_Event [I nu,S kDecide,.d (.list 1 [.str a]),.d (.list 2 [DI kn,DI v]),S []]),(⟨0,4,0⟩,.row false ty_turnroundref10_Entry 8 0 []),(⟨0,4,1⟩,.row false ty_turnroundref10_Removal 2 0 []),(⟨0,4,2⟩,.row true ty_turnroundref10_Complaint 5 0 []),
 (⟨0,4,3⟩,.cells ty_turnroundref10_Register [I 0,.ref ⟨0,4,0⟩ 0 0 0,.ref ⟨0,4,1⟩ 0 0 0,.ref ⟨0,4,2⟩ 0 0 0])]
theorem in_ComplaintAt (r:Rgs) (nu:Int) (a:List UInt8) (kn v:Int) (hl:r.cs.length≤1000000) {slot:Nat} {K:V→Mem→Prop} (hK:K (I (cplI r.cs a)) (mA r nu a kn v)):
  In E 1 n_ref10_ComplaintAt [Rgv r,S a] (mA r nu a kn v) fun x m'=>backW ⟨0,1⟩ slot true x m' K:=by
 refine In.enter (f:=n_ref10_ComplaintAt) g.lim rfl rfl ?_
 have hml:(r.cs.flatMap Cpl.cells).length=r.cs.length*5:=flatR_length Cpl.cells 5 cplw r.cs
 repeat' ((conv=>whnf);first
 | refine Yz ?_
  | fail)
 refine LoopW.to (LoopW.upP g (fun k=>[(1,S a),(2,.ptr ⟨1,2,0⟩ 0 0),(5,I k)]) (fun _=>mA r nu a kn v++[(⟨1,2,0⟩,.cells ty_turnroundref10_Register [I r.kn,.d (.list r.es.length (r.es.flatMap Ent.cells)),.d (.list r.rs.length (r.rs.flatMap Rmv.cells)),.d (.list r.cs.length (r.cs.flatMap Cpl.cells))])]) (fun k=>∀j,(hj:j<k)→(hj':j<r.cs.length)→decide (r.cs[j].nm=a)=false) r.cs.length (fun k hk hp ih=> ?_) 0 (Nat.zero_le _) (fun j h _=>absurd h (Nat.not_lt_zero _))) rfl rfl
 by_cases hlt:k<r.cs.length
 ·by_cases he:r.cs[k].nm=a
  ·have hi:cplI r.cs a=k:=idxI_at (p:=fun x:Cpl=>decide (x.nm=a)) hlt (decide_eq_true he) fun j hj=>hp j hj (by omega)
   rw [hi] at hK
   repeat' ((conv=>whnf);first
   | refine Yz ?_
    | (refine Pick.rec cplw k rfl hlt rfl ?_)
    | (refine Cmp.tt he ?_)
    | (exact hK)
    | fail)
  ·have ih:=ih hlt fun j hj hj'=>by
    by_cases e:j=k
    ·subst e;exact decide_eq_false he
    ·exact hp j (by omega) hj'
   repeat' ((conv=>whnf);first
   | refine Yz ?_
    | (refine Pick.rec cplw k rfl hlt rfl ?_)
    | (refine Cmp.ff he ?_)
    | (refine LoopW.to ih rfl rfl)
    | fail)
 ·obtain rfl:k=r.cs.length:=by omega
  have hi:cplI r.cs a= -1:=idxI_none (p:=fun x:Cpl=>decide (x.nm=a)) fun j hj=>hp j hj hj
  rw [hi] at hK
  repeat' ((conv=>whnf);first
  | refine Yz ?_
   | (exact hK)
   | fail)
set_option maxHeartbeats 64000000 in
theorem r_after (r:Rgs) (ho:OkR r) (e:Evt) (hc:chkE e=0) (hask:askE r e=0) (hrs:r.rs.length<1000):Fc E n_ref10_after [Rgv r,Evv e] (Rgv (aftE r e)):=by
 have hes:=ho.es
 have hcs:=ho.cs
 have hml:(r.es.flatMap Ent.cells).length=r.es.length*8:=flatR_length Ent.cells 8 entw r.es
 have hmr:(r.rs.flatMap Rmv.cells).length=r.rs.length*2:=flatR_length Rmv.cells 2 rmvw r.rs
 have hmc:(r.cs.flatMap Cpl.cells).length=r.cs.length*5:=flatR_length Cpl.cells 5 cplw r.cs
 rcases evt_cases hc with⟨nu,ki,a,s,more,kn,f,u,m,rfl,hent,hfol,hki⟩|⟨nu,a,kn,rfl⟩|⟨nu,a,en,kn,rfl⟩|⟨nu,a,kn,v,rfl⟩
 ·clear hask hc
  by_cases hf:ki=kFollow
  ·obtain⟨b,rfl⟩:=hfol hf
   subst hf
   have haft:aftE r ⟨nu,kFollow,[a,s,b],[kn,f,u,m],[]⟩=⟨kn,r.es++[⟨a,kFollow,s,b,kn,f,u,m⟩],r.rs,r.cs⟩:=rfl
   rw [haft]
   change Fc E n_ref10_after [Rgv r,.d (.agg [DI nu,.str kFollow,.list 3 [.str a,.str s,.str b],.list 4 [DI kn,DI f,DI u,DI m],.str []])] _
   refine g.fn rfl rfl ?_
   repeat' ((conv=>whnf);first
   | refine Yz ?_
    | (refine Need.mk ⟨rfl,rfl,rfl,rfl,rfl,hml,by dsimp only;omega,by first |omega|(dsimp only;omega)⟩ ?_)
    | (refine Need.mk ⟨rfl,rfl,rfl,rfl,rfl,rfl,by dsimp only;omega,by first |omega|(dsimp only;omega)⟩ ?_)
    | (refine Need.mk ⟨rfl,by omega⟩ ?_)
    | (refine Need.mk ⟨rfl,by decide⟩ ?_)
    | (refine Ret.mk ?_)
    | fail)
   all_goals simp [Ent.cells]
  ·have haft:aftE r ⟨nu,ki,a::s::more,[kn,f,u,m],[]⟩=⟨kn,r.es++[⟨a,ki,s,[],kn,f,u,m⟩],r.rs,r.cs⟩:=by
    rw [aftE,if_pos hent,entOf,if_neg hf]
    rfl
   rw [haft]
   change Fc E n_ref10_after [Rgv r,.d (.agg [DI nu,.str ki,.list (more.length+1+1) (.str a:: .str s::more.map D.str),.list 4 [DI kn,DI f,DI u,DI m],.str []])] _
   refine g.fn rfl rfl ?_
   rcases hki with rfl|rfl|rfl
   ·repeat' ((conv=>whnf);first
   | refine Yz ?_
     | (refine Need.mk ⟨rfl,rfl,rfl,rfl,rfl,hml,by dsimp only;omega,by first |omega|(dsimp only;omega)⟩ ?_)
     | (refine Need.mk ⟨rfl,rfl,rfl,rfl,rfl,rfl,by dsimp only;omega,by first |omega|(dsimp only;omega)⟩ ?_)
     | (refine Need.mk ⟨rfl,by omega⟩ ?_)
     | (refine Need.mk ⟨rfl,by decide⟩ ?_)
     | (refine Ret.mk ?_)
     | fail)
    all_goals simp [Ent.cells]
   ·repeat' ((conv=>whnf);first
   | refine Yz ?_
     | (refine Need.mk ⟨rfl,rfl,rfl,rfl,rfl,hml,by dsimp only;omega,by first |omega|(dsimp only;omega)⟩ ?_)
     | (refine Need.mk ⟨rfl,rfl,rfl,rfl,rfl,rfl,by dsimp only;omega,by first |omega|(dsimp only;omega)⟩ ?_)
     | (refine Need.mk ⟨rfl,by omega⟩ ?_)
     | (refine Need.mk ⟨rfl,by decide⟩ ?_)
     | (refine Ret.mk ?_)
     | fail)
    all_goals simp [Ent.cells]
   ·exact absurd rfl hf
 ·have haft:aftE r ⟨nu,kReverse,[a],[kn],[]⟩=⟨kn,r.es,r.rs++[⟨a,kn⟩],r.cs⟩:=rfl
  rw [haft]
  change Fc E n_ref10_after [Rgv r,.d (.agg [DI nu,.str kReverse,.list 1 [.str a],.list 1 [DI kn],.str []])] _
  refine g.fn rfl rfl ?_
  repeat' ((conv=>whnf);first
  | refine Yz ?_
   | (refine Need.mk ⟨rfl,rfl,rfl,rfl,rfl,hmr,by dsimp only;omega,by first |omega|(dsimp only;omega)⟩ ?_)
   | (refine Need.mk ⟨rfl,rfl,rfl,rfl,rfl,rfl,by dsimp only;omega,by first |omega|(dsimp only;omega)⟩ ?_)
   | (refine Need.mk ⟨rfl,by omega⟩ ?_)
   | (refine Need.mk ⟨rfl,by decide⟩ ?_)
   | (refine Ret.mk ?_)
   | fail)
  all_goals simp [Rmv.cells]
 ·have haft:aftE r ⟨nu,kComplain,[a,en],[kn],[]⟩=⟨kn,r.es,r.rs,r.cs++[⟨a,en,kn,false,false⟩]⟩:=rfl
  rw [haft]
  change Fc E n_ref10_after [Rgv r,.d (.agg [DI nu,.str kComplain,.list 2 [.str a,.str en],.list 1 [DI kn],.str []])] _
  refine g.fn rfl rfl ?_
  repeat' ((conv=>whnf);first
  | refine Yz ?_
   | (refine Need.mk ⟨rfl,rfl,rfl,rfl,rfl,hmc,by dsimp only;omega,by first |omega|(dsimp only;omega)⟩ ?_)
   | (refine Need.mk ⟨rfl,rfl,rfl,rfl,rfl,rfl,by dsimp only;omega,by first |omega|(dsimp only;omega)⟩ ?_)
   | (refine Need.mk ⟨rfl,by omega⟩ ?_)
   | (refine Need.mk ⟨rfl,by decide⟩ ?_)
   | (refine Ret.mk ?_)
   | fail)
  all_goals simp [Cpl.cells]
 ·change askDec r a v=0 at hask
  rcases cplI_cases r.cs a with h|⟨k,hk,h,hnm⟩
  ·rw [askDec,h,if_pos (by decide)] at hask
   omega
  have hq:=r_ComplaintAt g r a (by omega)
  rw [h] at hq
  have hgd:r.cs.getD k cpl0=r.cs[k]:=by simp [List.getD,hk]
  have haft:aftE r ⟨nu,kDecide,[a],[kn,v],[]⟩=⟨kn,r.es,if v=1 then r.rs++[⟨r.cs[k].en,kn⟩] else r.rs,r.cs.set k {r.cs[k] with cl:=true,up:=decide (v=1)}⟩:=by
   change (Rgs.mk kn r.es (if v=1 then r.rs++[⟨(r.cs.getD (cplI r.cs a).toNat cpl0).en,kn⟩] else r.rs) (r.cs.set (cplI r.cs a).toNat {r.cs.getD (cplI r.cs a).toNat cpl0 with cl:=true,up:=decide (v=1)}))=_
   rw [h,Int.toNat_natCast,hgd]
  rw [haft]
  change Fc E n_ref10_after [Rgv r,.d (.agg [DI nu,.str kDecide,.list 1 [.str a],.list 2 [DI kn,DI v],.str []])] _
  have hcl:∀x:Cpl,patch ([]++r.cs.flatMap Cpl.cells) ((0+((k:Nat):Int).toNat)*5) x.cells=(r.cs.set k x).flatMap Cpl.cells:=fun x=>by
   rw [Nat.zero_add,List.nil_append];exact list_set_cells r k hk x
  have hl5:∀x:Cpl,(r.cs.set k x).length=r.cs.length:=fun x=>List.length_set
  have hin:=@in_ComplaintAt E g ⟨kn,r.es,r.rs,r.cs⟩ nu a kn v (by dsimp only;omega) 109
  rw [show cplI (Rgs.mk kn r.es r.rs r.cs).cs a=k from h] at hin
  dsimp only [mA,bxR] at hin
  have hwin:win (r.cs.flatMap Cpl.cells) (((k:Nat):Int).toNat*5) 5=r.cs[k].cells:=by
   rw [Int.toNat_natCast]
   exact flatR_win Cpl.cells 5 cplw r.cs k hk
  generalize hx:r.cs[k]=x at *
  by_cases hv:v=1
  ·rw [if_pos hv,decide_eq_true hv]
   have hcx:=hcl {x with cl:=true,up:=true}
   refine g.fn rfl rfl ?_
   repeat' ((conv=>whnf);first
   | refine Yz ?_
    | (refine hin ?_)
    | (rw [hwin])
    | (refine Need.mk ⟨rfl,rfl,rfl,rfl,rfl,hmc,by dsimp only;omega,by first |omega|(dsimp only;omega)⟩ ?_)
    | (refine Need.mk ⟨rfl,rfl,rfl,rfl,rfl,hmr,by dsimp only;omega,by first |omega|(dsimp only;omega)⟩ ?_)
    | (refine Need.mk ⟨rfl,rfl,rfl,rfl,rfl,rfl,by dsimp only;omega,by first |omega|(dsimp only;omega)⟩ ?_)
    | (refine Need.mk ⟨rfl,by omega⟩ ?_)
    | (refine Need.mk ⟨rfl,by decide⟩ ?_)
    | (refine Need.mk ⟨rfl,by rw [List.nil_append];omega,rfl⟩ ?_)
    | (refine Cmp.tt hv ?_)
    | (refine Ret.mk ?_)
    | fail)
   change patch _ _ [D.str x.nm,D.str x.en,DI x.kn,D.bool true,D.bool true]=_ at hcx
   rw [if_pos ⟨rfl,rfl⟩,if_pos ⟨rfl,rfl⟩,hcx]
   simp [Rmv.cells]
  ·rw [if_neg hv,decide_eq_false hv]
   have hcx:=hcl {x with cl:=true,up:=false}
   refine g.fn rfl rfl ?_
   repeat' ((conv=>whnf);first
   | refine Yz ?_
    | (refine hin ?_)
    | (rw [hwin])
    | (refine Need.mk ⟨rfl,rfl,rfl,rfl,rfl,hmc,by dsimp only;omega,by first |omega|(dsimp only;omega)⟩ ?_)
    | (refine Need.mk ⟨rfl,by omega⟩ ?_)
    | (refine Need.mk ⟨rfl,by decide⟩ ?_)
    | (refine Need.mk ⟨rfl,by rw [List.nil_append];omega,rfl⟩ ?_)
    | (refine Cmp.ff hv ?_)
    | (refine Ret.mk ?_)
    | fail)
   change patch _ _ [D.str x.nm,D.str x.en,DI x.kn,D.bool true,D.bool false]=_ at hcx
   rw [if_pos ⟨rfl,rfl⟩,hcx]
   simp
set_option maxHeartbeats 16000000 in
theorem r_Replay (l:List Evt) (hl:l.length≤1000) (hb:∀e∈l,e.ns.length≤1000000∧e.vs.length≤1000000):
  Fc E n_ref10_Replay [LE l] (.tup [Rgv (rgL l),I (replG rg0 0 l).2.1,I (erL l)]):=by
 refine g.fn rfl rfl ?_
 have hml:(l.flatMap Evt.cells).length=l.length*5:=flatR_length Evt.cells 5 evw l
 unfold rgL erL
 generalize hR:replG rg0 0 l=R
 repeat' ((conv=>whnf);first
 | refine Yz ?_
  | fail)
 refine LoopW.to (LoopW.by (σ:=Nat×Rgs) g (fun u=>u.1≤l.length∧OkR u.2∧u.2.rs.length≤u.1∧replG u.2 u.1 (l.drop u.1)=R)
  (fun u=>[(0,LE l),(2,.ptr ⟨0,2,0⟩ 0 0),(5,.ptr ⟨0,5,0⟩ 0 0),(6,I u.1)]) (fun u=>[(⟨0,2,0⟩,.cells ty_turnroundref10_Register [I 0,.d (.list 0 []),.d (.list 0 []),.d (.list 0 [])]),bxR 5 u.2]) (fun u=>l.length-u.1) ?_ (0,rg0) ⟨Nat.zero_le _,ok_rg0,Nat.le_refl _,hR⟩) rfl rfl
 clear hR
 rintro⟨k,r⟩ ⟨h2,ho,h3,hR⟩ ih
 dsimp only at h2 ho h3 hR ih ⊢
 by_cases hlt:k<l.length
 ·rw [replG_at hlt] at hR
  have hwin:win (l.flatMap Evt.cells) (((k:Nat):Int).toNat*5) 5=l[k].cells:=by
   rw [Int.toNat_natCast]
   exact flatR_win Evt.cells 5 evw l k hlt
  obtain⟨hb1,hb2⟩:=hb _ (List.getElem_mem hlt)
  have ih:=fun hz:stepE r k l[k]=0=>ih (k+1,aftE r l[k]) ⟨by dsimp only;omega,ok_aft ho hz (by omega),by
   have:=aft_rs r l[k]
   dsimp only
   omega,by
   rw [if_neg (fun h=>h hz)] at hR
   exact hR⟩ (by dsimp only;omega)
  have hnu:Pick (l.flatMap Evt.cells) (((k:Nat):Int).toNat*5+0)=fun K=>Pick (l.flatMap Evt.cells) (((k:Nat):Int).toNat*5+0) K:=rfl
  have hpk:∀ {K:D→Prop},K (DI l[k].nu)→Pick (l.flatMap Evt.cells) (((k:Nat):Int).toNat*5+0) K:=fun h=>Pick.rec evw k rfl hlt rfl h
  clear hnu
  generalize l[k]=e at *
  have hce:=r_CheckEvent g e hb1 hb2
  have haft:=r_after g r ho e
  by_cases hc:chkE e=0
  ·rw [hc] at hce
   have hrf:=r_refused g r ho e hc
   have hst:stepE r k e=accE r k e:=by rw [stepE,if_neg (fun h=>h hc)]
   rw [accE_ref] at hst
   by_cases hn:e.nu=k+1
   ·rw [if_pos hn] at hst
    by_cases ha:refE r e=0
    ·rw [ha] at hrf hst
     have haft:=haft hc (acc_ok (n:=k) (by rw [accE_ref,if_pos hn];exact ha)).2.2.2 (by omega)
     have ih:=ih hst
     dsimp only [bxR] at ih
     repeat' ((conv=>whnf);first
     | refine Yz ?_
      | (rw [hwin])
      | (apply CallI.of;assumption)
      | (refine hpk ?_)
      | (refine Cmp.ff (fun h=>h hn) ?_)
      | (refine LoopW.to ih rfl rfl)
      | fail)
    ·rw [hst,if_pos ha] at hR
     generalize refE r e=x at *
     subst hR
     repeat' ((conv=>whnf);first
     | refine Yz ?_
      | (rw [hwin])
      | (apply CallI.of;assumption)
      | (refine hpk ?_)
      | (refine Cmp.ff (fun h=>h hn) ?_)
      | (refine Cmp.ff ha ?_)
      | (refine Cmp.tt ha ?_)
      | (refine Ret.mk rfl)
      | fail)
   ·rw [if_neg hn] at hst
    rw [hst,if_pos (by decide)] at hR
    subst hR
    repeat' ((conv=>whnf);first
    | refine Yz ?_
     | (rw [hwin])
     | (apply CallI.of;assumption)
     | (refine hpk ?_)
     | (refine Cmp.tt hn ?_)
     | (refine Ret.mk rfl)
     | fail)
  ·have hst:stepE r k e=chkE e:=by rw [stepE,if_pos hc]
   rw [hst,if_pos hc] at hR
   generalize chkE e=x at *
   subst hR
   repeat' ((conv=>whnf);first
   | refine Yz ?_
    | (rw [hwin])
    | (apply CallI.of;assumption)
    | (refine Cmp.ff hc ?_)
    | (refine Ret.mk rfl)
    | fail)
 ·rw [List.drop_of_length_le (by omega)] at hR
  subst hR
  repeat' ((conv=>whnf);first
  | refine Yz ?_
   | (refine Ret.mk rfl)
   | fail)
end
end Go.Proofs.YtcbddkeiohdocaaGreatDoor.Co
/-
 The slots of all series as of a day of knowledge, by the reference; lists of slots.
-/
namespace Go.Proofs.YtcbddkeiohdocaaGreatDoor.Co
open Go Go.Evl
theorem minE_le {r:Rgs} (ho:OkR r) (s:List UInt8) (kn d:Int):0≤minE r s kn d∧minE r s kn d≤1440:=by
 unfold minE
 have key:∀(l:List Ent) (a:Int),(∀x∈l,0≤x.mi∧x.mi≤1440)→0≤a∧a≤1440→0≤l.foldl (fun o x=>if hitE r s kn d x then x.mi else o) a∧l.foldl (fun o x=>if hitE r s kn d x then x.mi else o) a≤1440:=by
  intro l
  induction l with
  | nil=>intro a _ h;exact h
  | cons x l ih=>
   intro a h1 h2
   rw [List.foldl_cons]
   refine ih _ (fun y hy=>h1 y (by simp [hy])) ?_
   split
   ·exact h1 x (by simp)
   ·exact h2
 exact key r.es 1440 ho.mi ⟨by decide,by decide⟩
end Go.Proofs.YtcbddkeiohdocaaGreatDoor.Co
/-
 What was known, plain: events that come later change nothing of it.
-/
namespace Go.Proofs.YtcbddkeiohdocaaGreatDoor.Co
open Go Go.Evl
theorem entI_more {es:List Ent} {nm:List UInt8} {k:Nat} (h:entI es nm=k) (more:List Ent):entI (es++more) nm=k:=by
 rcases entI_cases es nm with⟨e,_⟩|⟨j,hj,e,h2,h3⟩
 ·omega
 ·obtain rfl:j=k:=by omega
  refine idxI_at (p:=fun x:Ent=>decide (x.nm=nm)) (by rw [List.length_append];omega) ?_ ?_
  ·rw [List.getElem_append_left hj];exact decide_eq_true h2
  ·intro i hi
   rw [List.getElem_append_left (by omega)]
   exact decide_eq_false (h3 i hi)
structure Lat (r r':Rgs) (F:Int):Prop where
 es:∃more,r'.es=r.es++more∧∀x∈more,F<x.kn
 rm:∀nm,remB r'.rs nm F=remB r.rs nm F
theorem Lat.trans {a b c:Rgs} {F:Int} (h:Lat a b F) (k:Lat b c F):Lat a c F:=by
 obtain⟨⟨m1,e1,h1⟩,r1⟩:=h
 obtain⟨⟨m2,e2,h2⟩,r2⟩:=k
 refine⟨⟨m1++m2,by rw [e2,e1,List.append_assoc],fun x hx=> ?_⟩,fun nm=>(r2 nm).trans (r1 nm)⟩
 rcases List.mem_append.1 hx with hx|hx
 ·exact h1 x hx
 ·exact h2 x hx
end Go.Proofs.YtcbddkeiohdocaaGreatDoor.Co
/-
 Rulings, plain: entries that are added, and what a removal takes away.
-/
namespace Go.Proofs.YtcbddkeiohdocaaGreatDoor.Co
open Go Go.Evl
structure RgX (r r':Rgs):Prop where
 es:∃more,r'.es=r.es++more
 rs:r'.rs=r.rs
theorem cnt_ext {r r':Rgs} (ho:OkR r) (ho':OkR r') (h:RgX r r') (F:Int):∀(k:Nat) (hk:k<r.es.length),cntE r' r.es[k] F=cntE r r.es[k] F:=by
 obtain⟨⟨more,he⟩,hr⟩:=h
 intro k
 induction k using Nat.strongRecOn with
 | _ k ih=>
  intro hk
  have hk':k<r'.es.length:=by rw [he,List.length_append];omega
  have hek:r'.es[k]=r.es[k]:=by simp only [he];exact List.getElem_append_left hk
  rcases ho.bs k hk with hb|⟨j,hj,hb⟩
  ·have h1:=cnt_stop ho' hk' (by rw [hek];exact hb) F
   simp only [hek] at h1
   rw [h1,cnt_stop ho hk hb,hr]
  ·have hb':entI r'.es r.es[k].bs=j:=by rw [he];exact entI_more hb more
   have h1:=cnt_step ho' hk' hj (by rw [hek];exact hb') F
   have hej:r'.es[j]'(by omega)=r.es[j]'(by omega):=by simp only [he];exact List.getElem_append_left (by omega)
   simp only [hek,hej] at h1
   rw [h1,cnt_step ho hk hj hb,hr,ih j hj (by omega)]
def topE (r:Rgs) (x:Ent) (on:List UInt8):Bool:=(chF r.es.length r.es x).any fun y=>decide (y.nm=on)
theorem chF_stop {r:Rgs} (ho:OkR r) {k:Nat} (hk:k<r.es.length) (h:r.es[k].bs=[]):chF r.es.length r.es r.es[k]=[r.es[k]]:=
 (chF_ch ho.bases r.es.length k (by omega) hk).det (.stop k hk (by rw [h];exact ent_nil ho.nm))
theorem chF_step {r:Rgs} (ho:OkR r) {k j:Nat} (hk:k<r.es.length) (hj:j<k) (h:entI r.es r.es[k].bs=j):chF r.es.length r.es r.es[k]=r.es[k]::chF r.es.length r.es (r.es[j]'(by omega)):=
 (chF_ch ho.bases r.es.length k (by omega) hk).det (.step k j _ hk h (chF_ch ho.bases r.es.length j (by omega) (by omega)))
theorem top_stop {r:Rgs} (ho:OkR r) {k:Nat} (hk:k<r.es.length) (h:r.es[k].bs=[]) (on:List UInt8):topE r r.es[k] on=decide (r.es[k].nm=on):=by
 unfold topE
 rw [chF_stop ho hk h]
 simp
theorem top_step {r:Rgs} (ho:OkR r) {k j:Nat} (hk:k<r.es.length) (hj:j<k) (h:entI r.es r.es[k].bs=j) (on:List UInt8):topE r r.es[k] on=(decide (r.es[k].nm=on)||topE r (r.es[j]'(by omega)) on):=by
 unfold topE
 rw [chF_step ho hk hj h,List.any_cons]
theorem rsx_stop {r:Rgs} (ho:OkR r) {k:Nat} (hk:k<r.es.length) (h:r.es[k].bs=[]) (on:List UInt8):rstE r r.es[k] on=false:=by
 unfold rstE
 rw [chF_stop ho hk h]
 rfl
theorem rsx_step {r:Rgs} (ho:OkR r) {k j:Nat} (hk:k<r.es.length) (hj:j<k) (h:entI r.es r.es[k].bs=j) (on:List UInt8):rstE r r.es[k] on=topE r (r.es[j]'(by omega)) on:=by
 unfold rstE topE
 rw [chF_step ho hk hj h,List.tail_cons]
theorem top_old {r r':Rgs} (ho:OkR r) (ho':OkR r') (h:RgX r r') {on:List UInt8} (hn:entI r.es on= -1):∀(k:Nat) (hk:k<r.es.length),topE r' r.es[k] on=false∧rstE r' r.es[k] on=false:=by
 obtain⟨⟨more,he⟩,hr⟩:=h
 have hno:∀j,(hj:j<r.es.length)→r.es[j].nm≠on:=by
  rcases entI_cases r.es on with⟨_,h2⟩|⟨j,hj,e,_⟩
  ·exact h2
  ·omega
 intro k
 induction k using Nat.strongRecOn with
 | _ k ih=>
  intro hk
  have hk':k<r'.es.length:=by rw [he,List.length_append];omega
  have hek:r'.es[k]=r.es[k]:=by simp only [he];exact List.getElem_append_left hk
  rcases ho.bs k hk with hb|⟨j,hj,hb⟩
  ·have h1:=top_stop ho' hk' (by rw [hek];exact hb) on
   have h2:=rsx_stop ho' hk' (by rw [hek];exact hb) on
   rw [hek] at h1 h2
   exact⟨by rw [h1];exact decide_eq_false (hno k hk),h2⟩
  ·have hb':entI r'.es r.es[k].bs=j:=by rw [he];exact entI_more hb more
   have h1:=top_step ho' hk' hj (by rw [hek];exact hb') on
   have h2:=rsx_step ho' hk' hj (by rw [hek];exact hb') on
   have hej:r'.es[j]'(by omega)=r.es[j]'(by omega):=by simp only [he];exact List.getElem_append_left (by omega)
   simp only [hek,hej] at h1 h2
   have h3:=(ih j hj (by omega)).1
   exact⟨by rw [h1,h3,decide_eq_false (hno k hk)];rfl,by rw [h2,h3]⟩
def rmG (r:Rgs) (on:List UInt8) (day:Int):Rgs:={r with rs:=r.rs++[⟨on,day⟩]}
theorem cnt_rm (r:Rgs) (x:Ent) (on:List UInt8) {day kn:Int} (h:day≤kn):cntE (rmG r on day) x kn=(cntE r x kn&& !topE r x on):=by
 have h1:∀nm,remB (rmG r on day).rs nm kn=(remB r.rs nm kn||decide (nm=on)):=fun nm=>by
  unfold rmG remB
  dsimp only
  rw [List.any_append,List.any_cons,List.any_nil,Bool.or_false]
  congr 1
  by_cases e:on=nm
  ·subst e;simp [h]
  ·have e':nm≠on:=fun h=>e h.symm
   simp [e,e']
 unfold cntE topE
 have h2:(rmG r on day).es=r.es:=rfl
 simp only [h1,h2]
 have h3:∀l:List Ent,(l.any fun y=>remB r.rs y.nm kn||decide (y.nm=on))=((l.any fun y=>remB r.rs y.nm kn)||l.any fun y=>decide (y.nm=on)):=by
  intro l
  induction l with
  | nil=>rfl
  | cons y l ih=>rw [List.any_cons,List.any_cons,List.any_cons,ih];cases remB r.rs y.nm kn<;>cases decide (y.nm=on)<;>simp
 rw [h3]
 cases decide (x.kn≤kn)<;>simp [Bool.not_or]
def sTop:List UInt8:=[116,111,112]
def sS:List UInt8:=[115]
structure RmE (r:Rgs):Prop where
 rs:∀z∈r.rs,0≤entI r.es z.en
 cs:∀c∈r.cs,0≤entI r.es c.en
theorem entI_keep {es:List Ent} {nm:List UInt8} (h:0≤entI es nm) (more:List Ent):0≤entI (es++more) nm:=by
 rcases entI_cases es nm with⟨e,_⟩|⟨k,_,e,_⟩
 ·omega
 ·rw [entI_more e];omega
theorem over_ent {r:Rgs} {b:List UInt8} {kn:Int} (h:overE r b kn=0):0≤entI r.es b:=by
 obtain⟨j,_,e,_⟩:=over_ok h
 omega
theorem aft_rme {r:Rgs} (hr:RmE r) {n:Nat} {e:Evt} (h:stepE r n e=0):RmE (aftE r e):=by
 obtain⟨_,h2⟩:=step_ok h
 obtain⟨_,_,_,h3⟩:=acc_ok h2
 unfold askE at h3
 unfold aftE
 split at h3
 ·rename_i hk
  rw [if_pos hk]
  exact⟨fun z hz=>entI_keep (hr.rs z hz) _,fun c hc=>entI_keep (hr.cs c hc) _⟩
 rename_i hk
 rw [if_neg hk]
 split at h3
 ·rename_i hk2
  rw [if_pos hk2]
  refine⟨fun z hz=> ?_,hr.cs⟩
  rcases List.mem_append.1 hz with hz|hz
  ·exact hr.rs z hz
  ·rw [List.mem_singleton] at hz;subst hz
   dsimp only
   unfold askRev at h3
   split at h3
   ·exact absurd h3 (by decide)
   ·omega
 rename_i hk2
 rw [if_neg hk2]
 split at h3
 ·rename_i hk3
  rw [if_pos hk3]
  refine⟨hr.rs,fun c hc=> ?_⟩
  rcases List.mem_append.1 hc with hc|hc
  ·exact hr.cs c hc
  ·rw [List.mem_singleton] at hc;subst hc
   dsimp only
   unfold askCom at h3
   rw [firstI_zero] at h3
   exact over_ent (h3 (overE r (nmN e 1) (vlN e 0)) (by simp))
 rename_i hk3
 rw [if_neg hk3]
 have hge:0≤cplI r.cs (nmN e 0):=by
  unfold askDec at h3
  split at h3
  ·exact absurd h3 (by decide)
  ·omega
 have hc0:0≤entI r.es (r.cs.getD (cplI r.cs (nmN e 0)).toNat cpl0).en:=by
  rcases cplI_cases r.cs (nmN e 0) with e1|⟨k,hk,e1,_⟩
  ·omega
  ·rw [e1,Int.toNat_natCast]
   have:r.cs.getD k cpl0=r.cs[k]:=by simp [List.getD,hk]
   rw [this]
   exact hr.cs _ (List.getElem_mem hk)
 refine⟨fun z hz=> ?_,fun c hc=> ?_⟩
 ·dsimp only at hz
  split at hz
  ·rcases List.mem_append.1 hz with hz|hz
   ·exact hr.rs z hz
   ·rw [List.mem_singleton] at hz;subst hz
    exact hc0
  ·exact hr.rs z hz
 ·rcases List.mem_or_eq_of_mem_set hc with hc|hc
  ·exact hr.cs c hc
  ·subst hc
   exact hc0
theorem replG_rme:∀(l:List Evt) (r:Rgs) (n:Nat),RmE r→(replG r n l).2.2=0→RmE (replG r n l).1
 | [],r,_,hr,_=>hr
 | e::l,r,n,hr,h=>by
  rw [replG_cons] at h ⊢
  by_cases hs:stepE r n e≠0
  ·rw [if_pos hs] at h;exact absurd h hs
  ·rw [if_neg hs] at h ⊢
   exact replG_rme l _ _ (aft_rme hr (Decidable.byContradiction hs)) h
theorem rem_fresh {r:Rgs} (hr:RmE r) {nm:List UInt8} (h:entI r.es nm= -1) (kn:Int):remB r.rs nm kn=false:=by
 unfold remB
 rw [List.any_eq_false]
 intro z hz
 rw [decide_eq_true_eq]
 rintro⟨e,_⟩
 have:=hr.rs z hz
 rw [e] at this
 omega
theorem aft_es (r:Rgs) (e:Evt):(aftE r e).es.length≤r.es.length+1:=by
 unfold aftE
 split
 ·simp
 ·split
  ·simp
  ·split
   ·simp
   ·simp
theorem replG_es:∀(l:List Evt) (r:Rgs) (n:Nat),(replG r n l).2.2=0→(replG r n l).1.es.length≤r.es.length+l.length
 | [],r,_,_=>by simp [replG]
 | e::l,r,n,h=>by
  rw [replG_cons] at h ⊢
  by_cases hs:stepE r n e≠0
  ·rw [if_pos hs] at h;exact absurd h hs
  ·rw [if_neg hs] at h ⊢
   have h1:=replG_es l _ _ h
   have h2:=aft_es r e
   rw [List.length_cons]
   omega
theorem er_snoc {l:List Evt} {e:Evt} (h:erL l=0) (hs:stepE (rgL l) l.length e=0):erL (l++[e])=0∧rgL (l++[e])=aftE (rgL l) e:=by
 have h1:=replG_app l rg0 0 [e]
 have h0:(replG rg0 0 l).2.2=0:=h
 rw [if_neg (fun hn=>hn h0),Nat.zero_add] at h1
 have h2:replG (replG rg0 0 l).1 l.length [e]=(aftE (rgL l) e,0,0):=by
  rw [replG_cons]
  rw [if_neg (fun hn=>hn hs)]
  rfl
 rw [h2] at h1
 exact⟨by unfold erL;rw [h1],by unfold rgL;rw [h1]⟩
end Go.Proofs.YtcbddkeiohdocaaGreatDoor.Co
/-
 Rulings, plain: a ruling and what rests on it.
-/
namespace Go.Proofs.YtcbddkeiohdocaaGreatDoor.Co
open Go Go.Evl
structure RulI (r0 r:Rgs) (own:List (List UInt8)):Prop where
 ex:∃xs:List Ent,r.es=r0.es++xs∧xs.map Ent.nm=own∧∀i,(hi:i<xs.length)→xs[i].kn=r0.kn∧xs[i].sr=sS∧xs[i].fr=0∧xs[i].to=9∧xs[i].mi=(if i=0 then 600 else 601)∧(i=0→xs[i].bs=[]∧xs[i].kd=kRule)∧(0<i→∃j,∃hj:j<i,xs[i].bs=(xs[j]'(by omega)).nm)
 rs:r.rs=r0.rs
 kn:r.kn=r0.kn
 no:own.Nodup
 fr:∀nm∈own,entI r0.es nm= -1
 hd:own.head? =some sTop
theorem RulI.rgx {r0 r:Rgs} {own:List (List UInt8)} (h:RulI r0 r own):RgX r0 r:=by
 obtain⟨xs,h1,_⟩:=h.ex
 exact⟨⟨xs,h1⟩,h.rs⟩
theorem RulI.len {r0 r:Rgs} {own:List (List UInt8)} (h:RulI r0 r own):r.es.length=r0.es.length+own.length:=by
 obtain⟨xs,h1,h2,_⟩:=h.ex
 rw [h1,List.length_append,←h2,List.length_map]
theorem RulI.at {r0 r:Rgs} {own:List (List UInt8)} (h:RulI r0 r own) {i:Nat} (hi:i<own.length):entI r.es own[i]=(r0.es.length+i:Nat)∧(r.es[r0.es.length+i]'(by rw [h.len];omega)).nm=own[i]:=by
 obtain⟨xs,h1,h2,_⟩:=h.ex
 have hx:xs.length=own.length:=by rw [←h2,List.length_map]
 have hn:∀j,(hj:j<own.length)→(xs[j]'(by omega)).nm=own[j]:=fun j hj=>by simp only [←h2,List.getElem_map]
 have hfr:=h.fr _ (List.getElem_mem hi)
 have hno:∀j,(hj:j<r0.es.length)→r0.es[j].nm≠own[i]:=by
  rcases entI_cases r0.es own[i] with⟨_,h3⟩|⟨j,hj,e,_⟩
  ·exact h3
  ·omega
 have he:(r.es[r0.es.length+i]'(by rw [h.len];omega)).nm=own[i]:=by
  simp only [h1]
  rw [List.getElem_append_right (by omega)]
  simp only [Nat.add_sub_cancel_left]
  exact hn i hi
 refine⟨idxI_at (p:=fun x:Ent=>decide (x.nm=own[i])) (by rw [h.len];omega) (decide_eq_true he) fun j hj=>decide_eq_false ?_,he⟩
 by_cases hl:j<r0.es.length
 ·simp only [h1]
  rw [List.getElem_append_left hl]
  exact hno j hl
 ·simp only [h1]
  rw [List.getElem_append_right (by omega)]
  rw [hn (j-r0.es.length) (by omega)]
  intro e
  have:=(List.getElem_inj h.no).1 e
  omega
theorem RulI.new {r0 r:Rgs} (hr:RmE r0) (ho:OkR r) {own:List (List UInt8)} (h:RulI r0 r own):∀(i:Nat) (hi:i<own.length),
  cntE r (r.es[r0.es.length+i]'(by rw [h.len];omega)) r0.kn=true∧topE r (r.es[r0.es.length+i]'(by rw [h.len];omega)) sTop=true∧rstE r (r.es[r0.es.length+i]'(by rw [h.len];omega)) sTop=decide (i≠0):=by
 obtain⟨xs,h1,h2,h3⟩:=h.ex
 have hx:xs.length=own.length:=by rw [←h2,List.length_map]
 have hg:∀i,(hi:i<own.length)→r.es[r0.es.length+i]'(by rw [h.len];omega)=xs[i]'(by omega):=fun i hi=>by
  simp only [h1]
  rw [List.getElem_append_right (by omega)]
  simp only [Nat.add_sub_cancel_left]
 intro i
 induction i using Nat.strongRecOn with
 | _ i ih=>
  intro hi
  obtain⟨a1,a2,a3,a4,a5,a6,a7⟩:=h3 i (by omega)
  have hk:r0.es.length+i<r.es.length:=by rw [h.len];omega
  have hnm:=(h.at hi).2
  have hrm:remB r.rs (r.es[r0.es.length+i]'hk).nm r0.kn=false:=by
   rw [h.rs,hnm]
   exact rem_fresh hr (h.fr _ (List.getElem_mem hi)) _
  have hkn:decide ((r.es[r0.es.length+i]'hk).kn≤r0.kn)=true:=by rw [hg i hi,a1];simp
  by_cases h0:i=0
  ·subst h0
   have hb:=(a6 rfl).1
   rw [←hg 0 hi] at hb
   have htop:(r.es[r0.es.length+0]'hk).nm=sTop:=by
    rw [hnm]
    have:=h.hd
    rw [List.head?_eq_getElem?,List.getElem?_eq_getElem hi] at this
    exact Option.some.inj this
   refine⟨?_,?_,?_⟩
   ·rw [cnt_stop ho hk hb,hrm,hkn];rfl
   ·rw [top_stop ho hk hb];exact decide_eq_true htop
   ·rw [rsx_stop ho hk hb];rfl
  ·obtain⟨j,hj,hb⟩:=a7 (by omega)
   have hjl:j<own.length:=by omega
   have hb':entI r.es (r.es[r0.es.length+i]'hk).bs=(r0.es.length+j:Nat):=by
    rw [hg i hi,hb]
    have h4:(xs[j]'(by omega)).nm=own[j]:=by simp only [←h2,List.getElem_map]
    rw [h4]
    exact(h.at hjl).1
   obtain⟨b1,b2,_⟩:=ih j hj hjl
   refine⟨?_,?_,?_⟩
   ·rw [cnt_step ho hk (by omega) hb',hrm,hkn,b1];rfl
   ·rw [top_step ho hk (by omega) hb',b2,Bool.or_true]
   ·rw [rsx_step ho hk (by omega) hb',b2];exact(decide_eq_true h0).symm
theorem filter_split {α:Type} (p:α→Bool) (l m:List α) (q:α→Bool) (h1:∀k,(hk:k<l.length)→p l[k]=q l[k]):(l++m).filter p=l.filter q++m.filter p:=by
 rw [List.filter_append]
 congr 1
 refine List.filter_congr fun x hx=> ?_
 obtain⟨k,hk,rfl⟩:=List.mem_iff_getElem.1 hx
 exact h1 k hk
theorem filter_map_tail {f:Ent→Bool}:∀(xs:List Ent),(∀i,(hi:i<xs.length)→f xs[i]=decide (i≠0))→(xs.filter f).map Ent.nm=(xs.map Ent.nm).tail
 | [],_=>rfl
 | x::xs,hf=>by
  have h0:f x=false:=(hf 0 (Nat.zero_lt_succ _)).trans (by decide)
  rw [List.filter_cons,h0,if_neg (by decide),List.map_cons,List.tail_cons,List.filter_eq_self.2]
  intro y hy
  obtain⟨i,hi,rfl⟩:=List.mem_iff_getElem.1 hy
  have:=hf (i+1) (by simp;omega)
  simpa using this
section
variable {r0 r : Rgs} {own : List (List UInt8)} (hr : RmE r0) (ho0 : OkR r0) (ho : OkR r) (h : RulI r0 r own)
include hr ho0 ho h
theorem rul_cnt:cntL r r0.kn=cntL r0 r0.kn++own:=by
 have hc:=cnt_ext ho0 ho h.rgx r0.kn
 have hn:=h.new hr ho
 have hl:=h.len
 obtain⟨xs,h1,h2,h3⟩:=h.ex
 have hx:xs.length=own.length:=by rw [←h2,List.length_map]
 unfold cntL
 rw [h1,filter_split (fun x=>cntE r x r0.kn) r0.es xs (fun x=>cntE r0 x r0.kn) hc,List.map_append]
 congr 1
 rw [List.filter_eq_self.2 fun x hx'=> ?_,h2]
 obtain⟨i,hi,rfl⟩:=List.mem_iff_getElem.1 hx'
 have h4:=(hn i (by omega)).1
 have hg:r.es[r0.es.length+i]'(by omega)=xs[i]:=by
  simp only [h1]
  rw [List.getElem_append_right (by omega)]
  simp only [Nat.add_sub_cancel_left]
 rw [hg] at h4
 exact h4
theorem rul_rst:rstL r sTop=own.tail:=by
 have hn:=h.new hr ho
 have hl:=h.len
 have hto:entI r0.es sTop= -1:=by
  have:=h.hd
  cases own with
  | nil=>cases this
  | cons a o=>rw [List.head?_cons] at this;obtain rfl:=Option.some.inj this;exact h.fr _ (by simp)
 have hc:=top_old ho0 ho h.rgx hto
 obtain⟨xs,h1,h2,h3⟩:=h.ex
 have hx:xs.length=own.length:=by rw [←h2,List.length_map]
 unfold rstL
 rw [h1,filter_split (fun x=>rstE r x sTop) r0.es xs (fun _=>false) fun k hk=>(hc k hk).2,List.filter_eq_nil_iff.2 (by simp),List.nil_append]
 rw [filter_map_tail xs (fun i hi=> ?_),h2]
 have h4:=(hn i (by omega)).2.2
 have hg:r.es[r0.es.length+i]'(by omega)=xs[i]:=by
  simp only [h1]
  rw [List.getElem_append_right (by omega)]
  simp only [Nat.add_sub_cancel_left]
 rw [hg] at h4
 exact h4
theorem rul_off:cntL (rmG r sTop r0.kn) r0.kn=cntL r0 r0.kn:=by
 have hc:=cnt_ext ho0 ho h.rgx r0.kn
 have hn:=h.new hr ho
 have hl:=h.len
 have hto:entI r0.es sTop= -1:=by
  have:=h.hd
  cases own with
  | nil=>cases this
  | cons a o=>rw [List.head?_cons] at this;obtain rfl:=Option.some.inj this;exact h.fr _ (by simp)
 have ht:=top_old ho0 ho h.rgx hto
 obtain⟨xs,h1,h2,h3⟩:=h.ex
 have hx:xs.length=own.length:=by rw [←h2,List.length_map]
 have he:(rmG r sTop r0.kn).es=r0.es++xs:=h1
 unfold cntL
 rw [he,filter_split (fun x=>cntE (rmG r sTop r0.kn) x r0.kn) r0.es xs (fun x=>cntE r0 x r0.kn) fun k hk=>by
  rw [cnt_rm r _ _ (Int.le_refl _),hc k hk,(ht k hk).1]
  simp]
 have hz:xs.filter (fun x=>cntE (rmG r sTop r0.kn) x r0.kn)=[]:=List.filter_eq_nil_iff.2 fun x hx'=> ?_
 ·rw [hz,List.append_nil]
 obtain⟨i,hi,rfl⟩:=List.mem_iff_getElem.1 hx'
 have h4:=(hn i (by omega)).2.1
 have hg:r.es[r0.es.length+i]'(by omega)=xs[i]:=by
  simp only [h1]
  rw [List.getElem_append_right (by omega)]
  simp only [Nat.add_sub_cancel_left]
 rw [hg] at h4
 rw [cnt_rm r _ _ (Int.le_refl _),h4]
 simp
omit ho0 in
theorem rul_min:minE r sS r0.kn 5=if own.length=1 then 600 else 601:=by
 have hn:=h.new hr ho
 have hl:=h.len
 obtain⟨xs,h1,h2,h3⟩:=h.ex
 have hx:xs.length=own.length:=by rw [←h2,List.length_map]
 have hpos:0<own.length:=by
  have:=h.hd
  cases own with
  | nil=>cases this
  | cons a o=>simp
 have hi:own.length-1<own.length:=by omega
 obtain⟨a1,a2,a3,a4,a5,_⟩:=h3 (own.length-1) (by omega)
 have h4:=(hn (own.length-1) hi).1
 have hg:r.es[r0.es.length+(own.length-1)]'(by omega)=xs[own.length-1]'(by omega):=by
  simp only [h1]
  rw [List.getElem_append_right (by omega)]
  simp only [Nat.add_sub_cancel_left]
 rw [minE_hit (k:=r0.es.length+(own.length-1)) (by omega) (by
  unfold hitE
  rw [h4,hg,a2,a3,a4]
  decide) fun j hj hjk=>absurd hjk (by omega)]
 rw [hg,a5]
 by_cases e:own.length=1
 ·rw [if_pos (by omega),if_pos e]
 ·rw [if_neg (by omega),if_neg e]
omit ho0 in
theorem rul_over {nm:List UInt8} (hnm:nm∈own):overE (rmG r sTop r0.kn) nm r0.kn=20:=by
 obtain⟨i,hi,rfl⟩:=List.mem_iff_getElem.1 hnm
 have h4:=(h.new hr ho i hi).2.1
 have hl:=h.len
 have ha:=(h.at hi).1
 have hk:r0.es.length+i<(rmG r sTop r0.kn).es.length:=by show _<r.es.length;omega
 rw [over_some hk ha,cnt_rm r _ _ (Int.le_refl _)]
 have h5:topE r ((rmG r sTop r0.kn).es[r0.es.length+i]'hk) sTop=true:=h4
 rw [h5]
 simp
end
end Go.Proofs.YtcbddkeiohdocaaGreatDoor.Co
/-
 Rulings, plain: the events that are added are accepted, and two are refused.
-/
namespace Go.Proofs.YtcbddkeiohdocaaGreatDoor.Co
open Go Go.Evl
theorem step_zero {r:Rgs} {n:Nat} {e:Evt} (hc:chkE e=0) (ha:accE r n e=0):stepE r n e=0:=by
 unfold stepE
 rw [if_neg (fun h=>h hc)]
 exact ha
theorem accF_zero {r:Rgs} {n:Nat} {e:Evt} (hn:e.nu=n+1) (hk:r.kn≤vlN e 0) (hk2:vlN e 0≤99999):accF r n e=0:=by
 unfold accF
 rw [if_pos hn,if_neg (by omega),if_neg (by omega)]
 rfl
theorem accE_ask {r:Rgs} {n:Nat} {e:Evt} (h:accF r n e=0):accE r n e=askE r e:=by
 unfold accE
 rw [if_neg (fun hn=>hn h)]
theorem ask_ent {r:Rgs} {e:Evt} (h:isEnt e.ki=true):askE r e=askEnt r (decide (e.ki=kFollow)) (nmN e 0) (nmN e 2) (vlN e 0) (vlN e 1) (vlN e 2) (vlN e 3):=by
 unfold askE
 rw [if_pos h]
theorem ask_zero {r:Rgs} {fol:Bool} {nm b:List UInt8} {kn f t m:Int} (h1:entI r.es nm= -1) (h2:r.es.length<256) (h3:fol=true→overE r b kn=0) (h4:f≤99999) (h5:t≤99999) (h6:m≤1440) (h7:f≤t):askEnt r fol nm b kn f t m=0:=by
 have hn:newF r nm=0:=by
  unfold newF
  rw [h1,if_neg (by omega),if_neg (by omega)]
  rfl
 unfold askEnt
 rw [if_neg (fun h=>h hn),if_neg (fun h=>h.2 (h3 h.1)),if_neg (by omega),if_neg (by omega)]
 rfl
theorem ask_base {r:Rgs} {nm b:List UInt8} {kn f t m:Int} (h1:entI r.es nm= -1) (h2:r.es.length<256) {v:Int} (h3:overE r b kn=v) (hv:v≠0):askEnt r true nm b kn f t m=v:=by
 have hn:newF r nm=0:=by
  unfold newF
  rw [h1,if_neg (by omega),if_neg (by omega)]
  rfl
 unfold askEnt
 rw [if_neg (fun h=>h hn),h3,if_pos ⟨rfl,hv⟩]
theorem chk_zero {e:Evt} (h1:1≤e.nu∧e.nu≤1000) (h2:isKind e.ki=true) (h3:e.ns.length=formN e.ki∧e.vs.length=formV e.ki) (h4:∀s∈e.ns,isNameB s=true) (h5:∀v∈e.vs,0≤v∧v≤999999999) (h6:e.tx=[]):chkE e=0:=by
 have hn:nameless e.ns=false:=by
  unfold nameless
  rw [List.any_eq_false]
  intro s hs
  rw [h4 s hs]
  decide
 have hf:far e.vs=false:=by
  unfold far
  rw [List.any_eq_false]
  intro v hv
  have:=h5 v hv
  unfold farV
  rw [decide_eq_true_eq]
  omega
 have hr:rng e.nu 1 1000=0:=if_neg (by omega)
 have hs:¬(e.ns.length≠formN e.ki∨e.vs.length≠formV e.ki):=fun h=>h.elim (fun h=>h h3.1) (fun h=>h h3.2)
 have hx:¬(e.tx≠[]):=fun h=>h h6
 unfold chkE
 rw [hr,h2,hn,hf,if_neg hs,if_neg hx]
 rfl
def evR (n:Nat) (day:Int):Evt:=⟨n+1,kRule,[sTop,sS],[day,0,9,600],[]⟩
def evF (n:Nat) (day:Int) (nm b:List UInt8) (mi:Int):Evt:=⟨n+1,kFollow,[nm,sS,b],[day,0,9,mi],[]⟩
def evV (n:Nat) (day:Int):Evt:=⟨n+1,kReverse,[sTop],[day],[]⟩
section
variable {n : Nat} {day : Int} (hn : n ≤ 999) (hd : 0 ≤ day ∧ day ≤ 99999)
include hn hd
theorem chk_R:chkE (evR n day)=0:=by
 refine chk_zero ⟨?_,?_⟩ (show isKind kRule=true by decide) ⟨rfl,rfl⟩ (fun s hs=> ?_) (fun v hv=> ?_) rfl
 ·show (1:Int)≤n+1;omega
 ·show (n:Int)+1≤1000;omega
 ·have:s=sTop∨s=sS:=by simpa [evR] using hs
  rcases this with rfl|rfl<;>decide
 ·have:v=day∨v=0∨v=9∨v=600:=by simpa [evR] using hv
  omega
theorem chk_F {nm b:List UInt8} {mi:Int} (h1:isNameB nm=true) (h2:isNameB b=true) (hm:0≤mi∧mi≤1440):chkE (evF n day nm b mi)=0:=by
 refine chk_zero ⟨?_,?_⟩ (show isKind kFollow=true by decide) ⟨rfl,rfl⟩ (fun s hs=> ?_) (fun v hv=> ?_) rfl
 ·show (1:Int)≤n+1;omega
 ·show (n:Int)+1≤1000;omega
 ·have:s=nm∨s=sS∨s=b:=by simpa [evF] using hs
  rcases this with rfl|rfl|rfl
  ·exact h1
  ·decide
  ·exact h2
 ·have:v=day∨v=0∨v=9∨v=mi:=by simpa [evF] using hv
  omega
theorem chk_V:chkE (evV n day)=0:=by
 refine chk_zero ⟨?_,?_⟩ (show isKind kReverse=true by decide) ⟨rfl,rfl⟩ (fun s hs=> ?_) (fun v hv=> ?_) rfl
 ·show (1:Int)≤n+1;omega
 ·show (n:Int)+1≤1000;omega
 ·have:s=sTop:=by simpa [evV] using hs
  subst this;decide
 ·have:v=day:=by simpa [evV] using hv
  omega
end
theorem acc_F (r:Rgs) (n:Nat) (nm b:List UInt8) (mi:Int) {day:Int} (hk:r.kn≤day) (hd:day≤99999):accE r n (evF n day nm b mi)=askEnt r true nm b day 0 9 mi:=by
 rw [accE_ask (e:=evF n day nm b mi) (accF_zero rfl hk hd),ask_ent (show isEnt kFollow=true by decide)]
 rfl
theorem acc_R (r:Rgs) (n:Nat) {day:Int} (hk:r.kn≤day) (hd:day≤99999):accE r n (evR n day)=askEnt r false sTop [] day 0 9 600:=by
 rw [accE_ask (e:=evR n day) (accF_zero rfl hk hd),ask_ent (show isEnt kRule=true by decide)]
 rfl
theorem acc_V (r:Rgs) (n:Nat) {day:Int} (hk:r.kn≤day) (hd:day≤99999):accE r n (evV n day)=askRev r sTop day:=by
 rw [accE_ask (e:=evV n day) (accF_zero rfl hk hd)]
 unfold askE
 rw [if_neg (show ¬isEnt (evV n day).ki=true from (by decide:¬isEnt kReverse=true))]
 refine(if_pos rfl).trans ?_
 rfl
theorem aft_R (r:Rgs) (n:Nat) (day:Int):aftE r (evR n day)={r with kn:=day,es:=r.es++[⟨sTop,kRule,sS,[],day,0,9,600⟩]}:=by
 unfold aftE
 rw [if_pos (show isEnt (evR n day).ki=true from (by decide:isEnt kRule=true))]
 rfl
theorem aft_F (r:Rgs) (n:Nat) (day:Int) (nm b:List UInt8) (mi:Int):aftE r (evF n day nm b mi)={r with kn:=day,es:=r.es++[⟨nm,kFollow,sS,b,day,0,9,mi⟩]}:=by
 unfold aftE
 rw [if_pos (show isEnt (evF n day nm b mi).ki=true from (by decide:isEnt kFollow=true))]
 rfl
theorem aft_V (r:Rgs) (n:Nat):aftE r (evV n r.kn)=rmG r sTop r.kn:=by
 unfold aftE
 rw [if_neg (show ¬isEnt (evV n r.kn).ki=true from (by decide:¬isEnt kReverse=true))]
 refine(if_pos rfl).trans ?_
 rfl
theorem rul_start {r0:Rgs} (h:entI r0.es sTop= -1) (n:Nat):RulI r0 (aftE r0 (evR n r0.kn)) [sTop]:=by
 rw [aft_R]
 refine⟨⟨[⟨sTop,kRule,sS,[],r0.kn,0,9,600⟩],rfl,rfl,fun i hi=> ?_⟩,rfl,rfl,by simp,fun nm hm=>by rw [List.mem_singleton] at hm;subst hm;exact h,rfl⟩
 obtain rfl:i=0:=by simpa using hi
 exact⟨rfl,rfl,rfl,rfl,rfl,fun _=>⟨rfl,rfl⟩,fun h=>absurd h (by decide)⟩
theorem rul_more {r0 r:Rgs} {own:List (List UInt8)} (h:RulI r0 r own) {nm:List UInt8} (h1:entI r0.es nm= -1) (h2:nm∉own) {j:Nat} (hj:j<own.length) (n:Nat):RulI r0 (aftE r (evF n r0.kn nm own[j] 601)) (own++[nm]):=by
 obtain⟨⟨xs,e1,e2,e3⟩,e4,e5,e6,e7,e8⟩:=h
 have hx:xs.length=own.length:=by rw [←e2,List.length_map]
 rw [aft_F]
 refine⟨⟨xs++[⟨nm,kFollow,sS,own[j],r0.kn,0,9,601⟩],?_,?_,fun i hi=> ?_⟩,e4,rfl,?_,fun s hs=> ?_,?_⟩
 ·dsimp only
  rw [e1,List.append_assoc]
 ·rw [List.map_append,e2];rfl
 ·rw [List.length_append,List.length_singleton] at hi
  by_cases hl:i<xs.length
  ·simp only [List.getElem_append_left hl]
   obtain⟨a1,a2,a3,a4,a5,a6,a7⟩:=e3 i hl
   refine⟨a1,a2,a3,a4,a5,a6,fun h0=> ?_⟩
   obtain⟨k,hk,hb⟩:=a7 h0
   exact⟨k,hk,by rw [hb,List.getElem_append_left (by omega)]⟩
  ·obtain rfl:i=xs.length:=by omega
   simp only [List.getElem_concat_length]
   refine⟨by trivial,by trivial,by trivial,by trivial,?_,fun h0=> ?_,fun _=>⟨j,by omega,?_⟩⟩
   ·rw [if_neg (by omega)]
   ·omega
   ·rw [List.getElem_append_left (by omega)]
    simp only [←e2,List.getElem_map]
 ·rw [List.nodup_append]
  refine⟨e6,by simp,fun a ha b hb=> ?_⟩
  rw [List.mem_singleton] at hb
  subst hb
  exact fun e=>h2 (e▸ha)
 ·rcases List.mem_append.1 hs with hs|hs
  ·exact e7 s hs
  ·rw [List.mem_singleton] at hs;subst hs;exact h1
 ·cases own with
  | nil=>cases e8
  | cons a o=>exact e8
theorem rul_fresh {r0 r:Rgs} {own:List (List UInt8)} (h:RulI r0 r own) {nm:List UInt8} (h1:entI r0.es nm= -1) (h2:nm∉own):entI r.es nm= -1:=by
 obtain⟨xs,e1,e2,_⟩:=h.ex
 have hno:∀j,(hj:j<r0.es.length)→r0.es[j].nm≠nm:=by
  rcases entI_cases r0.es nm with⟨_,h3⟩|⟨j,hj,e,_⟩
  ·exact h3
  ·omega
 refine idxI_none (p:=fun x:Ent=>decide (x.nm=nm)) fun i hi=>decide_eq_false ?_
 by_cases hl:i<r0.es.length
 ·simp only [e1,List.getElem_append_left hl]
  exact hno i hl
 ·simp only [e1] at hi ⊢
  rw [List.length_append] at hi
  rw [List.getElem_append_right (by omega)]
  intro e
  refine h2 ?_
  rw [←e2,←e]
  exact List.mem_map.2 ⟨_,List.getElem_mem _,rfl⟩
theorem rul_base {r0 r:Rgs} (hr:RmE r0) (ho:OkR r) {own:List (List UInt8)} (h:RulI r0 r own) {j:Nat} (hj:j<own.length):overE r own[j] r0.kn=0:=by
 rw [over_some (k:=r0.es.length+j) (by rw [h.len];omega) (h.at hj).1,(h.new hr ho j hj).1]
 rfl
theorem rul_kind {r0 r:Rgs} {own:List (List UInt8)} (h:RulI r0 r own) (hp:0<own.length):entI r.es sTop=(r0.es.length:Nat)∧(r.es.getD r0.es.length ent0).kd=kRule:=by
 have ha:=(h.at hp).1
 have h0:own[0]=sTop:=by
  have:=h.hd
  rw [List.head?_eq_getElem?,List.getElem?_eq_getElem hp] at this
  exact Option.some.inj this
 rw [h0] at ha
 obtain⟨xs,e1,e2,e3⟩:=h.ex
 have hx:xs.length=own.length:=by rw [←e2,List.length_map]
 refine⟨ha,?_⟩
 have hk:=((e3 0 (by omega)).2.2.2.2.2.1 rfl).2
 rw [e1]
 have:(r0.es++xs).getD r0.es.length ent0=xs[0]'(by omega):=by
  rw [List.getD_eq_getElem?_getD,List.getElem?_append_right (Nat.le_refl _),Nat.sub_self,List.getElem?_eq_getElem (by omega)]
  rfl
 rw [this,hk]
end Go.Proofs.YtcbddkeiohdocaaGreatDoor.Co
