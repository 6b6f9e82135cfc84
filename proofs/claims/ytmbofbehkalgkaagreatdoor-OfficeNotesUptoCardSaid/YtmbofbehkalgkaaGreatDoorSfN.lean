
/-
 The function that compares notes, by an oracle zbs functions that are given whole; the order that it makes.
-/
import Derived.Sort.Statements
import Derived.Test.YtmbofbehkalgkaaGreatDoorSpBase
import Derived.Test.YtmbofbehkalgkaaGreatDoorEvN
import Derived.Test.YtmbofbehkalgkaaGreatDoorEvY
namespace Go.Proofs.YtmbofbehkalgkaaGreatDoor.Co
open Go Go.Evl
structure ygp (E:Oracle):Prop where
 lim:Lim code (fun _=>none) E
theorem ygp.fn {E:Oracle} (g:ygp E) {f:Nat} {args:List V} {r:V} {cf:CF} (hc:code f=some cf) (hX:(fun _=>none:Extern) f=none) (h:yc6 E 0 cf args [] fun v m'=>yga m' v fun d=>Ret d r):Fc E f args r:=Fc.enter g.lim hX hc h
theorem z3v:∃E,ygp E:=(exists_lim code fun _=>none).imp fun _ h=>⟨h⟩
section
variable {E : Oracle} (g : ygp E)
include g
theorem yay (a:List UInt8):Fc E ze7 [S a] (B false):=by
 refine g.fn rfl rfl ?_
 repeat' ((conv=>whnf);first
 | refine Yz ?_
  | (refine Cmp.tt rfl ?_)
  | (refine Ret.mk rfl))
theorem yax (a:Int):Fc E zhb [I a] (B false):=by
 refine g.fn rfl rfl ?_
 repeat' ((conv=>whnf);first
 | refine Yz ?_
  | (refine Cmp.tt rfl ?_)
  | (refine Ret.mk rfl))
theorem ymv (a b:List UInt8):Fc E zf4 [S a,S b] (I (ygi a b)):=by
 have h1:=yay g a
 have h2:=yay g b
 refine g.fn rfl rfl ?_
 unfold ygi
 by_cases h:a=b
 ·subst h
  have hu:=strLess_irr a
  have he:(a==a)=true:=beq_self_eq_true a
  rw [hu,if_neg (by decide),if_pos rfl]
  repeat' ((conv=>whnf);first
  | refine Yz ?_
   | (apply zaz.of;assumption)
   | (rw [hu])
   | (rw [he])
   | (refine Ret.mk rfl))
 ·have he:(a==b)=false:=beq_eq_false_iff_ne.2 h
  rw [if_neg h]
  cases hu:zag a b
  ·rw [if_neg (by decide)]
   repeat' ((conv=>whnf);first
   | refine Yz ?_
    | (apply zaz.of;assumption)
    | (rw [hu])
    | (rw [he])
    | (refine Ret.mk rfl))
  ·rw [if_pos rfl]
   repeat' ((conv=>whnf);first
   | refine Yz ?_
    | (apply zaz.of;assumption)
    | (rw [hu])
    | (refine Ret.mk rfl))
theorem yi9 (a b:Int):Fc E zfw [I a,I b] (I (ycp a b)):=by
 have h1:=yax g a
 have h2:=yax g b
 refine g.fn rfl rfl ?_
 unfold ycp
 rcases Int.lt_trichotomy a b with h|h|h
 ·rw [if_pos h]
  repeat' ((conv=>whnf);first
  | refine Yz ?_
   | (apply zaz.of;assumption)
   | (refine Ret.mk rfl))
 ·rw [if_neg (by omega),if_neg (by omega)]
  repeat' ((conv=>whnf);first
  | refine Yz ?_
   | (apply zaz.of;assumption)
   | (refine Ret.mk rfl))
 ·rw [if_neg (by omega),if_pos h]
  repeat' ((conv=>whnf);first
  | refine Yz ?_
   | (apply zaz.of;assumption)
   | (refine Ret.mk rfl))
theorem ynx (a b c:Int):Fc E zny [.d (.list 3 [DI a,DI b,DI c])] (I (if a≠0 then a else if b≠0 then b else c)):=by
 refine g.fn rfl rfl ?_
 by_cases h1:a=0
 ·rw [if_neg (fun h=>h h1)]
  by_cases h2:b=0
  ·rw [if_neg (fun h=>h h2)]
   by_cases h3:c=0
   ·subst h3
    repeat' ((conv=>whnf);first
    | refine Yz ?_
     | (refine Cmp.ff (fun h=>h h1) ?_)
     | (refine Cmp.ff (fun h=>h h2) ?_)
     | (refine zao.step g.lim ?_)
     | (refine Ret.mk rfl)
     | fail)
   ·repeat' ((conv=>whnf);first
   | refine Yz ?_
     | (refine Cmp.ff (fun h=>h h1) ?_)
     | (refine Cmp.ff (fun h=>h h2) ?_)
     | (refine Cmp.tt h3 ?_)
     | (refine zao.step g.lim ?_)
     | (refine Ret.mk rfl)
     | fail)
  ·rw [if_pos h2]
   repeat' ((conv=>whnf);first
   | refine Yz ?_
    | (refine Cmp.ff (fun h=>h h1) ?_)
    | (refine Cmp.tt h2 ?_)
    | (refine zao.step g.lim ?_)
    | (refine Ret.mk rfl)
    | fail)
 ·rw [if_pos h1]
  repeat' ((conv=>whnf);first
  | refine Yz ?_
   | (refine Cmp.tt h1 ?_)
   | (refine zao.step g.lim ?_)
   | (refine Ret.mk rfl)
   | fail)
theorem ymu (a b:Nte):Fc E n_office_Gather_1 [.d (.agg a.cells),.d (.agg b.cells)] (I (cfN a b)):=by
 have h1:=yi9 g a.da b.da
 have h2:=ymv g a.dk b.dk
 have h3:=yi9 g a.nu b.nu
 have h4:=ynx g (ycp a.da b.da) (ygi a.dk b.dk) (ycp a.nu b.nu)
 refine g.fn rfl rfl ?_
 unfold cfN
 repeat' ((conv=>whnf);first
 | refine Yz ?_
  | (apply zaz.of;assumption)
  | (refine Ret.mk rfl)
  | fail)
end
theorem clos_N (x y:Nte):∃n v m',iter code (fun _=>none) n (.call 0 n_office_Gather_1 [.d (.agg x.cells),.d (.agg y.cells)] [])=some (.val v m')/\Go.Evl.freeze true m' v=some (.int .i64 (cfN x y)):=by
 obtain⟨E,g⟩:=z3v
 obtain⟨v,m',h1,h2⟩:=ymu g x y
 obtain⟨n,hn⟩:=g.lim.reach _ _ h1
 refine⟨n,v,m',hn,?_⟩
 unfold Go.Evl.thaw at h2
 split at h2
 ·simp only [Option.map_eq_some_iff] at h2
  obtain⟨_,_,h⟩:=h2
  cases h
 ·simp only [Option.map_eq_some_iff] at h2
  obtain⟨d,h3,h4⟩:=h2
  cases h4
  exact h3
theorem yja {a b:UInt8} {x y:List UInt8}:zag (a::x) (b::y)=true↔a<b\/(a=b/\zag x y=true):=by
 simp [zag]
theorem ymw:∀ {a b:List UInt8},a≠b->zag a b=false->zag b a=true
 | [],[],h,_=>absurd rfl h
 | [],_::_,_,h=>by simp [zag] at h
 | _::_,[],_,_=>rfl
 | x::a,y::b,h,h2=>by
  rw [yja]
  have hn:¬(x<y\/(x=y/\zag a b=true)):=fun hc=>by rw [yja.2 hc] at h2;cases h2
  by_cases e:x=y
  ·subst e
   refine .inr ⟨rfl,ymw (fun hc=>h (by rw [hc])) ?_⟩
   cases hc:zag a b with
   | false=>rfl
   | true=>exact absurd (.inr ⟨rfl,hc⟩) hn
  ·left
   have h3:¬x<y:=fun hc=>hn (.inl hc)
   rcases UInt8.lt_or_lt_of_ne e with h4|h4
   ·exact absurd h4 h3
   ·exact h4
theorem yo2 {a b c:List UInt8} (h1:zag a b=true) (h2:zag b c=true):zag a c=true:=by
 cases h:zag a c with
 | true=>rfl
 | false=>
  have:=Go.Evl.strLess_trans c a b h (Go.Evl.strLess_asymm a b h1)
  rw [h2] at this
  cases this
theorem ydd (a b:Int):ycp a b<0↔a<b:=by
 unfold ycp
 repeat' split
 all_goals omega
theorem z3i (a b:Int):ycp a b=0↔a=b:=by
 unfold ycp
 repeat' split
 all_goals omega
theorem yjr (a b:List UInt8):ygi a b<0↔zag a b=true:=by
 unfold ygi
 split
 ·simp [*]
 ·split<;>simp [*,Go.Evl.strLess_irr]
theorem z3h (a b:List UInt8):ygi a b=0↔a=b:=by
 unfold ygi
 split
 ·rename_i h
  constructor
  ·intro h;exact absurd h (by decide)
  ·intro e
   rw [e,Go.Evl.strLess_irr] at h
   cases h
 ·split<;>simp [*]
theorem z6m (a b:Nte):decide (cfN a b<0)=true↔a.da<b.da\/(a.da=b.da/\(zag a.dk b.dk=true\/(a.dk=b.dk/\a.nu<b.nu))):=by
 unfold cfN
 rw [decide_eq_true_eq]
 by_cases h1:ycp a.da b.da=0
 ·rw [if_neg (fun h=>h h1)]
  have e1:=(z3i _ _).1 h1
  by_cases h2:ygi a.dk b.dk=0
  ·rw [if_neg (fun h=>h h2),ydd]
   have e2:=(z3h _ _).1 h2
   rw [e2,Go.Evl.strLess_irr]
   simp [e1]
  ·rw [if_pos h2,yjr]
   have e2:a.dk≠b.dk:=fun h=>h2 ((z3h _ _).2 h)
   simp [e1,e2]
 ·rw [if_pos h1,ydd]
  have e1:a.da≠b.da:=fun h=>h1 ((z3i _ _).2 h)
  simp [e1]
theorem swo_N:Go.Sort.SWO (fun a b:Nte=>decide (cfN a b<0)):=by
 refine⟨fun x=> ?_,fun x y z h1 h2=> ?_,fun x y z h1 h2=> ?_⟩
 ·refine Bool.eq_false_iff.2 fun h=> ?_
  rw [z6m,Go.Evl.strLess_irr] at h
  simp at h
 ·rw [z6m] at h1 h2 ⊢
  rcases h1 with h1|⟨e1,h1⟩
  ·rcases h2 with h2|⟨e2,_⟩
   ·exact .inl (by omega)
   ·exact .inl (by omega)
  ·rcases h2 with h2|⟨e2,h2⟩
   ·exact .inl (by omega)
   ·refine .inr ⟨by omega,?_⟩
    rcases h1 with h1|⟨d1,h1⟩
    ·rcases h2 with h2|⟨d2,_⟩
     ·exact .inl (yo2 h1 h2)
     ·exact .inl (by rw [<-d2];exact h1)
    ·rcases h2 with h2|⟨d2,h2⟩
     ·exact .inl (by rw [d1];exact h2)
     ·exact .inr ⟨by rw [d1,d2],by omega⟩
 ·have n1:¬decide (cfN x y<0)=true:=by simp [h1]
  have n2:¬decide (cfN y z<0)=true:=by simp [h2]
  refine Bool.eq_false_iff.2 fun h=> ?_
  rw [z6m] at n1 n2 h
  have f1:¬x.da<y.da:=fun c=>n1 (.inl c)
  have f2:¬y.da<z.da:=fun c=>n2 (.inl c)
  rcases h with h|⟨h0,h⟩
  ·omega
  ·have e1:x.da=y.da:=by omega
   have e2:y.da=z.da:=by omega
   have g1:zag x.dk y.dk=false:=by
    cases hh:zag x.dk y.dk with
    | false=>rfl
    | true=>exact absurd (.inr ⟨e1,.inl hh⟩) n1
   have g2:zag y.dk z.dk=false:=by
    cases hh:zag y.dk z.dk with
    | false=>rfl
    | true=>exact absurd (.inr ⟨e2,.inl hh⟩) n2
   rcases h with h|⟨h3,h4⟩
   ·have:=Go.Evl.strLess_trans z.dk y.dk x.dk g2 g1
    rw [h] at this;cases this
   ·by_cases e3:x.dk=y.dk
    ·have k1:¬x.nu<y.nu:=fun c=>n1 (.inr ⟨e1,.inr ⟨e3,c⟩⟩)
     have k2:¬y.nu<z.nu:=fun c=>n2 (.inr ⟨e2,.inr ⟨by rw [<-e3,h3],c⟩⟩)
     omega
    ·have:=ymw e3 g1
     rw [h3,g2] at this;cases this
end Go.Proofs.YtmbofbehkalgkaaGreatDoor.Co
