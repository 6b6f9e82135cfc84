
/-
 slices.Sort at texts, given whole.
-/
import Derived.Test.YtkflcbhclegghaaGreatDoorEvExt
import Derived.Test.YtkflcbhclegghaaGreatDoorEvY
import Derived.Shelf.Sort.Plain
import Derived.Shelf.Slices.In.SortNone
import Derived.Sort.OwnSorted
namespace Go.Evl
open Go.RowKit Go.Sort Go.Shelf Go.Proofs
section
variable{P:Program}{gl:Globs}
theorem z8t:∀a b:List UInt8,zal a b=true↔a<b
 |a,[]=>by simp[zal]
 |[],b::y=>by simp[zal]
 |a::x,b::y=>by
  unfold zal;rw[Bool.or_eq_true,Bool.and_eq_true,decide_eq_true_eq,beq_iff_eq,z8t x y,List.cons_lt_cons_iff]
theorem ytc(l:List (List UInt8)):l.mergeSort (λx y=>decide (x<=y))=zof l:=by
 refine List.Perm.eq_of_pairwise (le:=λx y:List UInt8=>decide (x<=y)) (λa b _ _ h1 h2=>?_) ?_ ?_ ((List.mergeSort_perm l _).trans (zjj l).symm)
 ·simp only[decide_eq_true_eq]at h1 h2;exact List.le_antisymm h1 h2
 ·exact List.pairwise_mergeSort (λa b c h1 h2=>by simp only[decide_eq_true_eq]at h1 h2⊢;exact List.le_trans h1 h2) (λa b=>by simp only[Bool.or_eq_true,decide_eq_true_eq];exact List.le_total a b) l
 refine(zm4 l).imp λ{a b}h=>?_
 rw[decide_eq_true_eq];intro hlt;rw[(z8t b a).2 hlt]at h;cases h
theorem yd7{w:World}{Im:Nat->Nat->Prop}:∀(xs:List D)(b:List (List UInt8))(ys:List Value),strsOf xs=some b->DRs w Im xs ys->ys=b.map encStr
 |[],b,ys,h,hd=>by
  simp only[strsOf,Option.some.injEq]at h;subst h;exact hd
 |d::r,b,ys,h,hd=>by
  obtain⟨y,zs,rfl,_,h2,h3⟩:=hd;unfold strsOf at h
  split at h
  ·rename_i e;cases e
  ·rename_i n r' e;obtain⟨rfl,rfl⟩:=(List.cons.injEq ..).mp e;simp only[Option.map_eq_some_iff]at h;obtain⟨b',h4,rfl⟩:=h;have h2:y=.string ⟨n.toArray⟩:=h2;rw[yd7 r b' zs h4 h3,h2]
   rfl
  cases h
theorem yj8(w:World)(Im:Nat->Nat->Prop):∀l:List (List UInt8),DRs w Im (l.map D.str) (l.map encStr)
 |[]=>rfl
 |_::r=>⟨_,_,rfl,rfl,rfl,yj8 w Im r⟩
theorem given_sortS [Clk]{ρ:Go.Shelf.Ren}(L:Lays.n190 P ρ){f:Nat}(hf:ρ.f 190=f)(he:Enters P f):GivenOk P gl f sortXS:=by
 refine⟨he,λargs m v m' h s hs hm xs hxs=>?_⟩;subst hf;subst hm;unfold sortXS at h
 split at h<;>try cases h
 ·obtain⟨x,ys,rfl,hx,hy⟩:=hxs;simp only[VRt]at hy;subst hy;obtain⟨a,rfl⟩:∃a,x=.slice a 0 0:=hx
  rw[callsIn_wide];refine(Any.slices_Sort_string_none L a 0 s.w).mono λe w' hh'=>?_
  obtain⟨rfl,rfl⟩:=hh';exact⟨s,_,rfl,rfl,hs,Ext.refl _ _,rfl,⟨#[],rfl,rfl⟩⟩
 rename_i o len top;obtain⟨x,ys,rfl,hx,hy⟩:=hxs;simp only[VRt]at hy;subst hy;obtain⟨hone,hp⟩:=hx;rw[callsIn_wide];split at h<;>try cases h
 rename_i t n ds hr
 split at h
 ·rename_i hc;obtain⟨rfl,rfl,rfl⟩:=hc;simp only[Option.some.injEq,Prod.mk.injEq]at h;obtain⟨rfl,rfl⟩:=h;rw[hr]at hp;obtain⟨hz,rs,hown,hd,him⟩:=hs.objs o _ hr
  have hx1:∃p cap,x=.slice p 0 cap:=by
   rcases hp.2 rfl with⟨_,_,e⟩|⟨hne,_⟩|⟨hne,_⟩
   ·rcases hown.2 with⟨e2,_⟩|⟨g,cap,cur,hg1,_⟩
    ·exact⟨_,_,e.trans e2⟩
    exact⟨_,_,e.trans hg1⟩
   ·exact absurd ⟨rfl,rfl⟩ hne
   exact absurd ⟨rfl,rfl⟩ hne
  obtain⟨p,cap,rfl⟩:=hx1;refine(Any.slices_Sort_string_none L p cap s.w).mono λe w' hh'=>?_
  obtain⟨rfl,rfl⟩:=hh';exact⟨s,_,rfl,rfl,hs,Ext.refl _ _,rfl,⟨#[],rfl,rfl⟩⟩
 split at h<;>try cases h
 rename_i hc;obtain⟨rfl,rfl,hn0,hbig⟩:=hc;split at h<;>try cases h
 rename_i zs hzs;rw[hr]at hp;obtain⟨hz,rs,hown,hd,him⟩:=hs.objs o _ hr;have hrs:=yd7 ds zs rs hzs hd;subst hrs;have hlen:zs.length=top:=by have:=hown.1;simpa using this
 rcases hown.2 with⟨_,h0⟩|⟨g,cap,cur,hg1,_,hg2,hnc,hcm,hcs,hct⟩
 ·exact absurd h0 hn0
 have hx1:x=.slice (some ⟨g,0,none⟩) top cap:=by
  rcases hp.2 rfl with⟨_,_,e⟩|⟨hne,_⟩|⟨hne,_⟩
  ·rw[e,hg1]
  ·exact absurd ⟨rfl,rfl⟩ hne
  exact absurd ⟨rfl,rfl⟩ hne
 subst hx1;subst hlen;have hgs:g<s.w.heap.size:=(Array.getElem?_eq_some_iff.1 hg2).1;refine(Any.slices_Sort_string L g 0 cap zs s.w (holds_of_block hg2 (by simpa using hct)) hgs hbig).mono λe w' hh'=>?_
 obtain⟨rfl,k,os,rfl⟩:=hh';rw[ytc];have hgr:=grownBy_sorted (w:=s.w) (g:=g) (n:=k) (os:=os) (zof zs).toArray;have hg:∀c,c<s.w.heap.size->c≠g->(grow (putRow encStr (Sort.ahead s.w k) g 0 (zof zs).toArray) os).heap[c]?=s.w.heap[c]?:=λc hc hne=>hgr.block c hc (λe=>hne (Option.some.inj e))
 have hnim:∀j,¬s.Im g j:=λj hj=>by
  have:=(him g (by rw[hg1];rfl) j).1 hj;simp at this
 obtain⟨k1,k2⟩:=hs.change o (.row true t 1 zs.length ((zof zs).map D.str)) (s.φ o) _ s.Im hgr.os (Tk.of hgr.tape) hgr.output hgr.size
  (λc hc hne=>hg c hc λe=>hne ⟨_,hr,by simp⟩ (by rw[hg1,e];rfl)) (λ_ _ h=>h)
  (λc j hj=>World.cell?_of_block (hg c (hs.imlt c j hj) λe=>by subst e;exact hnim j hj)) (λ_ _ h=>.inl h) (λc j h=>Nat.lt_of_lt_of_le (hs.imlt c j h) hgr.size)
  (λc hc=>.inr ⟨⟨_,hr,by simp⟩,hc⟩) (λob hob=>by rw[hr]at hob;cases hob;exact⟨λh=>h,rfl,rfl,Nat.le_refl _,λ_=>rfl⟩)
  (λ_=>by
   refine⟨by omega,(zof zs).map encStr,?_,yj8 _ _ _,λb hb j=>⟨λhj=>?_,λhj=>by simp at hj⟩⟩
   ·rw[hg1];exact ownsRow_sorted (zjj zs).length_eq (Nat.zero_le _) hg2 hnc hcm hcs
   exact(him b hb j).1 hj)
 rw[zsr]at k1 k2;exact⟨_,_,rfl,rfl,k1,k2,rfl,⟨#[],rfl,rfl⟩⟩
end
end Go.Evl
