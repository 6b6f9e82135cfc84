
/-
 slices.Clone, given whole.
-/
import Derived.Test.YtnabmkmhbncidabGreatDoorEvExt
import Derived.Test.YtnabmkmhbncidabGreatDoorEvZ
import Derived.Shelf.SlicesE.Clone
namespace Go.Evl
open Go.RowKit Go.Shelf Go.Proofs
section
variable {P : Program} {gl : Globs}
theorem given_clone {ρ:Go.Shelf.Ren} (L:SlLaysE0.n41 P ρ) {sz bytes:Nat} (hin:(P.info? (ρ.t 23)).bind (fun i=>i.zero.map fun z=>(z.cells.size,i.size,i.bytes))=some (sz,sz,bytes)) (hsz:0<sz) (hby:bytes<=1000)
  {f:Nat} (hf:ρ.f 41=f) (he:Enters P f):GivenOk P gl f (cloneX sz):=by
 simp only [Option.bind_eq_some_iff,Option.map_eq_some_iff,Prod.mk.injEq] at hin
 obtain⟨i0,hi,z,hz0,hzs,hz1,hz2⟩:=hin
 have z23:∀w,(Go.sizeOf (ρ.t 23)).run P w= .ok sz w:=fun w=>by simp [sizeOf,typeInfo,hi,hz1]
 refine⟨he,fun args m v m' h s hs hm xs hxs=> ?_⟩
 subst hf
 subst hm
 unfold cloneX at h
 split at h<;>try cases h
 rename_i o len top
 obtain⟨x,ys,rfl,hx,hy⟩:=hxs
 simp only [VRt] at hy
 subst hy
 obtain⟨hone,hp⟩:=hx
 rw [callsIn_wide]
 split at h<;>try cases h
 rename_i wr t sz' n ds hr
 split at h
 case isFalse=>cases h
 rename_i hc
 obtain⟨rfl,rfl,rfl,hbig⟩:=hc
 simp only [Option.some.injEq,Prod.mk.injEq] at h
 obtain⟨rfl,rfl⟩:=h
 rw [hr] at hp
 obtain⟨hz,rs,hown,hd,him⟩:=hs.objs o _ hr
 have hlen:=DRs.length _ _ hd
 have hx1:x=s.φ o:=by
  rcases hp.2 rfl with⟨_,_,e⟩|⟨hne,_⟩|⟨hne,_⟩
  ·exact e
  ·exact absurd ⟨rfl,rfl⟩ hne
  ·exact absurd ⟨rfl,rfl⟩ hne
 rcases hown.2 with⟨e2,h0⟩|⟨g,cap,cur,hg1,_,hg2,hnc,hcm,hcs,hct⟩
 ·subst h0
  have hds:ds=[]:=List.eq_nil_of_length_eq_zero (by have:=hown.1;omega)
  subst hds
  rw [hx1,e2]
  refine(AnyE.slices_Clone_nil L 0 0 s.w).mono fun e w' hh'=> ?_
  obtain⟨rfl,rfl⟩:=hh'
  exact⟨s,_,rfl,rfl,hs,Ext.refl _ _,rfl,⟨none,0,rfl,Nat.le_refl _,.inl ⟨rfl,rfl⟩⟩⟩
 ·rw [hx1,hg1]
  refine(AnyE.slices_Clone L i0 z sz' bytes hi hz0 hz1 hz2 hzs hsz z23 g 0 top cap rs s.w hown.1 (Nat.le_trans hbig (by decide)) (Nat.le_trans (Nat.mul_le_mul hbig hby) (by decide)) (fun j u hj=>by
   rw [Nat.zero_add];exact zg0 hown hg1 j u hj) (DRs.ones _ _ hd)).mono fun e w' hh'=> ?_
  obtain⟨v',rfl,hown',hne,hb⟩:=hh'
  rcases hown'.2 with⟨e3,_⟩|⟨g',cap',cur',hg1',hge,hg2',hnc',hrest⟩
  ·exact absurd e3 hne
  have hcl:=zg0 (w:=w') (t:=ρ.t 23) (sz:=sz') (n:=top) (xs:=rs) ⟨hown'.1,.inr ⟨g',cap',cur',hg1',Nat.zero_le _,hg2',hnc',hrest⟩⟩ hg1'
  have hgs:g'<w'.heap.size:=(Array.getElem?_eq_some_iff.1 hg2').1
  obtain⟨k1,k2⟩:=hs.calm w' (fun b j=>s.Im b j\/(b=g'/\j<top*sz')) hb.os hb.tape hb.output hb.size hb.block (fun _ _ h=> .inl h) (fun b j h=>h.imp id fun h=>by rw [h.1];exact hge) (fun b j h=>by
   rcases h with h|h
   ·exact Nat.lt_of_lt_of_le (hs.imlt b j h) hb.size
   ·rw [h.1];exact hgs)
  refine⟨_,_,rfl,rfl,k1,k2,rfl,⟨some ⟨g',0,none⟩,cap',hg1',hnc',.inr ⟨g',0,rfl,?_⟩⟩⟩
  refine CR.mk ds rs 0 (DRs.ext k2.im k2.keep _ _ hd) (fun j v hj=> ?_) (fun j hj=> .inr ⟨rfl,?_⟩)
  ·rw [Nat.zero_add];exact hcl j v hj
  ·have:=hown.1;omega
end
end Go.Evl
