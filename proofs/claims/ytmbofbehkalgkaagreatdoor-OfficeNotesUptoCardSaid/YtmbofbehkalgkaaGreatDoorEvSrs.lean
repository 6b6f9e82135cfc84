
/-
 slices.Sort at texts, given whole.
-/
import Derived.Test.YtmbofbehkalgkaaGreatDoorEvExt
import Derived.Test.YtmbofbehkalgkaaGreatDoorEvY
import Derived.Shelf.Sort.Plain
import Derived.Shelf.Slices.In.SortNone
import Derived.Sort.OwnSorted
namespace Go.Evl
open Go.RowKit Go.Sort Go.Shelf Go.Proofs
section
variable {P : Program} {gl : Globs}
theorem z0d:∀a b:List UInt8,zag a b=true↔a<b
 | a,[]=>by simp [zag]
 | [],b::y=>by simp [zag]
 | a::x,b::y=>by
  unfold zag
  rw [Bool.or_eq_true,Bool.and_eq_true,decide_eq_true_eq,beq_iff_eq,z0d x y,List.cons_lt_cons_iff]
theorem yib (l:List (List UInt8)):l.mergeSort (fun x y=>decide (x<=y))=zfg l:=by
 refine List.Perm.eq_of_pairwise (le:=fun x y:List UInt8=>decide (x<=y)) (fun a b _ _ h1 h2=> ?_) ?_ ?_ ((List.mergeSort_perm l _).trans (zc7 l).symm)
 ·simp only [decide_eq_true_eq] at h1 h2
  exact List.le_antisymm h1 h2
 ·exact List.pairwise_mergeSort (fun a b c h1 h2=>by simp only [decide_eq_true_eq] at h1 h2 ⊢;exact List.le_trans h1 h2) (fun a b=>by simp only [Bool.or_eq_true,decide_eq_true_eq];exact List.le_total a b) l
 ·refine(ziq l).imp fun {a b} h=> ?_
  rw [decide_eq_true_eq]
  intro hlt
  rw [(z0d b a).2 hlt] at h
  cases h
theorem z5q {w:World} {Im:Nat->Nat->Prop}:∀(xs:List D) (b:List (List UInt8)) (ys:List Value),strsOf xs=some b->DRs w Im xs ys->ys=b.map encStr
 | [],b,ys,h,hd=>by
  simp only [strsOf,Option.some.injEq] at h
  subst h
  exact hd
 | d::r,b,ys,h,hd=>by
  obtain⟨y,zs,rfl,_,h2,h3⟩:=hd
  unfold strsOf at h
  split at h
  ·rename_i e;cases e
  ·rename_i n r' e
   obtain⟨rfl,rfl⟩:=(List.cons.injEq ..).mp e
   simp only [Option.map_eq_some_iff] at h
   obtain⟨b',h4,rfl⟩:=h
   have h2:y= .string ⟨n.toArray⟩:=h2
   rw [z5q r b' zs h4 h3,h2]
   rfl
  ·cases h
theorem yat (w:World) (Im:Nat->Nat->Prop):∀l:List (List UInt8),DRs w Im (l.map D.str) (l.map encStr)
 | []=>rfl
 | _::r=>⟨_,_,rfl,rfl,rfl,yat w Im r⟩
theorem given_sortS [Clk] {ρ:Go.Shelf.Ren} (L:Lays.n190 P ρ) {f:Nat} (hf:ρ.f 190=f) (he:Enters P f):GivenOk P gl f sortXS:=by
 refine⟨he,fun args m v m' h s hs hm xs hxs=> ?_⟩
 subst hf
 subst hm
 unfold sortXS at h
 split at h<;>try cases h
 ·obtain⟨x,ys,rfl,hx,hy⟩:=hxs
  simp only [VRt] at hy
  subst hy
  obtain⟨a,rfl⟩:∃a,x= .slice a 0 0:=hx
  rw [callsIn_wide]
  refine(Any.slices_Sort_string_none L a 0 s.w).mono fun e w' hh'=> ?_
  obtain⟨rfl,rfl⟩:=hh'
  exact⟨s,_,rfl,rfl,hs,Ext.refl _ _,rfl,⟨#[],rfl,rfl⟩⟩
 rename_i o len top
 obtain⟨x,ys,rfl,hx,hy⟩:=hxs
 simp only [VRt] at hy
 subst hy
 obtain⟨hone,hp⟩:=hx
 rw [callsIn_wide]
 split at h<;>try cases h
 rename_i t n ds hr
 split at h
 ·rename_i hc
  obtain⟨rfl,rfl,rfl⟩:=hc
  simp only [Option.some.injEq,Prod.mk.injEq] at h
  obtain⟨rfl,rfl⟩:=h
  rw [hr] at hp
  obtain⟨hz,rs,hown,hd,him⟩:=hs.objs o _ hr
  have hx1:∃p cap,x= .slice p 0 cap:=by
   rcases hp.2 rfl with⟨_,_,e⟩|⟨hne,_⟩|⟨hne,_⟩
   ·rcases hown.2 with⟨e2,_⟩|⟨g,cap,cur,hg1,_⟩
    ·exact⟨_,_,e.trans e2⟩
    ·exact⟨_,_,e.trans hg1⟩
   ·exact absurd ⟨rfl,rfl⟩ hne
   ·exact absurd ⟨rfl,rfl⟩ hne
  obtain⟨p,cap,rfl⟩:=hx1
  refine(Any.slices_Sort_string_none L p cap s.w).mono fun e w' hh'=> ?_
  obtain⟨rfl,rfl⟩:=hh'
  exact⟨s,_,rfl,rfl,hs,Ext.refl _ _,rfl,⟨#[],rfl,rfl⟩⟩
 split at h<;>try cases h
 rename_i hc
 obtain⟨rfl,rfl,hn0,hbig⟩:=hc
 split at h<;>try cases h
 rename_i zs hzs
 rw [hr] at hp
 obtain⟨hz,rs,hown,hd,him⟩:=hs.objs o _ hr
 have hrs:=z5q ds zs rs hzs hd
 subst hrs
 have hlen:zs.length=top:=by have:=hown.1;simpa using this
 rcases hown.2 with⟨_,h0⟩|⟨g,cap,cur,hg1,_,hg2,hnc,hcm,hcs,hct⟩
 ·exact absurd h0 hn0
 have hx1:x= .slice (some ⟨g,0,none⟩) top cap:=by
  rcases hp.2 rfl with⟨_,_,e⟩|⟨hne,_⟩|⟨hne,_⟩
  ·rw [e,hg1]
  ·exact absurd ⟨rfl,rfl⟩ hne
  ·exact absurd ⟨rfl,rfl⟩ hne
 subst hx1
 subst hlen
 have hgs:g<s.w.heap.size:=(Array.getElem?_eq_some_iff.1 hg2).1
 refine(Any.slices_Sort_string L g 0 cap zs s.w (holds_of_block hg2 (by simpa using hct)) hgs hbig).mono fun e w' hh'=> ?_
 obtain⟨rfl,k,os,rfl⟩:=hh'
 rw [yib]
 have hgr:=grownBy_sorted (w:=s.w) (g:=g) (n:=k) (os:=os) (zfg zs).toArray
 have hg:∀c,c<s.w.heap.size->c≠g->(grow (putRow encStr (Sort.ahead s.w k) g 0 (zfg zs).toArray) os).heap[c]? =s.w.heap[c]? :=fun c hc hne=>hgr.block c hc (fun e=>hne (Option.some.inj e))
 have hnim:∀j,¬s.Im g j:=fun j hj=>by
  have:=(him g (by rw [hg1];rfl) j).1 hj
  simp at this
 obtain⟨k1,k2⟩:=hs.change o (.row true t 1 zs.length ((zfg zs).map D.str)) (s.φ o) _ s.Im hgr.os (Tk.of hgr.tape) hgr.output hgr.size
  (fun c hc hne=>hg c hc fun e=>hne ⟨_,hr,by simp⟩ (by rw [hg1,e];rfl)) (fun _ _ h=>h)
  (fun c j hj=>World.cell?_of_block (hg c (hs.imlt c j hj) fun e=>by subst e;exact hnim j hj)) (fun _ _ h=> .inl h) (fun c j h=>Nat.lt_of_lt_of_le (hs.imlt c j h) hgr.size)
  (fun c hc=> .inr ⟨⟨_,hr,by simp⟩,hc⟩) (fun ob hob=>by rw [hr] at hob;cases hob;exact⟨fun h=>h,rfl,rfl,Nat.le_refl _,fun _=>rfl⟩)
  (fun _=>by
   refine⟨by omega,(zfg zs).map encStr,?_,yat _ _ _,fun b hb j=>⟨fun hj=> ?_,fun hj=>by simp at hj⟩⟩
   ·rw [hg1]
    exact ownsRow_sorted (zc7 zs).length_eq (Nat.zero_le _) hg2 hnc hcm hcs
   ·exact(him b hb j).1 hj)
 rw [zmq] at k1 k2
 exact⟨_,_,rfl,rfl,k1,k2,rfl,⟨#[],rfl,rfl⟩⟩
end
end Go.Evl
