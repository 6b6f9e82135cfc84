
/-
 Still more functions of Go's library that are given whole: strings.Repeat, Split, HasSuffix, Contains (one byte), IndexByte, Join.
-/
import Derived.Test.YtkflcbhclegghaaGreatDoorEvExt
import Derived.Shelf.Strings.Repeat
import Derived.Shelf.Strings.Split
import Derived.Shelf.Strings.PiecesUse
import Derived.Shelf.Strings.Search3
import Derived.Shelf.Strings.Prefix
import Derived.Shelf.Strings.OnBuilder
import Derived.Shelf.Strings.IndexAnyAll
import Derived.Lib.Join
namespace Go.Evl
open Go.RowKit Go.Shelf Go.Proofs
section
variable{P:Program}{gl:Globs}
theorem yh3(w:World)(Im:Nat->Nat->Prop):∀l:List ByteArray,DRs w Im ((l.map (·.data.toList)).map D.str) (l.map Value.string)
 |[]=>rfl
 |x::r=>⟨.string x,_,rfl,rfl,by show Value.string x=.string ⟨x.data.toList.toArray⟩;simp,yh3 w Im r⟩
theorem given_split [Clk]{ρ:Go.Shelf.Ren}(L:Lays.n146 P ρ)(hi9:(P.info? (ρ.t 9)).map (λi=>(i.zero,i.size,i.bytes))=some (some (.string ByteArray.empty),1,16)){g:Nat}{mx:Int}(hg:ρ.g 1=g)(hgl:(g,[D.int .i64 mx])∈gl){f:Nat}(hf:ρ.f 146=f)(he:Enters P f):GivenOk P gl f splitX:=by
 refine⟨he,λargs m v m' h s hs hm xs hxs=>?_⟩;subst hf;subst hg;unfold splitX at h
 split at h
 ·rename_i b c
  split at h
  ·rename_i hl;obtain⟨h1,h2⟩:=hl;simp only[Option.some.injEq,Prod.mk.injEq]at h;obtain⟨rfl,rfl⟩:=h;obtain⟨x,ys,rfl,hx,y,zs,rfl,hy,hz⟩:=hxs;simp only[VRt]at hz;subst hz;have hx:x=.string ⟨b.toArray⟩:=hx;have hy:y=.string ⟨c.toArray⟩:=hy;subst hx;subst hy;subst hm;obtain⟨_,⟨q,hq,_,hq2⟩,_⟩:=hs.glob _ _ hgl;have hq2:q=.int .i64 mx:=hq2;subst hq2;rw[callsIn_wide];refine(Any.strings_Split L hi9 ⟨b.toArray⟩ ⟨c.toArray⟩ mx s.w (by show b.toArray.size<_;rw[List.size_toArray];omega) hq (by show 1<=c.toArray.size;simpa using h2)).mono λe w' hh=>?_
   obtain⟨rfl,rfl⟩:=hh;have hn:(Lib.splitB ⟨c.toArray⟩ 0 (Lib.countB ⟨b.toArray⟩ ⟨c.toArray⟩) ⟨b.toArray⟩).length=Lib.countB ⟨b.toArray⟩ ⟨c.toArray⟩+1:=Lib.splitB_all _ (by show 1<=c.toArray.size;simpa using h2) 0 _ _ rfl;have hd:ypz b c=(Lib.splitB ⟨c.toArray⟩ 0 (Lib.countB ⟨b.toArray⟩ ⟨c.toArray⟩) ⟨b.toArray⟩).map (·.data.toList):=rfl;generalize Lib.splitB ⟨c.toArray⟩ 0 (Lib.countB ⟨b.toArray⟩ ⟨c.toArray⟩) ⟨b.toArray⟩=l at hn hd⊢;rw[hd,<-hn]
   obtain⟨h3,h4⟩:=hs.calm (s.w.alloc (.cells (l.map Value.string).toArray (ρ.t 9))) (λb j=>s.Im b j\/(b=s.w.heap.size/\j<l.length)) rfl Tk.of rfl (by simp) (λb hb=>Below.heap_alloc _ _ b hb) (λ_ _ h=>.inl h) (λb j h=>h.imp id λh=>Nat.le_of_eq h.1.symm) (λb j h=>by
    rcases h with h|h
    ·have:=hs.imlt b j h;simp;omega
    simp;omega)
   refine⟨_,_,rfl,rfl,h3,h4,rfl,⟨some ⟨s.w.heap.size,0,none⟩,l.length,by simp,by simp,.inr ⟨_,_,rfl,?_⟩⟩⟩;refine CR.mk _ (l.map Value.string) 0 (yh3 _ _ l) (λj v hj=>?_) (λj hj=>.inr ⟨rfl,by simpa using hj⟩);obtain⟨x,hx,rfl⟩:∃x,l[j]?=some x/\Value.string x=v:=by simpa[List.getElem?_map]using hj
   exact Lib.pieces_cell _ l _ j x hx
  cases h
 cases h
theorem given_indexByte [Clk]{ρ:Go.Shelf.Ren}(L:Lays.n217 P ρ){f:Nat}(hf:ρ.f 217=f)(he:Enters P f)(hck:¬Clk.on):GivenOk P gl f indexByteX:=by
 refine⟨he,λargs m v m' h s hs hm xs hxs=>?_⟩;subst hf;unfold indexByteX at h
 split at h
 ·rename_i b c;simp only[Option.some.injEq,Prod.mk.injEq]at h;obtain⟨rfl,rfl⟩:=h;obtain⟨x,ys,rfl,hx,y,zs,rfl,hy,hz⟩:=hxs;simp only[VRt]at hz;subst hz;have hx:x=.string ⟨b.toArray⟩:=hx;have hy:y=.int .u8 c:=hy;subst hx;subst hy;subst hm;rw[callsIn_wide];refine(Any.stringslite_IndexByte L ⟨b.toArray⟩ c s.w).mono λe w' hh=>?_
  obtain⟨rfl,rfl⟩:=hh;exact zmt hck hs (λs'=>rfl) (Below.refl _ _)
 cases h
theorem z8v{w:World}{Im:Nat->Nat->Prop}{b:Nat}:∀(xs:List D)(zs:List (List UInt8))(o:Nat),strsOf xs=some zs->CR w Im b o xs->∀(j:Nat)x,(zs.map (λs=>(⟨s.toArray⟩:ByteArray)))[j]?=some x->w.cell? ⟨b,o+j,none⟩=some (.string x)
 |[],zs,o,h,_,j,x,hj=>by
  simp only[strsOf,Option.some.injEq]at h;subst h;simp at hj
 |d::r,zs,o,h,hc,j,x,hj=>by
  simp only[CR]at hc;obtain⟨_,⟨y,h1,_,h2⟩,h3⟩:=hc;unfold strsOf at h
  split at h
  ·rename_i e;cases e
  ·rename_i n r' e;obtain⟨rfl,rfl⟩:=(List.cons.injEq ..).mp e;simp only[Option.map_eq_some_iff]at h;obtain⟨zs',hb,rfl⟩:=h;have h2:y=.string ⟨n.toArray⟩:=h2;cases j with
   |zero=>
    simp only[List.map_cons,List.getElem?_cons_zero,Option.some.injEq]at hj;rw[<-hj,Nat.add_zero,h1,h2]
   |succ j=>
    simp only[List.map_cons,List.getElem?_cons_succ]at hj;have:=z8v r zs' (o+1) hb h3 j x hj
    rwa[Nat.add_right_comm]at this
  cases h
theorem yl5{zs:List (List UInt8)}(h:strsOf []=some zs):zs=[]:=by
 simp only[strsOf,Option.some.injEq]at h;exact h.symm
theorem given_join [Clk]{ρ:Go.Shelf.Ren}(L:Lays.n156 P ρ)(X:Builder.Extra P ρ){f:Nat}(hf:ρ.f 156=f)(he:Enters P f)(hck:¬Clk.on):GivenOk P gl f joinX:=by
 refine⟨he,λargs m v m' h s hs hm xs hxs=>?_⟩;subst hf;subst hm;unfold joinX at h;split at h<;>try cases h
 rename_i n ds c;obtain⟨x,ys,rfl,hx,y,zz,rfl,hy,hz⟩:=hxs;simp only[VRt]at hz;subst hz;have hy:y=.string ⟨c.toArray⟩:=hy;subst hy;have hx:DR s.w s.Im (.list n ds) x:=hx;simp only[DR]at hx;obtain⟨a,cap,rfl,hcap,hd⟩:=hx;rw[callsIn_wide];split at h<;>try cases h
 rename_i zs hzs;split at h<;>try cases h
 rename_i hl;obtain⟨rfl,hl1,hl2⟩:=hl
 by_cases hn0:zs.length=0
 ·obtain rfl:=List.length_eq_zero_iff.1 hn0;refine(Any.strings_Join_none L X a cap ⟨c.toArray⟩ s.w).mono λe w' hh=>?_
  obtain⟨rfl,rfl⟩:=hh;exact zmt hck hs (λs'=>rfl) (Below.refl _ _)
 rcases hd with⟨h0,_⟩|⟨b,o,rfl,hc⟩
 ·exact absurd h0 hn0
 have hgs:b<s.w.heap.size:=by
  cases ds with
  |nil=>exact absurd (by rw[yl5 hzs];rfl) hn0
  |cons d r=>
   simp only[CR]at hc;exact hs.imlt b o hc.1
 have hmap:(zs.map (λs=>(⟨s.toArray⟩:ByteArray))).map (·.data.toList)=zs:=by simp[Function.comp_def]
 have key:=Any.strings_Join L X b o cap (zs.map (λs=>(⟨s.toArray⟩:ByteArray))) ⟨c.toArray⟩ s.w
  (z8v ds zs o hzs hc) hgs (by rw[List.length_map];omega) (by rw[List.length_map];exact hcap)
  (by rw[hmap];show(Lib.join zs c.toArray.toList).length<=_;exact Nat.le_trans hl1 (by decide))
 rw[List.length_map,hmap]at key;refine key.mono λe w' hh=>?_
 obtain⟨rfl,hb⟩:=hh;exact zmt hck hs (λs'=>rfl) hb
end
end Go.Evl
