
/-
 strings.Compare is given whole.
-/
import Derived.Test.YtkflcbhclegghaaGreatDoorEvExt
import Derived.Test.YtkflcbhclegghaaGreatDoorEvK
import Derived.Shelf.Small.Strs
namespace Go.Evl
open Go.RowKit Go.Shelf Go.Proofs
section
variable{P:Program}{gl:Globs}
theorem given_compare [Clk]{ρ:Go.Shelf.Ren}(L:Lays.n106 P ρ){f:Nat}(hf:ρ.f 106=f)(he:Enters P f)(hck:¬Clk.on):GivenOk P gl f compareX:=by
 refine⟨he,λargs m v m' h s hs hm xs hxs=>?_⟩;subst hf;unfold compareX at h
 split at h
 ·rename_i b c;simp only[Option.some.injEq,Prod.mk.injEq]at h;obtain⟨rfl,rfl⟩:=h;obtain⟨x,ys,rfl,hx,y,zs,rfl,hy,hz⟩:=hxs;simp only[VRt]at hz;subst hz;have hx:x=.string ⟨b.toArray⟩:=hx;have hy:y=.string ⟨c.toArray⟩:=hy;subst hx;subst hy;subst hm;rw[callsIn_wide];refine(Any.strings_Compare L ⟨b.toArray⟩ ⟨c.toArray⟩ s.w).mono λe w' hh=>?_
  obtain⟨rfl,rfl⟩:=hh;exact zmt hck hs (λs'=>rfl) (Below.refl _ _)
 cases h
end
end Go.Evl
