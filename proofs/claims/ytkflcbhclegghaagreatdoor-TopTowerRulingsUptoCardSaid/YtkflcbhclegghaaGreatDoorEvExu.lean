
/-
 More functions of Go's library that are given whole: strconv.Atoi, strings.Trim at an ASCII cutset.
-/
import Derived.Test.YtkflcbhclegghaaGreatDoorEvExt
import Derived.Shelf.Strconv.AtoiAll
import Derived.Shelf.Strings.SlTrimAscii
namespace Go.Evl
open Go.RowKit Go.Shelf Go.Proofs
section
variable{P:Program}{gl:Globs}
theorem given_atoi [Clk]{ρ:Go.Shelf.Ren}(L:LaysC.n172 P ρ){g1 g2:Nat}(h1:ρ.g 15=g1)(h2:ρ.g 16=g2)(hg1:(g1,[D.ifc true])∈gl)(hg2:(g2,[D.ifc true])∈gl){f:Nat}(hf:ρ.f 172=f)(he:Enters P f)(hc:¬Clk.on):GivenOk P gl f atoiX:=by
 refine⟨he,λargs m v m' h s hs hm xs hxs=>?_⟩;subst hf;subst h1;subst h2;unfold atoiX at h
 split at h
 ·rename_i b
  split at h
  ·rename_i hl;obtain⟨x,ys,rfl,hx,hy⟩:=hxs;simp only[VRt]at hy;subst hy;have hx:x=.string ⟨b.toArray⟩:=hx;subst hx;subst hm;have hsz:(⟨b.toArray⟩:ByteArray).size=b.length:=by show b.toArray.size=_;simp
   obtain⟨_,⟨q1,hq1,_,hd1⟩,_⟩:=hs.glob _ _ hg1;obtain⟨_,⟨q2,hq2,_,hd2⟩,_⟩:=hs.glob _ _ hg2
   have hv1:q1=.nilIface\/∃te pe,q1=.iface te pe:=by
    rcases hd1 with⟨h0,_⟩|h
    ·cases h0
    exact .inr h
   have hv2:q2=.nilIface\/∃te pe,q2=.iface te pe:=by
    rcases hd2 with⟨h0,_⟩|h
    ·cases h0
    exact .inr h
   rw[callsIn_wide]
   split at h
   ·rename_i n hn;obtain⟨rfl,rfl⟩:=h;refine(Any.strconv_Atoi_ok L ⟨b.toArray⟩ (by omega) n hn s.w).mono λe w' hh=>?_
    obtain⟨rfl,hw⟩:=hh
    rcases hw with rfl|⟨t,rfl⟩
    ·exact zmt hc hs (λs'=>⟨_,rfl,_,_,rfl,rfl,_,_,rfl,rfl,rfl⟩) (Below.refl _ _)
    exact zmt hc hs (λs'=>⟨_,rfl,_,_,rfl,rfl,_,_,rfl,rfl,rfl⟩) ⟨rfl,rfl,rfl,by rw[Lib.bytesWorld_size];omega,λj hj=>Lib.bytesWorld_at_old _ _ _ j hj⟩
   ·rename_i hn;obtain⟨rfl,rfl⟩:=h;refine(Any.strconv_Atoi_syntax L ⟨b.toArray⟩ (by omega) hn q1 s.w hq1 hv1).mono λe w' hh=>?_
    obtain⟨N,rfl,_,_,hb⟩:=hh;exact zmt hc hs (λs'=>⟨_,rfl,_,_,rfl,rfl,_,_,rfl,.inr ⟨_,_,rfl⟩,rfl⟩) hb
   rename_i hn;obtain⟨rfl,rfl⟩:=h;refine(Any.strconv_Atoi_range L ⟨b.toArray⟩ (by omega) hn q2 s.w hq2 hv2).mono λe w' hh=>?_
   obtain⟨N,rfl,_,_,hb⟩:=hh;exact zmt hc hs (λs'=>⟨_,rfl,_,_,rfl,rfl,_,_,rfl,.inr ⟨_,_,rfl⟩,rfl⟩) hb
  cases h
 cases h
end
end Go.Evl
