
/-
 More functions of Go's library that are given whole: strconv.Atoi, strings.Trim at an ASCII cutset.
-/
import Derived.Test.YtcbddkeiohdocaaGreatDoorEvExt
import Derived.Shelf.Strconv.AtoiAll
import Derived.Shelf.Strings.SlTrimAscii
namespace Go.Evl
open Go.RowKit Go.Shelf Go.Proofs
section
variable {P : Program} {gl : Globs}
theorem given_atoi {ρ:Go.Shelf.Ren} (L:LaysC.n172 P ρ) {g1 g2:Nat} (h1:ρ.g 15=g1) (h2:ρ.g 16=g2) (hg1:(g1,[D.ifc true])∈gl) (hg2:(g2,[D.ifc true])∈gl) {f:Nat} (hf:ρ.f 172=f) (he:Enters P f):GivenOk P gl f atoiX:=by
 refine⟨he,fun args m v m' h s hs hm xs hxs=> ?_⟩
 subst hf
 subst h1
 subst h2
 unfold atoiX at h
 split at h
 ·rename_i b
  split at h
  ·rename_i hl
   obtain⟨x,ys,rfl,hx,hy⟩:=hxs
   simp only [VRt] at hy
   subst hy
   have hx:x= .string ⟨b.toArray⟩:=hx
   subst hx
   subst hm
   have hsz:(⟨b.toArray⟩:ByteArray).size=b.length:=by show b.toArray.size=_;simp
   obtain⟨_,⟨q1,hq1,_,hd1⟩,_⟩:=hs.glob _ _ hg1
   obtain⟨_,⟨q2,hq2,_,hd2⟩,_⟩:=hs.glob _ _ hg2
   have hv1:q1= .nilIface∨∃te pe,q1= .iface te pe:=by
    rcases hd1 with⟨h0,_⟩|h
    ·cases h0
    ·exact .inr h
   have hv2:q2= .nilIface∨∃te pe,q2= .iface te pe:=by
    rcases hd2 with⟨h0,_⟩|h
    ·cases h0
    ·exact .inr h
   rw [callsIn_wide]
   split at h
   ·rename_i n hn
    obtain⟨rfl,rfl⟩:=h
    refine(Any.strconv_Atoi_ok L ⟨b.toArray⟩ (by omega) n hn s.w).mono fun e w' hh=> ?_
    obtain⟨rfl,hw⟩:=hh
    rcases hw with rfl|⟨t,rfl⟩
    ·exact below_end hs (fun s'=>⟨_,rfl,_,_,rfl,rfl,_,_,rfl,rfl,rfl⟩) (Below.refl _ _)
    ·exact below_end hs (fun s'=>⟨_,rfl,_,_,rfl,rfl,_,_,rfl,rfl,rfl⟩) ⟨rfl,rfl,rfl,by rw [Lib.bytesWorld_size];omega,fun j hj=>Lib.bytesWorld_at_old _ _ _ j hj⟩
   ·rename_i hn
    obtain⟨rfl,rfl⟩:=h
    refine(Any.strconv_Atoi_syntax L ⟨b.toArray⟩ (by omega) hn q1 s.w hq1 hv1).mono fun e w' hh=> ?_
    obtain⟨N,rfl,_,_,hb⟩:=hh
    exact below_end hs (fun s'=>⟨_,rfl,_,_,rfl,rfl,_,_,rfl,.inr ⟨_,_,rfl⟩,rfl⟩) hb
   ·rename_i hn
    obtain⟨rfl,rfl⟩:=h
    refine(Any.strconv_Atoi_range L ⟨b.toArray⟩ (by omega) hn q2 s.w hq2 hv2).mono fun e w' hh=> ?_
    obtain⟨N,rfl,_,_,hb⟩:=hh
    exact below_end hs (fun s'=>⟨_,rfl,_,_,rfl,rfl,_,_,rfl,.inr ⟨_,_,rfl⟩,rfl⟩) hb
  ·cases h
 ·cases h
theorem given_trim {ρ:Go.Shelf.Ren} (L:Lays.n160 P ρ) (h116:(P.info? (ρ.t 116)).map (fun i=>(i.zero,i.size))=some (some (.agg (Array.replicate 256 (.bool false))),256)) {f:Nat} (hf:ρ.f 160=f) (he:Enters P f):GivenOk P gl f trimX:=by
 refine⟨he,fun args m v m' h s hs hm xs hxs=> ?_⟩
 subst hf
 unfold trimX at h
 split at h
 ·rename_i b c
  split at h
  ·rename_i hl
   simp only [Option.some.injEq,Prod.mk.injEq] at h
   obtain⟨rfl,rfl⟩:=h
   obtain⟨x,ys,rfl,hx,y,zs,rfl,hy,hz⟩:=hxs
   simp only [VRt] at hz
   subst hz
   have hx:x= .string ⟨b.toArray⟩:=hx
   have hy:y= .string ⟨c.toArray⟩:=hy
   subst hx
   subst hy
   rw [callsIn_wide]
   refine(Any.strings_Trim_laid L h116 ⟨b.toArray⟩ ⟨c.toArray⟩ s.w (by show b.toArray.size≤_;simp;omega) (by show c.toArray.size<_;simp;omega) (ascii_of_all (by simpa using hl.2.2))).mono fun e w' hh=> ?_
   obtain⟨rfl,hb⟩:=hh
   subst hm
   exact below_end hs (fun s'=>by simp [VR,DR]) hb
  ·cases h
 ·cases h
end
end Go.Evl
