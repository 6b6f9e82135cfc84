
/-
 Still more functions of Go's library that are given whole: strings.Repeat, Split, HasSuffix, Contains (one byte), IndexByte, Join.
-/
import Derived.Test.YtkgcnknhkobmjaaGreatDoorEvExt
import Derived.Shelf.Strings.Repeat
import Derived.Shelf.Strings.Split
import Derived.Shelf.Strings.PiecesUse
import Derived.Shelf.Strings.Search3
import Derived.Shelf.Strings.Prefix
import Derived.Shelf.Strings.OnBuilder
import Derived.Shelf.Strings.IndexAnyAll
import Derived.Lib.Join
namespace Go.Evl
open Go.RowKit Go.Shelf Go.Proofs
section
variable {P : Program} {gl : Globs}
theorem given_repeat [Clk] {ρ:Go.Shelf.Ren} (L:Lays.n105 P ρ) (X:Builder.Extra P ρ) {f:Nat} (hf:ρ.f 105=f) (he:Enters P f) (hck:¬Clk.on):GivenOk P gl f repeatX:=by
 refine⟨he,fun args m v m' h s hs hm xs hxs=> ?_⟩
 subst hf
 unfold repeatX at h
 split at h
 ·rename_i b c
  split at h
  ·rename_i hl
   obtain⟨h0,h1,h2⟩:=hl
   simp only [Option.some.injEq,Prod.mk.injEq] at h
   obtain⟨rfl,rfl⟩:=h
   obtain⟨x,ys,rfl,hx,y,zs,rfl,hy,hz⟩:=hxs
   simp only [VRt] at hz
   subst hz
   have hx:x= .string ⟨b.toArray⟩:=hx
   have hy:y= .int .i64 c:=hy
   subst hx
   subst hy
   obtain⟨k,rfl⟩:∃k:Nat,c=k:=⟨c.toNat,by omega⟩
   rw [callsIn_wide]
   refine(Any.strings_Repeat L X ⟨b.toArray⟩ k s.w (by omega) ?_).mono fun e w' hh=> ?_
   ·show b.toArray.size*k<=_
    rw [List.size_toArray]
    exact Nat.le_trans (Nat.mul_le_mul h2 (Nat.le_of_lt_succ (by omega:k<1000001))) (by decide)
   obtain⟨rfl,hb⟩:=hh
   subst hm
   exact yjl hck hs (fun s'=>rfl) hb
  ·cases h
 ·cases h
end
end Go.Evl
