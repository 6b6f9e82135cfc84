
/-
  More functions of Go's library that are given whole: strconv.Atoi at decimal numerals of at most 18 bytes, strings.Trim at an ASCII cutset.
-/
import Derived.Test.YtlnlcdnpgjhaaaaGreatDoorEvExt
import Derived.Shelf.Strconv.Atoi
import Derived.Shelf.Strings.SlTrimAscii
namespace Go.Evl
open Go.RowKit Go.Shelf Go.Proofs
section
variable {P : Program} {gl : Globs}
theorem given_atoi {ρ : Go.Shelf.Ren} (L : Lays.n172 P ρ) {f : Nat} (hf : ρ.f 172 = f) (he : Enters P f) : GivenOk P gl f atoiX := by
  refine ⟨he, fun args m v m' h s hs hm xs hxs => ?_⟩
  subst hf
  unfold atoiX at h
  split at h
  · rename_i b
    split at h
    · rename_i hl
      simp only [Option.map_eq_some_iff, Prod.mk.injEq] at h
      obtain ⟨n, hn, rfl, rfl⟩ := h
      obtain ⟨x, ys, rfl, hx, hy⟩ := hxs
      simp only [VRt] at hy
      subst hy
      have hx : x = .string ⟨b.toArray⟩ := hx
      subst hx
      rw [callsIn_wide]
      refine (Any.strconv_Atoi L ⟨b.toArray⟩ n (by show b.toArray.size ≤ 18; simpa using hl) (by simpa using hn) s.w).mono fun e w' hh => ?_
      obtain ⟨rfl, t, rfl⟩ := hh
      subst hm
      exact below_end hs (fun s' => ⟨_, rfl, _, _, rfl, rfl, _, _, rfl, rfl, rfl⟩) ⟨rfl, rfl, rfl, by rw [Lib.bytesWorld_size]; omega, fun j hj => Lib.bytesWorld_at_old _ _ _ j hj⟩
    · cases h
  · cases h
theorem given_trim {ρ : Go.Shelf.Ren} (L : Lays.n160 P ρ) (h116 : (P.info? (ρ.t 116)).map (fun i => (i.zero, i.size)) = some (some (.agg (Array.replicate 256 (.bool false))), 256)) {f : Nat} (hf : ρ.f 160 = f) (he : Enters P f) : GivenOk P gl f trimX := by
  refine ⟨he, fun args m v m' h s hs hm xs hxs => ?_⟩
  subst hf
  unfold trimX at h
  split at h
  · rename_i b c
    split at h
    · rename_i hl
      simp only [Option.some.injEq, Prod.mk.injEq] at h
      obtain ⟨rfl, rfl⟩ := h
      obtain ⟨x, ys, rfl, hx, y, zs, rfl, hy, hz⟩ := hxs
      simp only [VRt] at hz
      subst hz
      have hx : x = .string ⟨b.toArray⟩ := hx
      have hy : y = .string ⟨c.toArray⟩ := hy
      subst hx
      subst hy
      rw [callsIn_wide]
      refine (Any.strings_Trim_laid L h116 ⟨b.toArray⟩ ⟨c.toArray⟩ s.w (by show b.toArray.size ≤ _; simp; omega) (by show c.toArray.size < _; simp; omega) (ascii_of_all (by simpa using hl.2.2))).mono fun e w' hh => ?_
      obtain ⟨rfl, hb⟩ := hh
      subst hm
      exact below_end hs (fun s' => by simp [VR, DR]) hb
    · cases h
  · cases h
end
end Go.Evl
