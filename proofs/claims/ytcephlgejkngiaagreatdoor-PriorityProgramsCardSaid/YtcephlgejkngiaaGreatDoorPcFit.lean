
/-
  Priority: claims and conditions as a law's parameters.
-/
import Derived.Test.YtcephlgejkngiaaGreatDoorMsFit
import Derived.Test.YtcephlgejkngiaaGreatDoorPcCla
namespace Go.Proofs.YtcephlgejkngiaaGreatDoor.Co
open Go Go.Evl
set_option maxRecDepth 100000
theorem fit_bo {k : Nat} {ds : List D} (h : fit Tryz.prog (k + 1) 4 ds) : ∃ b, ds = [.bool b] := fit_b Tryz.underlying4 h
theorem arg_Claim {x : D} (h : fitArg Tryz.prog 30 x) : ∃ c : Clm, x = .agg c.cells := by
  obtain ⟨ds, rfl, _, _, rfl, h1, _, _, rfl, h2, _, _, rfl, h3, _, _, rfl, h4, _, _, rfl, h5, _, _, rfl, h6, rfl⟩ := arg_st Tryz.underlying30 h
  obtain ⟨q, rfl⟩ := fit_Request h1
  obtain ⟨b1, rfl⟩ := fit_bo h2
  obtain ⟨b2, rfl⟩ := fit_bo h3
  obtain ⟨b3, rfl⟩ := fit_bo h4
  obtain ⟨b4, rfl⟩ := fit_bo h5
  obtain ⟨d, rfl, _⟩ := fit_int h6
  exact ⟨⟨q, b1, b2, b3, b4, d⟩, rfl⟩
structure Tst where
  (fa op : List UInt8)
  va : Int
def Tst.cells (t : Tst) : List D := [.str t.fa, .str t.op, DI t.va]
abbrev Tsv (t : Tst) : V := .d (.agg t.cells)
theorem fit_Test {k : Nat} {ds : List D} (h : fit Tryz.prog (k + 2) 109 ds) : ∃ t : Tst, ds = t.cells := by
  obtain ⟨_, _, rfl, h1, _, _, rfl, h2, _, _, rfl, h3, rfl⟩ := fit_st Tryz.underlying109 h
  obtain ⟨s1, rfl⟩ := fit_str h1
  obtain ⟨s2, rfl⟩ := fit_str h2
  obtain ⟨n, rfl, _⟩ := fit_int h3
  exact ⟨⟨s1, s2, n⟩, rfl⟩
theorem arg_Test {x : D} (h : fitArg Tryz.prog 109 x) : ∃ t : Tst, x = .agg t.cells := by
  obtain ⟨ds, rfl, _, _, rfl, h1, _, _, rfl, h2, _, _, rfl, h3, rfl⟩ := arg_st Tryz.underlying109 h
  obtain ⟨s1, rfl⟩ := fit_str h1
  obtain ⟨s2, rfl⟩ := fit_str h2
  obtain ⟨n, rfl, _⟩ := fit_int h3
  exact ⟨⟨s1, s2, n⟩, rfl⟩
end Go.Proofs.YtcephlgejkngiaaGreatDoor.Co
