
/-
  Moved periods: what the program's function and the reference's give.
-/
import Derived.Test.YtlboecjgelnabaaDoorSpOne
namespace Go.Proofs.YtlboecjgelnabaaDoor.Co
open Go Go.Evl

/-- The mask of the weekdays that are moved by 'b', the first 'n' of them. -/
def refMask (d b : Int) : Nat → Int
  | 0 => 0
  | w + 1 => refMask d b w + (if inM d (((w : Int) - b) % 7) then 2 ^ w else 0)

theorem refMask_le (d b : Int) : ∀ n : Nat, 0 ≤ refMask d b n ∧ refMask d b n < 2 ^ n
  | 0 => by simp [refMask]
  | n + 1 => by
    have := refMask_le d b n
    simp only [refMask, Int.pow_succ]
    split <;> omega

theorem tm7 (x : Int) : (x.tmod 7 + 7).tmod 7 = x % 7 := by
  have h1 : x.tmod 7 = x % 7 - (if 0 ≤ x ∨ (7 : Int) ∣ x then 0 else 7) := by
    rw [Int.tmod_eq_emod]; split <;> rfl
  have h2 : 0 ≤ x.tmod 7 + 7 := by rw [h1]; split <;> omega
  rw [Int.tmod_eq_emod_of_nonneg h2, h1]
  split <;> omega

theorem tm7' {x r : Int} (h : r = x.tmod 7) : (r + 7) % 7 = x % 7 := by
  have := tm7 x
  have h1 : x.tmod 7 = x % 7 - (if 0 ≤ x ∨ (7 : Int) ∣ x then 0 else 7) := by
    rw [Int.tmod_eq_emod]; split <;> rfl
  rw [h, h1]
  split <;> omega

theorem refMask_mod (d b : Int) : ∀ n : Nat, refMask d b n = refMask d (b % 7) n
  | 0 => rfl
  | n + 1 => by
    simp only [refMask, refMask_mod d b n]
    have : ((n : Int) - b) % 7 = ((n : Int) - b % 7) % 7 := by omega
    rw [this]

def progMask (d t : Int) : Int :=
  IntKind.i64.wrap ((BitVec.ofInt IntKind.i64.bits (IntKind.i64.wrap ((BitVec.ofInt IntKind.i64.bits (IntKind.i64.wrap (d * 2 ^ min t.toNat IntKind.i64.bits)) ||| BitVec.ofInt IntKind.i64.bits (d.fdiv (2 ^ min (7 - t).toNat IntKind.i64.bits))).toNat)) &&& BitVec.ofInt IntKind.i64.bits 127).toNat)

theorem progMask_fin : ∀ n : Fin 128, ∀ m : Fin 7, progMask (n.val : Int) (m.val : Int) = refMask (n.val : Int) (m.val : Int) 7 := by decide +kernel
theorem progMask_eq (d t : Int) (hd : 1 ≤ d ∧ d ≤ 127) (ht : 0 ≤ t ∧ t < 7) : progMask d t = refMask d t 7 := by
  have := progMask_fin ⟨d.toNat, by omega⟩ ⟨t.toNat, by omega⟩
  simpa [show ((d.toNat : Nat) : Int) = d by omega, show ((t.toNat : Nat) : Int) = t by omega] using this

theorem pow7 : ∀ k : Nat, k ≤ 7 → (1 : Int) ≤ 2 ^ k ∧ (2 : Int) ^ k ≤ 128 := by decide

section
variable {E : Oracle} (g : Good E)
include g

theorem s_Split (f t d day : Int) : Fc E n_calendar_Split [Per f t d, I day] (.tup
    (if chkPer f t d ≠ 0 then [Per2 0 0 0 0 0 0, I (chkPer f t d)] else if day ≤ f ∨ t < day then [Per2 0 0 0 0 0 0, I 30] else [Per2 f (day - 1) d day t d, I 0])) := by
  refine g.fn code_calendar_Split rfl ?_
  have k1 := @chkPer_zero f t d
  repeat' ((conv => whnf); first
    | (refine Br.tt ?_)
    | (refine Br.ff ?_)
    | (refine Need.mk (by first | omega | (simp; done) | (simp; omega)) ?_)
    | (refine Wr.keep (by omega) ?_)
    | (refine Cmp.tt (by first | omega | decide) ?_)
    | (refine Cmp.ff (by first | omega | decide) ?_)
    | (refine Rem.pos (by omega) ?_)
    | (refine Quo.pos (by omega) ?_)
    | (refine PickV.now rfl ?_)
    | (refine Pick.now rfl ?_)
    | (refine PickW.now (by first | omega | decide) rfl ?_)
    | (refine CallI.of (s_CheckPeriod g _ _ _) ?_)
    | (refine Cmp.mk (fun h => ?_) (fun h => ?_))
    | (refine Rem.any (by omega) (fun r hr he => ?_))
    | (refine Br.mk (fun h => ?_) (fun h => ?_))
    | (refine Ret.mk ?_))
  all_goals simp_all

theorem s_Shift (f t d b : Int) : Fc E n_calendar_Shift [Per f t d, I b] (.tup
    (if firstI [chkPer f t d, rng b (-99999) 99999] ≠ 0 then [Per 0 0 0, I (firstI [chkPer f t d, rng b (-99999) 99999])] else if f + b < 0 ∨ 99999 < t + b then [Per 0 0 0, I 30] else [Per (f + b) (t + b) (refMask d b 7), I 0])) := by
  refine g.fn code_calendar_Shift rfl ?_
  have k1 : firstI [chkPer f t d, rng b (-99999) 99999] = 0 ↔ (0 ≤ f ∧ f ≤ t ∧ t ≤ 99999 ∧ t - f ≤ 400 ∧ 1 ≤ d ∧ d ≤ 127) ∧ -99999 ≤ b ∧ b ≤ 99999 := by
    have h1 := @chkPer_zero f t d
    have h2 := @rng_zero b (-99999) 99999
    simp only [firstI]
    repeat' split
    all_goals omega
  repeat' ((conv => whnf); first
    | (refine Br.tt ?_)
    | (refine Br.ff ?_)
    | (refine Need.mk (by first | omega | (simp; done) | (simp; omega)) ?_)
    | (refine Wr.keep (by omega) ?_)
    | (refine Cmp.tt (by first | omega | decide) ?_)
    | (refine Cmp.ff (by first | omega | decide) ?_)
    | (refine Rem.pos (by omega) ?_)
    | (refine Quo.pos (by omega) ?_)
    | (refine PickV.now rfl ?_)
    | (refine Pick.now rfl ?_)
    | (refine PickW.now (by first | omega | decide) rfl ?_)
    | (refine CallI.of (s_CheckPeriod g _ _ _) ?_)
    | (refine CallI.of (s_within g _ _ _) ?_)
    | (refine CallI.of (s_first2 g _ _) ?_)
    | (refine Cmp.mk (fun h => ?_) (fun h => ?_))
    | (refine Rem.any (by omega) (fun r hr he => ?_))
    | (refine Br.mk (fun h => ?_) (fun h => ?_))
    | (refine Wr.mk ?_)
    | (refine Ret.mk ?_))
  · simp_all
  · simp_all
  · rename_i h1 h2
    have e1 := tm7' he
    have e2 : progMask d ((r + 7) % 7) = refMask d b 7 := by
      rw [progMask_eq d _ (by omega) (by omega), e1, ← refMask_mod]
    have e3 : ¬ (f + b < 0 ∨ 99999 < t + b) := by omega
    rw [if_neg (by simpa using h1), if_neg e3, ← e2]
    rfl
  · simp_all

theorem r_Shift (f t d b : Int) (hp : chkPer f t d = 0) (hb : -99999 ≤ b ∧ b ≤ 99999) : Fc E n_ref01_Shift [Per f t d, I b] (Per (f + b) (t + b) (refMask d b 7)) := by
  refine g.fn code_ref01_Shift rfl ?_
  have k1 := (@chkPer_zero f t d).1 hp
  conv => whnf
  refine LoopW.to (LoopW.up g (fun k => [(1, I b), (2, .ptr ⟨0, 2, 0⟩ 0 0), (4, .ptr ⟨0, 4, 0⟩ 0 0), (5, I (refMask d b k)), (6, I (2 ^ k)), (7, I k)])
    (fun _ => [(⟨0, 2, 0⟩, .cells ty_api_Period [I f, I t, I d]), (⟨0, 4, 0⟩, .cells ty_api_Period [I 0, I 0, I 0])]) 7 (fun k hk ih => ?_) 0 (Nat.zero_le _)) rfl rfl
  have h1 := refMask_le d b k
  have h2 := pow7 k hk
  by_cases hlt : k < 7
  · have h3 := pow7 (k + 1) (by omega)
    rw [Int.pow_succ] at h3
    repeat' ((conv => whnf); first
      | (refine Br.tt ?_)
      | (refine Br.ff ?_)
      | (refine Need.mk (by first | omega | (simp; done) | (simp; omega)) ?_)
      | (refine Wr.keep (by omega) ?_)
      | (refine Cmp.tt (by first | omega | decide) ?_)
      | (refine Cmp.ff (by first | omega | decide) ?_)
      | (refine Rem.pos (by omega) ?_)
      | (refine Quo.pos (by omega) ?_)
      | (refine PickV.now rfl ?_)
      | (refine Pick.now rfl ?_)
      | (refine PickW.now (by first | omega | decide) rfl ?_)
      | (refine CallI.of (r_InMask g _ _ (by omega) (by omega)) ?_)
      | (refine Cmp.mk (fun h => ?_) (fun h => ?_))
      | (refine Rem.any (by omega) (fun r hr he => ?_))
      | (refine Br.mk (fun h => ?_) (fun h => ?_))
      | (refine LoopW.to (ih hlt) ?_ rfl))
    · rw [tm7' he] at h
      simp [refMask, h, Int.pow_succ, Int.mul_comm]
    · rw [tm7' he] at h
      simp [refMask, h, Int.pow_succ, Int.mul_comm]
  · have : k = 7 := by omega
    subst this
    repeat' ((conv => whnf); first
      | (refine Br.tt ?_)
      | (refine Br.ff ?_)
      | (refine Need.mk (by first | omega | (simp; done) | (simp; omega)) ?_)
      | (refine Wr.keep (by omega) ?_)
      | (refine Cmp.tt (by first | omega | decide) ?_)
      | (refine Cmp.ff (by first | omega | decide) ?_)
      | (refine Rem.pos (by omega) ?_)
      | (refine Quo.pos (by omega) ?_)
      | (refine PickV.now rfl ?_)
      | (refine Pick.now rfl ?_)
      | (refine PickW.now (by first | omega | decide) rfl ?_)
      | (refine Ret.mk rfl))
end
end Go.Proofs.YtlboecjgelnabaaDoor.Co

