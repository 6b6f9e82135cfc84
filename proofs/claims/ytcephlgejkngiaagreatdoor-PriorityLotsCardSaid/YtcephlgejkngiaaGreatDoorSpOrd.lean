
/-
  Permutations as lists: each of the numbers below 'n' once.
-/
import Derived.Test.YtcephlgejkngiaaGreatDoorSpDraw
namespace Go.Proofs.YtcephlgejkngiaaGreatDoor.Co
open Go Go.Evl
set_option maxRecDepth 100000
theorem getD_set (l : List Int) (i k : Nat) (v : Int) (h : i < l.length) : (l.set i v).getD k 0 = if i = k then v else l.getD k 0 := by
  simp only [List.getD, List.getElem?_set]
  split
  · subst_vars; simp
  · rfl
theorem getD_swapL (l : List Int) (i j k : Nat) (hi : i < l.length) (hj : j < l.length) : (swapL l i j).getD k 0 = if j = k then l.getD i 0 else if i = k then l.getD j 0 else l.getD k 0 := by
  unfold swapL
  rw [getD_set _ _ _ _ (by simpa using hj), getD_set _ _ _ _ hi]
structure Ord (n : Nat) (l : List Int) : Prop where
  len : l.length = n
  rng : ∀ k, k < n → 0 ≤ l.getD k 0 ∧ l.getD k 0 < n
  inj : ∀ i j, i < n → j < n → l.getD i 0 = l.getD j 0 → i = j
theorem Ord.swap {n : Nat} {l : List Int} (h : Ord n l) {i j : Nat} (hi : i < n) (hj : j < n) : Ord n (swapL l i j) := by
  have hl := h.len
  have e : ∀ k, (swapL l i j).getD k 0 = l.getD (if j = k then i else if i = k then j else k) 0 := fun k => by
    rw [getD_swapL l i j k (by omega) (by omega)]
    split
    · rfl
    · split <;> rfl
  refine ⟨by rw [swapL_length]; exact hl, fun k hk => ?_, fun a b ha hb hab => ?_⟩
  · rw [e]
    refine h.rng _ ?_
    split
    · exact hi
    · split
      · exact hj
      · exact hk
  · rw [e, e] at hab
    have := h.inj _ _ (by split; exact hi; split; exact hj; exact ha) (by split; exact hi; split; exact hj; exact hb) hab
    split at this <;> split at this <;> (try split at this) <;> (try split at this) <;> omega
theorem idx_lt (x : Int) (i : Nat) : (nextX x % ((i : Int) + 2)).toNat < i + 2 := by
  have h1 := Int.emod_nonneg (nextX x) (show (i : Int) + 2 ≠ 0 by omega)
  have h2 := Int.emod_lt_of_pos (nextX x) (show (0 : Int) < (i : Int) + 2 by omega)
  omega
theorem Ord.draw {n : Nat} : ∀ (i : Nat) (x : Int) (l : List Int), i < n → Ord n l → Ord n (drawL i x l)
  | 0, _, _, _, h => h
  | i + 1, x, l, hi, h => by
    have := idx_lt x i
    exact Ord.draw i _ _ (by omega) (h.swap hi (by omega))
theorem Ord.id (n : Nat) : Ord n (idL n) := by
  have e : ∀ k, k < n → (idL n).getD k 0 = k := fun k hk => by simp [idL, List.getD, hk]
  refine ⟨idL_length n, fun k hk => ?_, fun i j hi hj h => ?_⟩
  · rw [e k hk]; omega
  · rw [e i hi, e j hj] at h; omega
section
variable {E : Oracle} (g : Good E)
include g
theorem r_IsOrder (n : Nat) (l : List Int) (h : Ord n l) (hn : n ≤ 256) : Fc E n_ref01_IsOrder [LI l] (B true) := by
  have hl := h.len
  refine g.fn code_ref01_IsOrder rfl ?_
  repeat' ((conv => whnf); first
  | refine Br.tt ?_ | refine Br.ff ?_ | refine Need.w ?_ | refine Wr.w ?_ | refine Cmp.t ?_ | refine Cmp.f ?_ | refine Rem.w ?_ | refine Quo.w ?_ | refine PickV.now rfl ?_ | refine Pick.now rfl ?_ | refine Chk.mk rfl ?_ | refine PickW.w rfl ?_)
  refine LoopW.up g (fun k => [(0, LI l), (3, I k)]) (fun _ => []) n (fun k hk ih => ?_) 0 (Nat.zero_le _)
  by_cases hlt : k < n
  · have hr := h.rng k hlt
    repeat' ((conv => whnf); first
    | refine Br.tt ?_ | refine Br.ff ?_ | refine Need.w ?_ | refine Wr.w ?_ | refine Cmp.t ?_ | refine Cmp.f ?_ | refine Rem.w ?_ | refine Quo.w ?_ | refine PickV.now rfl ?_ | refine Pick.now rfl ?_ | refine Chk.mk rfl ?_ | refine PickW.w rfl ?_
      | (refine Pick.nat (by omega) ?_))
    refine LoopW.up g (fun j => [(0, LI l), (3, I k), (4, I j)]) (fun _ => []) k (fun j hj ih' => ?_) 0 (Nat.zero_le _)
    by_cases hlt' : j < k
    · have hne : ¬ l.getD j 0 = l.getD k 0 := fun e => by have := h.inj j k (by omega) hlt e; omega
      repeat' ((conv => whnf); first
      | refine Br.tt ?_ | refine Br.ff ?_ | refine Need.w ?_ | refine Wr.w ?_ | refine Cmp.t ?_ | refine Cmp.f ?_ | refine Rem.w ?_ | refine Quo.w ?_ | refine PickV.now rfl ?_ | refine Pick.now rfl ?_ | refine Chk.mk rfl ?_ | refine PickW.w rfl ?_
        | (refine Pick.nat (by omega) ?_)
        | (refine Cmp.ff hne ?_)
        | (refine LoopW.to (ih' hlt') ?_ rfl))
      simp
    · repeat' ((conv => whnf); first
    | refine Br.tt ?_ | refine Br.ff ?_ | refine Need.w ?_ | refine Wr.w ?_ | refine Cmp.t ?_ | refine Cmp.f ?_ | refine Rem.w ?_ | refine Quo.w ?_ | refine PickV.now rfl ?_ | refine Pick.now rfl ?_ | refine Chk.mk rfl ?_ | refine PickW.w rfl ?_
        | (refine LoopW.to (ih hlt) ?_ rfl))
      simp
  · repeat' ((conv => whnf); first
  | refine Br.tt ?_ | refine Br.ff ?_ | refine Need.w ?_ | refine Wr.w ?_ | refine Cmp.t ?_ | refine Cmp.f ?_ | refine Rem.w ?_ | refine Quo.w ?_ | refine PickV.now rfl ?_ | refine Pick.now rfl ?_ | refine Chk.mk rfl ?_ | refine PickW.w rfl ?_
      | (refine Ret.mk rfl))
end
end Go.Proofs.YtcephlgejkngiaaGreatDoor.Co
