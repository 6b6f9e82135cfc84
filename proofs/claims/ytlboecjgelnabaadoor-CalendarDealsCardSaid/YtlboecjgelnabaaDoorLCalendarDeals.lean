
/-
  CalendarDeals returns true, for every key and number of elements: a permutation has each element once, is the same each time, and its last element is the one that the generator's first step chooses.
-/
import Derived.Test.YtlboecjgelnabaaDoorFit
import Derived.Test.YtlboecjgelnabaaDoorSpDraw
import Derived.Test.YtlboecjgelnabaaDoorAwake
namespace Go.Proofs.YtlboecjgelnabaaDoor.Co
open Go Go.Evl
set_option maxRecDepth 100000

theorem getD_set (l : List Int) (i k : Nat) (v : Int) (h : i < l.length) : (l.set i v).getD k 0 = if i = k then v else l.getD k 0 := by
  simp only [List.getD, List.getElem?_set]
  split
  · subst_vars; simp [h]
  · rfl

theorem getD_swapL (l : List Int) (i j k : Nat) (hi : i < l.length) (hj : j < l.length) : (swapL l i j).getD k 0 = if j = k then l.getD i 0 else if i = k then l.getD j 0 else l.getD k 0 := by
  unfold swapL
  rw [getD_set _ _ _ _ (by simpa using hj), getD_set _ _ _ _ hi]

/-- Each of the numbers below 'n' once. -/
structure Ord (n : Nat) (l : List Int) : Prop where
  len : l.length = n
  rng : ∀ k, k < n → 0 ≤ l.getD k 0 ∧ l.getD k 0 < n
  inj : ∀ i j, i < n → j < n → l.getD i 0 = l.getD j 0 → i = j

theorem Ord.swap {n : Nat} {l : List Int} (h : Ord n l) {i j : Nat} (hi : i < n) (hj : j < n) : Ord n (swapL l i j) := by
  have hl := h.len
  have e : ∀ k, (swapL l i j).getD k 0 = l.getD (if j = k then i else if i = k then j else k) 0 := fun k => by
    rw [getD_swapL l i j k (by omega) (by omega)]
    split
    · rfl
    · split <;> rfl
  refine ⟨by rw [swapL_length]; exact hl, fun k hk => ?_, fun a b ha hb hab => ?_⟩
  · rw [e]
    refine h.rng _ ?_
    split
    · exact hi
    · split
      · exact hj
      · exact hk
  · rw [e, e] at hab
    have := h.inj _ _ (by split; exact hi; split; exact hj; exact ha) (by split; exact hi; split; exact hj; exact hb) hab
    split at this <;> split at this <;> (try split at this) <;> (try split at this) <;> omega

theorem idx_lt (x : Int) (i : Nat) : (nextX x % ((i : Int) + 2)).toNat < i + 2 := by
  have h1 := Int.emod_nonneg (nextX x) (show (i : Int) + 2 ≠ 0 by omega)
  have h2 := Int.emod_lt_of_pos (nextX x) (show (0 : Int) < (i : Int) + 2 by omega)
  omega

theorem Ord.draw {n : Nat} : ∀ (i : Nat) (x : Int) (l : List Int), i < n → Ord n l → Ord n (drawL i x l)
  | 0, _, _, _, h => h
  | i + 1, x, l, hi, h => by
    have := idx_lt x i
    exact Ord.draw i _ _ (by omega) (h.swap hi (by omega))

theorem Ord.id (n : Nat) : Ord n (idL n) := by
  have e : ∀ k, k < n → (idL n).getD k 0 = k := fun k hk => by simp [idL, List.getD, hk]
  refine ⟨idL_length n, fun k hk => ?_, fun i j hi hj h => ?_⟩
  · rw [e k hk]; omega
  · rw [e i hi, e j hj] at h; omega

theorem draw_far : ∀ (i : Nat) (x : Int) (l : List Int) (k : Nat), i < k → k < l.length → (drawL i x l).getD k 0 = l.getD k 0
  | 0, _, _, _, _, _ => rfl
  | i + 1, x, l, k, h, hk => by
    have := idx_lt x i
    simp only [drawL]
    rw [draw_far i _ _ k (by omega) (by rw [swapL_length]; exact hk), getD_swapL _ _ _ _ (by omega) (by omega), if_neg (by omega), if_neg (by omega)]

theorem draw_last (key : Int) (n : Nat) (hn : 2 ≤ n) : (drawAll key n).getD (n - 1) 0 = nextX key % n := by
  obtain ⟨i, rfl⟩ : ∃ i, n = i + 2 := ⟨n - 2, by omega⟩
  have hx := idx_lt key i
  have h1 := Int.emod_nonneg (nextX key) (show (i : Int) + 2 ≠ 0 by omega)
  have hl := idL_length (i + 2)
  show (drawL (i + 1) key (idL (i + 2))).getD (i + 1) 0 = _
  simp only [drawL]
  rw [draw_far i _ _ (i + 1) (by omega) (by rw [swapL_length, hl]; omega), getD_swapL _ _ _ _ (by omega) (by omega)]
  have e : ∀ k, k < i + 2 → (idL (i + 2)).getD k 0 = k := fun k hk => by simp [idL, List.getD, hk]
  have e2 : ((i + 2 : Nat) : Int) = (i : Int) + 2 := by omega
  split
  · rename_i h
    rw [e _ (by omega), e2]; omega
  · rw [if_pos rfl, e _ hx, e2]; omega

section
variable {E : Oracle} (g : Good E)
include g

theorem r_IsOrder (n : Nat) (l : List Int) (h : Ord n l) (hn : n ≤ 256) : Fc E n_ref01_IsOrder [LI l] (B true) := by
  have hl := h.len
  refine g.fn code_ref01_IsOrder rfl ?_
  repeat' ((conv => whnf); first
    | (refine Br.tt ?_)
    | (refine Br.ff ?_)
    | (refine Need.mk (by first | omega | (simp; done) | (simp; omega)) ?_)
    | (refine Wr.keep (by omega) ?_)
    | (refine Cmp.tt (by first | omega | decide) ?_)
    | (refine Cmp.ff (by first | omega | decide) ?_)
    | (refine Rem.pos (by omega) ?_)
    | (refine Quo.pos (by omega) ?_)
    | (refine PickV.now rfl ?_)
    | (refine Pick.now rfl ?_)
    | (refine PickW.now (by first | omega | decide) rfl ?_))
  refine LoopW.up g (fun k => [(0, LI l), (3, I k)]) (fun _ => []) n (fun k hk ih => ?_) 0 (Nat.zero_le _)
  by_cases hlt : k < n
  · have hr := h.rng k hlt
    repeat' ((conv => whnf); first
      | (refine Br.tt ?_)
      | (refine Br.ff ?_)
      | (refine Need.mk (by first | omega | (simp; done) | (simp; omega)) ?_)
      | (refine Wr.keep (by omega) ?_)
      | (refine Cmp.tt (by first | omega | decide) ?_)
      | (refine Cmp.ff (by first | omega | decide) ?_)
      | (refine Rem.pos (by omega) ?_)
      | (refine Quo.pos (by omega) ?_)
      | (refine PickV.now rfl ?_)
      | (refine Pick.now rfl ?_)
      | (refine PickW.now (by first | omega | decide) rfl ?_)
      | (refine Pick.nat (by omega) ?_))
    refine LoopW.up g (fun j => [(0, LI l), (3, I k), (4, I j)]) (fun _ => []) k (fun j hj ih' => ?_) 0 (Nat.zero_le _)
    by_cases hlt' : j < k
    · have hne : ¬ l.getD j 0 = l.getD k 0 := fun e => by have := h.inj j k (by omega) hlt e; omega
      repeat' ((conv => whnf); first
        | (refine Br.tt ?_)
        | (refine Br.ff ?_)
        | (refine Need.mk (by first | omega | (simp; done) | (simp; omega)) ?_)
        | (refine Wr.keep (by omega) ?_)
        | (refine Cmp.tt (by first | omega | decide) ?_)
        | (refine Cmp.ff (by first | omega | decide) ?_)
        | (refine Rem.pos (by omega) ?_)
        | (refine Quo.pos (by omega) ?_)
        | (refine PickV.now rfl ?_)
        | (refine Pick.now rfl ?_)
        | (refine PickW.now (by first | omega | decide) rfl ?_)
        | (refine Pick.nat (by omega) ?_)
        | (refine Cmp.ff hne ?_)
        | (refine LoopW.to (ih' hlt') ?_ rfl))
      simp
    · repeat' ((conv => whnf); first
      | (refine Br.tt ?_)
      | (refine Br.ff ?_)
      | (refine Need.mk (by first | omega | (simp; done) | (simp; omega)) ?_)
      | (refine Wr.keep (by omega) ?_)
      | (refine Cmp.tt (by first | omega | decide) ?_)
      | (refine Cmp.ff (by first | omega | decide) ?_)
      | (refine Rem.pos (by omega) ?_)
      | (refine Quo.pos (by omega) ?_)
      | (refine PickV.now rfl ?_)
      | (refine Pick.now rfl ?_)
      | (refine PickW.now (by first | omega | decide) rfl ?_)
        | (refine LoopW.to (ih hlt) ?_ rfl))
      simp
  · repeat' ((conv => whnf); first
    | (refine Br.tt ?_)
    | (refine Br.ff ?_)
    | (refine Need.mk (by first | omega | (simp; done) | (simp; omega)) ?_)
    | (refine Wr.keep (by omega) ?_)
    | (refine Cmp.tt (by first | omega | decide) ?_)
    | (refine Cmp.ff (by first | omega | decide) ?_)
    | (refine Rem.pos (by omega) ?_)
    | (refine Quo.pos (by omega) ?_)
    | (refine PickV.now rfl ?_)
    | (refine Pick.now rfl ?_)
    | (refine PickW.now (by first | omega | decide) rfl ?_)
      | (refine Ret.mk rfl))

theorem w_CalendarDeals (key n : Int) : Fc E n_law01_CalendarDeals [I key, I n] (B true) := by
  refine g.fn code_law01_CalendarDeals rfl ?_
  have k1 := @rng_zero key 1 2147483646
  have k2 := @rng_zero n 0 256
  by_cases hc : chkDraw key n = 0
  · have hr : 1 ≤ key ∧ key ≤ 2147483646 ∧ 0 ≤ n ∧ n ≤ 256 := by
      unfold chkDraw at hc
      split at hc <;> omega
    by_cases hn : n ≤ 100
    · obtain ⟨m, rfl⟩ : ∃ m : Nat, n = m := ⟨n.toNat, by omega⟩
      have ho : Ord m (drawAll key m) := by
        rcases Nat.eq_zero_or_pos m with rfl | hp
        · exact Ord.id 0
        · exact Ord.draw _ _ _ (by omega) (Ord.id m)
      have hl := ho.len
      have hsame : Fc E n_ref01_SameInts [LI (drawAll key m), LI (drawAll key m)] (B true) := by
        have := r_SameInts g (drawAll key m) (drawAll key m) (by omega)
        simpa using this
      by_cases h2 : m < 2
      · repeat' ((conv => whnf); first
        | (refine Br.tt ?_)
        | (refine Br.ff ?_)
        | (refine Need.mk (by first | omega | (simp; done) | (simp; omega)) ?_)
        | (refine Wr.keep (by omega) ?_)
        | (refine Cmp.tt (by first | omega | decide) ?_)
        | (refine Cmp.ff (by first | omega | decide) ?_)
        | (refine Rem.pos (by omega) ?_)
        | (refine Quo.pos (by omega) ?_)
        | (refine PickV.now rfl ?_)
        | (refine Pick.now rfl ?_)
        | (refine PickW.now (by first | omega | decide) rfl ?_)
          | (refine CallI.of (s_awake g) ?_)
          | (refine CallI.of (r_CheckDraw g _ _) ?_)
          | (refine CallI.of (s_Draw g _ _ (by omega) (by omega)) ?_)
          | (refine CallI.of (r_IsOrder g m _ ho (by omega)) ?_)
          | (refine CallI.of hsame ?_)
          | (refine Ret.mk rfl))
      · have hlast := draw_last key m (by omega)
        repeat' ((conv => whnf); first
          | (refine Br.tt ?_)
          | (refine Br.ff ?_)
          | (refine Need.mk (by first | omega | (simp; done) | (simp; omega)) ?_)
          | (refine Wr.keep (by omega) ?_)
          | (refine Cmp.tt (by first | omega | decide) ?_)
          | (refine Cmp.ff (by first | omega | decide) ?_)
          | (refine Rem.pos (by omega) ?_)
          | (refine Quo.pos (by omega) ?_)
          | (refine PickV.now rfl ?_)
          | (refine Pick.now rfl ?_)
          | (refine PickW.now (by first | omega | decide) rfl ?_)
          | (refine CallI.of (s_awake g) ?_)
          | (refine CallI.of (r_CheckDraw g _ _) ?_)
          | (refine CallI.of (s_Draw g _ _ (by omega) (by omega)) ?_)
          | (refine CallI.of (r_IsOrder g m _ ho (by omega)) ?_)
          | (refine CallI.of hsame ?_)
          | (refine Pick.int (by omega) ?_)
          | (refine Cmp.tt (by rw [show ((m : Int) - 1).toNat = m - 1 by omega]; exact hlast) ?_)
          | (refine Ret.mk rfl))
    · repeat' ((conv => whnf); first
      | (refine Br.tt ?_)
      | (refine Br.ff ?_)
      | (refine Need.mk (by first | omega | (simp; done) | (simp; omega)) ?_)
      | (refine Wr.keep (by omega) ?_)
      | (refine Cmp.tt (by first | omega | decide) ?_)
      | (refine Cmp.ff (by first | omega | decide) ?_)
      | (refine Rem.pos (by omega) ?_)
      | (refine Quo.pos (by omega) ?_)
      | (refine PickV.now rfl ?_)
      | (refine Pick.now rfl ?_)
      | (refine PickW.now (by first | omega | decide) rfl ?_)
        | (refine CallI.of (s_awake g) ?_)
        | (refine CallI.of (r_CheckDraw g _ _) ?_)
        | (refine Ret.mk rfl))
  · repeat' ((conv => whnf); first
    | (refine Br.tt ?_)
    | (refine Br.ff ?_)
    | (refine Need.mk (by first | omega | (simp; done) | (simp; omega)) ?_)
    | (refine Wr.keep (by omega) ?_)
    | (refine Cmp.tt (by first | omega | decide) ?_)
    | (refine Cmp.ff (by first | omega | decide) ?_)
    | (refine Rem.pos (by omega) ?_)
    | (refine Quo.pos (by omega) ?_)
    | (refine PickV.now rfl ?_)
    | (refine Pick.now rfl ?_)
    | (refine PickW.now (by first | omega | decide) rfl ?_)
      | (refine CallI.of (s_awake g) ?_)
      | (refine CallI.of (r_CheckDraw g _ _) ?_)
      | (refine Ret.mk rfl))
end

theorem s_CalendarDeals {E : Oracle} (g : Good E) {xs : List D} (h : fitArgs Tryd.prog [3, 3] xs) : Fc E n_law01_CalendarDeals (asV xs) (B true) := by
  obtain ⟨x, y, rfl, h1, h2⟩ := args2 h
  obtain ⟨key, rfl, _⟩ := arg_int h1
  obtain ⟨n, rfl, _⟩ := arg_int h2
  exact w_CalendarDeals g key n
end Go.Proofs.YtlboecjgelnabaaDoor.Co

