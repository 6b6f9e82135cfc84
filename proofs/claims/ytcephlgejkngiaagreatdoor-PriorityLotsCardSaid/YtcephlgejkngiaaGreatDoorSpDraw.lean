
/-
  Permutations: what the program's Draw and the reference's give; equal lists.
-/
import Derived.Test.YtcephlgejkngiaaGreatDoorSpOne
namespace Go.Proofs.YtcephlgejkngiaaGreatDoor.Co
open Go Go.Evl
theorem Pick.nat {l : List Int} {k : Nat} {K : D → Prop} (h : k < l.length) (hk : K (DI (l.getD k 0))) : Pick (l.map DI) ((k : Int).toNat * 1) K := by
  refine ⟨⟨_, ?_, hk⟩⟩
  simp [List.getD, h]
def nextX (x : Int) : Int := 48271 * x % 2147483647
def swapL (l : List Int) (i j : Nat) : List Int := (l.set i (l.getD j 0)).set j (l.getD i 0)
def drawL : Nat → Int → List Int → List Int
  | 0, _, l => l
  | i + 1, x, l => drawL i (nextX x) (swapL l (i + 1) (nextX x % (i + 2)).toNat)
def idL (n : Nat) : List Int := (List.range n).map fun (i : Nat) => (i : Int)
def drawAll (key : Int) (n : Nat) : List Int := drawL (n - 1) key (idL n)
theorem idL_succ (n : Nat) : idL (n + 1) = idL n ++ [(n : Int)] := by simp [idL, List.range_succ]
theorem idL_length (n : Nat) : (idL n).length = n := by simp [idL]
theorem swapL_length (l : List Int) (i j : Nat) : (swapL l i j).length = l.length := by simp [swapL]
theorem drawL_length : ∀ (i : Nat) (x : Int) (l : List Int), (drawL i x l).length = l.length
  | 0, _, _ => rfl
  | i + 1, x, l => by simp only [drawL]; rw [drawL_length i, swapL_length]
theorem patch_set (l : List Int) (i : Nat) (v : Int) (h : i < l.length) : patch (l.map DI) i [DI v] = (l.set i v).map DI := by
  unfold patch
  rw [List.set_eq_take_append_cons_drop, if_pos h]
  simp
theorem patch_len (l : List Int) (o : Nat) (v : Int) (h : o < l.length) : (patch (l.map DI) o [DI v]).length = l.length := by
  rw [patch_set l o v h]; simp
theorem patch_two (l : List Int) (x : Int) (i k : Nat) (h1 : i + 1 < k) (h2 : l.length = k) :
    (swapL l (i + 1) (nextX x % ((i : Int) + 2)).toNat).map DI = patch (patch (l.map DI) ((0 + ((i + 1 : Nat) : Int).toNat) * 1) [DI (l.getD (48271 * x % 2147483647 % (((i + 1 : Nat) : Int) + 1)).toNat 0)])
      ((0 + (48271 * x % 2147483647 % (((i + 1 : Nat) : Int) + 1)).toNat) * 1) [DI (l.getD ((i + 1 : Nat) : Int).toNat 0)] := by
  have e0 : ((i + 1 : Nat) : Int) + 1 = (i : Int) + 2 := by omega
  have hm1 := Int.emod_nonneg (nextX x) (show (i : Int) + 2 ≠ 0 by omega)
  have hm2 := Int.emod_lt_of_pos (nextX x) (show (0 : Int) < (i : Int) + 2 by omega)
  rw [e0]
  show _ = patch (patch (l.map DI) ((0 + ((i + 1 : Nat) : Int).toNat) * 1) [DI (l.getD (nextX x % ((i : Int) + 2)).toNat 0)]) ((0 + (nextX x % ((i : Int) + 2)).toNat) * 1) [DI (l.getD ((i + 1 : Nat) : Int).toNat 0)]
  generalize nextX x % ((i : Int) + 2) = m at hm1 hm2 ⊢
  have e1 : (0 + ((i + 1 : Nat) : Int).toNat) * 1 = i + 1 := by omega
  have e2 : (0 + m.toNat) * 1 = m.toNat := by omega
  have e3 : ((i + 1 : Nat) : Int).toNat = i + 1 := by omega
  rw [e1, e2, e3, patch_set _ _ _ (by omega), patch_set _ _ _ (by simp; omega)]
  rfl
theorem flat_rep (n : Nat) : (List.replicate n [DI 0]).flatten = (List.replicate n (0 : Int)).map DI := by
  induction n with
  | zero => rfl
  | succ n ih => simp [List.replicate_succ, ih]
section
variable {E : Oracle} (g : Good E)
include g
theorem r_SameInts (a b : List Int) (ha : a.length ≤ 140737488355328) : Fc E n_ref01_SameInts [LI a, LI b] (B (decide (a = b))) := by
  refine g.fn code_ref01_SameInts rfl ?_
  by_cases hl : a.length = b.length
  · repeat' ((conv => whnf); first
  | refine Br.tt ?_ | refine Br.ff ?_ | refine Need.w ?_ | refine Wr.w ?_ | refine Cmp.t ?_ | refine Cmp.f ?_ | refine Rem.w ?_ | refine Quo.w ?_ | refine PickV.now rfl ?_ | refine Pick.now rfl ?_ | refine Chk.mk rfl ?_ | refine PickW.w rfl ?_)
    refine LoopW.upP g (fun k => [(0, LI a), (1, LI b), (5, I k)]) (fun _ => []) (fun k => a.take k = b.take k) a.length (fun k hk hp ih => ?_) 0 (Nat.zero_le _) (by simp)
    by_cases hlt : k < a.length
    · have hs : a.take (k + 1) = b.take (k + 1) ↔ a.getD k 0 = b.getD k 0 := by
        have hlb : k < b.length := by omega
        have e1 : a.take (k + 1) = b.take k ++ [a.getD k 0] := by rw [List.take_add_one, hp]; simp [List.getD, hlt]
        have e2 : b.take (k + 1) = b.take k ++ [b.getD k 0] := by rw [List.take_add_one]; simp [List.getD, hlb]
        rw [e1, e2]
        simp
      repeat' ((conv => whnf); first
      | refine Br.tt ?_ | refine Br.ff ?_ | refine Need.w ?_ | refine Wr.w ?_ | refine Cmp.t ?_ | refine Cmp.f ?_ | refine Rem.w ?_ | refine Quo.w ?_ | refine PickV.now rfl ?_ | refine Pick.now rfl ?_ | refine Chk.mk rfl ?_ | refine PickW.w rfl ?_
        | (refine Pick.int (by omega) ?_)
        | (refine Cmp.mk (fun h => ?_) (fun h => ?_))
        | (refine LoopW.to (ih hlt ?_) ?_ rfl)
        | (refine Ret.mk ?_))
      · exact hs.2 (by simpa using h)
      · simp
      · have : ¬ a = b := fun e => by subst e; exact h rfl
        simp [this]
    · have hk' : k = a.length := by omega
      subst hk'
      repeat' ((conv => whnf); first
      | refine Br.tt ?_ | refine Br.ff ?_ | refine Need.w ?_ | refine Wr.w ?_ | refine Cmp.t ?_ | refine Cmp.f ?_ | refine Rem.w ?_ | refine Quo.w ?_ | refine PickV.now rfl ?_ | refine Pick.now rfl ?_ | refine Chk.mk rfl ?_ | refine PickW.w rfl ?_
        | (refine Ret.mk ?_))
      rw [List.take_of_length_le (Nat.le_refl _), List.take_of_length_le (by omega)] at hp
      simp [hp]
  · have : ¬ a = b := fun e => hl (by rw [e])
    repeat' ((conv => whnf); first
    | refine Br.tt ?_ | refine Br.ff ?_ | refine Need.w ?_ | refine Wr.w ?_ | refine Cmp.t ?_ | refine Cmp.f ?_ | refine Rem.w ?_ | refine Quo.w ?_ | refine PickV.now rfl ?_ | refine Pick.now rfl ?_ | refine Chk.mk rfl ?_ | refine PickW.w rfl ?_
      | (refine Ret.mk ?_))
    simp [this]
theorem s_Draw (key : Int) (n : Nat) (hk : 1 ≤ key ∧ key ≤ 2147483646) (hn : n ≤ 256) : Fc E n_calendar_Draw [I key, I n] (.tup [LI (drawAll key n), I 0]) := by
  refine g.fn code_calendar_Draw rfl ?_
  have k1 : firstI [rng key 1 2147483646, rng n 0 256] = 0 := by
    have h1 := (@rng_zero key 1 2147483646).2 hk
    have h2 := (@rng_zero n 0 256).2 (by omega)
    simp [firstI, h1, h2]
  repeat' ((conv => whnf); first
  | refine Br.tt ?_ | refine Br.ff ?_ | refine Need.w ?_ | refine Wr.w ?_ | refine Cmp.t ?_ | refine Cmp.f ?_ | refine Rem.w ?_ | refine Quo.w ?_ | refine PickV.now rfl ?_ | refine Pick.now rfl ?_ | refine Chk.mk rfl ?_ | refine PickW.w rfl ?_
    | (refine CallI.of (s_within g _ _ _) ?_)
    | (refine CallI.of (s_first2 g _ _) ?_))
  refine LoopW.to (LoopW.up g (fun k => [(0, I key), (1, I n), (7, .ref ⟨0, 7, 0⟩ 0 k k), (22, I n), (23, I k)]) (fun k => [(⟨0, 4, 0⟩, .row true ty_int 1 0 []), (⟨0, 7, 0⟩, .row false ty_int 1 k ((idL k).map DI))]) n (fun k hk ih => ?_) 0 (Nat.zero_le _)) rfl rfl
  by_cases hlt : k < n
  · repeat' ((conv => whnf); first
  | refine Br.tt ?_ | refine Br.ff ?_ | refine Need.w ?_ | refine Wr.w ?_ | refine Cmp.t ?_ | refine Cmp.f ?_ | refine Rem.w ?_ | refine Quo.w ?_ | refine PickV.now rfl ?_ | refine Pick.now rfl ?_ | refine Chk.mk rfl ?_ | refine PickW.w rfl ?_
      | (refine LoopW.to (ih hlt) rfl ?_))
    simp [idL_succ]
  · have hk' : k = n := by omega
    subst hk'
    have hl := idL_length k
    have hrow : patch ((List.replicate k [DI 0]).flatten) (0 * 1) (List.take (min k k * 1) (if 0 = 0 ∧ k = k then (idL k).map DI else win ((idL k).map DI) (0 * 1) (k * 1))) = (idL k).map DI := by
      rw [flat_rep]
      simp only [patch]
      simp [hl, List.take_of_length_le]
    repeat' ((conv => whnf); first
    | refine Br.tt ?_ | refine Br.ff ?_ | refine Need.w ?_ | refine Wr.w ?_ | refine Cmp.t ?_ | refine Cmp.f ?_ | refine Rem.w ?_ | refine Quo.w ?_ | refine PickV.now rfl ?_ | refine Pick.now rfl ?_ | refine Chk.mk rfl ?_ | refine PickW.w rfl ?_
      | (refine Need.mk (by simp [hl]) ?_))
    by_cases h0 : k = 0
    · subst h0
      refine LoopW.step g.lim ?_
      repeat' ((conv => whnf); first
      | refine Br.tt ?_ | refine Br.ff ?_ | refine Need.w ?_ | refine Wr.w ?_ | refine Cmp.t ?_ | refine Cmp.f ?_ | refine Rem.w ?_ | refine Quo.w ?_ | refine PickV.now rfl ?_ | refine Pick.now rfl ?_ | refine Chk.mk rfl ?_ | refine PickW.w rfl ?_
        | (refine Ret.mk rfl))
    · refine LoopW.to (LoopW.by g (fun (s : Nat × Int × List Int) => s.1 < k ∧ s.2.2.length = k ∧ 0 ≤ s.2.1 ∧ s.2.1 ≤ 2147483646 ∧ drawL s.1 s.2.1 s.2.2 = drawAll key k)
        (fun s => [(9, .ref ⟨0, 32, 0⟩ 0 k k), (10, I s.2.1), (11, I s.1)])
        (fun s => [(⟨0, 4, 0⟩, .row true ty_int 1 0 []), (⟨0, 7, 0⟩, .row false ty_int 1 k ((idL k).map DI)), (⟨0, 32, 0⟩, .row true ty_int 1 k (s.2.2.map DI))])
        (fun s => s.1) (fun s hs ih => ?_) (k - 1, key, idL k) ⟨by show k - 1 < k; omega, hl, by show 0 ≤ key; omega, by show key ≤ _; omega, rfl⟩) ?_ ?_
      · obtain ⟨i, x, l⟩ := s
        obtain ⟨h1, h2, h3, h4, h5⟩ := hs
        simp only at h1 h2 h3 h4 h5 ih ⊢
        cases i with
        | zero =>
          simp only [drawL] at h5
          subst h5
          repeat' ((conv => whnf); first
          | refine Br.tt ?_ | refine Br.ff ?_ | refine Need.w ?_ | refine Wr.w ?_ | refine Cmp.t ?_ | refine Cmp.f ?_ | refine Rem.w ?_ | refine Quo.w ?_ | refine PickV.now rfl ?_ | refine Pick.now rfl ?_ | refine Chk.mk rfl ?_ | refine PickW.w rfl ?_
            | (refine Ret.mk ?_))
          simp [h2]
        | succ i =>
          have hx : 0 ≤ nextX x ∧ nextX x ≤ 2147483646 := by unfold nextX; omega
          have hm1 := Int.emod_nonneg (48271 * x % 2147483647) (show ((i + 1 : Nat) : Int) + 1 ≠ 0 by omega)
          have hm2 := Int.emod_lt_of_pos (48271 * x % 2147483647) (show (0 : Int) < ((i + 1 : Nat) : Int) + 1 by omega)
          repeat' ((conv => whnf); first
          | refine Br.tt ?_ | refine Br.ff ?_ | refine Need.w ?_ | refine Wr.w ?_ | refine Cmp.t ?_ | refine Cmp.f ?_ | refine Rem.w ?_ | refine Quo.w ?_ | refine PickV.now rfl ?_ | refine Pick.now rfl ?_ | refine Chk.mk rfl ?_ | refine PickW.w rfl ?_
            | (refine Need.mk (by simp; omega) ?_)
            | (refine Need.mk ⟨rfl, by rw [patch_len _ _ _ (by omega)]; omega, rfl⟩ ?_)
            | (refine Pick.int0 (by omega) ?_)
            | (refine LoopW.to (ih (i, nextX x, swapL l (i + 1) (nextX x % (i + 2)).toNat) ⟨by show i < k; omega, by rw [swapL_length]; exact h2, hx.1, hx.2, h5⟩ (by show i < i + 1; omega)) ?_ ?_))
          · simp [nextX]
          · exact congrArg (fun z => [((⟨0, 4, 0⟩ : Evl.Id), Ob.row true ty_int 1 0 []), (⟨0, 7, 0⟩, Ob.row false ty_int 1 k ((idL k).map DI)), (⟨0, 32, 0⟩, Ob.row true ty_int 1 k z)]) (patch_two l x i k h1 h2)
      · simp; omega
      · exact congrArg (fun z => [((⟨0, 4, 0⟩ : Evl.Id), Ob.row true ty_int 1 0 []), (⟨0, 7, 0⟩, Ob.row false ty_int 1 k ((idL k).map DI)), (⟨0, 32, 0⟩, Ob.row true ty_int 1 k z)]) hrow.symm
theorem r_Draw (key : Int) (n : Nat) (hk : 1 ≤ key ∧ key ≤ 2147483646) (hn : n ≤ 256) : Fc E n_ref01_Draw [I key, I n] (LI (drawAll key n)) := by
  refine g.fn code_ref01_Draw rfl ?_
  repeat' ((conv => whnf); first
  | refine Br.tt ?_ | refine Br.ff ?_ | refine Need.w ?_ | refine Wr.w ?_ | refine Cmp.t ?_ | refine Cmp.f ?_ | refine Rem.w ?_ | refine Quo.w ?_ | refine PickV.now rfl ?_ | refine Pick.now rfl ?_ | refine Chk.mk rfl ?_ | refine PickW.w rfl ?_)
  refine LoopW.to (LoopW.up g (fun k => [(0, I key), (1, I n), (5, .ref ⟨0, 5, 0⟩ 0 k k), (6, I k)]) (fun k => [(⟨0, 4, 0⟩, .row true ty_int 1 0 []), (⟨0, 5, 0⟩, .row true ty_int 1 k ((idL k).map DI))]) n (fun k hk ih => ?_) 0 (Nat.zero_le _)) rfl rfl
  by_cases hlt : k < n
  · repeat' ((conv => whnf); first
  | refine Br.tt ?_ | refine Br.ff ?_ | refine Need.w ?_ | refine Wr.w ?_ | refine Cmp.t ?_ | refine Cmp.f ?_ | refine Rem.w ?_ | refine Quo.w ?_ | refine PickV.now rfl ?_ | refine Pick.now rfl ?_ | refine Chk.mk rfl ?_ | refine PickW.w rfl ?_
      | (refine LoopW.to (ih hlt) rfl ?_))
    simp [idL_succ]
  · have hk' : k = n := by omega
    subst hk'
    have hl := idL_length k
    repeat' ((conv => whnf); first
    | refine Br.tt ?_ | refine Br.ff ?_ | refine Need.w ?_ | refine Wr.w ?_ | refine Cmp.t ?_ | refine Cmp.f ?_ | refine Rem.w ?_ | refine Quo.w ?_ | refine PickV.now rfl ?_ | refine Pick.now rfl ?_ | refine Chk.mk rfl ?_ | refine PickW.w rfl ?_)
    by_cases h0 : k = 0
    · subst h0
      refine LoopW.step g.lim ?_
      repeat' ((conv => whnf); first
      | refine Br.tt ?_ | refine Br.ff ?_ | refine Need.w ?_ | refine Wr.w ?_ | refine Cmp.t ?_ | refine Cmp.f ?_ | refine Rem.w ?_ | refine Quo.w ?_ | refine PickV.now rfl ?_ | refine Pick.now rfl ?_ | refine Chk.mk rfl ?_ | refine PickW.w rfl ?_
        | (refine Ret.mk rfl))
    · refine LoopW.to (LoopW.by g (fun (s : Nat × Int × List Int) => s.1 < k ∧ s.2.2.length = k ∧ 0 ≤ s.2.1 ∧ s.2.1 ≤ 2147483646 ∧ drawL s.1 s.2.1 s.2.2 = drawAll key k)
        (fun s => [(0, I s.2.1), (5, .ref ⟨0, 5, 0⟩ 0 k k), (7, I s.1)])
        (fun s => [(⟨0, 4, 0⟩, .row true ty_int 1 0 []), (⟨0, 5, 0⟩, .row true ty_int 1 k (s.2.2.map DI))])
        (fun s => s.1) (fun s hs ih => ?_) (k - 1, key, idL k) ⟨by show k - 1 < k; omega, hl, by show 0 ≤ key; omega, by show key ≤ _; omega, rfl⟩) ?_ rfl
      · obtain ⟨i, x, l⟩ := s
        obtain ⟨h1, h2, h3, h4, h5⟩ := hs
        simp only at h1 h2 h3 h4 h5 ih ⊢
        cases i with
        | zero =>
          simp only [drawL] at h5
          subst h5
          repeat' ((conv => whnf); first
          | refine Br.tt ?_ | refine Br.ff ?_ | refine Need.w ?_ | refine Wr.w ?_ | refine Cmp.t ?_ | refine Cmp.f ?_ | refine Rem.w ?_ | refine Quo.w ?_ | refine PickV.now rfl ?_ | refine Pick.now rfl ?_ | refine Chk.mk rfl ?_ | refine PickW.w rfl ?_
            | (refine Ret.mk ?_))
          simp [h2]
        | succ i =>
          have hx : 0 ≤ nextX x ∧ nextX x ≤ 2147483646 := by unfold nextX; omega
          have hm1 := Int.emod_nonneg (48271 * x % 2147483647) (show ((i + 1 : Nat) : Int) + 1 ≠ 0 by omega)
          have hm2 := Int.emod_lt_of_pos (48271 * x % 2147483647) (show (0 : Int) < ((i + 1 : Nat) : Int) + 1 by omega)
          repeat' ((conv => whnf); first
          | refine Br.tt ?_ | refine Br.ff ?_ | refine Need.w ?_ | refine Wr.w ?_ | refine Cmp.t ?_ | refine Cmp.f ?_ | refine Rem.w ?_ | refine Quo.w ?_ | refine PickV.now rfl ?_ | refine Pick.now rfl ?_ | refine Chk.mk rfl ?_ | refine PickW.w rfl ?_
            | (refine Need.mk (by simp; omega) ?_)
            | (refine Need.mk ⟨rfl, by rw [patch_len _ _ _ (by omega)]; omega, rfl⟩ ?_)
            | (refine Pick.int0 (by omega) ?_)
            | (refine LoopW.to (ih (i, nextX x, swapL l (i + 1) (nextX x % (i + 2)).toNat) ⟨by show i < k; omega, by rw [swapL_length]; exact h2, hx.1, hx.2, h5⟩ (by show i < i + 1; omega)) ?_ ?_))
          · simp [nextX]
          · exact congrArg (fun z => [((⟨0, 4, 0⟩ : Evl.Id), Ob.row true ty_int 1 0 []), (⟨0, 5, 0⟩, Ob.row true ty_int 1 k z)]) (patch_two l x i k h1 h2)
      · simp; omega
omit g in
def chkDraw (key n : Int) : Int := if rng key 1 2147483646 ≠ 0 ∨ rng n 0 256 ≠ 0 then 3 else 0
end
end Go.Proofs.YtcephlgejkngiaaGreatDoor.Co
