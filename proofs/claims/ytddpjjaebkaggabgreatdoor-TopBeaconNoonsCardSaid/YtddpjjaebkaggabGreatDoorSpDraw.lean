
/-
  Permutations: what the program's Draw and the reference's give; equal lists.
-/
import Derived.Test.YtddpjjaebkaggabGreatDoorSpOne
namespace Go.Proofs.YtddpjjaebkaggabGreatDoor.Co
open Go Go.Evl
theorem Pick.nat {l : List Int} {k : Nat} {K : D → Prop} (h : k < l.length) (hk : K (DI (l.getD k 0))) : Pick (l.map DI) ((k : Int).toNat * 1) K := by
  refine ⟨⟨_, ?_, hk⟩⟩
  simp [List.getD, h]
def nextX (x : Int) : Int := 48271 * x % 2147483647
def swapL (l : List Int) (i j : Nat) : List Int := (l.set i (l.getD j 0)).set j (l.getD i 0)
def drawL : Nat → Int → List Int → List Int
  | 0, _, l => l
  | i + 1, x, l => drawL i (nextX x) (swapL l (i + 1) (nextX x % (i + 2)).toNat)
def idL (n : Nat) : List Int := (List.range n).map fun (i : Nat) => (i : Int)
def drawAll (key : Int) (n : Nat) : List Int := drawL (n - 1) key (idL n)
theorem idL_succ (n : Nat) : idL (n + 1) = idL n ++ [(n : Int)] := by simp [idL, List.range_succ]
theorem idL_length (n : Nat) : (idL n).length = n := by simp [idL]
theorem swapL_length (l : List Int) (i j : Nat) : (swapL l i j).length = l.length := by simp [swapL]
theorem drawL_length : ∀ (i : Nat) (x : Int) (l : List Int), (drawL i x l).length = l.length
  | 0, _, _ => rfl
  | i + 1, x, l => by simp only [drawL]; rw [drawL_length i, swapL_length]
theorem patch_set (l : List Int) (i : Nat) (v : Int) (h : i < l.length) : patch (l.map DI) i [DI v] = (l.set i v).map DI := by
  unfold patch
  rw [List.set_eq_take_append_cons_drop, if_pos h]
  simp
theorem patch_len (l : List Int) (o : Nat) (v : Int) (h : o < l.length) : (patch (l.map DI) o [DI v]).length = l.length := by
  rw [patch_set l o v h]; simp
theorem patch_two (l : List Int) (x : Int) (i k : Nat) (h1 : i + 1 < k) (h2 : l.length = k) :
    (swapL l (i + 1) (nextX x % ((i : Int) + 2)).toNat).map DI = patch (patch (l.map DI) ((0 + ((i + 1 : Nat) : Int).toNat) * 1) [DI (l.getD (48271 * x % 2147483647 % (((i + 1 : Nat) : Int) + 1)).toNat 0)])
      ((0 + (48271 * x % 2147483647 % (((i + 1 : Nat) : Int) + 1)).toNat) * 1) [DI (l.getD ((i + 1 : Nat) : Int).toNat 0)] := by
  have e0 : ((i + 1 : Nat) : Int) + 1 = (i : Int) + 2 := by omega
  have hm1 := Int.emod_nonneg (nextX x) (show (i : Int) + 2 ≠ 0 by omega)
  have hm2 := Int.emod_lt_of_pos (nextX x) (show (0 : Int) < (i : Int) + 2 by omega)
  rw [e0]
  show _ = patch (patch (l.map DI) ((0 + ((i + 1 : Nat) : Int).toNat) * 1) [DI (l.getD (nextX x % ((i : Int) + 2)).toNat 0)]) ((0 + (nextX x % ((i : Int) + 2)).toNat) * 1) [DI (l.getD ((i + 1 : Nat) : Int).toNat 0)]
  generalize nextX x % ((i : Int) + 2) = m at hm1 hm2 ⊢
  have e1 : (0 + ((i + 1 : Nat) : Int).toNat) * 1 = i + 1 := by omega
  have e2 : (0 + m.toNat) * 1 = m.toNat := by omega
  have e3 : ((i + 1 : Nat) : Int).toNat = i + 1 := by omega
  rw [e1, e2, e3, patch_set _ _ _ (by omega), patch_set _ _ _ (by simp; omega)]
  rfl
theorem flat_rep (n : Nat) : (List.replicate n [DI 0]).flatten = (List.replicate n (0 : Int)).map DI := by
  induction n with
  | zero => rfl
  | succ n ih => simp [List.replicate_succ, ih]
section
variable {E : Oracle} (g : Good E)
include g
theorem r_SameInts (a b : List Int) (ha : a.length ≤ 140737488355328) : Fc E n_ref01_SameInts [LI a, LI b] (B (decide (a = b))) := by
  refine g.fn code_ref01_SameInts rfl ?_
  by_cases hl : a.length = b.length
  · repeat' ((conv => whnf); first
  | refine Br.tt ?_
  | refine Br.ff ?_
  | refine Need.w ?_
  | refine Wr.w ?_
  | refine Cmp.t ?_
  | refine Cmp.f ?_
  | refine Rem.w ?_
  | refine Quo.w ?_
  | refine PickV.now rfl ?_
  | refine Pick.now rfl ?_
  | refine Chk.mk rfl ?_
  | refine PickW.w rfl ?_)
    refine LoopW.upP g (fun k => [(0, LI a), (1, LI b), (5, I k)]) (fun _ => []) (fun k => a.take k = b.take k) a.length (fun k hk hp ih => ?_) 0 (Nat.zero_le _) (by simp)
    by_cases hlt : k < a.length
    · have hs : a.take (k + 1) = b.take (k + 1) ↔ a.getD k 0 = b.getD k 0 := by
        have hlb : k < b.length := by omega
        have e1 : a.take (k + 1) = b.take k ++ [a.getD k 0] := by rw [List.take_add_one, hp]; simp [List.getD, hlt]
        have e2 : b.take (k + 1) = b.take k ++ [b.getD k 0] := by rw [List.take_add_one]; simp [List.getD, hlb]
        rw [e1, e2]
        simp
      repeat' ((conv => whnf); first
      | refine Br.tt ?_
      | refine Br.ff ?_
      | refine Need.w ?_
      | refine Wr.w ?_
      | refine Cmp.t ?_
      | refine Cmp.f ?_
      | refine Rem.w ?_
      | refine Quo.w ?_
      | refine PickV.now rfl ?_
      | refine Pick.now rfl ?_
      | refine Chk.mk rfl ?_
      | refine PickW.w rfl ?_
        | (refine Pick.int (by omega) ?_)
        | (refine Cmp.mk (fun h => ?_) (fun h => ?_))
        | (refine LoopW.to (ih hlt ?_) ?_ rfl)
        | (refine Ret.mk ?_))
      · exact hs.2 (by simpa using h)
      · simp
      · have : ¬ a = b := fun e => by subst e; exact h rfl
        simp [this]
    · have hk' : k = a.length := by omega
      subst hk'
      repeat' ((conv => whnf); first
      | refine Br.tt ?_
      | refine Br.ff ?_
      | refine Need.w ?_
      | refine Wr.w ?_
      | refine Cmp.t ?_
      | refine Cmp.f ?_
      | refine Rem.w ?_
      | refine Quo.w ?_
      | refine PickV.now rfl ?_
      | refine Pick.now rfl ?_
      | refine Chk.mk rfl ?_
      | refine PickW.w rfl ?_
        | (refine Ret.mk ?_))
      rw [List.take_of_length_le (Nat.le_refl _), List.take_of_length_le (by omega)] at hp
      simp [hp]
  · have : ¬ a = b := fun e => hl (by rw [e])
    repeat' ((conv => whnf); first
    | refine Br.tt ?_
    | refine Br.ff ?_
    | refine Need.w ?_
    | refine Wr.w ?_
    | refine Cmp.t ?_
    | refine Cmp.f ?_
    | refine Rem.w ?_
    | refine Quo.w ?_
    | refine PickV.now rfl ?_
    | refine Pick.now rfl ?_
    | refine Chk.mk rfl ?_
    | refine PickW.w rfl ?_
      | (refine Ret.mk ?_))
    simp [this]
omit g in
def chkDraw (key n : Int) : Int := if rng key 1 2147483646 ≠ 0 ∨ rng n 0 256 ≠ 0 then 3 else 0
end
end Go.Proofs.YtddpjjaebkaggabGreatDoor.Co
