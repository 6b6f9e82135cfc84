
/-
  Universal: the program's and the reference's.
-/
import Derived.Test.YtddpjjaebkaggabGreatDoorPlUni
import Derived.Test.YtddpjjaebkaggabGreatDoorSpDraw
namespace Go.Proofs.YtddpjjaebkaggabGreatDoor.Co
open Go Go.Evl
def rowC (l : List Int) (j : Nat) : List Int := ddL l j ++ l.drop (ddL l j).length
theorem rowC_length (l : List Int) (j : Nat) (h : j ≤ l.length) : (rowC l j).length = l.length := by
  have := ddL_le l j
  simp [rowC]; omega
theorem rowC_get (l : List Int) (j i : Nat) (h1 : (ddL l j).length ≤ i) : (rowC l j).getD i 0 = l.getD i 0 := by
  unfold rowC
  simp only [List.getD]
  rw [List.getElem?_append_right h1, List.getElem?_drop]
  congr 2
  omega
theorem rowC_same (l : List Int) (j : Nat) (h : ¬ (j = 0 ∨ l.getD j 0 ≠ l.getD (j - 1) 0)) : rowC l (j + 1) = rowC l j := by
  unfold rowC
  simp only [ddL, if_neg h, List.append_nil]
theorem rowC_new (l : List Int) (j : Nat) (h : j = 0 ∨ l.getD j 0 ≠ l.getD (j - 1) 0) (hj : j < l.length) : rowC l (j + 1) = (rowC l j).set (ddL l j).length (l.getD j 0) := by
  have hle := ddL_le l j
  unfold rowC
  simp only [ddL, if_pos h, List.length_append, List.length_singleton]
  rw [List.set_append_right _ _ (Nat.le_refl _), Nat.sub_self, List.drop_eq_getElem_cons (show (ddL l j).length < l.length by omega), List.set_cons_zero]
  simp only [List.append_assoc, List.singleton_append]
theorem ddL_all (l : List Int) : ∀ k, (∀ i, 0 < i → i < k → l.getD i 0 ≠ l.getD (i - 1) 0) → k ≤ l.length → ddL l k = l.take k
  | 0, _, _ => rfl
  | k + 1, h, hk => by
    have := ddL_all l k (fun i h1 h2 => h i h1 (by omega)) (by omega)
    simp only [ddL]
    rw [if_pos (by rcases Nat.eq_zero_or_pos k with h0 | h0; exact .inl h0; exact .inr (h k h0 (by omega))), this, List.take_add_one, List.getElem?_eq_getElem (show k < l.length by omega)]
    simp [List.getD, List.getElem?_eq_getElem (show k < l.length by omega)]
theorem Pick.at {l : List Int} {n : Nat} {K : D → Prop} (p : Nat) (hp : n = p) (h : p < l.length) (hk : K (DI (l.getD p 0))) : Pick (l.map DI) n K := by
  subst hp
  refine ⟨⟨_, ?_, hk⟩⟩
  simp [List.getD, h]
section
variable {E : Oracle} (g : Good E)
include g
set_option maxHeartbeats 4000000 in
theorem s_Compact (l : List Int) (A B0 C0 : Evl.Ob) (K : V → Mem → Prop)
    (hK : ∀ xs : List D, xs.length = l.length → xs.take (ddL l l.length).length = (ddL l l.length).map DI → K (.ref ⟨0, 10, 0⟩ 0 (ddL l l.length).length l.length) [(⟨0, 2, 0⟩, A), (⟨0, 4, 0⟩, B0), (⟨0, 25, 0⟩, C0), (⟨0, 10, 0⟩, .row true ty_int 1 l.length xs), (⟨1, 2, 0⟩, .row true ty_int 1 0 [])]) (hl : l.length ≤ 1000000) :
    In E 1 n_slices_Compact_Lint_int [.ref ⟨0, 10, 0⟩ 0 l.length l.length] [(⟨0, 2, 0⟩, A), (⟨0, 4, 0⟩, B0), (⟨0, 25, 0⟩, C0), (⟨0, 10, 0⟩, .row true ty_int 1 l.length (l.map DI))] K := by
  refine In.enter g.lim rfl code_slices_Compact_Lint_int ?_
  have hsame : (∀ i, 0 < i → i < l.length → l.getD i 0 ≠ l.getD (i - 1) 0) → K (.ref ⟨0, 10, 0⟩ 0 l.length l.length) [(⟨0, 2, 0⟩, A), (⟨0, 4, 0⟩, B0), (⟨0, 25, 0⟩, C0), (⟨0, 10, 0⟩, .row true ty_int 1 l.length (l.map DI)), (⟨1, 2, 0⟩, .row true ty_int 1 0 [])] := by
    intro h
    have h1 := ddL_all l l.length h (Nat.le_refl _)
    rw [List.take_length] at h1
    have := hK (l.map DI) (by simp) (by rw [h1]; rw [List.take_of_length_le (by simp)])
    rwa [h1] at this
  by_cases h2 : l.length < 2
  · repeat' ((conv => whnf); first
  | refine Br.tt ?_
  | refine Br.ff ?_
  | refine Need.w ?_
  | refine Wr.w ?_
  | refine Cmp.t ?_
  | refine Cmp.f ?_
  | refine Rem.w ?_
  | refine Quo.w ?_
  | refine PickV.now rfl ?_
  | refine Pick.now rfl ?_
  | refine Chk.mk rfl ?_
  | refine PickW.w rfl ?_
      | (exact hsame (fun i h3 h4 => absurd h4 (by omega))))
  · repeat' ((conv => whnf); first
  | refine Br.tt ?_
  | refine Br.ff ?_
  | refine Need.w ?_
  | refine Wr.w ?_
  | refine Cmp.t ?_
  | refine Cmp.f ?_
  | refine Rem.w ?_
  | refine Quo.w ?_
  | refine PickV.now rfl ?_
  | refine Pick.now rfl ?_
  | refine Chk.mk rfl ?_
  | refine PickW.w rfl ?_)
    refine LoopW.to (LoopW.upP g (fun k => [(0, .ref ⟨0, 10, 0⟩ 0 l.length l.length), (3, I (k + 1 : Nat))]) (fun _ => [(⟨0, 2, 0⟩, A), (⟨0, 4, 0⟩, B0), (⟨0, 25, 0⟩, C0), (⟨0, 10, 0⟩, .row true ty_int 1 l.length (l.map DI)), (⟨1, 2, 0⟩, .row true ty_int 1 0 [])]) (fun k => ∀ i, 0 < i → i < k + 1 → l.getD i 0 ≠ l.getD (i - 1) 0) (l.length - 1) (fun k hk hp ih => ?_) 0 (Nat.zero_le _) (fun i h3 h4 => absurd h4 (by omega))) rfl rfl
    by_cases hlt : k < l.length - 1
    · by_cases heq : l.getD (k + 1) 0 = l.getD k 0
      · have hd1 := ddL_all l (k + 1) hp (by omega)
        have hn : ¬ (k + 1 = 0 ∨ l.getD (k + 1) 0 ≠ l.getD (k + 1 - 1) 0) := by simpa using heq
        have hd2 : ddL l (k + 2) = l.take (k + 1) := by
          show ddL l (k + 1) ++ _ = _
          rw [if_neg hn, List.append_nil, hd1]
        have hd3 : (ddL l (k + 2)).length = k + 1 := by rw [hd2]; simp; omega
        have hr : rowC l (k + 2) = l := by unfold rowC; rw [hd3, hd2]; simp
        repeat' ((conv => whnf); first
        | refine Br.tt ?_
        | refine Br.ff ?_
        | refine Need.w ?_
        | refine Wr.w ?_
        | refine Cmp.t ?_
        | refine Cmp.f ?_
        | refine Rem.w ?_
        | refine Quo.w ?_
        | refine PickV.now rfl ?_
        | refine Pick.now rfl ?_
        | refine Chk.mk rfl ?_
        | refine PickW.w rfl ?_
          | (refine Pick.at (k + 1) (by omega) (by omega) ?_)
          | (refine Pick.at k (by omega) (by omega) ?_)
          | (refine Cmp.tt heq ?_)
          | (refine Bounds.mk (by omega) ?_))
        refine LoopW.to (LoopW.upP g (fun j => [(0, .ref ⟨0, 10, 0⟩ 0 l.length l.length), (3, I (ddL l (k + 2 + j)).length), (4, .ref ⟨0, 10, 0⟩ (k + 1) (l.length - (k + 1)) l.length), (5, I (j + 1 : Nat))]) (fun j => [(⟨0, 2, 0⟩, A), (⟨0, 4, 0⟩, B0), (⟨0, 25, 0⟩, C0), (⟨0, 10, 0⟩, .row true ty_int 1 l.length ((rowC l (k + 2 + j)).map DI)), (⟨1, 2, 0⟩, .row true ty_int 1 0 [])]) (fun j => (ddL l (k + 2 + j)).length ≤ k + 1 + j) (l.length - (k + 2)) (fun j hj hpj ihj => ?_) 0 (Nat.zero_le _) (by rw [Nat.add_zero, hd3]; omega)) ?_ ?_
        · have hrl := rowC_length l (k + 2 + j) (by omega)
          have g1 := rowC_get l (k + 2 + j) (k + 2 + j) (by omega)
          have g2 := rowC_get l (k + 2 + j) (k + 1 + j) (by omega)
          by_cases hjt : j < l.length - (k + 2)
          · by_cases hne : l.getD (k + 2 + j) 0 = l.getD (k + 1 + j) 0
            · have hn2 : ¬ (k + 2 + j = 0 ∨ l.getD (k + 2 + j) 0 ≠ l.getD (k + 2 + j - 1) 0) := by
                rw [show k + 2 + j - 1 = k + 1 + j by omega]
                simp only [not_or, ne_eq, Decidable.not_not]
                exact ⟨by omega, hne⟩
              have e1 := rowC_same l _ hn2
              have e2 : ddL l (k + 2 + j + 1) = ddL l (k + 2 + j) := by
                show ddL l (k + 2 + j) ++ _ = _
                rw [if_neg hn2, List.append_nil]
              repeat' ((conv => whnf); first
              | refine Br.tt ?_
              | refine Br.ff ?_
              | refine Need.w ?_
              | refine Wr.w ?_
              | refine Cmp.t ?_
              | refine Cmp.f ?_
              | refine Rem.w ?_
              | refine Quo.w ?_
              | refine PickV.now rfl ?_
              | refine Pick.now rfl ?_
              | refine Chk.mk rfl ?_
              | refine PickW.w rfl ?_
                | (refine Pick.at (k + 2 + j) (by omega) (by omega) ?_)
                | (refine Pick.at (k + 1 + j) (by omega) (by omega) ?_)
                | (refine Cmp.tt (by rw [g1, g2]; exact hne) ?_)
                | (refine LoopW.to (ihj hjt (by rw [show k + 2 + (j + 1) = k + 2 + j + 1 by omega, e2]; omega)) ?_ ?_))
              · rw [show k + 2 + (j + 1) = k + 2 + j + 1 by omega, e2]; rfl
              · rw [show k + 2 + (j + 1) = k + 2 + j + 1 by omega, e1]
            · have hn2 : (k + 2 + j = 0 ∨ l.getD (k + 2 + j) 0 ≠ l.getD (k + 2 + j - 1) 0) := by
                rw [show k + 2 + j - 1 = k + 1 + j by omega]
                exact .inr hne
              have e1 := rowC_new l _ hn2 (by omega)
              have e2 : (ddL l (k + 2 + j + 1)).length = (ddL l (k + 2 + j)).length + 1 := by
                show (ddL l (k + 2 + j) ++ _).length = _
                rw [if_pos hn2]; simp
              have e3 := patch_set (rowC l (k + 2 + j)) (ddL l (k + 2 + j)).length (l.getD (k + 2 + j) 0) (by omega)
              have e4 : (0 + ((ddL l (k + 2 + j)).length : Int).toNat) * 1 = (ddL l (k + 2 + j)).length := by omega
              repeat' ((conv => whnf); first
              | refine Br.tt ?_
              | refine Br.ff ?_
              | refine Need.w ?_
              | refine Wr.w ?_
              | refine Cmp.t ?_
              | refine Cmp.f ?_
              | refine Rem.w ?_
              | refine Quo.w ?_
              | refine PickV.now rfl ?_
              | refine Pick.now rfl ?_
              | refine Chk.mk rfl ?_
              | refine PickW.w rfl ?_
                | (refine Pick.at (k + 2 + j) (by omega) (by omega) ?_)
                | (refine Pick.at (k + 1 + j) (by omega) (by omega) ?_)
                | (refine Cmp.ff (by rw [g1, g2]; exact hne) ?_)
                | (refine Need.mk ⟨rfl, by simp; omega, rfl⟩ ?_)
                | (refine LoopW.to (ihj hjt (by rw [show k + 2 + (j + 1) = k + 2 + j + 1 by omega, e2]; omega)) ?_ ?_))
              · rw [show k + 2 + (j + 1) = k + 2 + j + 1 by omega, e2]; rfl
              · rw [show k + 2 + (j + 1) = k + 2 + j + 1 by omega, e1, ← e3, g1, e4]
          · have hjj : k + 2 + j = l.length := by omega
            rw [hjj] at hrl hpj
            have hle := ddL_le l l.length
            simp only [hjj]
            repeat' ((conv => whnf); first
            | refine Br.tt ?_
            | refine Br.ff ?_
            | refine Need.w ?_
            | refine Wr.w ?_
            | refine Cmp.t ?_
            | refine Cmp.f ?_
            | refine Rem.w ?_
            | refine Quo.w ?_
            | refine PickV.now rfl ?_
            | refine Pick.now rfl ?_
            | refine Chk.mk rfl ?_
            | refine PickW.w rfl ?_
              | (refine Bounds.mk (by omega) ?_)
              | (refine Some'.mk ⟨_, if_pos (by refine ⟨rfl, ?_, rfl⟩; omega), ?_⟩))
            conv => whnf
            refine hK (patch ((rowC l l.length).map DI) ((0 + ((ddL l l.length).length : Int).toNat) * 1) (List.replicate (l.length - (ddL l l.length).length) [DI 0]).flatten) ?_ ?_
            · simp [patch, hrl]; omega
            · simp [patch, rowC]
        · simp; omega
        · rw [Nat.add_zero, hr]
      · repeat' ((conv => whnf); first
      | refine Br.tt ?_
      | refine Br.ff ?_
      | refine Need.w ?_
      | refine Wr.w ?_
      | refine Cmp.t ?_
      | refine Cmp.f ?_
      | refine Rem.w ?_
      | refine Quo.w ?_
      | refine PickV.now rfl ?_
      | refine Pick.now rfl ?_
      | refine Chk.mk rfl ?_
      | refine PickW.w rfl ?_
          | (refine Pick.at (k + 1) (by omega) (by omega) ?_)
          | (refine Pick.at k (by omega) (by omega) ?_)
          | (refine Cmp.ff heq ?_)
          | (refine LoopW.to (ih hlt ?_) ?_ rfl))
        · intro i h3 h4
          by_cases e : i = k + 1
          · subst e; exact heq
          · exact hp i h3 (by omega)
        · rfl
    · repeat' ((conv => whnf); first
    | refine Br.tt ?_
    | refine Br.ff ?_
    | refine Need.w ?_
    | refine Wr.w ?_
    | refine Cmp.t ?_
    | refine Cmp.f ?_
    | refine Rem.w ?_
    | refine Quo.w ?_
    | refine PickV.now rfl ?_
    | refine Pick.now rfl ?_
    | refine Chk.mk rfl ?_
    | refine PickW.w rfl ?_
        | (exact hsame (fun i h3 h4 => hp i h3 (by omega))))
end
end Go.Proofs.YtddpjjaebkaggabGreatDoor.Co
