
/-
  Plain laws: the lines of a text, each with its line feed.
-/
import Derived.Test.YtmjifdpcoaeehaaGreatDoorPlSplit
namespace Go.Proofs.YtmjifdpcoaeehaaGreatDoor.Co
open Go Go.Evl
def pcs : List UInt8 → List (List UInt8)
  | [] => []
  | c :: r => if c = 10 then [10] :: pcs r else
    match pcs r with
    | [] => [[c]]
    | p :: q => (c :: p) :: q
theorem pcs_nil : pcs [] = [] := rfl
theorem pcs_lf : ∀ (a r : List UInt8), (10 : UInt8) ∉ a → pcs (a ++ 10 :: r) = (a ++ [10]) :: pcs r
  | [], r, _ => by simp [pcs]
  | c :: a, r, h => by
    have hc : ¬ c = 10 := fun e => h (by simp [e])
    have h' : (10 : UInt8) ∉ a := fun hm => h (by simp [hm])
    simp only [List.cons_append, pcs, if_neg hc, pcs_lf a r h']
theorem pcs_end : ∀ (a : List UInt8), a ≠ [] → (10 : UInt8) ∉ a → pcs a = [a]
  | [], h, _ => absurd rfl h
  | [c], _, h => by
    have hc : ¬ c = 10 := fun e => h (by simp [e])
    simp only [pcs, if_neg hc]
  | c :: d :: a, _, h => by
    have hc : ¬ c = 10 := fun e => h (by simp [e])
    have h' : (10 : UInt8) ∉ d :: a := fun hm => h (List.mem_cons_of_mem _ hm)
    have := pcs_end (d :: a) (by simp) h'
    rw [pcs, if_neg hc, this]
theorem pcs_flat : ∀ s : List UInt8, (pcs s).flatten = s
  | [] => rfl
  | c :: r => by
    have ih := pcs_flat r
    rw [pcs]
    split
    · rename_i h; simp [ih, h]
    · split
      · rename_i h; rw [h] at ih; simp only [List.flatten_nil] at ih; simp [← ih]
      · rename_i h; rw [h] at ih; simp only [List.flatten_cons] at ih ⊢; rw [← ih]; simp
theorem pcs_ne {s : List UInt8} (h : s ≠ []) : pcs s ≠ [] := fun e => h (by rw [← pcs_flat s, e]; rfl)
theorem pcs_len : ∀ s : List UInt8, (pcs s).length ≤ s.length
  | [] => by simp [pcs]
  | c :: r => by
    have ih := pcs_len r
    rw [pcs]
    split
    · simp; omega
    · split
      · simp
      · rename_i h; rw [h] at ih; simp only [List.length_cons] at ih ⊢; omega
theorem pcs_mem_len : ∀ (s : List UInt8), ∀ p ∈ pcs s, p.length ≤ s.length
  | [], p, h => by simp [pcs] at h
  | c :: r, p, h => by
    have ih := pcs_mem_len r
    rw [pcs] at h
    split at h
    · rcases List.mem_cons.1 h with rfl | h
      · simp
      · have := ih p h; simp; omega
    · split at h
      · simp at h; subst h; simp
      · rename_i q0 q hq
        rw [hq] at ih
        rcases List.mem_cons.1 h with rfl | h
        · have := ih q0 (by simp); simp; omega
        · have := ih p (List.mem_cons_of_mem _ h); simp; omega
theorem lf_split : ∀ s : List UInt8, (10 : UInt8) ∈ s → ∃ a r, s = a ++ 10 :: r ∧ (10 : UInt8) ∉ a
  | [], h => absurd h List.not_mem_nil
  | c :: s, h => by
    by_cases e : c = 10
    · exact ⟨[], s, by rw [e]; rfl, List.not_mem_nil⟩
    · obtain ⟨a, r, h1, h2⟩ := lf_split s ((List.mem_cons.1 h).resolve_left fun x => e x.symm)
      exact ⟨c :: a, r, by rw [h1]; rfl, fun hm => (List.mem_cons.1 hm).elim (fun x => e x.symm) h2⟩
theorem pcs_cases (s : List UInt8) (h : s ≠ []) : ((10 : UInt8) ∉ s ∧ pcs s = [s]) ∨ ∃ a r, (10 : UInt8) ∉ a ∧ s = a ++ 10 :: r ∧ pcs s = (a ++ [10]) :: pcs r := by
  by_cases hm : (10 : UInt8) ∈ s
  · obtain ⟨a, r, e, ha⟩ := lf_split s hm
    exact .inr ⟨a, r, ha, e, by rw [e]; exact pcs_lf a r ha⟩
  · exact .inl ⟨hm, pcs_end s h hm⟩
end Go.Proofs.YtmjifdpcoaeehaaGreatDoor.Co
