
/-
  Places given in turns: what holds of the order, in plain Lean.
-/
import Derived.Test.YtcephlgejkngiaaGreatDoorPlShr
import Derived.Test.YtcephlgejkngiaaGreatDoorSpOrd
namespace Go.Proofs.YtcephlgejkngiaaGreatDoor.Co
open Go Go.Evl
theorem pickQ_cases {w : Bool} {A C A' C' : List Int} {x : Int} (h : pickQ w A C = some (x, A', C')) : (A = x :: A' ∧ C' = C ∧ (w = true ∨ C = [])) ∨ (C = x :: C' ∧ A' = A ∧ (w = false ∨ A = [])) := by
  cases w <;> cases A <;> cases C <;> simp [pickQ] at h <;> obtain ⟨rfl, rfl, rfl⟩ := h <;> simp
theorem shrG_perm (m fo : Int) : ∀ (n i : Nat) (A C : List Int), A.length + C.length = n → (shrG m fo n i A C).Perm (A ++ C)
  | 0, i, A, C, h => by
    have h1 : A = [] := List.length_eq_zero_iff.1 (by omega)
    have h2 : C = [] := List.length_eq_zero_iff.1 (by omega)
    subst h1
    subst h2
    exact .refl _
  | n + 1, i, A, C, h => by
    obtain ⟨x, A', C', hp⟩ := pickQ_some (w := decide ((i : Int) % m < fo)) (A := A) (C := C) (by omega)
    have hl := pickQ_len hp
    have ih := shrG_perm m fo n (i + 1) A' C' (by omega)
    rw [shrG, hp]
    rcases pickQ_cases hp with ⟨rfl, rfl, _⟩ | ⟨rfl, rfl, _⟩
    · exact ih.cons x
    · exact (ih.cons x).trans List.perm_middle.symm
theorem shrG_length (m fo : Int) {n i : Nat} {A C : List Int} (h : A.length + C.length = n) : (shrG m fo n i A C).length = n := by
  rw [(shrG_perm m fo n i A C h).length_eq, List.length_append, h]
theorem selG_mem {v : Bool} {x : Int} : ∀ {k : Nat} {l : List Bool}, x ∈ selG v k l → ∃ i : Nat, x = ((k + i : Nat) : Int) ∧ l[i]? = some v
  | k, [], h => by simp [selG] at h
  | k, b :: r, h => by
    have tl : x ∈ selG v (k + 1) r → ∃ i : Nat, x = ((k + i : Nat) : Int) ∧ (b :: r)[i]? = some v := by
      intro h
      obtain ⟨i, rfl, h1⟩ := selG_mem h
      exact ⟨i + 1, by omega, by simpa using h1⟩
    simp only [selG] at h
    split at h
    · rename_i hc
      subst hc
      rcases List.mem_cons.1 h with rfl | h
      · exact ⟨0, by simp, rfl⟩
      · exact tl h
    · exact tl h
theorem selG_up (v : Bool) : ∀ (k : Nat) (l : List Bool), (selG v k l).Pairwise (· < ·)
  | _, [] => .nil
  | k, b :: r => by
    have ih := selG_up v (k + 1) r
    simp only [selG]
    split
    · refine .cons (fun x hx => ?_) ih
      obtain ⟨i, rfl, _⟩ := selG_mem hx
      omega
    · exact ih
theorem shrL_length (m fo : Int) (l : List Bool) : (shrL m fo l).length = l.length := shrG_length m fo (selG_length 0 l)
theorem shrL_ord (m fo : Int) (l : List Bool) : Ord l.length (shrL m fo l) := by
  have hp : (shrL m fo l).Perm (selG true 0 l ++ selG false 0 l) := shrG_perm m fo _ _ _ _ (selG_length 0 l)
  have hl := shrL_length m fo l
  have hn : (shrL m fo l).Nodup := by
    rw [hp.nodup_iff, List.nodup_append]
    refine ⟨(selG_up true 0 l).imp fun h => by omega, (selG_up false 0 l).imp fun h => by omega, fun a ha b hb hab => ?_⟩
    obtain ⟨i, h1, h2⟩ := selG_mem ha
    obtain ⟨j, h3, h4⟩ := selG_mem hb
    have : i = j := by omega
    subst this
    rw [h2] at h4
    cases h4
  have hg : ∀ k, k < l.length → (shrL m fo l).getD k 0 ∈ shrL m fo l := fun k hk => by
    have hk' : k < (shrL m fo l).length := by omega
    simp [List.getD, hk']
  refine ⟨hl, fun k hk => ?_, fun i j hi hj e => ?_⟩
  · have hm := hp.mem_iff.1 (hg k hk)
    rcases List.mem_append.1 hm with h | h
    · obtain ⟨i, h1, h2⟩ := selG_mem h
      have := (List.getElem?_eq_some_iff.1 h2).1
      omega
    · obtain ⟨i, h1, h2⟩ := selG_mem h
      have := (List.getElem?_eq_some_iff.1 h2).1
      omega
  · have hi' : i < (shrL m fo l).length := by omega
    have hj' : j < (shrL m fo l).length := by omega
    simp only [List.getD, List.getElem?_eq_getElem hi', List.getElem?_eq_getElem hj', Option.getD_some] at e
    have hw := List.pairwise_iff_getElem.1 hn
    rcases Nat.lt_trichotomy i j with h | h | h
    · exact absurd e (hw i j hi' hj' h)
    · exact h
    · exact absurd e.symm (hw j i hj' hi' h)
structure Quo (l : List Bool) (tot : Nat) (i : Nat) (A C : List Int) (got due la lc : Int) : Prop where
  hg : got + A.length = tot
  hc : (i : Int) - got + C.length + tot = l.length
  lo : got ≥ tot ∨ got ≥ due
  hi : got ≤ due ∨ got ≤ i + tot - l.length
  ua : A.Pairwise (· < ·)
  uc : C.Pairwise (· < ·)
  fa : ∀ x ∈ A, la ≤ x
  fc : ∀ x ∈ C, lc ≤ x
  na : ∀ x ∈ A, ∃ k : Nat, x = k ∧ l[k]? = some true
  nc : ∀ x ∈ C, ∃ k : Nat, x = k ∧ l[k]? = some false
  du : 0 ≤ due ∧ due ≤ i
  tl : tot ≤ l.length
theorem Quo.zero (l : List Bool) : Quo l (selG true 0 l).length 0 (selG true 0 l) (selG false 0 l) 0 0 (-1) (-1) := by
  have h := selG_length 0 l
  refine ⟨by omega, by omega, .inr (by omega), .inl (by omega), selG_up _ _ _, selG_up _ _ _, fun x hx => ?_, fun x hx => ?_, fun x hx => ?_, fun x hx => ?_, by omega, by omega⟩
  all_goals obtain ⟨i, h1, h2⟩ := selG_mem hx
  · omega
  · omega
  · exact ⟨i, by omega, h2⟩
  · exact ⟨i, by omega, h2⟩
theorem Quo.new {l : List Bool} {tot i : Nat} {C : List Int} {x : Int} {A : List Int} {got due la lc : Int} {w : Bool} (h : Quo l tot i (x :: A) C got due la lc) (hw : w = true ∨ C = []) : Quo l tot (i + 1) A C (got + 1) (due + if w then 1 else 0) x lc := by
  obtain ⟨hg, hc, lo, hi, ua, uc, fa, fc, na, nc, du, tl⟩ := h
  rw [List.length_cons] at hg
  have h1 := List.pairwise_cons.1 ua
  refine ⟨by omega, by omega, ?_, ?_, h1.2, uc, fun y hy => by have := h1.1 y hy; omega, fc, fun y hy => na y (List.mem_cons_of_mem _ hy), nc, by split <;> omega, tl⟩
  · cases w
    · rcases lo with lo | lo
      · exact .inl (by omega)
      · exact .inr (by simp; omega)
    · rcases lo with lo | lo
      · exact .inl (by omega)
      · exact .inr (by simp; omega)
  · rcases hw with rfl | rfl
    · rcases hi with hi | hi
      · exact .inl (by simp; omega)
      · exact .inr (by omega)
    · rw [List.length_nil] at hc
      exact .inr (by omega)
theorem Quo.old {l : List Bool} {tot i : Nat} {C : List Int} {x : Int} {A : List Int} {got due la lc : Int} {w : Bool} (h : Quo l tot i A (x :: C) got due la lc) (hw : w = false ∨ A = []) : Quo l tot (i + 1) A C got (due + if w then 1 else 0) la x := by
  obtain ⟨hg, hc, lo, hi, ua, uc, fa, fc, na, nc, du, tl⟩ := h
  rw [List.length_cons] at hc
  have h1 := List.pairwise_cons.1 uc
  refine ⟨by omega, by omega, ?_, ?_, ua, h1.2, fa, fun y hy => by have := h1.1 y hy; omega, na, fun y hy => nc y (List.mem_cons_of_mem _ hy), by split <;> omega, tl⟩
  · rcases hw with rfl | rfl
    · rcases lo with lo | lo
      · exact .inl (by omega)
      · exact .inr (by simp; omega)
    · rw [List.length_nil] at hg
      exact .inl (by omega)
  · rcases hi with hi | hi
    · exact .inl (by split <;> omega)
    · exact .inr (by omega)
end Go.Proofs.YtcephlgejkngiaaGreatDoor.Co
