
/-
  Places given in turns to newcomers and others: the plain law.
-/
namespace Go.Proofs.YtcephlgejkngiaaGreatDoor.Co
def pickQ : Bool → List Int → List Int → Option (Int × List Int × List Int)
  | true, a :: A, C => some (a, A, C)
  | true, [], c :: C => some (c, [], C)
  | false, A, c :: C => some (c, A, C)
  | false, a :: A, [] => some (a, A, [])
  | _, [], [] => none
def shrG (m fo : Int) : Nat → Nat → List Int → List Int → List Int
  | 0, _, _, _ => []
  | n + 1, i, A, C => match pickQ (decide ((i : Int) % m < fo)) A C with
    | some (x, A', C') => x :: shrG m fo n (i + 1) A' C'
    | none => []
def remG (v : Bool) : Nat → List Bool → List Bool → List Int
  | k, b :: r, t :: s => if b = v ∧ t = false then (k : Int) :: remG v (k + 1) r s else remG v (k + 1) r s
  | _, [], _ => []
  | _, _ :: _, [] => []
def selG (v : Bool) : Nat → List Bool → List Int
  | _, [] => []
  | k, b :: r => if b = v then (k : Int) :: selG v (k + 1) r else selG v (k + 1) r
def shrL (m fo : Int) (l : List Bool) : List Int := shrG m fo l.length 0 (selG true 0 l) (selG false 0 l)
theorem selG_append (v b : Bool) : ∀ (k : Nat) (l : List Bool), selG v k (l ++ [b]) = selG v k l ++ (if b = v then [((k + l.length : Nat) : Int)] else [])
  | k, [] => by simp [selG]
  | k, x :: r => by
    simp only [List.cons_append, selG]
    rw [selG_append v b (k + 1) r, List.length_cons, show k + 1 + r.length = k + (r.length + 1) by omega]
    split <;> rfl
theorem selG_take (v : Bool) {l : List Bool} {k : Nat} (h : k < l.length) : selG v 0 (l.take (k + 1)) = selG v 0 (l.take k) ++ (if l[k] = v then [(k : Int)] else []) := by
  rw [List.take_add_one, List.getElem?_eq_getElem h]
  show selG v 0 (l.take k ++ [l[k]]) = _
  rw [selG_append, List.length_take, Nat.min_eq_left (by omega), Nat.zero_add]
theorem selG_length : ∀ (k : Nat) (l : List Bool), (selG true k l).length + (selG false k l).length = l.length
  | _, [] => rfl
  | k, b :: r => by
    have := selG_length (k + 1) r
    cases b <;> simp only [selG, reduceIte, reduceCtorEq, List.length_cons] <;> omega
theorem selG_le (v : Bool) (k : Nat) (l : List Bool) : (selG v k l).length ≤ l.length := by
  have := selG_length k l
  cases v <;> omega
theorem remG_sel (v : Bool) : ∀ (k : Nat) (l : List Bool), remG v k l (List.replicate l.length false) = selG v k l
  | _, [] => rfl
  | k, b :: r => by
    simp only [List.length_cons, List.replicate_succ, remG, selG, and_true]
    rw [remG_sel v (k + 1) r]
theorem remG_mem {v : Bool} {x : Int} : ∀ {k : Nat} {l t : List Bool}, x ∈ remG v k l t → ∃ i : Nat, x = ((k + i : Nat) : Int) ∧ l[i]? = some v ∧ t[i]? = some false
  | k, [], t, h => by simp [remG] at h
  | k, b :: r, [], h => by simp [remG] at h
  | k, b :: r, a :: s, h => by
    simp only [remG] at h
    have tl : x ∈ remG v (k + 1) r s → ∃ i : Nat, x = ((k + i : Nat) : Int) ∧ (b :: r)[i]? = some v ∧ (a :: s)[i]? = some false := by
      intro h
      obtain ⟨i, rfl, h1, h2⟩ := remG_mem h
      exact ⟨i + 1, by omega, by simpa using h1, by simpa using h2⟩
    split at h
    · rename_i hc
      obtain ⟨rfl, rfl⟩ := hc
      rcases List.mem_cons.1 h with rfl | h
      · exact ⟨0, by simp, rfl, rfl⟩
      · exact tl h
    · exact tl h
theorem remG_ge {v : Bool} {x : Int} {k : Nat} {l t : List Bool} (h : x ∈ remG v k l t) : (k : Int) ≤ x := by
  obtain ⟨i, rfl, _⟩ := remG_mem h
  omega
theorem remG_other {v b : Bool} (hb : b ≠ v) : ∀ {k : Nat} {l t : List Bool} {i : Nat}, l[i]? = some b → remG v k l (t.set i true) = remG v k l t
  | k, [], t, i, h => by simp at h
  | k, x :: r, [], i, h => by simp
  | k, x :: r, a :: s, 0, h => by
    simp at h
    subst h
    simp [remG, hb]
  | k, x :: r, a :: s, i + 1, h => by
    simp only [List.set_cons_succ, remG]
    rw [remG_other hb (by simpa using h)]
theorem remG_head {v : Bool} {x : Int} {q : List Int} : ∀ {k : Nat} {l t : List Bool}, remG v k l t = x :: q → ∃ i : Nat, x = ((k + i : Nat) : Int) ∧ l[i]? = some v ∧ t[i]? = some false ∧ remG v k l (t.set i true) = q
  | k, [], t, h => by simp [remG] at h
  | k, b :: r, [], h => by simp [remG] at h
  | k, b :: r, a :: s, h => by
    simp only [remG] at h
    split at h
    · rename_i hc
      obtain ⟨rfl, rfl⟩ := hc
      obtain ⟨rfl, rfl⟩ := List.cons.inj h
      exact ⟨0, by simp, rfl, rfl, by simp [remG]⟩
    · rename_i hc
      obtain ⟨i, rfl, h1, h2, h3⟩ := remG_head h
      refine ⟨i + 1, by omega, by simpa using h1, by simpa using h2, ?_⟩
      simp only [List.set_cons_succ, remG]
      rw [if_neg hc, h3]
def bestQ : List Int → List Int → Int
  | x :: _, _ => x
  | [], y :: _ => y
  | [], [] => -1
theorem bestQ_step (w v t : Bool) (k : Nat) (r s : List Bool) (V : Int → Bool) (hV : ∀ x ∈ remG w (k + 1) r s, V x = w) (hV' : ∀ x ∈ remG (!w) (k + 1) r s, V x = !w) :
    let o := bestQ (remG w (k + 1) r s) (remG (!w) (k + 1) r s)
    bestQ (remG w k (v :: r) (t :: s)) (remG (!w) k (v :: r) (t :: s)) = if t = true then o else if o < 0 ∨ v = w ∨ V o = v then (k : Int) else o := by
  have hg : ∀ x ∈ remG w (k + 1) r s, ((k + 1 : Nat) : Int) ≤ x := fun x hx => remG_ge hx
  simp only [remG]
  generalize remG w (k + 1) r s = A at *
  generalize remG (!w) (k + 1) r s = C at *
  cases t with
  | true => simp
  | false =>
    by_cases hv : v = w
    · subst hv
      simp [bestQ]
    · have hv2 : v = !w := by cases v <;> cases w <;> simp_all
      subst hv2
      cases A with
      | nil =>
        cases C with
        | nil => simp [bestQ]
        | cons c C =>
          have := hV' c (List.mem_cons_self ..)
          simp [bestQ, this]
      | cons a A =>
        have h1 := hV a (List.mem_cons_self ..)
        have h2 := hg a (List.mem_cons_self ..)
        have h3 : ¬ a < 0 := by omega
        have h4 : ¬ w = !w := by cases w <;> simp
        have h5 : ¬ (!w) = w := by cases w <;> simp
        simp [bestQ, h1, h3, h4, h5]
theorem pickQ_best {w : Bool} {A C : List Int} {x : Int} {A' C' : List Int} (h : pickQ w A C = some (x, A', C')) : bestQ (if w then A else C) (if w then C else A) = x := by
  cases w <;> cases A <;> cases C <;> simp [pickQ] at h <;> simp [bestQ, h.1]
theorem pickQ_len {w : Bool} {A C A' C' : List Int} {x : Int} (h : pickQ w A C = some (x, A', C')) : A'.length + C'.length + 1 = A.length + C.length := by
  cases w <;> cases A <;> cases C <;> simp [pickQ] at h <;> obtain ⟨rfl, rfl, rfl⟩ := h <;> simp <;> omega
theorem pickQ_some {w : Bool} {A C : List Int} (h : 0 < A.length + C.length) : ∃ x A' C', pickQ w A C = some (x, A', C') := by
  cases w <;> cases A <;> cases C <;> simp [pickQ] at h ⊢
theorem pickQ_rem {w : Bool} {l t : List Bool} {x : Int} {A' C' : List Int} (h : pickQ w (remG true 0 l t) (remG false 0 l t) = some (x, A', C')) :
    ∃ i : Nat, x = (i : Int) ∧ i < l.length ∧ i < t.length ∧ remG true 0 l (t.set i true) = A' ∧ remG false 0 l (t.set i true) = C' := by
  have tt : ∀ {A : List Int}, remG true 0 l t = x :: A → ∃ i : Nat, x = (i : Int) ∧ i < l.length ∧ i < t.length ∧ remG true 0 l (t.set i true) = A ∧ remG false 0 l (t.set i true) = remG false 0 l t := by
    intro A h
    obtain ⟨i, h1, h2, h3, h4⟩ := remG_head h
    refine ⟨i, by omega, (List.getElem?_eq_some_iff.1 h2).1, (List.getElem?_eq_some_iff.1 h3).1, h4, remG_other (by decide) h2⟩
  have ff : ∀ {A : List Int}, remG false 0 l t = x :: A → ∃ i : Nat, x = (i : Int) ∧ i < l.length ∧ i < t.length ∧ remG true 0 l (t.set i true) = remG true 0 l t ∧ remG false 0 l (t.set i true) = A := by
    intro A h
    obtain ⟨i, h1, h2, h3, h4⟩ := remG_head h
    refine ⟨i, by omega, (List.getElem?_eq_some_iff.1 h2).1, (List.getElem?_eq_some_iff.1 h3).1, remG_other (by decide) h2, h4⟩
  generalize hA : remG true 0 l t = A at *
  generalize hC : remG false 0 l t = C at *
  cases w <;> cases A <;> cases C <;> simp [pickQ] at h <;> obtain ⟨rfl, rfl, rfl⟩ := h <;> first | exact tt rfl | exact ff rfl
end Go.Proofs.YtcephlgejkngiaaGreatDoor.Co
