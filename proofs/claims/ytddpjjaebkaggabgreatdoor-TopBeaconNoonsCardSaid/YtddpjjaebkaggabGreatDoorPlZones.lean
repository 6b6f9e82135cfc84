
/-
  Zones, the plain law: at most two universal moments; gaps and doubles; summer time.
-/
import Derived.Test.YtddpjjaebkaggabGreatDoorSpUnj
import Derived.Test.YtddpjjaebkaggabGreatDoorSpSea
namespace Go.Proofs.YtddpjjaebkaggabGreatDoor.Co
open Go Go.Evl
section
variable {o : Int} {l : List (Int × Int)} (hz : chkZone o l = 0)
include hz
theorem off_step {i j : Nat} (hij : i ≤ j) (hj : j ≤ l.length) : offK o l j - offK o l i ≤ 180 * ((j : Int) - i) ∧ offK o l i - offK o l j ≤ 180 * ((j : Int) - i) := by
  induction j with
  | zero => obtain rfl : i = 0 := by omega
            omega
  | succ j ih =>
    by_cases e : i = j + 1
    · subst e; omega
    · have h1 := ih (by omega) (by omega)
      have h2 := (errZ_zero.1 ((chkZone_zero.1 hz).2.2 j (by omega))).2.2.1
      have h3 : offK o l (j + 1) = (l.getD j (0, 0)).2 := rfl
      omega
theorem mom_step {i j : Nat} (hij : i ≤ j) (hj : j < l.length) : 1440 * ((j : Int) - i) ≤ (l.getD j (0, 0)).1 - (l.getD i (0, 0)).1 := by
  induction j with
  | zero => obtain rfl : i = 0 := by omega
            omega
  | succ j ih =>
    by_cases e : i = j + 1
    · subst e; omega
    · have h1 := ih (by omega) (by omega)
      have h2 := (errZ_zero.1 ((chkZone_zero.1 hz).2.2 (j + 1) (by omega))).2.2.2 (by omega)
      have h3 : momK l (j + 1) = (l.getD j (0, 0)).1 := rfl
      omega
omit hz in
def IsAt (l : List (Int × Int)) (u : Int) (j k : Nat) : Prop := j ≤ k ∧ (∀ i, i + 1 = j → (l.getD i (0, 0)).1 ≤ u) ∧ ∀ i, j ≤ i → i < k → u < (l.getD i (0, 0)).1
omit hz in
theorem isAt_exists (o : Int) (l : List (Int × Int)) (u : Int) : ∀ k, ∃ j, IsAt l u j k ∧ atN o l u k = offK o l j
  | 0 => ⟨0, ⟨Nat.le_refl _, fun i h => by omega, fun i h1 h2 => by omega⟩, rfl⟩
  | k + 1 => by
    simp only [atN]
    by_cases h : (l.getD k (0, 0)).1 ≤ u
    · rw [if_pos h]
      exact ⟨k + 1, ⟨Nat.le_refl _, fun i e => by obtain rfl : i = k := by omega
                                                  exact h, fun i h1 h2 => by omega⟩, rfl⟩
    · rw [if_neg h]
      obtain ⟨j, ⟨h1, h2, h3⟩, h4⟩ := isAt_exists o l u k
      refine ⟨j, ⟨by omega, h2, fun i h5 h6 => ?_⟩, h4⟩
      by_cases e : i = k
      · subst e; omega
      · exact h3 i h5 (by omega)
omit hz in
theorem isAt_val {u : Int} {j : Nat} (h : IsAt l u j l.length) : atN o l u l.length = offK o l j := by
  obtain ⟨j', h', e⟩ := isAt_exists o l u l.length
  rw [e]
  have : j' = j := by
    rcases Nat.lt_trichotomy j' j with hlt | heq | hlt
    · have h1 := h'.2.2 (j - 1) (by omega) (by have := h.1; omega)
      have h2 := h.2.1 (j - 1) (by omega)
      omega
    · exact heq
    · have h1 := h.2.2 (j' - 1) (by omega) (by have := h'.1; omega)
      have h2 := h'.2.1 (j' - 1) (by omega)
      omega
  rw [this]
omit hz in
theorem isAt_lt {m u v : Int} {i j : Nat} (hu : IsAt l u i l.length) (hv : IsAt l v j l.length) (hlt : u < v) (e1 : u + offK o l i = m) (e2 : v + offK o l j = m) : i < j := by
  rcases Nat.lt_trichotomy i j with h | h | h
  · exact h
  · subst h; omega
  · have h1 := hv.2.2 (i - 1) (by omega) (by have := hu.1; omega)
    have h2 := hu.2.1 (i - 1) (by omega)
    omega
theorem no_three {m u1 u2 u3 : Int} (h12 : u1 < u2) (h23 : u2 < u3) (e1 : u1 + atN o l u1 l.length = m) (e2 : u2 + atN o l u2 l.length = m) (e3 : u3 + atN o l u3 l.length = m) : False := by
  obtain ⟨j1, a1, b1⟩ := isAt_exists o l u1 l.length
  obtain ⟨j2, a2, b2⟩ := isAt_exists o l u2 l.length
  obtain ⟨j3, a3, b3⟩ := isAt_exists o l u3 l.length
  rw [b1] at e1
  rw [b2] at e2
  rw [b3] at e3
  have k12 := isAt_lt a1 a2 h12 e1 e2
  have k23 := isAt_lt a2 a3 h23 e2 e3
  have s1 := (off_step hz (show j1 ≤ j3 by omega) a3.1)
  have s2 := mom_step hz (show j1 ≤ j3 - 1 by omega) (by have := a3.1; omega)
  have s3 := a3.2.1 (j3 - 1) (by omega)
  have s4 := a1.2.2 j1 (Nat.le_refl _) (by have := a3.1; omega)
  omega
theorem uniA_two (m : Int) : (uniA o l m).length ≤ 2 := by
  have hs := uniA_strict o l m
  have hm : ∀ x ∈ uniA o l m, x + atN o l x l.length = m := fun x hx => (uniA_mem.1 hx).2
  match h : uniA o l m with
  | [] => simp
  | [_] => simp
  | [_, _] => simp
  | a :: b :: c :: r =>
    rw [h] at hs hm
    simp only [List.pairwise_cons] at hs
    exact (no_three hz (hs.1 b (by simp)) (hs.2.1 c (by simp)) (hm a (by simp)) (hm b (by simp)) (hm c (by simp))).elim
theorem near {k : Nat} (hk : k < l.length) {x m : Int} (hm : m = (l.getD k (0, 0)).1 + offK o l k ∨ m = (l.getD k (0, 0)).1 + offK o l (k + 1)) (e : x + atN o l x l.length = m) :
    (x + offK o l k = m ∧ x < (l.getD k (0, 0)).1) ∨ (x + offK o l (k + 1) = m ∧ (l.getD k (0, 0)).1 ≤ x) := by
  obtain ⟨j, a, b⟩ := isAt_exists o l x l.length
  rw [b] at e
  have h1 := a.1
  have o1 := off_step hz (show k ≤ k + 1 by omega) (by omega)
  rcases Nat.lt_trichotomy j k with h | h | h
  · exfalso
    have s1 := a.2.2 j (Nat.le_refl _) (by omega)
    have s2 := mom_step hz (show j ≤ k by omega) hk
    have s3 := off_step hz (show j ≤ k by omega) (by omega)
    have s4 := off_step hz (show j ≤ k + 1 by omega) (by omega)
    omega
  · subst h
    exact .inl ⟨e, a.2.2 j (Nat.le_refl _) hk⟩
  · by_cases h2 : j = k + 1
    · subst h2
      exact .inr ⟨e, a.2.1 k rfl⟩
    · exfalso
      have s1 := a.2.1 (j - 1) (by omega)
      have s2 := mom_step hz (show k ≤ j - 1 by omega) (by omega)
      have s3 := off_step hz (show k ≤ j by omega) h1
      have s4 := off_step hz (show k + 1 ≤ j by omega) h1
      omega
theorem gap {k : Nat} (hk : k < l.length) (h : offK o l k < (l.getD k (0, 0)).2) : uniA o l ((l.getD k (0, 0)).1 + offK o l k) = [] := by
  refine List.eq_nil_iff_forall_not_mem.2 fun x hx => ?_
  have e3 : offK o l (k + 1) = (l.getD k (0, 0)).2 := rfl
  have := near hz hk (.inl rfl) (uniA_mem.1 hx).2
  omega
theorem double {k : Nat} (hk : k < l.length) (h : (l.getD k (0, 0)).2 < offK o l k) (hM : 180 ≤ (l.getD k (0, 0)).1) :
    uniA o l ((l.getD k (0, 0)).1 + (l.getD k (0, 0)).2) = [(l.getD k (0, 0)).1 + (l.getD k (0, 0)).2 - offK o l k, (l.getD k (0, 0)).1] := by
  have e3 : offK o l (k + 1) = (l.getD k (0, 0)).2 := rfl
  have z := errZ_zero.1 ((chkZone_zero.1 hz).2.2 k hk)
  refine strict_ext (uniA_strict o l _) (List.pairwise_cons.2 ⟨fun y hy => by rw [List.mem_singleton] at hy; omega, by simp⟩) fun x => ?_
  rw [uniA_mem]
  simp only [List.mem_cons, List.not_mem_nil, or_false]
  constructor
  · rintro ⟨_, h2⟩
    have := near hz hk (.inr (by rw [e3])) h2
    omega
  · rintro (rfl | rfl)
    · have : IsAt l ((l.getD k (0, 0)).1 + (l.getD k (0, 0)).2 - offK o l k) k l.length := by
        refine ⟨by omega, fun i hi => ?_, fun i h1 h2 => ?_⟩
        · have := mom_step hz (show i ≤ k by omega) hk
          omega
        · have := mom_step hz h1 h2
          omega
      rw [isAt_val this]
      omega
    · have : IsAt l (l.getD k (0, 0)).1 (k + 1) l.length := by
        refine ⟨by omega, fun i hi => ?_, fun i h1 h2 => ?_⟩
        · obtain rfl : i = k := by omega
          exact Int.le_refl _
        · have := mom_step hz (show k ≤ i by omega) h2
          omega
      rw [isAt_val this, e3]
      omega
end
theorem daysY_272 : daysY 272 ≤ 99500 := by decide +kernel
theorem sunM_facts (y : Int) (hy : 2000 ≤ y ∧ y ≤ 2272) : 0 ≤ sunM y 3 ∧ sunM y 3 + 150 ≤ sunM y 10 ∧ sunM y 10 ≤ 99990 := by
  have h1 := march y hy.1
  have h2 := october y hy.1
  have h3 := sun_le (dayN y 3 31)
  have h4 := sun_le (dayN y 10 31)
  have h5 := daysY_mono (show (y - 2000).toNat ≤ 272 by omega)
  have h6 := daysY_272
  have h7 := daysY_le (y - 2000).toNat
  have e3 : sunM y 3 = sun (dayN y 3 31) := rfl
  have e10 : sunM y 10 = sun (dayN y 10 31) := rfl
  rw [e3, e10]
  split at h1 <;> split at h2 <;> omega
theorem sum1 (o y : Int) : sumL o y 1 = [(1440 * sunM y 3 + 60, o + 60), (1440 * sunM y 10 + 60, o)] := by
  simp [sumL]
theorem sum1_chk (o y : Int) (hy : 2000 ≤ y ∧ y ≤ 2272) (ho : -599 ≤ o ∧ o ≤ 599) : chkZone o (sumL o y 1) = 0 := by
  have h := sunM_facts y hy
  rw [sum1, chkZone_zero]
  refine ⟨by omega, by simp, fun i hi => ?_⟩
  simp only [List.length_cons, List.length_nil] at hi
  match i, hi with
  | 0, _ => rw [errZ_zero]; simp [offK, momK]; omega
  | 1, _ => rw [errZ_zero]; simp [offK, momK]; omega
theorem sum1_at (o y m : Int) (hy : 2000 ≤ y ∧ y ≤ 2272) : atN o (sumL o y 1) m 2 = o + if 1440 * sunM y 3 + 60 ≤ m ∧ m < 1440 * sunM y 10 + 60 then 60 else 0 := by
  have h := sunM_facts y hy
  rw [sum1]
  simp only [atN, List.getD_cons_succ, List.getD_cons_zero]
  repeat' split
  all_goals omega
end Go.Proofs.YtddpjjaebkaggabGreatDoor.Co
