
/-
  Dates: each day has one; what the program's function gives.
-/
import Derived.Test.YtddpjjaebkaggabGreatDoorSpDate
namespace Go.Proofs.YtddpjjaebkaggabGreatDoor.Co
open Go Go.Evl
theorem daysY_mono {j k : Nat} (h : j ≤ k) : daysY j ≤ daysY k := by
  induction h with
  | refl => exact Int.le_refl _
  | step _ ih => simp only [daysY]; rename_i m _; have := lenY_le (2000 + m); omega
theorem daysM_mono (y : Int) {j k : Nat} (h : j ≤ k) : daysM y j ≤ daysM y k := by
  induction h with
  | refl => exact Int.le_refl _
  | step _ ih => simp only [daysM]; rename_i m _; have := lenM_le y (m + 1); omega
theorem year_of (day : Int) (h : 0 ≤ day) : ∀ n : Nat, day < daysY n → ∃ k, k < n ∧ daysY k ≤ day ∧ day < daysY (k + 1)
  | 0, hn => by simp [daysY] at hn; omega
  | n + 1, hn => by
    by_cases hc : day < daysY n
    · obtain ⟨k, h1, h2⟩ := year_of day h n hc
      exact ⟨k, by omega, h2⟩
    · exact ⟨n, by omega, by omega, hn⟩
theorem month_of (y r : Int) (h : 0 ≤ r) : ∀ n : Nat, r < daysM y n → ∃ k, k < n ∧ daysM y k ≤ r ∧ r < daysM y (k + 1)
  | 0, hn => by simp [daysM] at hn; omega
  | n + 1, hn => by
    by_cases hc : r < daysM y n
    · obtain ⟨k, h1, h2⟩ := month_of y r h n hc
      exact ⟨k, by omega, h2⟩
    · exact ⟨n, by omega, by omega, hn⟩
structure IsDate (day y m d : Int) : Prop where
  hy : 2000 ≤ y ∧ y ≤ 2273
  hm : 1 ≤ m ∧ m ≤ 12
  hd : 1 ≤ d ∧ d ≤ lenM y m
  e : dayN y m d = day
theorem exists_date (day : Int) (h : 0 ≤ day ∧ day ≤ 100000) : ∃ y m d, IsDate day y m d := by
  obtain ⟨k, h1, h2, h3⟩ := year_of day h.1 274 (by have := daysY_le 274; omega)
  have h4 : day - daysY k < daysM (2000 + k) 12 := by rw [daysM_12]; simp only [daysY] at h3; omega
  obtain ⟨j, h5, h6, h7⟩ := month_of (2000 + k) (day - daysY k) (by omega) 12 h4
  refine ⟨2000 + k, j + 1, day - daysY k - daysM (2000 + k) j + 1, by omega, by omega, ⟨by omega, ?_⟩, ?_⟩
  · simp only [daysM] at h7; omega
  · simp only [dayN]
    rw [show (2000 + (k : Int) - 2000).toNat = k by omega, show ((j : Int) + 1 - 1).toNat = j by omega]
    omega
theorem IsDate.year {day y m d : Int} (h : IsDate day y m d) : daysY (y - 2000).toNat ≤ day ∧ day < daysY (y - 2000).toNat + lenY y := by
  obtain ⟨hy, hm, hd, e⟩ := h
  have h1 := daysM_le y (m - 1).toNat
  have h2 : daysM y ((m - 1).toNat + 1) ≤ daysM y 12 := daysM_mono y (by omega)
  rw [daysM_12] at h2
  simp only [daysM] at h2
  rw [show (((m - 1).toNat : Nat) : Int) + 1 = m by omega] at h2
  unfold dayN at e
  omega
theorem IsDate.uniq {day y m d y' m' d' : Int} (h : IsDate day y m d) (h' : IsDate day y' m' d') : y = y' ∧ m = m' ∧ d = d' := by
  have key : ∀ {y m d y' m' d' : Int}, IsDate day y m d → IsDate day y' m' d' → ¬ y < y' := by
    intro y m d y' m' d' h h' hlt
    have h1 := h.year
    have h2 := h'.year
    have h3 : daysY ((y - 2000).toNat + 1) ≤ daysY (y' - 2000).toNat := daysY_mono (by have := h.hy; have := h'.hy; omega)
    simp only [daysY] at h3
    rw [show (2000 : Int) + ((y - 2000).toNat : Nat) = y by have := h.hy; omega] at h3
    omega
  have e : y = y' := by have := key h h'; have := key h' h; omega
  subst e
  have key2 : ∀ {m d m' d' : Int}, IsDate day y m d → IsDate day y m' d' → ¬ m < m' := by
    intro m d m' d' h h' hlt
    have h1 := h.e
    have h2 := h'.e
    have h3 : daysM y ((m - 1).toNat + 1) ≤ daysM y (m' - 1).toNat := daysM_mono y (by have := h.hm; have := h'.hm; omega)
    simp only [daysM] at h3
    rw [show (((m - 1).toNat : Nat) : Int) + 1 = m by have := h.hm; omega] at h3
    have := h.hd
    have := h'.hd
    unfold dayN at h1 h2
    omega
  have e : m = m' := by have := key2 h h'; have := key2 h' h; omega
  subst e
  have h1 := h.e
  have h2 := h'.e
  unfold dayN at h1 h2
  exact ⟨rfl, rfl, by omega⟩
abbrev Dt (y m d : Int) : V := .d (.agg [DI y, DI m, DI d])
section
variable {E : Oracle} (g : Good E)
include g
theorem s_date {day y m d : Int} (h : IsDate day y m d) : Fc E n_calendar_date [I day] (Dt y m d) := by
  refine g.fn code_calendar_date rfl ?_
  have hb := h.year
  obtain ⟨hy, hm, hd, e⟩ := h
  have hbm := daysM_le y (m - 1).toNat
  have hY2 := lenY_le y
  have hM2 := lenM_le y m
  simp only [dayN] at e
  have hY := daysY_le (y - 2000).toNat
  repeat' ((conv => whnf); first
  | refine Br.tt ?_
  | refine Br.ff ?_
  | refine Need.w ?_
  | refine Wr.w ?_
  | refine Cmp.t ?_
  | refine Cmp.f ?_
  | refine Rem.w ?_
  | refine Quo.w ?_
  | refine PickV.now rfl ?_
  | refine Pick.now rfl ?_
  | refine Chk.mk rfl ?_
  | refine PickW.w rfl ?_)
  refine LoopW.to (LoopW.up g (fun k => [(0, I (day - daysY k)), (2, .ptr ⟨0, 2, 0⟩ 0 0), (3, .ptr ⟨0, 3, 0⟩ 0 0)]) (fun k => [(⟨0, 2, 0⟩, .cells ty_3_int [I 0, I 0, I 0]), (⟨0, 3, 0⟩, .cells ty_3_int [I (2000 + k), I 1, I 1])]) (y - 2000).toNat (fun k hk ih => ?_) 0 (Nat.zero_le _)) (by simp [daysY]) rfl
  have h1 := daysY_le k
  by_cases hlt : k < (y - 2000).toNat
  · have h2 := lenY_le (2000 + k)
    have h3 : daysY (k + 1) ≤ daysY (y - 2000).toNat := daysY_mono (by omega)
    simp only [daysY] at h3
    repeat' ((conv => whnf); first
    | refine Br.tt ?_
    | refine Br.ff ?_
    | refine Need.w ?_
    | refine Wr.w ?_
    | refine Cmp.t ?_
    | refine Cmp.f ?_
    | refine Rem.w ?_
    | refine Quo.w ?_
    | refine PickV.now rfl ?_
    | refine Pick.now rfl ?_
    | refine Chk.mk rfl ?_
    | refine PickW.w rfl ?_
      | (refine CallI.of (s_span g _ (by omega)) ?_)
      | (refine LoopW.to (ih hlt) ?_ ?_))
    · simp [daysY]; omega
    · simp; omega
  · have hk : (2000 : Int) + k = y := by omega
    have hk' : k = (y - 2000).toNat := by omega
    repeat' ((conv => whnf); first
    | refine Br.tt ?_
    | refine Br.ff ?_
    | refine Need.w ?_
    | refine Wr.w ?_
    | refine Cmp.t ?_
    | refine Cmp.f ?_
    | refine Rem.w ?_
    | refine Quo.w ?_
    | refine PickV.now rfl ?_
    | refine Pick.now rfl ?_
    | refine Chk.mk rfl ?_
    | refine PickW.w rfl ?_
      | (refine CallI.of (s_span g _ (by omega)) ?_)
      | (refine Cmp.ff (by rw [hk, hk']; omega) ?_))
    refine LoopW.to (LoopW.up g (fun j => [(0, I (day - daysY (y - 2000).toNat - daysM y j)), (2, .ptr ⟨0, 2, 0⟩ 0 0), (3, .ptr ⟨0, 3, 0⟩ 0 0)]) (fun j => [(⟨0, 2, 0⟩, .cells ty_3_int [I 0, I 0, I 0]), (⟨0, 3, 0⟩, .cells ty_3_int [I y, I (1 + j), I 1])]) (m - 1).toNat (fun j hj ih => ?_) 0 (Nat.zero_le _)) (by simp [daysM, hk']) (by simp [hk])
    have h4 := daysM_le y j
    by_cases hlt : j < (m - 1).toNat
    · have h2 := lenM_le y (j + 1)
      have h3 : daysM y (j + 1) ≤ daysM y (m - 1).toNat := daysM_mono y (by omega)
      simp only [daysM] at h3
      have e3 : (1 : Int) + j = j + 1 := by omega
      repeat' ((conv => whnf); first
      | refine Br.tt ?_
      | refine Br.ff ?_
      | refine Need.w ?_
      | refine Wr.w ?_
      | refine Cmp.t ?_
      | refine Cmp.f ?_
      | refine Rem.w ?_
      | refine Quo.w ?_
      | refine PickV.now rfl ?_
      | refine Pick.now rfl ?_
      | refine Chk.mk rfl ?_
      | refine PickW.w rfl ?_
        | (refine CallI.of (s_length g _ _ (by omega) (by omega)) ?_)
        | (refine Cmp.tt (by rw [e3]; omega) ?_)
        | (refine Wr.keep (by rw [e3]; omega) ?_)
        | (refine LoopW.to (ih hlt) ?_ ?_))
      · simp [daysM, e3]; omega
      · simp; omega
    · have hj : (1 : Int) + j = m := by omega
      have hj' : j = (m - 1).toNat := by omega
      repeat' ((conv => whnf); first
      | refine Br.tt ?_
      | refine Br.ff ?_
      | refine Need.w ?_
      | refine Wr.w ?_
      | refine Cmp.t ?_
      | refine Cmp.f ?_
      | refine Rem.w ?_
      | refine Quo.w ?_
      | refine PickV.now rfl ?_
      | refine Pick.now rfl ?_
      | refine Chk.mk rfl ?_
      | refine PickW.w rfl ?_
        | (refine CallI.of (s_length g _ _ (by omega) (by omega)) ?_)
        | (refine Cmp.ff (by rw [hj, hj']; omega) ?_)
        | (refine Need.mk (by simp [win]; done) ?_)
        | (refine Ret.mk ?_))
      simp only [V.d.injEq, D.agg.injEq, List.cons.injEq, D.int.injEq, true_and, and_true]
      refine ⟨hj, ?_⟩
      rw [hj']; omega
end
end Go.Proofs.YtddpjjaebkaggabGreatDoor.Co
