
/-
  Linked requests, plainly: which pairs valid requests have.
-/
import Derived.Test.YtddpjjaebkaggaaGreatDoorMsPap
namespace Go.Proofs.YtddpjjaebkaggaaGreatDoor.Co
open Go Go.Evl
def isA (q : Rqt) : Bool := !decide (q.li = []) && decide (q.ki = [65])
def OkP (l r : List Rqt) : Prop := ∀ q ∈ r, q.li ≠ [] → ∃ o ∈ l, o.nm = q.li ∧ unfit o q = false
def prL (l : List Rqt) : Nat → List Rqt → List (Nat × Nat)
  | _, [] => []
  | i, q :: r => (if isA q = true then [(i, (atG q.li 0 l).toNat)] else []) ++ prL l (i + 1) r
theorem at_of {l : List Rqt} (hu : (nmsQ l).Nodup) {s : List UInt8} {k : Nat} (hk : k < l.length) (h : l[k].nm = s) : atG s 0 l = k := by
  rcases atG_spec s l 0 with ⟨_, h2⟩ | ⟨j, hj, h1, h2, _⟩
  · refine absurd ?_ h2
    unfold nmsQ
    rw [List.mem_map]
    exact ⟨_, List.getElem_mem hk, h⟩
  · rw [h1, Nat.zero_add]
    have hp := List.pairwise_iff_getElem.1 hu
    have hn : (nmsQ l).length = l.length := List.length_map ..
    have e : l[j].nm = l[k].nm := h2.trans h.symm
    rcases Nat.lt_trichotomy j k with h' | h' | h'
    · exact absurd (by simpa [nmsQ] using e) (hp j k (by omega) (by omega) h')
    · rw [h']
    · exact absurd (by simpa [nmsQ] using e.symm) (hp k j (by omega) (by omega) h')
theorem prsG_ok {l : List Rqt} (hu : (nmsQ l).Nodup) : ∀ (r : List Rqt) (acc : List (Nat × Nat)) (i : Nat), OkP l r → prsG l acc i r = (acc ++ prL l i r, 0)
  | [], acc, i, _ => by simp [prsG, prL]
  | q :: r, acc, i, h => by
    have ht : OkP l r := fun x hx => h x (List.mem_cons_of_mem _ hx)
    by_cases h0 : q.li = []
    · have hA : isA q = false := by simp [isA, h0]
      rw [prsG, if_pos h0, prL, hA, prsG_ok hu r acc (i + 1) ht]
      rfl
    · obtain ⟨o, ho, h1, h2⟩ := h q (List.mem_cons_self ..) h0
      obtain ⟨k, hk, rfl⟩ := List.getElem_of_mem ho
      have ha := at_of hu hk h1
      rw [prsG_some h0 hk ha, if_neg (by rw [h2]; decide)]
      by_cases hA : q.ki = [65]
      · have hA' : isA q = true := by simp [isA, h0, hA]
        rw [if_pos hA, prsG_ok hu r _ (i + 1) ht, prL, hA', if_pos rfl, ha, Int.toNat_natCast, List.append_assoc]
      · have hA' : isA q = false := by simp [isA, hA]
        rw [if_neg hA, prsG_ok hu r _ (i + 1) ht, prL, hA']
        rfl
theorem prsG_bad {l : List Rqt} : ∀ (r : List Rqt) (acc : List (Nat × Nat)) (i : Nat), ¬ OkP l r → prsG l acc i r = ([], 10) ∨ prsG l acc i r = ([], 32)
  | [], acc, i, h => absurd (fun q hq => by cases hq) h
  | q :: r, acc, i, h => by
    have step : ∀ acc i, ¬ OkP l r → prsG l acc i r = ([], 10) ∨ prsG l acc i r = ([], 32) := fun acc i => prsG_bad r acc i
    by_cases h0 : q.li = []
    · rw [prsG, if_pos h0]
      exact step _ _ fun hr => h fun x hx hx0 => by
        rcases List.mem_cons.1 hx with rfl | hx
        · exact absurd h0 hx0
        · exact hr x hx hx0
    · rcases atG_spec q.li l 0 with ⟨h1, _⟩ | ⟨k, hk, h1, h2, _⟩
      · exact .inl (prsG_none h0 h1)
      · rw [Nat.zero_add] at h1
        rw [prsG_some h0 hk h1]
        by_cases hf : unfit l[k] q = true
        · rw [if_pos hf]
          exact .inr rfl
        · rw [if_neg hf]
          have hr : ¬ OkP l r := fun hr => h fun x hx hx0 => by
            rcases List.mem_cons.1 hx with rfl | hx
            · exact ⟨_, List.getElem_mem hk, h2, by simpa using hf⟩
            · exact hr x hx hx0
          split
          · exact step _ _ hr
          · exact step _ _ hr
theorem prL_mem {l : List Rqt} : ∀ (r : List Rqt) (i : Nat) (p : Nat × Nat), p ∈ prL l i r ↔ ∃ (j : Nat) (h : j < r.length), isA r[j] = true ∧ p = (i + j, (atG r[j].li 0 l).toNat)
  | [], i, p => by simp [prL]
  | q :: r, i, p => by
    have ih := prL_mem (l := l) r (i + 1) p
    rw [prL, List.mem_append, ih]
    constructor
    · rintro (h | ⟨j, h, h1, h2⟩)
      · by_cases hA : isA q = true
        · rw [if_pos hA, List.mem_singleton] at h
          exact ⟨0, by simp, hA, h⟩
        · rw [if_neg hA] at h
          cases h
      · refine ⟨j + 1, by simpa using h, by simpa using h1, ?_⟩
        rw [h2]
        simp only [List.getElem_cons_succ, Prod.mk.injEq, and_true]
        omega
    · rintro ⟨j, h, h1, h2⟩
      cases j with
      | zero =>
        left
        have h1 : isA q = true := h1
        rw [if_pos h1, List.mem_singleton, h2]
        rfl
      | succ j =>
        right
        refine ⟨j, by simpa using h, by simpa using h1, ?_⟩
        rw [h2]
        simp only [List.getElem_cons_succ, Prod.mk.injEq, and_true]
        omega
theorem prL_asc {l : List Rqt} : ∀ (r : List Rqt) (i : Nat), (prL l i r).Pairwise fun a b => a.1 < b.1
  | [], _ => List.Pairwise.nil
  | q :: r, i => by
    have ih := prL_asc (l := l) r (i + 1)
    rw [prL, List.pairwise_append]
    refine ⟨by split <;> simp, ih, fun a ha b hb => ?_⟩
    obtain ⟨j, h, _, hb⟩ := (prL_mem r (i + 1) b).1 hb
    split at ha
    · rw [List.mem_singleton] at ha
      rw [ha, hb]
      show i < i + 1 + j
      omega
    · cases ha
theorem prL_len {l m : List Rqt} : ∀ (r : List Rqt) (i : Nat), (prL l i r).length = (r.filter isA).length
  | [], _ => rfl
  | q :: r, i => by
    have ih := prL_len (l := l) (m := m) r (i + 1)
    rw [prL, List.length_append, ih, List.filter_cons]
    split <;> simp <;> omega
structure PairOk (l : List Rqt) (p : Nat × Nat) : Prop where
  a : p.1 < l.length
  d : p.2 < l.length
  ka : l[p.1].ki = [65]
  kd : l[p.2].ki ≠ [65]
  ca : l[p.1].ca = l[p.2].ca
  la : l[p.1].li = l[p.2].nm
  ld : l[p.2].li = l[p.1].nm
theorem pair_ok {l : List Rqt} (hu : (nmsQ l).Nodup) (hp : OkP l l) {p : Nat × Nat} (h : p ∈ prL l 0 l) : PairOk l p := by
  obtain ⟨j, hj, h1, rfl⟩ := (prL_mem l 0 p).1 h
  simp only [isA, Bool.and_eq_true, Bool.not_eq_true', decide_eq_false_iff_not, decide_eq_true_eq] at h1
  obtain ⟨o, ho, h2, h3⟩ := hp _ (List.getElem_mem hj) h1.1
  obtain ⟨k, hk, rfl⟩ := List.getElem_of_mem ho
  have ha := at_of hu hk h2
  simp only [unfit, Bool.or_eq_false_iff, Bool.not_eq_false', decide_eq_true_eq, decide_eq_false_iff_not] at h3
  have e1 : 0 + j = j := Nat.zero_add j
  have e2 : (atG l[j].li 0 l).toNat = k := by rw [ha, Int.toNat_natCast]
  refine ⟨by simpa [e1] using hj, by simpa [e2] using hk, ?_, ?_, ?_, ?_, ?_⟩
  all_goals simp only [e1, e2]
  · exact h1.2
  · rw [← h1.2]; exact h3.1.2
  · exact h3.2.symm
  · exact h2.symm
  · exact h3.1.1
theorem pair_no {l : List Rqt} (hu : (nmsQ l).Nodup) (hp : OkP l l) {s t : Nat} (hs : s < (prL l 0 l).length) (ht : t < (prL l 0 l).length) (h : s < t) :
    (prL l 0 l)[s].1 ≠ (prL l 0 l)[t].1 ∧ (prL l 0 l)[s].2 ≠ (prL l 0 l)[t].2 ∧ (prL l 0 l)[s].1 ≠ (prL l 0 l)[t].2 ∧ (prL l 0 l)[s].2 ≠ (prL l 0 l)[t].1 := by
  have h1 := List.pairwise_iff_getElem.1 (prL_asc (l := l) l 0) s t hs ht h
  have ps := pair_ok hu hp (List.getElem_mem hs)
  have pt := pair_ok hu hp (List.getElem_mem ht)
  generalize (prL l 0 l)[s] = a at *
  generalize (prL l 0 l)[t] = b at *
  obtain ⟨a1, a2⟩ := a
  obtain ⟨b1, b2⟩ := b
  obtain ⟨x1, x2, x3, x4, x5, x6, x7⟩ := ps
  obtain ⟨y1, y2, y3, y4, y5, y6, y7⟩ := pt
  simp only at *
  refine ⟨by omega, ?_, ?_, ?_⟩
  · rintro rfl
    have e : l[a1].nm = l[b1].nm := x7.symm.trans y7
    have := at_of hu x1 e
    have := at_of hu y1 (rfl : l[b1].nm = l[b1].nm)
    omega
  · rintro rfl
    exact y4 x3
  · rintro rfl
    exact x4 y3
theorem rev_uniq {l : List Rqt} (hu : (nmsQ l).Nodup) : (nmsQ l.reverse).Nodup := by
  unfold nmsQ
  rw [List.map_reverse]
  exact List.pairwise_reverse.2 (List.Pairwise.imp (fun h e => h e.symm) hu)
theorem rev_okP {l : List Rqt} : OkP l.reverse l.reverse ↔ OkP l l := by
  unfold OkP
  simp only [List.mem_reverse]
theorem rev_pair {l : List Rqt} (hu : (nmsQ l).Nodup) (hp : OkP l l) {p : Nat × Nat} (h : p ∈ prL l 0 l) : (l.length - 1 - p.1, l.length - 1 - p.2) ∈ prL l.reverse 0 l.reverse := by
  obtain ⟨x1, x2, x3, x4, x5, x6, x7⟩ := pair_ok hu hp h
  obtain ⟨j, hj, h1, rfl⟩ := (prL_mem l 0 p).1 h
  simp only [Nat.zero_add] at *
  have e : l.reverse[l.length - 1 - j]'(by rw [List.length_reverse]; omega) = l[j] := by
    rw [List.getElem_reverse]
    congr 1
    omega
  have e2 : l.reverse[l.length - 1 - (atG l[j].li 0 l).toNat]'(by rw [List.length_reverse]; omega) = l[(atG l[j].li 0 l).toNat] := by
    rw [List.getElem_reverse]
    congr 1
    omega
  refine (prL_mem l.reverse 0 _).2 ⟨l.length - 1 - j, by rw [List.length_reverse]; omega, by rw [e]; exact h1, ?_⟩
  rw [e, at_of (rev_uniq hu) (k := l.length - 1 - (atG l[j].li 0 l).toNat) (by rw [List.length_reverse]; omega) (by rw [e2]; exact x6.symm), Int.toNat_natCast, Nat.zero_add]
theorem in_pair {l : List Rqt} (hu : (nmsQ l).Nodup) (hv : ∀ x ∈ l, x.ki = [65] ∨ x.ki = [68]) (hn : ∀ x ∈ l, x.nm ≠ []) (hp : OkP l l) {i : Nat} (hi : i < l.length) : l[i].li ≠ [] ↔ ∃ p ∈ prL l 0 l, p.1 = i ∨ p.2 = i := by
  constructor
  · intro h0
    rcases hv _ (List.getElem_mem hi) with hk | hk
    · exact ⟨_, (prL_mem l 0 _).2 ⟨i, hi, by simp [isA, h0, hk], rfl⟩, .inl (Nat.zero_add i)⟩
    · obtain ⟨o, ho, h2, h3⟩ := hp _ (List.getElem_mem hi) h0
      obtain ⟨k, hk', rfl⟩ := List.getElem_of_mem ho
      simp only [unfit, Bool.or_eq_false_iff, Bool.not_eq_false', decide_eq_true_eq, decide_eq_false_iff_not] at h3
      have hka : l[k].ki = [65] := (hv _ (List.getElem_mem hk')).elim id fun e => absurd (e.trans hk.symm) h3.1.2
      have hl : l[k].li ≠ [] := by rw [h3.1.1]; exact hn _ (List.getElem_mem hi)
      refine ⟨_, (prL_mem l 0 _).2 ⟨k, hk', by simp [isA, hl, hka], rfl⟩, .inr ?_⟩
      show (atG l[k].li 0 l).toNat = i
      rw [at_of hu hi h3.1.1.symm, Int.toNat_natCast]
  · rintro ⟨p, h, e⟩
    obtain ⟨x1, x2, x3, x4, x5, x6, x7⟩ := pair_ok hu hp h
    rcases e with rfl | rfl
    · rw [x6]; exact hn _ (List.getElem_mem x2)
    · rw [x7]; exact hn _ (List.getElem_mem x1)
def freeL (l : List Rqt) : List Rqt := l.map fun q => { q with li := [] }
theorem free_pairs (m : List Rqt) : ∀ (l : List Rqt) (i : Nat), prsG m [] i (freeL l) = ([], 0)
  | [], _ => rfl
  | q :: r, i => by
    have ih := free_pairs m r (i + 1)
    show prsG m [] i ({ q with li := [] } :: freeL r) = _
    rw [prsG, if_pos rfl, ih]
end Go.Proofs.YtddpjjaebkaggaaGreatDoor.Co
