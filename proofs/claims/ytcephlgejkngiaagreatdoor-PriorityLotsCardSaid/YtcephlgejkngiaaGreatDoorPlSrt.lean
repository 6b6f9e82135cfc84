
/-
  Insertion: a list in order, and the place of each of its elements.
-/
import Derived.Test.YtcephlgejkngiaaGreatDoorSpOrd
namespace Go.Proofs.YtcephlgejkngiaaGreatDoor.Co
open Go Go.Evl
structure Tot (n : Nat) (lt : Int → Int → Bool) : Prop where
  irr : ∀ a : Int, lt a a = false
  tr : ∀ a b c : Int, a ∈ idL n → b ∈ idL n → c ∈ idL n → lt a b = true → lt b c = true → lt a c = true
  tot : ∀ a b : Int, a ∈ idL n → b ∈ idL n → a ≠ b → lt a b = false → lt b a = true
def placeL (n : Nat) (lt : Int → Int → Bool) (x : Int) : Nat := (idL n).countP fun y => lt y x
structure Srt (n : Nat) (lt : Int → Int → Bool) (l : List Int) : Prop where
  pm : l.Perm (idL n)
  up : l.Pairwise fun a b => lt a b = true
theorem idL_mem {n : Nat} {x : Int} : x ∈ idL n ↔ 0 ≤ x ∧ x < n := by
  unfold idL
  rw [List.mem_map]
  constructor
  · rintro ⟨i, h, rfl⟩
    have := List.mem_range.1 h
    omega
  · intro h
    exact ⟨x.toNat, List.mem_range.2 (by omega), by omega⟩
theorem idL_get {n k : Nat} (h : k < n) : (idL n)[k]? = some (k : Int) := by
  simp [idL, h]
theorem Srt.len {n : Nat} {lt : Int → Int → Bool} {l : List Int} (h : Srt n lt l) : l.length = n := by
  rw [h.pm.length_eq, idL_length]
theorem Srt.mem {n : Nat} {lt : Int → Int → Bool} {l : List Int} (h : Srt n lt l) {k : Nat} (hk : k < l.length) : l[k] ∈ idL n := h.pm.mem_iff.1 (List.getElem_mem hk)
theorem Srt.asym {n : Nat} {lt : Int → Int → Bool} (t : Tot n lt) {a b : Int} (ha : a ∈ idL n) (hb : b ∈ idL n) (h : lt a b = true) : lt b a = false := by
  cases hc : lt b a with
  | false => rfl
  | true =>
    have := t.tr a b a ha hb ha h hc
    rw [t.irr a] at this
    cases this
theorem Srt.place {n : Nat} {lt : Int → Int → Bool} {l : List Int} (t : Tot n lt) (h : Srt n lt l) {k : Nat} (hk : k < l.length) : placeL n lt l[k] = k := by
  unfold placeL
  rw [← h.pm.countP_eq]
  have e : l = l.take k ++ l[k] :: l.drop (k + 1) := by
    rw [← List.drop_eq_getElem_cons hk, List.take_append_drop]
  have hm := fun {j : Nat} (hj : j < l.length) => h.mem hj
  have hp := List.pairwise_iff_getElem.1 h.up
  generalize hx : l[k] = x at *
  have h1 : (l.take k).countP (fun y => lt y x) = k := by
    have : (l.take k).countP (fun y => lt y x) = (l.take k).length := by
      rw [List.countP_eq_length]
      intro a ha
      rw [List.mem_take_iff_getElem] at ha
      obtain ⟨i, hi, rfl⟩ := ha
      rw [← hx]
      exact hp i k (by omega) hk (by omega)
    rw [this, List.length_take]
    omega
  have h2 : (l.drop (k + 1)).countP (fun y => lt y x) = 0 := by
    rw [List.countP_eq_zero]
    intro a ha
    rw [List.mem_drop_iff_getElem] at ha
    obtain ⟨i, hi, rfl⟩ := ha
    have := hp k (k + 1 + i) hk (by omega) (by omega)
    rw [hx] at this
    rw [Srt.asym t (hx ▸ hm hk) (hm (by omega)) this]
    simp
  rw [e, List.countP_append, List.countP_cons, h1, h2, t.irr]
  simp
theorem Srt.uniq {n : Nat} {lt : Int → Int → Bool} {l : List Int} (t : Tot n lt) (h : Srt n lt l) {x : Int} (hx : x ∈ idL n) : l[placeL n lt x]? = some x := by
  obtain ⟨k, hk, rfl⟩ := List.getElem_of_mem (h.pm.mem_iff.2 hx)
  rw [h.place t hk]
  exact List.getElem?_eq_getElem hk
structure Ins (lt : Int → Int → Bool) (s : List Int) (x : Int) (p q : List Int) : Prop where
  eq : p ++ q = s
  lo : ∀ y ∈ q, lt x y = true
theorem Ins.start {lt : Int → Int → Bool} (s : List Int) (x : Int) : Ins lt s x s [] := ⟨by simp, by simp⟩
theorem Ins.step {lt : Int → Int → Bool} {s p q : List Int} {x y : Int} (h : Ins lt s x (p ++ [y]) q) (hy : lt x y = true) : Ins lt s x p (y :: q) := by
  refine ⟨by rw [← h.eq]; simp, fun z hz => ?_⟩
  rcases List.mem_cons.1 hz with rfl | hz
  · exact hy
  · exact h.lo z hz
theorem Ins.done {n : Nat} {lt : Int → Int → Bool} {s p q : List Int} {x : Int} (t : Tot n lt) (hs : s.Pairwise fun a b => lt a b = true) (hm : ∀ y ∈ s, y ∈ idL n) (hx : x ∈ idL n) (hn : x ∉ s) (h : Ins lt s x p q)
    (he : p = [] ∨ ∃ p' y, p = p' ++ [y] ∧ lt x y = false) : (p ++ x :: q).Pairwise fun a b => lt a b = true := by
  obtain ⟨rfl, lo⟩ := h
  have h0 := List.pairwise_append.1 hs
  refine List.pairwise_append.2 ⟨h0.1, List.pairwise_cons.2 ⟨lo, h0.2.1⟩, fun a ha b hb => ?_⟩
  rcases List.mem_cons.1 hb with rfl | hb
  · rcases he with rfl | ⟨p', y, rfl, hy⟩
    · cases ha
    · have hym : y ∈ idL n := hm y (by simp)
      have hyx : lt y b = true := t.tot b y hx hym (fun e => hn (by subst e; simp)) hy
      rcases List.mem_append.1 ha with ha | ha
      · have hay : lt a y = true := (List.pairwise_append.1 h0.1).2.2 a ha y (by simp)
        exact t.tr a y b (hm a (by simp [ha])) hym hx hay hyx
      · rw [List.mem_singleton.1 ha]
        exact hyx
  · exact h0.2.2 a ha b hb
end Go.Proofs.YtcephlgejkngiaaGreatDoor.Co
