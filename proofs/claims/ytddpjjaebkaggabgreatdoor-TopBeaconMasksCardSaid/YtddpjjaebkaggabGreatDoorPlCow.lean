
/-
  Canonical periods: bounds; merged lists; parts; moved days.
-/
import Derived.Test.YtddpjjaebkaggabGreatDoorPlCov
namespace Go.Proofs.YtddpjjaebkaggabGreatDoor.Co
open Go Go.Evl
theorem chkDays_of {l : List Int} (hl : l.length ≤ 512) (hs : l.Pairwise (· < ·)) (hm : ∀ x ∈ l, 0 ≤ x ∧ x ≤ 99999) : chkDays l = 0 := by
  refine chkDays_zero.2 ⟨hl, fun i hi => errD_zero.2 ⟨?_, fun h0 => ?_⟩⟩
  · rw [List.getD, List.getElem?_eq_getElem hi]
    exact hm _ (List.getElem_mem _)
  · rw [List.getD, List.getD, List.getElem?_eq_getElem hi, List.getElem?_eq_getElem (show i - 1 < l.length by omega)]
    exact List.pairwise_iff_getElem.1 hs (i - 1) i (by omega) hi (by omega)
theorem daysP_chk (f d : Int) (n : Nat) (hf : 0 ≤ f ∧ f + n ≤ 100000) (hn : n ≤ 512) : chkDays (daysP f d n) = 0 := by
  obtain ⟨h1, h2⟩ := daysP_spec f d n
  have := daysP_length f d n
  exact chkDays_of (by omega) h1 fun x hx => by have := (h2 x).1 hx; omega
structure Mg (x y all : List Int) (i k : Nat) : Prop where
  strict : all.Pairwise (· < ·)
  lx : ∀ v ∈ all, ∀ j, i ≤ j → j < x.length → v < x.getD j 0
  ly : ∀ v ∈ all, ∀ j, k ≤ j → j < y.length → v < y.getD j 0
  rng : ∀ v ∈ all, 0 ≤ v ∧ v ≤ 99999
  len : all.length ≤ i + k
theorem mg_start (x y : List Int) : Mg x y [] 0 0 := ⟨by simp, by simp, by simp, by simp, by simp⟩
theorem day_le {l : List Int} (hz : chkDays l = 0) {i j : Nat} (hij : i ≤ j) (hj : j < l.length) : l.getD i 0 ≤ l.getD j 0 := by
  by_cases e : i = j
  · subst e; exact Int.le_refl _
  · have := day_lt hz (show i < j by omega) hj; omega
section
variable {x y all : List Int} {i k : Nat} (hx : chkDays x = 0) (hy : chkDays y = 0) (h : Mg x y all i k)
include hx hy h
theorem mg_x (hi : i < x.length) (hlt : k < y.length → x.getD i 0 < y.getD k 0) : Mg x y (all ++ [x.getD i 0]) (i + 1) k := by
  refine ⟨List.pairwise_append.2 ⟨h.strict, by simp, fun a ha b hb => ?_⟩, fun v hv j h1 h2 => ?_, fun v hv j h1 h2 => ?_, fun v hv => ?_, by simp; have := h.len; omega⟩
  · rw [List.mem_singleton] at hb; subst hb; exact h.lx a ha i (Nat.le_refl _) hi
  · rcases List.mem_append.1 hv with hv | hv
    · exact h.lx v hv j (by omega) h2
    · rw [List.mem_singleton] at hv; subst hv; exact day_lt hx (by omega) h2
  · rcases List.mem_append.1 hv with hv | hv
    · exact h.ly v hv j h1 h2
    · rw [List.mem_singleton] at hv; subst hv
      have := hlt (by omega)
      have := day_le hy h1 h2
      omega
  · rcases List.mem_append.1 hv with hv | hv
    · exact h.rng v hv
    · rw [List.mem_singleton] at hv; subst hv; exact day_range hx hi
theorem mg_y (hk : k < y.length) (hlt : i < x.length → y.getD k 0 < x.getD i 0) : Mg x y (all ++ [y.getD k 0]) i (k + 1) := by
  refine ⟨List.pairwise_append.2 ⟨h.strict, by simp, fun a ha b hb => ?_⟩, fun v hv j h1 h2 => ?_, fun v hv j h1 h2 => ?_, fun v hv => ?_, by simp; have := h.len; omega⟩
  · rw [List.mem_singleton] at hb; subst hb; exact h.ly a ha k (Nat.le_refl _) hk
  · rcases List.mem_append.1 hv with hv | hv
    · exact h.lx v hv j h1 h2
    · rw [List.mem_singleton] at hv; subst hv
      have := hlt (by omega)
      have := day_le hx h1 h2
      omega
  · rcases List.mem_append.1 hv with hv | hv
    · exact h.ly v hv j (by omega) h2
    · rw [List.mem_singleton] at hv; subst hv; exact day_lt hy (by omega) h2
  · rcases List.mem_append.1 hv with hv | hv
    · exact h.rng v hv
    · rw [List.mem_singleton] at hv; subst hv; exact day_range hy hk
theorem mg_xy (hi : i < x.length) (_ : k < y.length) (he : x.getD i 0 = y.getD k 0) : Mg x y (all ++ [x.getD i 0]) (i + 1) (k + 1) := by
  refine ⟨List.pairwise_append.2 ⟨h.strict, by simp, fun a ha b hb => ?_⟩, fun v hv j h1 h2 => ?_, fun v hv j h1 h2 => ?_, fun v hv => ?_, by simp; have := h.len; omega⟩
  · rw [List.mem_singleton] at hb; subst hb; exact h.lx a ha i (Nat.le_refl _) hi
  · rcases List.mem_append.1 hv with hv | hv
    · exact h.lx v hv j (by omega) h2
    · rw [List.mem_singleton] at hv; subst hv; exact day_lt hx (by omega) h2
  · rcases List.mem_append.1 hv with hv | hv
    · exact h.ly v hv j (by omega) h2
    · rw [List.mem_singleton] at hv; subst hv
      rw [he]; exact day_lt hy (by omega) h2
  · rcases List.mem_append.1 hv with hv | hv
    · exact h.rng v hv
    · rw [List.mem_singleton] at hv; subst hv; exact day_range hx hi
end
theorem cov_idx {l : List Int} : ∀ {ps : List (Int × Int × Int)} {n : Nat}, Cov l ps n → ∃ b : Nat → Nat, b 0 = 0 ∧ b ps.length = n ∧ ∀ r (h : r < ps.length), b r < b (r + 1) ∧ ∃ w, Open l (b r) (b (r + 1) - 1) ps[r] w
  | _, _, .nil => ⟨fun _ => 0, rfl, rfl, fun r h => by simp at h⟩
  | _, _, .add (ps := ps) (i := i) (k := k) (p := p) (w := w) hc ho => by
    obtain ⟨b, h0, h1, h2⟩ := cov_idx hc
    refine ⟨fun r => if r ≤ ps.length then b r else k + 1, by simp [h0], by simp; intro h; omega, fun r h => ?_⟩
    rw [List.length_append, List.length_singleton] at h
    by_cases e : r = ps.length
    · subst e
      have hle := ho.le
      simp only [Nat.le_refl, if_true, h1, show ¬ ps.length + 1 ≤ ps.length by omega, if_false, Nat.add_sub_cancel]
      refine ⟨by omega, w, ?_⟩
      simpa using ho
    · have hr : r < ps.length := by omega
      obtain ⟨h3, w', h4⟩ := h2 r hr
      simp only [show r ≤ ps.length by omega, show r + 1 ≤ ps.length by omega, if_true]
      refine ⟨h3, w', ?_⟩
      rw [List.getElem_append_left hr]
      exact h4
theorem cov_seg {l : List Int} (hz : chkDays l = 0) {i m : Nat} (him : i < m) {p : Int × Int × Int} {w : Int} (h : Open l i (m - 1) p w) :
    ∃ u : List Int, daysP p.1 p.2.2 (p.2.1 - p.1 + 1).toNat = u ∧ u.length = m - i ∧ u.getD 0 0 = p.1 ∧ u.getD (m - i - 1) 0 = p.2.1 ∧ l.take i ++ u = l.take m := by
  have hk := h.lt
  refine ⟨(l.drop i).take (m - i), ?_, ?_, ?_, ?_, ?_⟩
  · rw [open_days hz h, show m - 1 + 1 - i = m - i by omega]
  · simp; omega
  · rw [h.f]
    simp only [List.getD]
    rw [List.getElem?_take_of_lt (by omega), List.getElem?_drop]
    simp
  · rw [h.t]
    simp only [List.getD]
    rw [List.getElem?_take_of_lt (by omega), List.getElem?_drop, show i + (m - i - 1) = m - 1 by omega]
  · have := List.take_add (l := l) (i := i) (j := m - i)
    rw [show i + (m - i) = m by omega] at this
    exact this.symm
theorem daysP_add (f d : Int) (a : Nat) : ∀ b : Nat, daysP f d (a + b) = daysP f d a ++ daysP (f + a) d b
  | 0 => by simp [daysP]
  | b + 1 => by
    have h1 : daysP f d (a + (b + 1)) = daysP f d (a + b) ++ if inM d ((f + ((a + b : Nat) : Int) + 5) % 7) then [f + ((a + b : Nat) : Int)] else [] := rfl
    have h2 : daysP (f + a) d (b + 1) = daysP (f + a) d b ++ if inM d ((f + a + (b : Int) + 5) % 7) then [f + a + (b : Int)] else [] := rfl
    rw [h1, h2, daysP_add f d a b, List.append_assoc]
    rw [show f + ((a + b : Nat) : Int) = f + a + b by omega]
theorem mask_bits : ∀ d : Fin 128, ∀ b w : Fin 7, inM (refMask d.val b.val 7) w.val = inM d.val (((w.val : Int) - b.val) % 7) := by decide +kernel
theorem mask_pos : ∀ d : Fin 128, ∀ b : Fin 7, 1 ≤ d.val → 1 ≤ refMask d.val b.val 7 ∧ refMask d.val b.val 7 ≤ 127 := by decide +kernel
theorem mask_moved {d : Int} (hd : 1 ≤ d ∧ d ≤ 127) (b : Int) : 1 ≤ refMask d b 7 ∧ refMask d b 7 ≤ 127 := by
  have := mask_pos ⟨d.toNat, by omega⟩ ⟨(b % 7).toNat, by omega⟩ (by simp only; omega)
  simp only [show ((d.toNat : Nat) : Int) = d by omega, show (((b % 7).toNat : Nat) : Int) = b % 7 by omega] at this
  rw [refMask_mod]; exact this
theorem bit_moved {d : Int} (hd : 1 ≤ d ∧ d ≤ 127) (b x : Int) : inM (refMask d b 7) ((x + b + 5) % 7) = inM d ((x + 5) % 7) := by
  have := mask_bits ⟨d.toNat, by omega⟩ ⟨(b % 7).toNat, by omega⟩ ⟨((x + b + 5) % 7).toNat, by omega⟩
  simp only [show ((d.toNat : Nat) : Int) = d by omega, show (((b % 7).toNat : Nat) : Int) = b % 7 by omega, show ((((x + b + 5) % 7).toNat : Nat) : Int) = (x + b + 5) % 7 by omega] at this
  rw [refMask_mod, this]
  congr 1
  omega
theorem daysP_moved {d : Int} (hd : 1 ≤ d ∧ d ≤ 127) (f b : Int) : ∀ n : Nat, daysP (f + b) (refMask d b 7) n = (daysP f d n).map (· + b)
  | 0 => rfl
  | n + 1 => by
    have h1 : daysP (f + b) (refMask d b 7) (n + 1) = daysP (f + b) (refMask d b 7) n ++ if inM (refMask d b 7) ((f + b + (n : Int) + 5) % 7) then [f + b + (n : Int)] else [] := rfl
    have h2 : daysP f d (n + 1) = daysP f d n ++ if inM d ((f + (n : Int) + 5) % 7) then [f + (n : Int)] else [] := rfl
    rw [h1, h2, daysP_moved hd f b n, List.map_append]
    have h3 := bit_moved hd b (f + n)
    rw [show f + (n : Int) + b + 5 = f + b + n + 5 by omega] at h3
    rw [h3]
    congr 1
    split
    · simp; omega
    · rfl
end Go.Proofs.YtddpjjaebkaggabGreatDoor.Co
