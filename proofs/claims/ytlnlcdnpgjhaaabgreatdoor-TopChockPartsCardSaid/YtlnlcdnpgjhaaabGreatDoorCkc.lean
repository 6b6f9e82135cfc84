/-
  TopChockParts returns true, for every argument: the law, and the last part of what it leans on.
-/
import Derived.KernelRfl
import Derived.Laws.RangeAny
import Derived.Lib.SplitLaws
import Derived.Test.YtlnlcdnpgjhaaabGreatDoorEvE
import Derived.Test.YtlnlcdnpgjhaaabGreatDoorEvX
import Derived.Test.YtlnlcdnpgjhaaabGreatDoorGood
import Derived.Test.YtlnlcdnpgjhaaabGreatDoorRead
import Derived.Test.YtlnlcdnpgjhaaabGreatDoorCkb
/-
 Canonical periods cover the days: the plain law.
-/
namespace Go.Proofs.YtlnlcdnpgjhaaabGreatDoor.Co
open Go Go.Evl
theorem bit_add : ∀ a : Fin 128, ∀ p w : Fin 7, a.val < 2 ^ p.val → inM (((a.val : Nat) : Int) + 2 ^ p.val) w.val = (inM ((a.val : Nat) : Int) w.val || decide (w.val = p.val)) := by decide +kernel
theorem bit_zero : ∀ w : Fin 7, inM 0 w.val = false := by decide +kernel
section
variable {l : List Int} (hz : chkDays l = 0)
include hz
theorem mask_bit (w : Int) (b : Nat) (hb : b < 7) : ∀ k, k ≤ l.length → (inM (maskN l w k) b = true ↔ ∃ j, j < k ∧ wkD (l.getD j 0) = w ∧ (l.getD j 0 + 5) % 7 = b)
 | 0, _ => by
  have := bit_zero ⟨b, hb⟩
  simp only [maskN]
  rw [this]
  simp
 | k + 1, hk => by
  have ih := mask_bit w b hb k (by omega)
  have hd := day_range hz (show k < l.length by omega)
  simp only [maskN]
  by_cases e : wkD (l.getD k 0) = w
  ·rw [if_pos e]
   have hlt := mask_lt hz w (l.getD k 0) ⟨e, hd.1⟩ k (by omega) (fun i hi => day_lt hz hi (by omega))
   have hbd := mask_bound hz w k (by omega)
   have hp : ((l.getD k 0 + 5) % 7).toNat < 7 := by omega
   have h1 := bit_add ⟨(maskN l w k).toNat, by omega⟩ ⟨_, hp⟩ ⟨b, hb⟩ (by
    have : ((maskN l w k).toNat : Int) < 2 ^ ((l.getD k 0 + 5) % 7).toNat := by omega
    exact_mod_cast this)
   simp only [show (((maskN l w k).toNat : Nat) : Int) = maskN l w k by omega] at h1
   rw [h1, Bool.or_eq_true, ih, decide_eq_true_eq]
   constructor
   ·rintro (⟨j, h2, h3, h4⟩ | h2)
    ·exact ⟨j, by omega, h3, h4⟩
    ·exact ⟨k, by omega, e, by omega⟩
   ·rintro ⟨j, h2, h3, h4⟩
    by_cases ej : j = k
    ·subst ej; exact .inr (by omega)
    ·exact .inl ⟨j, by omega, h3, h4⟩
  ·rw [if_neg e, Int.add_zero, ih]
   constructor
   ·rintro ⟨j, h2, h3⟩; exact ⟨j, by omega, h3⟩
   ·rintro ⟨j, h2, h3, h4⟩
    by_cases ej : j = k
    ·subst ej; exact absurd h3 e
    ·exact ⟨j, by omega, h3, h4⟩
omit hz in
structure Open (l : List Int) (i k : Nat) (p : Int × Int × Int) (n : Int) : Prop where
 le : i ≤ k
 lt : k < l.length
 f : p.1 = l.getD i 0
 t : p.2.1 = l.getD k 0
 first : i = 0 ∨ wkD (l.getD (i - 1) 0) ≠ wkD (l.getD i 0)
 mask : ∀ j, i ≤ j → j ≤ k → maskW l (wkD (l.getD j 0)) = p.2.2
 step : ∀ j, i ≤ j → j < k → wkD (l.getD (j + 1) 0) = wkD (l.getD j 0) ∨ wkD (l.getD (j + 1) 0) = wkD (l.getD j 0) + 1
 weeks : n = wkD (l.getD k 0) - wkD (l.getD i 0) + 1 ∧ n ≤ 57
omit hz in
theorem open_week {i k : Nat} {p : Int × Int × Int} {n : Int} (h : Open l i k p n) (w : Int) : ∀ j, i ≤ j → j ≤ k → wkD (l.getD i 0) ≤ w → w ≤ wkD (l.getD j 0) → ∃ r, i ≤ r ∧ r ≤ k ∧ wkD (l.getD r 0) = w := by
 intro j
 induction j with
 | zero =>
  intro h1 h2 h3 h4
  obtain rfl : i = 0 := by omega
  exact ⟨0, Nat.le_refl _, h2, by omega⟩
 | succ j ih =>
  intro h1 h2 h3 h4
  by_cases e : i = j + 1
  ·subst e; exact ⟨j + 1, Nat.le_refl _, h2, by omega⟩
  ·have hs := h.step j (by omega) (by omega)
   by_cases e2 : w = wkD (l.getD (j + 1) 0)
   ·exact ⟨j + 1, h1, h2, e2.symm⟩
   ·exact ih (by omega) (by omega) h3 (by omega)
omit hz in
theorem seg_mem {i k : Nat} (hik : i ≤ k) (hk : k < l.length) (x : Int) : x ∈ (l.drop i).take (k + 1 - i) ↔ ∃ j, i ≤ j ∧ j ≤ k ∧ l.getD j 0 = x := by
 rw [List.mem_iff_getElem]
 constructor
 ·rintro ⟨r, hr, e⟩
  simp only [List.length_take, List.length_drop] at hr
  rw [List.getElem_take, List.getElem_drop] at e
  exact ⟨i + r, by omega, by omega, by rw [List.getD, List.getElem?_eq_getElem (by omega)]; exact e⟩
 ·rintro ⟨j, h1, h2, e⟩
  refine ⟨j - i, by simp only [List.length_take, List.length_drop]; omega, ?_⟩
  rw [List.getElem_take, List.getElem_drop]
  rw [List.getD, List.getElem?_eq_getElem (by omega)] at e
  simpa [show i + (j - i) = j by omega] using e
theorem seg_strict (i n : Nat) : ((l.drop i).take n).Pairwise (· < ·) := by
 refine List.Pairwise.sublist (List.Sublist.trans (List.take_sublist _ _) (List.drop_sublist _ _)) ?_
 rw [List.pairwise_iff_getElem]
 intro a b ha hb hab
 have := day_lt hz hab hb
 rw [List.getD, List.getD, List.getElem?_eq_getElem ha, List.getElem?_eq_getElem hb] at this
 exact this
omit hz in
theorem daysP_spec (f d : Int) : ∀ n : Nat, (daysP f d n).Pairwise (· < ·) ∧ ∀ x, x ∈ daysP f d n ↔ (f ≤ x ∧ x < f + n) ∧ inM d ((x + 5) % 7) = true
 | 0 => ⟨by simp [daysP], fun x => by simp [daysP]; intro h1 h2; omega⟩
 | n + 1 => by
  obtain ⟨h1, h2⟩ := daysP_spec f d n
  have hs : daysP f d (n + 1) = daysP f d n ++ if inM d ((f + n + 5) % 7) then [f + (n : Int)] else [] := rfl
  rw [hs]
  refine ⟨List.pairwise_append.2 ⟨h1, by split <;> simp, fun x hx y hy => ?_⟩, fun x => ?_⟩
  ·have := (h2 x).1 hx
   split at hy
   ·rw [List.mem_singleton] at hy; omega
   ·simp at hy
  ·rw [List.mem_append, h2]
   by_cases hp : inM d ((f + n + 5) % 7) = true
   ·rw [if_pos hp, List.mem_singleton]
    constructor
    ·rintro (h | h)
     ·exact ⟨by omega, h.2⟩
     ·subst h; exact ⟨by omega, hp⟩
    ·rintro ⟨h3, h4⟩
     by_cases e : x = f + n
     ·exact .inr e
     ·exact .inl ⟨by omega, h4⟩
   ·rw [if_neg hp]
    constructor
    ·rintro (h | h)
     ·exact ⟨by omega, h.2⟩
     ·simp at h
    ·rintro ⟨h3, h4⟩
     by_cases e : x = f + n
     ·subst e; exact absurd h4 hp
     ·exact .inl ⟨by omega, h4⟩
theorem open_days {i k : Nat} {p : Int × Int × Int} {n : Int} (h : Open l i k p n) : daysP p.1 p.2.2 (p.2.1 - p.1 + 1).toNat = (l.drop i).take (k + 1 - i) := by
 obtain ⟨h1, h2⟩ := daysP_spec p.1 p.2.2 (p.2.1 - p.1 + 1).toNat
 refine strict_ext h1 (seg_strict hz i _) fun x => ?_
 rw [h2, seg_mem h.le h.lt]
 have hle : l.getD i 0 ≤ l.getD k 0 := by
  by_cases e : i = k
  ·subst e; exact Int.le_refl _
  ·have := day_lt hz (show i < k by have := h.le; omega) h.lt; omega
 have hi0 := day_range hz (show i < l.length by have := h.le; have := h.lt; omega)
 have hk0 := day_range hz h.lt
 rw [h.f, h.t]
 constructor
 ·rintro ⟨h3, h4⟩
  have e1 := wkD_def (l.getD i 0)
  have e2 := wkD_def (l.getD k 0)
  have e3 := wkD_def x
  obtain ⟨r, h5, h6, h7⟩ := open_week h (wkD x) k h.le (Nat.le_refl _) (by omega) (by omega)
  have hm := h.mask r h5 h6
  rw [← hm, h7] at h4
  have hb : ((x + 5) % 7).toNat < 7 := by omega
  have hbe : (((x + 5) % 7).toNat : Int) = (x + 5) % 7 := by omega
  rw [← hbe] at h4
  obtain ⟨j, h8, h9, h10⟩ := (mask_bit hz (wkD x) _ hb l.length (Nat.le_refl _)).1 h4
  have e4 := wkD_def (l.getD j 0)
  have hx : l.getD j 0 = x := by omega
  refine ⟨j, ?_, ?_, hx⟩
  ·rcases Nat.lt_or_ge j i with hlt | hge
   ·have := day_lt hz hlt (by have := h.le; have := h.lt; omega); omega
   ·exact hge
  ·rcases Nat.lt_or_ge k j with hlt | hge
   ·have := day_lt hz hlt h8; omega
   ·exact hge
 ·rintro ⟨j, h3, h4, rfl⟩
  have hm := h.mask j h3 h4
  have hj := h.lt
  have hd := day_range hz (show j < l.length by omega)
  have k1 : l.getD i 0 ≤ l.getD j 0 := by
   by_cases e : i = j
   ·subst e; exact Int.le_refl _
   ·have := day_lt hz (show i < j by omega) (by omega); omega
  have k2 : l.getD j 0 ≤ l.getD k 0 := by
   by_cases e : j = k
   ·subst e; exact Int.le_refl _
   ·have := day_lt hz (show j < k by omega) h.lt; omega
  refine ⟨by omega, ?_⟩
  rw [← hm]
  have hb : ((l.getD j 0 + 5) % 7).toNat < 7 := by omega
  have hbe : (((l.getD j 0 + 5) % 7).toNat : Int) = (l.getD j 0 + 5) % 7 := by omega
  rw [← hbe]
  exact (mask_bit hz _ _ hb l.length (Nat.le_refl _)).2 ⟨j, by omega, rfl, by omega⟩
theorem open_chk {i k : Nat} {p : Int × Int × Int} {n : Int} (h : Open l i k p n) : chkPer p.1 p.2.1 p.2.2 = 0 := by
 have hle : l.getD i 0 ≤ l.getD k 0 := by
  by_cases e : i = k
  ·subst e; exact Int.le_refl _
  ·have := day_lt hz (show i < k by have := h.le; omega) h.lt; omega
 have hi0 := day_range hz (show i < l.length by have := h.le; have := h.lt; omega)
 have hk0 := day_range hz h.lt
 have e1 := wkD_def (l.getD i 0)
 have e2 := wkD_def (l.getD k 0)
 have hw := h.weeks
 have hm := h.mask k h.le (Nat.le_refl _)
 have hb := mask_bound hz (wkD (l.getD k 0)) l.length (Nat.le_refl _)
 have hpos : maskN l (wkD (l.getD k 0)) l.length ≠ 0 := fun e => by
  have hb7 : ((l.getD k 0 + 5) % 7).toNat < 7 := by omega
  have := (mask_bit hz (wkD (l.getD k 0)) _ hb7 l.length (Nat.le_refl _)).2 ⟨k, h.lt, rfl, by omega⟩
  rw [e, bit_zero ⟨_, hb7⟩] at this
  cases this
 have hm' : maskN l (wkD (l.getD k 0)) l.length = p.2.2 := hm
 rw [chkPer_zero, h.f, h.t]
 omega
omit hz in
inductive Cov (l : List Int) : List (Int × Int × Int) → Nat → Prop
 | nil : Cov l [] 0
 | add {ps : List (Int × Int × Int)} {i k : Nat} {p : Int × Int × Int} {w : Int} : Cov l ps i → Open l i k p w → Cov l (ps ++ [p]) (k + 1)
omit hz in
theorem jn_open : ∀ k, k < l.length → ∃ i, Cov l (jn l k).1 i ∧ Open l i k (jn l k).2.1 (jn l k).2.2
 | 0, hk => ⟨0, .nil, ⟨Nat.le_refl _, hk, rfl, rfl, .inl rfl, fun j h1 h2 => (by
   obtain rfl : j = 0 := by omega
   rfl), fun j h1 h2 => by omega, by simp [jn]⟩⟩
 | k + 1, hk => by
  obtain ⟨i, hc, ho⟩ := jn_open k (by omega)
  have hjn : jn l (k + 1) = if wkD (l.getD k 0) = wkD (l.getD (k + 1) 0) then ((jn l k).1, ((jn l k).2.1.1, l.getD (k + 1) 0, (jn l k).2.1.2.2), (jn l k).2.2)
   else if wkD (l.getD k 0) = wkD (l.getD (k + 1) 0) - 1 ∧ (jn l k).2.1.2.2 = maskW l (wkD (l.getD (k + 1) 0)) ∧ (jn l k).2.2 < 57 then ((jn l k).1, ((jn l k).2.1.1, l.getD (k + 1) 0, (jn l k).2.1.2.2), (jn l k).2.2 + 1)
   else ((jn l k).1 ++ [(jn l k).2.1], (l.getD (k + 1) 0, l.getD (k + 1) 0, maskW l (wkD (l.getD (k + 1) 0))), 1) := rfl
  rw [hjn]
  have hle := ho.le
  have hw := ho.weeks
  by_cases c1 : wkD (l.getD k 0) = wkD (l.getD (k + 1) 0)
  ·rw [if_pos c1]
   refine ⟨i, hc, ⟨by omega, hk, ho.f, rfl, ho.first, fun j h1 h2 => ?_, fun j h1 h2 => ?_, by simp only; omega⟩⟩
   ·by_cases e : j = k + 1
    ·subst e; rw [← c1]; exact ho.mask k hle (Nat.le_refl _)
    ·exact ho.mask j h1 (by omega)
   ·by_cases e : j = k
    ·subst e; exact .inl c1.symm
    ·exact ho.step j h1 (by omega)
  ·rw [if_neg c1]
   by_cases c2 : wkD (l.getD k 0) = wkD (l.getD (k + 1) 0) - 1 ∧ (jn l k).2.1.2.2 = maskW l (wkD (l.getD (k + 1) 0)) ∧ (jn l k).2.2 < 57
   ·rw [if_pos c2]
    refine ⟨i, hc, ⟨by omega, hk, ho.f, rfl, ho.first, fun j h1 h2 => ?_, fun j h1 h2 => ?_, by simp only; omega⟩⟩
    ·by_cases e : j = k + 1
     ·subst e; exact c2.2.1.symm
     ·exact ho.mask j h1 (by omega)
    ·by_cases e : j = k
     ·subst e; exact .inr (by omega)
     ·exact ho.step j h1 (by omega)
   ·rw [if_neg c2]
    refine ⟨k + 1, .add hc ho, ⟨Nat.le_refl _, hk, rfl, rfl, .inr (by rw [Nat.add_sub_cancel]; exact c1), fun j h1 h2 => ?_, fun j h1 h2 => by omega, by simp⟩⟩
    obtain rfl : j = k + 1 := by omega
    rfl
omit hz in
theorem join_cov : Cov l (joinL l) l.length := by
 unfold joinL
 cases hl : l.length with
 | zero => exact .nil
 | succ k =>
  obtain ⟨i, h1, h2⟩ := jn_open (l := l) k (by omega)
  exact .add h1 h2
end
end Go.Proofs.YtlnlcdnpgjhaaabGreatDoor.Co
/-
 Canonical periods: bounds; merged lists; parts; moved days.
-/
namespace Go.Proofs.YtlnlcdnpgjhaaabGreatDoor.Co
open Go Go.Evl
theorem chkDays_of {l : List Int} (hl : l.length ≤ 512) (hs : l.Pairwise (· < ·)) (hm : ∀ x ∈ l, 0 ≤ x ∧ x ≤ 99999) : chkDays l = 0 := by
 refine chkDays_zero.2 ⟨hl, fun i hi => errD_zero.2 ⟨?_, fun h0 => ?_⟩⟩
 ·rw [List.getD, List.getElem?_eq_getElem hi]
  exact hm _ (List.getElem_mem _)
 ·rw [List.getD, List.getD, List.getElem?_eq_getElem hi, List.getElem?_eq_getElem (show i - 1 < l.length by omega)]
  exact List.pairwise_iff_getElem.1 hs (i - 1) i (by omega) hi (by omega)
theorem daysP_chk (f d : Int) (n : Nat) (hf : 0 ≤ f ∧ f + n ≤ 100000) (hn : n ≤ 512) : chkDays (daysP f d n) = 0 := by
 obtain ⟨h1, h2⟩ := daysP_spec f d n
 have := daysP_length f d n
 exact chkDays_of (by omega) h1 fun x hx => by have := (h2 x).1 hx; omega
theorem cov_idx {l : List Int} : ∀ {ps : List (Int × Int × Int)} {n : Nat}, Cov l ps n → ∃ b : Nat → Nat, b 0 = 0 ∧ b ps.length = n ∧ ∀ r (h : r < ps.length), b r < b (r + 1) ∧ ∃ w, Open l (b r) (b (r + 1) - 1) ps[r] w
 | _, _, .nil => ⟨fun _ => 0, rfl, rfl, fun r h => by simp at h⟩
 | _, _, .add (ps := ps) (i := i) (k := k) (p := p) (w := w) hc ho => by
  obtain ⟨b, h0, h1, h2⟩ := cov_idx hc
  refine ⟨fun r => if r ≤ ps.length then b r else k + 1, by simp [h0], by simp; intro h; omega, fun r h => ?_⟩
  rw [List.length_append, List.length_singleton] at h
  by_cases e : r = ps.length
  ·subst e
   have hle := ho.le
   simp only [Nat.le_refl, if_true, h1, show ¬ ps.length + 1 ≤ ps.length by omega, if_false, Nat.add_sub_cancel]
   refine ⟨by omega, w, ?_⟩
   simpa using ho
  ·have hr : r < ps.length := by omega
   obtain ⟨h3, w', h4⟩ := h2 r hr
   simp only [show r ≤ ps.length by omega, show r + 1 ≤ ps.length by omega, if_true]
   refine ⟨h3, w', ?_⟩
   rw [List.getElem_append_left hr]
   exact h4
theorem cov_seg {l : List Int} (hz : chkDays l = 0) {i m : Nat} (him : i < m) {p : Int × Int × Int} {w : Int} (h : Open l i (m - 1) p w) :
  ∃ u : List Int, daysP p.1 p.2.2 (p.2.1 - p.1 + 1).toNat = u ∧ u.length = m - i ∧ u.getD 0 0 = p.1 ∧ u.getD (m - i - 1) 0 = p.2.1 ∧ l.take i ++ u = l.take m := by
 have hk := h.lt
 refine ⟨(l.drop i).take (m - i), ?_, ?_, ?_, ?_, ?_⟩
 ·rw [open_days hz h, show m - 1 + 1 - i = m - i by omega]
 ·simp; omega
 ·rw [h.f]
  simp only [List.getD]
  rw [List.getElem?_take_of_lt (by omega), List.getElem?_drop]
  simp
 ·rw [h.t]
  simp only [List.getD]
  rw [List.getElem?_take_of_lt (by omega), List.getElem?_drop, show i + (m - i - 1) = m - 1 by omega]
 ·have := List.take_add (l := l) (i := i) (j := m - i)
  rw [show i + (m - i) = m by omega] at this
  exact this.symm
theorem daysP_add (f d : Int) (a : Nat) : ∀ b : Nat, daysP f d (a + b) = daysP f d a ++ daysP (f + a) d b
 | 0 => by simp [daysP]
 | b + 1 => by
  have h1 : daysP f d (a + (b + 1)) = daysP f d (a + b) ++ if inM d ((f + ((a + b : Nat) : Int) + 5) % 7) then [f + ((a + b : Nat) : Int)] else [] := rfl
  have h2 : daysP (f + a) d (b + 1) = daysP (f + a) d b ++ if inM d ((f + a + (b : Int) + 5) % 7) then [f + a + (b : Int)] else [] := rfl
  rw [h1, h2, daysP_add f d a b, List.append_assoc]
  rw [show f + ((a + b : Nat) : Int) = f + a + b by omega]
end Go.Proofs.YtlnlcdnpgjhaaabGreatDoor.Co
/-
 Requests as a law's parameters.
-/
namespace Go.Proofs.YtlnlcdnpgjhaaabGreatDoor.Co
open Go Go.Evl
set_option maxRecDepth 100000
theorem arg_Request {x : D} (h : fitArg Tryz.prog 48 x) : ∃ q : Rqt, x = .agg q.cells := by
 obtain ⟨ds, rfl, _, _, rfl, h1, _, _, rfl, h2, _, _, rfl, h3, _, _, rfl, h4, _, _, rfl, h5, _, _, rfl, h6, _, _, rfl, h7, _, _, rfl, h8, _, _, rfl, h9, _, _, rfl, h10, _, _, rfl, h11, rfl⟩ := arg_st Tryz.underlying48 h
 obtain ⟨s1, rfl⟩ := fit_str h1
 obtain ⟨s2, rfl⟩ := fit_str h2
 obtain ⟨s3, rfl⟩ := fit_str h3
 obtain ⟨s4, rfl⟩ := fit_str h4
 obtain ⟨s5, rfl⟩ := fit_str h5
 obtain ⟨s6, rfl⟩ := fit_str h6
 obtain ⟨f, t, d, rfl⟩ := fit_Period h7
 obtain ⟨a, rfl, _⟩ := fit_int h8
 obtain ⟨b, rfl, _⟩ := fit_int h9
 obtain ⟨c, rfl, _⟩ := fit_int h10
 obtain ⟨e, rfl, _⟩ := fit_int h11
 exact ⟨⟨s1, s2, s3, s4, s5, s6, f, t, d, a, b, c, e⟩, rfl⟩
end Go.Proofs.YtlnlcdnpgjhaaabGreatDoor.Co
/-
 TopChockParts returns true, for every request and number.
-/
namespace Go.Proofs.YtlnlcdnpgjhaaabGreatDoor.Co
open Go Go.Evl
set_option maxRecDepth 100000
def keysI (ns : List Int) : List (D × V) := ns.map fun s => (DI s, B true)
theorem find_keysI (s : Int) : ∀ ns : List Int, findE (DI s) (keysI ns) = some (if s ∈ ns then some (B true) else none)
 | [] => rfl
 | t :: r => by
  have ih := find_keysI s r
  unfold keysI at ih ⊢
  rw [List.map_cons, findE]
  have e : eqD (DI s) (DI t) = some (decide (s = t)) := by simp [eqD]
  rw [e]
  by_cases h : s = t
  ·subst h; simp
  ·rw [decide_eq_false h]
   simp only [ih, List.mem_cons, h, false_or]
theorem ids_keysI : ∀ ns : List Int, Evl.idsM (keysI ns) = []
 | [] => rfl
 | _ :: r => by
  show [] ++ Evl.idsM (keysI r) = []
  rw [ids_keysI r]; rfl
theorem set_keysI (s : Int) : ∀ ns : List Int, s ∉ ns → setE (DI s) (B true) (keysI ns) = some (keysI (ns ++ [s]))
 | [], _ => rfl
 | t :: r, h => by
  have ih := set_keysI s r fun hm => h (List.mem_cons_of_mem _ hm)
  have hne : s ≠ t := fun e => h (by simp [e])
  unfold keysI at ih ⊢
  rw [List.map_cons, setE]
  have e : eqD (DI s) (DI t) = some (decide (s = t)) := by simp [eqD]
  simp only [e, decide_eq_false hne, ih, Option.map_some, List.cons_append, List.map_cons]
abbrev cpM (x : Rqt) (day : Int) (cs : List D) (l ns : List Int) : Mem := [(⟨0, 2, 0⟩, .cells ty_api_Request [S x.nm, S x.ca, S x.ki, S x.te, S x.pa, S x.li, I x.fr, I x.to, I x.da, I x.mi, I x.se, I x.si, I x.no]), (⟨0, 6, 0⟩, .cells ty_2_api_Period [I x.fr, I (day - 1), I x.da, I day, I x.to, I x.da]), (⟨0, 10, 0⟩, .cells ty_api_Request [S x.nm, S x.ca, S x.ki, S x.te, S x.pa, S x.li, I x.fr, I (day - 1), I x.da, I x.mi, I x.se, I x.si, I x.no]), (⟨0, 11, 0⟩, .cells ty_api_Request [S OTHR, S x.ca, S x.ki, S x.te, S x.pa, S x.li, I day, I x.to, I x.da, I x.mi, I x.se, I x.si, I x.no]), (⟨0, 14, 0⟩, .cells ty_message_Message [S REQ, S HERE, S S2024, I 200, .d (.list 3 cs)]), (⟨0, 17, 0⟩, .row false ty_int 1 l.length (l.map DI)), (⟨0, 175, 0⟩, .map (keysI ns))]
theorem next_new {l a w : List Int} (hs : l.Pairwise (· < ·)) {m : Nat} (h : a ++ w = l.take m) {k : Nat} (hk : k < w.length) : w[k] ∉ a ++ w.take k := by
 have h1 : (l.take m).Pairwise (· < ·) := hs.sublist (List.take_sublist _ _)
 rw [← h] at h1
 have e : w = w.take k ++ w[k] :: w.drop (k + 1) := by
  rw [← List.drop_eq_getElem_cons hk, List.take_append_drop]
 intro hm
 have h2 : (a ++ w.take k ++ w[k] :: w.drop (k + 1)).Pairwise (· < ·) := by
  rw [List.append_assoc, ← e]; exact h1
 have := (List.pairwise_append.1 h2).2.2 _ hm _ (List.mem_cons_self ..)
 omega
section
variable {E : Oracle} (g : Good E)
include g
set_option maxHeartbeats 16000000 in
theorem w_TopChockParts (x : Rqt) (at_ : Int) (ha : 0 ≤ at_ ∧ at_ ≤ 255) : Fc E n_top_TopChockParts [Rqv x, .d (.int .u8 at_)] (B true) := by
 have cm := s_chockMail g
 have c1 := r_CheckRequest g x
 refine g.fn code_top_TopChockParts rfl ?_
 by_cases hall : chkRq x = 0 ∧ x.to - x.fr ≤ 40 ∧ x.to ≠ x.fr ∧ x.nm ≠ OTHR ∧ x.li ≠ OTHR
 ·obtain ⟨hz, h40, hne, hn, hl⟩ := hall
  rw [hz] at c1
  have hp := chkPer_zero.1 (chk_parts hz)
  obtain ⟨day, hday⟩ : ∃ day, day = x.fr + 1 + at_ % (x.to - x.fr) := ⟨_, rfl⟩
  have hr : 0 ≤ at_ % (x.to - x.fr) ∧ at_ % (x.to - x.fr) < x.to - x.fr := ⟨Int.emod_nonneg _ (by omega), Int.emod_lt_of_pos _ (by omega)⟩
  have hd : x.fr < day ∧ day ≤ x.to := by omega
  have sp := s_SplitP g x.fr x.to x.da day
  rw [if_neg (fun h => h (chk_parts hz)), if_neg (by omega)] at sp
  have d0 := r_DaysOf g x.fr x.to x.da (chk_parts hz)
  have d1 := s_DaysOf_ok g x.fr (day - 1) x.da (chkPer_zero.2 (by omega))
  have d2 := s_DaysOf_ok g day x.to x.da (chkPer_zero.2 (by omega))
  have hw := daysP_add x.fr x.da (day - 1 - x.fr + 1).toNat (x.to - day + 1).toNat
  rw [show (day - 1 - x.fr + 1).toNat + (x.to - day + 1).toNat = (x.to - x.fr + 1).toNat by omega, show x.fr + ((day - 1 - x.fr + 1).toNat : Int) = day by omega] at hw
  have hck := daysP_chk x.fr x.da (x.to - x.fr + 1).toNat (by omega) (by omega)
  have hln := daysP_length x.fr x.da (x.to - x.fr + 1).toNat
  have hsp := (daysP_spec x.fr x.da (x.to - x.fr + 1).toNat).1
  generalize daysP x.fr x.da (x.to - x.fr + 1).toNat = l at *
  generalize daysP x.fr x.da (day - 1 - x.fr + 1).toNat = u at *
  generalize daysP day x.da (x.to - day + 1).toNat = v at *
  have hul := congrArg List.length hw
  rw [List.length_append] at hul
  have sj := s_Join_ok g l hck
  have hjl : (joinL l).length ≤ l.length := outs_length l l.length
  have k1 := chks_one hz
  have k2 := chks_two hz hd hn hl
  have sc := (s_Changed g [x] [oneR x day, twoR x day] (by simp) (by simp)).2 (by rw [k1, k2]; rfl)
  rw [chg_parts hd hn, if_neg (by simp)] at sc
  have m1 := ok_sent hz
  have m2 := ok_chg hz hd hn hl
  have ss := s_chockSent g [x] 100 (by simp)
  have hrq := reqs_parts hz hd hn hl
  have sr := s_chockRead g [sentM [x] 100, chgM x day] (by simp) (by rw [hrq]; simp) (fun m hm => by
   simp only [List.mem_cons, List.not_mem_nil, or_false] at hm
   rcases hm with rfl | rfl
   ·have q := (msg_len m1).2
    have e : (sentM [x] 100).ls.length = 1 := rfl
    exact ⟨chkMs_ok.2 m1, by omega⟩
   ·have q := (msg_len m2).2
    have e : (chgM x day).ls.length = 3 := rfl
    exact ⟨chkMs_ok.2 m2, by omega⟩)
  rw [hrq] at sr
  have sc : Fc E n_message_Changed [.d (.list 1 x.cells), .d (.list 2 [.str x.nm, .str x.ca, .str x.ki, .str x.te, .str x.pa, .str x.li, DI x.fr, DI (day - 1), DI x.da, DI x.mi, DI x.se, DI x.si, DI x.no, .str OTHR, .str x.ca, .str x.ki, .str x.te, .str x.pa, .str x.li, DI day, DI x.to, DI x.da, DI x.mi, DI x.se, DI x.si, DI x.no])] (.tup [.d (.list 3 ([⟨[67], x⟩, ⟨[82], oneR x day⟩, ⟨[78], twoR x day⟩].flatMap Lnt.cells)), I 0]) := sc
  have ss : Fc E n_top_chockSent [.d (.list 1 x.cells), I 100] (.d (.agg [.str REQ, .str HERE, .str S2024, DI 100, .list 1 (.str [78] :: x.cells)])) := ss
  have sr : Fc E n_top_chockRead [.d (.list 2 [.str REQ, .str HERE, .str S2024, DI 100, .list 1 (.str [78] :: x.cells), .str REQ, .str HERE, .str S2024, DI 200, .list 3 ([⟨[67], x⟩, ⟨[82], oneR x day⟩, ⟨[78], twoR x day⟩].flatMap Lnt.cells)])] (.tup [.d (.list 2 ([oneR x day, twoR x day].flatMap Rqt.cells)), B true]) := sr
  generalize ([⟨[67], x⟩, ⟨[82], oneR x day⟩, ⟨[78], twoR x day⟩] : List Lnt).flatMap Lnt.cells = cs at *
  clear hrq m1 m2 k1 k2
  repeat' ((conv => whnf); first
  | refine Ya ?_ | refine Yb ?_ | refine Yc ?_ | refine Yd ?_ | refine Ye ?_ | refine Yf ?_ | refine Yg ?_ | refine Yh ?_ | refine Yi rfl ?_ | refine Yj rfl ?_ | refine Yk rfl ?_ | refine Yl rfl ?_
   | (apply CallI.of; assumption)
   | (refine Cmp.ff hne ?_)
   | (refine Cmp.ff hn ?_)
   | (refine Cmp.ff hl ?_)
   | (rw [← hday])
   | fail)
  have same : ∀ {n : Nat} {ds : List D}, n = l.length → ds = l.map DI → Fc E n_ref01_SameInts [.d (.list n ds), LI l] (B true) := by
   rintro _ _ rfl rfl
   have := r_SameInts g l l (by omega)
   rwa [decide_eq_true rfl] at this
  have hcs : u.map DI ++ v.map DI = l.map DI := by rw [hw, List.map_append]
  refine LoopW.step g.lim ?_
  repeat' ((conv => whnf); first
  | refine Ya ?_ | refine Yb ?_ | refine Yc ?_ | refine Yd ?_ | refine Ye ?_ | refine Yf ?_ | refine Yg ?_ | refine Yh ?_ | refine Yi rfl ?_ | refine Yj rfl ?_ | refine Yk rfl ?_ | refine Yl rfl ?_
   | (apply CallI.of; assumption)
   | (refine PickW.rec Rqt.cells_length (l := [oneR x day, twoR x day]) 0 rfl (show 0 < 2 by decide) ?_)
   | fail)
  refine LoopW.step g.lim ?_
  repeat' ((conv => whnf); first
  | refine Ya ?_ | refine Yb ?_ | refine Yc ?_ | refine Yd ?_ | refine Ye ?_ | refine Yf ?_ | refine Yg ?_ | refine Yh ?_ | refine Yi rfl ?_ | refine Yj rfl ?_ | refine Yk rfl ?_ | refine Yl rfl ?_
   | (apply CallI.of; assumption)
   | (refine PickW.rec Rqt.cells_length (l := [oneR x day, twoR x day]) 1 rfl (show 1 < 2 by decide) ?_)
   | fail)
  refine LoopW.step g.lim ?_
  repeat' ((conv => whnf); first
  | refine Ya ?_ | refine Yb ?_ | refine Yc ?_ | refine Yd ?_ | refine Ye ?_ | refine Yf ?_ | refine Yg ?_ | refine Yh ?_ | refine Yi rfl ?_ | refine Yj rfl ?_ | refine Yk rfl ?_ | refine Yl rfl ?_
   | (apply CallI.of; assumption)
   | (refine CallI.of (same (by omega) (by simp [hcs])) ?_)
   | fail)
  have hn : 0 + u.length + v.length = l.length := by omega
  have hrow : [] ++ u.map DI ++ v.map DI = l.map DI := by rw [List.nil_append, hcs]
  rw [hn, hrow]
  clear same d1 d2 d0 sp sc ss sr c1 sj hrow hn hcs hw hul
  obtain ⟨b, hb0, hb1, hb2⟩ := cov_idx (join_cov (l := l))
  repeat' ((conv => whnf); first
  | refine Ya ?_ | refine Yb ?_ | refine Yc ?_ | refine Yd ?_ | refine Ye ?_ | refine Yf ?_ | refine Yg ?_ | refine Yh ?_ | refine Yi rfl ?_ | refine Yj rfl ?_ | refine Yk rfl ?_ | refine Yl rfl ?_
   | fail)
  refine LoopW.to (LoopW.upP g (fun r => [(17, .ref ⟨0, 17, 0⟩ 0 l.length l.length), (22, .mp ⟨0, 175, 0⟩), (23, I (b r)), (176, LP (joinL l)), (177, I (joinL l).length), (178, I r)])
   (fun r => cpM x day cs l (l.take (b r))) (fun r => b r ≤ l.length) (joinL l).length (fun r hr hbr ih => ?_) 0 (Nat.zero_le _) (by omega)) (by simp [hb0]) (by simp [hb0, cpM, keysI])
  ·by_cases hlt : r < (joinL l).length
   ·obtain ⟨hbr2, w, ho⟩ := hb2 r hlt
    have hol := ho.lt
    have ih := ih hlt (by omega)
    obtain ⟨q, hq1, hq2, _, _, hq5⟩ := cov_seg hck hbr2 ho
    have dq := s_DaysOf_ok g _ _ _ (open_chk hck ho)
    rw [hq1] at dq
    repeat' ((conv => whnf); first
    | refine Ya ?_ | refine Yb ?_ | refine Yc ?_ | refine Yd ?_ | refine Ye ?_ | refine Yf ?_ | refine Yg ?_ | refine Yh ?_ | refine Yi rfl ?_ | refine Yj rfl ?_ | refine Yk rfl ?_ | refine Yl rfl ?_
     | (apply CallI.of; assumption)
     | (refine PickW.rec cellP_len r (by omega) hlt ?_)
     | fail)
    generalize (joinL l)[r] = pr at *
    have hql : (l.take (b r)).length = b r := by rw [List.length_take]; omega
    refine LoopW.to (LoopW.up g (fun k => [(17, .ref ⟨0, 17, 0⟩ 0 l.length l.length), (22, .mp ⟨0, 175, 0⟩), (23, I ((b r + k : Nat) : Int)), (176, LP (joinL l)), (177, I (joinL l).length), (178, I r), (189, LI q), (190, I q.length), (191, I k)])
     (fun k => cpM x day cs l (l.take (b r) ++ q.take k) ++ [(⟨0, 25, 0⟩, .cells ty_api_Period [I pr.1, I pr.2.1, I pr.2.2])]) q.length (fun k hk ih2 => ?_) 0 (Nat.zero_le _)) (by simp) (by simp)
    by_cases hk2 : k < q.length
    ·have ih2 := ih2 hk2
     have hnew := next_new hsp hq5 hk2
     have hset := set_keysI q[k] (l.take (b r) ++ q.take k) hnew
     have hnext : l.take (b r) ++ q.take k ++ [q[k]] = l.take (b r) ++ q.take (k + 1) := by
      rw [List.take_add_one, List.getElem?_eq_getElem hk2, List.append_assoc]; rfl
     rw [hnext] at hset
     have hgk : q.getD k 0 = q[k] := by rw [List.getD, List.getElem?_eq_getElem hk2]; rfl
     clear ih dq hnew hnext
     repeat' ((conv => whnf); first
     | refine Ya ?_ | refine Yb ?_ | refine Yc ?_ | refine Yd ?_ | refine Ye ?_ | refine Yf ?_ | refine Yg ?_ | refine Yh ?_ | refine Yi rfl ?_ | refine Yj rfl ?_ | refine Yk rfl ?_ | refine Yl rfl ?_
      | (refine Pick.at k (by omega) hk2 ?_; rw [hgk])
      | (refine SetW.mk ⟨_, hset, ?_⟩)
      | (refine LoopW.to ih2 (by simp; omega) rfl)
      | fail)
    ·obtain rfl : k = q.length := by omega
     rw [List.take_length, hq5, show b r + q.length = b (r + 1) by omega]
     clear ih2
     repeat' ((conv => whnf); first
     | refine Ya ?_ | refine Yb ?_ | refine Yc ?_ | refine Yd ?_ | refine Ye ?_ | refine Yf ?_ | refine Yg ?_ | refine Yh ?_ | refine Yi rfl ?_ | refine Yj rfl ?_ | refine Yk rfl ?_ | refine Yl rfl ?_
      | (simp only [cpM, List.cons_append, Evl.idsAll, Evl.idsO, ids_keysI, List.nil_append])
      | (refine LoopW.to ih (by simp) rfl)
      | fail)
   ·obtain rfl : r = (joinL l).length := by omega
    rw [hb1, List.take_length]
    clear ih
    repeat' ((conv => whnf); first
    | refine Ya ?_ | refine Yb ?_ | refine Yc ?_ | refine Yd ?_ | refine Ye ?_ | refine Yf ?_ | refine Yg ?_ | refine Yh ?_ | refine Yi rfl ?_ | refine Yj rfl ?_ | refine Yk rfl ?_ | refine Yl rfl ?_
     | fail)
    refine LoopW.to (LoopW.up g (fun k => [(17, .ref ⟨0, 17, 0⟩ 0 l.length l.length), (22, .mp ⟨0, 175, 0⟩), (23, I l.length), (201, .ref ⟨0, 17, 0⟩ 0 l.length l.length), (202, I l.length), (203, I k)])
     (fun k => cpM x day cs l l) l.length (fun k hk ih => ?_) 0 (Nat.zero_le _)) rfl rfl
    by_cases hk2 : k < l.length
    ·have ih := ih hk2
     have hf := find_keysI l[k] l
     rw [if_pos (List.getElem_mem hk2)] at hf
     have hgk : l.getD k 0 = l[k] := by rw [List.getD, List.getElem?_eq_getElem hk2]; rfl
     repeat' ((conv => whnf); first
     | refine Ya ?_ | refine Yb ?_ | refine Yc ?_ | refine Yd ?_ | refine Ye ?_ | refine Yf ?_ | refine Yg ?_ | refine Yh ?_ | refine Yi rfl ?_ | refine Yj rfl ?_ | refine Yk rfl ?_ | refine Yl rfl ?_
      | (refine Pick.at k (by omega) hk2 ?_; rw [hgk])
      | (refine Find.mk ⟨_, hf, ?_⟩)
      | (simp only [Evl.idsAll, Evl.idsO, ids_keysI, List.nil_append])
      | (refine LoopW.to ih rfl rfl)
      | fail)
    ·obtain rfl : k = l.length := by omega
     clear ih
     repeat' ((conv => whnf); first
     | refine Ya ?_ | refine Yb ?_ | refine Yc ?_ | refine Yd ?_ | refine Ye ?_ | refine Yf ?_ | refine Yg ?_ | refine Yh ?_ | refine Yi rfl ?_ | refine Yj rfl ?_ | refine Yk rfl ?_ | refine Yl rfl ?_
      | (apply CallI.of; assumption)
      | (refine Ret.mk rfl)
      | fail)
 ·by_cases hz : chkRq x = 0
  ·rw [hz] at c1
   have hp := chkPer_zero.1 (chk_parts hz)
   by_cases h1 : x.to - x.fr ≤ 40 ∧ x.to ≠ x.fr
   ·by_cases h2 : x.nm = OTHR
    ·repeat' ((conv => whnf); first
    | refine Ya ?_ | refine Yb ?_ | refine Yc ?_ | refine Yd ?_ | refine Ye ?_ | refine Yf ?_ | refine Yg ?_ | refine Yh ?_ | refine Yi rfl ?_ | refine Yj rfl ?_ | refine Yk rfl ?_ | refine Yl rfl ?_
      | (apply CallI.of; assumption)
      | (refine Cmp.ff h1.2 ?_)
      | (refine Cmp.tt h2 ?_)
      | (refine Ret.mk rfl)
      | fail)
    ·have h3 : x.li = OTHR := Classical.not_not.1 fun h3 => hall ⟨hz, h1.1, h1.2, h2, h3⟩
     repeat' ((conv => whnf); first
     | refine Ya ?_ | refine Yb ?_ | refine Yc ?_ | refine Yd ?_ | refine Ye ?_ | refine Yf ?_ | refine Yg ?_ | refine Yh ?_ | refine Yi rfl ?_ | refine Yj rfl ?_ | refine Yk rfl ?_ | refine Yl rfl ?_
      | (apply CallI.of; assumption)
      | (refine Cmp.ff h1.2 ?_)
      | (refine Cmp.ff h2 ?_)
      | (refine Cmp.tt h3 ?_)
      | (refine Ret.mk rfl)
      | fail)
   ·repeat' ((conv => whnf); first
   | refine Ya ?_ | refine Yb ?_ | refine Yc ?_ | refine Yd ?_ | refine Ye ?_ | refine Yf ?_ | refine Yg ?_ | refine Yh ?_ | refine Yi rfl ?_ | refine Yj rfl ?_ | refine Yk rfl ?_ | refine Yl rfl ?_
     | (apply CallI.of; assumption)
     | (refine Cmp.mk (fun h => ?_) (fun h => ?_)) | (refine Rem.any (by omega) (fun r hr he => ?_)) | (refine Br.mk (fun h => ?_) (fun h => ?_))
     | (refine Ret.mk rfl)
     | (exfalso; exact h1 ⟨by omega, by omega⟩)
     | fail)
  ·repeat' ((conv => whnf); first
  | refine Ya ?_ | refine Yb ?_ | refine Yc ?_ | refine Yd ?_ | refine Ye ?_ | refine Yf ?_ | refine Yg ?_ | refine Yh ?_ | refine Yi rfl ?_ | refine Yj rfl ?_ | refine Yk rfl ?_ | refine Yl rfl ?_
    | (apply CallI.of; assumption)
    | (refine Cmp.ff hz ?_)
    | (refine Ret.mk rfl)
    | fail)
end
theorem s_TopChockParts {E : Oracle} (g : Good E) {xs : List D} (h : fitArgs Tryz.prog [48, 5] xs) : Fc E n_top_TopChockParts (asV xs) (B true) := by
 obtain ⟨x, y, rfl, h1, h2⟩ := args2 h
 obtain ⟨q, rfl⟩ := arg_Request h1
 obtain ⟨c, rfl, hw⟩ := arg_i Tryz.underlying5 h2
 simp only [Lit.wf, Bool.and_eq_true, decide_eq_true_eq] at hw
 exact w_TopChockParts g q c hw
end Go.Proofs.YtlnlcdnpgjhaaabGreatDoor.Co
