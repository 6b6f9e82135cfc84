
/-
  Numbers of days, the plain law: two periods, both together, and what they have in common; masks of weekdays.
-/
import Derived.Test.YtddpjjaebkaggabGreatDoorPlCow
namespace Go.Proofs.YtddpjjaebkaggabGreatDoor.Co
open Go Go.Evl
def filL (p : Int → Bool) (f : Int) : Nat → List Int
  | 0 => []
  | k + 1 => filL p f k ++ (if p (f + k) then [f + (k : Int)] else [])
theorem filL_length (p : Int → Bool) (f : Int) : ∀ n, (filL p f n).length ≤ n
  | 0 => Nat.le_refl _
  | k + 1 => by
    have := filL_length p f k
    simp only [filL, List.length_append]
    split <;> simp <;> omega
theorem filL_spec (p : Int → Bool) (f : Int) : ∀ n : Nat, (filL p f n).Pairwise (· < ·) ∧ ∀ x, x ∈ filL p f n ↔ (f ≤ x ∧ x < f + n) ∧ p x = true
  | 0 => ⟨by simp [filL], fun x => by simp [filL]; intro h1 h2; omega⟩
  | n + 1 => by
    obtain ⟨h1, h2⟩ := filL_spec p f n
    have hs : filL p f (n + 1) = filL p f n ++ if p (f + n) then [f + (n : Int)] else [] := rfl
    rw [hs]
    refine ⟨List.pairwise_append.2 ⟨h1, by split <;> simp, fun x hx y hy => ?_⟩, fun x => ?_⟩
    · have := (h2 x).1 hx
      split at hy
      · rw [List.mem_singleton] at hy; omega
      · simp at hy
    · rw [List.mem_append, h2]
      by_cases hp : p (f + n) = true
      · rw [if_pos hp, List.mem_singleton]
        constructor
        · rintro (h | h)
          · exact ⟨by omega, h.2⟩
          · subst h; exact ⟨by omega, hp⟩
        · rintro ⟨h3, h4⟩
          by_cases e : x = f + n
          · exact .inr e
          · exact .inl ⟨by omega, h4⟩
      · rw [if_neg hp]
        constructor
        · rintro (h | h)
          · exact ⟨by omega, h.2⟩
          · simp at h
        · rintro ⟨h3, h4⟩
          by_cases e : x = f + n
          · subst e; exact absurd h4 hp
          · exact .inl ⟨by omega, h4⟩
theorem filL_add (p : Int → Bool) (f : Int) (a : Nat) : ∀ b : Nat, filL p f (a + b) = filL p f a ++ filL p (f + a) b
  | 0 => by simp [filL]
  | b + 1 => by
    have h1 : filL p f (a + (b + 1)) = filL p f (a + b) ++ if p (f + ((a + b : Nat) : Int)) then [f + ((a + b : Nat) : Int)] else [] := rfl
    have h2 : filL p (f + a) (b + 1) = filL p (f + a) b ++ if p (f + a + (b : Int)) then [f + a + (b : Int)] else [] := rfl
    rw [h1, h2, filL_add p f a b, List.append_assoc]
    rw [show f + ((a + b : Nat) : Int) = f + a + b by omega]
theorem filL_congr {p q : Int → Bool} (f : Int) : ∀ n : Nat, (∀ x, f ≤ x → x < f + n → p x = q x) → filL p f n = filL q f n
  | 0, _ => rfl
  | n + 1, h => by
    simp only [filL]
    rw [filL_congr f n fun x h1 h2 => h x h1 (by omega), h (f + n) (by omega) (by omega)]
theorem filL_none {p : Int → Bool} (f : Int) (n : Nat) (h : ∀ x, f ≤ x → x < f + n → p x = false) : filL p f n = [] := by
  refine List.eq_nil_iff_forall_not_mem.2 fun x hx => ?_
  have h1 := ((filL_spec p f n).2 x).1 hx
  rw [h x h1.1.1 h1.1.2] at h1
  exact absurd h1.2 (by decide)
theorem filL_in {p : Int → Bool} {f t lo hi : Int} (h1 : lo ≤ f ∧ f ≤ t ∧ t ≤ hi) (h : ∀ x, ¬ (f ≤ x ∧ x ≤ t) → p x = false) : filL p lo (hi - lo + 1).toNat = filL p f (t - f + 1).toNat := by
  have e : (hi - lo + 1).toNat = (f - lo).toNat + ((t - f + 1).toNat + (hi - t).toNat) := by omega
  rw [e, filL_add, filL_add, filL_none lo _ fun x h2 h3 => h x (by omega), filL_none (p := p) (lo + _ + _) _ fun x h2 h3 => h x (by omega)]
  rw [show lo + ((f - lo).toNat : Int) = f by omega]
  simp
theorem filL_both (p q : Int → Bool) (f : Int) : ∀ n : Nat, (filL (fun x => p x || q x) f n).length + (filL (fun x => p x && q x) f n).length = (filL p f n).length + (filL q f n).length
  | 0 => rfl
  | n + 1 => by
    have ih := filL_both p q f n
    simp only [filL, List.length_append]
    by_cases h1 : p (f + n) = true <;> by_cases h2 : q (f + n) = true <;> simp [h1, h2] <;> omega
theorem daysP_fil (f d : Int) : ∀ n, daysP f d n = filL (fun x => inM d ((x + 5) % 7)) f n
  | 0 => rfl
  | n + 1 => by simp only [daysP, filL]; rw [daysP_fil f d n]
theorem meetP_fil (q : Int → Bool) (f d : Int) : ∀ n, meetP q f d n = filL (fun x => inM d ((x + 5) % 7) && q x) f n
  | 0 => rfl
  | n + 1 => by simp only [meetP, filL]; rw [meetP_fil q f d n]
theorem days_in {f t d lo hi : Int} (h : lo ≤ f ∧ f ≤ t ∧ t ≤ hi) : (filL (hasB f t d) lo (hi - lo + 1).toNat) = daysP f d (t - f + 1).toNat := by
  rw [filL_in h (p := hasB f t d) fun x hx => by unfold hasB; by_cases e : f ≤ x <;> by_cases e2 : x ≤ t <;> simp [e, e2]; omega, daysP_fil]
  refine filL_congr f _ fun x h1 h2 => ?_
  unfold hasB
  simp only [decide_eq_true h1, decide_eq_true (show x ≤ t by omega), Bool.true_and]
theorem meet_in {f t d lo hi : Int} (q : Int → Bool) (h : lo ≤ f ∧ f ≤ t ∧ t ≤ hi) : (filL (fun x => hasB f t d x && q x) lo (hi - lo + 1).toNat) = meetP q f d (t - f + 1).toNat := by
  rw [filL_in h (p := fun x => hasB f t d x && q x) fun x hx => by unfold hasB; by_cases e : f ≤ x <;> by_cases e2 : x ≤ t <;> simp [e, e2]; omega, meetP_fil]
  refine filL_congr f _ fun x h1 h2 => ?_
  unfold hasB
  simp only [decide_eq_true h1, decide_eq_true (show x ≤ t by omega), Bool.true_and]
theorem both_count {f t d f2 t2 d2 lo hi : Int} (h : lo ≤ f ∧ f ≤ t ∧ t ≤ hi) (h2 : lo ≤ f2 ∧ f2 ≤ t2 ∧ t2 ≤ hi) :
    (filL (fun x => hasB f t d x || hasB f2 t2 d2 x) lo (hi - lo + 1).toNat).length + (meetP (hasB f2 t2 d2) f d (t - f + 1).toNat).length = (daysP f d (t - f + 1).toNat).length + (daysP f2 d2 (t2 - f2 + 1).toNat).length := by
  have := filL_both (hasB f t d) (hasB f2 t2 d2) lo (hi - lo + 1).toNat
  rw [meet_in _ h, days_in h, days_in h2] at this
  exact this
theorem far_meet {f t d f2 t2 d2 : Int} (h : t < f2 ∨ t2 < f) : meetP (hasB f2 t2 d2) f d (t - f + 1).toNat = [] := by
  rw [meetP_fil]
  refine filL_none f _ fun x h1 h3 => ?_
  unfold hasB
  by_cases e : f2 ≤ x <;> by_cases e2 : x ≤ t2 <;> simp [e, e2]
  omega
theorem mem_days {f t d x : Int} (h : f ≤ t) : x ∈ daysP f d (t - f + 1).toNat ↔ hasB f t d x = true := by
  rw [(daysP_spec f d _).2 x]
  unfold hasB
  simp only [Bool.and_eq_true, decide_eq_true_eq]
  constructor
  · rintro ⟨⟨h1, h2⟩, h3⟩; exact ⟨h1, by omega, h3⟩
  · rintro ⟨h1, h2, h3⟩; exact ⟨⟨h1, by omega⟩, h3⟩
theorem filL_chk {p : Int → Bool} {f : Int} {n : Nat} (hf : 0 ≤ f ∧ f + n ≤ 100000) (hn : n ≤ 512) : chkDays (filL p f n) = 0 := by
  have h := filL_spec p f n
  have hl := filL_length p f n
  exact chkDays_of (by omega) h.1 fun x hx => by have := ((h.2 x).1 hx).1; omega
theorem inM_bit (a : Nat) (w : Nat) : inM (a : Int) (w : Int) = a.testBit w := by
  unfold inM
  rw [Nat.testBit_eq_decide_div_mod_eq, decide_eq_decide]
  simp only [Int.toNat_natCast]
  constructor
  · intro h; exact_mod_cast h
  · intro h; exact_mod_cast h
theorem or_mask {a b : Int} (ha : 0 ≤ a ∧ a ≤ 127) (hb : 0 ≤ b ∧ b ≤ 127) :
    IntKind.i64.wrap ((BitVec.ofInt IntKind.i64.bits a ||| BitVec.ofInt IntKind.i64.bits b).toNat) = ((a.toNat ||| b.toNat : Nat) : Int) ∧ IntKind.i64.wrap ((BitVec.ofInt IntKind.i64.bits a &&& BitVec.ofInt IntKind.i64.bits b).toNat) = ((a.toNat &&& b.toNat : Nat) : Int) := by
  have hx : ∀ x : Int, 0 ≤ x ∧ x ≤ 127 → (BitVec.ofInt IntKind.i64.bits x).toNat = x.toNat := by
    intro x hx
    rw [BitVec.toNat_ofInt]
    show (x % ((2 ^ 64 : Nat) : Int)).toNat = _
    congr 1
    exact Int.emod_eq_of_lt hx.1 (by have : ((2 ^ 64 : Nat) : Int) = 18446744073709551616 := rfl
                                     omega)
  have h1 : a.toNat ||| b.toNat < 2 ^ 7 := Nat.or_lt_two_pow (by omega) (by omega)
  have h2 : a.toNat &&& b.toNat < 2 ^ 7 := Nat.and_lt_two_pow _ (by omega)
  rw [BitVec.toNat_or, BitVec.toNat_and, hx a ha, hx b hb]
  exact ⟨wrap_id (by omega), wrap_id (by omega)⟩
theorem masks_count {a b : Int} (ha : 0 ≤ a ∧ a ≤ 127) (hb : 0 ≤ b ∧ b ≤ 127) (f : Int) (n : Nat) :
    (daysP f ((a.toNat ||| b.toNat : Nat) : Int) n).length + (daysP f ((a.toNat &&& b.toNat : Nat) : Int) n).length = (daysP f a n).length + (daysP f b n).length := by
  obtain ⟨a, rfl⟩ : ∃ k : Nat, a = k := ⟨a.toNat, by omega⟩
  obtain ⟨b, rfl⟩ : ∃ k : Nat, b = k := ⟨b.toNat, by omega⟩
  simp only [Int.toNat_natCast]
  have := filL_both (fun x => inM a ((x + 5) % 7)) (fun x => inM b ((x + 5) % 7)) f n
  rw [daysP_fil f (a : Int), daysP_fil f (b : Int), daysP_fil f _ n, daysP_fil f _ n, ← this]
  have hb : ∀ x : Int, ∃ w : Nat, (x + 5) % 7 = w := fun x => ⟨((x + 5) % 7).toNat, by omega⟩
  congr 2
  · refine filL_congr f n fun x _ _ => ?_
    obtain ⟨w, hw⟩ := hb x
    rw [hw, inM_bit, inM_bit, inM_bit, Nat.testBit_or]
  · refine filL_congr f n fun x _ _ => ?_
    obtain ⟨w, hw⟩ := hb x
    rw [hw, inM_bit, inM_bit, inM_bit, Nat.testBit_and]
theorem no_mask (f : Int) (n : Nat) : daysP f 0 n = [] := by
  rw [daysP_fil]
  refine filL_none f n fun x _ _ => ?_
  have := bit_zero ⟨((x + 5) % 7).toNat, by omega⟩
  simp only at this
  rw [show (((x + 5) % 7).toNat : Int) = (x + 5) % 7 by omega] at this
  exact this
theorem week_fin : ∀ (r w : Fin 7), (daysP (r.val : Int) (2 ^ w.val) 7).length = 1 := by decide +kernel
theorem daysP_mod {f f2 : Int} (d : Int) (h : f % 7 = f2 % 7) : ∀ n, (daysP f d n).length = (daysP f2 d n).length
  | 0 => rfl
  | n + 1 => by
    simp only [daysP, List.length_append]
    rw [daysP_mod d h n, show (f + (n : Int) + 5) % 7 = (f2 + (n : Int) + 5) % 7 by omega]
    split <;> rfl
theorem week_once (f : Int) (w : Nat) (hw : w < 7) : (daysP f (2 ^ w) 7).length = 1 := by
  rw [daysP_mod (2 ^ w) (show f % 7 = ((f % 7).toNat : Int) % 7 by omega)]
  exact week_fin ⟨(f % 7).toNat, by omega⟩ ⟨w, hw⟩
end Go.Proofs.YtddpjjaebkaggabGreatDoor.Co
