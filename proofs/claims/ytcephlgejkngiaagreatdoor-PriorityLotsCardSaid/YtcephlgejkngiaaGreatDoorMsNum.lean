
/-
  Messages: numbers of so many digits and minutes, printed and read.
-/
import Derived.Test.YtcephlgejkngiaaGreatDoorSpName
import Derived.Test.YtcephlgejkngiaaGreatDoorSpDig
namespace Go.Proofs.YtcephlgejkngiaaGreatDoor.Co
open Go Go.Evl
def valA (a : Int) : List UInt8 → Int
  | [] => a
  | b :: r => valA (10 * a + ((b.toNat : Int) - 48)) r
theorem valA_append : ∀ (l r : List UInt8) (a : Int), valA a (l ++ r) = valA (valA a l) r
  | [], _, _ => rfl
  | b :: l, r, a => by simp only [List.cons_append, valA]; exact valA_append l r _
theorem valA_take {s : List UInt8} {k : Nat} (h : k < s.length) : valA 0 (s.take (k + 1)) = 10 * valA 0 (s.take k) + (((s.getD k 0).toNat : Int) - 48) := by
  rw [List.take_add_one, valA_append, List.getElem?_eq_getElem h]
  simp [valA, List.getD, h]
theorem valA_lt : ∀ (n : Nat) (l : List UInt8), l.length = n → (∀ x ∈ l, dg x) → 0 ≤ valA 0 l ∧ valA 0 l < (10 ^ n : Nat)
  | 0, l, h, _ => by
    obtain rfl := List.length_eq_zero_iff.1 h
    simp [valA]
  | n + 1, l, h, hd => by
    have hne : l ≠ [] := fun e => by subst e; simp at h
    have e : l = l.dropLast ++ [l.getLast hne] := (List.dropLast_concat_getLast hne).symm
    have ih := valA_lt n l.dropLast (by simp [h]) fun x hx => hd x (List.dropLast_subset l hx)
    have hl := hd _ (List.getLast_mem hne)
    rw [e, valA_append]
    simp only [valA]
    unfold dg at hl
    rw [Nat.pow_succ]
    omega
def numP (s : List UInt8) (w : Nat) : Prop := s.length = w ∧ ∀ x ∈ s, dg x
instance (s : List UInt8) (w : Nat) : Decidable (numP s w) := by unfold numP; infer_instance
def numB (s : List UInt8) (w : Nat) : Bool := decide (numP s w)
theorem numB_len {s : List UInt8} {w : Nat} (h : s.length ≠ w) : numB s w = false := decide_eq_false fun hn => h hn.1
theorem numB_dig {s : List UInt8} {w k : Nat} (hk : k < s.length) (h : ¬ dg (s.getD k 0)) : numB s w = false := decide_eq_false fun hn => h (hn.2 _ (by
  simp [List.getD, hk]))
theorem numB_yes {s : List UInt8} {w : Nat} (h : s.length = w) (hd : ∀ i, i < s.length → dg (s.getD i 0)) : numB s w = true := decide_eq_true ⟨h, fun x hx => by
  obtain ⟨i, hi, rfl⟩ := List.getElem_of_mem hx
  have := hd i hi
  simpa [List.getD, hi] using this⟩
theorem numB_val {s : List UInt8} {w : Nat} (h : numB s w = true) : 0 ≤ valA 0 s ∧ valA 0 s < (10 ^ w : Nat) :=
  have h := of_decide_eq_true h
  valA_lt w s h.1 h.2
theorem take_lt {s : List UInt8} {k w : Nat} (hk : k ≤ s.length) (hw : s.length ≤ w) (hd : ∀ i, i < k → dg (s.getD i 0)) : 0 ≤ valA 0 (s.take k) ∧ valA 0 (s.take k) < (10 ^ w : Nat) := by
  have h := valA_lt k (s.take k) (by simp; omega) fun x hx => by
    obtain ⟨i, hi, rfl⟩ := List.getElem_of_mem hx
    have hi' : i < k := by simp at hi; omega
    have := hd i hi'
    simpa [List.getD, show i < s.length by omega] using this
  have hp : 10 ^ k ≤ 10 ^ w := Nat.pow_le_pow_right (by omega) (by omega)
  omega
theorem wideL_zero : ∀ k : Nat, wideL k 0 = List.replicate k 48
  | 0 => rfl
  | k + 1 => by
    have : wideL (k + 1) 0 = wideL k 0 ++ [48] := rfl
    rw [this, wideL_zero k, ← List.replicate_succ']
theorem wideL_pad : ∀ (w f u : Nat), 1 ≤ w → w ≤ f → u < 10 ^ w → (digitsF f u).length ≤ w ∧ List.replicate (w - (digitsF f u).length) 48 ++ digitsF f u = wideL w u
  | 0, _, _, h, _, _ => absurd h (by omega)
  | _ + 1, 0, _, _, h, _ => absurd h (by omega)
  | w + 1, f + 1, u, _, hf, hu => by
    simp only [digitsF]
    split
    · rename_i hlt
      refine ⟨by simp, ?_⟩
      have e1 : (u : Int) / 10 = 0 := by omega
      have e2 : (u : Int) % 10 = u := by omega
      simp only [wideL, e1, e2, wideL_zero]
      simp [dig]
    · rename_i hge
      have hw : 1 ≤ w := by
        rcases Nat.eq_zero_or_pos w with h | h
        · subst h; simp at hu; omega
        · exact h
      rw [Nat.pow_succ] at hu
      obtain ⟨h1, h2⟩ := wideL_pad w f (u / 10) hw (by omega) (by omega)
      refine ⟨by simp; omega, ?_⟩
      have e1 : (u : Int) / 10 = ((u / 10 : Nat) : Int) := by omega
      have e2 : ((u : Int) % 10).toNat = u % 10 := by omega
      simp only [wideL, e1]
      rw [← h2]
      simp [dig, e2]
theorem toNat_u8 (b : UInt8) : b.toNat < 256 := b.toNat_lt
theorem Wr.keep32 {x : Int} {K : Int → Prop} (h : -2147483648 ≤ x ∧ x ≤ 2147483647) (k : K x) : Wr .i32 x K := ⟨by
  have : IntKind.i32.wrap x = x := by
    have hb : IntKind.i32.wrap x = (if x % 4294967296 ≥ 2147483648 then x % 4294967296 - 4294967296 else x % 4294967296) := by
      simp [IntKind.wrap, IntKind.signed, IntKind.bits]
    rw [hb]
    split <;> omega
  rw [this]; exact k⟩
def minL (m : Int) : List UInt8 := wideL 2 (m / 60) ++ wideL 2 (m % 60)
def minP (s : List UInt8) : Prop := numB s 4 = true ∧ valA 0 s / 100 ≤ 23 ∧ valA 0 s % 100 ≤ 59
instance (s : List UInt8) : Decidable (minP s) := by unfold minP; infer_instance
def minV (s : List UInt8) : Int := valA 0 s / 100 * 60 + valA 0 s % 100
section
variable {E : Oracle} (g : Good E)
include g
omit g in
theorem repeatL_one : ∀ k : Nat, Lib.repeatL [48] k = List.replicate k (48 : UInt8)
  | 0 => rfl
  | k + 1 => by
    rw [List.replicate_succ, ← repeatL_one k]
    rfl
theorem r_Text : ∀ (f : Nat) (n : Int), f ≤ 16 → 0 ≤ n ∧ n < (10 ^ (f + 1) : Nat) → Fc E n_ref01_Text [I n] (S (digitsF (f + 1) n.toNat))
  | 0, n, _, h => by
    refine g.fn code_ref01_Text rfl ?_
    have hd := r_digit g n (by omega)
    repeat' ((conv => whnf); first
    | refine Br.tt ?_ | refine Br.ff ?_ | refine Need.w ?_ | refine Wr.w ?_ | refine Cmp.t ?_ | refine Cmp.f ?_ | refine Rem.w ?_ | refine Quo.w ?_ | refine PickV.now rfl ?_ | refine Pick.now rfl ?_ | refine Chk.mk rfl ?_ | refine PickW.w rfl ?_
      | (apply CallI.of; assumption)
      | (refine Ret.mk ?_))
    simp only [digitsF]
    rw [if_pos (by omega)]
    rfl
  | f + 1, n, hf, h => by
    refine g.fn code_ref01_Text rfl ?_
    rw [Nat.pow_succ] at h
    have hp : 10 ^ (f + 1) ≤ 10 ^ 17 := Nat.pow_le_pow_right (by omega) (by omega)
    by_cases hl : n < 10
    · have hd := r_digit g n (by omega)
      repeat' ((conv => whnf); first
      | refine Br.tt ?_ | refine Br.ff ?_ | refine Need.w ?_ | refine Wr.w ?_ | refine Cmp.t ?_ | refine Cmp.f ?_ | refine Rem.w ?_ | refine Quo.w ?_ | refine PickV.now rfl ?_ | refine Pick.now rfl ?_ | refine Chk.mk rfl ?_ | refine PickW.w rfl ?_
        | (apply CallI.of; assumption)
        | (refine Ret.mk ?_))
      rw [digitsF, if_pos (by omega)]
      rfl
    · have hd := r_digit g (n % 10) (by omega)
      have ih := r_Text f (n / 10) (by omega) (by omega)
      have hlen : ∀ (k u : Nat), (digitsF k u).length ≤ k := fun k => by
        induction k with
        | zero => intro u; simp [digitsF]
        | succ k ih =>
          intro u
          simp only [digitsF]
          split
          · simp
          · have := ih (u / 10); simp; omega
      have hl2 := hlen (f + 1) (n / 10).toNat
      repeat' ((conv => whnf); first
      | refine Br.tt ?_ | refine Br.ff ?_ | refine Need.w ?_ | refine Wr.w ?_ | refine Cmp.t ?_ | refine Cmp.f ?_ | refine Rem.w ?_ | refine Quo.w ?_ | refine PickV.now rfl ?_ | refine Pick.now rfl ?_ | refine Chk.mk rfl ?_ | refine PickW.w rfl ?_
        | (apply CallI.of; assumption)
        | (refine Need.mk (by simp only [maxStr, List.length_cons, List.length_nil]; omega) ?_)
        | (refine Ret.mk ?_))
      have e1 : (n / 10).toNat = n.toNat / 10 := by omega
      have e2 : (n % 10).toNat = n.toNat % 10 := by omega
      show S (digitsF (f + 1) (n / 10).toNat ++ [dig (n % 10)]) = S (if n.toNat < 10 then _ else digitsF (f + 1) (n.toNat / 10) ++ [UInt8.ofNat (48 + n.toNat % 10)])
      rw [if_neg (by omega), dig, e1, e2]
theorem s_mwhen (b : Bool) (e : Int) : Fc E n_message_when [B b, I e] (I (if b then e else 0)) := by
  refine g.fn code_message_when rfl ?_
  cases b <;> repeat' ((conv => whnf); first
  | refine Br.tt ?_ | refine Br.ff ?_ | refine Need.w ?_ | refine Wr.w ?_ | refine Cmp.t ?_ | refine Cmp.f ?_ | refine Rem.w ?_ | refine Quo.w ?_ | refine PickV.now rfl ?_ | refine Pick.now rfl ?_ | refine Chk.mk rfl ?_ | refine PickW.w rfl ?_
    | (refine Ret.mk rfl))
theorem s_mwithin (n a b : Int) : Fc E n_message_within [I n, I a, I b] (I (rng n a b)) := by
  refine g.fn code_message_within rfl ?_
  have hw : ∀ c, Fc E n_message_when [B c, I 3] (I (if c then 3 else 0)) := fun c => s_mwhen g c 3
  unfold rng
  by_cases h1 : n < a
  · rw [if_pos (.inl h1)]
    repeat' ((conv => whnf); first
    | refine Br.tt ?_ | refine Br.ff ?_ | refine Need.w ?_ | refine Wr.w ?_ | refine Cmp.t ?_ | refine Cmp.f ?_ | refine Rem.w ?_ | refine Quo.w ?_ | refine PickV.now rfl ?_ | refine Pick.now rfl ?_ | refine Chk.mk rfl ?_ | refine PickW.w rfl ?_
      | (refine CallI.of (hw _) ?_)
      | (refine Ret.mk rfl))
  · by_cases h2 : b < n
    · rw [if_pos (.inr h2)]
      repeat' ((conv => whnf); first
      | refine Br.tt ?_ | refine Br.ff ?_ | refine Need.w ?_ | refine Wr.w ?_ | refine Cmp.t ?_ | refine Cmp.f ?_ | refine Rem.w ?_ | refine Quo.w ?_ | refine PickV.now rfl ?_ | refine Pick.now rfl ?_ | refine Chk.mk rfl ?_ | refine PickW.w rfl ?_
        | (refine CallI.of (hw _) ?_)
        | (refine Ret.mk rfl))
    · rw [if_neg (by omega)]
      repeat' ((conv => whnf); first
      | refine Br.tt ?_ | refine Br.ff ?_ | refine Need.w ?_ | refine Wr.w ?_ | refine Cmp.t ?_ | refine Cmp.f ?_ | refine Rem.w ?_ | refine Quo.w ?_ | refine PickV.now rfl ?_ | refine Pick.now rfl ?_ | refine Chk.mk rfl ?_ | refine PickW.w rfl ?_
        | (refine CallI.of (hw _) ?_)
        | (refine Ret.mk rfl))
end
end Go.Proofs.YtcephlgejkngiaaGreatDoor.Co
