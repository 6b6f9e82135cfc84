
/-
  Messages: numbers of so many digits and minutes, printed and read.
-/
import Derived.Test.YtddpjjaebkaggaaGreatDoorSpName
import Derived.Test.YtddpjjaebkaggaaGreatDoorSpDig
namespace Go.Proofs.YtddpjjaebkaggaaGreatDoor.Co
open Go Go.Evl
def valA (a : Int) : List UInt8 → Int
  | [] => a
  | b :: r => valA (10 * a + ((b.toNat : Int) - 48)) r
theorem valA_append : ∀ (l r : List UInt8) (a : Int), valA a (l ++ r) = valA (valA a l) r
  | [], _, _ => rfl
  | b :: l, r, a => by simp only [List.cons_append, valA]; exact valA_append l r _
theorem valA_take {s : List UInt8} {k : Nat} (h : k < s.length) : valA 0 (s.take (k + 1)) = 10 * valA 0 (s.take k) + (((s.getD k 0).toNat : Int) - 48) := by
  rw [List.take_add_one, valA_append, List.getElem?_eq_getElem h]
  simp [valA, List.getD, h]
theorem valA_lt : ∀ (n : Nat) (l : List UInt8), l.length = n → (∀ x ∈ l, dg x) → 0 ≤ valA 0 l ∧ valA 0 l < (10 ^ n : Nat)
  | 0, l, h, _ => by
    obtain rfl := List.length_eq_zero_iff.1 h
    simp [valA]
  | n + 1, l, h, hd => by
    have hne : l ≠ [] := fun e => by subst e; simp at h
    have e : l = l.dropLast ++ [l.getLast hne] := (List.dropLast_concat_getLast hne).symm
    have ih := valA_lt n l.dropLast (by simp [h]) fun x hx => hd x (List.dropLast_subset l hx)
    have hl := hd _ (List.getLast_mem hne)
    rw [e, valA_append]
    simp only [valA]
    unfold dg at hl
    rw [Nat.pow_succ]
    omega
def numP (s : List UInt8) (w : Nat) : Prop := s.length = w ∧ ∀ x ∈ s, dg x
instance (s : List UInt8) (w : Nat) : Decidable (numP s w) := by unfold numP; infer_instance
def numB (s : List UInt8) (w : Nat) : Bool := decide (numP s w)
theorem numB_len {s : List UInt8} {w : Nat} (h : s.length ≠ w) : numB s w = false := decide_eq_false fun hn => h hn.1
theorem numB_dig {s : List UInt8} {w k : Nat} (hk : k < s.length) (h : ¬ dg (s.getD k 0)) : numB s w = false := decide_eq_false fun hn => h (hn.2 _ (by
  simp [List.getD, hk]))
theorem numB_yes {s : List UInt8} {w : Nat} (h : s.length = w) (hd : ∀ i, i < s.length → dg (s.getD i 0)) : numB s w = true := decide_eq_true ⟨h, fun x hx => by
  obtain ⟨i, hi, rfl⟩ := List.getElem_of_mem hx
  have := hd i hi
  simpa [List.getD, hi] using this⟩
theorem numB_val {s : List UInt8} {w : Nat} (h : numB s w = true) : 0 ≤ valA 0 s ∧ valA 0 s < (10 ^ w : Nat) :=
  have h := of_decide_eq_true h
  valA_lt w s h.1 h.2
theorem take_lt {s : List UInt8} {k w : Nat} (hk : k ≤ s.length) (hw : s.length ≤ w) (hd : ∀ i, i < k → dg (s.getD i 0)) : 0 ≤ valA 0 (s.take k) ∧ valA 0 (s.take k) < (10 ^ w : Nat) := by
  have h := valA_lt k (s.take k) (by simp; omega) fun x hx => by
    obtain ⟨i, hi, rfl⟩ := List.getElem_of_mem hx
    have hi' : i < k := by simp at hi; omega
    have := hd i hi'
    simpa [List.getD, show i < s.length by omega] using this
  have hp : 10 ^ k ≤ 10 ^ w := Nat.pow_le_pow_right (by omega) (by omega)
  omega
theorem wideL_zero : ∀ k : Nat, wideL k 0 = List.replicate k 48
  | 0 => rfl
  | k + 1 => by
    have : wideL (k + 1) 0 = wideL k 0 ++ [48] := rfl
    rw [this, wideL_zero k, ← List.replicate_succ']
theorem wideL_pad : ∀ (w f u : Nat), 1 ≤ w → w ≤ f → u < 10 ^ w → (digitsF f u).length ≤ w ∧ List.replicate (w - (digitsF f u).length) 48 ++ digitsF f u = wideL w u
  | 0, _, _, h, _, _ => absurd h (by omega)
  | _ + 1, 0, _, _, h, _ => absurd h (by omega)
  | w + 1, f + 1, u, _, hf, hu => by
    simp only [digitsF]
    split
    · rename_i hlt
      refine ⟨by simp, ?_⟩
      have e1 : (u : Int) / 10 = 0 := by omega
      have e2 : (u : Int) % 10 = u := by omega
      simp only [wideL, e1, e2, wideL_zero]
      simp [dig]
    · rename_i hge
      have hw : 1 ≤ w := by
        rcases Nat.eq_zero_or_pos w with h | h
        · subst h; simp at hu; omega
        · exact h
      rw [Nat.pow_succ] at hu
      obtain ⟨h1, h2⟩ := wideL_pad w f (u / 10) hw (by omega) (by omega)
      refine ⟨by simp; omega, ?_⟩
      have e1 : (u : Int) / 10 = ((u / 10 : Nat) : Int) := by omega
      have e2 : ((u : Int) % 10).toNat = u % 10 := by omega
      simp only [wideL, e1]
      rw [← h2]
      simp [dig, e2]
theorem toNat_u8 (b : UInt8) : b.toNat < 256 := b.toNat_lt
theorem Wr.keep32 {x : Int} {K : Int → Prop} (h : -2147483648 ≤ x ∧ x ≤ 2147483647) (k : K x) : Wr .i32 x K := ⟨by
  have : IntKind.i32.wrap x = x := by
    have hb : IntKind.i32.wrap x = (if x % 4294967296 ≥ 2147483648 then x % 4294967296 - 4294967296 else x % 4294967296) := by
      simp [IntKind.wrap, IntKind.signed, IntKind.bits]
    rw [hb]
    split <;> omega
  rw [this]; exact k⟩
def minL (m : Int) : List UInt8 := wideL 2 (m / 60) ++ wideL 2 (m % 60)
def minP (s : List UInt8) : Prop := numB s 4 = true ∧ valA 0 s / 100 ≤ 23 ∧ valA 0 s % 100 ≤ 59
instance (s : List UInt8) : Decidable (minP s) := by unfold minP; infer_instance
def minV (s : List UInt8) : Int := valA 0 s / 100 * 60 + valA 0 s % 100
section
variable {E : Oracle} (g : Good E)
include g
set_option maxHeartbeats 4000000 in
theorem s_number (s : List UInt8) (w : Nat) (hw : w ≤ 5) : Fc E n_message_number [S s, I w] (.tup [I (if numB s w then valA 0 s else 0), B (numB s w)]) := by
  refine g.fn code_message_number rfl ?_
  by_cases h0 : s.length = w
  · have hp : 10 ^ w ≤ 10 ^ 5 := Nat.pow_le_pow_right (by omega) (by omega)
    repeat' ((conv => whnf); first
    | refine Br.tt ?_
    | refine Br.ff ?_
    | refine Need.w ?_
    | refine Wr.w ?_
    | refine Cmp.t ?_
    | refine Cmp.f ?_
    | refine Rem.w ?_
    | refine Quo.w ?_
    | refine PickV.now rfl ?_
    | refine Pick.now rfl ?_
    | refine Chk.mk rfl ?_
    | refine PickW.w rfl ?_)
    refine LoopW.to (LoopW.upP g (fun k => [(6, I (valA 0 (s.take k))), (14, .it ⟨0, 14, 0⟩)]) (fun k => [(⟨0, 14, 0⟩, .iter s k)]) (fun k => ∀ i, i < k → dg (s.getD i 0)) s.length (fun k hk hp ih => ?_) 0 (Nat.zero_le _) (fun i hi => by omega)) rfl rfl
    have hv := take_lt hk (Nat.le_of_eq h0) hp
    by_cases hlt : k < s.length
    · by_cases ha : (s.getD k 0).toNat < 128
      · by_cases hok : dg (s.getD k 0)
        · have ih := ih hlt fun i hi => by
            by_cases e : i = k
            · subst e; exact hok
            · exact hp i (by omega)
          unfold dg at hok
          have e := valA_take hlt
          repeat' ((conv => whnf); first
          | refine Br.tt ?_
          | refine Br.ff ?_
          | refine Need.w ?_
          | refine Wr.w ?_
          | refine Cmp.t ?_
          | refine Cmp.f ?_
          | refine Rem.w ?_
          | refine Quo.w ?_
          | refine PickV.now rfl ?_
          | refine Pick.now rfl ?_
          | refine Chk.mk rfl ?_
          | refine PickW.w rfl ?_
            | (refine NextW.asc hlt ha ?_)
            | (refine Wr.keep32 (by omega) ?_)
            | (refine Cmp.mk (fun h => ?_) (fun h => ?_))
            | (refine Rem.any (by omega) (fun r hr he => ?_))
            | (refine Br.mk (fun h => ?_) (fun h => ?_))
            | (refine LoopW.to ih (by rw [e]) rfl)
            | (exfalso; omega))
        · have hno := numB_dig (w := w) hlt hok
          unfold dg at hok
          rw [hno]
          repeat' ((conv => whnf); first
          | refine Br.tt ?_
          | refine Br.ff ?_
          | refine Need.w ?_
          | refine Wr.w ?_
          | refine Cmp.t ?_
          | refine Cmp.f ?_
          | refine Rem.w ?_
          | refine Quo.w ?_
          | refine PickV.now rfl ?_
          | refine Pick.now rfl ?_
          | refine Chk.mk rfl ?_
          | refine PickW.w rfl ?_
            | (refine NextW.asc hlt ha ?_)
            | (refine Cmp.mk (fun h => ?_) (fun h => ?_))
            | (refine Rem.any (by omega) (fun r hr he => ?_))
            | (refine Br.mk (fun h => ?_) (fun h => ?_))
            | (refine Ret.mk rfl)
            | (exfalso; omega))
      · have hno := numB_dig (w := w) hlt (by unfold dg; omega)
        rw [hno]
        repeat' ((conv => whnf); first
        | refine Br.tt ?_
        | refine Br.ff ?_
        | refine Need.w ?_
        | refine Wr.w ?_
        | refine Cmp.t ?_
        | refine Cmp.f ?_
        | refine Rem.w ?_
        | refine Quo.w ?_
        | refine PickV.now rfl ?_
        | refine Pick.now rfl ?_
        | refine Chk.mk rfl ?_
        | refine PickW.w rfl ?_
          | (refine NextW.high hlt (by omega) (fun c w hc hw => ?_))
          | (refine Cmp.mk (fun h => ?_) (fun h => ?_))
          | (refine Rem.any (by omega) (fun r hr he => ?_))
          | (refine Br.mk (fun h => ?_) (fun h => ?_))
          | (refine Ret.mk rfl)
          | (exfalso; omega))
    · have hk' : k = s.length := by omega
      subst hk'
      have hyes := numB_yes h0 hp
      rw [hyes, if_pos rfl]
      repeat' ((conv => whnf); first
      | refine Br.tt ?_
      | refine Br.ff ?_
      | refine Need.w ?_
      | refine Wr.w ?_
      | refine Cmp.t ?_
      | refine Cmp.f ?_
      | refine Rem.w ?_
      | refine Quo.w ?_
      | refine PickV.now rfl ?_
      | refine Pick.now rfl ?_
      | refine Chk.mk rfl ?_
      | refine PickW.w rfl ?_
        | (refine NextW.end' (Nat.le_refl _) ?_)
        | (refine Ret.mk ?_))
      rw [List.take_length]
  · have hno := numB_len h0
    rw [hno]
    repeat' ((conv => whnf); first
    | refine Br.tt ?_
    | refine Br.ff ?_
    | refine Need.w ?_
    | refine Wr.w ?_
    | refine Cmp.t ?_
    | refine Cmp.f ?_
    | refine Rem.w ?_
    | refine Quo.w ?_
    | refine PickV.now rfl ?_
    | refine Pick.now rfl ?_
    | refine Chk.mk rfl ?_
    | refine PickW.w rfl ?_
      | (refine Ret.mk rfl))
set_option maxHeartbeats 4000000 in
theorem r_digits (s : List UInt8) (w : Nat) (hw : w ≤ 5) : Fc E n_ref02_digits [S s, I w] (I (if numB s w then valA 0 s else -1)) := by
  refine g.fn code_ref02_digits rfl ?_
  by_cases h0 : s.length = w
  · have hp : 10 ^ w ≤ 10 ^ 5 := Nat.pow_le_pow_right (by omega) (by omega)
    repeat' ((conv => whnf); first
    | refine Br.tt ?_
    | refine Br.ff ?_
    | refine Need.w ?_
    | refine Wr.w ?_
    | refine Cmp.t ?_
    | refine Cmp.f ?_
    | refine Rem.w ?_
    | refine Quo.w ?_
    | refine PickV.now rfl ?_
    | refine Pick.now rfl ?_
    | refine Chk.mk rfl ?_
    | refine PickW.w rfl ?_)
    refine LoopW.to (LoopW.upP g (fun k => [(0, S s), (5, I (valA 0 (s.take k))), (6, I k)]) (fun _ => []) (fun k => ∀ i, i < k → dg (s.getD i 0)) s.length (fun k hk hp ih => ?_) 0 (Nat.zero_le _) (fun i hi => by omega)) rfl rfl
    have hv := take_lt hk (Nat.le_of_eq h0) hp
    have hb := toNat_u8 (s.getD k 0)
    by_cases hlt : k < s.length
    · by_cases hok : dg (s.getD k 0)
      · have ih := ih hlt fun i hi => by
          by_cases e : i = k
          · subst e; exact hok
          · exact hp i (by omega)
        unfold dg at hok
        have e := valA_take hlt
        repeat' ((conv => whnf); first
        | refine Br.tt ?_
        | refine Br.ff ?_
        | refine Need.w ?_
        | refine Wr.w ?_
        | refine Cmp.t ?_
        | refine Cmp.f ?_
        | refine Rem.w ?_
        | refine Quo.w ?_
        | refine PickV.now rfl ?_
        | refine Pick.now rfl ?_
        | refine Chk.mk rfl ?_
        | refine PickW.w rfl ?_
          | (refine PickB.at k (by omega) hlt ?_)
          | (refine Wr.keep8 (by omega) ?_)
          | (refine Cmp.mk (fun h => ?_) (fun h => ?_))
          | (refine Rem.any (by omega) (fun r hr he => ?_))
          | (refine Br.mk (fun h => ?_) (fun h => ?_))
          | (refine LoopW.to ih (by rw [e]; rfl) rfl)
          | (exfalso; omega))
      · have hno := numB_dig (w := w) hlt hok
        unfold dg at hok
        rw [hno]
        repeat' ((conv => whnf); first
        | refine Br.tt ?_
        | refine Br.ff ?_
        | refine Need.w ?_
        | refine Wr.w ?_
        | refine Cmp.t ?_
        | refine Cmp.f ?_
        | refine Rem.w ?_
        | refine Quo.w ?_
        | refine PickV.now rfl ?_
        | refine Pick.now rfl ?_
        | refine Chk.mk rfl ?_
        | refine PickW.w rfl ?_
          | (refine PickB.at k (by omega) hlt ?_)
          | (refine Cmp.mk (fun h => ?_) (fun h => ?_))
          | (refine Rem.any (by omega) (fun r hr he => ?_))
          | (refine Br.mk (fun h => ?_) (fun h => ?_))
          | (refine Ret.mk rfl)
          | (exfalso; omega))
    · have hk' : k = s.length := by omega
      subst hk'
      have hyes := numB_yes h0 hp
      rw [hyes, if_pos rfl]
      repeat' ((conv => whnf); first
      | refine Br.tt ?_
      | refine Br.ff ?_
      | refine Need.w ?_
      | refine Wr.w ?_
      | refine Cmp.t ?_
      | refine Cmp.f ?_
      | refine Rem.w ?_
      | refine Quo.w ?_
      | refine PickV.now rfl ?_
      | refine Pick.now rfl ?_
      | refine Chk.mk rfl ?_
      | refine PickW.w rfl ?_
        | (refine Ret.mk ?_))
      rw [List.take_length]
  · have hno := numB_len h0
    rw [hno]
    repeat' ((conv => whnf); first
    | refine Br.tt ?_
    | refine Br.ff ?_
    | refine Need.w ?_
    | refine Wr.w ?_
    | refine Cmp.t ?_
    | refine Cmp.f ?_
    | refine Rem.w ?_
    | refine Quo.w ?_
    | refine PickV.now rfl ?_
    | refine Pick.now rfl ?_
    | refine Chk.mk rfl ?_
    | refine PickW.w rfl ?_
      | (refine Ret.mk rfl))
omit g in
theorem repeatL_one : ∀ k : Nat, Lib.repeatL [48] k = List.replicate k (48 : UInt8)
  | 0 => rfl
  | k + 1 => by
    rw [List.replicate_succ, ← repeatL_one k]
    rfl
theorem s_wide (n : Int) (w : Nat) (hw : 1 ≤ w ∧ w ≤ 5) (h : 0 ≤ n ∧ n < (10 ^ w : Nat)) : Fc E n_message_wide [I n, I w] (S (wideL w n)) := by
  refine g.fn code_message_wide rfl ?_
  have hp : 10 ^ w ≤ 10 ^ 5 := Nat.pow_le_pow_right (by omega) (by omega)
  obtain ⟨h1, h2⟩ := wideL_pad w 20 n.toNat hw.1 (by omega) (by omega)
  rw [Int.toNat_of_nonneg h.1] at h2
  have hi := s_Itoa g n (by omega)
  have hm : (if (w : Int) - ((digitsF 20 n.toNat).length : Int) > 0 then (w : Int) - ((digitsF 20 n.toNat).length : Int) else 0) = ((w - (digitsF 20 n.toNat).length : Nat) : Int) := by split <;> omega
  have hr : Fc E n_strings_Repeat [S [48], I (if (w : Int) - ((digitsF 20 n.toNat).length : Int) > 0 then (w : Int) - ((digitsF 20 n.toNat).length : Int) else 0)] (S (List.replicate (w - (digitsF 20 n.toNat).length) 48)) := by
    rw [hm]
    refine Fc.extern g.lim (x := repeatX) rfl (v := S (List.replicate (w - (digitsF 20 n.toNat).length) 48)) (m' := []) ?_ rfl
    simp only [repeatX]
    rw [if_pos ⟨by omega, by omega, by simp⟩, Int.toNat_natCast, repeatL_one]
  repeat' ((conv => whnf); first
  | refine Br.tt ?_
  | refine Br.ff ?_
  | refine Need.w ?_
  | refine Wr.w ?_
  | refine Cmp.t ?_
  | refine Cmp.f ?_
  | refine Rem.w ?_
  | refine Quo.w ?_
  | refine PickV.now rfl ?_
  | refine Pick.now rfl ?_
  | refine Chk.mk rfl ?_
  | refine PickW.w rfl ?_
    | (apply CallI.of; assumption)
    | (refine Need.mk (by simp only [maxStr, List.length_replicate]; omega) ?_)
    | (refine Ret.mk ?_))
  rw [h2]
theorem s_mwhen (b : Bool) (e : Int) : Fc E n_message_when [B b, I e] (I (if b then e else 0)) := by
  refine g.fn code_message_when rfl ?_
  cases b <;> repeat' ((conv => whnf); first
  | refine Br.tt ?_
  | refine Br.ff ?_
  | refine Need.w ?_
  | refine Wr.w ?_
  | refine Cmp.t ?_
  | refine Cmp.f ?_
  | refine Rem.w ?_
  | refine Quo.w ?_
  | refine PickV.now rfl ?_
  | refine Pick.now rfl ?_
  | refine Chk.mk rfl ?_
  | refine PickW.w rfl ?_
    | (refine Ret.mk rfl))
theorem s_mwithin (n a b : Int) : Fc E n_message_within [I n, I a, I b] (I (rng n a b)) := by
  refine g.fn code_message_within rfl ?_
  have hw : ∀ c, Fc E n_message_when [B c, I 3] (I (if c then 3 else 0)) := fun c => s_mwhen g c 3
  unfold rng
  by_cases h1 : n < a
  · rw [if_pos (.inl h1)]
    repeat' ((conv => whnf); first
    | refine Br.tt ?_
    | refine Br.ff ?_
    | refine Need.w ?_
    | refine Wr.w ?_
    | refine Cmp.t ?_
    | refine Cmp.f ?_
    | refine Rem.w ?_
    | refine Quo.w ?_
    | refine PickV.now rfl ?_
    | refine Pick.now rfl ?_
    | refine Chk.mk rfl ?_
    | refine PickW.w rfl ?_
      | (refine CallI.of (hw _) ?_)
      | (refine Ret.mk rfl))
  · by_cases h2 : b < n
    · rw [if_pos (.inr h2)]
      repeat' ((conv => whnf); first
      | refine Br.tt ?_
      | refine Br.ff ?_
      | refine Need.w ?_
      | refine Wr.w ?_
      | refine Cmp.t ?_
      | refine Cmp.f ?_
      | refine Rem.w ?_
      | refine Quo.w ?_
      | refine PickV.now rfl ?_
      | refine Pick.now rfl ?_
      | refine Chk.mk rfl ?_
      | refine PickW.w rfl ?_
        | (refine CallI.of (hw _) ?_)
        | (refine Ret.mk rfl))
    · rw [if_neg (by omega)]
      repeat' ((conv => whnf); first
      | refine Br.tt ?_
      | refine Br.ff ?_
      | refine Need.w ?_
      | refine Wr.w ?_
      | refine Cmp.t ?_
      | refine Cmp.f ?_
      | refine Rem.w ?_
      | refine Quo.w ?_
      | refine PickV.now rfl ?_
      | refine Pick.now rfl ?_
      | refine Chk.mk rfl ?_
      | refine PickW.w rfl ?_
        | (refine CallI.of (hw _) ?_)
        | (refine Ret.mk rfl))
theorem s_PrintMinute (m : Int) : Fc E n_message_PrintMinute [I m] (.tup [S (if rng m 0 1439 = 0 then minL m else []), I (rng m 0 1439)]) := by
  refine g.fn code_message_PrintMinute rfl ?_
  have hw := s_mwithin g m 0 1439
  by_cases h : rng m 0 1439 = 0
  · rw [h] at hw ⊢
    have hm := rng_zero.1 h
    have h1 := s_wide g (m / 60) 2 (by omega) (by omega)
    have h2 := s_wide g (m % 60) 2 (by omega) (by omega)
    repeat' ((conv => whnf); first
    | refine Br.tt ?_
    | refine Br.ff ?_
    | refine Need.w ?_
    | refine Wr.w ?_
    | refine Cmp.t ?_
    | refine Cmp.f ?_
    | refine Rem.w ?_
    | refine Quo.w ?_
    | refine PickV.now rfl ?_
    | refine Pick.now rfl ?_
    | refine Chk.mk rfl ?_
    | refine PickW.w rfl ?_
      | (apply CallI.of; assumption)
      | (refine Need.mk (by simp only [maxStr, wideL_length]; omega) ?_)
      | (refine Ret.mk rfl))
  · rw [if_neg h]
    repeat' ((conv => whnf); first
    | refine Br.tt ?_
    | refine Br.ff ?_
    | refine Need.w ?_
    | refine Wr.w ?_
    | refine Cmp.t ?_
    | refine Cmp.f ?_
    | refine Rem.w ?_
    | refine Quo.w ?_
    | refine PickV.now rfl ?_
    | refine Pick.now rfl ?_
    | refine Chk.mk rfl ?_
    | refine PickW.w rfl ?_
      | (apply CallI.of; assumption)
      | (refine Ret.mk rfl))
theorem s_ParseMinute (s : List UInt8) : Fc E n_message_ParseMinute [S s] (.tup [I (if minP s then minV s else 0), I (if minP s then 0 else 25)]) := by
  refine g.fn code_message_ParseMinute rfl ?_
  have hn := s_number g s 4 (by omega)
  by_cases hp : minP s
  · rw [if_pos hp, if_pos hp]
    obtain ⟨hb, h1, h2⟩ := hp
    have hv := numB_val hb
    rw [hb, if_pos rfl] at hn
    unfold minV
    generalize valA 0 s = v at *
    repeat' ((conv => whnf); first
    | refine Br.tt ?_
    | refine Br.ff ?_
    | refine Need.w ?_
    | refine Wr.w ?_
    | refine Cmp.t ?_
    | refine Cmp.f ?_
    | refine Rem.w ?_
    | refine Quo.w ?_
    | refine PickV.now rfl ?_
    | refine Pick.now rfl ?_
    | refine Chk.mk rfl ?_
    | refine PickW.w rfl ?_
      | (apply CallI.of; assumption)
      | (refine Ret.mk rfl))
  · rw [if_neg hp, if_neg hp]
    by_cases hb : numB s 4 = true
    · have hv := numB_val hb
      have hq : ¬ (valA 0 s / 100 ≤ 23 ∧ valA 0 s % 100 ≤ 59) := fun h => hp ⟨hb, h⟩
      rw [hb, if_pos rfl] at hn
      clear hp
      generalize valA 0 s = v at *
      repeat' ((conv => whnf); first
      | refine Br.tt ?_
      | refine Br.ff ?_
      | refine Need.w ?_
      | refine Wr.w ?_
      | refine Cmp.t ?_
      | refine Cmp.f ?_
      | refine Rem.w ?_
      | refine Quo.w ?_
      | refine PickV.now rfl ?_
      | refine Pick.now rfl ?_
      | refine Chk.mk rfl ?_
      | refine PickW.w rfl ?_
        | (apply CallI.of; assumption)
        | (refine Cmp.mk (fun h => ?_) (fun h => ?_))
        | (refine Rem.any (by omega) (fun r hr he => ?_))
        | (refine Br.mk (fun h => ?_) (fun h => ?_))
        | (refine Ret.mk rfl)
        | (exfalso; omega))
    · rw [Bool.not_eq_true] at hb
      rw [hb] at hn
      repeat' ((conv => whnf); first
      | refine Br.tt ?_
      | refine Br.ff ?_
      | refine Need.w ?_
      | refine Wr.w ?_
      | refine Cmp.t ?_
      | refine Cmp.f ?_
      | refine Rem.w ?_
      | refine Quo.w ?_
      | refine PickV.now rfl ?_
      | refine Pick.now rfl ?_
      | refine Chk.mk rfl ?_
      | refine PickW.w rfl ?_
        | (apply CallI.of; assumption)
        | (refine Ret.mk rfl))
end
end Go.Proofs.YtddpjjaebkaggaaGreatDoor.Co
