
/-
  Priority: slices.SortFunc on a few indices, with a comparing closure.
-/
import Derived.Test.YtcephlgejkngiaaGreatDoorPlSrt
import Derived.Test.YtcephlgejkngiaaGreatDoorSpGen
namespace Go.Proofs.YtcephlgejkngiaaGreatDoor.Co
open Go Go.Evl
set_option maxRecDepth 100000
theorem strLess_irr : ∀ s : List UInt8, strLess s s = false
  | [] => rfl
  | a :: r => by simp [strLess, strLess_irr r]
theorem strLess_cons {a b : UInt8} {x y : List UInt8} : strLess (a :: x) (b :: y) = true ↔ a < b ∨ (a = b ∧ strLess x y = true) := by
  simp [strLess]
theorem strLess_trans : ∀ {a b c : List UInt8}, strLess a b = true → strLess b c = true → strLess a c = true
  | _, _, [], _, h => by simp [strLess] at h
  | _, [], _ :: _, h, _ => by simp [strLess] at h
  | [], _ :: _, _ :: _, _, _ => rfl
  | x :: a, y :: b, z :: c, h1, h2 => by
    rw [strLess_cons] at h1 h2 ⊢
    rcases h1 with h1 | ⟨rfl, h1⟩
    · rcases h2 with h2 | ⟨rfl, _⟩
      · exact .inl (UInt8.lt_trans h1 h2)
      · exact .inl h1
    · rcases h2 with h2 | ⟨rfl, h2⟩
      · exact .inl h2
      · exact .inr ⟨rfl, strLess_trans h1 h2⟩
theorem strLess_tot : ∀ {a b : List UInt8}, a ≠ b → strLess a b = false → strLess b a = true
  | [], [], h, _ => absurd rfl h
  | [], _ :: _, _, h => by simp [strLess] at h
  | _ :: _, [], _, _ => rfl
  | x :: a, y :: b, h, h2 => by
    rw [strLess_cons]
    have hn : ¬ (x < y ∨ (x = y ∧ strLess a b = true)) := fun hc => by rw [strLess_cons.2 hc] at h2; cases h2
    by_cases e : x = y
    · subst e
      refine .inr ⟨rfl, strLess_tot (fun hc => h (by rw [hc])) ?_⟩
      cases hc : strLess a b with
      | false => rfl
      | true => exact absurd (.inr ⟨rfl, hc⟩) hn
    · left
      have h3 : ¬ x < y := fun hc => hn (.inl hc)
      rcases UInt8.lt_or_lt_of_ne e with h4 | h4
      · exact absurd h4 h3
      · exact h4
def cmpS (a b : List UInt8) : Int := if strLess a b = true then -1 else if a = b then 0 else 1
theorem cmpS_lt (a b : List UInt8) : cmpS a b < 0 ↔ strLess a b = true := by
  unfold cmpS
  split
  · simp [*]
  · split <;> simp [*, strLess_irr]
def cmpI (a b : Int) : Int := if a < b then -1 else if b < a then 1 else 0
theorem swap_row (p r : List Int) (x y : Int) {i j : Nat} (hi : i = p.length + 1) (hj : j = p.length) : patch (patch ((p ++ y :: x :: r).map DI) i [DI y]) j [DI x] = (p ++ x :: y :: r).map DI := by
  subst hi hj
  rw [patch_set _ _ _ (by simp), patch_set _ _ _ (by simp)]
  congr 1
  rw [List.set_append_right _ _ (by simp), List.set_append_right _ _ (by simp)]
  simp
theorem Wr.u64 {x : Int} {K : Int → Prop} (k : K x) (h : 0 ≤ x ∧ x ≤ 1000000 := by omega) : Wr .u64 x K := ⟨by
  have : IntKind.u64.wrap x = x := by
    simp only [IntKind.wrap, IntKind.signed, IntKind.bits]
    simp
    omega
  rw [this]
  exact k⟩
theorem get_at {l p r : List Int} {x : Int} {k : Nat} (h : l = p ++ x :: r) (hk : k = p.length) (hl : k < l.length) : l[k] = x := by
  subst h hk
  simp
structure InO where
  i : Nat
  (s r : List Int)
structure InI where
  j : Nat
  (p q : List Int)
section
variable {E : Oracle} (g : Good E)
include g
theorem s_isNaNS (a : List UInt8) : Fc E n_cmp_isNaN_string [S a] (B false) := by
  refine g.fn code_cmp_isNaN_string rfl ?_
  repeat' ((conv => whnf); first
  | refine Br.tt ?_ | refine Br.ff ?_ | refine Need.w ?_ | refine Wr.w ?_ | refine Cmp.t ?_ | refine Cmp.f ?_ | refine Rem.w ?_ | refine Quo.w ?_ | refine PickV.now rfl ?_ | refine Pick.now rfl ?_ | refine Chk.mk rfl ?_ | refine PickW.w rfl ?_
    | (refine Cmp.tt rfl ?_)
    | (refine Ret.mk rfl))
theorem s_isNaNI (a : Int) : Fc E n_cmp_isNaN_int [I a] (B false) := by
  refine g.fn code_cmp_isNaN_int rfl ?_
  repeat' ((conv => whnf); first
  | refine Br.tt ?_ | refine Br.ff ?_ | refine Need.w ?_ | refine Wr.w ?_ | refine Cmp.t ?_ | refine Cmp.f ?_ | refine Rem.w ?_ | refine Quo.w ?_ | refine PickV.now rfl ?_ | refine Pick.now rfl ?_ | refine Chk.mk rfl ?_ | refine PickW.w rfl ?_
    | (refine Cmp.tt rfl ?_)
    | (refine Ret.mk rfl))
theorem s_CmpS (a b : List UInt8) : Fc E n_cmp_Compare_string [S a, S b] (I (cmpS a b)) := by
  have h1 := s_isNaNS g a
  have h2 := s_isNaNS g b
  refine g.fn code_cmp_Compare_string rfl ?_
  unfold cmpS
  by_cases h : a = b
  · subst h
    have hu := strLess_irr a
    have he : (a == a) = true := beq_self_eq_true a
    rw [hu, if_neg (by decide), if_pos rfl]
    repeat' ((conv => whnf); first
    | refine Br.tt ?_ | refine Br.ff ?_ | refine Need.w ?_ | refine Wr.w ?_ | refine Cmp.t ?_ | refine Cmp.f ?_ | refine Rem.w ?_ | refine Quo.w ?_ | refine PickV.now rfl ?_ | refine Pick.now rfl ?_ | refine Chk.mk rfl ?_ | refine PickW.w rfl ?_
      | (apply CallI.of; assumption)
      | (rw [hu])
      | (rw [he])
      | (refine Ret.mk rfl))
  · have he : (a == b) = false := beq_eq_false_iff_ne.2 h
    rw [if_neg h]
    cases hu : strLess a b
    · rw [if_neg (by decide)]
      repeat' ((conv => whnf); first
      | refine Br.tt ?_ | refine Br.ff ?_ | refine Need.w ?_ | refine Wr.w ?_ | refine Cmp.t ?_ | refine Cmp.f ?_ | refine Rem.w ?_ | refine Quo.w ?_ | refine PickV.now rfl ?_ | refine Pick.now rfl ?_ | refine Chk.mk rfl ?_ | refine PickW.w rfl ?_
        | (apply CallI.of; assumption)
        | (rw [hu])
        | (rw [he])
        | (refine Ret.mk rfl))
    · rw [if_pos rfl]
      repeat' ((conv => whnf); first
      | refine Br.tt ?_ | refine Br.ff ?_ | refine Need.w ?_ | refine Wr.w ?_ | refine Cmp.t ?_ | refine Cmp.f ?_ | refine Rem.w ?_ | refine Quo.w ?_ | refine PickV.now rfl ?_ | refine Pick.now rfl ?_ | refine Chk.mk rfl ?_ | refine PickW.w rfl ?_
        | (apply CallI.of; assumption)
        | (rw [hu])
        | (refine Ret.mk rfl))
theorem s_CmpI (a b : Int) : Fc E n_cmp_Compare_int [I a, I b] (I (cmpI a b)) := by
  have h1 := s_isNaNI g a
  have h2 := s_isNaNI g b
  refine g.fn code_cmp_Compare_int rfl ?_
  unfold cmpI
  rcases Int.lt_trichotomy a b with h | h | h
  · rw [if_pos h]
    repeat' ((conv => whnf); first
    | refine Br.tt ?_ | refine Br.ff ?_ | refine Need.w ?_ | refine Wr.w ?_ | refine Cmp.t ?_ | refine Cmp.f ?_ | refine Rem.w ?_ | refine Quo.w ?_ | refine PickV.now rfl ?_ | refine Pick.now rfl ?_ | refine Chk.mk rfl ?_ | refine PickW.w rfl ?_
      | (apply CallI.of; assumption)
      | (refine Ret.mk rfl))
  · rw [if_neg (by omega), if_neg (by omega)]
    repeat' ((conv => whnf); first
    | refine Br.tt ?_ | refine Br.ff ?_ | refine Need.w ?_ | refine Wr.w ?_ | refine Cmp.t ?_ | refine Cmp.f ?_ | refine Rem.w ?_ | refine Quo.w ?_ | refine PickV.now rfl ?_ | refine Pick.now rfl ?_ | refine Chk.mk rfl ?_ | refine PickW.w rfl ?_
      | (apply CallI.of; assumption)
      | (refine Ret.mk rfl))
  · rw [if_neg (by omega), if_pos h]
    repeat' ((conv => whnf); first
    | refine Br.tt ?_ | refine Br.ff ?_ | refine Need.w ?_ | refine Wr.w ?_ | refine Cmp.t ?_ | refine Cmp.f ?_ | refine Rem.w ?_ | refine Quo.w ?_ | refine PickV.now rfl ?_ | refine Pick.now rfl ?_ | refine Chk.mk rfl ?_ | refine PickW.w rfl ?_
      | (apply CallI.of; assumption)
      | (refine Ret.mk rfl))
theorem s_Len : ∀ n : Nat, n ≤ 12 → ∃ r, Fc E n_math_bits_Len [.d (.int .u64 n)] (I r)
  | 0, _ => ⟨0, g.compR 100 (by decide +kernel)⟩
  | 1, _ => ⟨1, g.compR 100 (by decide +kernel)⟩
  | 2, _ => ⟨2, g.compR 100 (by decide +kernel)⟩
  | 3, _ => ⟨2, g.compR 100 (by decide +kernel)⟩
  | 4, _ => ⟨3, g.compR 100 (by decide +kernel)⟩
  | 5, _ => ⟨3, g.compR 100 (by decide +kernel)⟩
  | 6, _ => ⟨3, g.compR 100 (by decide +kernel)⟩
  | 7, _ => ⟨3, g.compR 100 (by decide +kernel)⟩
  | 8, _ => ⟨4, g.compR 100 (by decide +kernel)⟩
  | 9, _ => ⟨4, g.compR 100 (by decide +kernel)⟩
  | 10, _ => ⟨4, g.compR 100 (by decide +kernel)⟩
  | 11, _ => ⟨4, g.compR 100 (by decide +kernel)⟩
  | 12, _ => ⟨4, g.compR 100 (by decide +kernel)⟩
  | n + 13, h => absurd h (by omega)
theorem in_indices (n : Nat) (hn : n ≤ 1000) : In E 0 n_priority_indices [I n] [] fun v m' => v = .ref ⟨0, 3, 0⟩ 0 n n ∧ m' = [(⟨0, 2, 0⟩, .row true ty_int 1 0 []), (⟨0, 3, 0⟩, .row true ty_int 1 n ((idL n).map DI))] := by
  refine In.enter g.lim rfl code_priority_indices ?_
  repeat' ((conv => whnf); first
  | refine Br.tt ?_ | refine Br.ff ?_ | refine Need.w ?_ | refine Wr.w ?_ | refine Cmp.t ?_ | refine Cmp.f ?_ | refine Rem.w ?_ | refine Quo.w ?_ | refine PickV.now rfl ?_ | refine Pick.now rfl ?_ | refine Chk.mk rfl ?_ | refine PickW.w rfl ?_)
  refine LoopW.to (LoopW.up g (fun k => [(3, .ref ⟨0, 3, 0⟩ 0 k k), (5, I n), (6, I k)]) (fun k => [(⟨0, 2, 0⟩, .row true ty_int 1 0 []), (⟨0, 3, 0⟩, .row true ty_int 1 k ((idL k).map DI))]) n (fun k hk ih => ?_) 0 (Nat.zero_le _)) rfl rfl
  have hl := idL_length k
  by_cases hlt : k < n
  · have ih := ih hlt
    rw [idL_succ] at ih
    simp only [List.map_append, List.map_cons, List.map_nil] at ih
    repeat' ((conv => whnf); first
    | refine Br.tt ?_ | refine Br.ff ?_ | refine Need.w ?_ | refine Wr.w ?_ | refine Cmp.t ?_ | refine Cmp.f ?_ | refine Rem.w ?_ | refine Quo.w ?_ | refine PickV.now rfl ?_ | refine Pick.now rfl ?_ | refine Chk.mk rfl ?_ | refine PickW.w rfl ?_
      | (refine Need.mk (by simp only [List.length_cons, List.length_nil]; omega) ?_)
      | (refine LoopW.to ih rfl rfl))
  · obtain rfl : k = n := by omega
    repeat' ((conv => whnf); first
    | refine Br.tt ?_ | refine Br.ff ?_ | refine Need.w ?_ | refine Wr.w ?_ | refine Cmp.t ?_ | refine Cmp.f ?_ | refine Rem.w ?_ | refine Quo.w ?_ | refine PickV.now rfl ?_ | refine Pick.now rfl ?_ | refine Chk.mk rfl ?_ | refine PickW.w rfl ?_
      | (exact ⟨rfl, rfl⟩))
theorem s_indices (n : Nat) (hn : n ≤ 1000) : Fc E n_priority_indices [I n] (LI (idL n)) := by
  obtain ⟨v, m', h, rfl, rfl⟩ := (in_indices g n hn).got
  refine ⟨_, _, h, ?_⟩
  have hl := idL_length n
  show (Go.Evl.freeze true _ (V.ref ⟨0, 3, 0⟩ 0 n n)).map V.d = _
  simp [Go.Evl.freeze, Go.Evl.look, hl]
set_option maxHeartbeats 16000000 in
theorem in_insL {n : Nat} {lt : Int → Int → Bool} (t : Tot n lt) (hn : n ≤ 12) (f : Nat) (a0 : D) (hcmp : ∀ (x y : Int) (l : List Int) {K : V → Mem → Prop}, x ∈ idL n → y ∈ idL n → (∀ c : Int, (c < 0 ↔ lt x y = true) → K (I c) [(⟨0, 3, 0⟩, .cells ty_Lpriority_Claim [.d a0]), (⟨0, 4, 0⟩, .row true ty_int 1 0 []), (⟨0, 13, 0⟩, .row true ty_int 1 n (l.map DI))]) → In E 4 f [I x, I y, .ptr ⟨0, 3, 0⟩ 0 0] [(⟨0, 3, 0⟩, .cells ty_Lpriority_Claim [.d a0]), (⟨0, 4, 0⟩, .row true ty_int 1 0 []), (⟨0, 13, 0⟩, .row true ty_int 1 n (l.map DI))] K) {K : V → Mem → Prop} (hK : ∀ l, Srt n lt l → K (.tup []) [(⟨0, 3, 0⟩, .cells ty_Lpriority_Claim [.d a0]), (⟨0, 4, 0⟩, .row true ty_int 1 0 []), (⟨0, 13, 0⟩, .row true ty_int 1 n (l.map DI))]) :
    In E 3 n_slices_insertionSortCmpFunc_int [.ref ⟨0, 13, 0⟩ 0 n n, I 0, I n, .fn f [] [.ptr ⟨0, 3, 0⟩ 0 0]] [(⟨0, 3, 0⟩, .cells ty_Lpriority_Claim [.d a0]), (⟨0, 4, 0⟩, .row true ty_int 1 0 []), (⟨0, 13, 0⟩, .row true ty_int 1 n ((idL n).map DI))] K := by
  refine In.enter g.lim rfl code_slices_insertionSortCmpFunc_int ?_
  rcases Nat.eq_zero_or_pos n with h0 | h0
  · subst h0
    have hs := hK [] ⟨List.Perm.nil, .nil⟩
    repeat' ((conv => whnf); first
    | refine Br.tt ?_ | refine Br.ff ?_ | refine Need.w ?_ | refine Wr.w ?_ | refine Cmp.t ?_ | refine Cmp.f ?_ | refine Rem.w ?_ | refine Quo.w ?_ | refine PickV.now rfl ?_ | refine Pick.now rfl ?_ | refine Chk.mk rfl ?_ | refine PickW.w rfl ?_
      | (refine LoopW.step g.lim ?_)
      | (exact hs))
  · obtain ⟨x0, r0, hi⟩ : ∃ x r, idL n = x :: r := by
      cases h : idL n with
      | nil => have := idL_length n; rw [h] at this; simp at this; omega
      | cons x r => exact ⟨x, r, rfl⟩
    have hpm : (x0 :: r0).Perm (idL n) := by rw [hi]
    rw [hi]
    repeat' ((conv => whnf); first
    | refine Br.tt ?_ | refine Br.ff ?_ | refine Need.w ?_ | refine Wr.w ?_ | refine Cmp.t ?_ | refine Cmp.f ?_ | refine Rem.w ?_ | refine Quo.w ?_ | refine PickV.now rfl ?_ | refine Pick.now rfl ?_ | refine Chk.mk rfl ?_ | refine PickW.w rfl ?_)
    refine LoopW.to (LoopW.by g (fun s : InO => s.s.length = s.i ∧ s.s.Pairwise (fun a b => lt a b = true) ∧ (s.s ++ s.r).Perm (idL n))
      (fun s => [(0, .ref ⟨0, 13, 0⟩ 0 n n), (1, I 0), (2, I n), (3, .fn f [] [.ptr ⟨0, 3, 0⟩ 0 0]), (8, I s.i)])
      (fun s => [(⟨0, 3, 0⟩, .cells ty_Lpriority_Claim [.d a0]), (⟨0, 4, 0⟩, .row true ty_int 1 0 []), (⟨0, 13, 0⟩, .row true ty_int 1 n ((s.s ++ s.r).map DI))])
      (fun s => n - s.i) (fun s hs ih => ?_) ⟨1, [x0], r0⟩ ⟨rfl, List.pairwise_singleton .., hpm⟩) rfl rfl
    obtain ⟨i, s, r⟩ := s
    obtain ⟨h1, h2, h3⟩ := hs
    dsimp only at h1 h2 h3 ih ⊢
    have hlen := h3.length_eq
    rw [idL_length, List.length_append] at hlen
    by_cases hlt : i < n
    · cases r with
      | nil => simp at hlen; omega
      | cons x r =>
        have hx : x ∈ idL n := h3.mem_iff.1 (by simp)
        have hsm : ∀ y ∈ s, y ∈ idL n := fun y hy => h3.mem_iff.1 (by simp [hy])
        have hnd : (s ++ x :: r).Nodup := by
          rw [h3.nodup_iff]
          refine List.pairwise_iff_getElem.2 fun a b ha hb hab => ?_
          rw [idL_length] at ha hb
          have e1 := List.getElem?_eq_getElem (l := idL n) (i := a) (by rw [idL_length]; exact ha)
          have e2 := List.getElem?_eq_getElem (l := idL n) (i := b) (by rw [idL_length]; exact hb)
          rw [idL_get ha] at e1
          rw [idL_get hb] at e2
          rw [← Option.some.inj e1, ← Option.some.inj e2]
          omega
        have hxs : x ∉ s := fun hc => (List.nodup_append.1 hnd).2.2 x hc x (by simp) rfl
        rw [List.length_cons] at hlen
        repeat' ((conv => whnf); first
        | refine Br.tt ?_ | refine Br.ff ?_ | refine Need.w ?_ | refine Wr.w ?_ | refine Cmp.t ?_ | refine Cmp.f ?_ | refine Rem.w ?_ | refine Quo.w ?_ | refine PickV.now rfl ?_ | refine Pick.now rfl ?_ | refine Chk.mk rfl ?_ | refine PickW.w rfl ?_)
        refine LoopW.to (LoopW.by g (fun u : InI => u.p.length = u.j ∧ Ins lt s x u.p u.q)
          (fun u => [(0, .ref ⟨0, 13, 0⟩ 0 n n), (1, I 0), (2, I n), (3, .fn f [] [.ptr ⟨0, 3, 0⟩ 0 0]), (8, I i), (9, I u.j)])
          (fun u => [(⟨0, 3, 0⟩, .cells ty_Lpriority_Claim [.d a0]), (⟨0, 4, 0⟩, .row true ty_int 1 0 []), (⟨0, 13, 0⟩, .row true ty_int 1 n ((u.p ++ x :: (u.q ++ r)).map DI))])
          (fun u => u.j) (fun u hu jh => ?_) ⟨i, s, []⟩ ⟨h1, Ins.start s x⟩) rfl rfl
        obtain ⟨j, p, q⟩ := u
        obtain ⟨k1, k2⟩ := hu
        dsimp only at k1 k2 jh ⊢
        have hpq := k2.eq
        have hpl : p.length + q.length = s.length := by rw [← hpq, List.length_append]
        have out : (p = [] ∨ ∃ p' y, p = p' ++ [y] ∧ lt x y = false) → (p ++ x :: q).Pairwise (fun a b => lt a b = true) := fun he => k2.done t h2 hsm hx hxs he
        have hperm : (p ++ x :: q ++ r).Perm (idL n) := by
          refine List.Perm.trans ?_ h3
          rw [← hpq]
          simp only [List.append_assoc, List.cons_append]
          exact List.Perm.append_left p List.perm_middle.symm
        have ih := ih ⟨i + 1, p ++ x :: q, r⟩
        dsimp only at ih
        rcases List.eq_nil_or_concat p with rfl | ⟨p', y, rfl⟩
        · have ih := ih ⟨by simp at hpl ⊢; omega, out (.inl rfl), hperm⟩ (by omega)
          have hj0 : j = 0 := k1.symm
          subst hj0
          repeat' ((conv => whnf); first
          | refine Br.tt ?_ | refine Br.ff ?_ | refine Need.w ?_ | refine Wr.w ?_ | refine Cmp.t ?_ | refine Cmp.f ?_ | refine Rem.w ?_ | refine Quo.w ?_ | refine PickV.now rfl ?_ | refine Pick.now rfl ?_ | refine Chk.mk rfl ?_ | refine PickW.w rfl ?_
            | (refine LoopW.to ih rfl rfl))
        · rw [List.concat_eq_append] at *
          obtain ⟨j, rfl⟩ : ∃ m, j = m + 1 := ⟨j - 1, by simp at k1; omega⟩
          have k3 : p'.length = j := by simpa using k1
          have hy : y ∈ idL n := hsm y (by rw [← hpq]; simp)
          have jh := jh ⟨j, p', y :: q⟩ 
          dsimp only at jh
          obtain ⟨L, hL⟩ : ∃ L, L = (p' ++ [y]) ++ x :: (q ++ r) := ⟨_, rfl⟩
          have hll : L.length = n := by
            rw [hL]
            simp only [List.length_append, List.length_cons, List.length_nil] at hpl hlen ⊢
            omega
          have g1 := get_at (l := L) (p := p' ++ [y]) (x := x) (r := q ++ r) (k := j + 1) hL (by simp [k3]) (by omega)
          have g2 := get_at (l := L) (p := p') (x := y) (r := x :: (q ++ r)) (k := j) (by rw [hL]; simp) (by simp [k3]) (by omega)
          have hsw := swap_row p' (q ++ r) x y (i := (0 + ((j + 1 : Nat) : Int).toNat) * 1) (j := (0 + (((j + 1 : Nat) : Int) - 1).toNat) * 1) (by omega) (by omega)
          rw [show p' ++ y :: x :: (q ++ r) = L by rw [hL]; simp] at hsw
          rw [← hL]
          by_cases hc0 : lt x y = true
          · have jh := jh ⟨k3, k2.step hc0⟩ (by omega)
            have e1 : ((j + 1 : Nat) : Int) - 1 = (j : Int) := by omega
            repeat' ((conv => whnf); first
            | refine Br.tt ?_ | refine Br.ff ?_ | refine Need.w ?_ | refine Wr.w ?_ | refine Cmp.t ?_ | refine Cmp.f ?_ | refine Rem.w ?_ | refine Quo.w ?_ | refine PickV.now rfl ?_ | refine Pick.now rfl ?_ | refine Chk.mk rfl ?_ | refine PickW.w rfl ?_
              | (refine Pick.intI0 (j + 1) rfl (by omega) ?_; rw [g1])
              | (refine Pick.intI0 j (by omega) (by omega) ?_; rw [g2])
              | (refine hcmp x y L hx hy (fun c hc => ?_))
              | (refine Cmp.tt (hc.2 hc0) ?_)
              | (refine Need.mk ⟨rfl, by rw [patch_len _ _ _ (by omega)]; omega, rfl⟩ ?_)
              | (refine LoopW.to jh (by first | (rw [e1]; done) | (rw [e1]; rfl)) ?_))
            rw [hsw]
            rfl
          · have hcf : lt x y = false := by simpa using hc0
            have ih := ih ⟨by simp only [List.length_append, List.length_cons, List.length_nil] at hpl ⊢; omega, out (.inr ⟨p', y, rfl, hcf⟩), hperm⟩ (by omega)
            rw [show (p' ++ [y]) ++ x :: q ++ r = L by rw [hL]; simp] at ih
            repeat' ((conv => whnf); first
            | refine Br.tt ?_ | refine Br.ff ?_ | refine Need.w ?_ | refine Wr.w ?_ | refine Cmp.t ?_ | refine Cmp.f ?_ | refine Rem.w ?_ | refine Quo.w ?_ | refine PickV.now rfl ?_ | refine Pick.now rfl ?_ | refine Chk.mk rfl ?_ | refine PickW.w rfl ?_
              | (refine Pick.intI0 (j + 1) rfl (by omega) ?_; rw [g1])
              | (refine Pick.intI0 j (by omega) (by omega) ?_; rw [g2])
              | (refine hcmp x y L hx hy (fun c hc => ?_))
              | (refine Cmp.ff (fun h => hc0 (hc.1 h)) ?_)
              | (refine LoopW.to ih rfl rfl))
    · have hr : r = [] := List.length_eq_zero_iff.1 (by omega)
      subst hr
      rw [List.append_nil] at *
      have hs := hK s ⟨h3, h2⟩
      repeat' ((conv => whnf); first
      | refine Br.tt ?_ | refine Br.ff ?_ | refine Need.w ?_ | refine Wr.w ?_ | refine Cmp.t ?_ | refine Cmp.f ?_ | refine Rem.w ?_ | refine Quo.w ?_ | refine PickV.now rfl ?_ | refine Pick.now rfl ?_ | refine Chk.mk rfl ?_ | refine PickW.w rfl ?_
        | (exact hs))
theorem in_sortL {n : Nat} {lt : Int → Int → Bool} (t : Tot n lt) (hn : n ≤ 12) (f : Nat) (a0 : D) (hcmp : ∀ (x y : Int) (l : List Int) {K : V → Mem → Prop}, x ∈ idL n → y ∈ idL n → (∀ c : Int, (c < 0 ↔ lt x y = true) → K (I c) [(⟨0, 3, 0⟩, .cells ty_Lpriority_Claim [.d a0]), (⟨0, 4, 0⟩, .row true ty_int 1 0 []), (⟨0, 13, 0⟩, .row true ty_int 1 n (l.map DI))]) → In E 4 f [I x, I y, .ptr ⟨0, 3, 0⟩ 0 0] [(⟨0, 3, 0⟩, .cells ty_Lpriority_Claim [.d a0]), (⟨0, 4, 0⟩, .row true ty_int 1 0 []), (⟨0, 13, 0⟩, .row true ty_int 1 n (l.map DI))] K) {K : V → Mem → Prop} (hK : ∀ l, Srt n lt l → K (.tup []) [(⟨0, 3, 0⟩, .cells ty_Lpriority_Claim [.d a0]), (⟨0, 4, 0⟩, .row true ty_int 1 0 []), (⟨0, 13, 0⟩, .row true ty_int 1 n (l.map DI))]) :
    In E 1 n_slices_SortFunc_Lint_int [.ref ⟨0, 13, 0⟩ 0 n n, .fn f [] [.ptr ⟨0, 3, 0⟩ 0 0]] [(⟨0, 3, 0⟩, .cells ty_Lpriority_Claim [.d a0]), (⟨0, 4, 0⟩, .row true ty_int 1 0 []), (⟨0, 13, 0⟩, .row true ty_int 1 n ((idL n).map DI))] K := by
  obtain ⟨b, hb⟩ := s_Len g n hn
  refine In.enter g.lim rfl code_slices_SortFunc_Lint_int ?_
  repeat' ((conv => whnf); first
  | refine Br.tt ?_ | refine Br.ff ?_ | refine Need.w ?_ | refine Wr.w ?_ | refine Cmp.t ?_ | refine Cmp.f ?_ | refine Rem.w ?_ | refine Quo.w ?_ | refine PickV.now rfl ?_ | refine Pick.now rfl ?_ | refine Chk.mk rfl ?_ | refine PickW.w rfl ?_
    | (apply CallI.of; assumption)
    | (refine Wr.u64 ?_)
    | (refine In.enter g.lim rfl code_slices_pdqsortCmpFunc_int ?_)
    | (refine LoopW.step g.lim ?_)
    | (refine in_insL g t hn f a0 hcmp (fun l hl => ?_))
    | (exact hK _ (by assumption)))
set_option maxHeartbeats 16000000 in
theorem in_insR {n : Nat} {lt : Int → Int → Bool} (t : Tot n lt) (hn : n ≤ 12) (f : Nat) (a0 a1 a2 a3 a4 a5 : D) (hcmp : ∀ (x y : Int) (l : List Int) {K : V → Mem → Prop}, x ∈ idL n → y ∈ idL n → (∀ c : Int, (c < 0 ↔ lt x y = true) → K (I c) [(⟨0, 1, 0⟩, .cells ty_priority_ranking [.d a0, .d a1, .d a2, .d a3, .d a4, .d a5]), (⟨0, 2, 0⟩, .row true ty_int 1 0 []), (⟨0, 14, 0⟩, .row true ty_int 1 n (l.map DI))]) → In E 4 f [I x, I y, .ptr ⟨0, 1, 0⟩ 0 0] [(⟨0, 1, 0⟩, .cells ty_priority_ranking [.d a0, .d a1, .d a2, .d a3, .d a4, .d a5]), (⟨0, 2, 0⟩, .row true ty_int 1 0 []), (⟨0, 14, 0⟩, .row true ty_int 1 n (l.map DI))] K) {K : V → Mem → Prop} (hK : ∀ l, Srt n lt l → K (.tup []) [(⟨0, 1, 0⟩, .cells ty_priority_ranking [.d a0, .d a1, .d a2, .d a3, .d a4, .d a5]), (⟨0, 2, 0⟩, .row true ty_int 1 0 []), (⟨0, 14, 0⟩, .row true ty_int 1 n (l.map DI))]) :
    In E 3 n_slices_insertionSortCmpFunc_int [.ref ⟨0, 14, 0⟩ 0 n n, I 0, I n, .fn f [] [.ptr ⟨0, 1, 0⟩ 0 0]] [(⟨0, 1, 0⟩, .cells ty_priority_ranking [.d a0, .d a1, .d a2, .d a3, .d a4, .d a5]), (⟨0, 2, 0⟩, .row true ty_int 1 0 []), (⟨0, 14, 0⟩, .row true ty_int 1 n ((idL n).map DI))] K := by
  refine In.enter g.lim rfl code_slices_insertionSortCmpFunc_int ?_
  rcases Nat.eq_zero_or_pos n with h0 | h0
  · subst h0
    have hs := hK [] ⟨List.Perm.nil, .nil⟩
    repeat' ((conv => whnf); first
    | refine Br.tt ?_ | refine Br.ff ?_ | refine Need.w ?_ | refine Wr.w ?_ | refine Cmp.t ?_ | refine Cmp.f ?_ | refine Rem.w ?_ | refine Quo.w ?_ | refine PickV.now rfl ?_ | refine Pick.now rfl ?_ | refine Chk.mk rfl ?_ | refine PickW.w rfl ?_
      | (refine LoopW.step g.lim ?_)
      | (exact hs))
  · obtain ⟨x0, r0, hi⟩ : ∃ x r, idL n = x :: r := by
      cases h : idL n with
      | nil => have := idL_length n; rw [h] at this; simp at this; omega
      | cons x r => exact ⟨x, r, rfl⟩
    have hpm : (x0 :: r0).Perm (idL n) := by rw [hi]
    rw [hi]
    repeat' ((conv => whnf); first
    | refine Br.tt ?_ | refine Br.ff ?_ | refine Need.w ?_ | refine Wr.w ?_ | refine Cmp.t ?_ | refine Cmp.f ?_ | refine Rem.w ?_ | refine Quo.w ?_ | refine PickV.now rfl ?_ | refine Pick.now rfl ?_ | refine Chk.mk rfl ?_ | refine PickW.w rfl ?_)
    refine LoopW.to (LoopW.by g (fun s : InO => s.s.length = s.i ∧ s.s.Pairwise (fun a b => lt a b = true) ∧ (s.s ++ s.r).Perm (idL n))
      (fun s => [(0, .ref ⟨0, 14, 0⟩ 0 n n), (1, I 0), (2, I n), (3, .fn f [] [.ptr ⟨0, 1, 0⟩ 0 0]), (8, I s.i)])
      (fun s => [(⟨0, 1, 0⟩, .cells ty_priority_ranking [.d a0, .d a1, .d a2, .d a3, .d a4, .d a5]), (⟨0, 2, 0⟩, .row true ty_int 1 0 []), (⟨0, 14, 0⟩, .row true ty_int 1 n ((s.s ++ s.r).map DI))])
      (fun s => n - s.i) (fun s hs ih => ?_) ⟨1, [x0], r0⟩ ⟨rfl, List.pairwise_singleton .., hpm⟩) rfl rfl
    obtain ⟨i, s, r⟩ := s
    obtain ⟨h1, h2, h3⟩ := hs
    dsimp only at h1 h2 h3 ih ⊢
    have hlen := h3.length_eq
    rw [idL_length, List.length_append] at hlen
    by_cases hlt : i < n
    · cases r with
      | nil => simp at hlen; omega
      | cons x r =>
        have hx : x ∈ idL n := h3.mem_iff.1 (by simp)
        have hsm : ∀ y ∈ s, y ∈ idL n := fun y hy => h3.mem_iff.1 (by simp [hy])
        have hnd : (s ++ x :: r).Nodup := by
          rw [h3.nodup_iff]
          refine List.pairwise_iff_getElem.2 fun a b ha hb hab => ?_
          rw [idL_length] at ha hb
          have e1 := List.getElem?_eq_getElem (l := idL n) (i := a) (by rw [idL_length]; exact ha)
          have e2 := List.getElem?_eq_getElem (l := idL n) (i := b) (by rw [idL_length]; exact hb)
          rw [idL_get ha] at e1
          rw [idL_get hb] at e2
          rw [← Option.some.inj e1, ← Option.some.inj e2]
          omega
        have hxs : x ∉ s := fun hc => (List.nodup_append.1 hnd).2.2 x hc x (by simp) rfl
        rw [List.length_cons] at hlen
        repeat' ((conv => whnf); first
        | refine Br.tt ?_ | refine Br.ff ?_ | refine Need.w ?_ | refine Wr.w ?_ | refine Cmp.t ?_ | refine Cmp.f ?_ | refine Rem.w ?_ | refine Quo.w ?_ | refine PickV.now rfl ?_ | refine Pick.now rfl ?_ | refine Chk.mk rfl ?_ | refine PickW.w rfl ?_)
        refine LoopW.to (LoopW.by g (fun u : InI => u.p.length = u.j ∧ Ins lt s x u.p u.q)
          (fun u => [(0, .ref ⟨0, 14, 0⟩ 0 n n), (1, I 0), (2, I n), (3, .fn f [] [.ptr ⟨0, 1, 0⟩ 0 0]), (8, I i), (9, I u.j)])
          (fun u => [(⟨0, 1, 0⟩, .cells ty_priority_ranking [.d a0, .d a1, .d a2, .d a3, .d a4, .d a5]), (⟨0, 2, 0⟩, .row true ty_int 1 0 []), (⟨0, 14, 0⟩, .row true ty_int 1 n ((u.p ++ x :: (u.q ++ r)).map DI))])
          (fun u => u.j) (fun u hu jh => ?_) ⟨i, s, []⟩ ⟨h1, Ins.start s x⟩) rfl rfl
        obtain ⟨j, p, q⟩ := u
        obtain ⟨k1, k2⟩ := hu
        dsimp only at k1 k2 jh ⊢
        have hpq := k2.eq
        have hpl : p.length + q.length = s.length := by rw [← hpq, List.length_append]
        have out : (p = [] ∨ ∃ p' y, p = p' ++ [y] ∧ lt x y = false) → (p ++ x :: q).Pairwise (fun a b => lt a b = true) := fun he => k2.done t h2 hsm hx hxs he
        have hperm : (p ++ x :: q ++ r).Perm (idL n) := by
          refine List.Perm.trans ?_ h3
          rw [← hpq]
          simp only [List.append_assoc, List.cons_append]
          exact List.Perm.append_left p List.perm_middle.symm
        have ih := ih ⟨i + 1, p ++ x :: q, r⟩
        dsimp only at ih
        rcases List.eq_nil_or_concat p with rfl | ⟨p', y, rfl⟩
        · have ih := ih ⟨by simp at hpl ⊢; omega, out (.inl rfl), hperm⟩ (by omega)
          have hj0 : j = 0 := k1.symm
          subst hj0
          repeat' ((conv => whnf); first
          | refine Br.tt ?_ | refine Br.ff ?_ | refine Need.w ?_ | refine Wr.w ?_ | refine Cmp.t ?_ | refine Cmp.f ?_ | refine Rem.w ?_ | refine Quo.w ?_ | refine PickV.now rfl ?_ | refine Pick.now rfl ?_ | refine Chk.mk rfl ?_ | refine PickW.w rfl ?_
            | (refine LoopW.to ih rfl rfl))
        · rw [List.concat_eq_append] at *
          obtain ⟨j, rfl⟩ : ∃ m, j = m + 1 := ⟨j - 1, by simp at k1; omega⟩
          have k3 : p'.length = j := by simpa using k1
          have hy : y ∈ idL n := hsm y (by rw [← hpq]; simp)
          have jh := jh ⟨j, p', y :: q⟩ 
          dsimp only at jh
          obtain ⟨L, hL⟩ : ∃ L, L = (p' ++ [y]) ++ x :: (q ++ r) := ⟨_, rfl⟩
          have hll : L.length = n := by
            rw [hL]
            simp only [List.length_append, List.length_cons, List.length_nil] at hpl hlen ⊢
            omega
          have g1 := get_at (l := L) (p := p' ++ [y]) (x := x) (r := q ++ r) (k := j + 1) hL (by simp [k3]) (by omega)
          have g2 := get_at (l := L) (p := p') (x := y) (r := x :: (q ++ r)) (k := j) (by rw [hL]; simp) (by simp [k3]) (by omega)
          have hsw := swap_row p' (q ++ r) x y (i := (0 + ((j + 1 : Nat) : Int).toNat) * 1) (j := (0 + (((j + 1 : Nat) : Int) - 1).toNat) * 1) (by omega) (by omega)
          rw [show p' ++ y :: x :: (q ++ r) = L by rw [hL]; simp] at hsw
          rw [← hL]
          by_cases hc0 : lt x y = true
          · have jh := jh ⟨k3, k2.step hc0⟩ (by omega)
            have e1 : ((j + 1 : Nat) : Int) - 1 = (j : Int) := by omega
            repeat' ((conv => whnf); first
            | refine Br.tt ?_ | refine Br.ff ?_ | refine Need.w ?_ | refine Wr.w ?_ | refine Cmp.t ?_ | refine Cmp.f ?_ | refine Rem.w ?_ | refine Quo.w ?_ | refine PickV.now rfl ?_ | refine Pick.now rfl ?_ | refine Chk.mk rfl ?_ | refine PickW.w rfl ?_
              | (refine Pick.intI0 (j + 1) rfl (by omega) ?_; rw [g1])
              | (refine Pick.intI0 j (by omega) (by omega) ?_; rw [g2])
              | (refine hcmp x y L hx hy (fun c hc => ?_))
              | (refine Cmp.tt (hc.2 hc0) ?_)
              | (refine Need.mk ⟨rfl, by rw [patch_len _ _ _ (by omega)]; omega, rfl⟩ ?_)
              | (refine LoopW.to jh (by first | (rw [e1]; done) | (rw [e1]; rfl)) ?_))
            rw [hsw]
            rfl
          · have hcf : lt x y = false := by simpa using hc0
            have ih := ih ⟨by simp only [List.length_append, List.length_cons, List.length_nil] at hpl ⊢; omega, out (.inr ⟨p', y, rfl, hcf⟩), hperm⟩ (by omega)
            rw [show (p' ++ [y]) ++ x :: q ++ r = L by rw [hL]; simp] at ih
            repeat' ((conv => whnf); first
            | refine Br.tt ?_ | refine Br.ff ?_ | refine Need.w ?_ | refine Wr.w ?_ | refine Cmp.t ?_ | refine Cmp.f ?_ | refine Rem.w ?_ | refine Quo.w ?_ | refine PickV.now rfl ?_ | refine Pick.now rfl ?_ | refine Chk.mk rfl ?_ | refine PickW.w rfl ?_
              | (refine Pick.intI0 (j + 1) rfl (by omega) ?_; rw [g1])
              | (refine Pick.intI0 j (by omega) (by omega) ?_; rw [g2])
              | (refine hcmp x y L hx hy (fun c hc => ?_))
              | (refine Cmp.ff (fun h => hc0 (hc.1 h)) ?_)
              | (refine LoopW.to ih rfl rfl))
    · have hr : r = [] := List.length_eq_zero_iff.1 (by omega)
      subst hr
      rw [List.append_nil] at *
      have hs := hK s ⟨h3, h2⟩
      repeat' ((conv => whnf); first
      | refine Br.tt ?_ | refine Br.ff ?_ | refine Need.w ?_ | refine Wr.w ?_ | refine Cmp.t ?_ | refine Cmp.f ?_ | refine Rem.w ?_ | refine Quo.w ?_ | refine PickV.now rfl ?_ | refine Pick.now rfl ?_ | refine Chk.mk rfl ?_ | refine PickW.w rfl ?_
        | (exact hs))
theorem in_sortR {n : Nat} {lt : Int → Int → Bool} (t : Tot n lt) (hn : n ≤ 12) (f : Nat) (a0 a1 a2 a3 a4 a5 : D) (hcmp : ∀ (x y : Int) (l : List Int) {K : V → Mem → Prop}, x ∈ idL n → y ∈ idL n → (∀ c : Int, (c < 0 ↔ lt x y = true) → K (I c) [(⟨0, 1, 0⟩, .cells ty_priority_ranking [.d a0, .d a1, .d a2, .d a3, .d a4, .d a5]), (⟨0, 2, 0⟩, .row true ty_int 1 0 []), (⟨0, 14, 0⟩, .row true ty_int 1 n (l.map DI))]) → In E 4 f [I x, I y, .ptr ⟨0, 1, 0⟩ 0 0] [(⟨0, 1, 0⟩, .cells ty_priority_ranking [.d a0, .d a1, .d a2, .d a3, .d a4, .d a5]), (⟨0, 2, 0⟩, .row true ty_int 1 0 []), (⟨0, 14, 0⟩, .row true ty_int 1 n (l.map DI))] K) {K : V → Mem → Prop} (hK : ∀ l, Srt n lt l → K (.tup []) [(⟨0, 1, 0⟩, .cells ty_priority_ranking [.d a0, .d a1, .d a2, .d a3, .d a4, .d a5]), (⟨0, 2, 0⟩, .row true ty_int 1 0 []), (⟨0, 14, 0⟩, .row true ty_int 1 n (l.map DI))]) :
    In E 1 n_slices_SortFunc_Lint_int [.ref ⟨0, 14, 0⟩ 0 n n, .fn f [] [.ptr ⟨0, 1, 0⟩ 0 0]] [(⟨0, 1, 0⟩, .cells ty_priority_ranking [.d a0, .d a1, .d a2, .d a3, .d a4, .d a5]), (⟨0, 2, 0⟩, .row true ty_int 1 0 []), (⟨0, 14, 0⟩, .row true ty_int 1 n ((idL n).map DI))] K := by
  obtain ⟨b, hb⟩ := s_Len g n hn
  refine In.enter g.lim rfl code_slices_SortFunc_Lint_int ?_
  repeat' ((conv => whnf); first
  | refine Br.tt ?_ | refine Br.ff ?_ | refine Need.w ?_ | refine Wr.w ?_ | refine Cmp.t ?_ | refine Cmp.f ?_ | refine Rem.w ?_ | refine Quo.w ?_ | refine PickV.now rfl ?_ | refine Pick.now rfl ?_ | refine Chk.mk rfl ?_ | refine PickW.w rfl ?_
    | (apply CallI.of; assumption)
    | (refine Wr.u64 ?_)
    | (refine In.enter g.lim rfl code_slices_pdqsortCmpFunc_int ?_)
    | (refine LoopW.step g.lim ?_)
    | (refine in_insR g t hn f a0 a1 a2 a3 a4 a5 hcmp (fun l hl => ?_))
    | (exact hK _ (by assumption)))
end
end Go.Proofs.YtcephlgejkngiaaGreatDoor.Co
